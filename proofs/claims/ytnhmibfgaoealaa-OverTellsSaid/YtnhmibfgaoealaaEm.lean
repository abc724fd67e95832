/-
  Laws of layer 16.
-/
import Derived.Test.YtnhmibfgaoealaaEl
namespace Go.Proofs.Ytnhmibfgaoealaa
open Go.RowKit BigFrame
set_option linter.unusedVariables false
set_option linter.unusedSimpArgs false

set_option maxRecDepth 100000 in
set_option maxHeartbeats 1000000 in
theorem rOverNo (cs : List Value) (hcs : cs.length = 23) (l : List Sp.S) (A : Option Addr) (c : Nat) (n : Int) (w : World) (kC : ∀ W, Ext w W → Calls Try.prog 87 #[.agg cs.toArray] W (RetB W false)) :
    Calls Try.prog 63 #[.agg cs.toArray, .slice A l.length c, .int .i64 n] w fun e w' => e = .returned (.agg #[.slice none 0 0, .slice none 0 0, .slice none 0 0]) ∧ Ext w w' := by
  have hi := Lib.hid (su_size hcs)
  have hs0 := (Bx.new w cs 35).alloc (.cells #[.slice none 0 0, .slice none 0 0, .slice none 0 0] 66)
  have h60 := Bx.new_at (w.alloc (.cells cs.toArray 35)) [.slice none 0 0, .slice none 0 0, .slice none 0 0] 66 (w.heap.size + 1) (by simp)
  have X0 := ((Ext.refl w).alloc (.cells cs.toArray 35)).alloc (.cells #[.slice none 0 0, .slice none 0 0, .slice none 0 0] 66)
  replace kC := Lib.hid kC; replace h60 := Lib.hid h60
  clear hcs
  go_enter Try.func63, Try.ntmps63
  go_wp2_with (first | (refine load_box rfl 35 _ rfl _ rfl _ _ hs0 _ Try.underlying35 rfl hi.out ?_))
  refine (kC.out _ X0).mono ?_
  rintro _ w1 ⟨rfl, x1⟩
  have h6 := Lib.hid (h60.out.ext x1)
  have X1 := X0.trans x1
  have f0 := h6.out.cell 0 _ rfl; have f1 := h6.out.cell 1 _ rfl; have f2 := h6.out.cell 2 _ rfl
  have g0 := h6.out.frozen 0; have g1 := h6.out.frozen 1; have g2 := h6.out.frozen 2
  have hB := Lib.hid (((h6.out.set_ 0 (.slice none 0 0)).set_ 1 (.slice none 0 0)).set_ 2 (.slice none 0 0))
  have XE := Lib.hid (((X1.setCell (p := ⟨w.heap.size + 1, 0, none⟩) (by show w.heap.size ≤ w.heap.size + 1; omega) (.slice none 0 0)).setCell (p := ⟨w.heap.size + 1, 1, none⟩) (by show w.heap.size ≤ w.heap.size + 1; omega) (.slice none 0 0)).setCell (p := ⟨w.heap.size + 1, 2, none⟩) (by show w.heap.size ≤ w.heap.size + 1; omega) (.slice none 0 0))
  clear hs0 h60 X0 x1 X1 h6 hi kC
  go_wp2
  refine bodyPost_ret (results_row rfl _ _ (w.heap.size + 1) [.slice none 0 0, .slice none 0 0, .slice none 0 0] rfl hB.out rfl) rfl ?_
  exact ⟨rfl, XE.out⟩
theorem pROver {s : Su} {g : Sh} (ok : SuOk s) {w : World} (r : SuR w s g) {A : Option Addr} {l : List Sp.S} (h : Rs w A l) (hl : l.length ≤ 60) (c : Nat) (n : Int) :
    Calls Try.prog 63 #[.agg (s.cells g).toArray, .slice A l.length c, .int .i64 n] w (fun e w' => ∃ A1 c1 A2 c2 A3 c3, e = .returned (.agg #[.slice A1 (oR s l n).length c1, .slice A2 (oO s l n).length c2, .slice A3 (oD s l n).length c3]) ∧ (Rs w' A1 (oR s l n) ∧ Rs w' A2 (oO s l n) ∧ Rs w' A3 (oD s l n)) ∧ Ext w w') := by
  have kC : ∀ W, Ext w W → Calls Try.prog 87 #[.agg (s.cells g).toArray] W (RetB W (chk s)) := fun W X => pRChk ok (r.ext X)
  cases hc : chk s
  · rw [hc] at kC
    rw [(o_no hc l n).1, (o_no hc l n).2.1, (o_no hc l n).2.2]
    refine (rOverNo (s.cells g) rfl l A c n w kC).mono ?_
    rintro _ w' ⟨rfl, X⟩
    exact ⟨none, 0, none, 0, none, 0, rfl, ⟨Rs.nil, Rs.nil, Rs.nil⟩, X⟩
  · rw [hc] at kC
    have hb := chk_times hc
    have e := o_yes hc l n
    have k := rOverA (s.cells g) rfl s.dreg s.dover s.wreg rfl rfl rfl (by omega) (by omega) ok.wreg l hl A c n w h kC
    rw [ref_reg, ref_over _ _ (show s.dreg ≤ s.dover by omega), ref_double] at k
    rw [e.1, e.2.1, e.2.2]
    exact k

set_option maxRecDepth 100000 in
set_option maxHeartbeats 2000000 in
theorem overTells0 (cs : List Value) (hcs : cs.length = 23) (l : List Sp.S) (A : Option Addr) (c : Nat) (n : Int) (p : Prop) (a b d : List Sp.S) (w : World) (h : Rs w A l) (kF : ∀ W, Ext w W → ∀ A c, Rs W A l → Calls Try.prog 61 #[.agg cs.toArray, .slice A l.length c] W (RetP W p)) (kO : p → ∀ W, Ext w W → ∀ A c, Rs W A l → Calls Try.prog 62 #[.agg cs.toArray, .slice A l.length c, .int .i64 n] W (Ret3S W a b d)) (kR : p → ∀ W, Ext w W → ∀ A c, Rs W A l → Calls Try.prog 63 #[.agg cs.toArray, .slice A l.length c, .int .i64 n] W (fun e w' => ∃ A1 c1 A2 c2 A3 c3, e = .returned (.agg #[.slice A1 a.length c1, .slice A2 b.length c2, .slice A3 d.length c3]) ∧ (Rs w' A1 a ∧ Rs w' A2 b ∧ Rs w' A3 d) ∧ Ext W w')) (bl : p → a.length ≤ 30000 ∧ b.length ≤ 60000 ∧ d.length ≤ 30000) :
    Calls Try.prog 18 #[.agg cs.toArray, .slice A l.length c, .int .i64 n] w (RetB w true) := by
  replace kF := Lib.hid kF
  replace kO := Lib.hid kO
  replace kR := Lib.hid kR
  replace h := Lib.hid h
  replace bl := Lib.hid bl
  have hi := Lib.hid (su_size hcs)
  clear hcs
  have hs0 := Bx.new w cs 35
  have X0 := (Ext.refl w).alloc (.cells cs.toArray 35)
  have hl0 := h.out.alloc (.cells cs.toArray 35)
  go_enter Try.func18, Try.ntmps18
  go_wp2_with fail
  refine (awake16 _).mono ?_
  rintro e w1 ⟨rfl, x1⟩
  have hs1 := hs0.ext x1; clear hs0
  have hl1 := hl0.ext x1; clear hl0
  have X1 := X0.trans x1
  go_wp2_with (first | (refine load_box rfl 35 _ rfl _ rfl _ _ hs1 _ Try.underlying35 rfl hi.out ?_))
  refine (kF.out _ X1 _ _ hl1).mono ?_
  rintro e w2 ⟨⟨b, rfl, hb⟩, x2⟩
  have hs2 := hs1.ext x2; clear hs1
  have hl2 := hl1.ext x2; clear hl1
  have X2 := X1.trans x2
  cases b
  · clear hb
    go_wp2
    go_ret
    exact ⟨rfl, X2⟩
  · have hp := hb rfl
    clear hb
    go_wp2_with (first | (refine load_box rfl 35 _ rfl _ rfl _ _ hs2 _ Try.underlying35 rfl hi.out ?_))
    refine (kO.out hp _ X2 _ _ hl2).mono ?_
    rintro e w3 ⟨A3, cap3, B3, dap3, C3, eap3, rfl, ⟨r3, t3, u3⟩, x3⟩
    have hs3 := hs2.ext x3; clear hs2
    have hl3 := hl2.ext x3; clear hl2
    have X3 := X2.trans x3
    go_wp2_with (first | (refine load_box rfl 35 _ rfl _ rfl _ _ hs3 _ Try.underlying35 rfl hi.out ?_))
    obtain ⟨la, lb, ld⟩ := bl.out hp
    refine (kR.out hp _ X3 _ _ hl3).mono ?_
    rintro e w4 ⟨A4, cap4, B4, dap4, C4, eap4, rfl, ⟨r4, t4, u4⟩, x4⟩
    have hs4 := hs3.ext x4; clear hs3
    have hl4 := hl3.ext x4; clear hl3
    have ha4 := r3.ext x4
    have hb4 := t3.ext x4
    have hd4 := u3.ext x4
    have X4 := X3.trans x4
    have hB0 := Bx.new w4 [.slice A4 a.length cap4, .slice B4 b.length dap4, .slice C4 d.length eap4] 66
    go_wp2_with fail
    refine (bEq (cSame (ha4.alloc _) (r4.alloc _) (by omega) _ _) (b' := true) (decide_eq_true rfl)).mono ?_
    rintro e w5 ⟨rfl, x5⟩
    have hs5 := (hs4.alloc _).ext x5
    have hl5 := (hl4.alloc _).ext x5
    have ha5 := (ha4.alloc _).ext x5
    have hb5 := (hb4.alloc _).ext x5
    have hd5 := (hd4.alloc _).ext x5
    have hp5 := (r4.alloc _).ext x5
    have hq5 := (t4.alloc _).ext x5
    have hr5 := (u4.alloc _).ext x5
    have X5 := (X4.alloc _).trans x5
    have hB5 := hB0.ext x5
    have zz1 := hB5.cell 1 _ rfl
    go_wp2_with fail
    refine (bEq (cSame hb5 hq5 (by omega) _ _) (b' := true) (decide_eq_true rfl)).mono ?_
    rintro e w6 ⟨rfl, x6⟩
    have hs6 := hs5.ext x6; clear hs5
    have hl6 := hl5.ext x6; clear hl5
    have ha6 := ha5.ext x6; clear ha5
    have hb6 := hb5.ext x6; clear hb5
    have hd6 := hd5.ext x6; clear hd5
    have hp6 := hp5.ext x6; clear hp5
    have hq6 := hq5.ext x6; clear hq5
    have hr6 := hr5.ext x6; clear hr5
    have hB6 := hB5.ext x6; clear hB5
    have X6 := X5.trans x6
    clear zz1
    have zz2 := hB6.cell 2 _ rfl
    go_wp2_with fail
    refine (bEq (cSame hd6 hr6 (by omega) _ _) (b' := true) (decide_eq_true rfl)).mono ?_
    rintro e w7 ⟨rfl, x7⟩
    have hs7 := hs6.ext x7; clear hs6
    have hl7 := hl6.ext x7; clear hl6
    have ha7 := ha6.ext x7; clear ha6
    have hb7 := hb6.ext x7; clear hb6
    have hd7 := hd6.ext x7; clear hd6
    have hp7 := hp6.ext x7; clear hp6
    have hq7 := hq6.ext x7; clear hq6
    have hr7 := hr6.ext x7; clear hr6
    have hB7 := hB6.ext x7; clear hB6
    have X7 := X6.trans x7
    clear zz2
    go_wp2
    go_ret
    exact ⟨rfl, X7⟩

theorem tells16 (s : Su) (g : Sh) (ok : SuOk s) (l : List Sp.S) (A : Option Addr) (c : Nat) (hl : l.length ≤ maxLen) (n : Int) (w : World) (r : SuR w s g) (h : Rs w A l) :
    Calls Try.prog 18 #[.agg (s.cells g).toArray, .slice A l.length c, .int .i64 n] w (RetB w true) := by
  have a1 : Few14 s l → l.length ≤ 30 := fun p => p.2.1
  have a3 : ∀ W, Ext w W → ∀ A c, Rs W A l → Calls Try.prog 61 #[.agg (s.cells g).toArray, .slice A l.length c] W (RetP W (Few14 s l)) := fun W X A c h => pFew16 s g h hl c
  have a4 : Few14 s l → ∀ W, Ext w W → ∀ A c, Rs W A l → Calls Try.prog 62 #[.agg (s.cells g).toArray, .slice A l.length c, .int .i64 n] W (Ret3S W (oR s l n) (oO s l n) (oD s l n)) := fun p W X A c h => pOver ok p.1 (r.ext X) h (by have := a1 p; omega) c n
  exact overTells0 (s.cells g) rfl l A c n _ (oR s l n) (oO s l n) (oD s l n) w h a3 a4 (fun p W X A c h => pROver ok (r.ext X) h (by have := a1 p; omega) c n) (fun p => o_lens s l n (by have := a1 p; omega))
end Go.Proofs.Ytnhmibfgaoealaa
