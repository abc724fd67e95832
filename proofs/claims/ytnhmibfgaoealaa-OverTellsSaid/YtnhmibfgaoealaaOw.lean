/-
  over.Of of a setup; awake of lumperlaw16.
  Laws of layer 16.
-/
import Derived.Test.YtnhmibfgaoealaaOz
import Derived.Test.YtnhmibfgaoealaaLb
namespace Go.Proofs.Ytnhmibfgaoealaa
open Go.RowKit
set_option linter.unusedVariables false
set_option linter.unusedSimpArgs false

set_option maxRecDepth 100000 in
set_option maxHeartbeats 1000000 in
theorem overNo (cs : List Value) (hcs : cs.length = 23) (l : List Sp.S) (A : Option Addr) (c : Nat) (n : Int) (w : World) (kC : ∀ W, Ext w W → Calls Try.prog 59 #[.agg cs.toArray] W (RetB W false)) :
    Calls Try.prog 62 #[.agg cs.toArray, .slice A l.length c, .int .i64 n] w (Ret3S w [] [] []) := by
  have hi := Lib.hid (su_size hcs)
  have hs0 := Bx.new w cs 35
  have X0 := (Ext.refl w).alloc (.cells cs.toArray 35)
  replace kC := Lib.hid kC
  clear hcs
  refine (callsIn_wide (n := 6)).1 ?_
  refine callsIn_of_wp_marks Try.func62 rfl trivial ?_ rfl
  refine wpIn_wide.2 ?_
  simp only [Try.ntmps62, List.size_toArray, List.length_cons, List.length_nil, Nat.reduceAdd, Nat.reduceSub, Array.replicate_succ, Array.replicate_zero, List.push_toArray, List.append_toArray, List.nil_append, List.cons_append]
  go_wp2_with (first | (refine load_box rfl 35 _ rfl _ rfl _ _ hs0 _ Try.underlying35 rfl hi.out ?_))
  refine (kC.out _ X0).mono ?_
  rintro e w1 ⟨rfl, x1⟩
  have X1 := X0.trans x1
  clear x1 X0 hs0 hi
  go_wp2
  exact ⟨_, results_tmp3 rfl _ _ _, none, 0, none, 0, none, 0, rfl, ⟨Rs.nil, Rs.nil, Rs.nil⟩, X1⟩

def oR (s : Su) (l : List Sp.S) (n : Int) : List Sp.S := if chk s = true then overR (partS l n 604800) s.dreg s.wreg else []
def oO (s : Su) (l : List Sp.S) (n : Int) : List Sp.S := if chk s = true then overO (partS l n 604800) s.dreg s.dover s.wreg else []
def oD (s : Su) (l : List Sp.S) (n : Int) : List Sp.S := if chk s = true then overD (partS l n 604800) s.dover else []
theorem o_yes {s : Su} (h : chk s = true) (l : List Sp.S) (n : Int) : oR s l n = overR (partS l n 604800) s.dreg s.wreg ∧ oO s l n = overO (partS l n 604800) s.dreg s.dover s.wreg ∧ oD s l n = overD (partS l n 604800) s.dover := ⟨if_pos h, if_pos h, if_pos h⟩
theorem o_no {s : Su} (h : chk s = false) (l : List Sp.S) (n : Int) : oR s l n = [] ∧ oO s l n = [] ∧ oD s l n = [] := by
  unfold oR oO oD
  rw [h]
  exact ⟨rfl, rfl, rfl⟩
theorem pOver {s : Su} {g : Sh} (ok : SuOk s) (fw : SuFew s) {w : World} (r : SuR w s g) {A : Option Addr} {l : List Sp.S} (h : Rs w A l) (hl : l.length ≤ 1000) (c : Nat) (n : Int) :
    Calls Try.prog 62 #[.agg (s.cells g).toArray, .slice A l.length c, .int .i64 n] w (Ret3S w (oR s l n) (oO s l n) (oD s l n)) := by
  have kC : ∀ W, Ext w W → Calls Try.prog 59 #[.agg (s.cells g).toArray] W (RetB W (chk s)) := fun W X => pCheck ok fw (r.ext X)
  cases hc : chk s
  · rw [hc] at kC
    rw [(o_no hc l n).1, (o_no hc l n).2.1, (o_no hc l n).2.2]
    exact overNo (s.cells g) rfl l A c n w kC
  · rw [hc] at kC
    rw [(o_yes hc l n).1, (o_yes hc l n).2.1, (o_yes hc l n).2.2]
    exact overA (s.cells g) rfl s.dreg s.dover s.wreg rfl rfl rfl ok.dreg ok.dover ok.wreg l A c n hl w h kC

def s16 : Su := { awS with dreg := 28800, dover := 43200, wreg := 40000 }
theorem ok16 : SuOk s16 := by
  have b : ∀ n : Int, 0 ≤ n ∧ n ≤ 1000000 → B64 n := fun _ h => b64_small h
  refine ⟨b _ ?_, b _ ?_, b _ ?_, b _ ?_, b _ ?_, b _ ?_, b _ ?_, b _ ?_, b _ ?_, b _ ?_, b _ ?_, b _ ?_, b _ ?_, b _ ?_, b _ ?_, ⟨b _ ?_, b _ ?_⟩, ⟨by decide, by simp [awS, s16]⟩, ⟨by decide, by simp [awS, s16]⟩, ⟨by decide, by simp [awS, s16]⟩, ⟨by decide, by simp [awS, s16]⟩, ⟨by decide, by simp [awS, s16]; exact b64_small (by omega)⟩, ⟨by decide, by simp [awS, s16]⟩⟩ <;> decide
theorem fw16 : SuFew s16 := by unfold SuFew; decide
def L16 : List Sp.S := [(0, 50000), (86400, 100000)]
theorem v16 : oR s16 L16 0 = [(0, 28800), (86400, 97600)] ∧ oO s16 L16 0 = [(28800, 43200), (97600, 100000)] ∧ oD s16 L16 0 = [(43200, 50000)] := by decide +kernel
theorem a16 {g : Nat} {w : World} {A : Option Addr} (r : SuR w s16 (awH g)) (h : Rs w A L16) : Calls Try.prog 62 #[.agg (s16.cells (awH g)).toArray, .slice A 2 2, .int .i64 0] w (Ret3S w [(0, 28800), (86400, 97600)] [(28800, 43200), (97600, 100000)] [(43200, 50000)]) := by
  have := pOver ok16 fw16 r h (by decide) 2 0
  rw [v16.1, v16.2.1, v16.2.2] at this
  exact this
theorem b16 {w : World} {A : Option Addr} {l : List Sp.S} (h : Rs w A l) (n : Nat) (hn : n = l.length) (hl : l.length ≤ 1000) (c : Nat) : Calls Try.prog 62 #[.agg (zS.cells zH).toArray, .slice A n c, .int .i64 0] w (Ret3S w [] [] []) := by
  subst hn
  have := pOver (g := zH) zOk zFew (zR w) h hl c 0
  have hz : chk zS = false := by decide
  rw [(o_no hz l 0).1, (o_no hz l 0).2.1, (o_no hz l 0).2.2] at this
  exact this

set_option maxRecDepth 100000 in
set_option maxHeartbeats 1000000 in
theorem awake16 (w : World) : Calls Try.prog 60 #[] w (RetB w true) := by
  have hu0 := (awR w s16 rfl rfl rfl rfl rfl rfl).alloc (.cells #[.int .i64 1, .slice none 0 0, .int .i64 1, .int .i64 1, .slice none 0 0, .slice none 0 0, .slice none 0 0, .int .i64 0, .int .i64 1, .int .i64 60, .int .i64 0, .int .i64 0, .int .i64 0, .int .i64 28800, .int .i64 43200, .int .i64 40000, .int .i64 0, .int .i64 0, .slice (some ⟨w.heap.size, 0, none⟩) 1 1, .int .i64 0, .int .i64 0, .int .i64 0, .slice none 0 0] 35)
  have hs0 := Bx.new_at (w.alloc (.cells #[.int .i64 1] 3)) [.int .i64 1, .slice none 0 0, .int .i64 1, .int .i64 1, .slice none 0 0, .slice none 0 0, .slice none 0 0, .int .i64 0, .int .i64 1, .int .i64 60, .int .i64 0, .int .i64 0, .int .i64 0, .int .i64 28800, .int .i64 43200, .int .i64 40000, .int .i64 0, .int .i64 0, .slice (some ⟨w.heap.size, 0, none⟩) 1 1, .int .i64 0, .int .i64 0, .int .i64 0, .slice none 0 0] 35 (w.heap.size + 1) (by simp)
  have X0 := ((Ext.refl w).alloc (.cells #[.int .i64 1] 3)).alloc (.cells #[.int .i64 1, .slice none 0 0, .int .i64 1, .int .i64 1, .slice none 0 0, .slice none 0 0, .slice none 0 0, .int .i64 0, .int .i64 1, .int .i64 60, .int .i64 0, .int .i64 0, .int .i64 0, .int .i64 28800, .int .i64 43200, .int .i64 40000, .int .i64 0, .int .i64 0, .slice (some ⟨w.heap.size, 0, none⟩) 1 1, .int .i64 0, .int .i64 0, .int .i64 0, .slice none 0 0] 35)
  have hL0 := Rs.new_g ((w.alloc (.cells #[.int .i64 1] 3)).alloc (.cells #[.int .i64 1, .slice none 0 0, .int .i64 1, .int .i64 1, .slice none 0 0, .slice none 0 0, .slice none 0 0, .int .i64 0, .int .i64 1, .int .i64 60, .int .i64 0, .int .i64 0, .int .i64 0, .int .i64 28800, .int .i64 43200, .int .i64 40000, .int .i64 0, .int .i64 0, .slice (some ⟨w.heap.size, 0, none⟩) 1 1, .int .i64 0, .int .i64 0, .int .i64 0, .slice none 0 0] 35)) L16 42 (w.heap.size + 2) (by simp)
  have hu1 := hu0.alloc (.cells (flat encS L16).toArray 42)
  have X1 := X0.alloc (.cells (flat encS L16).toArray 42)
  go_enter Try.func60, Try.ntmps60
  go_wp2_with (first | (refine build_at rfl 35 _ rfl #[.int .i64 1, .slice none 0 0, .int .i64 1, .int .i64 1, .slice none 0 0, .slice none 0 0, .slice none 0 0, .int .i64 0, .int .i64 1, .int .i64 60, .int .i64 0, .int .i64 0, .int .i64 0, .int .i64 28800, .int .i64 43200, .int .i64 40000, .int .i64 0, .int .i64 0, .slice (some ⟨w.heap.size, 0, none⟩) 1 1, .int .i64 0, .int .i64 0, .int .i64 0, .slice none 0 0] (by kernel_rfl) ?_) | (refine store_new rfl 35 _ _ rfl (w.alloc (.cells #[.int .i64 1] 3)) (w.heap.size + 1) (by simp) _ #[.int .i64 1, .slice none 0 0, .int .i64 1, .int .i64 1, .slice none 0 0, .slice none 0 0, .slice none 0 0, .int .i64 0, .int .i64 1, .int .i64 60, .int .i64 0, .int .i64 0, .int .i64 0, .int .i64 28800, .int .i64 43200, .int .i64 40000, .int .i64 0, .int .i64 0, .slice (some ⟨w.heap.size, 0, none⟩) 1 1, .int .i64 0, .int .i64 0, .int .i64 0, .slice none 0 0] 35 rfl rfl rfl su_size0 rfl (by simp [Value.oneCell']) ?_) | (refine load_box rfl 35 _ rfl _ rfl _ _ hs0 _ Try.underlying35 rfl su_size0 ?_))
  refine (a16 hu1 hL0).mono ?_
  rintro e w2 ⟨A2, cap2, B2, dap2, C2, eap2, rfl, ⟨r2, t2, u2⟩, x2⟩
  have X2 := X1.trans x2
  go_wp2_with fail
  refine (b16 r2 _ rfl (by decide) _).mono ?_
  rintro e w3 ⟨A3, cap3, B3, dap3, C3, eap3, rfl, ⟨r3, t3, u3⟩, x3⟩
  have ha3 := r2.ext x3
  have hb3 := t2.ext x3
  have hc3 := u2.ext x3
  have X3 := X2.trans x3
  go_wp2_with fail
  refine (bEq (cSame (ha3.alloc _) (Rs.new_g _ [(0, 28800), (86400, 97600)] _ _ (by simp)) (by decide) _ _) (b' := true) (decide_eq_true rfl)).mono ?_
  rintro e w4 ⟨rfl, x4⟩
  have ha4 := (ha3.alloc _).ext x4
  have hb4 := (hb3.alloc _).ext x4
  have hc4 := (hc3.alloc _).ext x4
  have X4 := (X3.alloc _).trans x4
  go_wp2_with fail
  refine (bEq (cSame (hb4.alloc _) (Rs.new_g _ [(28800, 43200), (97600, 100000)] _ _ (by simp)) (by decide) _ _) (b' := true) (decide_eq_true rfl)).mono ?_
  rintro e w5 ⟨rfl, x5⟩
  have ha5 := (ha4.alloc _).ext x5
  have hb5 := (hb4.alloc _).ext x5
  have hc5 := (hc4.alloc _).ext x5
  have X5 := (X4.alloc _).trans x5
  go_wp2_with fail
  refine (bEq (cSame (hc5.alloc _) (Rs.new_g _ [(43200, 50000)] _ _ (by simp)) (by decide) _ _) (b' := true) (decide_eq_true rfl)).mono ?_
  rintro e w6 ⟨rfl, x6⟩
  have ha6 := (ha5.alloc _).ext x6
  have hb6 := (hb5.alloc _).ext x6
  have hc6 := (hc5.alloc _).ext x6
  have X6 := (X5.alloc _).trans x6
  go_wp2
  go_ret
  exact ⟨rfl, X6⟩

end Go.Proofs.Ytnhmibfgaoealaa
namespace Go.Proofs.Ytnhmibfgaoealaa
open Go.RowKit
set_option linter.unusedVariables false
set_option linter.unusedSimpArgs false

theorem cSizeN {w : World} {A : Option Addr} {l : List Sp.S} (h : Rs w A l) (hl : l.length ≤ 900000) (n : Nat) (hn : l.length = n) (cap : Nat) : Calls Try.prog 47 #[.slice A n cap] w (RetI w (Sp.size l)) := by subst hn; exact cSize h hl cap

set_option maxRecDepth 100000 in
set_option maxHeartbeats 2000000 in
theorem overMakes0 (cs : List Value) (hcs : cs.length = 23) (l : List Sp.S) (A : Option Addr) (c : Nat) (n : Int) (p : Prop) (a b d : List Sp.S) (w : World) (h : Rs w A l) (kF : ∀ W, Ext w W → ∀ A c, Rs W A l → Calls Try.prog 61 #[.agg cs.toArray, .slice A l.length c] W (RetP W p)) (kO : p → ∀ W, Ext w W → ∀ A c, Rs W A l → Calls Try.prog 62 #[.agg cs.toArray, .slice A l.length c, .int .i64 n] W (Ret3S W [] [] [])) (kC : p → ∀ W, Ext w W → Calls Try.prog 59 #[.agg cs.toArray] W (RetB W false)) :
    Calls Try.prog 20 #[.agg cs.toArray, .slice A l.length c, .int .i64 n] w (RetB w true) := by
  replace kF := Lib.hid kF
  replace kC := Lib.hid kC
  replace kO := Lib.hid kO
  replace h := Lib.hid h
  have hi := Lib.hid (su_size hcs)
  clear hcs
  have hs0 := Bx.new w cs 35
  have X0 := (Ext.refl w).alloc (.cells cs.toArray 35)
  have hl0 := h.out.alloc (.cells cs.toArray 35)
  go_enter Try.func20, Try.ntmps20
  go_wp2_with fail
  refine (awake16 _).mono ?_
  rintro e w1 ⟨rfl, x1⟩
  have hs1 := hs0.ext x1; clear hs0
  have hl1 := hl0.ext x1; clear hl0
  have X1 := X0.trans x1
  go_wp2_with (first | (refine load_box rfl 35 _ rfl _ rfl _ _ hs1 _ Try.underlying35 rfl hi.out ?_))
  refine (kF.out _ X1 _ _ hl1).mono ?_
  rintro e w2 ⟨⟨b, rfl, hb⟩, x2⟩
  have hs2 := hs1.ext x2; clear hs1
  have hl2 := hl1.ext x2; clear hl1
  have X2 := X1.trans x2
  cases b
  · clear hb
    go_wp2
    go_ret
    exact ⟨rfl, X2⟩
  · have hp := hb rfl
    clear hb
    go_wp2_with (first | (refine load_box rfl 35 _ rfl _ rfl _ _ hs2 _ Try.underlying35 rfl hi.out ?_))
    refine (kO.out hp _ X2 _ _ hl2).mono ?_
    rintro e w3 ⟨A3, cap3, B3, dap3, C3, eap3, rfl, ⟨r3, t3, u3⟩, x3⟩
    have hs3 := hs2.ext x3; clear hs2
    have hl3 := hl2.ext x3; clear hl2
    have X3 := X2.trans x3
    go_wp2_with (first | (refine load_box rfl 35 _ rfl _ rfl _ _ hs3 _ Try.underlying35 rfl hi.out ?_))
    refine (kC.out hp _ X3).mono ?_
    rintro e w4 ⟨rfl, x4⟩
    have hs4 := hs3.ext x4; clear hs3
    have hl4 := hl3.ext x4; clear hl3
    have ha4 := r3.ext x4
    have hb4 := t3.ext x4
    have hd4 := u3.ext x4
    have X4 := X3.trans x4
    go_wp2
    go_ret
    exact ⟨rfl, X4⟩

set_option maxRecDepth 100000 in
set_option maxHeartbeats 2000000 in
theorem overMakes1 (cs : List Value) (hcs : cs.length = 23) (l : List Sp.S) (A : Option Addr) (c : Nat) (n : Int) (p : Prop) (a b d : List Sp.S) (w : World) (h : Rs w A l) (kF : ∀ W, Ext w W → ∀ A c, Rs W A l → Calls Try.prog 61 #[.agg cs.toArray, .slice A l.length c] W (RetP W p)) (kO : p → ∀ W, Ext w W → ∀ A c, Rs W A l → Calls Try.prog 62 #[.agg cs.toArray, .slice A l.length c, .int .i64 n] W (Ret3S W a b d)) (kC : p → ∀ W, Ext w W → Calls Try.prog 59 #[.agg cs.toArray] W (RetB W true)) (h30 : p → l.length ≤ 30) (bl : p → a.length ≤ 30000 ∧ b.length ≤ 60000 ∧ d.length ≤ 30000) (e1 : Sp.norm (a ++ b ++ d) = partS l n 604800) (e2 : Sp.size (a ++ b ++ d) = Sp.size a + Sp.size b + Sp.size d) (e3 : Sp.and_ a b = []) :
    Calls Try.prog 20 #[.agg cs.toArray, .slice A l.length c, .int .i64 n] w (RetB w true) := by
  replace kF := Lib.hid kF
  replace kC := Lib.hid kC
  replace kO := Lib.hid kO
  replace h := Lib.hid h
  replace h30 := Lib.hid h30
  replace e1 := Lib.hid e1
  replace e2 := Lib.hid e2
  replace e3 := Lib.hid e3
  replace bl := Lib.hid bl
  have hi := Lib.hid (su_size hcs)
  clear hcs
  have hs0 := Bx.new w cs 35
  have X0 := (Ext.refl w).alloc (.cells cs.toArray 35)
  have hl0 := h.out.alloc (.cells cs.toArray 35)
  go_enter Try.func20, Try.ntmps20
  go_wp2_with fail
  refine (awake16 _).mono ?_
  rintro e w1 ⟨rfl, x1⟩
  have hs1 := hs0.ext x1; clear hs0
  have hl1 := hl0.ext x1; clear hl0
  have X1 := X0.trans x1
  go_wp2_with (first | (refine load_box rfl 35 _ rfl _ rfl _ _ hs1 _ Try.underlying35 rfl hi.out ?_))
  refine (kF.out _ X1 _ _ hl1).mono ?_
  rintro e w2 ⟨⟨b, rfl, hb⟩, x2⟩
  have hs2 := hs1.ext x2; clear hs1
  have hl2 := hl1.ext x2; clear hl1
  have X2 := X1.trans x2
  cases b
  · clear hb
    go_wp2
    go_ret
    exact ⟨rfl, X2⟩
  · have hp := hb rfl
    clear hb
    go_wp2_with (first | (refine load_box rfl 35 _ rfl _ rfl _ _ hs2 _ Try.underlying35 rfl hi.out ?_))
    refine (kO.out hp _ X2 _ _ hl2).mono ?_
    rintro e w3 ⟨A3, cap3, B3, dap3, C3, eap3, rfl, ⟨r3, t3, u3⟩, x3⟩
    have hs3 := hs2.ext x3; clear hs2
    have hl3 := hl2.ext x3; clear hl2
    have X3 := X2.trans x3
    go_wp2_with (first | (refine load_box rfl 35 _ rfl _ rfl _ _ hs3 _ Try.underlying35 rfl hi.out ?_))
    refine (kC.out hp _ X3).mono ?_
    rintro e w4 ⟨rfl, x4⟩
    have hs4 := hs3.ext x4; clear hs3
    have hl4 := hl3.ext x4; clear hl3
    have ha4 := r3.ext x4
    have hb4 := t3.ext x4
    have hd4 := u3.ext x4
    have X4 := X3.trans x4
    obtain ⟨la, lb, ld⟩ := bl.out hp
    have lg := h30.out hp
    go_wp2_with (at_builtin; first | (refine app_row w4 _ x6 _ _ rfl rfl (a.length + b.length) _ (a ++ b) d rfl o6 (by rw [List.length_append]) _ _ rfl (hd4.ext x6) (by rw [List.length_append]; omega) ?_; intro A7 cap7 w7 o7 x7) | (refine app_row w4 _ x5 _ _ rfl rfl a.length _ a b rfl o5 rfl _ _ rfl (hb4.ext x5) (by omega) ?_; intro A6 cap6 w6 o6 x6; rw [List.length_append] at o6) | (refine app_row w4 _ ((Ext.refl _).alloc _) _ _ rfl rfl _ _ [] a rfl (own_empty _) rfl _ _ rfl (ha4.alloc _) (by simp; omega) ?_; intro A5 cap5 w5 o5 x5; rw [List.nil_append] at o5))
    have rc := Rs.own o7; clear o5 o6 o7 x5 x6
    have hs7 := hs4.ext x7; clear hs4
    have hl7 := hl4.ext x7; clear hl4
    have ha7 := ha4.ext x7; clear ha4
    have hb7 := hb4.ext x7; clear hb4
    have hd7 := hd4.ext x7; clear hd4
    have X7 := X4.trans x7
    have l8 : (a ++ b ++ d).length ≤ 900000 := by simp only [List.length_append]; omega
    refine (sEq (cNormN rc l8 _ (by simp only [List.length_append]; omega) _) e1.out).mono ?_
    rintro e w8 ⟨A8, cap8, rfl, r8, x8, _⟩
    have hs8 := hs7.ext x8; clear hs7
    have hl8 := hl7.ext x8; clear hl7
    have ha8 := ha7.ext x8; clear ha7
    have hb8 := hb7.ext x8; clear hb7
    have hd8 := hd7.ext x8; clear hd7
    have hm8 := rc.ext x8
    have X8 := X7.trans x8
    go_wp2_with fail
    refine (pOfWeek hl8 (by omega) _ n).mono ?_
    rintro e w9 ⟨A9, cap9, rfl, r9, x9, _⟩
    have hs9 := hs8.ext x9; clear hs8
    have hl9 := hl8.ext x9; clear hl8
    have ha9 := ha8.ext x9; clear ha8
    have hb9 := hb8.ext x9; clear hb8
    have hd9 := hd8.ext x9; clear hd8
    have hm9 := hm8.ext x9; clear hm8
    have hq9 := r8.ext x9
    have X9 := X8.trans x9
    go_wp2_with fail
    refine (bEq (cSame hq9 r9 (by have := partS_len l n 604800; omega) _ _) (b' := true) (decide_eq_true rfl)).mono ?_
    rintro e w10 ⟨rfl, x10⟩
    have hs10 := hs9.ext x10; clear hs9
    have hl10 := hl9.ext x10; clear hl9
    have ha10 := ha9.ext x10; clear ha9
    have hb10 := hb9.ext x10; clear hb9
    have hd10 := hd9.ext x10; clear hd9
    have hm10 := hm9.ext x10; clear hm9
    have hq10 := hq9.ext x10; clear hq9
    have hv10 := r9.ext x10
    have X10 := X9.trans x10
    have g1 := Sp.size_nonneg a; have g2 := Sp.size_nonneg b; have g3 := Sp.size_nonneg d
    have k1 := Sp.size_le a; have k2 := Sp.size_le b; have k3 := Sp.size_le d
    simp only [Sp.MT] at k1 k2 k3
    obtain ⟨za, hza⟩ : ∃ z, Sp.size a = z := ⟨_, rfl⟩; obtain ⟨zb, hzb⟩ : ∃ z, Sp.size b = z := ⟨_, rfl⟩; obtain ⟨zd, hzd⟩ : ∃ z, Sp.size d = z := ⟨_, rfl⟩
    rw [hza, hzb, hzd] at e2
    rw [hza] at g1 k1; rw [hzb] at g2 k2; rw [hzd] at g3 k3
    have w1 : IntKind.i64.wrap (za + zb) = za + zb := IntWalk.i64_in _ (by omega)
    have w2 : IntKind.i64.wrap (za + zb + zd) = za + zb + zd := IntWalk.i64_in _ (by omega)
    replace hza := Lib.hid hza; replace hzb := Lib.hid hzb; replace hzd := Lib.hid hzd
    go_wp2_with fail
    refine (iEq (cSize ha10 (by omega) _) hza.out).mono ?_
    rintro e w11 ⟨rfl, x11⟩
    have hs11 := hs10.ext x11; clear hs10
    have hl11 := hl10.ext x11; clear hl10
    have ha11 := ha10.ext x11; clear ha10
    have hb11 := hb10.ext x11; clear hb10
    have hd11 := hd10.ext x11; clear hd10
    have hm11 := hm10.ext x11; clear hm10
    have hq11 := hq10.ext x11; clear hq10
    have hv11 := hv10.ext x11; clear hv10
    have X11 := X10.trans x11
    go_wp2_with fail
    refine (iEq (cSize hb11 (by omega) _) hzb.out).mono ?_
    rintro e w12 ⟨rfl, x12⟩
    have hs12 := hs11.ext x12; clear hs11
    have hl12 := hl11.ext x12; clear hl11
    have ha12 := ha11.ext x12; clear ha11
    have hb12 := hb11.ext x12; clear hb11
    have hd12 := hd11.ext x12; clear hd11
    have hm12 := hm11.ext x12; clear hm11
    have hq12 := hq11.ext x12; clear hq11
    have hv12 := hv11.ext x12; clear hv11
    have X12 := X11.trans x12
    go_wp2_with fail
    refine (iEq (cSize hd12 (by omega) _) hzd.out).mono ?_
    rintro e w13 ⟨rfl, x13⟩
    have hs13 := hs12.ext x13; clear hs12
    have hl13 := hl12.ext x13; clear hl12
    have ha13 := ha12.ext x13; clear ha12
    have hb13 := hb12.ext x13; clear hb12
    have hd13 := hd12.ext x13; clear hd12
    have hm13 := hm12.ext x13; clear hm12
    have hq13 := hq12.ext x13; clear hq12
    have hv13 := hv12.ext x13; clear hv12
    have X13 := X12.trans x13
    go_wp2_with fail
    refine (iEq (cSizeN hm13 l8 _ (by simp only [List.length_append]; omega) _) e2.out).mono ?_
    rintro e w14 ⟨rfl, x14⟩
    have hs14 := hs13.ext x14; clear hs13
    have hl14 := hl13.ext x14; clear hl13
    have ha14 := ha13.ext x14; clear ha13
    have hb14 := hb13.ext x14; clear hb13
    have hd14 := hd13.ext x14; clear hd13
    have hm14 := hm13.ext x14; clear hm13
    have hq14 := hq13.ext x14; clear hq13
    have hv14 := hv13.ext x14; clear hv13
    have X14 := X13.trans x14
    go_wp2_with fail
    refine (sEq (cAnd ha14 hb14 (by omega) (by omega) _ _) e3.out).mono ?_
    rintro e w15 ⟨A15, cap15, rfl, r15, x15, _⟩
    have hs15 := hs14.ext x15; clear hs14
    have hl15 := hl14.ext x15; clear hl14
    have ha15 := ha14.ext x15; clear ha14
    have hb15 := hb14.ext x15; clear hb14
    have hd15 := hd14.ext x15; clear hd14
    have hm15 := hm14.ext x15; clear hm14
    have hq15 := hq14.ext x15; clear hq14
    have hv15 := hv14.ext x15; clear hv14
    have X15 := X14.trans x15
    go_wp2
    go_ret
    exact ⟨rfl, X15⟩

theorem shortL_len2 (A : List Sp.S) (n : Int) (K : Nat) (hA : A.length + 1 ≤ K) : (shortL A n).length ≤ 371 * K := by
  have h5 := flatMap_len (fun d => Sp.first (partS A d 86400) n) K (daysL (Sp.norm A)) fun d _ => Nat.le_trans (first_length _ _) (Nat.le_trans (partS_len A d 86400) hA)
  exact Nat.le_trans h5 (Nat.mul_le_mul_right _ (days_len A))
theorem o_lens (s : Su) (l : List Sp.S) (n : Int) (hl : l.length ≤ 60) : (oR s l n).length ≤ 30000 ∧ (oO s l n).length ≤ 60000 ∧ (oD s l n).length ≤ 30000 := by
  have h1 := partS_len l n 604800
  unfold oR oO oD
  by_cases hc : chk s = true
  · rw [if_pos hc, if_pos hc, if_pos hc]
    generalize partS l n 604800 = P at *
    have h2 := shortL_len2 P s.dreg 62 (by omega)
    have h3 := shortL_len2 P s.dover 62 (by omega)
    have hR : (overR P s.dreg s.wreg).length ≤ 371 * 62 := by unfold overR; exact Nat.le_trans (first_length _ _) h2
    refine ⟨by omega, ?_, ?_⟩
    · unfold overO; have := minus_le (shortL P s.dover) (overR P s.dreg s.wreg); omega
    · unfold overD; have := minus_le P (shortL P s.dover); omega
  · rw [if_neg hc, if_neg hc, if_neg hc]; simp
theorem make16 (s : Su) (g : Sh) (ok : SuOk s) (l : List Sp.S) (A : Option Addr) (c : Nat) (hl : l.length ≤ maxLen) (n : Int) (w : World) (r : SuR w s g) (h : Rs w A l) :
    Calls Try.prog 20 #[.agg (s.cells g).toArray, .slice A l.length c, .int .i64 n] w (RetB w true) := by
  have a1 : Few14 s l → l.length ≤ 30 := fun p => p.2.1
  have a3 : ∀ W, Ext w W → ∀ A c, Rs W A l → Calls Try.prog 61 #[.agg (s.cells g).toArray, .slice A l.length c] W (RetP W (Few14 s l)) := fun W X A c h => pFew16 s g h hl c
  have a6 : Few14 s l → ∀ W, Ext w W → Calls Try.prog 59 #[.agg (s.cells g).toArray] W (RetB W (chk s)) := fun p W X => pCheck ok p.1 (r.ext X)
  have a4 : Few14 s l → ∀ W, Ext w W → ∀ A c, Rs W A l → Calls Try.prog 62 #[.agg (s.cells g).toArray, .slice A l.length c, .int .i64 n] W (Ret3S W (oR s l n) (oO s l n) (oD s l n)) := fun p W X A c h => pOver ok p.1 (r.ext X) h (by have := a1 p; omega) c n
  cases hc : chk s
  · rw [hc] at a6
    rw [(o_no hc l n).1, (o_no hc l n).2.1, (o_no hc l n).2.2] at a4
    exact overMakes0 (s.cells g) rfl l A c n _ [] [] [] w h a3 a4 a6
  · rw [hc] at a6
    have e := o_yes hc l n
    have hb := chk_times hc
    have hRO : s.dreg ≤ s.dover := by omega
    refine overMakes1 (s.cells g) rfl l A c n _ (oR s l n) (oO s l n) (oD s l n) w h a3 a4 a6 a1 (fun p => o_lens s l n (by have := a1 p; omega)) ?_ ?_ ?_
    · rw [e.1, e.2.1, e.2.2, over_make _ hRO, Sp.norm_of_plain (partS_plain _ _ _)]
    · rw [e.1, e.2.1, e.2.2]; exact over_size _ hRO
    · rw [e.1, e.2.1]; exact over_none _ _ _ _
end Go.Proofs.Ytnhmibfgaoealaa
