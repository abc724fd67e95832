/-
  Laws of layer 15.
-/
import Derived.Test.YtnhmibfgaoealaaKh
namespace Go.Proofs.Ytnhmibfgaoealaa
open Go.RowKit
set_option linter.unusedVariables false
set_option linter.unusedSimpArgs false


set_option maxRecDepth 100000 in
set_option maxHeartbeats 2000000 in
theorem breaksMake0 (cs : List Value) (hcs : cs.length = 23) (l : List SegL) (A : Option Addr) (c : Nat) (p : Prop) (a b : List Sp.S) (w : World) (h : Rg w A l) (kF : ∀ W, Ext w W → ∀ A c, Rg W A l → Calls Try.prog 65 #[.agg cs.toArray, .slice A l.length c] W (RetP W p)) (kP : p → ∀ W, Ext w W → ∀ A c, Rg W A l → Calls Try.prog 66 #[.agg cs.toArray, .slice A l.length c] W (Ret2R W [] [])) (kC : p → ∀ W, Ext w W → Calls Try.prog 59 #[.agg cs.toArray] W (RetB W false)) :
    Calls Try.prog 22 #[.agg cs.toArray, .slice A l.length c] w (RetB w true) := by
  replace kF := Lib.hid kF
  replace kC := Lib.hid kC
  replace kP := Lib.hid kP
  replace h := Lib.hid h
  have hi := Lib.hid (su_size hcs)
  clear hcs
  have hs0 := Bx.new w cs 35
  have X0 := (Ext.refl w).alloc (.cells cs.toArray 35)
  have hg0 := h.out.alloc (.cells cs.toArray 35)
  go_enter Try.func22, Try.ntmps22
  go_wp2_with fail
  refine (awake15 _).mono ?_
  rintro e w1 ⟨rfl, x1⟩
  have hs1 := hs0.ext x1; clear hs0
  have hg1 := hg0.ext x1; clear hg0
  have X1 := X0.trans x1
  go_wp2_with (first | (refine load_box rfl 35 _ rfl _ rfl _ _ hs1 _ Try.underlying35 rfl hi.out ?_))
  refine (kF.out _ X1 _ _ hg1).mono ?_
  rintro e w2 ⟨⟨b, rfl, hb⟩, x2⟩
  have hs2 := hs1.ext x2; clear hs1
  have hg2 := hg1.ext x2; clear hg1
  have X2 := X1.trans x2
  cases b
  · clear hb
    go_wp2
    go_ret
    exact ⟨rfl, X2⟩
  · have hp := hb rfl
    clear hb
    go_wp2_with (first | (refine load_box rfl 35 _ rfl _ rfl _ _ hs2 _ Try.underlying35 rfl hi.out ?_))
    refine (kP.out hp _ X2 _ _ hg2).mono ?_
    rintro e w3 ⟨A3, cap3, B3, dap3, rfl, ⟨r3, t3⟩, x3, _⟩
    have hs3 := hs2.ext x3; clear hs2
    have hg3 := hg2.ext x3; clear hg2
    have X3 := X2.trans x3
    go_wp2_with (first | (refine load_box rfl 35 _ rfl _ rfl _ _ hs3 _ Try.underlying35 rfl hi.out ?_))
    refine (kC.out hp _ X3).mono ?_
    rintro e w4 ⟨rfl, x4⟩
    have hs4 := hs3.ext x4; clear hs3
    have hg4 := hg3.ext x4; clear hg3
    have ha4 := r3.ext x4
    have hb4 := t3.ext x4
    have X4 := X3.trans x4
    go_wp2
    go_ret
    exact ⟨rfl, X4⟩

set_option maxRecDepth 100000 in
set_option maxHeartbeats 2000000 in
theorem breaksMake1 (cs : List Value) (hcs : cs.length = 23) (l : List SegL) (A : Option Addr) (c : Nat) (p : Prop) (a b : List Sp.S) (w : World) (h : Rg w A l) (kF : ∀ W, Ext w W → ∀ A c, Rg W A l → Calls Try.prog 65 #[.agg cs.toArray, .slice A l.length c] W (RetP W p)) (kP : p → ∀ W, Ext w W → ∀ A c, Rg W A l → Calls Try.prog 66 #[.agg cs.toArray, .slice A l.length c] W (Ret2R W a b)) (kC : p → ∀ W, Ext w W → Calls Try.prog 59 #[.agg cs.toArray] W (RetB W true)) (h30 : p → l.length ≤ 100) (bl : p → a.length ≤ 400000 ∧ b.length ≤ 400000) (e1 : Sp.and_ a b = []) (e2 : Sp.norm (a ++ b) = clockL l) (e3 : Sp.norm a = a) (e4 : Sp.norm b = b) :
    Calls Try.prog 22 #[.agg cs.toArray, .slice A l.length c] w (RetB w true) := by
  replace kF := Lib.hid kF
  replace kC := Lib.hid kC
  replace kP := Lib.hid kP
  replace h := Lib.hid h
  replace h30 := Lib.hid h30
  replace e1 := Lib.hid e1
  replace e2 := Lib.hid e2
  replace e3 := Lib.hid e3
  replace e4 := Lib.hid e4
  replace bl := Lib.hid bl
  have hi := Lib.hid (su_size hcs)
  clear hcs
  have hs0 := Bx.new w cs 35
  have X0 := (Ext.refl w).alloc (.cells cs.toArray 35)
  have hg0 := h.out.alloc (.cells cs.toArray 35)
  go_enter Try.func22, Try.ntmps22
  go_wp2_with fail
  refine (awake15 _).mono ?_
  rintro e w1 ⟨rfl, x1⟩
  have hs1 := hs0.ext x1; clear hs0
  have hg1 := hg0.ext x1; clear hg0
  have X1 := X0.trans x1
  go_wp2_with (first | (refine load_box rfl 35 _ rfl _ rfl _ _ hs1 _ Try.underlying35 rfl hi.out ?_))
  refine (kF.out _ X1 _ _ hg1).mono ?_
  rintro e w2 ⟨⟨b, rfl, hb⟩, x2⟩
  have hs2 := hs1.ext x2; clear hs1
  have hg2 := hg1.ext x2; clear hg1
  have X2 := X1.trans x2
  cases b
  · clear hb
    go_wp2
    go_ret
    exact ⟨rfl, X2⟩
  · have hp := hb rfl
    clear hb
    go_wp2_with (first | (refine load_box rfl 35 _ rfl _ rfl _ _ hs2 _ Try.underlying35 rfl hi.out ?_))
    refine (kP.out hp _ X2 _ _ hg2).mono ?_
    rintro e w3 ⟨A3, cap3, B3, dap3, rfl, ⟨r3, t3⟩, x3, _⟩
    have hs3 := hs2.ext x3; clear hs2
    have hg3 := hg2.ext x3; clear hg2
    have X3 := X2.trans x3
    go_wp2_with (first | (refine load_box rfl 35 _ rfl _ rfl _ _ hs3 _ Try.underlying35 rfl hi.out ?_))
    refine (kC.out hp _ X3).mono ?_
    rintro e w4 ⟨rfl, x4⟩
    have hs4 := hs3.ext x4; clear hs3
    have hg4 := hg3.ext x4; clear hg3
    have ha4 := r3.ext x4
    have hb4 := t3.ext x4
    have X4 := X3.trans x4
    obtain ⟨la, lb⟩ := bl.out hp
    have lg := h30.out hp
    go_wp2_with fail
    refine (pClock hg4 (by omega) _).mono ?_
    rintro e w5 ⟨A5, cap5, rfl, r5, x5, _⟩
    have hs5 := hs4.ext x5; clear hs4
    have hg5 := hg4.ext x5; clear hg4
    have ha5 := ha4.ext x5; clear ha4
    have hb5 := hb4.ext x5; clear hb4
    have X5 := X4.trans x5
    go_wp2_with fail
    refine (sEq (cAnd ha5 hb5 (by omega) (by omega) _ _) e1.out).mono ?_
    rintro e w6 ⟨A6, cap6, rfl, r6, x6, _⟩
    have hs6 := hs5.ext x6; clear hs5
    have hg6 := hg5.ext x6; clear hg5
    have ha6 := ha5.ext x6; clear ha5
    have hb6 := hb5.ext x6; clear hb5
    have hc6 := r5.ext x6
    have X6 := X5.trans x6
    go_wp2_with (at_builtin; first | (refine app_row w6 _ x7 _ _ rfl rfl a.length _ a b rfl o7 rfl _ _ rfl (hb6.ext x7) (by omega) ?_; intro A8 cap8 w8 o8 x8) | (refine app_row w6 _ ((Ext.refl _).alloc _) _ _ rfl rfl _ _ [] a rfl (own_empty _) rfl _ _ rfl (ha6.alloc _) (by simp; omega) ?_; intro A7 cap7 w7 o7 x7))
    have rc := Rs.own o8; clear o7 o8 x7
    have hs8 := hs6.ext x8; clear hs6
    have hg8 := hg6.ext x8; clear hg6
    have ha8 := ha6.ext x8; clear ha6
    have hb8 := hb6.ext x8; clear hb6
    have hc8 := hc6.ext x8; clear hc6
    have X8 := X6.trans x8
    have l8 : (a ++ b).length ≤ 900000 := by rw [List.length_append]; omega
    refine (sEq (nNormApp rc l8 _) e2.out).mono ?_
    rintro e w9 ⟨A9, cap9, rfl, r9, x9, _⟩
    have hs9 := hs8.ext x9; clear hs8
    have hg9 := hg8.ext x9; clear hg8
    have ha9 := ha8.ext x9; clear ha8
    have hb9 := hb8.ext x9; clear hb8
    have hc9 := hc8.ext x9; clear hc8
    have X9 := X8.trans x9
    go_wp2_with fail
    refine (bEq (cSame r9 hc9 (by have := clock_len l; omega) _ _) (b' := true) (decide_eq_true rfl)).mono ?_
    rintro e w10 ⟨rfl, x10⟩
    have hs10 := hs9.ext x10; clear hs9
    have hg10 := hg9.ext x10; clear hg9
    have ha10 := ha9.ext x10; clear ha9
    have hb10 := hb9.ext x10; clear hb9
    have hc10 := hc9.ext x10; clear hc9
    have hm10 := r9.ext x10
    have X10 := X9.trans x10
    go_wp2_with fail
    refine (sEq (cNorm ha10 (by omega) _) e3.out).mono ?_
    rintro e w11 ⟨A11, cap11, rfl, r11, x11, _⟩
    have hs11 := hs10.ext x11; clear hs10
    have hg11 := hg10.ext x11; clear hg10
    have ha11 := ha10.ext x11; clear ha10
    have hb11 := hb10.ext x11; clear hb10
    have hc11 := hc10.ext x11; clear hc10
    have hm11 := hm10.ext x11; clear hm10
    have X11 := X10.trans x11
    go_wp2_with fail
    refine (bEq (cSame ha11 r11 (by omega) _ _) (b' := true) (decide_eq_true rfl)).mono ?_
    rintro e w12 ⟨rfl, x12⟩
    have hs12 := hs11.ext x12; clear hs11
    have hg12 := hg11.ext x12; clear hg11
    have ha12 := ha11.ext x12; clear ha11
    have hb12 := hb11.ext x12; clear hb11
    have hc12 := hc11.ext x12; clear hc11
    have hm12 := r11.ext x12
    have X12 := X11.trans x12
    go_wp2_with fail
    refine (sEq (cNorm hb12 (by omega) _) e4.out).mono ?_
    rintro e w13 ⟨A13, cap13, rfl, r13, x13, _⟩
    have hs13 := hs12.ext x13; clear hs12
    have hg13 := hg12.ext x13; clear hg12
    have ha13 := ha12.ext x13; clear ha12
    have hb13 := hb12.ext x13; clear hb12
    have hc13 := hc12.ext x13; clear hc12
    have hm13 := hm12.ext x13; clear hm12
    have X13 := X12.trans x13
    go_wp2_with fail
    refine (bEq (cSame hb13 r13 (by omega) _ _) (b' := true) (decide_eq_true rfl)).mono ?_
    rintro e w14 ⟨rfl, x14⟩
    have hs14 := hs13.ext x14; clear hs13
    have hg14 := hg13.ext x14; clear hg13
    have ha14 := ha13.ext x14; clear ha13
    have hb14 := hb13.ext x14; clear hb13
    have hc14 := hc13.ext x14; clear hc13
    have hm14 := r13.ext x14
    have X14 := X13.trans x14
    go_wp2
    go_ret
    exact ⟨rfl, X14⟩

theorem all_lens (s : Su) (l : List SegL) (hl : l.length ≤ 100) : (paidAll s l).length ≤ 400000 ∧ (notAll s l).length ≤ 400000 := by
  have hD := days_len (clockL l)
  have hp : ∀ d, (paidD s l d).length ≤ 900 ∧ (notD s l d).length ≤ 900 := fun d => by
    have h := day_lens s.paid s.after s.auto l d hl
    unfold paidD notD
    split
    · omega
    · simp
  constructor
  · unfold paidAll
    have := flatMap_len (paidD s l) 900 (daysL (Sp.norm (clockL l))) fun d _ => (hp d).1
    exact Nat.le_trans (Sp.norm_length _) (by omega)
  · unfold notAll
    have := flatMap_len (notD s l) 900 (daysL (Sp.norm (clockL l))) fun d _ => (hp d).2
    exact Nat.le_trans (Sp.norm_length _) (by omega)
theorem make15 (s : Su) (g : Sh) (ok : SuOk s) (l : List SegL) (A : Option Addr) (c : Nat) (hl : l.length ≤ maxLen) (w : World) (r : SuR w s g) (h : Rg w A l) :
    Calls Try.prog 22 #[.agg (s.cells g).toArray, .slice A l.length c] w (RetB w true) := by
  have a1 : Few15 s l → l.length ≤ 100 := fun p => by have := p.2.1; omega
  have a3 : ∀ W, Ext w W → ∀ A c, Rg W A l → Calls Try.prog 65 #[.agg (s.cells g).toArray, .slice A l.length c] W (RetP W (Few15 s l)) := fun W X A c h => pFew15 s g h hl c
  have a6 : Few15 s l → ∀ W, Ext w W → Calls Try.prog 59 #[.agg (s.cells g).toArray] W (RetB W (chk s)) := fun p W X => pCheck ok p.1 (r.ext X)
  have a4 : Few15 s l → ∀ W, Ext w W → ∀ A c, Rg W A l → Calls Try.prog 66 #[.agg (s.cells g).toArray, .slice A l.length c] W (Ret2R W (paidAll s l) (notAll s l)) := fun p W X A c h => pPaid ok p.1 (r.ext X) h (a1 p) c
  cases hc : chk s
  · rw [hc] at a6
    rw [(paidAll_no hc l).1, (paidAll_no hc l).2] at a4
    exact breaksMake0 (s.cells g) rfl l A c _ [] [] w h a3 a4 a6
  · rw [hc] at a6
    have e := paidAll_yes hc l
    refine breaksMake1 (s.cells g) rfl l A c _ (paidAll s l) (notAll s l) w h a3 a4 a6 a1 (fun p => all_lens s l (a1 p)) ?_ ?_ ?_ ?_
    · rw [e.1, e.2]; exact breaks_none _ _ _ l
    · rw [e.1, e.2]; exact breaks_make _ _ _ l
    · rw [e.1]; exact Sp.norm_of_plain (allPaid_plain _ _ _ l)
    · rw [e.2]; exact Sp.norm_of_plain (allNot_plain _ _ _ l)
end Go.Proofs.Ytnhmibfgaoealaa
