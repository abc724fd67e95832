/-
  The law SpanTells of lumperlaw03 answers true.
-/
import Derived.Test.YtnhmibfgaoealaaMi
namespace Go.Proofs.Ytnhmibfgaoealaa
open Go.RowKit

set_option linter.unusedSimpArgs false in
theorem few03 (n1 n2 c1 c2 : Nat) (A1 A2 : Option Addr) (w : World) : Calls Try.prog 37 #[.slice A1 n1 c1, .slice A2 n2 c2] w (RetB w (decide (n1 ≤ 100) && decide (n2 ≤ 100))) := by
  by_cases h1 : n1 ≤ 100
  · have e1 : ((n1 : Int) ≤ 100) := by omega
    by_cases h2 : n2 ≤ 100
    · have e2 : ((n2 : Int) ≤ 100) := by omega
      go_enter Try.func37, Try.ntmps37
      go_wp2
      go_ret
      exact ⟨by simp [h1, h2], Ext.refl _⟩
    · have e2 : ¬ ((n2 : Int) ≤ 100) := by omega
      go_enter Try.func37, Try.ntmps37
      go_wp2
      go_ret
      exact ⟨by simp [h1, h2], Ext.refl _⟩
  · have e1 : ¬ ((n1 : Int) ≤ 100) := by omega
    go_enter Try.func37, Try.ntmps37
    go_wp2
    go_ret
    exact ⟨by simp [h1], Ext.refl _⟩

theorem and_len (a b : List Sp.S) : (Sp.and_ a b).length ≤ a.length + b.length := Nat.le_trans (Sp.and_length a b) (Nat.add_le_add (Sp.norm_length a) (Sp.norm_length b))
theorem minus_len (a b : List Sp.S) : (Sp.minus a b).length ≤ a.length + b.length + 1 := by
  have := and_len a (Sp.othersFrom 0 (Sp.norm b))
  have h2 := others_length (Sp.norm b) 0 (Sp.norm_plain b)
  have h3 := Sp.norm_length b
  unfold Sp.minus; omega
theorem last_len (l : List Sp.S) (n : Int) : (Sp.last l n).length ≤ 2 * l.length + 1 := by
  unfold Sp.last
  split
  · simp
  · have := minus_len l (Sp.first l (Sp.size l - min n Sp.MT))
    have h2 := first_length l (Sp.size l - min n Sp.MT)
    omega

set_option maxRecDepth 100000 in
set_option maxHeartbeats 2000000 in
theorem tells03 (a b : List Sp.S) (Aa Ab : Option Addr) (ca cb : Nat) (t n : Int) (w : World) (ha : Rs w Aa a) (hb : Rs w Ab b) (hn : B64 n) : Calls Try.prog 6 #[.slice Aa a.length ca, .slice Ab b.length cb, .int .i64 t, .int .i64 n] w (RetB w true) := by
  by_cases hf : (decide (a.length ≤ 100) && decide (b.length ≤ 100)) = true
  · have la : a.length ≤ 100 := by simp at hf; omega
    have lb : b.length ≤ 100 := by simp at hf; omega
    have hf := Lib.hid hf
    have l1 : (Sp.norm a).length ≤ 900000 := by have := Sp.norm_length a; omega
    have l2 : (Sp.and_ a b).length ≤ 900000 := by have := and_len a b; omega
    have l3 : (Sp.minus a b).length ≤ 900000 := by have := minus_len a b; omega
    have l4 : (Sp.first a n).length ≤ 900000 := by have := first_length a n; omega
    have l5 : (Sp.last a n).length ≤ 900000 := by have := last_len a n; omega
    go_enter Try.func6, Try.ntmps6
    go_wp2_with fail
    refine (awake03 _).mono ?_
    rintro e w1 ⟨rfl, x1⟩
    have ha1 := ha.ext x1; clear ha
    have hb1 := hb.ext x1; clear hb
    have X1 := (Ext.refl _).trans x1
    go_wp2_with fail
    refine (bEq (few03 _ _ _ _ _ _ _) hf.out).mono ?_
    rintro e w2 ⟨rfl, x2⟩
    have ha2 := ha1.ext x2; clear ha1
    have hb2 := hb1.ext x2; clear hb1
    have X2 := X1.trans x2
    go_wp2_with fail
    refine (cNorm ha2 (by omega) _).mono ?_
    rintro e w3 ⟨A3, cap3, rfl, r3, x3, _⟩
    have ha3 := ha2.ext x3; clear ha2
    have hb3 := hb2.ext x3; clear hb2
    have X3 := X2.trans x3
    go_wp2_with fail
    refine (rNorm ha3 (by omega) _).mono ?_
    rintro e w4 ⟨A4, cap4, rfl, r4, x4, _⟩
    have ha4 := ha3.ext x4; clear ha3
    have hb4 := hb3.ext x4; clear hb3
    have hx4 := r3.ext x4
    have X4 := X3.trans x4
    go_wp2_with fail
    refine (bEq (cSame hx4 r4 l1 _ _) (decide_eq_true rfl)).mono ?_
    rintro e w5 ⟨rfl, x5⟩
    have ha5 := ha4.ext x5; clear ha4
    have hb5 := hb4.ext x5; clear hb4
    have hx5 := hx4.ext x5; clear hx4
    have hy5 := r4.ext x5
    have X5 := X4.trans x5
    go_wp2_with fail
    refine (cAnd ha5 hb5 (by omega) (by omega) _ _).mono ?_
    rintro e w6 ⟨A6, cap6, rfl, r6, x6, _⟩
    have ha6 := ha5.ext x6; clear ha5
    have hb6 := hb5.ext x6; clear hb5
    have X6 := X5.trans x6
    go_wp2_with fail
    refine (rAnd ha6 hb6 (by omega) (by omega) _ _).mono ?_
    rintro e w7 ⟨A7, cap7, rfl, r7, x7, _⟩
    have ha7 := ha6.ext x7; clear ha6
    have hb7 := hb6.ext x7; clear hb6
    have hx7 := r6.ext x7
    have X7 := X6.trans x7
    go_wp2_with fail
    refine (bEq (cSame hx7 r7 l2 _ _) (decide_eq_true rfl)).mono ?_
    rintro e w8 ⟨rfl, x8⟩
    have ha8 := ha7.ext x8; clear ha7
    have hb8 := hb7.ext x8; clear hb7
    have hx8 := hx7.ext x8; clear hx7
    have hy8 := r7.ext x8
    have X8 := X7.trans x8
    go_wp2_with fail
    refine (cMinus ha8 hb8 (by omega) (by omega) _ _).mono ?_
    rintro e w9 ⟨A9, cap9, rfl, r9, x9, _⟩
    have ha9 := ha8.ext x9; clear ha8
    have hb9 := hb8.ext x9; clear hb8
    have X9 := X8.trans x9
    go_wp2_with fail
    refine (rMinus ha9 hb9 (by omega) (by omega) _ _).mono ?_
    rintro e w10 ⟨A10, cap10, rfl, r10, x10, _⟩
    have ha10 := ha9.ext x10; clear ha9
    have hb10 := hb9.ext x10; clear hb9
    have hx10 := r9.ext x10
    have X10 := X9.trans x10
    go_wp2_with fail
    refine (bEq (cSame hx10 r10 l3 _ _) (decide_eq_true rfl)).mono ?_
    rintro e w11 ⟨rfl, x11⟩
    have ha11 := ha10.ext x11; clear ha10
    have hb11 := hb10.ext x11; clear hb10
    have hx11 := hx10.ext x11; clear hx10
    have hy11 := r10.ext x11
    have X11 := X10.trans x11
    go_wp2_with fail
    refine (cFirst ha11 (by omega) hn _).mono ?_
    rintro e w12 ⟨A12, cap12, rfl, r12, x12, _⟩
    have ha12 := ha11.ext x12; clear ha11
    have hb12 := hb11.ext x12; clear hb11
    have X12 := X11.trans x12
    go_wp2_with fail
    refine (rFirst ha12 (by omega) hn _).mono ?_
    rintro e w13 ⟨A13, cap13, rfl, r13, x13, _⟩
    have ha13 := ha12.ext x13; clear ha12
    have hb13 := hb12.ext x13; clear hb12
    have hx13 := r12.ext x13
    have X13 := X12.trans x13
    go_wp2_with fail
    refine (bEq (cSame hx13 r13 l4 _ _) (decide_eq_true rfl)).mono ?_
    rintro e w14 ⟨rfl, x14⟩
    have ha14 := ha13.ext x14; clear ha13
    have hb14 := hb13.ext x14; clear hb13
    have hx14 := hx13.ext x14; clear hx13
    have hy14 := r13.ext x14
    have X14 := X13.trans x14
    go_wp2_with fail
    refine (cLast ha14 (by omega) hn _).mono ?_
    rintro e w15 ⟨A15, cap15, rfl, r15, x15, _⟩
    have ha15 := ha14.ext x15; clear ha14
    have hb15 := hb14.ext x15; clear hb14
    have X15 := X14.trans x15
    go_wp2_with fail
    refine (rLast ha15 (by omega) hn _).mono ?_
    rintro e w16 ⟨A16, cap16, rfl, r16, x16, _⟩
    have ha16 := ha15.ext x16; clear ha15
    have hb16 := hb15.ext x16; clear hb15
    have hx16 := r15.ext x16
    have X16 := X15.trans x16
    go_wp2_with fail
    refine (bEq (cSame hx16 r16 l5 _ _) (decide_eq_true rfl)).mono ?_
    rintro e w17 ⟨rfl, x17⟩
    have ha17 := ha16.ext x17; clear ha16
    have hb17 := hb16.ext x17; clear hb16
    have hx17 := hx16.ext x17; clear hx16
    have hy17 := r16.ext x17
    have X17 := X16.trans x17
    go_wp2_with fail
    refine (cSize ha17 (by omega) _).mono ?_
    rintro e w18 ⟨rfl, x18⟩
    have ha18 := ha17.ext x18; clear ha17
    have hb18 := hb17.ext x18; clear hb17
    have X18 := X17.trans x18
    go_wp2_with fail
    refine (rSize ha18 (by omega) _).mono ?_
    rintro e w19 ⟨rfl, x19⟩
    have ha19 := ha18.ext x19; clear ha18
    have hb19 := hb18.ext x19; clear hb18
    have X19 := X18.trans x19
    go_wp2_with fail
    refine (cHas ha19 (by omega) t _).mono ?_
    rintro e w20 ⟨rfl, x20⟩
    have ha20 := ha19.ext x20; clear ha19
    have hb20 := hb19.ext x20; clear hb19
    have X20 := X19.trans x20
    go_wp2_with fail
    refine (bEq (b' := Sp.has a t) (rHas ha20 (by omega) t _) (Sp.norm_has a t).symm).mono ?_
    rintro e w21 ⟨rfl, x21⟩
    have ha21 := ha20.ext x21; clear ha20
    have hb21 := hb20.ext x21; clear hb20
    have X21 := X20.trans x21
    go_wp2
    go_ret
    exact ⟨by simp, X21⟩
  · have hf := Lib.hid (Bool.eq_false_iff.2 hf)
    go_enter Try.func6, Try.ntmps6
    go_wp2_with fail
    refine (awake03 _).mono ?_
    rintro e w1 ⟨rfl, x1⟩
    go_wp2_with fail
    refine (bEq (few03 _ _ _ _ _ _ _) hf.out).mono ?_
    rintro e w2 ⟨rfl, x2⟩
    go_wp2
    go_ret
    exact ⟨rfl, x1.trans x2⟩
end Go.Proofs.Ytnhmibfgaoealaa
