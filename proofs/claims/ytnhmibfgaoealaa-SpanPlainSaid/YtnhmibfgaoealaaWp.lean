/-
  The law SpanPlain of lumperlaw03 answers true.
-/
import Derived.Test.YtnhmibfgaoealaaPl
namespace Go.Proofs.Ytnhmibfgaoealaa
open Go.RowKit

theorem norm_norm (a : List Sp.S) : Sp.norm (Sp.norm a) = Sp.norm a := Sp.norm_of_plain (Sp.norm_plain a)
theorem cPlain {w : World} {A : Option Addr} {l : List Sp.S} (h : Rs w A l) (hl : l.length ≤ 900000) (hp : Sp.Plain l) (cap : Nat) : Calls Try.prog 51 #[.slice A l.length cap] w (RetB w true) :=
  plain03 l A cap true ⟨fun _ => hp, fun _ => rfl⟩ w h hl
theorem cNotPlain {w : World} {A : Option Addr} {l : List Sp.S} (h : Rs w A l) (hl : l.length ≤ 900000) (hp : ¬ Sp.Plain l) (cap : Nat) : Calls Try.prog 51 #[.slice A l.length cap] w (RetB w false) :=
  plain03 l A cap false ⟨fun h => (Bool.false_ne_true h).elim, fun h => absurd h hp⟩ w h hl

set_option maxRecDepth 100000 in
set_option maxHeartbeats 2000000 in
theorem plainlaw_f (a b : List Sp.S) (Aa Ab : Option Addr) (ca cb : Nat) (n : Int) (w : World) (ha : Rs w Aa a) (hb : Rs w Ab b) (hn : B64 n) (la : a.length ≤ 100) (lb : b.length ≤ 100) (qa : ¬ Sp.Plain a) : Calls Try.prog 8 #[.slice Aa a.length ca, .slice Ab b.length cb, .int .i64 n] w (RetB w true) := by
  have hf : Hid ((decide (a.length ≤ 100) && decide (b.length ≤ 100)) = true) := by show _ = _; simp [la, lb]
  have qa := Lib.hid qa
  have l0 : (Sp.norm a).length ≤ 900000 := by have := Sp.norm_length a; omega
  have l1 : (Sp.and_ a b).length ≤ 900000 := by have := and_len a b; omega
  have l2 : (Sp.minus a b).length ≤ 900000 := by have := minus_len a b; omega
  have l3 : (Sp.first a n).length ≤ 900000 := by have := first_length a n; omega
  have l4 : (Sp.last a n).length ≤ 900000 := by have := last_len a n; omega
  have l5 : (Sp.norm (Sp.norm a)).length ≤ 900000 := by rw [norm_norm]; exact l0
  go_enter Try.func8, Try.ntmps8
  go_wp2_with fail
  refine (awake03 _).mono ?_
  rintro e w1 ⟨rfl, x1⟩
  have ha1 := ha.ext x1; clear ha
  have hb1 := hb.ext x1; clear hb
  have X1 := (Ext.refl _).trans x1
  go_wp2_with fail
  refine (bEq (few03 _ _ _ _ _ _ _) hf.out).mono ?_
  rintro e w2 ⟨rfl, x2⟩
  have ha2 := ha1.ext x2; clear ha1
  have hb2 := hb1.ext x2; clear hb1
  have X2 := X1.trans x2
  go_wp2_with fail
  refine (cNorm ha2 (by omega) _).mono ?_
  rintro e w3 ⟨A3, cap3, rfl, r3, x3, _⟩
  have ha3 := ha2.ext x3; clear ha2
  have hb3 := hb2.ext x3; clear hb2
  have X3 := X2.trans x3
  go_wp2_with fail
  refine (cNotPlain ha3 (by omega) qa.out _).mono ?_
  rintro e w4 ⟨rfl, x4⟩
  have ha4 := ha3.ext x4; clear ha3
  have hb4 := hb3.ext x4; clear hb3
  have hp4 := r3.ext x4
  have X4 := X3.trans x4
  go_wp2_with fail
  refine (cPlain hp4 l0 (Sp.norm_plain a) _).mono ?_
  rintro e w5 ⟨rfl, x5⟩
  have ha5 := ha4.ext x5; clear ha4
  have hb5 := hb4.ext x5; clear hb4
  have hp5 := hp4.ext x5; clear hp4
  have X5 := X4.trans x5
  go_wp2_with fail
  refine (cAnd ha5 hb5 (by omega) (by omega) _ _).mono ?_
  rintro e w6 ⟨A6, cap6, rfl, r6, x6, _⟩
  have ha6 := ha5.ext x6; clear ha5
  have hb6 := hb5.ext x6; clear hb5
  have hp6 := hp5.ext x6; clear hp5
  have X6 := X5.trans x6
  go_wp2_with fail
  refine (cPlain r6 l1 (Sp.and_plain a b) _).mono ?_
  rintro e w7 ⟨rfl, x7⟩
  have ha7 := ha6.ext x7; clear ha6
  have hb7 := hb6.ext x7; clear hb6
  have hp7 := hp6.ext x7; clear hp6
  have hx7 := r6.ext x7
  have X7 := X6.trans x7
  go_wp2_with fail
  refine (cMinus ha7 hb7 (by omega) (by omega) _ _).mono ?_
  rintro e w8 ⟨A8, cap8, rfl, r8, x8, _⟩
  have ha8 := ha7.ext x8; clear ha7
  have hb8 := hb7.ext x8; clear hb7
  have hp8 := hp7.ext x8; clear hp7
  have X8 := X7.trans x8
  go_wp2_with fail
  refine (cPlain r8 l2 (Sp.minus_plain a b) _).mono ?_
  rintro e w9 ⟨rfl, x9⟩
  have ha9 := ha8.ext x9; clear ha8
  have hb9 := hb8.ext x9; clear hb8
  have hp9 := hp8.ext x9; clear hp8
  have hx9 := r8.ext x9
  have X9 := X8.trans x9
  go_wp2_with fail
  refine (cFirst ha9 (by omega) hn _).mono ?_
  rintro e w10 ⟨A10, cap10, rfl, r10, x10, _⟩
  have ha10 := ha9.ext x10; clear ha9
  have hb10 := hb9.ext x10; clear hb9
  have hp10 := hp9.ext x10; clear hp9
  have X10 := X9.trans x10
  go_wp2_with fail
  refine (cPlain r10 l3 (Sp.first_plain a n) _).mono ?_
  rintro e w11 ⟨rfl, x11⟩
  have ha11 := ha10.ext x11; clear ha10
  have hb11 := hb10.ext x11; clear hb10
  have hp11 := hp10.ext x11; clear hp10
  have hx11 := r10.ext x11
  have X11 := X10.trans x11
  go_wp2_with fail
  refine (cLast ha11 (by omega) hn _).mono ?_
  rintro e w12 ⟨A12, cap12, rfl, r12, x12, _⟩
  have ha12 := ha11.ext x12; clear ha11
  have hb12 := hb11.ext x12; clear hb11
  have hp12 := hp11.ext x12; clear hp11
  have X12 := X11.trans x12
  go_wp2_with fail
  refine (cPlain r12 l4 (Sp.last_plain a n) _).mono ?_
  rintro e w13 ⟨rfl, x13⟩
  have ha13 := ha12.ext x13; clear ha12
  have hb13 := hb12.ext x13; clear hb12
  have hp13 := hp12.ext x13; clear hp12
  have hx13 := r12.ext x13
  have X13 := X12.trans x13
  go_wp2_with fail
  refine (cNorm hp13 l0 _).mono ?_
  rintro e w14 ⟨A14, cap14, rfl, r14, x14, _⟩
  have ha14 := ha13.ext x14; clear ha13
  have hb14 := hb13.ext x14; clear hb13
  have hp14 := hp13.ext x14; clear hp13
  have X14 := X13.trans x14
  go_wp2_with fail
  refine (bEq (cSame r14 hp14 l5 _ _) (decide_eq_true (norm_norm a))).mono ?_
  rintro e w15 ⟨rfl, x15⟩
  have ha15 := ha14.ext x15; clear ha14
  have hb15 := hb14.ext x15; clear hb14
  have hp15 := hp14.ext x15; clear hp14
  have hx15 := r14.ext x15
  have X15 := X14.trans x15
  go_wp2
  go_ret
  exact ⟨rfl, X15⟩

set_option maxRecDepth 100000 in
set_option maxHeartbeats 2000000 in
theorem plainlaw_t (a b : List Sp.S) (Aa Ab : Option Addr) (ca cb : Nat) (n : Int) (w : World) (ha : Rs w Aa a) (hb : Rs w Ab b) (hn : B64 n) (la : a.length ≤ 100) (lb : b.length ≤ 100) (qa : Sp.Plain a) : Calls Try.prog 8 #[.slice Aa a.length ca, .slice Ab b.length cb, .int .i64 n] w (RetB w true) := by
  have hf : Hid ((decide (a.length ≤ 100) && decide (b.length ≤ 100)) = true) := by show _ = _; simp [la, lb]
  have qa := Lib.hid qa
  have l0 : (Sp.norm a).length ≤ 900000 := by have := Sp.norm_length a; omega
  have l1 : (Sp.and_ a b).length ≤ 900000 := by have := and_len a b; omega
  have l2 : (Sp.minus a b).length ≤ 900000 := by have := minus_len a b; omega
  have l3 : (Sp.first a n).length ≤ 900000 := by have := first_length a n; omega
  have l4 : (Sp.last a n).length ≤ 900000 := by have := last_len a n; omega
  have l5 : (Sp.norm (Sp.norm a)).length ≤ 900000 := by rw [norm_norm]; exact l0
  go_enter Try.func8, Try.ntmps8
  go_wp2_with fail
  refine (awake03 _).mono ?_
  rintro e w1 ⟨rfl, x1⟩
  have ha1 := ha.ext x1; clear ha
  have hb1 := hb.ext x1; clear hb
  have X1 := (Ext.refl _).trans x1
  go_wp2_with fail
  refine (bEq (few03 _ _ _ _ _ _ _) hf.out).mono ?_
  rintro e w2 ⟨rfl, x2⟩
  have ha2 := ha1.ext x2; clear ha1
  have hb2 := hb1.ext x2; clear hb1
  have X2 := X1.trans x2
  go_wp2_with fail
  refine (cNorm ha2 (by omega) _).mono ?_
  rintro e w3 ⟨A3, cap3, rfl, r3, x3, _⟩
  have ha3 := ha2.ext x3; clear ha2
  have hb3 := hb2.ext x3; clear hb2
  have X3 := X2.trans x3
  go_wp2_with fail
  refine (cPlain ha3 (by omega) qa.out _).mono ?_
  rintro e w4 ⟨rfl, x4⟩
  have ha4 := ha3.ext x4; clear ha3
  have hb4 := hb3.ext x4; clear hb3
  have hp4 := r3.ext x4
  have X4 := X3.trans x4
  go_wp2_with fail
  refine (bEq (cSame hp4 ha4 l0 _ _) (decide_eq_true (Sp.norm_of_plain qa.out))).mono ?_
  rintro e w5 ⟨rfl, x5⟩
  have ha5 := ha4.ext x5; clear ha4
  have hb5 := hb4.ext x5; clear hb4
  have hp5 := hp4.ext x5; clear hp4
  have X5 := X4.trans x5
  go_wp2_with fail
  refine (cPlain hp5 l0 (Sp.norm_plain a) _).mono ?_
  rintro e w6 ⟨rfl, x6⟩
  have ha6 := ha5.ext x6; clear ha5
  have hb6 := hb5.ext x6; clear hb5
  have hp6 := hp5.ext x6; clear hp5
  have X6 := X5.trans x6
  go_wp2_with fail
  refine (cAnd ha6 hb6 (by omega) (by omega) _ _).mono ?_
  rintro e w7 ⟨A7, cap7, rfl, r7, x7, _⟩
  have ha7 := ha6.ext x7; clear ha6
  have hb7 := hb6.ext x7; clear hb6
  have hp7 := hp6.ext x7; clear hp6
  have X7 := X6.trans x7
  go_wp2_with fail
  refine (cPlain r7 l1 (Sp.and_plain a b) _).mono ?_
  rintro e w8 ⟨rfl, x8⟩
  have ha8 := ha7.ext x8; clear ha7
  have hb8 := hb7.ext x8; clear hb7
  have hp8 := hp7.ext x8; clear hp7
  have hx8 := r7.ext x8
  have X8 := X7.trans x8
  go_wp2_with fail
  refine (cMinus ha8 hb8 (by omega) (by omega) _ _).mono ?_
  rintro e w9 ⟨A9, cap9, rfl, r9, x9, _⟩
  have ha9 := ha8.ext x9; clear ha8
  have hb9 := hb8.ext x9; clear hb8
  have hp9 := hp8.ext x9; clear hp8
  have X9 := X8.trans x9
  go_wp2_with fail
  refine (cPlain r9 l2 (Sp.minus_plain a b) _).mono ?_
  rintro e w10 ⟨rfl, x10⟩
  have ha10 := ha9.ext x10; clear ha9
  have hb10 := hb9.ext x10; clear hb9
  have hp10 := hp9.ext x10; clear hp9
  have hx10 := r9.ext x10
  have X10 := X9.trans x10
  go_wp2_with fail
  refine (cFirst ha10 (by omega) hn _).mono ?_
  rintro e w11 ⟨A11, cap11, rfl, r11, x11, _⟩
  have ha11 := ha10.ext x11; clear ha10
  have hb11 := hb10.ext x11; clear hb10
  have hp11 := hp10.ext x11; clear hp10
  have X11 := X10.trans x11
  go_wp2_with fail
  refine (cPlain r11 l3 (Sp.first_plain a n) _).mono ?_
  rintro e w12 ⟨rfl, x12⟩
  have ha12 := ha11.ext x12; clear ha11
  have hb12 := hb11.ext x12; clear hb11
  have hp12 := hp11.ext x12; clear hp11
  have hx12 := r11.ext x12
  have X12 := X11.trans x12
  go_wp2_with fail
  refine (cLast ha12 (by omega) hn _).mono ?_
  rintro e w13 ⟨A13, cap13, rfl, r13, x13, _⟩
  have ha13 := ha12.ext x13; clear ha12
  have hb13 := hb12.ext x13; clear hb12
  have hp13 := hp12.ext x13; clear hp12
  have X13 := X12.trans x13
  go_wp2_with fail
  refine (cPlain r13 l4 (Sp.last_plain a n) _).mono ?_
  rintro e w14 ⟨rfl, x14⟩
  have ha14 := ha13.ext x14; clear ha13
  have hb14 := hb13.ext x14; clear hb13
  have hp14 := hp13.ext x14; clear hp13
  have hx14 := r13.ext x14
  have X14 := X13.trans x14
  go_wp2_with fail
  refine (cNorm hp14 l0 _).mono ?_
  rintro e w15 ⟨A15, cap15, rfl, r15, x15, _⟩
  have ha15 := ha14.ext x15; clear ha14
  have hb15 := hb14.ext x15; clear hb14
  have hp15 := hp14.ext x15; clear hp14
  have X15 := X14.trans x15
  go_wp2_with fail
  refine (bEq (cSame r15 hp15 l5 _ _) (decide_eq_true (norm_norm a))).mono ?_
  rintro e w16 ⟨rfl, x16⟩
  have ha16 := ha15.ext x16; clear ha15
  have hb16 := hb15.ext x16; clear hb15
  have hp16 := hp15.ext x16; clear hp15
  have hx16 := r15.ext x16
  have X16 := X15.trans x16
  go_wp2
  go_ret
  exact ⟨rfl, X16⟩

set_option maxRecDepth 100000 in
theorem plainlaw (a b : List Sp.S) (Aa Ab : Option Addr) (ca cb : Nat) (n : Int) (w : World) (ha : Rs w Aa a) (hb : Rs w Ab b) (hn : B64 n) : Calls Try.prog 8 #[.slice Aa a.length ca, .slice Ab b.length cb, .int .i64 n] w (RetB w true) := by
  by_cases hf : (decide (a.length ≤ 100) && decide (b.length ≤ 100)) = true
  · have la : a.length ≤ 100 := by simp at hf; omega
    have lb : b.length ≤ 100 := by simp at hf; omega
    by_cases qa : Sp.Plain a
    · exact plainlaw_t a b Aa Ab ca cb n w ha hb hn la lb qa
    · exact plainlaw_f a b Aa Ab ca cb n w ha hb hn la lb qa
  · have hf := Lib.hid (Bool.eq_false_iff.2 hf)
    go_enter Try.func8, Try.ntmps8
    go_wp2_with fail
    refine (awake03 _).mono ?_
    rintro e w1 ⟨rfl, x1⟩
    go_wp2_with fail
    refine (bEq (few03 _ _ _ _ _ _ _) hf.out).mono ?_
    rintro e w2 ⟨rfl, x2⟩
    go_wp2
    go_ret
    exact ⟨rfl, x1.trans x2⟩
end Go.Proofs.Ytnhmibfgaoealaa
