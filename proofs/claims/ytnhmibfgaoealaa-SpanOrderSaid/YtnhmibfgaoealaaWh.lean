/-
  The law SpanHas of lumperlaw03 answers true.
-/
import Derived.Test.YtnhmibfgaoealaaWt
import Derived.Test.YtnhmibfgaoealaaApp
namespace Go.Proofs.Ytnhmibfgaoealaa
open Go.RowKit

theorem cNormApp {w : World} {A : Option Addr} {a b : List Sp.S} (h : Rs w A (a ++ b)) (hl : (a ++ b).length ≤ 900000) (cap : Nat) : Calls Try.prog 34 #[.slice A (a.length + b.length) cap] w (RetS w (Sp.norm (a ++ b))) := by
  have := cNorm h hl cap
  rwa [List.length_append] at this

theorem has_eq (l : List Sp.S) (t : Int) : Sp.has l t = (Sp.okT t && Sp.hasB l t) := Sp.norm_has l t
theorem has_and (a b : List Sp.S) (t : Int) : Sp.has (Sp.and_ a b) t = (Sp.has a t && Sp.has b t) := by
  rw [has_eq, Sp.and_has, has_eq, has_eq]; cases Sp.okT t <;> cases Sp.hasB a t <;> cases Sp.hasB b t <;> rfl
theorem has_minus (a b : List Sp.S) (t : Int) : Sp.has (Sp.minus a b) t = (Sp.has a t && !Sp.has b t) := by
  rw [has_eq, Sp.minus_has, has_eq, has_eq]; cases Sp.okT t <;> cases Sp.hasB a t <;> cases Sp.hasB b t <;> rfl
theorem has_both (a b : List Sp.S) (t : Int) : Sp.has (Sp.norm (a ++ b)) t = (Sp.has a t || Sp.has b t) := by
  rw [has_eq, Sp.norm_has, Sp.hasB_append, has_eq, has_eq]; cases Sp.okT t <;> cases Sp.hasB a t <;> cases Sp.hasB b t <;> rfl
theorem has_in {l : List Sp.S} {t : Int} (h : Sp.has l t = true) : 0 ≤ t ∧ t < 32054400 := by
  rw [has_eq] at h
  exact Sp.okT_iff.1 (by revert h; cases Sp.okT t <;> simp)

set_option maxRecDepth 100000 in
set_option maxHeartbeats 2000000 in
theorem has03_ff (a b : List Sp.S) (Aa Ab : Option Addr) (ca cb : Nat) (t : Int) (w : World) (ha : Rs w Aa a) (hb : Rs w Ab b) (la : a.length ≤ 100) (lb : b.length ≤ 100) (qa : Sp.has a t = false) (qb : Sp.has b t = false) : Calls Try.prog 7 #[.slice Aa a.length ca, .slice Ab b.length cb, .int .i64 t] w (RetB w true) := by
  have hf : Hid ((decide (a.length ≤ 100) && decide (b.length ≤ 100)) = true) := by show _ = _; simp [la, lb]
  have qa := Lib.hid qa; have qb := Lib.hid qb
  have l1 : (Sp.and_ a b).length ≤ 900000 := by have := and_len a b; omega
  have l2 : (Sp.minus a b).length ≤ 900000 := by have := minus_len a b; omega
  have l3 : (a ++ b).length ≤ 900000 := by simp; omega
  have l4 : (Sp.norm (a ++ b)).length ≤ 900000 := by have := Sp.norm_length (a ++ b); omega
  have e1 : Hid (Sp.has (Sp.and_ a b) t = false) := by show _ = _; rw [has_and, qa.out, qb.out]; rfl
  have e2 : Hid (Sp.has (Sp.minus a b) t = false) := by show _ = _; rw [has_minus, qa.out, qb.out]; rfl
  have e3 : Hid (Sp.has (Sp.norm (a ++ b)) t = false) := by show _ = _; rw [has_both, qa.out, qb.out]; rfl
  go_enter Try.func7, Try.ntmps7
  go_wp2_with fail
  refine (awake03 _).mono ?_
  rintro e w1 ⟨rfl, x1⟩
  have ha1 := ha.ext x1; clear ha
  have hb1 := hb.ext x1; clear hb
  have X1 := (Ext.refl _).trans x1
  go_wp2_with fail
  refine (bEq (few03 _ _ _ _ _ _ _) hf.out).mono ?_
  rintro e w2 ⟨rfl, x2⟩
  have ha2 := ha1.ext x2; clear ha1
  have hb2 := hb1.ext x2; clear hb1
  have X2 := X1.trans x2
  go_wp2_with fail
  refine (bEq (cHas ha2 (by omega) t _) qa.out).mono ?_
  rintro e w3 ⟨rfl, x3⟩
  have ha3 := ha2.ext x3; clear ha2
  have hb3 := hb2.ext x3; clear hb2
  have X3 := X2.trans x3
  go_wp2_with fail
  refine (bEq (cHas hb3 (by omega) t _) qb.out).mono ?_
  rintro e w4 ⟨rfl, x4⟩
  have ha4 := ha3.ext x4; clear ha3
  have hb4 := hb3.ext x4; clear hb3
  have X4 := X3.trans x4
  go_wp2_with (at_builtin; first | (refine app_row w4 _ x5 _ _ rfl rfl a.length _ a b rfl o5 rfl _ _ rfl (hb4.ext x5) (by omega) ?_; intro A6 cap6 w6 o6 x6) | (refine app_row w4 _ ((Ext.refl _).alloc _) _ _ rfl rfl _ _ [] a rfl (own_empty _) rfl _ _ rfl (ha4.alloc _) (by simp; omega) ?_; intro A5 cap5 w5 o5 x5))
  have rc := Rs.own o6; clear o5 o6 x5
  have ha6 := ha4.ext x6; clear ha4
  have hb6 := hb4.ext x6; clear hb4
  have X6 := X4.trans x6
  go_wp2_with fail
  refine (cAnd ha6 hb6 (by omega) (by omega) _ _).mono ?_
  rintro e w7 ⟨A7, cap7, rfl, r7, x7, _⟩
  have ha7 := ha6.ext x7; clear ha6
  have hb7 := hb6.ext x7; clear hb6
  have hc7 := rc.ext x7
  have X7 := X6.trans x7
  go_wp2_with fail
  refine (bEq (cHas r7 l1 t _) e1.out).mono ?_
  rintro e w8 ⟨rfl, x8⟩
  have ha8 := ha7.ext x8; clear ha7
  have hb8 := hb7.ext x8; clear hb7
  have hc8 := hc7.ext x8; clear hc7
  have hx8 := r7.ext x8
  have X8 := X7.trans x8
  go_wp2_with fail
  refine (cMinus ha8 hb8 (by omega) (by omega) _ _).mono ?_
  rintro e w9 ⟨A9, cap9, rfl, r9, x9, _⟩
  have ha9 := ha8.ext x9; clear ha8
  have hb9 := hb8.ext x9; clear hb8
  have hc9 := hc8.ext x9; clear hc8
  have X9 := X8.trans x9
  go_wp2_with fail
  refine (bEq (cHas r9 l2 t _) e2.out).mono ?_
  rintro e w10 ⟨rfl, x10⟩
  have ha10 := ha9.ext x10; clear ha9
  have hb10 := hb9.ext x10; clear hb9
  have hc10 := hc9.ext x10; clear hc9
  have hx10 := r9.ext x10
  have X10 := X9.trans x10
  go_wp2_with fail
  refine (cNormApp hc10 l3 _).mono ?_
  rintro e w11 ⟨A11, cap11, rfl, r11, x11, _⟩
  have ha11 := ha10.ext x11; clear ha10
  have hb11 := hb10.ext x11; clear hb10
  have hc11 := hc10.ext x11; clear hc10
  have X11 := X10.trans x11
  go_wp2_with fail
  refine (bEq (cHas r11 l4 t _) e3.out).mono ?_
  rintro e w12 ⟨rfl, x12⟩
  have ha12 := ha11.ext x12; clear ha11
  have hb12 := hb11.ext x12; clear hb11
  have hc12 := hc11.ext x12; clear hc11
  have hx12 := r11.ext x12
  have X12 := X11.trans x12
  go_wp2
  go_ret
  exact ⟨rfl, X12⟩

set_option maxRecDepth 100000 in
set_option maxHeartbeats 2000000 in
theorem has03_ft (a b : List Sp.S) (Aa Ab : Option Addr) (ca cb : Nat) (t : Int) (w : World) (ha : Rs w Aa a) (hb : Rs w Ab b) (la : a.length ≤ 100) (lb : b.length ≤ 100) (qa : Sp.has a t = false) (qb : Sp.has b t = true) : Calls Try.prog 7 #[.slice Aa a.length ca, .slice Ab b.length cb, .int .i64 t] w (RetB w true) := by
  have hf : Hid ((decide (a.length ≤ 100) && decide (b.length ≤ 100)) = true) := by show _ = _; simp [la, lb]
  have qa := Lib.hid qa; have qb := Lib.hid qb
  have l1 : (Sp.and_ a b).length ≤ 900000 := by have := and_len a b; omega
  have l2 : (Sp.minus a b).length ≤ 900000 := by have := minus_len a b; omega
  have l3 : (a ++ b).length ≤ 900000 := by simp; omega
  have l4 : (Sp.norm (a ++ b)).length ≤ 900000 := by have := Sp.norm_length (a ++ b); omega
  have e1 : Hid (Sp.has (Sp.and_ a b) t = false) := by show _ = _; rw [has_and, qa.out, qb.out]; rfl
  have e2 : Hid (Sp.has (Sp.minus a b) t = false) := by show _ = _; rw [has_minus, qa.out, qb.out]; rfl
  have e3 : Hid (Sp.has (Sp.norm (a ++ b)) t = true) := by show _ = _; rw [has_both, qa.out, qb.out]; rfl
  go_enter Try.func7, Try.ntmps7
  go_wp2_with fail
  refine (awake03 _).mono ?_
  rintro e w1 ⟨rfl, x1⟩
  have ha1 := ha.ext x1; clear ha
  have hb1 := hb.ext x1; clear hb
  have X1 := (Ext.refl _).trans x1
  go_wp2_with fail
  refine (bEq (few03 _ _ _ _ _ _ _) hf.out).mono ?_
  rintro e w2 ⟨rfl, x2⟩
  have ha2 := ha1.ext x2; clear ha1
  have hb2 := hb1.ext x2; clear hb1
  have X2 := X1.trans x2
  go_wp2_with fail
  refine (bEq (cHas ha2 (by omega) t _) qa.out).mono ?_
  rintro e w3 ⟨rfl, x3⟩
  have ha3 := ha2.ext x3; clear ha2
  have hb3 := hb2.ext x3; clear hb2
  have X3 := X2.trans x3
  go_wp2_with fail
  refine (bEq (cHas hb3 (by omega) t _) qb.out).mono ?_
  rintro e w4 ⟨rfl, x4⟩
  have ha4 := ha3.ext x4; clear ha3
  have hb4 := hb3.ext x4; clear hb3
  have X4 := X3.trans x4
  go_wp2_with (at_builtin; first | (refine app_row w4 _ x5 _ _ rfl rfl a.length _ a b rfl o5 rfl _ _ rfl (hb4.ext x5) (by omega) ?_; intro A6 cap6 w6 o6 x6) | (refine app_row w4 _ ((Ext.refl _).alloc _) _ _ rfl rfl _ _ [] a rfl (own_empty _) rfl _ _ rfl (ha4.alloc _) (by simp; omega) ?_; intro A5 cap5 w5 o5 x5))
  have rc := Rs.own o6; clear o5 o6 x5
  have ha6 := ha4.ext x6; clear ha4
  have hb6 := hb4.ext x6; clear hb4
  have X6 := X4.trans x6
  go_wp2_with fail
  refine (cAnd ha6 hb6 (by omega) (by omega) _ _).mono ?_
  rintro e w7 ⟨A7, cap7, rfl, r7, x7, _⟩
  have ha7 := ha6.ext x7; clear ha6
  have hb7 := hb6.ext x7; clear hb6
  have hc7 := rc.ext x7
  have X7 := X6.trans x7
  go_wp2_with fail
  refine (bEq (cHas r7 l1 t _) e1.out).mono ?_
  rintro e w8 ⟨rfl, x8⟩
  have ha8 := ha7.ext x8; clear ha7
  have hb8 := hb7.ext x8; clear hb7
  have hc8 := hc7.ext x8; clear hc7
  have hx8 := r7.ext x8
  have X8 := X7.trans x8
  go_wp2_with fail
  refine (cMinus ha8 hb8 (by omega) (by omega) _ _).mono ?_
  rintro e w9 ⟨A9, cap9, rfl, r9, x9, _⟩
  have ha9 := ha8.ext x9; clear ha8
  have hb9 := hb8.ext x9; clear hb8
  have hc9 := hc8.ext x9; clear hc8
  have X9 := X8.trans x9
  go_wp2_with fail
  refine (bEq (cHas r9 l2 t _) e2.out).mono ?_
  rintro e w10 ⟨rfl, x10⟩
  have ha10 := ha9.ext x10; clear ha9
  have hb10 := hb9.ext x10; clear hb9
  have hc10 := hc9.ext x10; clear hc9
  have hx10 := r9.ext x10
  have X10 := X9.trans x10
  go_wp2_with fail
  refine (cNormApp hc10 l3 _).mono ?_
  rintro e w11 ⟨A11, cap11, rfl, r11, x11, _⟩
  have ha11 := ha10.ext x11; clear ha10
  have hb11 := hb10.ext x11; clear hb10
  have hc11 := hc10.ext x11; clear hc10
  have X11 := X10.trans x11
  go_wp2_with fail
  refine (bEq (cHas r11 l4 t _) e3.out).mono ?_
  rintro e w12 ⟨rfl, x12⟩
  have ha12 := ha11.ext x12; clear ha11
  have hb12 := hb11.ext x12; clear hb11
  have hc12 := hc11.ext x12; clear hc11
  have hx12 := r11.ext x12
  have X12 := X11.trans x12
  go_wp2
  go_ret
  exact ⟨rfl, X12⟩

set_option maxRecDepth 100000 in
set_option maxHeartbeats 2000000 in
theorem has03_tf (a b : List Sp.S) (Aa Ab : Option Addr) (ca cb : Nat) (t : Int) (w : World) (ha : Rs w Aa a) (hb : Rs w Ab b) (la : a.length ≤ 100) (lb : b.length ≤ 100) (qa : Sp.has a t = true) (qb : Sp.has b t = false) : Calls Try.prog 7 #[.slice Aa a.length ca, .slice Ab b.length cb, .int .i64 t] w (RetB w true) := by
  have hf : Hid ((decide (a.length ≤ 100) && decide (b.length ≤ 100)) = true) := by show _ = _; simp [la, lb]
  obtain ⟨t0, t1⟩ := has_in qa
  have qa := Lib.hid qa; have qb := Lib.hid qb
  have l1 : (Sp.and_ a b).length ≤ 900000 := by have := and_len a b; omega
  have l2 : (Sp.minus a b).length ≤ 900000 := by have := minus_len a b; omega
  have l3 : (a ++ b).length ≤ 900000 := by simp; omega
  have l4 : (Sp.norm (a ++ b)).length ≤ 900000 := by have := Sp.norm_length (a ++ b); omega
  have e1 : Hid (Sp.has (Sp.and_ a b) t = false) := by show _ = _; rw [has_and, qa.out, qb.out]; rfl
  have e2 : Hid (Sp.has (Sp.minus a b) t = true) := by show _ = _; rw [has_minus, qa.out, qb.out]; rfl
  have e3 : Hid (Sp.has (Sp.norm (a ++ b)) t = true) := by show _ = _; rw [has_both, qa.out, qb.out]; rfl
  go_enter Try.func7, Try.ntmps7
  go_wp2_with fail
  refine (awake03 _).mono ?_
  rintro e w1 ⟨rfl, x1⟩
  have ha1 := ha.ext x1; clear ha
  have hb1 := hb.ext x1; clear hb
  have X1 := (Ext.refl _).trans x1
  go_wp2_with fail
  refine (bEq (few03 _ _ _ _ _ _ _) hf.out).mono ?_
  rintro e w2 ⟨rfl, x2⟩
  have ha2 := ha1.ext x2; clear ha1
  have hb2 := hb1.ext x2; clear hb1
  have X2 := X1.trans x2
  go_wp2_with fail
  refine (bEq (cHas ha2 (by omega) t _) qa.out).mono ?_
  rintro e w3 ⟨rfl, x3⟩
  have ha3 := ha2.ext x3; clear ha2
  have hb3 := hb2.ext x3; clear hb2
  have X3 := X2.trans x3
  go_wp2_with fail
  refine (bEq (cHas hb3 (by omega) t _) qb.out).mono ?_
  rintro e w4 ⟨rfl, x4⟩
  have ha4 := ha3.ext x4; clear ha3
  have hb4 := hb3.ext x4; clear hb3
  have X4 := X3.trans x4
  go_wp2_with (at_builtin; first | (refine app_row w4 _ x5 _ _ rfl rfl a.length _ a b rfl o5 rfl _ _ rfl (hb4.ext x5) (by omega) ?_; intro A6 cap6 w6 o6 x6) | (refine app_row w4 _ ((Ext.refl _).alloc _) _ _ rfl rfl _ _ [] a rfl (own_empty _) rfl _ _ rfl (ha4.alloc _) (by simp; omega) ?_; intro A5 cap5 w5 o5 x5))
  have rc := Rs.own o6; clear o5 o6 x5
  have ha6 := ha4.ext x6; clear ha4
  have hb6 := hb4.ext x6; clear hb4
  have X6 := X4.trans x6
  go_wp2_with fail
  refine (cAnd ha6 hb6 (by omega) (by omega) _ _).mono ?_
  rintro e w7 ⟨A7, cap7, rfl, r7, x7, _⟩
  have ha7 := ha6.ext x7; clear ha6
  have hb7 := hb6.ext x7; clear hb6
  have hc7 := rc.ext x7
  have X7 := X6.trans x7
  go_wp2_with fail
  refine (bEq (cHas r7 l1 t _) e1.out).mono ?_
  rintro e w8 ⟨rfl, x8⟩
  have ha8 := ha7.ext x8; clear ha7
  have hb8 := hb7.ext x8; clear hb7
  have hc8 := hc7.ext x8; clear hc7
  have hx8 := r7.ext x8
  have X8 := X7.trans x8
  go_wp2_with fail
  refine (cMinus ha8 hb8 (by omega) (by omega) _ _).mono ?_
  rintro e w9 ⟨A9, cap9, rfl, r9, x9, _⟩
  have ha9 := ha8.ext x9; clear ha8
  have hb9 := hb8.ext x9; clear hb8
  have hc9 := hc8.ext x9; clear hc8
  have X9 := X8.trans x9
  go_wp2_with fail
  refine (bEq (cHas r9 l2 t _) e2.out).mono ?_
  rintro e w10 ⟨rfl, x10⟩
  have ha10 := ha9.ext x10; clear ha9
  have hb10 := hb9.ext x10; clear hb9
  have hc10 := hc9.ext x10; clear hc9
  have hx10 := r9.ext x10
  have X10 := X9.trans x10
  go_wp2_with fail
  refine (cNormApp hc10 l3 _).mono ?_
  rintro e w11 ⟨A11, cap11, rfl, r11, x11, _⟩
  have ha11 := ha10.ext x11; clear ha10
  have hb11 := hb10.ext x11; clear hb10
  have hc11 := hc10.ext x11; clear hc10
  have X11 := X10.trans x11
  go_wp2_with fail
  refine (bEq (cHas r11 l4 t _) e3.out).mono ?_
  rintro e w12 ⟨rfl, x12⟩
  have ha12 := ha11.ext x12; clear ha11
  have hb12 := hb11.ext x12; clear hb11
  have hc12 := hc11.ext x12; clear hc11
  have hx12 := r11.ext x12
  have X12 := X11.trans x12
  go_wp2
  go_ret
  exact ⟨rfl, X12⟩

set_option maxRecDepth 100000 in
set_option maxHeartbeats 2000000 in
theorem has03_tt (a b : List Sp.S) (Aa Ab : Option Addr) (ca cb : Nat) (t : Int) (w : World) (ha : Rs w Aa a) (hb : Rs w Ab b) (la : a.length ≤ 100) (lb : b.length ≤ 100) (qa : Sp.has a t = true) (qb : Sp.has b t = true) : Calls Try.prog 7 #[.slice Aa a.length ca, .slice Ab b.length cb, .int .i64 t] w (RetB w true) := by
  have hf : Hid ((decide (a.length ≤ 100) && decide (b.length ≤ 100)) = true) := by show _ = _; simp [la, lb]
  obtain ⟨t0, t1⟩ := has_in qa
  have qa := Lib.hid qa; have qb := Lib.hid qb
  have l1 : (Sp.and_ a b).length ≤ 900000 := by have := and_len a b; omega
  have l2 : (Sp.minus a b).length ≤ 900000 := by have := minus_len a b; omega
  have l3 : (a ++ b).length ≤ 900000 := by simp; omega
  have l4 : (Sp.norm (a ++ b)).length ≤ 900000 := by have := Sp.norm_length (a ++ b); omega
  have e1 : Hid (Sp.has (Sp.and_ a b) t = true) := by show _ = _; rw [has_and, qa.out, qb.out]; rfl
  have e2 : Hid (Sp.has (Sp.minus a b) t = false) := by show _ = _; rw [has_minus, qa.out, qb.out]; rfl
  have e3 : Hid (Sp.has (Sp.norm (a ++ b)) t = true) := by show _ = _; rw [has_both, qa.out, qb.out]; rfl
  go_enter Try.func7, Try.ntmps7
  go_wp2_with fail
  refine (awake03 _).mono ?_
  rintro e w1 ⟨rfl, x1⟩
  have ha1 := ha.ext x1; clear ha
  have hb1 := hb.ext x1; clear hb
  have X1 := (Ext.refl _).trans x1
  go_wp2_with fail
  refine (bEq (few03 _ _ _ _ _ _ _) hf.out).mono ?_
  rintro e w2 ⟨rfl, x2⟩
  have ha2 := ha1.ext x2; clear ha1
  have hb2 := hb1.ext x2; clear hb1
  have X2 := X1.trans x2
  go_wp2_with fail
  refine (bEq (cHas ha2 (by omega) t _) qa.out).mono ?_
  rintro e w3 ⟨rfl, x3⟩
  have ha3 := ha2.ext x3; clear ha2
  have hb3 := hb2.ext x3; clear hb2
  have X3 := X2.trans x3
  go_wp2_with fail
  refine (bEq (cHas hb3 (by omega) t _) qb.out).mono ?_
  rintro e w4 ⟨rfl, x4⟩
  have ha4 := ha3.ext x4; clear ha3
  have hb4 := hb3.ext x4; clear hb3
  have X4 := X3.trans x4
  go_wp2_with (at_builtin; first | (refine app_row w4 _ x5 _ _ rfl rfl a.length _ a b rfl o5 rfl _ _ rfl (hb4.ext x5) (by omega) ?_; intro A6 cap6 w6 o6 x6) | (refine app_row w4 _ ((Ext.refl _).alloc _) _ _ rfl rfl _ _ [] a rfl (own_empty _) rfl _ _ rfl (ha4.alloc _) (by simp; omega) ?_; intro A5 cap5 w5 o5 x5))
  have rc := Rs.own o6; clear o5 o6 x5
  have ha6 := ha4.ext x6; clear ha4
  have hb6 := hb4.ext x6; clear hb4
  have X6 := X4.trans x6
  go_wp2_with fail
  refine (cAnd ha6 hb6 (by omega) (by omega) _ _).mono ?_
  rintro e w7 ⟨A7, cap7, rfl, r7, x7, _⟩
  have ha7 := ha6.ext x7; clear ha6
  have hb7 := hb6.ext x7; clear hb6
  have hc7 := rc.ext x7
  have X7 := X6.trans x7
  go_wp2_with fail
  refine (bEq (cHas r7 l1 t _) e1.out).mono ?_
  rintro e w8 ⟨rfl, x8⟩
  have ha8 := ha7.ext x8; clear ha7
  have hb8 := hb7.ext x8; clear hb7
  have hc8 := hc7.ext x8; clear hc7
  have hx8 := r7.ext x8
  have X8 := X7.trans x8
  go_wp2_with fail
  refine (cMinus ha8 hb8 (by omega) (by omega) _ _).mono ?_
  rintro e w9 ⟨A9, cap9, rfl, r9, x9, _⟩
  have ha9 := ha8.ext x9; clear ha8
  have hb9 := hb8.ext x9; clear hb8
  have hc9 := hc8.ext x9; clear hc8
  have X9 := X8.trans x9
  go_wp2_with fail
  refine (bEq (cHas r9 l2 t _) e2.out).mono ?_
  rintro e w10 ⟨rfl, x10⟩
  have ha10 := ha9.ext x10; clear ha9
  have hb10 := hb9.ext x10; clear hb9
  have hc10 := hc9.ext x10; clear hc9
  have hx10 := r9.ext x10
  have X10 := X9.trans x10
  go_wp2_with fail
  refine (cNormApp hc10 l3 _).mono ?_
  rintro e w11 ⟨A11, cap11, rfl, r11, x11, _⟩
  have ha11 := ha10.ext x11; clear ha10
  have hb11 := hb10.ext x11; clear hb10
  have hc11 := hc10.ext x11; clear hc10
  have X11 := X10.trans x11
  go_wp2_with fail
  refine (bEq (cHas r11 l4 t _) e3.out).mono ?_
  rintro e w12 ⟨rfl, x12⟩
  have ha12 := ha11.ext x12; clear ha11
  have hb12 := hb11.ext x12; clear hb11
  have hc12 := hc11.ext x12; clear hc11
  have hx12 := r11.ext x12
  have X12 := X11.trans x12
  go_wp2
  go_ret
  exact ⟨rfl, X12⟩

set_option maxRecDepth 100000 in
theorem has03 (a b : List Sp.S) (Aa Ab : Option Addr) (ca cb : Nat) (t : Int) (w : World) (ha : Rs w Aa a) (hb : Rs w Ab b) : Calls Try.prog 7 #[.slice Aa a.length ca, .slice Ab b.length cb, .int .i64 t] w (RetB w true) := by
  by_cases hf : (decide (a.length ≤ 100) && decide (b.length ≤ 100)) = true
  · have la : a.length ≤ 100 := by simp at hf; omega
    have lb : b.length ≤ 100 := by simp at hf; omega
    cases qa : Sp.has a t <;> cases qb : Sp.has b t
    · exact has03_ff a b Aa Ab ca cb t w ha hb la lb qa qb
    · exact has03_ft a b Aa Ab ca cb t w ha hb la lb qa qb
    · exact has03_tf a b Aa Ab ca cb t w ha hb la lb qa qb
    · exact has03_tt a b Aa Ab ca cb t w ha hb la lb qa qb
  · have hf := Lib.hid (Bool.eq_false_iff.2 hf)
    go_enter Try.func7, Try.ntmps7
    go_wp2_with fail
    refine (awake03 _).mono ?_
    rintro e w1 ⟨rfl, x1⟩
    go_wp2_with fail
    refine (bEq (few03 _ _ _ _ _ _ _) hf.out).mono ?_
    rintro e w2 ⟨rfl, x2⟩
    go_wp2
    go_ret
    exact ⟨rfl, x1.trans x2⟩
end Go.Proofs.Ytnhmibfgaoealaa
