/-
  The law SpanEnds of lumperlaw03 answers true.
-/
import Derived.Test.YtnhmibfgaoealaaWz
namespace Go.Proofs.Ytnhmibfgaoealaa
open Go.RowKit

theorem Rs.drewN {w : World} {A : Option Addr} {l : List Sp.S} (h : Rs w A l) (n : Nat) : Rs (w.drewN n) A l := h.ext ((Ext.refl w).drewN n)

theorem and_first (a : List Sp.S) (n : Int) : Sp.and_ a (Sp.first a n) = Sp.first a n := Sp.Plain.uniq (Sp.and_plain _ _) (Sp.first_plain _ _) fun t => by
  rw [Sp.and_has, Sp.first_has, Sp.norm_has]; cases Sp.okT t <;> cases Sp.hasB a t <;> simp
theorem size_rest (a : List Sp.S) (n : Int) : Sp.size (Sp.minus a (Sp.first a n)) = Sp.size a - max 0 (min n (Sp.size a)) := by
  have h1 := size_split a (Sp.first a n)
  rw [and_first, Sp.size_first] at h1
  omega
theorem size_last (a : List Sp.S) (n : Int) : Sp.size (Sp.last a n) = max 0 (min n (Sp.size a)) := by
  have h0 := Sp.size_nonneg a
  have h1 := Sp.size_le a
  unfold Sp.last
  split
  · have : Sp.size [] = 0 := rfl
    omega
  · rw [size_rest]
    omega
theorem first_size (a : List Sp.S) : Sp.first a (Sp.size a) = Sp.norm a := Sp.Plain.uniq (Sp.first_plain _ _) (Sp.norm_plain _) fun t => by
  rw [Sp.first_has]
  cases h : Sp.hasB (Sp.norm a) t
  · rfl
  · have := Sp.upTo_strict (Sp.norm_plain a) h
    simp only [Bool.true_and, decide_eq_true_eq]
    exact this
theorem last_minus (a : List Sp.S) (n : Int) : Sp.minus a (Sp.first a (Sp.size a - max 0 (min n (Sp.size a)))) = Sp.last a n := by
  have h0 := Sp.size_nonneg a
  have h1 := Sp.size_le a
  unfold Sp.last
  split
  · rw [show Sp.size a - max 0 (min n (Sp.size a)) = Sp.size a from by omega, first_size]
    exact Sp.Plain.uniq (Sp.minus_plain _ _) Sp.plain_nil fun t => by
      rw [Sp.minus_has, Sp.norm_has, Sp.hasB_nil]; cases Sp.okT t <;> cases Sp.hasB a t <;> rfl
  · by_cases h : n ≤ Sp.size a
    · rw [show Sp.size a - max 0 (min n (Sp.size a)) = Sp.size a - min n Sp.MT from by omega]
    · have e1 : Sp.first a (Sp.size a - max 0 (min n (Sp.size a))) = [] := Sp.firstP_nonpos _ (by omega)
      have e2 : Sp.first a (Sp.size a - min n Sp.MT) = [] := Sp.firstP_nonpos _ (by omega)
      rw [e1, e2]
theorem ends_ahead (a : List Sp.S) (n : Int) {m : Nat} {x y : Sp.S} (hx : (Sp.first a n)[m]? = some x) (hy : (Sp.minus a (Sp.first a n))[0]? = some y) : x.2 ≤ y.1 := by
  have hxm := List.mem_of_getElem? hx
  have hym := List.mem_of_getElem? hy
  obtain ⟨_, bx, _⟩ := (Sp.first_plain a n).bd x hxm
  obtain ⟨_, by_, _⟩ := (Sp.minus_plain a (Sp.first a n)).bd y hym
  by_cases h : y.1 < x.2
  · exfalso
    have h1 : Sp.hasB (Sp.minus a (Sp.first a n)) y.1 = true := Sp.hasB_iff.2 ⟨y, hym, by omega, by omega⟩
    have h2 : Sp.hasB (Sp.first a n) (x.2 - 1) = true := Sp.hasB_iff.2 ⟨x, hxm, by omega, by omega⟩
    rw [Sp.minus_has, Sp.first_has, Sp.norm_has] at h1
    rw [Sp.first_has] at h2
    simp only [Bool.and_eq_true, decide_eq_true_eq] at h2
    have h3 := Sp.upTo_mono (Sp.norm a) (show y.1 ≤ x.2 - 1 by omega)
    have h4 : decide (Sp.upTo (Sp.norm a) y.1 < n) = true := decide_eq_true (by omega)
    rw [h4] at h1
    revert h1
    cases Sp.okT y.1 <;> cases Sp.hasB a y.1 <;> simp
  · omega

set_option maxRecDepth 100000 in
set_option maxHeartbeats 1000000 in
set_option linter.unusedVariables false in
theorem ends_A0 (a X Y L : List Sp.S) (Aa : Option Addr) (ca : Nat) (n s K : Int) (w : World) (ha : Rs w Aa a) (hn : B64 n) (la : a.length ≤ 100) (hK : min (max n 0) s = K) (k0 : 0 ≤ K) (k1 : K ≤ s)
    (hs : Hid (Sp.size a = s)) (s0 : 0 ≤ s) (s1 : s ≤ 32054400) (hX : Hid (Sp.first a n = X)) (hY : Hid (Sp.minus a X = Y)) (hL : Hid (Sp.last a n = L)) (hM : Hid (Sp.minus a (Sp.first a (s - K)) = L))
    (e1 : Hid (Sp.size X = K)) (e2 : Hid (Sp.size Y = s - K)) (e3 : Hid (Sp.size L = K)) (lX : X.length ≤ 900000) (lY : Y.length ≤ 900000) (lL : L.length ≤ 900000) (lZ : (Sp.first a (s - K)).length ≤ 900000)
    (hah : Hid (∀ (m : Nat) (x y : Sp.S), X[m]? = some x → Y[0]? = some y → x.2 ≤ y.1)) (hc : Hid (X.length = 0)) : Calls Try.prog 10 #[.slice Aa a.length ca, .int .i64 n] w (RetB w true) := by
  have hb := Lib.hid hn
  unfold B64 at hn
  have hl : (a.length : Int) ≤ 100 := by omega
  have g1 : ((X.length : Int) == 0) = true := by have := hc.out; simp [this]
  go_enter Try.func10, Try.ntmps10
  go_wp2_with fail
  refine (awake03 _).mono ?_
  rintro e w1 ⟨rfl, x1⟩
  have ha1 := ha.ext x1; clear ha
  have X1 := (Ext.refl _).trans x1
  go_wp2_with fail
  refine ((hX.out ▸ cFirst ha1 (by omega) hb.out _ : Calls _ _ _ _ (RetS _ X))).mono ?_
  rintro e w2 ⟨A2, cap2, rfl, r2, x2, _⟩
  have ha2 := ha1.ext x2; clear ha1
  have X2 := X1.trans x2
  go_wp2_with fail
  refine ((hY.out ▸ cMinus ha2 r2 (by omega) lX _ _ : Calls _ _ _ _ (RetS _ Y))).mono ?_
  rintro e w3 ⟨A3, cap3, rfl, r3, x3, _⟩
  have ha3 := ha2.ext x3; clear ha2
  have hx3 := r2.ext x3
  have X3 := X2.trans x3
  go_wp2_with fail
  refine (iEq (cSize ha3 (by omega) _) (n' := s) hs.out).mono ?_
  rintro e w4 ⟨rfl, x4⟩
  have ha4 := ha3.ext x4; clear ha3
  have hx4 := hx3.ext x4; clear hx3
  have hy4 := r3.ext x4
  have X4 := X3.trans x4
  go_wp2_with fail
  go_quiet (fail)
  go_wp2_with fail
  refine ((hL.out ▸ cLast (ha4.drewN _) (by omega) hb.out _ : Calls _ _ _ _ (RetS _ L))).mono ?_
  rintro e w5 ⟨A5, cap5, rfl, r5, x5, _⟩
  have ha5 := (ha4.drewN _).ext x5
  have hx5 := (hx4.drewN _).ext x5
  have hy5 := (hy4.drewN _).ext x5
  have X5 := (X4.drewN _).trans x5
  go_wp2_with fail
  refine (iEq (cSize hx5 lX _) (n' := K) e1.out).mono ?_
  rintro e w6 ⟨rfl, x6⟩
  have ha6 := ha5.ext x6; clear ha5
  have hx6 := hx5.ext x6; clear hx5
  have hy6 := hy5.ext x6; clear hy5
  have hl6 := r5.ext x6
  have X6 := X5.trans x6
  go_wp2_with fail
  refine (iEq (cSize hy6 lY _) (n' := s - K) e2.out).mono ?_
  rintro e w7 ⟨rfl, x7⟩
  have ha7 := ha6.ext x7; clear ha6
  have hx7 := hx6.ext x7; clear hx6
  have hy7 := hy6.ext x7; clear hy6
  have hl7 := hl6.ext x7; clear hl6
  have X7 := X6.trans x7
  go_wp2_with fail
  refine (iEq (cSize hl7 lL _) (n' := K) e3.out).mono ?_
  rintro e w8 ⟨rfl, x8⟩
  have ha8 := ha7.ext x8; clear ha7
  have hx8 := hx7.ext x8; clear hx7
  have hy8 := hy7.ext x8; clear hy7
  have hl8 := hl7.ext x8; clear hl7
  have X8 := X7.trans x8
  go_wp2_with fail
  refine (cFirst ha8 (by omega) (n := s - K) (by unfold B64; omega) _).mono ?_
  rintro e w9 ⟨A9, cap9, rfl, r9, x9, _⟩
  have ha9 := ha8.ext x9; clear ha8
  have hx9 := hx8.ext x9; clear hx8
  have hy9 := hy8.ext x9; clear hy8
  have hl9 := hl8.ext x9; clear hl8
  have X9 := X8.trans x9
  go_wp2_with fail
  refine ((hM.out ▸ cMinus ha9 r9 (by omega) lZ _ _ : Calls _ _ _ _ (RetS _ L))).mono ?_
  rintro e w10 ⟨A10, cap10, rfl, r10, x10, _⟩
  have ha10 := ha9.ext x10; clear ha9
  have hx10 := hx9.ext x10; clear hx9
  have hy10 := hy9.ext x10; clear hy9
  have hl10 := hl9.ext x10; clear hl9
  have hz10 := r9.ext x10
  have X10 := X9.trans x10
  go_wp2_with fail
  refine (bEq (cSame hl10 r10 lL _ _) (decide_eq_true rfl)).mono ?_
  rintro e w11 ⟨rfl, x11⟩
  have ha11 := ha10.ext x11; clear ha10
  have hx11 := hx10.ext x11; clear hx10
  have hy11 := hy10.ext x11; clear hy10
  have hl11 := hl10.ext x11; clear hl10
  have hz11 := hz10.ext x11; clear hz10
  have hu11 := r10.ext x11
  have X11 := X10.trans x11
  go_wp2
  go_ret
  exact ⟨rfl, X11⟩

set_option maxRecDepth 100000 in
set_option maxHeartbeats 1000000 in
set_option linter.unusedVariables false in
theorem ends_A1 (a X Y L : List Sp.S) (Aa : Option Addr) (ca : Nat) (n s K : Int) (w : World) (ha : Rs w Aa a) (hn : B64 n) (la : a.length ≤ 100) (hK : min (max n 0) s = K) (k0 : 0 ≤ K) (k1 : K ≤ s)
    (hs : Hid (Sp.size a = s)) (s0 : 0 ≤ s) (s1 : s ≤ 32054400) (hX : Hid (Sp.first a n = X)) (hY : Hid (Sp.minus a X = Y)) (hL : Hid (Sp.last a n = L)) (hM : Hid (Sp.minus a (Sp.first a (s - K)) = L))
    (e1 : Hid (Sp.size X = K)) (e2 : Hid (Sp.size Y = s - K)) (e3 : Hid (Sp.size L = K)) (lX : X.length ≤ 900000) (lY : Y.length ≤ 900000) (lL : L.length ≤ 900000) (lZ : (Sp.first a (s - K)).length ≤ 900000)
    (hah : Hid (∀ (m : Nat) (x y : Sp.S), X[m]? = some x → Y[0]? = some y → x.2 ≤ y.1)) (hc : Hid (X.length ≠ 0 ∧ Y.length = 0)) : Calls Try.prog 10 #[.slice Aa a.length ca, .int .i64 n] w (RetB w true) := by
  have hb := Lib.hid hn
  unfold B64 at hn
  have hl : (a.length : Int) ≤ 100 := by omega
  have g1 : ((X.length : Int) == 0) = false := by have := hc.out.1; exact beq_false_of_ne (by omega)
  have g2 : ((Y.length : Int) == 0) = true := by have := hc.out.2; simp [this]
  go_enter Try.func10, Try.ntmps10
  go_wp2_with fail
  refine (awake03 _).mono ?_
  rintro e w1 ⟨rfl, x1⟩
  have ha1 := ha.ext x1; clear ha
  have X1 := (Ext.refl _).trans x1
  go_wp2_with fail
  refine ((hX.out ▸ cFirst ha1 (by omega) hb.out _ : Calls _ _ _ _ (RetS _ X))).mono ?_
  rintro e w2 ⟨A2, cap2, rfl, r2, x2, _⟩
  have ha2 := ha1.ext x2; clear ha1
  have X2 := X1.trans x2
  go_wp2_with fail
  refine ((hY.out ▸ cMinus ha2 r2 (by omega) lX _ _ : Calls _ _ _ _ (RetS _ Y))).mono ?_
  rintro e w3 ⟨A3, cap3, rfl, r3, x3, _⟩
  have ha3 := ha2.ext x3; clear ha2
  have hx3 := r2.ext x3
  have X3 := X2.trans x3
  go_wp2_with fail
  refine (iEq (cSize ha3 (by omega) _) (n' := s) hs.out).mono ?_
  rintro e w4 ⟨rfl, x4⟩
  have ha4 := ha3.ext x4; clear ha3
  have hx4 := hx3.ext x4; clear hx3
  have hy4 := r3.ext x4
  have X4 := X3.trans x4
  go_wp2_with fail
  go_quiet (fail)
  go_wp2_with fail
  refine ((hL.out ▸ cLast (ha4.drewN _) (by omega) hb.out _ : Calls _ _ _ _ (RetS _ L))).mono ?_
  rintro e w5 ⟨A5, cap5, rfl, r5, x5, _⟩
  have ha5 := (ha4.drewN _).ext x5
  have hx5 := (hx4.drewN _).ext x5
  have hy5 := (hy4.drewN _).ext x5
  have X5 := (X4.drewN _).trans x5
  go_wp2_with fail
  refine (iEq (cSize hx5 lX _) (n' := K) e1.out).mono ?_
  rintro e w6 ⟨rfl, x6⟩
  have ha6 := ha5.ext x6; clear ha5
  have hx6 := hx5.ext x6; clear hx5
  have hy6 := hy5.ext x6; clear hy5
  have hl6 := r5.ext x6
  have X6 := X5.trans x6
  go_wp2_with fail
  refine (iEq (cSize hy6 lY _) (n' := s - K) e2.out).mono ?_
  rintro e w7 ⟨rfl, x7⟩
  have ha7 := ha6.ext x7; clear ha6
  have hx7 := hx6.ext x7; clear hx6
  have hy7 := hy6.ext x7; clear hy6
  have hl7 := hl6.ext x7; clear hl6
  have X7 := X6.trans x7
  go_wp2_with fail
  refine (iEq (cSize hl7 lL _) (n' := K) e3.out).mono ?_
  rintro e w8 ⟨rfl, x8⟩
  have ha8 := ha7.ext x8; clear ha7
  have hx8 := hx7.ext x8; clear hx7
  have hy8 := hy7.ext x8; clear hy7
  have hl8 := hl7.ext x8; clear hl7
  have X8 := X7.trans x8
  go_wp2_with fail
  refine (cFirst ha8 (by omega) (n := s - K) (by unfold B64; omega) _).mono ?_
  rintro e w9 ⟨A9, cap9, rfl, r9, x9, _⟩
  have ha9 := ha8.ext x9; clear ha8
  have hx9 := hx8.ext x9; clear hx8
  have hy9 := hy8.ext x9; clear hy8
  have hl9 := hl8.ext x9; clear hl8
  have X9 := X8.trans x9
  go_wp2_with fail
  refine ((hM.out ▸ cMinus ha9 r9 (by omega) lZ _ _ : Calls _ _ _ _ (RetS _ L))).mono ?_
  rintro e w10 ⟨A10, cap10, rfl, r10, x10, _⟩
  have ha10 := ha9.ext x10; clear ha9
  have hx10 := hx9.ext x10; clear hx9
  have hy10 := hy9.ext x10; clear hy9
  have hl10 := hl9.ext x10; clear hl9
  have hz10 := r9.ext x10
  have X10 := X9.trans x10
  go_wp2_with fail
  refine (bEq (cSame hl10 r10 lL _ _) (decide_eq_true rfl)).mono ?_
  rintro e w11 ⟨rfl, x11⟩
  have ha11 := ha10.ext x11; clear ha10
  have hx11 := hx10.ext x11; clear hx10
  have hy11 := hy10.ext x11; clear hy10
  have hl11 := hl10.ext x11; clear hl10
  have hz11 := hz10.ext x11; clear hz10
  have hu11 := r10.ext x11
  have X11 := X10.trans x11
  go_wp2
  go_ret
  exact ⟨rfl, X11⟩

set_option maxRecDepth 100000 in
set_option maxHeartbeats 1000000 in
set_option linter.unusedVariables false in
theorem ends_A2 (a X Y L : List Sp.S) (Aa : Option Addr) (ca : Nat) (n s K : Int) (w : World) (ha : Rs w Aa a) (hn : B64 n) (la : a.length ≤ 100) (hK : min (max n 0) s = K) (k0 : 0 ≤ K) (k1 : K ≤ s)
    (hs : Hid (Sp.size a = s)) (s0 : 0 ≤ s) (s1 : s ≤ 32054400) (hX : Hid (Sp.first a n = X)) (hY : Hid (Sp.minus a X = Y)) (hL : Hid (Sp.last a n = L)) (hM : Hid (Sp.minus a (Sp.first a (s - K)) = L))
    (e1 : Hid (Sp.size X = K)) (e2 : Hid (Sp.size Y = s - K)) (e3 : Hid (Sp.size L = K)) (lX : X.length ≤ 900000) (lY : Y.length ≤ 900000) (lL : L.length ≤ 900000) (lZ : (Sp.first a (s - K)).length ≤ 900000)
    (hah : Hid (∀ (m : Nat) (x y : Sp.S), X[m]? = some x → Y[0]? = some y → x.2 ≤ y.1)) (hc : Hid (X.length ≠ 0 ∧ Y.length ≠ 0)) : Calls Try.prog 10 #[.slice Aa a.length ca, .int .i64 n] w (RetB w true) := by
  have hb := Lib.hid hn
  unfold B64 at hn
  have hl : (a.length : Int) ≤ 100 := by omega
  have g1 : ((X.length : Int) == 0) = false := by have := hc.out.1; exact beq_false_of_ne (by omega)
  have g2 : ((Y.length : Int) == 0) = false := by have := hc.out.2; exact beq_false_of_ne (by omega)
  go_enter Try.func10, Try.ntmps10
  go_wp2_with fail
  refine (awake03 _).mono ?_
  rintro e w1 ⟨rfl, x1⟩
  have ha1 := ha.ext x1; clear ha
  have X1 := (Ext.refl _).trans x1
  go_wp2_with fail
  refine ((hX.out ▸ cFirst ha1 (by omega) hb.out _ : Calls _ _ _ _ (RetS _ X))).mono ?_
  rintro e w2 ⟨A2, cap2, rfl, r2, x2, _⟩
  have ha2 := ha1.ext x2; clear ha1
  have X2 := X1.trans x2
  go_wp2_with fail
  refine ((hY.out ▸ cMinus ha2 r2 (by omega) lX _ _ : Calls _ _ _ _ (RetS _ Y))).mono ?_
  rintro e w3 ⟨A3, cap3, rfl, r3, x3, _⟩
  have ha3 := ha2.ext x3; clear ha2
  have hx3 := r2.ext x3
  have X3 := X2.trans x3
  go_wp2_with fail
  refine (iEq (cSize ha3 (by omega) _) (n' := s) hs.out).mono ?_
  rintro e w4 ⟨rfl, x4⟩
  have ha4 := ha3.ext x4; clear ha3
  have hx4 := hx3.ext x4; clear hx3
  have hy4 := r3.ext x4
  have X4 := X3.trans x4
  obtain ⟨m, hm⟩ : ∃ m, X.length = m + 1 := ⟨X.length - 1, by have := hc.out; omega⟩
  replace hm := Lib.hid hm
  obtain ⟨b1, f1, p1, q1, rfl, _, hx1, _, c1⟩ := Rd.atS hx4 (Below.refl _ _) (show m < X.length by have := hm.out; omega)
  obtain ⟨b2, f2, p2, q2, rfl, _, hx2, c2, _⟩ := Rd.atS hy4 (Below.refl _ _) (show 0 < Y.length by have := hc.out; omega)
  rw [Nat.zero_mul, Nat.add_zero] at c2
  have hle : q1 ≤ p2 := hah.out m _ _ hx1.out hx2.out
  have r1 : IntKind.i64.wrap ((X.length : Int) - 1) = (m : Int) := by rw [IntWalk.i64_in _ (by omega)]; have := hm.out; omega
  have r2 : (m : Int) < (X.length : Int) := by have := hm.out; omega
  have r3 : (0 : Int) ≤ (m : Int) := by omega
  have r4 : (0 : Int) < (Y.length : Int) := by have := hc.out; omega
  go_wp2_with fail
  go_quiet (fail)
  go_wp2_with fail
  refine ((hL.out ▸ cLast (ha4.drewN _) (by omega) hb.out _ : Calls _ _ _ _ (RetS _ L))).mono ?_
  rintro e w5 ⟨A5, cap5, rfl, r5, x5, _⟩
  have ha5 := (ha4.drewN _).ext x5
  have hx5 := (hx4.drewN _).ext x5
  have hy5 := (hy4.drewN _).ext x5
  have X5 := (X4.drewN _).trans x5
  go_wp2_with fail
  refine (iEq (cSize hx5 lX _) (n' := K) e1.out).mono ?_
  rintro e w6 ⟨rfl, x6⟩
  have ha6 := ha5.ext x6; clear ha5
  have hx6 := hx5.ext x6; clear hx5
  have hy6 := hy5.ext x6; clear hy5
  have hl6 := r5.ext x6
  have X6 := X5.trans x6
  go_wp2_with fail
  refine (iEq (cSize hy6 lY _) (n' := s - K) e2.out).mono ?_
  rintro e w7 ⟨rfl, x7⟩
  have ha7 := ha6.ext x7; clear ha6
  have hx7 := hx6.ext x7; clear hx6
  have hy7 := hy6.ext x7; clear hy6
  have hl7 := hl6.ext x7; clear hl6
  have X7 := X6.trans x7
  go_wp2_with fail
  refine (iEq (cSize hl7 lL _) (n' := K) e3.out).mono ?_
  rintro e w8 ⟨rfl, x8⟩
  have ha8 := ha7.ext x8; clear ha7
  have hx8 := hx7.ext x8; clear hx7
  have hy8 := hy7.ext x8; clear hy7
  have hl8 := hl7.ext x8; clear hl7
  have X8 := X7.trans x8
  go_wp2_with fail
  refine (cFirst ha8 (by omega) (n := s - K) (by unfold B64; omega) _).mono ?_
  rintro e w9 ⟨A9, cap9, rfl, r9, x9, _⟩
  have ha9 := ha8.ext x9; clear ha8
  have hx9 := hx8.ext x9; clear hx8
  have hy9 := hy8.ext x9; clear hy8
  have hl9 := hl8.ext x9; clear hl8
  have X9 := X8.trans x9
  go_wp2_with fail
  refine ((hM.out ▸ cMinus ha9 r9 (by omega) lZ _ _ : Calls _ _ _ _ (RetS _ L))).mono ?_
  rintro e w10 ⟨A10, cap10, rfl, r10, x10, _⟩
  have ha10 := ha9.ext x10; clear ha9
  have hx10 := hx9.ext x10; clear hx9
  have hy10 := hy9.ext x10; clear hy9
  have hl10 := hl9.ext x10; clear hl9
  have hz10 := r9.ext x10
  have X10 := X9.trans x10
  go_wp2_with fail
  refine (bEq (cSame hl10 r10 lL _ _) (decide_eq_true rfl)).mono ?_
  rintro e w11 ⟨rfl, x11⟩
  have ha11 := ha10.ext x11; clear ha10
  have hx11 := hx10.ext x11; clear hx10
  have hy11 := hy10.ext x11; clear hy10
  have hl11 := hl10.ext x11; clear hl10
  have hz11 := hz10.ext x11; clear hz10
  have hu11 := r10.ext x11
  have X11 := X10.trans x11
  go_wp2
  go_ret
  exact ⟨rfl, X11⟩

set_option maxRecDepth 100000 in
theorem ends03 (a : List Sp.S) (Aa : Option Addr) (ca : Nat) (n : Int) (w : World) (ha : Rs w Aa a) (hn : B64 n) : Calls Try.prog 10 #[.slice Aa a.length ca, .int .i64 n] w (RetB w true) := by
  by_cases la : a.length ≤ 100
  · have s0 := Sp.size_nonneg a
    have s1 : Sp.size a ≤ 32054400 := Sp.size_le a
    have lX : (Sp.first a n).length ≤ 900000 := by have := first_length a n; omega
    have lY : (Sp.minus a (Sp.first a n)).length ≤ 900000 := by have := minus_len a (Sp.first a n); have := first_length a n; omega
    have lL : (Sp.last a n).length ≤ 900000 := by have := last_len a n; omega
    have lZ : ∀ k, (Sp.first a k).length ≤ 900000 := fun k => by have := first_length a k; omega
    have hah : Hid (∀ (m : Nat) (x y : Sp.S), (Sp.first a n)[m]? = some x → (Sp.minus a (Sp.first a n))[0]? = some y → x.2 ≤ y.1) := fun m x y h1 h2 => ends_ahead a n h1 h2
    have hY : Hid (Sp.minus a (Sp.first a n) = Sp.minus a (Sp.first a n)) := (rfl : _ = _)
    have hX : Hid (Sp.first a n = Sp.first a n) := (rfl : _ = _)
    have hL : Hid (Sp.last a n = Sp.last a n) := (rfl : _ = _)
    have hs : Hid (Sp.size a = Sp.size a) := (rfl : _ = _)
    have E1 := Sp.size_first a n
    have E2 := size_rest a n
    have E3 := size_last a n
    have E4 := last_minus a n
    rw [show max 0 (min n (Sp.size a)) = min (max n 0) (Sp.size a) from by omega] at E1 E2 E3 E4
    by_cases x0 : (Sp.first a n).length = 0
    · exact ends_A0 a _ _ _ Aa ca n _ _ w ha hn la rfl (by omega) (by omega) hs s0 s1 hX hY hL (Lib.hid E4) (Lib.hid E1) (Lib.hid E2) (Lib.hid E3) lX lY lL (lZ _) hah (Lib.hid x0)
    · by_cases y0 : (Sp.minus a (Sp.first a n)).length = 0
      · exact ends_A1 a _ _ _ Aa ca n _ _ w ha hn la rfl (by omega) (by omega) hs s0 s1 hX hY hL (Lib.hid E4) (Lib.hid E1) (Lib.hid E2) (Lib.hid E3) lX lY lL (lZ _) hah (Lib.hid ⟨x0, y0⟩)
      · exact ends_A2 a _ _ _ Aa ca n _ _ w ha hn la rfl (by omega) (by omega) hs s0 s1 hX hY hL (Lib.hid E4) (Lib.hid E1) (Lib.hid E2) (Lib.hid E3) lX lY lL (lZ _) hah (Lib.hid ⟨x0, y0⟩)
  · have hl : ¬ (a.length : Int) ≤ 100 := by omega
    have hl2 : (100 : Int) < (a.length : Int) := by omega
    go_enter Try.func10, Try.ntmps10
    go_wp2_with fail
    refine (awake03 _).mono ?_
    rintro e w1 ⟨rfl, x1⟩
    go_wp2
    go_ret
    exact ⟨rfl, x1⟩
end Go.Proofs.Ytnhmibfgaoealaa
