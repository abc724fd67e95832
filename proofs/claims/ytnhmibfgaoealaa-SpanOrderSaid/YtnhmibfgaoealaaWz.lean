/-
  The law SpanSizes of lumperlaw03 answers true.
-/
import Derived.Test.YtnhmibfgaoealaaWh
namespace Go.Proofs.Ytnhmibfgaoealaa
open Go.RowKit

theorem norm_both (a b : List Sp.S) : Sp.norm (Sp.and_ a b ++ Sp.minus a b) = Sp.norm a := Sp.norm_congr fun t ht => by
  rw [Sp.hasB_append, Sp.and_has, Sp.minus_has, ht]; cases Sp.hasB a t <;> cases Sp.hasB b t <;> rfl
theorem and_comm_ (a b : List Sp.S) : Sp.and_ a b = Sp.and_ b a := Sp.Plain.uniq (Sp.and_plain _ _) (Sp.and_plain _ _) fun t => by
  rw [Sp.and_has, Sp.and_has]; cases Sp.okT t <;> cases Sp.hasB a t <;> cases Sp.hasB b t <;> rfl
theorem and_apart (a b : List Sp.S) : Sp.and_ (Sp.and_ a b) (Sp.minus a b) = [] := Sp.Plain.uniq (Sp.and_plain _ _) Sp.plain_nil fun t => by
  rw [Sp.and_has, Sp.and_has, Sp.minus_has, Sp.hasB_nil]; cases Sp.okT t <;> cases Sp.hasB a t <;> cases Sp.hasB b t <;> rfl
theorem size_split (a b : List Sp.S) : Sp.size (Sp.and_ a b) + Sp.size (Sp.minus a b) = Sp.size a := by
  rw [Sp.size_cnt, Sp.size_cnt, Sp.size_cnt]
  have ok : ∀ t : Int, 0 ≤ t → t < Sp.MTn → Sp.okT t = true := fun t h0 h1 => Sp.okT_iff.2 ⟨h0, by rw [← Sp.MTn_eq]; exact h1⟩
  rw [Sp.cnt_congr (p := Sp.hasB (Sp.and_ a b)) (q := fun t => Sp.hasB a t && Sp.hasB b t) fun t h0 h1 => by rw [Sp.and_has, ok t h0 h1]; rfl,
    Sp.cnt_congr (p := Sp.hasB (Sp.minus a b)) (q := fun t => Sp.hasB a t && !Sp.hasB b t) fun t h0 h1 => by rw [Sp.minus_has, ok t h0 h1]; rfl]
  have := Sp.cnt_add (Sp.hasB a) (Sp.hasB b) Sp.MTn
  omega

set_option maxRecDepth 100000 in
set_option maxHeartbeats 2000000 in
theorem sizes03 (a b : List Sp.S) (Aa Ab : Option Addr) (ca cb : Nat) (w : World) (ha : Rs w Aa a) (hb : Rs w Ab b) : Calls Try.prog 9 #[.slice Aa a.length ca, .slice Ab b.length cb] w (RetB w true) := by
  by_cases hf : (decide (a.length ≤ 100) && decide (b.length ≤ 100)) = true
  · have la : a.length ≤ 100 := by simp at hf; omega
    have lb : b.length ≤ 100 := by simp at hf; omega
    have hf := Lib.hid hf
    obtain ⟨M, hM, lM⟩ : ∃ M, Hid (Sp.and_ a b = M) ∧ M.length ≤ 200 := ⟨_, (rfl : _ = _), by have := and_len a b; omega⟩
    obtain ⟨K, hK, lK⟩ : ∃ K, Hid (Sp.minus a b = K) ∧ K.length ≤ 201 := ⟨_, (rfl : _ = _), by have := minus_len a b; omega⟩
    have l1 : (Sp.norm (M ++ K)).length ≤ 900000 := by have := Sp.norm_length (M ++ K); simp at this; omega
    have l2 : (M ++ K).length ≤ 900000 := by simp; omega
    have e1 : Hid (Sp.norm (M ++ K) = Sp.norm a) := by show _ = _; rw [← hM.out, ← hK.out]; exact norm_both a b
    have e2 : Hid (M = Sp.and_ b a) := by show _ = _; rw [← hM.out]; exact and_comm_ a b
    have e3 : Hid (Sp.and_ M K = []) := by show _ = _; rw [← hM.out, ← hK.out]; exact and_apart a b
    obtain ⟨sx, hsx, x0, x1⟩ : ∃ s, Hid (Sp.size M = s) ∧ 0 ≤ s ∧ s ≤ 32054400 := ⟨_, (rfl : _ = _), Sp.size_nonneg _, Sp.size_le _⟩
    obtain ⟨sy, hsy, y0, y1⟩ : ∃ s, Hid (Sp.size K = s) ∧ 0 ≤ s ∧ s ≤ 32054400 := ⟨_, (rfl : _ = _), Sp.size_nonneg _, Sp.size_le _⟩
    have hsa : Hid (Sp.size a = sx + sy) := by show _ = _; rw [← hsx.out, ← hsy.out, ← hM.out, ← hK.out]; exact (size_split a b).symm
    go_enter Try.func9, Try.ntmps9
    go_wp2_with fail
    refine (awake03 _).mono ?_
    rintro e w1 ⟨rfl, x1⟩
    have ha1 := ha.ext x1; clear ha
    have hb1 := hb.ext x1; clear hb
    have X1 := (Ext.refl _).trans x1
    go_wp2_with fail
    refine (bEq (few03 _ _ _ _ _ _ _) hf.out).mono ?_
    rintro e w2 ⟨rfl, x2⟩
    have ha2 := ha1.ext x2; clear ha1
    have hb2 := hb1.ext x2; clear hb1
    have X2 := X1.trans x2
    go_wp2_with fail
    refine ((hM.out ▸ cAnd ha2 hb2 (by omega) (by omega) _ _ : Calls _ _ _ _ (RetS _ M))).mono ?_
    rintro e w3 ⟨A3, cap3, rfl, r3, x3, _⟩
    have ha3 := ha2.ext x3; clear ha2
    have hb3 := hb2.ext x3; clear hb2
    have X3 := X2.trans x3
    go_wp2_with fail
    refine ((hK.out ▸ cMinus ha3 hb3 (by omega) (by omega) _ _ : Calls _ _ _ _ (RetS _ K))).mono ?_
    rintro e w4 ⟨A4, cap4, rfl, r4, x4, _⟩
    have ha4 := ha3.ext x4; clear ha3
    have hb4 := hb3.ext x4; clear hb3
    have hx4 := r3.ext x4
    have X4 := X3.trans x4
    go_wp2_with fail
    refine (iEq (cSize hx4 (by omega) _) (n' := sx) hsx.out).mono ?_
    rintro e w5 ⟨rfl, x5⟩
    have ha5 := ha4.ext x5; clear ha4
    have hb5 := hb4.ext x5; clear hb4
    have hx5 := hx4.ext x5; clear hx4
    have hy5 := r4.ext x5
    have X5 := X4.trans x5
    go_wp2_with fail
    refine (iEq (cSize hy5 (by omega) _) (n' := sy) hsy.out).mono ?_
    rintro e w6 ⟨rfl, x6⟩
    have ha6 := ha5.ext x6; clear ha5
    have hb6 := hb5.ext x6; clear hb5
    have hx6 := hx5.ext x6; clear hx5
    have hy6 := hy5.ext x6; clear hy5
    have X6 := X5.trans x6
    go_wp2_with fail
    refine (iEq (cSize ha6 (by omega) _) (n' := sx + sy) hsa.out).mono ?_
    rintro e w7 ⟨rfl, x7⟩
    have ha7 := ha6.ext x7; clear ha6
    have hb7 := hb6.ext x7; clear hb6
    have hx7 := hx6.ext x7; clear hx6
    have hy7 := hy6.ext x7; clear hy6
    have X7 := X6.trans x7
    go_wp2_with (at_builtin; first | (refine app_row w7 _ z5 _ _ rfl rfl M.length _ M K rfl o5 rfl _ _ rfl (hy7.ext z5) (by omega) ?_; intro A6 cap6 v6 o6 z6) | (refine app_row w7 _ ((Ext.refl _).alloc _) _ _ rfl rfl _ _ [] M rfl (own_empty _) rfl _ _ rfl (hx7.alloc _) (by simp; omega) ?_; intro A5 cap5 v5 o5 z5))
    have rc := Rs.own o6; clear o5 o6 z5
    have ha8 := ha7.ext z6; clear ha7
    have hb8 := hb7.ext z6; clear hb7
    have hx8 := hx7.ext z6; clear hx7
    have hy8 := hy7.ext z6; clear hy7
    have X8 := X7.trans z6
    go_wp2_with fail
    refine (cNormApp rc l2 _).mono ?_
    rintro e w9 ⟨A9, cap9, rfl, r9, x9, _⟩
    have ha9 := ha8.ext x9; clear ha8
    have hb9 := hb8.ext x9; clear hb8
    have hx9 := hx8.ext x9; clear hx8
    have hy9 := hy8.ext x9; clear hy8
    have hc9 := rc.ext x9
    have X9 := X8.trans x9
    go_wp2_with fail
    refine (cNorm ha9 (by omega) _).mono ?_
    rintro e w10 ⟨A10, cap10, rfl, r10, x10, _⟩
    have ha10 := ha9.ext x10; clear ha9
    have hb10 := hb9.ext x10; clear hb9
    have hx10 := hx9.ext x10; clear hx9
    have hy10 := hy9.ext x10; clear hy9
    have hc10 := hc9.ext x10; clear hc9
    have hp10 := r9.ext x10
    have X10 := X9.trans x10
    go_wp2_with fail
    refine (bEq (cSame hp10 r10 l1 _ _) (decide_eq_true e1.out)).mono ?_
    rintro e w11 ⟨rfl, x11⟩
    have ha11 := ha10.ext x11; clear ha10
    have hb11 := hb10.ext x11; clear hb10
    have hx11 := hx10.ext x11; clear hx10
    have hy11 := hy10.ext x11; clear hy10
    have hc11 := hc10.ext x11; clear hc10
    have hp11 := hp10.ext x11; clear hp10
    have hq11 := r10.ext x11
    have X11 := X10.trans x11
    go_wp2_with fail
    refine (cAnd hb11 ha11 (by omega) (by omega) _ _).mono ?_
    rintro e w12 ⟨A12, cap12, rfl, r12, x12, _⟩
    have ha12 := ha11.ext x12; clear ha11
    have hb12 := hb11.ext x12; clear hb11
    have hx12 := hx11.ext x12; clear hx11
    have hy12 := hy11.ext x12; clear hy11
    have X12 := X11.trans x12
    go_wp2_with fail
    refine (bEq (cSame hx12 r12 (by omega) _ _) (decide_eq_true e2.out)).mono ?_
    rintro e w13 ⟨rfl, x13⟩
    have ha13 := ha12.ext x13; clear ha12
    have hb13 := hb12.ext x13; clear hb12
    have hx13 := hx12.ext x13; clear hx12
    have hy13 := hy12.ext x13; clear hy12
    have hr13 := r12.ext x13
    have X13 := X12.trans x13
    go_wp2_with fail
    refine ((e3.out ▸ cAnd hx13 hy13 (by omega) (by omega) _ _ : Calls _ _ _ _ (RetS _ []))).mono ?_
    rintro e w14 ⟨A14, cap14, rfl, r14, x14, _⟩
    have ha14 := ha13.ext x14; clear ha13
    have hb14 := hb13.ext x14; clear hb13
    have hx14 := hx13.ext x14; clear hx13
    have hy14 := hy13.ext x14; clear hy13
    have X14 := X13.trans x14
    go_wp2
    go_ret
    exact ⟨rfl, X14⟩
  · have hf := Lib.hid (Bool.eq_false_iff.2 hf)
    go_enter Try.func9, Try.ntmps9
    go_wp2_with fail
    refine (awake03 _).mono ?_
    rintro e w1 ⟨rfl, x1⟩
    go_wp2_with fail
    refine (bEq (few03 _ _ _ _ _ _ _) hf.out).mono ?_
    rintro e w2 ⟨rfl, x2⟩
    go_wp2
    go_ret
    exact ⟨rfl, x1.trans x2⟩
end Go.Proofs.Ytnhmibfgaoealaa
