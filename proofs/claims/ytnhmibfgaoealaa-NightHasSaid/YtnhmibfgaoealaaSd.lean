/-
  Plain words of layer 11: days, weeks, rounding.
-/
import Derived.Test.YtnhmibfgaoealaaSr
namespace Go.Proofs.Ytnhmibfgaoealaa

def dayOf (t : Int) : Int := min (max t 0) 32054399 / 86400
def weekOf (t : Int) : Int := min (max t 0) 32054399 / 604800
def partS (l : List Sp.S) (n s : Int) : List Sp.S := if n < 0 ∨ 32054400 / s < n then [] else Sp.and_ l [(n * s, (n + 1) * s)]
def halfOf (a b : Int) : Int := if b - a % b ≤ a % b then a / b + 1 else a / b
def roundOf (t u : Int) : Int := if u < 1 then min (max t 0) 32054400 else min (halfOf (min (max t 0) 32054400) u * min u 64108801) 32054400
theorem half_bd (a b : Int) (a0 : 0 ≤ a) (a1 : a ≤ 32054400) (b0 : 1 ≤ b) : 0 ≤ halfOf a b * min b 64108801 ∧ halfOf a b * min b 64108801 ≤ 200000000 := by
  have q0 : 0 ≤ a / b := Int.ediv_nonneg a0 (by omega)
  have h0 : 0 ≤ halfOf a b := by unfold halfOf; split <;> omega
  refine ⟨Int.mul_nonneg h0 (by omega), ?_⟩
  by_cases hb : b ≤ 64108801
  · rw [show min b 64108801 = b from by omega]
    have h1 : halfOf a b ≤ a / b + 1 := by unfold halfOf; split <;> omega
    have h2 : halfOf a b * b ≤ (a / b + 1) * b := Int.mul_le_mul_of_nonneg_right h1 (by omega)
    have h3 : a / b * b ≤ a := Int.ediv_mul_le _ (by omega)
    rw [Int.add_mul] at h2
    omega
  · have h1 : a / b = 0 := Int.ediv_eq_zero_of_lt a0 (by omega)
    have h2 : a % b = a := Int.emod_eq_of_lt a0 (by omega)
    have h3 : halfOf a b = 0 := by unfold halfOf; rw [h1, h2, if_neg (by omega)]
    rw [h3]; omega
def putL (out : List Int) (d : Int) : List Int := if out = [] ∨ out.getLastD 0 < d then out ++ [d] else out
theorem putL_nil (d : Int) : putL [] d = [] ++ [d] := if_pos (.inl rfl)
theorem putL_lt {o : List Int} {x d : Int} (h : x < d) : putL (o ++ [x]) d = (o ++ [x]) ++ [d] := if_pos (.inr (by simpa using h))
theorem putL_ge {o : List Int} {x d : Int} (h : d ≤ x) : putL (o ++ [x]) d = o ++ [x] := if_neg (by simp; omega)
def putsN (out : List Int) (f : Int) (n : Nat) : List Int := (List.range n).foldl (fun o (i : Nat) => putL o (f + (i : Int))) out
def spanN (s : Sp.S) : Nat := (dayOf (s.2 - 1) - dayOf s.1 + 1).toNat
def daysL (l : List Sp.S) : List Int := l.foldl (fun o s => putsN o (dayOf s.1) (spanN s)) []
theorem putsN_succ (out : List Int) (f : Int) (n : Nat) : putsN out f (n + 1) = putL (putsN out f n) (f + n) := by simp [putsN, List.range_succ]
theorem daysL_snoc (l : List Sp.S) (s : Sp.S) : daysL (l ++ [s]) = putsN (daysL l) (dayOf s.1) (spanN s) := by simp [daysL]
theorem putL_len (o : List Int) (d : Int) : (putL o d).length ≤ o.length + 1 := by unfold putL; split <;> simp
theorem putsN_len (o : List Int) (f : Int) (n : Nat) : (putsN o f n).length ≤ o.length + n := by
  induction n with
  | zero => simp [putsN]
  | succ n ih => rw [putsN_succ]; have := putL_len (putsN o f n) (f + n); omega
theorem dayOf_bd (t : Int) : 0 ≤ dayOf t ∧ dayOf t ≤ 370 := by unfold dayOf; omega
theorem dayOf_mono {t u : Int} (h : t ≤ u) : dayOf t ≤ dayOf u := by unfold dayOf; omega
theorem spanN_le (s : Sp.S) : spanN s ≤ 371 := by have := dayOf_bd (s.2 - 1); have := dayOf_bd s.1; unfold spanN; omega
theorem daysL_len (l : List Sp.S) : (daysL l).length ≤ 371 * l.length := by
  rcases List.eq_nil_or_concat l with rfl | ⟨o, x, h⟩
  · simp [daysL]
  · rw [List.concat_eq_append] at h
    subst h
    have ih := daysL_len o
    have h1 := putsN_len (daysL o) (dayOf x.1) (spanN x)
    have h2 := spanN_le x
    rw [daysL_snoc, List.length_append, List.length_singleton]
    omega
termination_by l.length
decreasing_by subst h; simp
end Go.Proofs.Ytnhmibfgaoealaa
