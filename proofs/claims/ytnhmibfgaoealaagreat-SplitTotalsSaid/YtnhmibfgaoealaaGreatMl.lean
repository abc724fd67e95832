/-
  Plain words of layer 11: days, weeks, rounding.
  Plain theory of days and weeks: the days that have some rise, and are just those of the seconds.
  Plain theory of nights.
-/
import Derived.Test.YtnhmibfgaoealaaGreatMa
namespace Go.Proofs.YtnhmibfgaoealaaGreat

def dayOf (t : Int) : Int := min (max t 0) 32054399 / 86400
def weekOf (t : Int) : Int := min (max t 0) 32054399 / 604800
def partS (l : List Sp.S) (n s : Int) : List Sp.S := if n < 0 ∨ 32054400 / s < n then [] else Sp.and_ l [(n * s, (n + 1) * s)]
def halfOf (a b : Int) : Int := if b - a % b ≤ a % b then a / b + 1 else a / b
def roundOf (t u : Int) : Int := if u < 1 then min (max t 0) 32054400 else min (halfOf (min (max t 0) 32054400) u * min u 64108801) 32054400
theorem half_bd (a b : Int) (a0 : 0 ≤ a) (a1 : a ≤ 32054400) (b0 : 1 ≤ b) : 0 ≤ halfOf a b * min b 64108801 ∧ halfOf a b * min b 64108801 ≤ 200000000 := by
  have q0 : 0 ≤ a / b := Int.ediv_nonneg a0 (by omega)
  have h0 : 0 ≤ halfOf a b := by unfold halfOf; split <;> omega
  refine ⟨Int.mul_nonneg h0 (by omega), ?_⟩
  by_cases hb : b ≤ 64108801
  · rw [show min b 64108801 = b from by omega]
    have h1 : halfOf a b ≤ a / b + 1 := by unfold halfOf; split <;> omega
    have h2 : halfOf a b * b ≤ (a / b + 1) * b := Int.mul_le_mul_of_nonneg_right h1 (by omega)
    have h3 : a / b * b ≤ a := Int.ediv_mul_le _ (by omega)
    rw [Int.add_mul] at h2
    omega
  · have h1 : a / b = 0 := Int.ediv_eq_zero_of_lt a0 (by omega)
    have h2 : a % b = a := Int.emod_eq_of_lt a0 (by omega)
    have h3 : halfOf a b = 0 := by unfold halfOf; rw [h1, h2, if_neg (by omega)]
    rw [h3]; omega
def putL (out : List Int) (d : Int) : List Int := if out = [] ∨ out.getLastD 0 < d then out ++ [d] else out
theorem putL_nil (d : Int) : putL [] d = [] ++ [d] := if_pos (.inl rfl)
theorem putL_lt {o : List Int} {x d : Int} (h : x < d) : putL (o ++ [x]) d = (o ++ [x]) ++ [d] := if_pos (.inr (by simpa using h))
theorem putL_ge {o : List Int} {x d : Int} (h : d ≤ x) : putL (o ++ [x]) d = o ++ [x] := if_neg (by simp; omega)
def putsN (out : List Int) (f : Int) (n : Nat) : List Int := (List.range n).foldl (fun o (i : Nat) => putL o (f + (i : Int))) out
def spanN (s : Sp.S) : Nat := (dayOf (s.2 - 1) - dayOf s.1 + 1).toNat
def daysL (l : List Sp.S) : List Int := l.foldl (fun o s => putsN o (dayOf s.1) (spanN s)) []
theorem putsN_succ (out : List Int) (f : Int) (n : Nat) : putsN out f (n + 1) = putL (putsN out f n) (f + n) := by simp [putsN, List.range_succ]
theorem daysL_snoc (l : List Sp.S) (s : Sp.S) : daysL (l ++ [s]) = putsN (daysL l) (dayOf s.1) (spanN s) := by simp [daysL]
theorem putL_len (o : List Int) (d : Int) : (putL o d).length ≤ o.length + 1 := by unfold putL; split <;> simp
theorem putsN_len (o : List Int) (f : Int) (n : Nat) : (putsN o f n).length ≤ o.length + n := by
  induction n with
  | zero => simp [putsN]
  | succ n ih => rw [putsN_succ]; have := putL_len (putsN o f n) (f + n); omega
theorem dayOf_bd (t : Int) : 0 ≤ dayOf t ∧ dayOf t ≤ 370 := by unfold dayOf; omega
theorem dayOf_mono {t u : Int} (h : t ≤ u) : dayOf t ≤ dayOf u := by unfold dayOf; omega
theorem spanN_le (s : Sp.S) : spanN s ≤ 371 := by have := dayOf_bd (s.2 - 1); have := dayOf_bd s.1; unfold spanN; omega
theorem daysL_len (l : List Sp.S) : (daysL l).length ≤ 371 * l.length := by
  rcases List.eq_nil_or_concat l with rfl | ⟨o, x, h⟩
  · simp [daysL]
  · rw [List.concat_eq_append] at h
    subst h
    have ih := daysL_len o
    have h1 := putsN_len (daysL o) (dayOf x.1) (spanN x)
    have h2 := spanN_le x
    rw [daysL_snoc, List.length_append, List.length_singleton]
    omega
termination_by l.length
decreasing_by subst h; simp
end Go.Proofs.YtnhmibfgaoealaaGreat
namespace Go.Proofs.YtnhmibfgaoealaaGreat
set_option linter.unusedVariables false
set_option linter.unusedSimpArgs false

theorem pair_snoc {o : List Int} {d : Int} (h : o.Pairwise (· < ·)) (hd : ∀ x ∈ o, x < d) : (o ++ [d]).Pairwise (· < ·) := by
  rw [List.pairwise_append]
  exact ⟨h, List.pairwise_singleton _ _, fun a ha b hb => by simp at hb; subst hb; exact hd a ha⟩

theorem putL_spec {o : List Int} {d : Int} (h : o.Pairwise (· < ·)) (hd : ∀ x ∈ o, x ≤ d) :
    (putL o d).Pairwise (· < ·) ∧ (∀ x, x ∈ putL o d ↔ x ∈ o ∨ x = d) := by
  rcases List.eq_nil_or_concat o with rfl | ⟨o', x, rfl⟩
  · rw [putL_nil]; exact ⟨by simp, fun x => by simp⟩
  · rw [List.concat_eq_append] at *
    have hlt : ∀ y ∈ o', y < x := by
      rw [List.pairwise_append] at h
      exact fun y hy => h.2.2 y hy x (by simp)
    by_cases hx : x < d
    · rw [putL_lt hx]
      refine ⟨pair_snoc h ?_, fun y => by simp [or_assoc]⟩
      intro y hy
      rcases List.mem_append.1 hy with hy | hy
      · have := hlt y hy; omega
      · simp at hy; omega
    · rw [putL_ge (by omega)]
      have := hd x (by simp)
      obtain rfl : x = d := by omega
      refine ⟨h, fun y => ?_⟩
      simp

theorem putsN_spec {o : List Int} {f : Int} (h : o.Pairwise (· < ·)) (hd : ∀ x ∈ o, x ≤ f) (n : Nat) :
    (putsN o f n).Pairwise (· < ·) ∧ (∀ x, x ∈ putsN o f n ↔ x ∈ o ∨ (f ≤ x ∧ x < f + n)) := by
  induction n with
  | zero => exact ⟨h, fun x => by simp [putsN]; intro a b; omega⟩
  | succ n ih =>
    rw [putsN_succ]
    obtain ⟨i1, i2⟩ := ih
    obtain ⟨k1, k2⟩ := putL_spec i1 (d := f + n) (fun x hx => by
      rcases (i2 x).1 hx with hx | hx
      · have := hd x hx; omega
      · omega)
    refine ⟨k1, fun x => ?_⟩
    rw [k2, i2]
    constructor
    · rintro ((a | a) | a)
      · exact .inl a
      · exact .inr (by omega)
      · exact .inr (by omega)
    · rintro (a | a)
      · exact .inl (.inl a)
      · by_cases e : x = f + n
        · exact .inr e
        · exact .inl (.inr (by omega))

theorem daysL_spec {N : List Sp.S} (h : Sp.Plain N) : (daysL N).Pairwise (· < ·) ∧ ∀ d, d ∈ daysL N ↔ ∃ t, Sp.hasB N t = true ∧ dayOf t = d := by
  rcases List.eq_nil_or_concat N with rfl | ⟨o, s, hN⟩
  · exact ⟨List.Pairwise.nil, fun d => by simp [daysL, Sp.hasB]⟩
  · rw [List.concat_eq_append] at hN
    subst hN
    obtain ⟨h1, h2, h3, h4, h5⟩ := Sp.plainFrom_snoc.1 h
    obtain ⟨i1, i2⟩ := daysL_spec (N := o) h1
    have h4' : s.2 ≤ 32054400 := h4
    have hb : ∀ t, Sp.hasB o t = true → t < s.1 := fun t ht => by
      obtain ⟨y, hy, ha, hb⟩ := Sp.hasB_iff.1 ht
      have := h5 y hy; omega
    rw [daysL_snoc]
    obtain ⟨k1, k2⟩ := putsN_spec i1 (f := dayOf s.1) (fun x hx => by
      obtain ⟨t, ht, rfl⟩ := (i2 x).1 hx
      exact dayOf_mono (by have := hb t ht; omega)) (spanN s)
    refine ⟨k1, fun d => ?_⟩
    have hm : dayOf s.1 ≤ dayOf (s.2 - 1) := dayOf_mono (by omega)
    rw [k2, i2]
    have hs : dayOf s.1 + (spanN s : Int) = dayOf (s.2 - 1) + 1 := by unfold spanN; omega
    rw [hs]
    constructor
    · rintro (⟨t, ht, rfl⟩ | ⟨a, b⟩)
      · exact ⟨t, by rw [Sp.hasB_append, ht]; rfl, rfl⟩
      · refine ⟨max s.1 (d * 86400), ?_, ?_⟩
        · rw [Sp.hasB_append, Sp.hasB_cons]
          have : Sp.inB s (max s.1 (d * 86400)) = true := by
            rw [Sp.inB_iff]
            unfold dayOf at a b
            omega
          rw [this]; simp
        · unfold dayOf at a b ⊢
          omega
    · rintro ⟨t, ht, rfl⟩
      rw [Sp.hasB_append, Bool.or_eq_true] at ht
      rcases ht with ht | ht
      · exact .inl ⟨t, ht, rfl⟩
      · rw [Sp.hasB_cons, Sp.hasB_nil, Bool.or_false, Sp.inB_iff] at ht
        exact .inr ⟨dayOf_mono ht.1, by have := dayOf_mono (t := t) (u := s.2 - 1) (by omega); omega⟩
termination_by N.length
decreasing_by subst hN; simp

/-- The days of a set: they rise, and are just those of its seconds. -/
theorem days_spec (l : List Sp.S) : (daysL (Sp.norm l)).Pairwise (· < ·) ∧ ∀ d, d ∈ daysL (Sp.norm l) ↔ ∃ t, Sp.okT t = true ∧ Sp.hasB l t = true ∧ dayOf t = d := by
  obtain ⟨h1, h2⟩ := daysL_spec (Sp.norm_plain l)
  refine ⟨h1, fun d => (h2 d).trans ?_⟩
  constructor
  · rintro ⟨t, ht, e⟩
    rw [Sp.norm_has, Bool.and_eq_true] at ht
    exact ⟨t, ht.1, ht.2, e⟩
  · rintro ⟨t, h1, h2, e⟩
    exact ⟨t, by rw [Sp.norm_has, h1, h2]; rfl, e⟩

theorem day_div {t : Int} (h : Sp.okT t = true) : dayOf t = t / 86400 ∧ 0 ≤ t ∧ t < 32054400 := by
  have := Sp.okT_iff.1 h
  unfold Sp.MT at this
  unfold dayOf
  omega
theorem week_div {t : Int} (h : Sp.okT t = true) : weekOf t = t / 604800 ∧ 0 ≤ t ∧ t < 32054400 := by
  have := Sp.okT_iff.1 h
  unfold Sp.MT at this
  unfold weekOf
  omega

theorem partS_plain (l : List Sp.S) (n s : Int) : Sp.Plain (partS l n s) := by
  unfold partS; split
  · trivial
  · exact Sp.and_plain _ _
theorem bool_eq {a b : Bool} (h : a = true ↔ b = true) : a = b := by rw [Bool.eq_iff_iff]; exact h

theorem inB_one (p q t : Int) : Sp.hasB [(p, q)] t = (decide (p ≤ t) && decide (t < q)) := by simp [Sp.hasB, Sp.inB]

theorem partDay_has (l : List Sp.S) (n t : Int) : Sp.hasB (partS l n 86400) t = (Sp.okT t && Sp.hasB l t && decide (dayOf t = n)) := by
  cases hk : Sp.okT t
  · cases hb : Sp.hasB (partS l n 86400) t
    · rfl
    · rw [Sp.okT_of_plain (partS_plain _ _ _) hb] at hk; cases hk
  · obtain ⟨h1, h2, h3⟩ := day_div hk
    unfold partS
    split
    · rename_i h
      have : ¬ dayOf t = n := by omega
      simp [Sp.hasB, this]
    · rename_i h
      rw [Sp.and_has, hk, inB_one]
      simp only [Bool.true_and]
      congr 1
      rw [← Bool.decide_and]
      exact decide_eq_decide.2 (by rw [h1]; omega)
theorem partWeek_has (l : List Sp.S) (n t : Int) : Sp.hasB (partS l n 604800) t = (Sp.okT t && Sp.hasB l t && decide (weekOf t = n)) := by
  cases hk : Sp.okT t
  · cases hb : Sp.hasB (partS l n 604800) t
    · rfl
    · rw [Sp.okT_of_plain (partS_plain _ _ _) hb] at hk; cases hk
  · obtain ⟨h1, h2, h3⟩ := week_div hk
    unfold partS
    split
    · rename_i h
      have : ¬ weekOf t = n := by omega
      simp [Sp.hasB, this]
    · rename_i h
      rw [Sp.and_has, hk, inB_one]
      simp only [Bool.true_and]
      congr 1
      rw [← Bool.decide_and]
      exact decide_eq_decide.2 (by rw [h1]; omega)

theorem hasB_flatMap {α : Type} (f : α → List Sp.S) (l : List α) (t : Int) : Sp.hasB (l.flatMap f) t = l.any fun x => Sp.hasB (f x) t := by
  induction l with
  | nil => rfl
  | cons x r ih => rw [List.flatMap_cons, Sp.hasB_append, ih, List.any_cons]

/-- The days' seconds together are the set. -/
theorem days_make (l : List Sp.S) : Sp.norm ((daysL (Sp.norm l)).flatMap fun d => partS l d 86400) = Sp.norm l := by
  refine Sp.norm_congr fun t ht => ?_
  rw [hasB_flatMap]
  refine bool_eq ?_
  rw [List.any_eq_true]
  constructor
  · rintro ⟨d, _, hd⟩
    rw [partDay_has, ht] at hd
    simp at hd
    exact hd.1
  · intro h
    refine ⟨dayOf t, ((days_spec l).2 _).2 ⟨t, ht, h, rfl⟩, ?_⟩
    rw [partDay_has, ht, h]; simp

/-- Those of a week are those of its days. -/
theorem days_week (l : List Sp.S) (w : Int) : Sp.norm (((daysL (Sp.norm l)).filter fun d => d / 7 == w).flatMap fun d => partS l d 86400) = partS l w 604800 := by
  refine (Sp.norm_plain _).uniq (partS_plain _ _ _) fun t => ?_
  rw [Sp.norm_has, partWeek_has, hasB_flatMap]
  cases hk : Sp.okT t
  · rfl
  · obtain ⟨h1, h2, h3⟩ := day_div hk
    obtain ⟨h4, _, _⟩ := week_div hk
    simp only [Bool.true_and]
    refine bool_eq ?_
    rw [List.any_eq_true]
    constructor
    · rintro ⟨d, hd, hb⟩
      rw [partDay_has, hk] at hb
      simp at hb hd
      simp
      refine ⟨hb.1, ?_⟩
      rw [h4]
      have := hd.2
      omega
    · intro h
      simp at h
      refine ⟨dayOf t, List.mem_filter.2 ⟨((days_spec l).2 _).2 ⟨t, hk, h.1, rfl⟩, ?_⟩, ?_⟩
      · simp; omega
      · rw [partDay_has, hk, h.1]; simp

theorem partDay_ne (l : List Sp.S) {d : Int} (h : d ∈ daysL (Sp.norm l)) : partS l d 86400 ≠ [] := by
  obtain ⟨t, h1, h2, h3⟩ := ((days_spec l).2 d).1 h
  intro e
  have := partDay_has l d t
  rw [e, h1, h2] at this
  simp [Sp.hasB, h3] at this

theorem has_eq (l : List Sp.S) (t : Int) : Sp.has l t = (Sp.okT t && Sp.hasB l t) := Sp.norm_has l t
theorem has_plain {l : List Sp.S} (h : Sp.Plain l) (t : Int) : Sp.has l t = Sp.hasB l t := by unfold Sp.has; rw [Sp.norm_of_plain h]

theorem punchHas_day (l : List Sp.S) (n t : Int) : Sp.has (partS l n 86400) t = (Sp.has l t && decide (dayOf t = n)) := by
  rw [has_plain (partS_plain _ _ _), partDay_has, has_eq]
theorem punchHas_week (l : List Sp.S) (n t : Int) : Sp.has (partS l n 604800) t = (Sp.has l t && decide (weekOf t = n)) := by
  rw [has_plain (partS_plain _ _ _), partWeek_has, has_eq]

theorem flatMap_len {α : Type} (f : α → List Sp.S) (n : Nat) (l : List α) (h : ∀ x ∈ l, (f x).length ≤ n) : (l.flatMap f).length ≤ l.length * n := by
  induction l with
  | nil => simp
  | cons x r ih =>
    rw [List.flatMap_cons, List.length_append, List.length_cons, Nat.add_mul]
    have a := h x (by simp)
    have b := ih fun y hy => h y (by simp [hy])
    omega
theorem pair_len_aux {l : List Int} {m : Int} (h : l.Pairwise (· < ·)) (h2 : ∀ d ∈ l, m ≤ d ∧ d ≤ 370) (hm : m ≤ 371) : (l.length : Int) ≤ 371 - m := by
  induction l generalizing m with
  | nil => simp; omega
  | cons x r ih =>
    rw [List.pairwise_cons] at h
    have hx := h2 x (by simp)
    have := ih (m := x + 1) h.2 (fun d hd => ⟨by have := h.1 d hd; omega, (h2 d (by simp [hd])).2⟩) (by omega)
    rw [List.length_cons]
    omega
theorem pair_len {l : List Int} (h : l.Pairwise (· < ·)) (h2 : ∀ d ∈ l, 0 ≤ d ∧ d ≤ 370) : l.length ≤ 371 := by
  have := pair_len_aux h h2 (by omega)
  omega
theorem days_len (l : List Sp.S) : (daysL (Sp.norm l)).length ≤ 371 :=
  pair_len (days_spec l).1 fun d hd => by
    obtain ⟨t, _, _, rfl⟩ := ((days_spec l).2 d).1 hd
    exact dayOf_bd t
theorem partS_len (l : List Sp.S) (n s : Int) : (partS l n s).length ≤ l.length + 1 := by
  unfold partS
  split
  · simp
  · have a := Sp.and_length l [(n * s, (n + 1) * s)]
    have b := Sp.norm_length l
    have c := Sp.norm_length [(n * s, (n + 1) * s)]
    simp at c
    omega

/-- Rounding. -/
theorem round_small {a k : Int} (a0 : 0 ≤ a) (a1 : a < 31000000) (k0 : 1 ≤ k) (k1 : k ≤ 65536) : roundOf a k = if k - a % k ≤ a % k then a - a % k + k else a - a % k := by
  have hd := Int.mul_ediv_add_emod a k
  have hr := Int.emod_nonneg a (show k ≠ 0 by omega)
  have hr2 := Int.emod_lt_of_pos a (show 0 < k by omega)
  unfold roundOf halfOf
  rw [if_neg (by omega), show min (max a 0) 32054400 = a from by omega, show min k 64108801 = k from by omega]
  have hc : k * (a / k) = a / k * k := Int.mul_comm _ _
  split
  · rw [Int.add_mul]; omega
  · omega
theorem round_mod {a k : Int} (a0 : 0 ≤ a) (a1 : a < 31000000) (k0 : 1 ≤ k) (k1 : k ≤ 65536) : roundOf a k % k = 0 := by
  rw [round_small a0 a1 k0 k1]
  have h1 : (a - a % k) % k = 0 := by rw [Int.sub_emod, Int.emod_emod]; simp
  split
  · rw [Int.add_emod, h1]; simp
  · exact h1
theorem round_near {a k : Int} (a0 : 0 ≤ a) (a1 : a < 31000000) (k0 : 1 ≤ k) (k1 : k ≤ 65536) : 2 * (roundOf a k - a) ≤ k ∧ 2 * (a - roundOf a k) < k ∧ 0 ≤ roundOf a k ∧ roundOf a k ≤ 31100000 := by
  have hd := Int.mul_ediv_add_emod a k
  have hr := Int.emod_nonneg a (show k ≠ 0 by omega)
  have hr2 := Int.emod_lt_of_pos a (show 0 < k by omega)
  have h0 : 0 ≤ k * (a / k) := Int.mul_nonneg (by omega) (Int.ediv_nonneg a0 (by omega))
  rw [round_small a0 a1 k0 k1]
  split <;> omega
theorem mul_gap {k x y : Int} (k0 : 1 ≤ k) (h : k * x < k * y) : k * x + k ≤ k * y := by
  have hxy : x < y := Int.lt_of_mul_lt_mul_left h (by omega)
  have : k * (x + 1) ≤ k * y := Int.mul_le_mul_of_nonneg_left (by omega) (by omega)
  rw [Int.mul_add] at this
  omega
theorem round_mono {a b k : Int} (a0 : 0 ≤ a) (b1 : b < 31000000) (k0 : 1 ≤ k) (k1 : k ≤ 65536) (h : a ≤ b) : roundOf a k ≤ roundOf b k := by
  obtain ⟨x, hx⟩ : ∃ x, roundOf a k = k * x := ⟨roundOf a k / k, (Int.mul_ediv_cancel' (Int.dvd_of_emod_eq_zero (round_mod a0 (by omega) k0 k1))).symm⟩
  obtain ⟨y, hy⟩ : ∃ x, roundOf b k = k * x := ⟨roundOf b k / k, (Int.mul_ediv_cancel' (Int.dvd_of_emod_eq_zero (round_mod (by omega) b1 k0 k1))).symm⟩
  have h1 := round_near a0 (show a < 31000000 by omega) k0 k1
  have h2 := round_near (show 0 ≤ b by omega) b1 k0 k1
  by_cases hlt : roundOf b k < roundOf a k
  · rw [hx] at h1; rw [hy] at h2
    rw [hx, hy] at hlt
    have := mul_gap k0 hlt
    omega
  · omega
theorem round_again {a k : Int} (a0 : 0 ≤ a) (a1 : a < 31000000) (k0 : 1 ≤ k) (k1 : k ≤ 65536) : roundOf (roundOf a k) k = roundOf a k := by
  have h := round_near a0 a1 k0 k1
  have hm := round_mod a0 a1 k0 k1
  have hd := Int.mul_ediv_add_emod (roundOf a k) k
  generalize roundOf a k = x at *
  unfold roundOf halfOf
  rw [if_neg (by omega), show min (max x 0) 32054400 = x from by omega, show min k 64108801 = k from by omega, hm, if_neg (by omega)]
  have hc : k * (x / k) = x / k * k := Int.mul_comm _ _
  omega
end Go.Proofs.YtnhmibfgaoealaaGreat
namespace Go.Proofs.YtnhmibfgaoealaaGreat
set_option linter.unusedVariables false
set_option linter.unusedSimpArgs false

def winds (F T : Int) : List Sp.S := if T < F then [(0, T), (F, 86400)] else [(F, T)]
def isNight (F T n : Int) : Bool := Sp.hasB (winds F T) n
def nights1 (F T d : Int) : List Sp.S := ((winds F T).filter fun w => decide (w.1 < w.2)).map fun w => (d * 86400 + w.1, d * 86400 + w.2)
def nightsL (F T : Int) (days : List Int) : List Sp.S := days.flatMap (nights1 F T)
def nightOf (F T : Int) (l : List Sp.S) : List Sp.S := Sp.and_ l (nightsL F T (daysL (Sp.norm l)))

def okNT (F T : Int) : Prop := 0 ≤ F ∧ F ≤ 86400 ∧ 0 ≤ T ∧ T ≤ 86400

theorem isNight_iff {F T n : Int} (h : okNT F T) (h0 : 0 ≤ n) (h1 : n < 86400) : isNight F T n = true ↔ (if T < F then n < T ∨ F ≤ n else F ≤ n ∧ n < T) := by
  unfold isNight winds
  split
  · simp [Sp.hasB, Sp.inB]; omega
  · simp [Sp.hasB, Sp.inB]

theorem nights1_has {F T d : Int} (h : okNT F T) (t : Int) : Sp.hasB (nights1 F T d) t = (decide (t / 86400 = d) && isNight F T (t % 86400)) := by
  obtain ⟨h1, h2, h3, h4⟩ := h
  refine bool_eq ?_
  rw [Sp.hasB_iff, Bool.and_eq_true, decide_eq_true_eq, isNight, Sp.hasB_iff]
  constructor
  · rintro ⟨s, hs, a, b⟩
    unfold nights1 at hs
    obtain ⟨w, hw, rfl⟩ := List.mem_map.1 hs
    obtain ⟨hw, _⟩ := List.mem_filter.1 hw
    have hb : 0 ≤ w.1 ∧ w.2 ≤ 86400 := by
      unfold winds at hw
      split at hw <;> simp at hw
      · rcases hw with rfl | rfl <;> simp <;> omega
      · subst hw; simp; omega
    simp only at a b
    exact ⟨by omega, w, hw, by omega, by omega⟩
  · rintro ⟨rfl, w, hw, a, b⟩
    refine ⟨(t / 86400 * 86400 + w.1, t / 86400 * 86400 + w.2), ?_, by simp only; omega, by simp only; omega⟩
    unfold nights1
    exact List.mem_map.2 ⟨w, List.mem_filter.2 ⟨hw, by simp; omega⟩, rfl⟩

theorem nightsL_has {F T : Int} (h : okNT F T) (ds : List Int) (t : Int) : Sp.hasB (nightsL F T ds) t = (decide (t / 86400 ∈ ds) && isNight F T (t % 86400)) := by
  unfold nightsL
  rw [hasB_flatMap]
  refine bool_eq ?_
  rw [List.any_eq_true, Bool.and_eq_true, decide_eq_true_eq]
  constructor
  · rintro ⟨d, hd, hb⟩
    rw [nights1_has h] at hb
    simp at hb
    exact ⟨by rw [hb.1]; exact hd, hb.2⟩
  · rintro ⟨hd, hb⟩
    exact ⟨_, hd, by rw [nights1_has h, hb]; simp⟩

theorem nightOf_plain (F T : Int) (l : List Sp.S) : Sp.Plain (nightOf F T l) := Sp.and_plain _ _
theorem nightOf_has {F T : Int} (h : okNT F T) (l : List Sp.S) (t : Int) : Sp.hasB (nightOf F T l) t = (Sp.okT t && Sp.hasB l t && isNight F T (t % 86400)) := by
  unfold nightOf
  rw [Sp.and_has, nightsL_has h]
  refine bool_eq ?_
  simp only [Bool.and_eq_true, decide_eq_true_eq]
  constructor
  · rintro ⟨a, b, c, d⟩
    exact ⟨⟨a, b⟩, d⟩
  · rintro ⟨⟨a, b⟩, d⟩
    refine ⟨a, b, ?_, d⟩
    rw [← (day_div a).1]
    exact ((days_spec l).2 _).2 ⟨t, a, b, rfl⟩

/-- Whether a second is by night. -/
def nightIs (F T t : Int) : Bool := Sp.okT t && isNight F T (t % 86400)

theorem night_has {F T : Int} (h : okNT F T) (l : List Sp.S) (t : Int) : Sp.has (nightOf F T l) t = (Sp.has l t && nightIs F T t) := by
  rw [has_plain (nightOf_plain _ _ _), nightOf_has h, has_eq, nightIs]
  cases Sp.okT t <;> cases Sp.hasB l t <;> rfl

theorem okNT.swap {F T : Int} (h : okNT F T) : okNT T F := by unfold okNT at *; omega

theorem isNight_swap {F T n : Int} (h : okNT F T) (hne : F ≠ T) (h0 : 0 ≤ n) (h1 : n < 86400) : isNight T F n = !isNight F T n := by
  refine bool_eq ?_
  rw [Bool.not_eq_true', isNight_iff h.swap h0 h1, ← Bool.not_eq_true, isNight_iff h h0 h1]
  split <;> split <;> omega

theorem night_turns {F T : Int} (h : okNT F T) (hne : F ≠ T) (l : List Sp.S) : nightOf T F l = Sp.minus l (nightOf F T l) := by
  refine (nightOf_plain _ _ _).uniq (Sp.minus_plain _ _) fun t => ?_
  rw [nightOf_has h.swap, Sp.minus_has, nightOf_has h, isNight_swap h hne (by omega) (by omega)]
  cases Sp.okT t <;> cases Sp.hasB l t <;> cases isNight F T (t % 86400) <;> rfl

theorem night_none {F : Int} (h : okNT F F) (l : List Sp.S) : nightOf F F l = [] := by
  refine (nightOf_plain _ _ _).uniq Sp.plain_nil fun t => ?_
  have : isNight F F (t % 86400) = false := by
    cases hb : isNight F F (t % 86400)
    · rfl
    · rw [isNight_iff h (by omega) (by omega)] at hb
      rw [if_neg (by omega)] at hb; omega
  rw [nightOf_has h, this]; simp [Sp.hasB]

/-- So many seconds later. -/
def shiftS (k : Int) (l : List Sp.S) : List Sp.S := l.map fun s => (s.1 + k, s.2 + k)
theorem shiftS_has (k : Int) (l : List Sp.S) (t : Int) : Sp.hasB (shiftS k l) t = Sp.hasB l (t - k) := by
  refine bool_eq ?_
  rw [Sp.hasB_iff, Sp.hasB_iff]
  constructor
  · rintro ⟨s, hs, a, b⟩
    obtain ⟨x, hx, rfl⟩ := List.mem_map.1 hs
    simp only at a b
    exact ⟨x, hx, by omega, by omega⟩
  · rintro ⟨x, hx, a, b⟩
    exact ⟨(x.1 + k, x.2 + k), List.mem_map.2 ⟨x, hx, rfl⟩, by simp only; omega, by simp only; omega⟩
theorem shiftS_plainFrom {lo k : Int} {l : List Sp.S} (h : Sp.PlainFrom lo l) (hk : ∀ s ∈ l, s.2 + k ≤ Sp.MT) : Sp.PlainFrom (lo + k) (shiftS k l) := by
  induction l generalizing lo with
  | nil => trivial
  | cons s r ih =>
    obtain ⟨h1, h2, h3, h4⟩ := h
    refine ⟨by simp only; omega, by simp only; omega, hk s (by simp), ?_⟩
    have := ih h4 fun x hx => hk x (by simp [hx])
    exact this.mono (by simp only; omega)
theorem shiftS_plain {k : Int} {l : List Sp.S} (h : Sp.Plain l) (k0 : 0 ≤ k) (hk : ∀ s ∈ l, s.2 + k ≤ Sp.MT) : Sp.Plain (shiftS k l) :=
  (shiftS_plainFrom h hk).mono (by omega)
theorem shiftS_length (k : Int) (l : List Sp.S) : (shiftS k l).length = l.length := by simp [shiftS]

theorem night_shift {F T k : Int} (h : okNT F T) (k0 : 0 ≤ k) (k1 : k % 86400 = 0) (l : List Sp.S) (hl : ∀ s ∈ l, 0 ≤ s.1 ∧ s.2 + k ≤ Sp.MT) : nightOf F T (shiftS k l) = shiftS k (nightOf F T l) := by
  have hb : ∀ s ∈ nightOf F T l, s.2 + k ≤ Sp.MT := by
    intro s hs
    have hp := (nightOf_plain F T l).bd s hs
    have : Sp.hasB (nightOf F T l) (s.2 - 1) = true := Sp.hasB_iff.2 ⟨s, hs, by omega, by omega⟩
    rw [nightOf_has h] at this
    simp only [Bool.and_eq_true] at this
    obtain ⟨x, hx, a, b⟩ := Sp.hasB_iff.1 this.1.2
    have := hl x hx
    omega
  refine (nightOf_plain _ _ _).uniq (shiftS_plain (nightOf_plain _ _ _) k0 hb) fun t => ?_
  rw [shiftS_has, nightOf_has h, nightOf_has h, shiftS_has, show (t - k) % 86400 = t % 86400 from by omega]
  cases hbl : Sp.hasB l (t - k)
  · simp
  · obtain ⟨x, hx, a, b⟩ := Sp.hasB_iff.1 hbl
    have hx2 := hl x hx
    unfold Sp.MT at hx2
    have e1 : Sp.okT t = true := Sp.okT_iff.2 ⟨by omega, by unfold Sp.MT; omega⟩
    have e2 : Sp.okT (t - k) = true := Sp.okT_iff.2 ⟨by omega, by unfold Sp.MT; omega⟩
    rw [e1, e2]
theorem nightIs_shift {F T k t : Int} (t0 : 0 ≤ t) (t1 : t < 20000000) (k0 : 0 ≤ k) (k1 : k ≤ 8640000) (k2 : k % 86400 = 0) : nightIs F T t = nightIs F T (t + k) := by
  unfold nightIs
  rw [show (t + k) % 86400 = t % 86400 from by omega]
  have e1 : Sp.okT t = true := Sp.okT_iff.2 ⟨by omega, by unfold Sp.MT; omega⟩
  have e2 : Sp.okT (t + k) = true := Sp.okT_iff.2 ⟨by omega, by unfold Sp.MT; omega⟩
  rw [e1, e2]

/-- How long a night is. -/
def nightLen (F T : Int) : Int := if T - F < 0 then T - F + 86400 else T - F

theorem cnt_zero (p : Int → Bool) (n : Nat) (h : ∀ t, p t = false) : Sp.cnt p n = 0 := by
  induction n with
  | zero => rfl
  | succ n ih => rw [Sp.cnt, ih, h]; rfl
theorem cnt_two (s u : Sp.S) (n : Nat) (h : s.2 ≤ u.1) : Sp.cnt (Sp.hasB [s, u]) n = Sp.cnt (Sp.inB s) n + Sp.cnt (Sp.inB u) n := by
  rw [← Sp.cnt_or]
  · exact Sp.cnt_congr fun t _ _ => by simp [Sp.hasB]
  · intro t
    cases hb : Sp.inB s t
    · rfl
    · rw [Sp.inB_iff] at hb
      cases hc : Sp.inB u t
      · rfl
      · rw [Sp.inB_iff] at hc; omega
theorem cnt_one (s : Sp.S) (n : Nat) : Sp.cnt (Sp.hasB [s]) n = Sp.cnt (Sp.inB s) n := Sp.cnt_congr fun t _ _ => by simp [Sp.hasB]

theorem cnt_nights1 {F T d : Int} (h : okNT F T) (d0 : 0 ≤ d) (n : Nat) (hn : (d + 1) * 86400 ≤ n) : (Sp.cnt (Sp.hasB (nights1 F T d)) n : Int) = nightLen F T := by
  obtain ⟨h1, h2, h3, h4⟩ := h
  unfold nightLen nights1 winds
  by_cases hlt : T < F
  · rw [if_pos hlt, if_pos (by omega)]
    by_cases a : 0 < T
    · by_cases b : F < 86400
      · simp only [List.filter_cons, a, b, decide_true, if_true, List.filter_nil, List.map_cons, List.map_nil]
        rw [cnt_two _ _ _ (by simp only; omega), Int.natCast_add, Sp.cnt_inB _ _ (by simp only; omega) (by simp only; omega), Sp.cnt_inB _ _ (by simp only; omega) (by simp only; omega)]
        simp only; omega
      · simp only [List.filter_cons, a, b, decide_true, decide_false, if_true, List.filter_nil, List.map_cons, List.map_nil, Bool.false_eq_true, if_false]
        rw [cnt_one, Sp.cnt_inB _ _ (by simp only; omega) (by simp only; omega)]
        simp only; omega
    · by_cases b : F < 86400
      · simp only [List.filter_cons, a, b, decide_true, decide_false, if_true, List.filter_nil, List.map_cons, List.map_nil, Bool.false_eq_true, if_false]
        rw [cnt_one, Sp.cnt_inB _ _ (by simp only; omega) (by simp only; omega)]
        simp only; omega
      · simp only [List.filter_cons, a, b, decide_false, List.filter_nil, List.map_nil, Bool.false_eq_true, if_false]
        rw [cnt_zero _ _ (fun t => Sp.hasB_nil t)]
        omega
  · rw [if_neg hlt, if_neg (by omega)]
    by_cases a : F < T
    · simp only [List.filter_cons, a, decide_true, if_true, List.filter_nil, List.map_cons, List.map_nil]
      rw [cnt_one, Sp.cnt_inB _ _ (by simp only; omega) (by simp only; omega)]
      simp only; omega
    · simp only [List.filter_cons, a, decide_false, List.filter_nil, List.map_nil, Bool.false_eq_true, if_false]
      rw [cnt_zero _ _ (fun t => Sp.hasB_nil t)]
      omega

theorem cnt_nights {F T d : Int} (h : okNT F T) (d0 : 0 ≤ d) (m n : Nat) (hn : (d + m) * 86400 ≤ n) :
    (Sp.cnt (fun t => decide (d ≤ t / 86400) && decide (t / 86400 < d + m) && isNight F T (t % 86400)) n : Int) = m * nightLen F T := by
  induction m with
  | zero =>
    rw [cnt_zero _ _ (fun t => ?_)]
    · simp
    · by_cases a : d ≤ t / 86400
      · simp; intros; omega
      · simp [a]
  | succ m ih =>
    have e : Sp.cnt (fun t => decide (d ≤ t / 86400) && decide (t / 86400 < d + ((m + 1 : Nat) : Int)) && isNight F T (t % 86400)) n
        = Sp.cnt (fun t => (decide (d ≤ t / 86400) && decide (t / 86400 < d + m) && isNight F T (t % 86400)) || Sp.hasB (nights1 F T (d + m)) t) n := by
      refine Sp.cnt_congr fun t _ _ => ?_
      rw [nights1_has h]
      refine bool_eq ?_
      simp only [Bool.and_eq_true, Bool.or_eq_true, decide_eq_true_eq]
      constructor
      · rintro ⟨⟨a, b⟩, c⟩
        by_cases e : t / 86400 = d + m
        · exact .inr ⟨e, c⟩
        · exact .inl ⟨⟨a, by omega⟩, c⟩
      · rintro (⟨⟨a, b⟩, c⟩ | ⟨a, c⟩)
        · exact ⟨⟨a, by omega⟩, c⟩
        · exact ⟨⟨by omega, by omega⟩, c⟩
    rw [e, Sp.cnt_or, Int.natCast_add, ih (by omega), cnt_nights1 h (by omega) n (by omega)]
    · have : ((m + 1 : Nat) : Int) = (m : Int) + 1 := by omega
      rw [this, Int.add_mul]; omega
    · intro t
      rw [nights1_has h]
      by_cases e : t / 86400 = d + m
      · have : ¬ t / 86400 < d + m := by omega
        simp [this]
      · simp [e]

theorem night_sizes {F T : Int} (h : okNT F T) (d n : Nat) (hd : d < 300) (hn : n < 30) : Sp.size (nightOf F T [((d : Int) * 86400, (d : Int) * 86400 + (n : Int) * 86400)]) = n * nightLen F T := by
  rw [Sp.size_cnt, ← cnt_nights h (d := d) (by omega) n Sp.MTn (by have := Sp.MTn_eq; unfold Sp.MT at this; omega)]
  congr 1
  refine Sp.cnt_congr fun t t0 t1 => ?_
  have e1 : Sp.okT t = true := Sp.okT_iff.2 ⟨t0, by have := Sp.MTn_eq; omega⟩
  rw [nightOf_has h, e1, inB_one, Bool.true_and]
  congr 1
  rw [← Bool.decide_and, ← Bool.decide_and]
  exact decide_eq_decide.2 (by omega)

/-- What has been told of the nights below a place (the reference's loop). -/
theorem night_step {F T t x : Int} (h : okNT F T) (_t0 : 0 ≤ t) (h1 : t ≤ x) (h2 : x < t - t % 86400 + 86400) (h3 : t < t - t % 86400 + F → x < t - t % 86400 + F) (h4 : t < t - t % 86400 + T → x < t - t % 86400 + T) : isNight F T (x % 86400) = isNight F T (t % 86400) := by
  have e : x % 86400 = t % 86400 + (x - t) := by omega
  refine bool_eq ?_
  rw [isNight_iff h (by omega) (by omega), isNight_iff h (by omega) (by omega)]
  split <;> omega
end Go.Proofs.YtnhmibfgaoealaaGreat
