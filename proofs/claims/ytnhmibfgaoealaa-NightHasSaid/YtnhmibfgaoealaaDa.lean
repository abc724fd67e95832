/-
  Plain theory of days and weeks: the days that have some rise, and are just those of the seconds.
-/
import Derived.Test.YtnhmibfgaoealaaSd
namespace Go.Proofs.Ytnhmibfgaoealaa
set_option linter.unusedVariables false
set_option linter.unusedSimpArgs false

theorem pair_snoc {o : List Int} {d : Int} (h : o.Pairwise (· < ·)) (hd : ∀ x ∈ o, x < d) : (o ++ [d]).Pairwise (· < ·) := by
  rw [List.pairwise_append]
  exact ⟨h, List.pairwise_singleton _ _, fun a ha b hb => by simp at hb; subst hb; exact hd a ha⟩

theorem putL_spec {o : List Int} {d : Int} (h : o.Pairwise (· < ·)) (hd : ∀ x ∈ o, x ≤ d) :
    (putL o d).Pairwise (· < ·) ∧ (∀ x, x ∈ putL o d ↔ x ∈ o ∨ x = d) := by
  rcases List.eq_nil_or_concat o with rfl | ⟨o', x, rfl⟩
  · rw [putL_nil]; exact ⟨by simp, fun x => by simp⟩
  · rw [List.concat_eq_append] at *
    have hlt : ∀ y ∈ o', y < x := by
      rw [List.pairwise_append] at h
      exact fun y hy => h.2.2 y hy x (by simp)
    by_cases hx : x < d
    · rw [putL_lt hx]
      refine ⟨pair_snoc h ?_, fun y => by simp [or_assoc]⟩
      intro y hy
      rcases List.mem_append.1 hy with hy | hy
      · have := hlt y hy; omega
      · simp at hy; omega
    · rw [putL_ge (by omega)]
      have := hd x (by simp)
      obtain rfl : x = d := by omega
      refine ⟨h, fun y => ?_⟩
      simp

theorem putsN_spec {o : List Int} {f : Int} (h : o.Pairwise (· < ·)) (hd : ∀ x ∈ o, x ≤ f) (n : Nat) :
    (putsN o f n).Pairwise (· < ·) ∧ (∀ x, x ∈ putsN o f n ↔ x ∈ o ∨ (f ≤ x ∧ x < f + n)) := by
  induction n with
  | zero => exact ⟨h, fun x => by simp [putsN]; intro a b; omega⟩
  | succ n ih =>
    rw [putsN_succ]
    obtain ⟨i1, i2⟩ := ih
    obtain ⟨k1, k2⟩ := putL_spec i1 (d := f + n) (fun x hx => by
      rcases (i2 x).1 hx with hx | hx
      · have := hd x hx; omega
      · omega)
    refine ⟨k1, fun x => ?_⟩
    rw [k2, i2]
    constructor
    · rintro ((a | a) | a)
      · exact .inl a
      · exact .inr (by omega)
      · exact .inr (by omega)
    · rintro (a | a)
      · exact .inl (.inl a)
      · by_cases e : x = f + n
        · exact .inr e
        · exact .inl (.inr (by omega))

theorem daysL_spec {N : List Sp.S} (h : Sp.Plain N) : (daysL N).Pairwise (· < ·) ∧ ∀ d, d ∈ daysL N ↔ ∃ t, Sp.hasB N t = true ∧ dayOf t = d := by
  rcases List.eq_nil_or_concat N with rfl | ⟨o, s, hN⟩
  · exact ⟨List.Pairwise.nil, fun d => by simp [daysL, Sp.hasB]⟩
  · rw [List.concat_eq_append] at hN
    subst hN
    obtain ⟨h1, h2, h3, h4, h5⟩ := Sp.plainFrom_snoc.1 h
    obtain ⟨i1, i2⟩ := daysL_spec (N := o) h1
    have h4' : s.2 ≤ 32054400 := h4
    have hb : ∀ t, Sp.hasB o t = true → t < s.1 := fun t ht => by
      obtain ⟨y, hy, ha, hb⟩ := Sp.hasB_iff.1 ht
      have := h5 y hy; omega
    rw [daysL_snoc]
    obtain ⟨k1, k2⟩ := putsN_spec i1 (f := dayOf s.1) (fun x hx => by
      obtain ⟨t, ht, rfl⟩ := (i2 x).1 hx
      exact dayOf_mono (by have := hb t ht; omega)) (spanN s)
    refine ⟨k1, fun d => ?_⟩
    have hm : dayOf s.1 ≤ dayOf (s.2 - 1) := dayOf_mono (by omega)
    rw [k2, i2]
    have hs : dayOf s.1 + (spanN s : Int) = dayOf (s.2 - 1) + 1 := by unfold spanN; omega
    rw [hs]
    constructor
    · rintro (⟨t, ht, rfl⟩ | ⟨a, b⟩)
      · exact ⟨t, by rw [Sp.hasB_append, ht]; rfl, rfl⟩
      · refine ⟨max s.1 (d * 86400), ?_, ?_⟩
        · rw [Sp.hasB_append, Sp.hasB_cons]
          have : Sp.inB s (max s.1 (d * 86400)) = true := by
            rw [Sp.inB_iff]
            unfold dayOf at a b
            omega
          rw [this]; simp
        · unfold dayOf at a b ⊢
          omega
    · rintro ⟨t, ht, rfl⟩
      rw [Sp.hasB_append, Bool.or_eq_true] at ht
      rcases ht with ht | ht
      · exact .inl ⟨t, ht, rfl⟩
      · rw [Sp.hasB_cons, Sp.hasB_nil, Bool.or_false, Sp.inB_iff] at ht
        exact .inr ⟨dayOf_mono ht.1, by have := dayOf_mono (t := t) (u := s.2 - 1) (by omega); omega⟩
termination_by N.length
decreasing_by subst hN; simp

/-- The days of a set: they rise, and are just those of its seconds. -/
theorem days_spec (l : List Sp.S) : (daysL (Sp.norm l)).Pairwise (· < ·) ∧ ∀ d, d ∈ daysL (Sp.norm l) ↔ ∃ t, Sp.okT t = true ∧ Sp.hasB l t = true ∧ dayOf t = d := by
  obtain ⟨h1, h2⟩ := daysL_spec (Sp.norm_plain l)
  refine ⟨h1, fun d => (h2 d).trans ?_⟩
  constructor
  · rintro ⟨t, ht, e⟩
    rw [Sp.norm_has, Bool.and_eq_true] at ht
    exact ⟨t, ht.1, ht.2, e⟩
  · rintro ⟨t, h1, h2, e⟩
    exact ⟨t, by rw [Sp.norm_has, h1, h2]; rfl, e⟩

theorem day_div {t : Int} (h : Sp.okT t = true) : dayOf t = t / 86400 ∧ 0 ≤ t ∧ t < 32054400 := by
  have := Sp.okT_iff.1 h
  unfold Sp.MT at this
  unfold dayOf
  omega
theorem week_div {t : Int} (h : Sp.okT t = true) : weekOf t = t / 604800 ∧ 0 ≤ t ∧ t < 32054400 := by
  have := Sp.okT_iff.1 h
  unfold Sp.MT at this
  unfold weekOf
  omega

theorem partS_plain (l : List Sp.S) (n s : Int) : Sp.Plain (partS l n s) := by
  unfold partS; split
  · trivial
  · exact Sp.and_plain _ _
theorem bool_eq {a b : Bool} (h : a = true ↔ b = true) : a = b := by rw [Bool.eq_iff_iff]; exact h

theorem inB_one (p q t : Int) : Sp.hasB [(p, q)] t = (decide (p ≤ t) && decide (t < q)) := by simp [Sp.hasB, Sp.inB]

theorem partDay_has (l : List Sp.S) (n t : Int) : Sp.hasB (partS l n 86400) t = (Sp.okT t && Sp.hasB l t && decide (dayOf t = n)) := by
  cases hk : Sp.okT t
  · cases hb : Sp.hasB (partS l n 86400) t
    · rfl
    · rw [Sp.okT_of_plain (partS_plain _ _ _) hb] at hk; cases hk
  · obtain ⟨h1, h2, h3⟩ := day_div hk
    unfold partS
    split
    · rename_i h
      have : ¬ dayOf t = n := by omega
      simp [Sp.hasB, this]
    · rename_i h
      rw [Sp.and_has, hk, inB_one]
      simp only [Bool.true_and]
      congr 1
      rw [← Bool.decide_and]
      exact decide_eq_decide.2 (by rw [h1]; omega)
theorem partWeek_has (l : List Sp.S) (n t : Int) : Sp.hasB (partS l n 604800) t = (Sp.okT t && Sp.hasB l t && decide (weekOf t = n)) := by
  cases hk : Sp.okT t
  · cases hb : Sp.hasB (partS l n 604800) t
    · rfl
    · rw [Sp.okT_of_plain (partS_plain _ _ _) hb] at hk; cases hk
  · obtain ⟨h1, h2, h3⟩ := week_div hk
    unfold partS
    split
    · rename_i h
      have : ¬ weekOf t = n := by omega
      simp [Sp.hasB, this]
    · rename_i h
      rw [Sp.and_has, hk, inB_one]
      simp only [Bool.true_and]
      congr 1
      rw [← Bool.decide_and]
      exact decide_eq_decide.2 (by rw [h1]; omega)

theorem hasB_flatMap {α : Type} (f : α → List Sp.S) (l : List α) (t : Int) : Sp.hasB (l.flatMap f) t = l.any fun x => Sp.hasB (f x) t := by
  induction l with
  | nil => rfl
  | cons x r ih => rw [List.flatMap_cons, Sp.hasB_append, ih, List.any_cons]

/-- The days' seconds together are the set. -/
theorem days_make (l : List Sp.S) : Sp.norm ((daysL (Sp.norm l)).flatMap fun d => partS l d 86400) = Sp.norm l := by
  refine Sp.norm_congr fun t ht => ?_
  rw [hasB_flatMap]
  refine bool_eq ?_
  rw [List.any_eq_true]
  constructor
  · rintro ⟨d, _, hd⟩
    rw [partDay_has, ht] at hd
    simp at hd
    exact hd.1
  · intro h
    refine ⟨dayOf t, ((days_spec l).2 _).2 ⟨t, ht, h, rfl⟩, ?_⟩
    rw [partDay_has, ht, h]; simp

/-- Those of a week are those of its days. -/
theorem days_week (l : List Sp.S) (w : Int) : Sp.norm (((daysL (Sp.norm l)).filter fun d => d / 7 == w).flatMap fun d => partS l d 86400) = partS l w 604800 := by
  refine (Sp.norm_plain _).uniq (partS_plain _ _ _) fun t => ?_
  rw [Sp.norm_has, partWeek_has, hasB_flatMap]
  cases hk : Sp.okT t
  · rfl
  · obtain ⟨h1, h2, h3⟩ := day_div hk
    obtain ⟨h4, _, _⟩ := week_div hk
    simp only [Bool.true_and]
    refine bool_eq ?_
    rw [List.any_eq_true]
    constructor
    · rintro ⟨d, hd, hb⟩
      rw [partDay_has, hk] at hb
      simp at hb hd
      simp
      refine ⟨hb.1, ?_⟩
      rw [h4]
      have := hd.2
      omega
    · intro h
      simp at h
      refine ⟨dayOf t, List.mem_filter.2 ⟨((days_spec l).2 _).2 ⟨t, hk, h.1, rfl⟩, ?_⟩, ?_⟩
      · simp; omega
      · rw [partDay_has, hk, h.1]; simp

theorem partDay_ne (l : List Sp.S) {d : Int} (h : d ∈ daysL (Sp.norm l)) : partS l d 86400 ≠ [] := by
  obtain ⟨t, h1, h2, h3⟩ := ((days_spec l).2 d).1 h
  intro e
  have := partDay_has l d t
  rw [e, h1, h2] at this
  simp [Sp.hasB, h3] at this

theorem has_eq (l : List Sp.S) (t : Int) : Sp.has l t = (Sp.okT t && Sp.hasB l t) := Sp.norm_has l t
theorem has_plain {l : List Sp.S} (h : Sp.Plain l) (t : Int) : Sp.has l t = Sp.hasB l t := by unfold Sp.has; rw [Sp.norm_of_plain h]

theorem punchHas_day (l : List Sp.S) (n t : Int) : Sp.has (partS l n 86400) t = (Sp.has l t && decide (dayOf t = n)) := by
  rw [has_plain (partS_plain _ _ _), partDay_has, has_eq]
theorem punchHas_week (l : List Sp.S) (n t : Int) : Sp.has (partS l n 604800) t = (Sp.has l t && decide (weekOf t = n)) := by
  rw [has_plain (partS_plain _ _ _), partWeek_has, has_eq]

theorem flatMap_len {α : Type} (f : α → List Sp.S) (n : Nat) (l : List α) (h : ∀ x ∈ l, (f x).length ≤ n) : (l.flatMap f).length ≤ l.length * n := by
  induction l with
  | nil => simp
  | cons x r ih =>
    rw [List.flatMap_cons, List.length_append, List.length_cons, Nat.add_mul]
    have a := h x (by simp)
    have b := ih fun y hy => h y (by simp [hy])
    omega
theorem pair_len_aux {l : List Int} {m : Int} (h : l.Pairwise (· < ·)) (h2 : ∀ d ∈ l, m ≤ d ∧ d ≤ 370) (hm : m ≤ 371) : (l.length : Int) ≤ 371 - m := by
  induction l generalizing m with
  | nil => simp; omega
  | cons x r ih =>
    rw [List.pairwise_cons] at h
    have hx := h2 x (by simp)
    have := ih (m := x + 1) h.2 (fun d hd => ⟨by have := h.1 d hd; omega, (h2 d (by simp [hd])).2⟩) (by omega)
    rw [List.length_cons]
    omega
theorem pair_len {l : List Int} (h : l.Pairwise (· < ·)) (h2 : ∀ d ∈ l, 0 ≤ d ∧ d ≤ 370) : l.length ≤ 371 := by
  have := pair_len_aux h h2 (by omega)
  omega
theorem days_len (l : List Sp.S) : (daysL (Sp.norm l)).length ≤ 371 :=
  pair_len (days_spec l).1 fun d hd => by
    obtain ⟨t, _, _, rfl⟩ := ((days_spec l).2 d).1 hd
    exact dayOf_bd t
theorem partS_len (l : List Sp.S) (n s : Int) : (partS l n s).length ≤ l.length + 1 := by
  unfold partS
  split
  · simp
  · have a := Sp.and_length l [(n * s, (n + 1) * s)]
    have b := Sp.norm_length l
    have c := Sp.norm_length [(n * s, (n + 1) * s)]
    simp at c
    omega

/-- Rounding. -/
theorem round_small {a k : Int} (a0 : 0 ≤ a) (a1 : a < 31000000) (k0 : 1 ≤ k) (k1 : k ≤ 65536) : roundOf a k = if k - a % k ≤ a % k then a - a % k + k else a - a % k := by
  have hd := Int.mul_ediv_add_emod a k
  have hr := Int.emod_nonneg a (show k ≠ 0 by omega)
  have hr2 := Int.emod_lt_of_pos a (show 0 < k by omega)
  unfold roundOf halfOf
  rw [if_neg (by omega), show min (max a 0) 32054400 = a from by omega, show min k 64108801 = k from by omega]
  have hc : k * (a / k) = a / k * k := Int.mul_comm _ _
  split
  · rw [Int.add_mul]; omega
  · omega
theorem round_mod {a k : Int} (a0 : 0 ≤ a) (a1 : a < 31000000) (k0 : 1 ≤ k) (k1 : k ≤ 65536) : roundOf a k % k = 0 := by
  rw [round_small a0 a1 k0 k1]
  have h1 : (a - a % k) % k = 0 := by rw [Int.sub_emod, Int.emod_emod]; simp
  split
  · rw [Int.add_emod, h1]; simp
  · exact h1
theorem round_near {a k : Int} (a0 : 0 ≤ a) (a1 : a < 31000000) (k0 : 1 ≤ k) (k1 : k ≤ 65536) : 2 * (roundOf a k - a) ≤ k ∧ 2 * (a - roundOf a k) < k ∧ 0 ≤ roundOf a k ∧ roundOf a k ≤ 31100000 := by
  have hd := Int.mul_ediv_add_emod a k
  have hr := Int.emod_nonneg a (show k ≠ 0 by omega)
  have hr2 := Int.emod_lt_of_pos a (show 0 < k by omega)
  have h0 : 0 ≤ k * (a / k) := Int.mul_nonneg (by omega) (Int.ediv_nonneg a0 (by omega))
  rw [round_small a0 a1 k0 k1]
  split <;> omega
theorem mul_gap {k x y : Int} (k0 : 1 ≤ k) (h : k * x < k * y) : k * x + k ≤ k * y := by
  have hxy : x < y := Int.lt_of_mul_lt_mul_left h (by omega)
  have : k * (x + 1) ≤ k * y := Int.mul_le_mul_of_nonneg_left (by omega) (by omega)
  rw [Int.mul_add] at this
  omega
theorem round_mono {a b k : Int} (a0 : 0 ≤ a) (b1 : b < 31000000) (k0 : 1 ≤ k) (k1 : k ≤ 65536) (h : a ≤ b) : roundOf a k ≤ roundOf b k := by
  obtain ⟨x, hx⟩ : ∃ x, roundOf a k = k * x := ⟨roundOf a k / k, (Int.mul_ediv_cancel' (Int.dvd_of_emod_eq_zero (round_mod a0 (by omega) k0 k1))).symm⟩
  obtain ⟨y, hy⟩ : ∃ x, roundOf b k = k * x := ⟨roundOf b k / k, (Int.mul_ediv_cancel' (Int.dvd_of_emod_eq_zero (round_mod (by omega) b1 k0 k1))).symm⟩
  have h1 := round_near a0 (show a < 31000000 by omega) k0 k1
  have h2 := round_near (show 0 ≤ b by omega) b1 k0 k1
  by_cases hlt : roundOf b k < roundOf a k
  · rw [hx] at h1; rw [hy] at h2
    rw [hx, hy] at hlt
    have := mul_gap k0 hlt
    omega
  · omega
theorem round_again {a k : Int} (a0 : 0 ≤ a) (a1 : a < 31000000) (k0 : 1 ≤ k) (k1 : k ≤ 65536) : roundOf (roundOf a k) k = roundOf a k := by
  have h := round_near a0 a1 k0 k1
  have hm := round_mod a0 a1 k0 k1
  have hd := Int.mul_ediv_add_emod (roundOf a k) k
  generalize roundOf a k = x at *
  unfold roundOf halfOf
  rw [if_neg (by omega), show min (max x 0) 32054400 = x from by omega, show min k 64108801 = k from by omega, hm, if_neg (by omega)]
  have hc : k * (x / k) = x / k * k := Int.mul_comm _ _
  omega
end Go.Proofs.Ytnhmibfgaoealaa
