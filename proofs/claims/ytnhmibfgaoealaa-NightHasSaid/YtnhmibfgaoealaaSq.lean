/-
  Plain theory of sets of seconds, second part: the least and the greatest seconds.
-/
import Derived.Test.YtnhmibfgaoealaaSp
namespace Go.Proofs.Ytnhmibfgaoealaa.Sp

/-- How many seconds of plain spans are below one. -/
def upTo (p : List S) (t : Int) : Int := (p.map fun s => max 0 (min s.2 t - s.1)).sum

theorem upTo_cons (s : S) (r : List S) (t : Int) : upTo (s :: r) t = max 0 (min s.2 t - s.1) + upTo r t := by simp [upTo]
theorem upTo_nil (t : Int) : upTo [] t = 0 := rfl
theorem upTo_nonneg (p : List S) (t : Int) : 0 ≤ upTo p t := by
  induction p with
  | nil => exact Int.le_refl _
  | cons s r ih => rw [upTo_cons]; omega
theorem upTo_mono (p : List S) {t u : Int} (h : t ≤ u) : upTo p t ≤ upTo p u := by
  induction p with
  | nil => exact Int.le_refl _
  | cons s r ih => rw [upTo_cons, upTo_cons]; omega
theorem upTo_zero {lo : Int} {p : List S} (h : PlainFrom lo p) {t : Int} (ht : t ≤ lo) : upTo p t = 0 := by
  induction p generalizing lo with
  | nil => rfl
  | cons s r ih =>
    obtain ⟨h1, h2, h3, h4⟩ := h
    rw [upTo_cons, ih h4 (by omega)]; omega
theorem sumLen_cons (s : S) (r : List S) : sumLen (s :: r) = s.2 - s.1 + sumLen r := by simp [sumLen]
theorem sumLen_nonneg {lo : Int} {p : List S} (h : PlainFrom lo p) : 0 ≤ sumLen p := by
  induction p generalizing lo with
  | nil => exact Int.le_refl _
  | cons s r ih =>
    obtain ⟨h1, h2, h3, h4⟩ := h
    rw [sumLen_cons]; have := ih h4; omega
theorem upTo_le {lo : Int} {p : List S} (h : PlainFrom lo p) (t : Int) : upTo p t ≤ sumLen p := by
  induction p generalizing lo with
  | nil => exact Int.le_refl _
  | cons s r ih =>
    obtain ⟨h1, h2, h3, h4⟩ := h
    rw [sumLen_cons, upTo_cons]; have := ih h4; omega
theorem sumLen_le {lo : Int} {p : List S} (h : PlainFrom lo p) (hl : lo ≤ MT) : sumLen p ≤ MT - lo := by
  induction p generalizing lo with
  | nil => show (0 : Int) ≤ _; omega
  | cons s r ih =>
    obtain ⟨h1, h2, h3, h4⟩ := h
    rw [sumLen_cons]
    cases r with
    | nil => show s.2 - s.1 + 0 ≤ _; omega
    | cons x r =>
      have := ih h4 (by have := h4.1; have := h4.2.1; have := h4.2.2.1; omega)
      omega
theorem upTo_strict {lo : Int} {p : List S} (h : PlainFrom lo p) {t : Int} (ht : hasB p t = true) : upTo p t < sumLen p := by
  induction p generalizing lo with
  | nil => simp [hasB] at ht
  | cons s r ih =>
    obtain ⟨h1, h2, h3, h4⟩ := h
    rw [sumLen_cons, upTo_cons]
    rw [hasB_cons, Bool.or_eq_true, inB_iff] at ht
    rcases ht with ht | ht
    · have := upTo_le h4 t; omega
    · have := ih h4 ht; omega

/-- The n least ones of plain spans. -/
def firstP : List S → Int → List S
  | [], _ => []
  | s :: r, n => if n ≤ 0 then [] else (s.1, min s.2 (s.1 + min n MT)) :: firstP r (n - (min s.2 (s.1 + min n MT) - s.1))
def first (l : List S) (n : Int) : List S := firstP (norm l) n

theorem firstP_nonpos (p : List S) {n : Int} (h : n ≤ 0) : firstP p n = [] := by
  cases p with
  | nil => rfl
  | cons s r => rw [firstP, if_pos h]

theorem firstP_plain {lo : Int} {p : List S} (h : PlainFrom lo p) (h0 : 0 ≤ lo) (n : Int) : PlainFrom lo (firstP p n) := by
  induction p generalizing lo n with
  | nil => trivial
  | cons s r ih =>
    obtain ⟨h1, h2, h3, h4⟩ := h
    unfold firstP
    split
    · trivial
    · refine ⟨h1, ?_, ?_, ?_⟩
      · show s.1 < min s.2 (s.1 + min n MT); have : (0 : Int) < MT := by decide
        omega
      · show min s.2 (s.1 + min n MT) ≤ MT; omega
      · exact (ih h4 (by omega) _).mono (by show min s.2 (s.1 + min n MT) + 1 ≤ s.2 + 1; omega)

theorem firstP_has {lo : Int} {p : List S} (h : PlainFrom lo p) (h0 : 0 ≤ lo) (n : Int) (t : Int) : hasB (firstP p n) t = (hasB p t && decide (upTo p t < n)) := by
  induction p generalizing lo n with
  | nil => rfl
  | cons s r ih =>
    obtain ⟨h1, h2, h3, h4⟩ := h
    unfold firstP
    split
    · have := upTo_nonneg (s :: r) t
      rw [decide_eq_false (by omega)]; simp [hasB]
    · rw [hasB_cons, ih h4 (by omega), hasB_cons, upTo_cons]
      have hr : hasB r t = true → s.2 + 1 ≤ t := fun k => (h4.has k).1
      have hn := upTo_nonneg r t
      have hz : t ≤ s.2 + 1 → upTo r t = 0 := fun k => upTo_zero h4 k
      have e : min s.2 (s.1 + min n MT) = min s.2 (s.1 + n) := by omega
      rw [e, Bool.eq_iff_iff]
      cases hb : hasB r t
      · simp [inB]
        constructor
        · rintro ⟨a, b⟩
          have := hz (by omega)
          omega
        · rintro ⟨⟨a, b⟩, c⟩
          omega
      · have := hr hb
        simp [inB]
        omega

theorem sumLen_firstP {lo : Int} {p : List S} (h : PlainFrom lo p) (h0 : 0 ≤ lo) (n : Int) : sumLen (firstP p n) = max 0 (min n (sumLen p)) := by
  induction p generalizing lo n with
  | nil => show (0 : Int) = max 0 (min n 0); omega
  | cons s r ih =>
    obtain ⟨h1, h2, h3, h4⟩ := h
    have hs := sumLen_nonneg h4
    unfold firstP
    split
    · rw [sumLen_cons]; show (0 : Int) = _; omega
    · rw [sumLen_cons, ih h4 (by omega), sumLen_cons]
      show min s.2 (s.1 + min n MT) - s.1 + _ = _
      omega

theorem first_plain (l : List S) (n : Int) : Plain (first l n) := firstP_plain (norm_plain l) (Int.le_refl 0) n
theorem first_has (l : List S) (n t : Int) : hasB (first l n) t = (hasB (norm l) t && decide (upTo (norm l) t < n)) := firstP_has (norm_plain l) (Int.le_refl 0) n t

theorem size_of_plain {l : List S} (h : Plain l) : size l = sumLen l := by rw [size, norm_of_plain h]
theorem size_first (l : List S) (n : Int) : size (first l n) = max 0 (min n (size l)) := by
  rw [size_of_plain (first_plain l n), first, sumLen_firstP (norm_plain l) (Int.le_refl 0), size]
theorem size_nonneg (l : List S) : 0 ≤ size l := sumLen_nonneg (norm_plain l)
theorem size_le (l : List S) : size l ≤ MT := by have := sumLen_le (norm_plain l) (by decide); rw [size]; omega

def last (l : List S) (n : Int) : List S := if n ≤ 0 then [] else minus l (first l (size l - min n MT))

theorem plain_nil : Plain [] := trivial
theorem last_plain (l : List S) (n : Int) : Plain (last l n) := by
  unfold last; split
  · exact plain_nil
  · exact minus_plain _ _
theorem last_has (l : List S) (n t : Int) : hasB (last l n) t = (hasB (norm l) t && decide (size l - n ≤ upTo (norm l) t)) := by
  have hs := size_le l
  unfold last
  split
  · cases hb : hasB (norm l) t
    · simp [hasB]
    · have := upTo_strict (norm_plain l) hb
      have e : ¬ size l - n ≤ upTo (norm l) t := by rw [size] ; omega
      simp [hasB, e]
  · rw [minus_has, first_has, ← Bool.and_assoc, ← norm_has]
    cases hb : hasB (norm l) t
    · rfl
    · have hn := upTo_nonneg (norm l) t
      rw [Bool.eq_iff_iff]; simp; omega

/-- The least number below which so many seconds are. -/
def atP : List S → Int → Int
  | [], _ => MT
  | s :: r, n => if n ≤ s.2 - s.1 then s.1 + n else atP r (n - (s.2 - s.1))
def at_ (p : List S) (n : Int) : Int := if n < 1 then 0 else atP p n

theorem atP_lt {lo : Int} {p : List S} (h : PlainFrom lo p) {n : Int} (h1 : 1 ≤ n) {t : Int} (ht : hasB p t = true) : (t < atP p n ↔ upTo p t < n) := by
  induction p generalizing lo n with
  | nil => simp [hasB] at ht
  | cons s r ih =>
    obtain ⟨k1, k2, k3, k4⟩ := h
    rw [hasB_cons, Bool.or_eq_true, inB_iff] at ht
    rw [upTo_cons]
    unfold atP
    rcases ht with ht | ht
    · rw [upTo_zero k4 (by omega)]
      split
      · omega
      · have : t < atP r (n - (s.2 - s.1)) := by
          clear ih
          have : ∀ (lo : Int) (r : List S), PlainFrom lo r → ∀ m, 1 ≤ m → lo ≤ MT → lo ≤ atP r m := by
            intro lo r
            induction r generalizing lo with
            | nil => intro _ m _ hm; exact hm
            | cons x r ih =>
              rintro ⟨a, b, c, d⟩ m hm hl
              unfold atP
              split
              · omega
              · cases r with
                | nil => exact hl
                | cons y r => have := ih _ d (m - (x.2 - x.1)) (by omega) (by have := d.1; have := d.2.1; have := d.2.2.1; omega); omega
          cases r with
          | nil => show t < MT; omega
          | cons y r => have := this _ _ k4 (n - (s.2 - s.1)) (by omega) (by have := k4.1; have := k4.2.1; have := k4.2.2.1; omega); omega
        omega
    · have h5 := (k4.has ht).1
      have hn := upTo_nonneg r t
      split
      · omega
      · rw [ih k4 (by omega) ht]; omega

theorem first_at (l : List S) (n : Int) : and_ l [(0, at_ (norm l) n)] = first l n := by
  refine (and_plain _ _).uniq (first_plain _ _) fun t => ?_
  rw [and_has, first_has, ← Bool.and_assoc, ← norm_has]
  cases hb : hasB (norm l) t
  · rfl
  · have hk := (norm_plain l).has hb
    have hn := upTo_nonneg (norm l) t
    simp only [Bool.true_and]
    rw [Bool.eq_iff_iff, hasB_iff, decide_eq_true_eq]
    unfold at_
    split
    · constructor
      · rintro ⟨s, hs, a, b⟩
        simp at hs; subst hs; simp at a b; omega
      · intro h; omega
    · rw [← atP_lt (norm_plain l) (by omega) hb]
      constructor
      · rintro ⟨s, hs, a, b⟩
        simp at hs; subst hs; exact b
      · intro h; exact ⟨_, List.mem_singleton.2 rfl, hk.1, h⟩

theorem last_at (l : List S) (n : Int) (_h1 : 1 ≤ n) (h2 : n < size l) : minus l [(0, at_ (norm l) (size l - n))] = last l n := by
  refine (minus_plain _ _).uniq (last_plain _ _) fun t => ?_
  rw [minus_has, last_has, ← Bool.and_assoc, ← norm_has]
  cases hb : hasB (norm l) t
  · rfl
  · have hk := (norm_plain l).has hb
    simp only [Bool.true_and]
    have e : hasB [(0, at_ (norm l) (size l - n))] t = decide (t < at_ (norm l) (size l - n)) := by
      simp [hasB, inB, hk.1]
    rw [e, at_, if_neg (by omega), ← decide_not]
    have := atP_lt (norm_plain l) (n := size l - n) (by omega) hb
    rw [Bool.eq_iff_iff, decide_eq_true_eq, decide_eq_true_eq]; omega

theorem last_all (l : List S) (n : Int) (h2 : size l ≤ n) (_h1 : 1 ≤ n) : norm l = last l n := by
  refine (norm_plain _).uniq (last_plain _ _) fun t => ?_
  rw [last_has]
  have hn := upTo_nonneg (norm l) t
  rw [decide_eq_true (by omega), Bool.and_true]

end Go.Proofs.Ytnhmibfgaoealaa.Sp
