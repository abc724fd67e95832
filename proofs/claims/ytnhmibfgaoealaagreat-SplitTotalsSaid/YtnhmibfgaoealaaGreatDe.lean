/-
  Plain theory of overtime.
  How many pieces the days make of plain spans.
  Plain theory of breaks.
-/
import Derived.Test.YtnhmibfgaoealaaGreatMl
namespace Go.Proofs.YtnhmibfgaoealaaGreat
set_option linter.unusedVariables false
set_option linter.unusedSimpArgs false

theorem upTo_cnt {l : List Sp.S} (h : Sp.Plain l) {t : Int} (t0 : 0 ≤ t) : Sp.upTo l t = (Sp.cnt (Sp.hasB l) t.toNat : Int) := by
  rw [Sp.plain_cnt h (Int.le_refl 0), show ((t.toNat : Nat) : Int) = t from by omega]
  rfl
theorem upTo_congr {a b : List Sp.S} (ha : Sp.Plain a) (hb : Sp.Plain b) {t : Int} (t0 : 0 ≤ t) (h : ∀ x, 0 ≤ x → x < t → Sp.hasB a x = Sp.hasB b x) : Sp.upTo a t = Sp.upTo b t := by
  rw [upTo_cnt ha t0, upTo_cnt hb t0, Sp.cnt_congr fun x h0 h1 => h x h0 (by omega)]

/-- How many seconds of its day are ahead of a second. -/
def rankD (A : List Sp.S) (t : Int) : Int := Sp.upTo (partS A (dayOf t) 86400) t
def shortL (A : List Sp.S) (n : Int) : List Sp.S := (daysL (Sp.norm A)).flatMap fun d => Sp.first (partS A d 86400) n

theorem firstDay_has (A : List Sp.S) (d n t : Int) : Sp.hasB (Sp.first (partS A d 86400) n) t = (Sp.okT t && Sp.hasB A t && decide (dayOf t = d) && decide (rankD A t < n)) := by
  rw [Sp.first_has, Sp.norm_of_plain (partS_plain _ _ _), partDay_has]
  by_cases e : dayOf t = d
  · subst e; rfl
  · simp [e]

theorem shortL_has (A : List Sp.S) (n t : Int) : Sp.hasB (shortL A n) t = (Sp.okT t && Sp.hasB A t && decide (rankD A t < n)) := by
  unfold shortL
  rw [hasB_flatMap]
  refine bool_eq ?_
  rw [List.any_eq_true]
  constructor
  · rintro ⟨d, _, hb⟩
    rw [firstDay_has] at hb
    simp only [Bool.and_eq_true] at hb ⊢
    exact ⟨hb.1.1, hb.2⟩
  · intro hb
    simp only [Bool.and_eq_true] at hb
    refine ⟨dayOf t, ((days_spec A).2 _).2 ⟨t, hb.1.1, hb.1.2, rfl⟩, ?_⟩
    rw [firstDay_has]
    simp only [Bool.and_eq_true]
    exact ⟨⟨hb.1, by simp⟩, hb.2⟩

theorem firstP_len (p : List Sp.S) (n : Int) : (Sp.firstP p n).length ≤ p.length := by
  induction p generalizing n with
  | nil => unfold Sp.firstP; simp
  | cons s r ih =>
    unfold Sp.firstP
    split
    · simp
    · rw [List.length_cons, List.length_cons]; have := ih (n - (min s.2 (s.1 + min n Sp.MT) - s.1)); omega
theorem shortL_len (A : List Sp.S) (n : Int) (hA : A.length ≤ 500) : (shortL A n).length ≤ 371 * 1002 := by
  have h1 := (days_spec A).1
  have h2 : ∀ d ∈ daysL (Sp.norm A), 0 ≤ d ∧ d ≤ 370 := fun d hd => by
    obtain ⟨t, _, _, rfl⟩ := ((days_spec A).2 d).1 hd
    exact dayOf_bd t
  have h3 := pair_len h1 h2
  have h4 : ∀ d, (Sp.first (partS A d 86400) n).length ≤ 1002 := fun d => by
    have a := Nat.le_trans (firstP_len (Sp.norm (partS A d 86400)) n) (Sp.norm_length _)
    have b := partS_len A d 86400
    unfold Sp.first; omega
  have h5 := flatMap_len (fun d => Sp.first (partS A d 86400) n) 1002 (daysL (Sp.norm A)) fun d _ => h4 d
  unfold shortL
  exact Nat.le_trans h5 (Nat.mul_le_mul_right _ h3)

@[irreducible] def overR (A : List Sp.S) (R W : Int) : List Sp.S := Sp.first (shortL A R) W
@[irreducible] def overO (A : List Sp.S) (R O W : Int) : List Sp.S := Sp.minus (shortL A O) (overR A R W)
@[irreducible] def overD (A : List Sp.S) (O : Int) : List Sp.S := Sp.minus A (shortL A O)

theorem overR_plain (A : List Sp.S) (R W : Int) : Sp.Plain (overR A R W) := by unfold overR; exact Sp.first_plain _ _
theorem overO_plain (A : List Sp.S) (R O W : Int) : Sp.Plain (overO A R O W) := by unfold overO; exact Sp.minus_plain _ _
theorem overD_plain (A : List Sp.S) (O : Int) : Sp.Plain (overD A O) := by unfold overD; exact Sp.minus_plain _ _
theorem overR_has (A : List Sp.S) (R W t : Int) : Sp.hasB (overR A R W) t = (Sp.okT t && Sp.hasB A t && decide (rankD A t < R) && decide (Sp.upTo (Sp.norm (shortL A R)) t < W)) := by
  unfold overR
  rw [Sp.first_has, Sp.norm_has, shortL_has]
  cases Sp.okT t <;> simp
theorem overO_has (A : List Sp.S) (R O W t : Int) : Sp.hasB (overO A R O W) t = (Sp.okT t && Sp.hasB A t && decide (rankD A t < O) && !Sp.hasB (overR A R W) t) := by
  unfold overO
  rw [Sp.minus_has, shortL_has]
  cases Sp.okT t <;> simp
theorem overD_has (A : List Sp.S) (O t : Int) : Sp.hasB (overD A O) t = (Sp.okT t && Sp.hasB A t && decide (O ≤ rankD A t)) := by
  unfold overD
  rw [Sp.minus_has, shortL_has]
  cases Sp.okT t
  · rfl
  · cases Sp.hasB A t
    · rfl
    · simp only [Bool.true_and]
      by_cases h : rankD A t < O
      · have : ¬ O ≤ rankD A t := by omega
        simp [h, this]
      · have : O ≤ rankD A t := by omega
        simp [h, this]
theorem overR_sub {A : List Sp.S} {R W t : Int} (h : Sp.hasB (overR A R W) t = true) : Sp.okT t = true ∧ Sp.hasB A t = true ∧ rankD A t < R := by
  rw [overR_has] at h
  simp only [Bool.and_eq_true, decide_eq_true_eq] at h
  exact ⟨h.1.1.1, h.1.1.2, h.1.2⟩

/-- The reference's cut of a day's plain spans. -/
def cutR (R : Int) : List Sp.S → Int → List Sp.S
  | [], _ => []
  | s :: r, k => (s.1, s.1 + max 0 (min (s.2 - s.1) (R - k))) :: cutR R r (k + s.2 - s.1)
def cutO (R O : Int) : List Sp.S → Int → List Sp.S
  | [], _ => []
  | s :: r, k => (s.1 + max 0 (min (s.2 - s.1) (R - k)), s.1 + max 0 (min (s.2 - s.1) (O - k))) :: cutO R O r (k + s.2 - s.1)
def cutD (O : Int) : List Sp.S → Int → List Sp.S
  | [], _ => []
  | s :: r, k => (s.1 + max 0 (min (s.2 - s.1) (O - k)), s.2) :: cutD O r (k + s.2 - s.1)

theorem cut_cases {lo : Int} {s : Sp.S} {r : List Sp.S} (h : Sp.PlainFrom lo (s :: r)) (t : Int) :
    (t < s.1 ∧ Sp.hasB (s :: r) t = false ∧ Sp.hasB r t = false) ∨
    (s.1 ≤ t ∧ t < s.2 ∧ Sp.hasB (s :: r) t = true ∧ Sp.hasB r t = false ∧ Sp.upTo (s :: r) t = t - s.1) ∨
    (s.2 ≤ t ∧ Sp.hasB (s :: r) t = Sp.hasB r t ∧ Sp.upTo (s :: r) t = s.2 - s.1 + Sp.upTo r t) := by
  obtain ⟨h1, h2, h3, h4⟩ := h
  rw [Sp.upTo_cons, Sp.hasB_cons]
  by_cases a : t < s.1
  · refine .inl ⟨a, ?_, h4.not_has (by omega)⟩
    rw [h4.not_has (by omega)]; simp [Sp.inB]; omega
  · by_cases b : t < s.2
    · refine .inr (.inl ⟨by omega, b, ?_, h4.not_has (by omega), ?_⟩)
      · rw [Sp.inB_iff.2 ⟨by omega, b⟩]; rfl
      · rw [Sp.upTo_zero h4 (by omega)]; omega
    · refine .inr (.inr ⟨by omega, ?_, by omega⟩)
      have : Sp.inB s t = false := by
        cases hb : Sp.inB s t
        · rfl
        · rw [Sp.inB_iff] at hb; omega
      rw [this, Bool.false_or]

theorem inB_dec (p q t : Int) : Sp.inB (p, q) t = (decide (p ≤ t) && decide (t < q)) := rfl

theorem cutR_has {lo : Int} {p : List Sp.S} (h : Sp.PlainFrom lo p) (R k t : Int) : Sp.hasB (cutR R p k) t = (Sp.hasB p t && decide (k + Sp.upTo p t < R)) := by
  induction p generalizing lo k with
  | nil => rfl
  | cons s r ih =>
    have h2 := h.2.1
    unfold cutR
    rw [Sp.hasB_cons, ih h.2.2.2, inB_dec]
    refine bool_eq ?_
    rcases cut_cases h t with ⟨a, e1, e2⟩ | ⟨a, b, e1, e2, e3⟩ | ⟨a, e1, e3⟩
    · rw [e1, e2]; simp; omega
    · rw [e1, e2, e3]; simp; omega
    · rw [e1, e3]
      cases Sp.hasB r t <;> simp <;> omega
theorem cutO_has {lo : Int} {p : List Sp.S} (h : Sp.PlainFrom lo p) (R O k t : Int) : Sp.hasB (cutO R O p k) t = (Sp.hasB p t && decide (R ≤ k + Sp.upTo p t) && decide (k + Sp.upTo p t < O)) := by
  induction p generalizing lo k with
  | nil => rfl
  | cons s r ih =>
    have h2 := h.2.1
    unfold cutO
    rw [Sp.hasB_cons, ih h.2.2.2, inB_dec]
    refine bool_eq ?_
    rcases cut_cases h t with ⟨a, e1, e2⟩ | ⟨a, b, e1, e2, e3⟩ | ⟨a, e1, e3⟩
    · rw [e1, e2]; simp; omega
    · rw [e1, e2, e3]; simp; omega
    · rw [e1, e3]
      cases Sp.hasB r t <;> simp <;> omega
theorem cutD_has {lo : Int} {p : List Sp.S} (h : Sp.PlainFrom lo p) (O k t : Int) : Sp.hasB (cutD O p k) t = (Sp.hasB p t && decide (O ≤ k + Sp.upTo p t)) := by
  induction p generalizing lo k with
  | nil => rfl
  | cons s r ih =>
    have h2 := h.2.1
    unfold cutD
    rw [Sp.hasB_cons, ih h.2.2.2, inB_dec]
    refine bool_eq ?_
    rcases cut_cases h t with ⟨a, e1, e2⟩ | ⟨a, b, e1, e2, e3⟩ | ⟨a, e1, e3⟩
    · rw [e1, e2]; simp; omega
    · rw [e1, e2, e3]; simp; omega
    · rw [e1, e3]
      cases Sp.hasB r t <;> simp <;> omega

def refR (A : List Sp.S) (R : Int) : List Sp.S := (daysL (Sp.norm A)).flatMap fun d => cutR R (partS A d 86400) 0
def refO (A : List Sp.S) (R O : Int) : List Sp.S := (daysL (Sp.norm A)).flatMap fun d => cutO R O (partS A d 86400) 0
def refD (A : List Sp.S) (O : Int) : List Sp.S := (daysL (Sp.norm A)).flatMap fun d => cutD O (partS A d 86400) 0

theorem refR_has (A : List Sp.S) (R t : Int) : Sp.hasB (refR A R) t = (Sp.okT t && Sp.hasB A t && decide (rankD A t < R)) := by
  unfold refR
  rw [hasB_flatMap]
  refine bool_eq ?_
  rw [List.any_eq_true]
  constructor
  · rintro ⟨d, _, hb⟩
    rw [cutR_has (partS_plain A d 86400), partDay_has, Int.zero_add] at hb
    simp only [Bool.and_eq_true, decide_eq_true_eq] at hb ⊢
    obtain ⟨⟨h1, rfl⟩, h3⟩ := hb
    exact ⟨h1, h3⟩
  · intro hb
    simp only [Bool.and_eq_true, decide_eq_true_eq] at hb
    refine ⟨dayOf t, ((days_spec A).2 _).2 ⟨t, hb.1.1, hb.1.2, rfl⟩, ?_⟩
    rw [cutR_has (partS_plain A _ 86400), partDay_has, Int.zero_add]
    simp only [Bool.and_eq_true, decide_eq_true_eq]
    exact ⟨⟨hb.1, trivial⟩, hb.2⟩
theorem refO_has (A : List Sp.S) (R O t : Int) : Sp.hasB (refO A R O) t = (Sp.okT t && Sp.hasB A t && decide (R ≤ rankD A t) && decide (rankD A t < O)) := by
  unfold refO
  rw [hasB_flatMap]
  refine bool_eq ?_
  rw [List.any_eq_true]
  constructor
  · rintro ⟨d, _, hb⟩
    rw [cutO_has (partS_plain A d 86400), partDay_has, Int.zero_add] at hb
    simp only [Bool.and_eq_true, decide_eq_true_eq] at hb ⊢
    obtain ⟨⟨⟨h1, rfl⟩, h2⟩, h3⟩ := hb
    exact ⟨⟨h1, h2⟩, h3⟩
  · intro hb
    simp only [Bool.and_eq_true, decide_eq_true_eq] at hb
    refine ⟨dayOf t, ((days_spec A).2 _).2 ⟨t, hb.1.1.1, hb.1.1.2, rfl⟩, ?_⟩
    rw [cutO_has (partS_plain A _ 86400), partDay_has, Int.zero_add]
    simp only [Bool.and_eq_true, decide_eq_true_eq]
    exact ⟨⟨⟨hb.1.1, trivial⟩, hb.1.2⟩, hb.2⟩
theorem refD_has (A : List Sp.S) (O t : Int) : Sp.hasB (refD A O) t = (Sp.okT t && Sp.hasB A t && decide (O ≤ rankD A t)) := by
  unfold refD
  rw [hasB_flatMap]
  refine bool_eq ?_
  rw [List.any_eq_true]
  constructor
  · rintro ⟨d, _, hb⟩
    rw [cutD_has (partS_plain A d 86400), partDay_has, Int.zero_add] at hb
    simp only [Bool.and_eq_true, decide_eq_true_eq] at hb ⊢
    obtain ⟨⟨h1, rfl⟩, h3⟩ := hb
    exact ⟨h1, h3⟩
  · intro hb
    simp only [Bool.and_eq_true, decide_eq_true_eq] at hb
    refine ⟨dayOf t, ((days_spec A).2 _).2 ⟨t, hb.1.1, hb.1.2, rfl⟩, ?_⟩
    rw [cutD_has (partS_plain A _ 86400), partDay_has, Int.zero_add]
    simp only [Bool.and_eq_true, decide_eq_true_eq]
    exact ⟨⟨hb.1, trivial⟩, hb.2⟩

theorem first_congr {l m : List Sp.S} (h : ∀ t, Sp.okT t = true → Sp.hasB l t = Sp.hasB m t) (n : Int) : Sp.first l n = Sp.first m n := by
  unfold Sp.first; rw [Sp.norm_congr h]

theorem ref_reg (A : List Sp.S) (R W : Int) : Sp.first (refR A R) W = overR A R W := by
  unfold overR
  exact first_congr (fun t _ => by rw [refR_has, shortL_has]) W
theorem ref_over (A : List Sp.S) {R O : Int} (W : Int) (hRO : R ≤ O) : Sp.norm (Sp.minus (refR A R) (overR A R W) ++ refO A R O) = overO A R O W := by
  refine (Sp.norm_plain _).uniq (overO_plain _ _ _ _) fun t => ?_
  rw [Sp.norm_has, Sp.hasB_append, Sp.minus_has, refR_has, refO_has, overO_has]
  refine bool_eq ?_
  have hs := @overR_sub A R W t
  cases hr : Sp.hasB (overR A R W) t
  · cases Sp.okT t <;> cases Sp.hasB A t <;> simp <;> omega
  · have := hs hr
    simp; omega
theorem ref_double (A : List Sp.S) (O : Int) : Sp.norm (refD A O) = overD A O := by
  refine (Sp.norm_plain _).uniq (overD_plain _ _) fun t => ?_
  rw [Sp.norm_has, refD_has, overD_has]
  cases Sp.okT t <;> simp

theorem over_make (A : List Sp.S) {R O W : Int} (_hRO : R ≤ O) : Sp.norm (overR A R W ++ overO A R O W ++ overD A O) = Sp.norm A := by
  refine Sp.norm_congr fun t ht => ?_
  rw [Sp.hasB_append, Sp.hasB_append, overO_has, overD_has, ht]
  refine bool_eq ?_
  have hs := @overR_sub A R W t
  cases hr : Sp.hasB (overR A R W) t
  · cases Sp.hasB A t <;> simp; omega
  · simp [(hs hr).2.1]

theorem size_disjoint {a b : List Sp.S} (h : ∀ t, Sp.okT t = true → (Sp.hasB a t && Sp.hasB b t) = false) : Sp.size (a ++ b) = Sp.size a + Sp.size b := by
  have key : ∀ x : List Sp.S, Sp.size x = Sp.cnt (Sp.hasB (Sp.norm x)) Sp.MTn := fun x => by
    rw [Sp.size_cnt]
    congr 1
    refine Sp.cnt_congr fun t h0 h1 => ?_
    rw [Sp.norm_has, Sp.okT_iff.2 ⟨h0, by have := Sp.MTn_eq; omega⟩]; rfl
  rw [key a, key b, ← Int.natCast_add, ← Sp.cnt_or, key (a ++ b)]
  · congr 1
    refine Sp.cnt_congr fun t _ _ => ?_
    rw [Sp.norm_has, Sp.norm_has, Sp.norm_has, Sp.hasB_append]
    cases Sp.okT t <;> rfl
  · intro t
    rw [Sp.norm_has, Sp.norm_has]
    cases hk : Sp.okT t
    · rfl
    · exact h t hk
theorem over_apart1 (A : List Sp.S) (R O W t : Int) : (Sp.hasB (overR A R W) t && Sp.hasB (overO A R O W) t) = false := by
  rw [overO_has]; cases Sp.hasB (overR A R W) t <;> simp
theorem over_size (A : List Sp.S) {R O W : Int} (hRO : R ≤ O) : Sp.size (overR A R W ++ overO A R O W ++ overD A O) = Sp.size (overR A R W) + Sp.size (overO A R O W) + Sp.size (overD A O) := by
  rw [size_disjoint, size_disjoint]
  · exact fun t _ => over_apart1 A R O W t
  · intro t _
    rw [Sp.hasB_append]
    cases hd : Sp.hasB (overD A O) t
    · simp
    · rw [overD_has] at hd
      simp only [Bool.and_eq_true, decide_eq_true_eq] at hd
      have h1 : Sp.hasB (overR A R W) t = false := by
        cases hr : Sp.hasB (overR A R W) t
        · rfl
        · have := overR_sub hr; omega
      have h2 : Sp.hasB (overO A R O W) t = false := by
        rw [overO_has]
        have : ¬ rankD A t < O := by omega
        simp [this]
      rw [h1, h2]; rfl
theorem over_none (A : List Sp.S) (R O W : Int) : Sp.and_ (overR A R W) (overO A R O W) = [] := by
  refine (Sp.and_plain _ _).uniq Sp.plain_nil fun t => ?_
  rw [Sp.and_has, over_apart1]; simp [Sp.hasB]

/-- Sizes: of a week, day by day. -/
def wsum (f : Int → Int) (w : Int) : Nat → Int
  | 0 => 0
  | k + 1 => wsum f w k + f (7 * w + k)

theorem size_norm (l : List Sp.S) : Sp.size (Sp.norm l) = Sp.size l := by unfold Sp.size; rw [Sp.norm_of_plain (Sp.norm_plain l)]
theorem size_add {a b c : List Sp.S} (h : ∀ t, Sp.okT t = true → Sp.hasB c t = (Sp.hasB a t || Sp.hasB b t)) (hd : ∀ t, Sp.okT t = true → (Sp.hasB a t && Sp.hasB b t) = false) : Sp.size c = Sp.size a + Sp.size b := by
  rw [← size_disjoint hd]
  unfold Sp.size
  rw [Sp.norm_congr (l := c) (m := a ++ b) fun t ht => by rw [Sp.hasB_append]; exact h t ht]

def fromTo (l : List Sp.S) (a b : Int) : List Sp.S := Sp.and_ l [(a, b)]
theorem size_nil : Sp.size [] = 0 := rfl
theorem wsum_size (l : List Sp.S) {w : Int} (w0 : 0 ≤ w) (w1 : w ≤ 52) (k : Nat) (hk : k ≤ 7) : wsum (fun d => Sp.size (partS l d 86400)) w k = Sp.size (fromTo l (7 * w * 86400) ((7 * w + k) * 86400)) := by
  induction k with
  | zero =>
    have : fromTo l (7 * w * 86400) ((7 * w + (0 : Nat)) * 86400) = [] := by
      refine (Sp.and_plain _ _).uniq Sp.plain_nil fun t => ?_
      rw [Sp.and_has, inB_one, Sp.hasB_nil]
      refine bool_eq ?_
      simp <;> omega
    rw [this]; rfl
  | succ k ih =>
    rw [wsum, ih (by omega)]
    symm
    refine size_add (fun t ht => ?_) (fun t ht => ?_)
    · rw [partDay_has, ht, (day_div ht).1]
      unfold fromTo
      rw [Sp.and_has, Sp.and_has, inB_one, inB_one, ht]
      refine bool_eq ?_
      cases Sp.hasB l t <;> simp; omega
    · rw [partDay_has, ht, (day_div ht).1]
      unfold fromTo
      rw [Sp.and_has, inB_one, ht]
      cases Sp.hasB l t
      · rfl
      · simp; omega
theorem wsum_week (l : List Sp.S) {w : Int} (w0 : 0 ≤ w) (w1 : w ≤ 52) : wsum (fun d => Sp.size (partS l d 86400)) w 7 = Sp.size (partS l w 604800) := by
  rw [wsum_size l w0 w1 7 (Nat.le_refl _)]
  congr 1
  refine (Sp.and_plain _ _).uniq (partS_plain _ _ _) fun t => ?_
  rw [partWeek_has, Sp.and_has, inB_one]
  cases hk : Sp.okT t
  · rfl
  · rw [(week_div hk).1]
    refine bool_eq ?_
    cases Sp.hasB l t <;> simp; omega
theorem wsum_congr {f g : Int → Int} {w : Int} {k : Nat} (h : ∀ d, 7 * w ≤ d → d < 7 * w + k → f d = g d) : wsum f w k = wsum g w k := by
  induction k with
  | zero => rfl
  | succ k ih => rw [wsum, wsum, ih fun d a b => h d a (by omega), h _ (by omega) (by omega)]
theorem wsum_sub (f g : Int → Int) (w : Int) (k : Nat) : wsum (fun d => f d - g d) w k = wsum f w k - wsum g w k := by
  induction k with
  | zero => rfl
  | succ k ih => rw [wsum, wsum, wsum, ih]; omega

/-- What is in a day of a week is in that week. -/
theorem part_part (l : List Sp.S) {w d : Int} (h1 : 7 * w ≤ d) (h2 : d < 7 * w + 7) : partS (partS l w 604800) d 86400 = partS l d 86400 := by
  refine (partS_plain _ _ _).uniq (partS_plain _ _ _) fun t => ?_
  rw [partDay_has, partDay_has, partWeek_has]
  cases hk : Sp.okT t
  · rfl
  · rw [(week_div hk).1, (day_div hk).1]
    refine bool_eq ?_
    cases Sp.hasB l t <;> simp; omega
theorem part_again (l : List Sp.S) (w : Int) : partS (partS l w 604800) w 604800 = partS l w 604800 := by
  refine (partS_plain _ _ _).uniq (partS_plain _ _ _) fun t => ?_
  rw [partWeek_has, partWeek_has]
  cases Sp.okT t <;> cases Sp.hasB l t <;> simp

theorem part_short (A : List Sp.S) (d n : Int) : partS (shortL A n) d 86400 = Sp.first (partS A d 86400) n := by
  refine (partS_plain _ _ _).uniq (Sp.first_plain _ _) fun t => ?_
  rw [partDay_has, shortL_has, firstDay_has]
  cases Sp.okT t <;> cases Sp.hasB A t <;> cases decide (dayOf t = d) <;> simp
theorem part_short_week (l : List Sp.S) (w n : Int) : partS (shortL (partS l w 604800) n) w 604800 = Sp.norm (shortL (partS l w 604800) n) := by
  refine (partS_plain _ _ _).uniq (Sp.norm_plain _) fun t => ?_
  rw [partWeek_has, Sp.norm_has, shortL_has, partWeek_has]
  cases Sp.okT t <;> cases Sp.hasB l t <;> cases decide (weekOf t = w) <;> simp

theorem size_short (l : List Sp.S) {w : Int} (w0 : 0 ≤ w) (w1 : w ≤ 52) {n : Int} (n0 : 0 ≤ n) : Sp.size (shortL (partS l w 604800) n) = wsum (fun d => min (Sp.size (partS l d 86400)) n) w 7 := by
  rw [← size_norm, ← part_short_week, ← wsum_week _ w0 w1]
  refine wsum_congr fun d h1 h2 => ?_
  rw [part_short, part_part l h1 (by omega), Sp.size_first]
  have := Sp.size_nonneg (partS l d 86400)
  omega

theorem size_sub {a b c : List Sp.S} (h : ∀ t, Sp.okT t = true → Sp.hasB c t = (Sp.hasB a t && !Sp.hasB b t)) (hs : ∀ t, Sp.okT t = true → Sp.hasB b t = true → Sp.hasB a t = true) : Sp.size c = Sp.size a - Sp.size b := by
  have : Sp.size a = Sp.size c + Sp.size b := size_add (fun t ht => by
    rw [h t ht]
    cases hb : Sp.hasB b t
    · simp
    · rw [hs t ht hb]; rfl) (fun t ht => by rw [h t ht]; cases Sp.hasB b t <;> simp)
  omega

theorem over_sizes (l : List Sp.S) {w R O W : Int} (w0 : 0 ≤ w) (w1 : w ≤ 52) (R0 : 0 ≤ R) (hRO : R ≤ O) (W0 : 0 ≤ W) :
    Sp.size (overR (partS l w 604800) R W) = min (wsum (fun d => min (Sp.size (partS l d 86400)) R) w 7) W ∧
    Sp.size (overD (partS l w 604800) O) = wsum (fun d => max 0 (Sp.size (partS l d 86400) - O)) w 7 ∧
    Sp.size (overO (partS l w 604800) R O W) = wsum (fun d => Sp.size (partS l d 86400)) w 7 - min (wsum (fun d => min (Sp.size (partS l d 86400)) R) w 7) W - wsum (fun d => max 0 (Sp.size (partS l d 86400) - O)) w 7 := by
  have e1 : Sp.size (overR (partS l w 604800) R W) = min (wsum (fun d => min (Sp.size (partS l d 86400)) R) w 7) W := by
    unfold overR
    rw [Sp.size_first, size_short l w0 w1 R0]
    have := size_short l w0 w1 R0
    have := Sp.size_nonneg (shortL (partS l w 604800) R)
    omega
  have e2 : Sp.size (overD (partS l w 604800) O) = wsum (fun d => max 0 (Sp.size (partS l d 86400) - O)) w 7 := by
    have : Sp.size (overD (partS l w 604800) O) = Sp.size (partS l w 604800) - Sp.size (shortL (partS l w 604800) O) :=
      size_sub (fun t ht => by unfold overD; rw [Sp.minus_has, ht]; rfl) (fun t ht h => by rw [shortL_has] at h; simp only [Bool.and_eq_true] at h; exact h.1.2)
    rw [this, size_short l w0 w1 (by omega), ← wsum_week l w0 w1, ← wsum_sub]
    exact wsum_congr fun d _ _ => by omega
  refine ⟨e1, e2, ?_⟩
  have e3 : Sp.size (overO (partS l w 604800) R O W) = Sp.size (shortL (partS l w 604800) O) - Sp.size (overR (partS l w 604800) R W) :=
    size_sub (fun t ht => by unfold overO; rw [Sp.minus_has, ht]; rfl) (fun t ht h => by
      have := overR_sub h
      rw [shortL_has, ht, this.2.1]; simp; omega)
  have e4 : Sp.size (shortL (partS l w 604800) O) = wsum (fun d => Sp.size (partS l d 86400)) w 7 - wsum (fun d => max 0 (Sp.size (partS l d 86400) - O)) w 7 := by
    rw [size_short l w0 w1 (by omega), ← wsum_sub]
    exact wsum_congr fun d _ _ => by omega
  rw [e3, e4, e1]; omega

/-- A week's first seconds are told as of all. -/
theorem and_part (l : List Sp.S) (c w : Int) : partS (Sp.and_ l [(0, c)]) w 604800 = Sp.and_ (partS l w 604800) [(0, c)] := by
  refine (partS_plain _ _ _).uniq (Sp.and_plain _ _) fun t => ?_
  rw [partWeek_has, Sp.and_has, Sp.and_has, partWeek_has]
  cases Sp.okT t <;> cases Sp.hasB l t <;> cases Sp.hasB [(0, c)] t <;> simp
theorem rank_cut (A : List Sp.S) {c t : Int} (hk : Sp.okT t = true) (h : t < c) : rankD (Sp.and_ A [(0, c)]) t = rankD A t := by
  have h0 := Sp.okT_iff.1 hk
  refine upTo_congr (partS_plain _ _ _) (partS_plain _ _ _) h0.1 fun x x0 x1 => ?_
  rw [partDay_has, partDay_has, Sp.and_has, inB_one]
  have : (decide (0 ≤ x) && decide (x < c)) = true := by simp; omega
  rw [this]
  cases Sp.okT x <;> cases Sp.hasB A x <;> rfl
theorem short_cut (A : List Sp.S) (n : Int) {c t : Int} (hk : Sp.okT t = true) : Sp.hasB (shortL (Sp.and_ A [(0, c)]) n) t = (Sp.hasB (shortL A n) t && decide (t < c)) := by
  have h0 := Sp.okT_iff.1 hk
  rw [shortL_has, shortL_has, Sp.and_has, inB_one, hk]
  by_cases h : t < c
  · rw [rank_cut A hk h]
    cases Sp.hasB A t <;> simp [h, h0.1]
  · simp [h]
theorem over_has' (A : List Sp.S) (R O W t : Int) : Sp.hasB (overO A R O W) t = (Sp.okT t && (Sp.hasB (shortL A O) t && !Sp.hasB (overR A R W) t)) := by unfold overO; exact Sp.minus_has _ _ _
theorem double_has' (A : List Sp.S) (O t : Int) : Sp.hasB (overD A O) t = (Sp.okT t && (Sp.hasB A t && !Sp.hasB (shortL A O) t)) := by unfold overD; exact Sp.minus_has _ _ _
theorem reg_has' (A : List Sp.S) (R W t : Int) : Sp.hasB (overR A R W) t = (Sp.okT t && Sp.hasB (shortL A R) t && decide (Sp.upTo (Sp.norm (shortL A R)) t < W)) := by unfold overR; rw [Sp.first_has, Sp.norm_has]
theorem reg_cut (A : List Sp.S) (R W c : Int) : overR (Sp.and_ A [(0, c)]) R W = Sp.and_ (overR A R W) [(0, c)] := by
  refine (overR_plain _ _ _).uniq (Sp.and_plain _ _) fun t => ?_
  rw [Sp.and_has, inB_one, reg_has', reg_has']
  cases hk : Sp.okT t
  · rfl
  · have h0 := Sp.okT_iff.1 hk
    rw [short_cut A R hk]
    by_cases h : t < c
    · have e : Sp.upTo (Sp.norm (shortL (Sp.and_ A [(0, c)]) R)) t = Sp.upTo (Sp.norm (shortL A R)) t := by
        refine upTo_congr (Sp.norm_plain _) (Sp.norm_plain _) h0.1 fun x x0 x1 => ?_
        rw [Sp.norm_has, Sp.norm_has]
        cases hx : Sp.okT x
        · rfl
        · rw [short_cut A R hx]
          have : x < c := by omega
          simp [this]
      rw [e, decide_eq_true h, decide_eq_true h0.1]
      generalize decide (Sp.upTo (Sp.norm (shortL A R)) t < W) = y
      cases Sp.hasB (shortL A R) t <;> cases y <;> rfl
    · rw [decide_eq_false h]
      generalize decide (Sp.upTo (Sp.norm (shortL A R)) t < W) = y
      generalize decide (Sp.upTo (Sp.norm (shortL (Sp.and_ A [(0, c)]) R)) t < W) = z
      cases Sp.hasB (shortL A R) t <;> cases y <;> cases z <;> simp
theorem over_cut (A : List Sp.S) (R O W c : Int) : overO (Sp.and_ A [(0, c)]) R O W = Sp.and_ (overO A R O W) [(0, c)] := by
  refine Sp.Plain.uniq (l := overO (Sp.and_ A [(0, c)]) R O W) (l' := Sp.and_ (overO A R O W) [(0, c)]) (overO_plain _ _ _ _) (Sp.and_plain (overO A R O W) [(0, c)]) (fun t => ?_)
  rw [over_has', Sp.and_has, reg_cut, Sp.and_has, inB_one, over_has']
  cases hk : Sp.okT t
  · rfl
  · have h0 := Sp.okT_iff.1 hk
    rw [short_cut A O hk]
    cases Sp.hasB (shortL A O) t <;> cases Sp.hasB (overR A R W) t <;> simp [h0.1]
theorem double_cut (A : List Sp.S) (O c : Int) : overD (Sp.and_ A [(0, c)]) O = Sp.and_ (overD A O) [(0, c)] := by
  refine Sp.Plain.uniq (l := overD (Sp.and_ A [(0, c)]) O) (l' := Sp.and_ (overD A O) [(0, c)]) (overD_plain _ _) (Sp.and_plain (overD A O) [(0, c)]) (fun t => ?_)
  rw [double_has', Sp.and_has, Sp.and_has, inB_one, double_has']
  cases hk : Sp.okT t
  · rfl
  · have h0 := Sp.okT_iff.1 hk
    rw [short_cut A O hk]
    cases Sp.hasB (shortL A O) t <;> cases Sp.hasB A t <;> simp [h0.1]
end Go.Proofs.YtnhmibfgaoealaaGreat
namespace Go.Proofs.YtnhmibfgaoealaaGreat
set_option linter.unusedVariables false
set_option linter.unusedSimpArgs false

def hit (d : Int) (s : Sp.S) : Bool := decide (s.1 < (d + 1) * 86400 ∧ d * 86400 < s.2)
theorem part_hit (P : List Sp.S) (d : Int) : partS P d 86400 = partS (P.filter (hit d)) d 86400 := by
  refine (partS_plain _ _ _).uniq (partS_plain _ _ _) fun t => ?_
  rw [partDay_has, partDay_has]
  cases hk : Sp.okT t
  · rfl
  · by_cases hd : dayOf t = d
    · congr 1
      congr 1
      rw [Bool.eq_iff_iff, Sp.hasB_iff, Sp.hasB_iff]
      constructor
      · rintro ⟨s, hs, h1, h2⟩
        refine ⟨s, List.mem_filter.2 ⟨hs, ?_⟩, h1, h2⟩
        have := Sp.okT_iff.1 hk
        simp only [Sp.MT] at this
        unfold hit
        unfold dayOf at hd
        simp only [decide_eq_true_eq]
        omega
      · rintro ⟨s, hs, h⟩
        exact ⟨s, (List.mem_filter.1 hs).1, h⟩
    · rw [decide_eq_false hd]; simp
theorem pair_within {l : List Int} (h : l.Pairwise (· < ·)) {a b : Int} (hm : ∀ x ∈ l, a ≤ x ∧ x ≤ b) : (l.length : Int) ≤ max 0 (b - a + 1) := by
  induction l generalizing a with
  | nil => simp; omega
  | cons x r ih =>
    rw [List.pairwise_cons] at h
    have hx := hm x (by simp)
    have := ih (a := x + 1) h.2 fun y hy => ⟨by have := h.1 y hy; omega, (hm y (by simp [hy])).2⟩
    simp only [List.length_cons]
    omega
def cntH (P : List Sp.S) (D : List Int) : Nat := (D.map fun d => (P.filter (hit d)).length).sum
theorem cntH_cons (s : Sp.S) (r : List Sp.S) (D : List Int) : cntH (s :: r) D = (D.filter fun d => hit d s).length + cntH r D := by
  unfold cntH
  induction D with
  | nil => rfl
  | cons d D ih =>
    rw [List.map_cons, List.map_cons, List.sum_cons, List.sum_cons, ih, List.filter_cons, List.filter_cons]
    cases hit d s <;> simp <;> omega
theorem cntH_le {lo : Int} {P : List Sp.S} (hP : Sp.PlainFrom lo P) (h0 : 0 ≤ lo) {D : List Int} (hD : D.Pairwise (· < ·)) : (cntH P D : Int) ≤ P.length + (370 - dayOf lo) := by
  induction P generalizing lo with
  | nil =>
    have : cntH [] D = 0 := by
      unfold cntH
      clear hD
      induction D with
      | nil => rfl
      | cons d D ih => rw [List.map_cons, List.sum_cons, ih]; rfl
    have := dayOf_bd lo
    simp only [List.length_nil]
    omega
  | cons s r ih =>
    obtain ⟨h1, h2, h3, h4⟩ := hP
    simp only [Sp.MT] at h3
    have hr := ih h4 (by omega)
    have hf := pair_within (a := dayOf s.1) (b := dayOf (s.2 - 1)) (hD.filter fun d => hit d s) (fun d hd => by
      have := (List.mem_filter.1 hd).2
      unfold hit at this
      simp only [decide_eq_true_eq] at this
      unfold dayOf
      omega)
    rw [cntH_cons]
    have e1 : dayOf lo ≤ dayOf s.1 := by unfold dayOf; omega
    have e2 : dayOf s.1 ≤ dayOf (s.2 - 1) := by unfold dayOf; omega
    have e3 : dayOf (s.2 - 1) ≤ dayOf (s.2 + 1) := by unfold dayOf; omega
    simp only [List.length_cons]
    omega
/-- Cut at the days, plain spans have few pieces more. -/
theorem parts_total {P : List Sp.S} (hP : Sp.Plain P) {D : List Int} (hD : D.Pairwise (· < ·)) (f : Int → List Sp.S) (hf : ∀ d, (f d).length ≤ (partS P d 86400).length) : (D.flatMap f).length ≤ P.length + 370 + D.length := by
  have h1 := cntH_le hP (Int.le_refl 0) hD
  have h2 : (D.flatMap f).length ≤ cntH P D + D.length := by
    clear h1 hD
    unfold cntH
    induction D with
    | nil => simp
    | cons d D ih =>
      rw [List.flatMap_cons, List.length_append, List.map_cons, List.sum_cons, List.length_cons]
      have a := hf d
      have b := partS_len (P.filter (hit d)) d 86400
      rw [← part_hit] at b
      omega
  have := dayOf_bd 0
  omega
end Go.Proofs.YtnhmibfgaoealaaGreat
namespace Go.Proofs.YtnhmibfgaoealaaGreat
set_option linter.unusedVariables false
set_option linter.unusedSimpArgs false

structure SegL where
  from_ : Int
  to : Int
  kind : Int
  id : Int
  code : Int

def SegL.span (s : SegL) : Sp.S := (s.from_, s.to)
def clockL (l : List SegL) : List Sp.S := Sp.norm (l.map SegL.span)
def onlyL (l : List SegL) (k : Int) : List Sp.S := clockL (l.filter fun s => s.kind == k)

/-- What of a day is not paid. -/
def unpaidL (P AA AB : Int) (clock rests : List Sp.S) : List Sp.S :=
  Sp.norm (Sp.minus rests (Sp.first rests P) ++ if AA ≤ Sp.size clock ∧ Sp.size rests < AB then Sp.last (Sp.minus clock rests) (AB - Sp.size rests) else [])
def dayNot (P AA AB : Int) (l : List SegL) (d : Int) : List Sp.S := unpaidL P AA AB (partS (clockL l) d 86400) (partS (onlyL l 3) d 86400)
def dayPaid (P AA AB : Int) (l : List SegL) (d : Int) : List Sp.S := Sp.minus (partS (clockL l) d 86400) (dayNot P AA AB l d)
def allPaid (P AA AB : Int) (l : List SegL) : List Sp.S := Sp.norm ((daysL (Sp.norm (clockL l))).flatMap fun d => dayPaid P AA AB l d)
def allNot (P AA AB : Int) (l : List SegL) : List Sp.S := Sp.norm ((daysL (Sp.norm (clockL l))).flatMap fun d => dayNot P AA AB l d)

theorem clock_has (l : List SegL) (t : Int) : Sp.hasB (clockL l) t = (Sp.okT t && l.any fun s => Sp.inB s.span t) := by
  unfold clockL; rw [Sp.norm_has]; simp [Sp.hasB, List.any_map, Function.comp_def]
theorem only_sub {l : List SegL} {k t : Int} (h : Sp.hasB (onlyL l k) t = true) : Sp.hasB (clockL l) t = true := by
  unfold onlyL at h
  rw [clock_has, Bool.and_eq_true, List.any_eq_true] at h ⊢
  obtain ⟨a, s, hs, b⟩ := h
  exact ⟨a, s, (List.mem_filter.1 hs).1, b⟩
theorem clock_plain (l : List SegL) : Sp.Plain (clockL l) := Sp.norm_plain _
theorem only_plain (l : List SegL) (k : Int) : Sp.Plain (onlyL l k) := Sp.norm_plain _
theorem part_sub {a b : List Sp.S} (h : ∀ t, Sp.hasB b t = true → Sp.hasB a t = true) {d t : Int} (hb : Sp.hasB (partS b d 86400) t = true) : Sp.hasB (partS a d 86400) t = true := by
  rw [partDay_has] at hb ⊢
  simp only [Bool.and_eq_true] at hb ⊢
  exact ⟨⟨hb.1.1, h t hb.1.2⟩, hb.2⟩

theorem unpaid_plain (P AA AB : Int) (c r : List Sp.S) : Sp.Plain (unpaidL P AA AB c r) := Sp.norm_plain _
theorem unpaid_sub {P AA AB : Int} {c r : List Sp.S} (h : ∀ t, Sp.hasB r t = true → Sp.hasB c t = true) {t : Int} (hb : Sp.hasB (unpaidL P AA AB c r) t = true) : Sp.hasB c t = true := by
  unfold unpaidL at hb
  rw [Sp.norm_has, Sp.hasB_append, Sp.minus_has] at hb
  simp only [Bool.and_eq_true, Bool.or_eq_true] at hb
  rcases hb.2 with ⟨_, a, _⟩ | a
  · exact h t a
  · split at a
    · rw [Sp.last_has, Sp.norm_has, Sp.minus_has] at a
      simp only [Bool.and_eq_true] at a
      exact a.1.2.2.1
    · simp [Sp.hasB] at a
theorem dayNot_sub {P AA AB : Int} {l : List SegL} {d t : Int} (h : Sp.hasB (dayNot P AA AB l d) t = true) : Sp.hasB (partS (clockL l) d 86400) t = true :=
  unpaid_sub (fun _ hb => part_sub (fun _ h => only_sub h) hb) h

/-- The reference's day is the program's. -/
theorem ref_not {P AA AB : Int} {c r : List Sp.S} (hc : Sp.Plain c) (h : ∀ t, Sp.hasB r t = true → Sp.hasB c t = true) :
    Sp.minus c (Sp.minus (Sp.minus c (Sp.minus r (Sp.first r P))) (if AA ≤ Sp.size c ∧ Sp.size r < AB then Sp.last (Sp.minus c r) (AB - Sp.size r) else [])) = unpaidL P AA AB c r := by
  refine (Sp.minus_plain _ _).uniq (unpaid_plain _ _ _ _ _) fun t => ?_
  have hs := @unpaid_sub P AA AB c r h t
  unfold unpaidL at hs ⊢
  rw [Sp.norm_has, Sp.hasB_append] at hs ⊢
  rw [Sp.minus_has, Sp.minus_has, Sp.minus_has]
  generalize Sp.hasB (if AA ≤ Sp.size c ∧ Sp.size r < AB then Sp.last (Sp.minus c r) (AB - Sp.size r) else []) t = x at *
  generalize Sp.hasB (Sp.minus r (Sp.first r P)) t = y at *
  cases hk : Sp.okT t
  · rfl
  · rw [hk] at hs
    generalize Sp.hasB c t = z at *
    revert hs
    cases x <;> cases y <;> cases z <;> simp
theorem ref_paid {P AA AB : Int} {c r : List Sp.S} :
    Sp.minus (Sp.minus c (Sp.minus r (Sp.first r P))) (if AA ≤ Sp.size c ∧ Sp.size r < AB then Sp.last (Sp.minus c r) (AB - Sp.size r) else []) = Sp.minus c (unpaidL P AA AB c r) := by
  refine (Sp.minus_plain _ _).uniq (Sp.minus_plain _ _) fun t => ?_
  unfold unpaidL
  rw [Sp.minus_has, Sp.minus_has, Sp.minus_has _ (Sp.norm _), Sp.norm_has, Sp.hasB_append]
  generalize Sp.hasB (if AA ≤ Sp.size c ∧ Sp.size r < AB then Sp.last (Sp.minus c r) (AB - Sp.size r) else []) t = x
  generalize Sp.hasB (Sp.minus r (Sp.first r P)) t = y
  cases Sp.okT t <;> cases x <;> cases y <;> simp

theorem dayPaid_plain (P AA AB : Int) (l : List SegL) (d : Int) : Sp.Plain (dayPaid P AA AB l d) := Sp.minus_plain _ _
theorem dayNot_plain (P AA AB : Int) (l : List SegL) (d : Int) : Sp.Plain (dayNot P AA AB l d) := unpaid_plain _ _ _ _ _
theorem allPaid_plain (P AA AB : Int) (l : List SegL) : Sp.Plain (allPaid P AA AB l) := Sp.norm_plain _
theorem allNot_plain (P AA AB : Int) (l : List SegL) : Sp.Plain (allNot P AA AB l) := Sp.norm_plain _

theorem dayNot_has {P AA AB : Int} {l : List SegL} {d t : Int} (h : Sp.hasB (dayNot P AA AB l d) t = true) : Sp.okT t = true ∧ Sp.hasB (clockL l) t = true ∧ dayOf t = d := by
  have := dayNot_sub h
  rw [partDay_has] at this
  simp only [Bool.and_eq_true, decide_eq_true_eq] at this
  exact ⟨this.1.1, this.1.2, this.2⟩
theorem allNot_has (P AA AB : Int) (l : List SegL) (t : Int) : Sp.hasB (allNot P AA AB l) t = Sp.hasB (dayNot P AA AB l (dayOf t)) t := by
  unfold allNot
  rw [Sp.norm_has, hasB_flatMap]
  refine bool_eq ?_
  rw [Bool.and_eq_true, List.any_eq_true]
  constructor
  · rintro ⟨_, d, _, h⟩
    rw [(dayNot_has h).2.2]; exact h
  · intro h
    obtain ⟨a, b, _⟩ := dayNot_has h
    exact ⟨a, _, ((days_spec _).2 _).2 ⟨t, a, b, rfl⟩, h⟩
theorem dayPaid_has (P AA AB : Int) (l : List SegL) (d t : Int) : Sp.hasB (dayPaid P AA AB l d) t = (Sp.okT t && Sp.hasB (clockL l) t && decide (dayOf t = d) && !Sp.hasB (dayNot P AA AB l d) t) := by
  unfold dayPaid
  rw [Sp.minus_has, partDay_has]
  cases Sp.okT t <;> simp
theorem allPaid_has (P AA AB : Int) (l : List SegL) (t : Int) : Sp.hasB (allPaid P AA AB l) t = (Sp.okT t && Sp.hasB (clockL l) t && !Sp.hasB (allNot P AA AB l) t) := by
  rw [allNot_has]
  unfold allPaid
  rw [Sp.norm_has, hasB_flatMap]
  refine bool_eq ?_
  rw [Bool.and_eq_true, List.any_eq_true]
  constructor
  · rintro ⟨a, d, _, h⟩
    rw [dayPaid_has] at h
    simp only [Bool.and_eq_true, decide_eq_true_eq] at h ⊢
    obtain ⟨⟨h1, rfl⟩, h3⟩ := h
    exact ⟨h1, h3⟩
  · intro h
    simp only [Bool.and_eq_true] at h
    refine ⟨h.1.1, dayOf t, ((days_spec _).2 _).2 ⟨t, h.1.1, h.1.2, rfl⟩, ?_⟩
    rw [dayPaid_has, h.1.1, h.1.2, h.2]; simp

theorem breaks_none (P AA AB : Int) (l : List SegL) : Sp.and_ (allPaid P AA AB l) (allNot P AA AB l) = [] := by
  refine (Sp.and_plain _ _).uniq Sp.plain_nil fun t => ?_
  rw [Sp.and_has, allPaid_has]
  cases Sp.hasB (allNot P AA AB l) t <;> simp [Sp.hasB_nil]
theorem breaks_make (P AA AB : Int) (l : List SegL) : Sp.norm (allPaid P AA AB l ++ allNot P AA AB l) = clockL l := by
  refine (Sp.norm_plain _).uniq (clock_plain l) fun t => ?_
  rw [Sp.norm_has, Sp.hasB_append, allPaid_has]
  have h1 : Sp.hasB (allNot P AA AB l) t = true → Sp.hasB (clockL l) t = true := fun h => by
    rw [allNot_has] at h; exact (dayNot_has h).2.1
  have h2 : Sp.hasB (clockL l) t = true → Sp.okT t = true := fun h => Sp.okT_of_plain (clock_plain l) h
  revert h1 h2
  cases Sp.hasB (allNot P AA AB l) t <;> cases Sp.hasB (clockL l) t <;> cases Sp.okT t <;> simp

/-- Sizes of a day. -/
theorem unpaid_size {P AA AB : Int} {c r : List Sp.S} (P0 : 0 ≤ P) (hc : Sp.Plain c) (hr : Sp.Plain r) (h : ∀ t, Sp.hasB r t = true → Sp.hasB c t = true) :
    Sp.size (unpaidL P AA AB c r) = max 0 (Sp.size r - P) + if AA ≤ Sp.size c ∧ Sp.size r < AB then min (AB - Sp.size r) (Sp.size c - Sp.size r) else 0 := by
  have e1 : Sp.size (Sp.minus r (Sp.first r P)) = max 0 (Sp.size r - P) := by
    have : Sp.size (Sp.minus r (Sp.first r P)) = Sp.size r - Sp.size (Sp.first r P) :=
      size_sub (fun t ht => by rw [Sp.minus_has, ht]; rfl) (fun t ht h => by
        rw [Sp.first_has, Sp.norm_of_plain hr] at h
        simp only [Bool.and_eq_true] at h; exact h.1)
    rw [this, Sp.size_first]
    have := Sp.size_nonneg r
    omega
  have e2 : Sp.size (Sp.minus c r) = Sp.size c - Sp.size r := size_sub (fun t ht => by rw [Sp.minus_has, ht]; rfl) (fun t _ hb => h t hb)
  have e3 : ∀ n, 0 < n → Sp.size (Sp.last (Sp.minus c r) n) = max 0 (min n (Sp.size c - Sp.size r)) := fun n hn => by
    have : Sp.last (Sp.minus c r) n = Sp.minus (Sp.minus c r) (Sp.first (Sp.minus c r) (Sp.size (Sp.minus c r) - min n Sp.MT)) := if_neg (by omega)
    rw [this]
    have e : Sp.size (Sp.minus (Sp.minus c r) (Sp.first (Sp.minus c r) (Sp.size (Sp.minus c r) - min n Sp.MT))) = Sp.size (Sp.minus c r) - Sp.size (Sp.first (Sp.minus c r) (Sp.size (Sp.minus c r) - min n Sp.MT)) :=
      size_sub (fun t ht => by rw [Sp.minus_has, ht]; rfl) (fun t ht h => by
        rw [Sp.first_has, Sp.norm_of_plain (Sp.minus_plain _ _)] at h
        simp only [Bool.and_eq_true] at h; exact h.1)
    rw [e, Sp.size_first, e2]
    have h1 := Sp.size_nonneg (Sp.minus c r)
    have h2 := Sp.size_le (Sp.minus c r)
    rw [e2] at h1 h2
    omega
  unfold unpaidL
  rw [size_norm, size_disjoint, e1]
  · split
    · rename_i hh
      rw [e3 _ (by omega)]
      have h1 := Sp.size_nonneg (Sp.minus c r)
      rw [e2] at h1
      omega
    · rw [size_nil]
  · intro t _
    rw [Sp.minus_has]
    split
    · rw [Sp.last_has, Sp.norm_has, Sp.minus_has]
      cases Sp.hasB r t <;> simp
    · simp [Sp.hasB_nil]
theorem dayNot_size {P AA AB : Int} (P0 : 0 ≤ P) (l : List SegL) (d : Int) : Sp.size (dayNot P AA AB l d) = max 0 (Sp.size (partS (onlyL l 3) d 86400) - P) + if AA ≤ Sp.size (partS (clockL l) d 86400) ∧ Sp.size (partS (onlyL l 3) d 86400) < AB then min (AB - Sp.size (partS (onlyL l 3) d 86400)) (Sp.size (partS (clockL l) d 86400) - Sp.size (partS (onlyL l 3) d 86400)) else 0 :=
  unpaid_size P0 (partS_plain _ _ _) (partS_plain _ _ _) fun _ hb => part_sub (fun _ h => only_sub h) hb

/-- A day does not hang on others. -/
theorem paid_day (P AA AB : Int) (l : List SegL) (d : Int) : partS (allPaid P AA AB l) d 86400 = dayPaid P AA AB l d := by
  refine (partS_plain _ _ _).uniq (dayPaid_plain _ _ _ _ _) fun t => ?_
  rw [partDay_has, allPaid_has, allNot_has, dayPaid_has]
  by_cases e : dayOf t = d
  · subst e; cases Sp.okT t <;> simp
  · simp [e]
theorem not_day (P AA AB : Int) (l : List SegL) (d : Int) : partS (allNot P AA AB l) d 86400 = dayNot P AA AB l d := by
  refine (partS_plain _ _ _).uniq (dayNot_plain _ _ _ _ _) fun t => ?_
  rw [partDay_has, allNot_has]
  by_cases e : dayOf t = d
  · subst e
    cases hb : Sp.hasB (dayNot P AA AB l (dayOf t)) t
    · simp
    · rw [(dayNot_has hb).1]; simp
  · cases hb : Sp.hasB (dayNot P AA AB l d) t
    · simp [e]
    · exact absurd (dayNot_has hb).2.2 e

def clipSeg (d k : Int) (s : SegL) : SegL := { s with from_ := max s.from_ (d * k), to := min s.to ((d + 1) * k) }
def someSegs (d k : Int) (l : List SegL) : List SegL := (l.map (clipSeg d k)).filter fun s => decide (s.from_ < s.to)

theorem some_any (l : List SegL) {d t : Int} (hk : Sp.okT t = true) (q : SegL → Bool) (hq : ∀ s, q (clipSeg d 86400 s) = q s) : ((someSegs d 86400 l).filter q).any (fun s => Sp.inB s.span t) = ((l.filter q).any (fun s => Sp.inB s.span t) && decide (dayOf t = d)) := by
  refine bool_eq ?_
  rw [Bool.and_eq_true, List.any_eq_true, List.any_eq_true, decide_eq_true_eq, (day_div hk).1]
  constructor
  · rintro ⟨s, hs, hi⟩
    obtain ⟨hs, hqs⟩ := List.mem_filter.1 hs
    unfold someSegs at hs
    obtain ⟨hs, _⟩ := List.mem_filter.1 hs
    obtain ⟨x, hx, rfl⟩ := List.mem_map.1 hs
    rw [hq] at hqs
    rw [Sp.inB_iff] at hi
    simp only [clipSeg, SegL.span] at hi
    exact ⟨⟨x, List.mem_filter.2 ⟨hx, hqs⟩, Sp.inB_iff.2 (by simp only [SegL.span]; omega)⟩, by omega⟩
  · rintro ⟨⟨x, hx, hi⟩, rfl⟩
    obtain ⟨hx, hqx⟩ := List.mem_filter.1 hx
    rw [Sp.inB_iff] at hi
    simp only [SegL.span] at hi
    refine ⟨clipSeg (t / 86400) 86400 x, List.mem_filter.2 ⟨?_, by rw [hq]; exact hqx⟩, ?_⟩
    · unfold someSegs
      exact List.mem_filter.2 ⟨List.mem_map.2 ⟨x, hx, rfl⟩, decide_eq_true (by simp only [clipSeg]; omega)⟩
    · rw [Sp.inB_iff]; simp only [clipSeg, SegL.span]; omega
theorem some_any_week (l : List SegL) {d t : Int} (hk : Sp.okT t = true) (q : SegL → Bool) (hq : ∀ s, q (clipSeg d 604800 s) = q s) : ((someSegs d 604800 l).filter q).any (fun s => Sp.inB s.span t) = ((l.filter q).any (fun s => Sp.inB s.span t) && decide (weekOf t = d)) := by
  refine bool_eq ?_
  rw [Bool.and_eq_true, List.any_eq_true, List.any_eq_true, decide_eq_true_eq, (week_div hk).1]
  constructor
  · rintro ⟨s, hs, hi⟩
    obtain ⟨hs, hqs⟩ := List.mem_filter.1 hs
    unfold someSegs at hs
    obtain ⟨hs, _⟩ := List.mem_filter.1 hs
    obtain ⟨x, hx, rfl⟩ := List.mem_map.1 hs
    rw [hq] at hqs
    rw [Sp.inB_iff] at hi
    simp only [clipSeg, SegL.span] at hi
    exact ⟨⟨x, List.mem_filter.2 ⟨hx, hqs⟩, Sp.inB_iff.2 (by simp only [SegL.span]; omega)⟩, by omega⟩
  · rintro ⟨⟨x, hx, hi⟩, rfl⟩
    obtain ⟨hx, hqx⟩ := List.mem_filter.1 hx
    rw [Sp.inB_iff] at hi
    simp only [SegL.span] at hi
    refine ⟨clipSeg (t / 604800) 604800 x, List.mem_filter.2 ⟨?_, by rw [hq]; exact hqx⟩, ?_⟩
    · unfold someSegs
      exact List.mem_filter.2 ⟨List.mem_map.2 ⟨x, hx, rfl⟩, decide_eq_true (by simp only [clipSeg]; omega)⟩
    · rw [Sp.inB_iff]; simp only [clipSeg, SegL.span]; omega
theorem filter_true {α : Type} (l : List α) : l.filter (fun _ => true) = l := List.filter_eq_self.2 fun _ _ => rfl
theorem clock_some (l : List SegL) (d : Int) : clockL (someSegs d 86400 l) = partS (clockL l) d 86400 := by
  refine (clock_plain _).uniq (partS_plain _ _ _) fun t => ?_
  rw [clock_has, partDay_has, clock_has]
  cases hk : Sp.okT t
  · rfl
  · have := some_any l (d := d) hk (fun _ => true) (fun _ => rfl)
    rw [filter_true, filter_true] at this
    rw [this]; simp
theorem only_some (l : List SegL) (d k : Int) : onlyL (someSegs d 86400 l) k = partS (onlyL l k) d 86400 := by
  unfold onlyL
  refine (clock_plain _).uniq (partS_plain _ _ _) fun t => ?_
  rw [clock_has, partDay_has, clock_has]
  cases hk : Sp.okT t
  · rfl
  · rw [some_any l (d := d) hk (fun s => s.kind == k) (fun _ => rfl)]; simp
theorem part_part_day (l : List Sp.S) (d e : Int) (h : d ≠ e) : partS (partS l d 86400) e 86400 = [] := by
  refine (partS_plain _ _ _).uniq Sp.plain_nil fun t => ?_
  rw [partDay_has, partDay_has]
  by_cases h1 : dayOf t = e
  · have : ¬ dayOf t = d := by omega
    simp [this, Sp.hasB_nil]
  · simp [h1, Sp.hasB_nil]
theorem part_again_day (l : List Sp.S) (d : Int) : partS (partS l d 86400) d 86400 = partS l d 86400 := by
  refine (partS_plain _ _ _).uniq (partS_plain _ _ _) fun t => ?_
  rw [partDay_has, partDay_has]
  cases Sp.okT t <;> cases Sp.hasB l t <;> simp
theorem dayNot_some (P AA AB : Int) (l : List SegL) (d : Int) : dayNot P AA AB (someSegs d 86400 l) d = dayNot P AA AB l d := by
  unfold dayNot
  rw [clock_some, only_some, part_again_day, part_again_day]
theorem dayPaid_some (P AA AB : Int) (l : List SegL) (d : Int) : dayPaid P AA AB (someSegs d 86400 l) d = dayPaid P AA AB l d := by
  unfold dayPaid
  rw [dayNot_some, clock_some, part_again_day]
theorem allNot_some (P AA AB : Int) (l : List SegL) (d : Int) : allNot P AA AB (someSegs d 86400 l) = dayNot P AA AB l d := by
  rw [← not_day]
  refine (allNot_plain _ _ _ _).uniq (partS_plain _ _ _) fun t => ?_
  rw [partDay_has, allNot_has, allNot_has]
  by_cases e : dayOf t = d
  · subst e
    rw [dayNot_some]
    cases hb : Sp.hasB (dayNot P AA AB l (dayOf t)) t
    · simp
    · rw [(dayNot_has hb).1]; simp
  · cases hb : Sp.hasB (dayNot P AA AB (someSegs d 86400 l) (dayOf t)) t
    · simp [e]
    · have := (dayNot_has hb).2.1
      rw [clock_some, partDay_has] at this
      simp [e] at this
theorem allPaid_some (P AA AB : Int) (l : List SegL) (d : Int) : allPaid P AA AB (someSegs d 86400 l) = dayPaid P AA AB l d := by
  refine (allPaid_plain _ _ _ _).uniq (dayPaid_plain _ _ _ _ _) fun t => ?_
  rw [allPaid_has, allNot_some, dayPaid_has, clock_some, partDay_has]
  cases Sp.okT t <;> simp

/-- Of breaks the first ones are paid, and of all else. -/
theorem paid_rests (P AA AB : Int) (l : List SegL) (d : Int) : Sp.and_ (dayPaid P AA AB l d) (onlyL l 3) = Sp.first (partS (onlyL l 3) d 86400) P := by
  refine (Sp.and_plain _ _).uniq (Sp.first_plain _ _) fun t => ?_
  rw [Sp.and_has, dayPaid_has, Sp.first_has, Sp.norm_of_plain (partS_plain _ _ _), partDay_has]
  have hs := @only_sub l 3 t
  cases hk : Sp.okT t
  · rfl
  · cases hr : Sp.hasB (onlyL l 3) t
    · simp
    · rw [hs hr]
      by_cases e : dayOf t = d
      · subst e
        have hc : Sp.hasB (partS (onlyL l 3) (dayOf t) 86400) t = true := by rw [partDay_has, hk, hr]; simp
        unfold dayNot unpaidL
        rw [Sp.norm_has, Sp.hasB_append, Sp.minus_has, Sp.first_has, Sp.norm_of_plain (partS_plain _ _ _), hc, hk]
        have hl : Sp.hasB (if AA ≤ Sp.size (partS (clockL l) (dayOf t) 86400) ∧ Sp.size (partS (onlyL l 3) (dayOf t) 86400) < AB then Sp.last (Sp.minus (partS (clockL l) (dayOf t) 86400) (partS (onlyL l 3) (dayOf t) 86400)) (AB - Sp.size (partS (onlyL l 3) (dayOf t) 86400)) else []) t = false := by
          split
          · rw [Sp.last_has, Sp.norm_has, Sp.minus_has, hc]; simp
          · rfl
        rw [hl]; simp
      · simp [e]
theorem not_rests (P AA AB : Int) (l : List SegL) (d : Int) : Sp.and_ (dayNot P AA AB l d) (onlyL l 3) = Sp.minus (partS (onlyL l 3) d 86400) (Sp.first (partS (onlyL l 3) d 86400) P) := by
  refine (Sp.and_plain _ _).uniq (Sp.minus_plain _ _) fun t => ?_
  rw [Sp.and_has, Sp.minus_has]
  have hn := @dayNot_has P AA AB l d t
  cases hk : Sp.okT t
  · rfl
  · cases hr : Sp.hasB (onlyL l 3) t
    · rw [partDay_has, hr]; simp
    · by_cases e : dayOf t = d
      · subst e
        have hc : Sp.hasB (partS (onlyL l 3) (dayOf t) 86400) t = true := by rw [partDay_has, hk, hr]; simp
        unfold dayNot unpaidL
        rw [Sp.norm_has, Sp.hasB_append, Sp.minus_has, hc, hk]
        have hl : Sp.hasB (if AA ≤ Sp.size (partS (clockL l) (dayOf t) 86400) ∧ Sp.size (partS (onlyL l 3) (dayOf t) 86400) < AB then Sp.last (Sp.minus (partS (clockL l) (dayOf t) 86400) (partS (onlyL l 3) (dayOf t) 86400)) (AB - Sp.size (partS (onlyL l 3) (dayOf t) 86400)) else []) t = false := by
          split
          · rw [Sp.last_has, Sp.norm_has, Sp.minus_has, hc]; simp
          · rfl
        rw [hl]; simp
      · have h1 : Sp.hasB (dayNot P AA AB l d) t = false := by
          cases hb : Sp.hasB (dayNot P AA AB l d) t
          · rfl
          · exact absurd (hn hb).2.2 e
        rw [h1, partDay_has]; simp [e]
/-- The auto break's seconds. -/
def autoL (AA AB : Int) (c r : List Sp.S) : List Sp.S := if AA ≤ Sp.size c ∧ Sp.size r < AB then Sp.last (Sp.minus c r) (AB - Sp.size r) else []
theorem auto_has (AA AB : Int) (c r : List Sp.S) (t : Int) : Sp.hasB (autoL AA AB c r) t = (Sp.hasB (Sp.minus c r) t && (decide (AA ≤ Sp.size c ∧ Sp.size r < AB) && decide (Sp.size (Sp.minus c r) - (AB - Sp.size r) ≤ Sp.upTo (Sp.minus c r) t))) := by
  unfold autoL
  split
  · rename_i h
    rw [Sp.last_has, Sp.norm_of_plain (Sp.minus_plain _ _)]; simp [h]
  · rename_i h
    simp [Sp.hasB_nil]; intro _ a b; exact absurd ⟨a, b⟩ h
theorem not_work (P AA AB : Int) (l : List SegL) (d : Int) : Sp.minus (dayNot P AA AB l d) (onlyL l 3) = autoL AA AB (partS (clockL l) d 86400) (partS (onlyL l 3) d 86400) := by
  have hp : Sp.Plain (autoL AA AB (partS (clockL l) d 86400) (partS (onlyL l 3) d 86400)) := by
    unfold autoL; split
    · exact Sp.last_plain _ _
    · trivial
  refine (Sp.minus_plain _ _).uniq hp fun t => ?_
  rw [Sp.minus_has]
  have hn := @dayNot_has P AA AB l d t
  cases hk : Sp.okT t
  · cases hb : Sp.hasB (autoL AA AB (partS (clockL l) d 86400) (partS (onlyL l 3) d 86400)) t
    · rfl
    · rw [Sp.okT_of_plain hp hb] at hk; cases hk
  · have hx : Sp.hasB (dayNot P AA AB l d) t = (Sp.hasB (Sp.minus (partS (onlyL l 3) d 86400) (Sp.first (partS (onlyL l 3) d 86400) P)) t || Sp.hasB (autoL AA AB (partS (clockL l) d 86400) (partS (onlyL l 3) d 86400)) t) := by
      show Sp.hasB (Sp.norm (_ ++ autoL _ _ _ _)) t = _
      rw [Sp.norm_has, Sp.hasB_append, hk]; rfl
    rw [hx, Sp.minus_has, hk, auto_has, Sp.minus_has, hk, partDay_has, hk]
    by_cases e : dayOf t = d
    · simp only [e, decide_true]
      generalize (decide (AA ≤ Sp.size (partS (clockL l) d 86400) ∧ Sp.size (partS (onlyL l 3) d 86400) < AB) && decide (Sp.size (Sp.minus (partS (clockL l) d 86400) (partS (onlyL l 3) d 86400)) - (AB - Sp.size (partS (onlyL l 3) d 86400)) ≤ Sp.upTo (Sp.minus (partS (clockL l) d 86400) (partS (onlyL l 3) d 86400)) t)) = y
      generalize Sp.hasB (partS (clockL l) d 86400) t = z
      cases Sp.hasB (onlyL l 3) t <;> cases y <;> cases z <;> simp
    · have : Sp.hasB (partS (clockL l) d 86400) t = false := by rw [partDay_has]; simp [e]
      rw [this]; simp [e]
theorem minus_uniq {a b c d : List Sp.S} (h : ∀ t, Sp.hasB (Sp.minus a b) t = Sp.hasB (Sp.minus c d) t) : Sp.minus a b = Sp.minus c d := (Sp.minus_plain a b).uniq (Sp.minus_plain c d) h
theorem paid_work (P AA AB : Int) (l : List SegL) (d : Int) : Sp.minus (dayPaid P AA AB l d) (onlyL l 3) = Sp.minus (Sp.minus (partS (clockL l) d 86400) (partS (onlyL l 3) d 86400)) (autoL AA AB (partS (clockL l) d 86400) (partS (onlyL l 3) d 86400)) := by
  refine minus_uniq fun t => ?_
  have hw : Sp.hasB (Sp.minus (dayNot P AA AB l d) (onlyL l 3)) t = Sp.hasB (autoL AA AB (partS (clockL l) d 86400) (partS (onlyL l 3) d 86400)) t := by rw [not_work]
  rw [Sp.minus_has] at hw
  rw [Sp.minus_has, Sp.minus_has, Sp.minus_has, ← hw]
  unfold dayPaid
  rw [Sp.minus_has, partDay_has (onlyL l 3)]
  cases hk : Sp.okT t
  · rfl
  · by_cases e : dayOf t = d
    · simp only [e, decide_true]
      cases Sp.hasB (onlyL l 3) t <;> simp
    · have : Sp.hasB (partS (clockL l) d 86400) t = false := by rw [partDay_has]; simp [e]
      rw [this]; simp

theorem ahead_gen {a b : List Sp.S} (h : ∀ t u, Sp.hasB a t = true → Sp.hasB b u = true → t < u) (ha : Sp.Plain a) (hb : Sp.Plain b) {m k : Nat} {x y : Sp.S} (hx : a[m]? = some x) (hy : b[k]? = some y) : x.2 ≤ y.1 := by
  have h1 := ha.bd x (List.mem_of_getElem? hx)
  have h2 := hb.bd y (List.mem_of_getElem? hy)
  have := h (x.2 - 1) y.1 (Sp.hasB_iff.2 ⟨x, List.mem_of_getElem? hx, by omega, by omega⟩) (Sp.hasB_iff.2 ⟨y, List.mem_of_getElem? hy, by omega, by omega⟩)
  omega
theorem upTo_lt {l : List Sp.S} (h : Sp.Plain l) {t u : Int} (h1 : Sp.upTo l t < Sp.upTo l u) : t < u := by
  by_cases hh : u ≤ t
  · have := Sp.upTo_mono l hh; omega
  · omega
theorem ahead_rests (P AA AB : Int) (l : List SegL) (d : Int) {m k : Nat} {x y : Sp.S} (hx : (Sp.and_ (dayPaid P AA AB l d) (onlyL l 3))[m]? = some x) (hy : (Sp.and_ (dayNot P AA AB l d) (onlyL l 3))[k]? = some y) : x.2 ≤ y.1 := by
  refine ahead_gen (fun t u ht hu => ?_) (Sp.and_plain _ _) (Sp.and_plain _ _) hx hy
  rw [paid_rests, Sp.first_has, Sp.norm_of_plain (partS_plain _ _ _)] at ht
  rw [not_rests, Sp.minus_has, Sp.first_has, Sp.norm_of_plain (partS_plain _ _ _)] at hu
  simp only [Bool.and_eq_true, decide_eq_true_eq] at ht hu
  refine upTo_lt (partS_plain (onlyL l 3) d 86400) ?_
  have := hu.2.2
  rw [hu.2.1] at this
  simp at this
  omega
theorem ahead_work (P AA AB : Int) (l : List SegL) (d : Int) {m k : Nat} {x y : Sp.S} (hx : (Sp.minus (dayPaid P AA AB l d) (onlyL l 3))[m]? = some x) (hy : (Sp.minus (dayNot P AA AB l d) (onlyL l 3))[k]? = some y) : x.2 ≤ y.1 := by
  refine ahead_gen (fun t u ht hu => ?_) (Sp.minus_plain _ _) (Sp.minus_plain _ _) hx hy
  rw [paid_work, Sp.minus_has, auto_has] at ht
  rw [not_work, auto_has] at hu
  simp only [Bool.and_eq_true, decide_eq_true_eq] at ht hu
  refine upTo_lt (Sp.minus_plain (partS (clockL l) d 86400) (partS (onlyL l 3) d 86400)) ?_
  have h1 := ht.2.2
  rw [ht.2.1] at h1
  have h2 := hu.2.1
  simp [h2] at h1
  omega
end Go.Proofs.YtnhmibfgaoealaaGreat
