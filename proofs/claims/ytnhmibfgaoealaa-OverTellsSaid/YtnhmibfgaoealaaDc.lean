/-
  Plain theory of overtime.
-/
import Derived.Test.YtnhmibfgaoealaaMl
namespace Go.Proofs.Ytnhmibfgaoealaa
set_option linter.unusedVariables false
set_option linter.unusedSimpArgs false

theorem upTo_cnt {l : List Sp.S} (h : Sp.Plain l) {t : Int} (t0 : 0 ≤ t) : Sp.upTo l t = (Sp.cnt (Sp.hasB l) t.toNat : Int) := by
  rw [Sp.plain_cnt h (Int.le_refl 0), show ((t.toNat : Nat) : Int) = t from by omega]
  rfl
theorem upTo_congr {a b : List Sp.S} (ha : Sp.Plain a) (hb : Sp.Plain b) {t : Int} (t0 : 0 ≤ t) (h : ∀ x, 0 ≤ x → x < t → Sp.hasB a x = Sp.hasB b x) : Sp.upTo a t = Sp.upTo b t := by
  rw [upTo_cnt ha t0, upTo_cnt hb t0, Sp.cnt_congr fun x h0 h1 => h x h0 (by omega)]

/-- How many seconds of its day are ahead of a second. -/
def rankD (A : List Sp.S) (t : Int) : Int := Sp.upTo (partS A (dayOf t) 86400) t
def shortL (A : List Sp.S) (n : Int) : List Sp.S := (daysL (Sp.norm A)).flatMap fun d => Sp.first (partS A d 86400) n

theorem firstDay_has (A : List Sp.S) (d n t : Int) : Sp.hasB (Sp.first (partS A d 86400) n) t = (Sp.okT t && Sp.hasB A t && decide (dayOf t = d) && decide (rankD A t < n)) := by
  rw [Sp.first_has, Sp.norm_of_plain (partS_plain _ _ _), partDay_has]
  by_cases e : dayOf t = d
  · subst e; rfl
  · simp [e]

theorem shortL_has (A : List Sp.S) (n t : Int) : Sp.hasB (shortL A n) t = (Sp.okT t && Sp.hasB A t && decide (rankD A t < n)) := by
  unfold shortL
  rw [hasB_flatMap]
  refine bool_eq ?_
  rw [List.any_eq_true]
  constructor
  · rintro ⟨d, _, hb⟩
    rw [firstDay_has] at hb
    simp only [Bool.and_eq_true] at hb ⊢
    exact ⟨hb.1.1, hb.2⟩
  · intro hb
    simp only [Bool.and_eq_true] at hb
    refine ⟨dayOf t, ((days_spec A).2 _).2 ⟨t, hb.1.1, hb.1.2, rfl⟩, ?_⟩
    rw [firstDay_has]
    simp only [Bool.and_eq_true]
    exact ⟨⟨hb.1, by simp⟩, hb.2⟩

theorem firstP_len (p : List Sp.S) (n : Int) : (Sp.firstP p n).length ≤ p.length := by
  induction p generalizing n with
  | nil => unfold Sp.firstP; simp
  | cons s r ih =>
    unfold Sp.firstP
    split
    · simp
    · rw [List.length_cons, List.length_cons]; have := ih (n - (min s.2 (s.1 + min n Sp.MT) - s.1)); omega
theorem shortL_len (A : List Sp.S) (n : Int) (hA : A.length ≤ 500) : (shortL A n).length ≤ 371 * 1002 := by
  have h1 := (days_spec A).1
  have h2 : ∀ d ∈ daysL (Sp.norm A), 0 ≤ d ∧ d ≤ 370 := fun d hd => by
    obtain ⟨t, _, _, rfl⟩ := ((days_spec A).2 d).1 hd
    exact dayOf_bd t
  have h3 := pair_len h1 h2
  have h4 : ∀ d, (Sp.first (partS A d 86400) n).length ≤ 1002 := fun d => by
    have a := Nat.le_trans (firstP_len (Sp.norm (partS A d 86400)) n) (Sp.norm_length _)
    have b := partS_len A d 86400
    unfold Sp.first; omega
  have h5 := flatMap_len (fun d => Sp.first (partS A d 86400) n) 1002 (daysL (Sp.norm A)) fun d _ => h4 d
  unfold shortL
  exact Nat.le_trans h5 (Nat.mul_le_mul_right _ h3)

@[irreducible] def overR (A : List Sp.S) (R W : Int) : List Sp.S := Sp.first (shortL A R) W
@[irreducible] def overO (A : List Sp.S) (R O W : Int) : List Sp.S := Sp.minus (shortL A O) (overR A R W)
@[irreducible] def overD (A : List Sp.S) (O : Int) : List Sp.S := Sp.minus A (shortL A O)

theorem overR_plain (A : List Sp.S) (R W : Int) : Sp.Plain (overR A R W) := by unfold overR; exact Sp.first_plain _ _
theorem overO_plain (A : List Sp.S) (R O W : Int) : Sp.Plain (overO A R O W) := by unfold overO; exact Sp.minus_plain _ _
theorem overD_plain (A : List Sp.S) (O : Int) : Sp.Plain (overD A O) := by unfold overD; exact Sp.minus_plain _ _
theorem overR_has (A : List Sp.S) (R W t : Int) : Sp.hasB (overR A R W) t = (Sp.okT t && Sp.hasB A t && decide (rankD A t < R) && decide (Sp.upTo (Sp.norm (shortL A R)) t < W)) := by
  unfold overR
  rw [Sp.first_has, Sp.norm_has, shortL_has]
  cases Sp.okT t <;> simp
theorem overO_has (A : List Sp.S) (R O W t : Int) : Sp.hasB (overO A R O W) t = (Sp.okT t && Sp.hasB A t && decide (rankD A t < O) && !Sp.hasB (overR A R W) t) := by
  unfold overO
  rw [Sp.minus_has, shortL_has]
  cases Sp.okT t <;> simp
theorem overD_has (A : List Sp.S) (O t : Int) : Sp.hasB (overD A O) t = (Sp.okT t && Sp.hasB A t && decide (O ≤ rankD A t)) := by
  unfold overD
  rw [Sp.minus_has, shortL_has]
  cases Sp.okT t
  · rfl
  · cases Sp.hasB A t
    · rfl
    · simp only [Bool.true_and]
      by_cases h : rankD A t < O
      · have : ¬ O ≤ rankD A t := by omega
        simp [h, this]
      · have : O ≤ rankD A t := by omega
        simp [h, this]
theorem overR_sub {A : List Sp.S} {R W t : Int} (h : Sp.hasB (overR A R W) t = true) : Sp.okT t = true ∧ Sp.hasB A t = true ∧ rankD A t < R := by
  rw [overR_has] at h
  simp only [Bool.and_eq_true, decide_eq_true_eq] at h
  exact ⟨h.1.1.1, h.1.1.2, h.1.2⟩

/-- The reference's cut of a day's plain spans. -/
def cutR (R : Int) : List Sp.S → Int → List Sp.S
  | [], _ => []
  | s :: r, k => (s.1, s.1 + max 0 (min (s.2 - s.1) (R - k))) :: cutR R r (k + s.2 - s.1)
def cutO (R O : Int) : List Sp.S → Int → List Sp.S
  | [], _ => []
  | s :: r, k => (s.1 + max 0 (min (s.2 - s.1) (R - k)), s.1 + max 0 (min (s.2 - s.1) (O - k))) :: cutO R O r (k + s.2 - s.1)
def cutD (O : Int) : List Sp.S → Int → List Sp.S
  | [], _ => []
  | s :: r, k => (s.1 + max 0 (min (s.2 - s.1) (O - k)), s.2) :: cutD O r (k + s.2 - s.1)

theorem cut_cases {lo : Int} {s : Sp.S} {r : List Sp.S} (h : Sp.PlainFrom lo (s :: r)) (t : Int) :
    (t < s.1 ∧ Sp.hasB (s :: r) t = false ∧ Sp.hasB r t = false) ∨
    (s.1 ≤ t ∧ t < s.2 ∧ Sp.hasB (s :: r) t = true ∧ Sp.hasB r t = false ∧ Sp.upTo (s :: r) t = t - s.1) ∨
    (s.2 ≤ t ∧ Sp.hasB (s :: r) t = Sp.hasB r t ∧ Sp.upTo (s :: r) t = s.2 - s.1 + Sp.upTo r t) := by
  obtain ⟨h1, h2, h3, h4⟩ := h
  rw [Sp.upTo_cons, Sp.hasB_cons]
  by_cases a : t < s.1
  · refine .inl ⟨a, ?_, h4.not_has (by omega)⟩
    rw [h4.not_has (by omega)]; simp [Sp.inB]; omega
  · by_cases b : t < s.2
    · refine .inr (.inl ⟨by omega, b, ?_, h4.not_has (by omega), ?_⟩)
      · rw [Sp.inB_iff.2 ⟨by omega, b⟩]; rfl
      · rw [Sp.upTo_zero h4 (by omega)]; omega
    · refine .inr (.inr ⟨by omega, ?_, by omega⟩)
      have : Sp.inB s t = false := by
        cases hb : Sp.inB s t
        · rfl
        · rw [Sp.inB_iff] at hb; omega
      rw [this, Bool.false_or]

theorem inB_dec (p q t : Int) : Sp.inB (p, q) t = (decide (p ≤ t) && decide (t < q)) := rfl

theorem cutR_has {lo : Int} {p : List Sp.S} (h : Sp.PlainFrom lo p) (R k t : Int) : Sp.hasB (cutR R p k) t = (Sp.hasB p t && decide (k + Sp.upTo p t < R)) := by
  induction p generalizing lo k with
  | nil => rfl
  | cons s r ih =>
    have h2 := h.2.1
    unfold cutR
    rw [Sp.hasB_cons, ih h.2.2.2, inB_dec]
    refine bool_eq ?_
    rcases cut_cases h t with ⟨a, e1, e2⟩ | ⟨a, b, e1, e2, e3⟩ | ⟨a, e1, e3⟩
    · rw [e1, e2]; simp; omega
    · rw [e1, e2, e3]; simp; omega
    · rw [e1, e3]
      cases Sp.hasB r t <;> simp <;> omega
theorem cutO_has {lo : Int} {p : List Sp.S} (h : Sp.PlainFrom lo p) (R O k t : Int) : Sp.hasB (cutO R O p k) t = (Sp.hasB p t && decide (R ≤ k + Sp.upTo p t) && decide (k + Sp.upTo p t < O)) := by
  induction p generalizing lo k with
  | nil => rfl
  | cons s r ih =>
    have h2 := h.2.1
    unfold cutO
    rw [Sp.hasB_cons, ih h.2.2.2, inB_dec]
    refine bool_eq ?_
    rcases cut_cases h t with ⟨a, e1, e2⟩ | ⟨a, b, e1, e2, e3⟩ | ⟨a, e1, e3⟩
    · rw [e1, e2]; simp; omega
    · rw [e1, e2, e3]; simp; omega
    · rw [e1, e3]
      cases Sp.hasB r t <;> simp <;> omega
theorem cutD_has {lo : Int} {p : List Sp.S} (h : Sp.PlainFrom lo p) (O k t : Int) : Sp.hasB (cutD O p k) t = (Sp.hasB p t && decide (O ≤ k + Sp.upTo p t)) := by
  induction p generalizing lo k with
  | nil => rfl
  | cons s r ih =>
    have h2 := h.2.1
    unfold cutD
    rw [Sp.hasB_cons, ih h.2.2.2, inB_dec]
    refine bool_eq ?_
    rcases cut_cases h t with ⟨a, e1, e2⟩ | ⟨a, b, e1, e2, e3⟩ | ⟨a, e1, e3⟩
    · rw [e1, e2]; simp; omega
    · rw [e1, e2, e3]; simp; omega
    · rw [e1, e3]
      cases Sp.hasB r t <;> simp <;> omega

def refR (A : List Sp.S) (R : Int) : List Sp.S := (daysL (Sp.norm A)).flatMap fun d => cutR R (partS A d 86400) 0
def refO (A : List Sp.S) (R O : Int) : List Sp.S := (daysL (Sp.norm A)).flatMap fun d => cutO R O (partS A d 86400) 0
def refD (A : List Sp.S) (O : Int) : List Sp.S := (daysL (Sp.norm A)).flatMap fun d => cutD O (partS A d 86400) 0

theorem refR_has (A : List Sp.S) (R t : Int) : Sp.hasB (refR A R) t = (Sp.okT t && Sp.hasB A t && decide (rankD A t < R)) := by
  unfold refR
  rw [hasB_flatMap]
  refine bool_eq ?_
  rw [List.any_eq_true]
  constructor
  · rintro ⟨d, _, hb⟩
    rw [cutR_has (partS_plain A d 86400), partDay_has, Int.zero_add] at hb
    simp only [Bool.and_eq_true, decide_eq_true_eq] at hb ⊢
    obtain ⟨⟨h1, rfl⟩, h3⟩ := hb
    exact ⟨h1, h3⟩
  · intro hb
    simp only [Bool.and_eq_true, decide_eq_true_eq] at hb
    refine ⟨dayOf t, ((days_spec A).2 _).2 ⟨t, hb.1.1, hb.1.2, rfl⟩, ?_⟩
    rw [cutR_has (partS_plain A _ 86400), partDay_has, Int.zero_add]
    simp only [Bool.and_eq_true, decide_eq_true_eq]
    exact ⟨⟨hb.1, trivial⟩, hb.2⟩
theorem refO_has (A : List Sp.S) (R O t : Int) : Sp.hasB (refO A R O) t = (Sp.okT t && Sp.hasB A t && decide (R ≤ rankD A t) && decide (rankD A t < O)) := by
  unfold refO
  rw [hasB_flatMap]
  refine bool_eq ?_
  rw [List.any_eq_true]
  constructor
  · rintro ⟨d, _, hb⟩
    rw [cutO_has (partS_plain A d 86400), partDay_has, Int.zero_add] at hb
    simp only [Bool.and_eq_true, decide_eq_true_eq] at hb ⊢
    obtain ⟨⟨⟨h1, rfl⟩, h2⟩, h3⟩ := hb
    exact ⟨⟨h1, h2⟩, h3⟩
  · intro hb
    simp only [Bool.and_eq_true, decide_eq_true_eq] at hb
    refine ⟨dayOf t, ((days_spec A).2 _).2 ⟨t, hb.1.1.1, hb.1.1.2, rfl⟩, ?_⟩
    rw [cutO_has (partS_plain A _ 86400), partDay_has, Int.zero_add]
    simp only [Bool.and_eq_true, decide_eq_true_eq]
    exact ⟨⟨⟨hb.1.1, trivial⟩, hb.1.2⟩, hb.2⟩
theorem refD_has (A : List Sp.S) (O t : Int) : Sp.hasB (refD A O) t = (Sp.okT t && Sp.hasB A t && decide (O ≤ rankD A t)) := by
  unfold refD
  rw [hasB_flatMap]
  refine bool_eq ?_
  rw [List.any_eq_true]
  constructor
  · rintro ⟨d, _, hb⟩
    rw [cutD_has (partS_plain A d 86400), partDay_has, Int.zero_add] at hb
    simp only [Bool.and_eq_true, decide_eq_true_eq] at hb ⊢
    obtain ⟨⟨h1, rfl⟩, h3⟩ := hb
    exact ⟨h1, h3⟩
  · intro hb
    simp only [Bool.and_eq_true, decide_eq_true_eq] at hb
    refine ⟨dayOf t, ((days_spec A).2 _).2 ⟨t, hb.1.1, hb.1.2, rfl⟩, ?_⟩
    rw [cutD_has (partS_plain A _ 86400), partDay_has, Int.zero_add]
    simp only [Bool.and_eq_true, decide_eq_true_eq]
    exact ⟨⟨hb.1, trivial⟩, hb.2⟩

theorem first_congr {l m : List Sp.S} (h : ∀ t, Sp.okT t = true → Sp.hasB l t = Sp.hasB m t) (n : Int) : Sp.first l n = Sp.first m n := by
  unfold Sp.first; rw [Sp.norm_congr h]

theorem ref_reg (A : List Sp.S) (R W : Int) : Sp.first (refR A R) W = overR A R W := by
  unfold overR
  exact first_congr (fun t _ => by rw [refR_has, shortL_has]) W
theorem ref_over (A : List Sp.S) {R O : Int} (W : Int) (hRO : R ≤ O) : Sp.norm (Sp.minus (refR A R) (overR A R W) ++ refO A R O) = overO A R O W := by
  refine (Sp.norm_plain _).uniq (overO_plain _ _ _ _) fun t => ?_
  rw [Sp.norm_has, Sp.hasB_append, Sp.minus_has, refR_has, refO_has, overO_has]
  refine bool_eq ?_
  have hs := @overR_sub A R W t
  cases hr : Sp.hasB (overR A R W) t
  · cases Sp.okT t <;> cases Sp.hasB A t <;> simp <;> omega
  · have := hs hr
    simp; omega
theorem ref_double (A : List Sp.S) (O : Int) : Sp.norm (refD A O) = overD A O := by
  refine (Sp.norm_plain _).uniq (overD_plain _ _) fun t => ?_
  rw [Sp.norm_has, refD_has, overD_has]
  cases Sp.okT t <;> simp

theorem over_make (A : List Sp.S) {R O W : Int} (_hRO : R ≤ O) : Sp.norm (overR A R W ++ overO A R O W ++ overD A O) = Sp.norm A := by
  refine Sp.norm_congr fun t ht => ?_
  rw [Sp.hasB_append, Sp.hasB_append, overO_has, overD_has, ht]
  refine bool_eq ?_
  have hs := @overR_sub A R W t
  cases hr : Sp.hasB (overR A R W) t
  · cases Sp.hasB A t <;> simp; omega
  · simp [(hs hr).2.1]

theorem size_disjoint {a b : List Sp.S} (h : ∀ t, Sp.okT t = true → (Sp.hasB a t && Sp.hasB b t) = false) : Sp.size (a ++ b) = Sp.size a + Sp.size b := by
  have key : ∀ x : List Sp.S, Sp.size x = Sp.cnt (Sp.hasB (Sp.norm x)) Sp.MTn := fun x => by
    rw [Sp.size_cnt]
    congr 1
    refine Sp.cnt_congr fun t h0 h1 => ?_
    rw [Sp.norm_has, Sp.okT_iff.2 ⟨h0, by have := Sp.MTn_eq; omega⟩]; rfl
  rw [key a, key b, ← Int.natCast_add, ← Sp.cnt_or, key (a ++ b)]
  · congr 1
    refine Sp.cnt_congr fun t _ _ => ?_
    rw [Sp.norm_has, Sp.norm_has, Sp.norm_has, Sp.hasB_append]
    cases Sp.okT t <;> rfl
  · intro t
    rw [Sp.norm_has, Sp.norm_has]
    cases hk : Sp.okT t
    · rfl
    · exact h t hk
theorem over_apart1 (A : List Sp.S) (R O W t : Int) : (Sp.hasB (overR A R W) t && Sp.hasB (overO A R O W) t) = false := by
  rw [overO_has]; cases Sp.hasB (overR A R W) t <;> simp
theorem over_size (A : List Sp.S) {R O W : Int} (hRO : R ≤ O) : Sp.size (overR A R W ++ overO A R O W ++ overD A O) = Sp.size (overR A R W) + Sp.size (overO A R O W) + Sp.size (overD A O) := by
  rw [size_disjoint, size_disjoint]
  · exact fun t _ => over_apart1 A R O W t
  · intro t _
    rw [Sp.hasB_append]
    cases hd : Sp.hasB (overD A O) t
    · simp
    · rw [overD_has] at hd
      simp only [Bool.and_eq_true, decide_eq_true_eq] at hd
      have h1 : Sp.hasB (overR A R W) t = false := by
        cases hr : Sp.hasB (overR A R W) t
        · rfl
        · have := overR_sub hr; omega
      have h2 : Sp.hasB (overO A R O W) t = false := by
        rw [overO_has]
        have : ¬ rankD A t < O := by omega
        simp [this]
      rw [h1, h2]; rfl
theorem over_none (A : List Sp.S) (R O W : Int) : Sp.and_ (overR A R W) (overO A R O W) = [] := by
  refine (Sp.and_plain _ _).uniq Sp.plain_nil fun t => ?_
  rw [Sp.and_has, over_apart1]; simp [Sp.hasB]

/-- Sizes: of a week, day by day. -/
def wsum (f : Int → Int) (w : Int) : Nat → Int
  | 0 => 0
  | k + 1 => wsum f w k + f (7 * w + k)

theorem size_norm (l : List Sp.S) : Sp.size (Sp.norm l) = Sp.size l := by unfold Sp.size; rw [Sp.norm_of_plain (Sp.norm_plain l)]
theorem size_add {a b c : List Sp.S} (h : ∀ t, Sp.okT t = true → Sp.hasB c t = (Sp.hasB a t || Sp.hasB b t)) (hd : ∀ t, Sp.okT t = true → (Sp.hasB a t && Sp.hasB b t) = false) : Sp.size c = Sp.size a + Sp.size b := by
  rw [← size_disjoint hd]
  unfold Sp.size
  rw [Sp.norm_congr (l := c) (m := a ++ b) fun t ht => by rw [Sp.hasB_append]; exact h t ht]

def fromTo (l : List Sp.S) (a b : Int) : List Sp.S := Sp.and_ l [(a, b)]
theorem size_nil : Sp.size [] = 0 := rfl
theorem wsum_size (l : List Sp.S) {w : Int} (w0 : 0 ≤ w) (w1 : w ≤ 52) (k : Nat) (hk : k ≤ 7) : wsum (fun d => Sp.size (partS l d 86400)) w k = Sp.size (fromTo l (7 * w * 86400) ((7 * w + k) * 86400)) := by
  induction k with
  | zero =>
    have : fromTo l (7 * w * 86400) ((7 * w + (0 : Nat)) * 86400) = [] := by
      refine (Sp.and_plain _ _).uniq Sp.plain_nil fun t => ?_
      rw [Sp.and_has, inB_one, Sp.hasB_nil]
      refine bool_eq ?_
      simp <;> omega
    rw [this]; rfl
  | succ k ih =>
    rw [wsum, ih (by omega)]
    symm
    refine size_add (fun t ht => ?_) (fun t ht => ?_)
    · rw [partDay_has, ht, (day_div ht).1]
      unfold fromTo
      rw [Sp.and_has, Sp.and_has, inB_one, inB_one, ht]
      refine bool_eq ?_
      cases Sp.hasB l t <;> simp; omega
    · rw [partDay_has, ht, (day_div ht).1]
      unfold fromTo
      rw [Sp.and_has, inB_one, ht]
      cases Sp.hasB l t
      · rfl
      · simp; omega
theorem wsum_week (l : List Sp.S) {w : Int} (w0 : 0 ≤ w) (w1 : w ≤ 52) : wsum (fun d => Sp.size (partS l d 86400)) w 7 = Sp.size (partS l w 604800) := by
  rw [wsum_size l w0 w1 7 (Nat.le_refl _)]
  congr 1
  refine (Sp.and_plain _ _).uniq (partS_plain _ _ _) fun t => ?_
  rw [partWeek_has, Sp.and_has, inB_one]
  cases hk : Sp.okT t
  · rfl
  · rw [(week_div hk).1]
    refine bool_eq ?_
    cases Sp.hasB l t <;> simp; omega
theorem wsum_congr {f g : Int → Int} {w : Int} {k : Nat} (h : ∀ d, 7 * w ≤ d → d < 7 * w + k → f d = g d) : wsum f w k = wsum g w k := by
  induction k with
  | zero => rfl
  | succ k ih => rw [wsum, wsum, ih fun d a b => h d a (by omega), h _ (by omega) (by omega)]
theorem wsum_sub (f g : Int → Int) (w : Int) (k : Nat) : wsum (fun d => f d - g d) w k = wsum f w k - wsum g w k := by
  induction k with
  | zero => rfl
  | succ k ih => rw [wsum, wsum, wsum, ih]; omega

/-- What is in a day of a week is in that week. -/
theorem part_part (l : List Sp.S) {w d : Int} (h1 : 7 * w ≤ d) (h2 : d < 7 * w + 7) : partS (partS l w 604800) d 86400 = partS l d 86400 := by
  refine (partS_plain _ _ _).uniq (partS_plain _ _ _) fun t => ?_
  rw [partDay_has, partDay_has, partWeek_has]
  cases hk : Sp.okT t
  · rfl
  · rw [(week_div hk).1, (day_div hk).1]
    refine bool_eq ?_
    cases Sp.hasB l t <;> simp; omega
theorem part_again (l : List Sp.S) (w : Int) : partS (partS l w 604800) w 604800 = partS l w 604800 := by
  refine (partS_plain _ _ _).uniq (partS_plain _ _ _) fun t => ?_
  rw [partWeek_has, partWeek_has]
  cases Sp.okT t <;> cases Sp.hasB l t <;> simp

theorem part_short (A : List Sp.S) (d n : Int) : partS (shortL A n) d 86400 = Sp.first (partS A d 86400) n := by
  refine (partS_plain _ _ _).uniq (Sp.first_plain _ _) fun t => ?_
  rw [partDay_has, shortL_has, firstDay_has]
  cases Sp.okT t <;> cases Sp.hasB A t <;> cases decide (dayOf t = d) <;> simp
theorem part_short_week (l : List Sp.S) (w n : Int) : partS (shortL (partS l w 604800) n) w 604800 = Sp.norm (shortL (partS l w 604800) n) := by
  refine (partS_plain _ _ _).uniq (Sp.norm_plain _) fun t => ?_
  rw [partWeek_has, Sp.norm_has, shortL_has, partWeek_has]
  cases Sp.okT t <;> cases Sp.hasB l t <;> cases decide (weekOf t = w) <;> simp

theorem size_short (l : List Sp.S) {w : Int} (w0 : 0 ≤ w) (w1 : w ≤ 52) {n : Int} (n0 : 0 ≤ n) : Sp.size (shortL (partS l w 604800) n) = wsum (fun d => min (Sp.size (partS l d 86400)) n) w 7 := by
  rw [← size_norm, ← part_short_week, ← wsum_week _ w0 w1]
  refine wsum_congr fun d h1 h2 => ?_
  rw [part_short, part_part l h1 (by omega), Sp.size_first]
  have := Sp.size_nonneg (partS l d 86400)
  omega

theorem size_sub {a b c : List Sp.S} (h : ∀ t, Sp.okT t = true → Sp.hasB c t = (Sp.hasB a t && !Sp.hasB b t)) (hs : ∀ t, Sp.okT t = true → Sp.hasB b t = true → Sp.hasB a t = true) : Sp.size c = Sp.size a - Sp.size b := by
  have : Sp.size a = Sp.size c + Sp.size b := size_add (fun t ht => by
    rw [h t ht]
    cases hb : Sp.hasB b t
    · simp
    · rw [hs t ht hb]; rfl) (fun t ht => by rw [h t ht]; cases Sp.hasB b t <;> simp)
  omega

theorem over_sizes (l : List Sp.S) {w R O W : Int} (w0 : 0 ≤ w) (w1 : w ≤ 52) (R0 : 0 ≤ R) (hRO : R ≤ O) (W0 : 0 ≤ W) :
    Sp.size (overR (partS l w 604800) R W) = min (wsum (fun d => min (Sp.size (partS l d 86400)) R) w 7) W ∧
    Sp.size (overD (partS l w 604800) O) = wsum (fun d => max 0 (Sp.size (partS l d 86400) - O)) w 7 ∧
    Sp.size (overO (partS l w 604800) R O W) = wsum (fun d => Sp.size (partS l d 86400)) w 7 - min (wsum (fun d => min (Sp.size (partS l d 86400)) R) w 7) W - wsum (fun d => max 0 (Sp.size (partS l d 86400) - O)) w 7 := by
  have e1 : Sp.size (overR (partS l w 604800) R W) = min (wsum (fun d => min (Sp.size (partS l d 86400)) R) w 7) W := by
    unfold overR
    rw [Sp.size_first, size_short l w0 w1 R0]
    have := size_short l w0 w1 R0
    have := Sp.size_nonneg (shortL (partS l w 604800) R)
    omega
  have e2 : Sp.size (overD (partS l w 604800) O) = wsum (fun d => max 0 (Sp.size (partS l d 86400) - O)) w 7 := by
    have : Sp.size (overD (partS l w 604800) O) = Sp.size (partS l w 604800) - Sp.size (shortL (partS l w 604800) O) :=
      size_sub (fun t ht => by unfold overD; rw [Sp.minus_has, ht]; rfl) (fun t ht h => by rw [shortL_has] at h; simp only [Bool.and_eq_true] at h; exact h.1.2)
    rw [this, size_short l w0 w1 (by omega), ← wsum_week l w0 w1, ← wsum_sub]
    exact wsum_congr fun d _ _ => by omega
  refine ⟨e1, e2, ?_⟩
  have e3 : Sp.size (overO (partS l w 604800) R O W) = Sp.size (shortL (partS l w 604800) O) - Sp.size (overR (partS l w 604800) R W) :=
    size_sub (fun t ht => by unfold overO; rw [Sp.minus_has, ht]; rfl) (fun t ht h => by
      have := overR_sub h
      rw [shortL_has, ht, this.2.1]; simp; omega)
  have e4 : Sp.size (shortL (partS l w 604800) O) = wsum (fun d => Sp.size (partS l d 86400)) w 7 - wsum (fun d => max 0 (Sp.size (partS l d 86400) - O)) w 7 := by
    rw [size_short l w0 w1 (by omega), ← wsum_sub]
    exact wsum_congr fun d _ _ => by omega
  rw [e3, e4, e1]; omega

/-- A week's first seconds are told as of all. -/
theorem and_part (l : List Sp.S) (c w : Int) : partS (Sp.and_ l [(0, c)]) w 604800 = Sp.and_ (partS l w 604800) [(0, c)] := by
  refine (partS_plain _ _ _).uniq (Sp.and_plain _ _) fun t => ?_
  rw [partWeek_has, Sp.and_has, Sp.and_has, partWeek_has]
  cases Sp.okT t <;> cases Sp.hasB l t <;> cases Sp.hasB [(0, c)] t <;> simp
theorem rank_cut (A : List Sp.S) {c t : Int} (hk : Sp.okT t = true) (h : t < c) : rankD (Sp.and_ A [(0, c)]) t = rankD A t := by
  have h0 := Sp.okT_iff.1 hk
  refine upTo_congr (partS_plain _ _ _) (partS_plain _ _ _) h0.1 fun x x0 x1 => ?_
  rw [partDay_has, partDay_has, Sp.and_has, inB_one]
  have : (decide (0 ≤ x) && decide (x < c)) = true := by simp; omega
  rw [this]
  cases Sp.okT x <;> cases Sp.hasB A x <;> rfl
theorem short_cut (A : List Sp.S) (n : Int) {c t : Int} (hk : Sp.okT t = true) : Sp.hasB (shortL (Sp.and_ A [(0, c)]) n) t = (Sp.hasB (shortL A n) t && decide (t < c)) := by
  have h0 := Sp.okT_iff.1 hk
  rw [shortL_has, shortL_has, Sp.and_has, inB_one, hk]
  by_cases h : t < c
  · rw [rank_cut A hk h]
    cases Sp.hasB A t <;> simp [h, h0.1]
  · simp [h]
theorem over_has' (A : List Sp.S) (R O W t : Int) : Sp.hasB (overO A R O W) t = (Sp.okT t && (Sp.hasB (shortL A O) t && !Sp.hasB (overR A R W) t)) := by unfold overO; exact Sp.minus_has _ _ _
theorem double_has' (A : List Sp.S) (O t : Int) : Sp.hasB (overD A O) t = (Sp.okT t && (Sp.hasB A t && !Sp.hasB (shortL A O) t)) := by unfold overD; exact Sp.minus_has _ _ _
theorem reg_has' (A : List Sp.S) (R W t : Int) : Sp.hasB (overR A R W) t = (Sp.okT t && Sp.hasB (shortL A R) t && decide (Sp.upTo (Sp.norm (shortL A R)) t < W)) := by unfold overR; rw [Sp.first_has, Sp.norm_has]
theorem reg_cut (A : List Sp.S) (R W c : Int) : overR (Sp.and_ A [(0, c)]) R W = Sp.and_ (overR A R W) [(0, c)] := by
  refine (overR_plain _ _ _).uniq (Sp.and_plain _ _) fun t => ?_
  rw [Sp.and_has, inB_one, reg_has', reg_has']
  cases hk : Sp.okT t
  · rfl
  · have h0 := Sp.okT_iff.1 hk
    rw [short_cut A R hk]
    by_cases h : t < c
    · have e : Sp.upTo (Sp.norm (shortL (Sp.and_ A [(0, c)]) R)) t = Sp.upTo (Sp.norm (shortL A R)) t := by
        refine upTo_congr (Sp.norm_plain _) (Sp.norm_plain _) h0.1 fun x x0 x1 => ?_
        rw [Sp.norm_has, Sp.norm_has]
        cases hx : Sp.okT x
        · rfl
        · rw [short_cut A R hx]
          have : x < c := by omega
          simp [this]
      rw [e, decide_eq_true h, decide_eq_true h0.1]
      generalize decide (Sp.upTo (Sp.norm (shortL A R)) t < W) = y
      cases Sp.hasB (shortL A R) t <;> cases y <;> rfl
    · rw [decide_eq_false h]
      generalize decide (Sp.upTo (Sp.norm (shortL A R)) t < W) = y
      generalize decide (Sp.upTo (Sp.norm (shortL (Sp.and_ A [(0, c)]) R)) t < W) = z
      cases Sp.hasB (shortL A R) t <;> cases y <;> cases z <;> simp
theorem over_cut (A : List Sp.S) (R O W c : Int) : overO (Sp.and_ A [(0, c)]) R O W = Sp.and_ (overO A R O W) [(0, c)] := by
  refine Sp.Plain.uniq (l := overO (Sp.and_ A [(0, c)]) R O W) (l' := Sp.and_ (overO A R O W) [(0, c)]) (overO_plain _ _ _ _) (Sp.and_plain (overO A R O W) [(0, c)]) (fun t => ?_)
  rw [over_has', Sp.and_has, reg_cut, Sp.and_has, inB_one, over_has']
  cases hk : Sp.okT t
  · rfl
  · have h0 := Sp.okT_iff.1 hk
    rw [short_cut A O hk]
    cases Sp.hasB (shortL A O) t <;> cases Sp.hasB (overR A R W) t <;> simp [h0.1]
theorem double_cut (A : List Sp.S) (O c : Int) : overD (Sp.and_ A [(0, c)]) O = Sp.and_ (overD A O) [(0, c)] := by
  refine Sp.Plain.uniq (l := overD (Sp.and_ A [(0, c)]) O) (l' := Sp.and_ (overD A O) [(0, c)]) (overD_plain _ _) (Sp.and_plain (overD A O) [(0, c)]) (fun t => ?_)
  rw [double_has', Sp.and_has, Sp.and_has, inB_one, double_has']
  cases hk : Sp.okT t
  · rfl
  · have h0 := Sp.okT_iff.1 hk
    rw [short_cut A O hk]
    cases Sp.hasB (shortL A O) t <;> cases Sp.hasB A t <;> simp [h0.1]
end Go.Proofs.Ytnhmibfgaoealaa
