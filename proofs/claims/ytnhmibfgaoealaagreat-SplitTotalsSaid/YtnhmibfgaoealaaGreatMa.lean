/-
  Plain theory of sets of seconds as lists of spans. No program in sight.
  Plain theory of sets of seconds, second part: the least and the greatest seconds.
  Plain theory of sets of seconds, third part: spans that rise, joined one by one.
-/

namespace Go.Proofs.YtnhmibfgaoealaaGreat.Sp

abbrev S := Int × Int

/-- The end of all time. -/
def MT : Int := 32054400

def inB (s : S) (t : Int) : Bool := decide (s.1 ≤ t) && decide (t < s.2)
def hasB (l : List S) (t : Int) : Bool := l.any fun s => inB s t

theorem inB_iff {s : S} {t : Int} : inB s t = true ↔ s.1 ≤ t ∧ t < s.2 := by simp [inB]
theorem hasB_nil (t : Int) : hasB [] t = false := rfl
theorem hasB_cons (s : S) (l : List S) (t : Int) : hasB (s :: l) t = (inB s t || hasB l t) := by simp [hasB]
theorem hasB_append (l m : List S) (t : Int) : hasB (l ++ m) t = (hasB l t || hasB m t) := by simp [hasB]
theorem hasB_iff {l : List S} {t : Int} : hasB l t = true ↔ ∃ s ∈ l, s.1 ≤ t ∧ t < s.2 := by simp [hasB, inB]

def PlainFrom (lo : Int) : List S → Prop
  | [] => True
  | s :: r => lo ≤ s.1 ∧ s.1 < s.2 ∧ s.2 ≤ MT ∧ PlainFrom (s.2 + 1) r

def Plain (l : List S) : Prop := PlainFrom 0 l

theorem PlainFrom.mono {lo lo' : Int} {l : List S} (h : PlainFrom lo l) (hl : lo' ≤ lo) : PlainFrom lo' l := by
  cases l with
  | nil => trivial
  | cons s r => exact ⟨by have := h.1; omega, h.2⟩

theorem PlainFrom.has {lo : Int} {l : List S} (h : PlainFrom lo l) {t : Int} (ht : hasB l t = true) : lo ≤ t ∧ t < MT := by
  induction l generalizing lo with
  | nil => simp [hasB] at ht
  | cons s r ih =>
    obtain ⟨h1, h2, h3, h4⟩ := h
    rw [hasB_cons, Bool.or_eq_true, inB_iff] at ht
    rcases ht with ht | ht
    · omega
    · have := ih h4 ht; omega

theorem PlainFrom.not_has {lo : Int} {l : List S} (h : PlainFrom lo l) {t : Int} (ht : t < lo) : hasB l t = false := by
  cases hb : hasB l t
  · rfl
  · have := h.has hb; omega

theorem PlainFrom.uniq {lo lo' : Int} {l l' : List S} (h : PlainFrom lo l) (h' : PlainFrom lo' l') (he : ∀ t, hasB l t = hasB l' t) : l = l' := by
  induction l generalizing lo lo' l' with
  | nil =>
    cases l' with
    | nil => rfl
    | cons s r =>
      have := he s.1
      have h2 := h'.2.1
      rw [hasB_nil, hasB_cons] at this
      have : inB s s.1 = true := by rw [inB_iff]; omega
      simp_all
  | cons s r ih =>
    cases l' with
    | nil =>
      have := he s.1
      have h2 := h.2.1
      rw [hasB_nil, hasB_cons] at this
      have : inB s s.1 = true := by rw [inB_iff]; omega
      simp_all
    | cons s' r' =>
      obtain ⟨h1, h2, h3, h4⟩ := h
      obtain ⟨k1, k2, k3, k4⟩ := h'
      have hlow : ∀ t, hasB (s :: r) t = true → s.1 ≤ t := by
        intro t ht
        exact (PlainFrom.has (lo := s.1) (l := s :: r) ⟨by omega, h2, h3, h4⟩ ht).1
      have klow : ∀ t, hasB (s' :: r') t = true → s'.1 ≤ t := by
        intro t ht
        exact (PlainFrom.has (lo := s'.1) (l := s' :: r') ⟨by omega, k2, k3, k4⟩ ht).1
      have m1 : hasB (s :: r) s.1 = true := by rw [hasB_cons, (inB_iff).2 ⟨by omega, h2⟩]; rfl
      have m2 : hasB (s' :: r') s'.1 = true := by rw [hasB_cons, (inB_iff).2 ⟨by omega, k2⟩]; rfl
      have e1 : s.1 = s'.1 := by
        have a := klow s.1 (by rw [← he]; exact m1)
        have b := hlow s'.1 (by rw [he]; exact m2)
        omega
      have n1 : hasB (s :: r) s.2 = false := by
        rw [hasB_cons, h4.not_has (by omega)]
        simp [inB]
      have n2 : hasB (s' :: r') s'.2 = false := by
        rw [hasB_cons, k4.not_has (by omega)]
        simp [inB]
      have e2 : s.2 = s'.2 := by
        by_cases hlt : s.2 < s'.2
        · have : hasB (s' :: r') s.2 = true := by rw [hasB_cons, (inB_iff).2 ⟨by omega, hlt⟩]; rfl
          rw [← he, n1] at this; simp at this
        · by_cases hgt : s'.2 < s.2
          · have : hasB (s :: r) s'.2 = true := by rw [hasB_cons, (inB_iff).2 ⟨by omega, hgt⟩]; rfl
            rw [he, n2] at this; simp at this
          · omega
      have es : s = s' := Prod.ext e1 e2
      subst es
      rw [ih h4 k4]
      intro t
      by_cases ht : t < s.2 + 1
      · rw [h4.not_has ht, k4.not_has ht]
      · have := he t
        rw [hasB_cons, hasB_cons] at this
        have hn : inB s t = false := by
          cases hb : inB s t
          · rfl
          · rw [inB_iff] at hb; omega
        simpa [hn] using this

theorem Plain.uniq {l l' : List S} (h : Plain l) (h' : Plain l') (he : ∀ t, hasB l t = hasB l' t) : l = l' := PlainFrom.uniq h h' he
theorem Plain.has {l : List S} (h : Plain l) {t : Int} (ht : hasB l t = true) : 0 ≤ t ∧ t < MT := PlainFrom.has h ht

/-- One span put in. -/
def ins (s : S) : List S → List S
  | [] => [s]
  | x :: r => if s.2 < x.1 then s :: x :: r else if x.2 < s.1 then x :: ins s r else ins (min s.1 x.1, max s.2 x.2) r

theorem ins_plain {lo : Int} {l : List S} {s : S} (h : PlainFrom lo l) (h1 : lo ≤ s.1) (h2 : s.1 < s.2) (h3 : s.2 ≤ MT) : PlainFrom lo (ins s l) := by
  induction l generalizing lo s with
  | nil => exact ⟨h1, h2, h3, trivial⟩
  | cons x r ih =>
    obtain ⟨k1, k2, k3, k4⟩ := h
    unfold ins
    split
    · exact ⟨h1, h2, h3, by omega, k2, k3, k4⟩
    · split
      · exact ⟨k1, k2, k3, ih k4 (by omega) h2 h3⟩
      · exact ih (k4.mono (by omega)) (by show lo ≤ min s.1 x.1; omega) (by show min s.1 x.1 < max s.2 x.2; omega) (by show max s.2 x.2 ≤ MT; omega)

theorem ins_has {l : List S} {s : S} (h : ∀ x ∈ l, x.1 < x.2) (h2 : s.1 < s.2) (t : Int) : hasB (ins s l) t = (inB s t || hasB l t) := by
  induction l generalizing s with
  | nil => rw [ins, hasB_cons]
  | cons x r ih =>
    unfold ins
    have hx := h x (by simp)
    have hr : ∀ x ∈ r, x.1 < x.2 := fun y hy => h y (by simp [hy])
    split
    · rw [hasB_cons]
    · split
      · rw [hasB_cons, ih hr h2, hasB_cons]
        cases inB s t <;> cases inB x t <;> simp
      · rw [ih hr (by show min s.1 x.1 < max s.2 x.2; omega), hasB_cons, ← Bool.or_assoc]
        congr 1
        rw [Bool.eq_iff_iff, Bool.or_eq_true, inB_iff, inB_iff, inB_iff]
        show min s.1 x.1 ≤ t ∧ t < max s.2 x.2 ↔ _
        omega

theorem PlainFrom.ne {lo : Int} {l : List S} (h : PlainFrom lo l) : ∀ x ∈ l, x.1 < x.2 := by
  induction l generalizing lo with
  | nil => simp
  | cons s r ih =>
    intro x hx
    rcases List.mem_cons.1 hx with rfl | hx
    · exact h.2.1
    · exact ih h.2.2.2 x hx

theorem PlainFrom.bd {lo : Int} {l : List S} (h : PlainFrom lo l) : ∀ x ∈ l, lo ≤ x.1 ∧ x.1 < x.2 ∧ x.2 ≤ MT := by
  induction l generalizing lo with
  | nil => simp
  | cons s r ih =>
    obtain ⟨h1, h2, h3, h4⟩ := h
    intro x hx
    rcases List.mem_cons.1 hx with rfl | hx
    · exact ⟨h1, h2, h3⟩
    · have := ih h4 x hx; omega

def clip (s : S) : S := (max s.1 0, min s.2 MT)
def some_ (l : List S) : List S := (l.map clip).filter fun s => decide (s.1 < s.2)
def norm (l : List S) : List S := (some_ l).foldr ins []

theorem some_bd (l : List S) : ∀ s ∈ some_ l, 0 ≤ s.1 ∧ s.1 < s.2 ∧ s.2 ≤ MT := by
  intro s hs
  simp only [some_, List.mem_filter, List.mem_map, decide_eq_true_eq] at hs
  obtain ⟨⟨x, _, rfl⟩, h2⟩ := hs
  simp only [clip] at h2 ⊢
  omega

def okT (t : Int) : Bool := decide (0 ≤ t) && decide (t < MT)
theorem okT_iff {t : Int} : okT t = true ↔ 0 ≤ t ∧ t < MT := by simp [okT]

theorem some_has (l : List S) (t : Int) : hasB (some_ l) t = (okT t && hasB l t) := by
  rw [Bool.eq_iff_iff, Bool.and_eq_true, okT_iff, hasB_iff, hasB_iff]
  constructor
  · rintro ⟨s, hs, h1, h2⟩
    simp only [some_, List.mem_filter, List.mem_map, decide_eq_true_eq] at hs
    obtain ⟨⟨x, hx, rfl⟩, h3⟩ := hs
    simp only [clip] at h1 h2 h3
    exact ⟨by omega, x, hx, by omega, by omega⟩
  · rintro ⟨h0, s, hs, h1, h2⟩
    refine ⟨clip s, ?_, ?_⟩
    · simp only [some_, List.mem_filter, List.mem_map, decide_eq_true_eq]
      exact ⟨⟨s, hs, rfl⟩, by simp only [clip]; omega⟩
    · simp only [clip]; omega

theorem foldr_ins_plain (l : List S) (h : ∀ s ∈ l, 0 ≤ s.1 ∧ s.1 < s.2 ∧ s.2 ≤ MT) : Plain (l.foldr ins []) := by
  induction l with
  | nil => trivial
  | cons s r ih =>
    obtain ⟨h1, h2, h3⟩ := h s (by simp)
    exact ins_plain (ih fun x hx => h x (by simp [hx])) h1 h2 h3

theorem foldr_ins_has (l : List S) (h : ∀ s ∈ l, 0 ≤ s.1 ∧ s.1 < s.2 ∧ s.2 ≤ MT) (t : Int) : hasB (l.foldr ins []) t = hasB l t := by
  induction l with
  | nil => rfl
  | cons s r ih =>
    obtain ⟨h1, h2, h3⟩ := h s (by simp)
    have hr : ∀ x ∈ r, 0 ≤ x.1 ∧ x.1 < x.2 ∧ x.2 ≤ MT := fun x hx => h x (by simp [hx])
    rw [List.foldr_cons, ins_has (PlainFrom.ne (foldr_ins_plain r hr)) h2, ih hr, hasB_cons]

theorem norm_plain (l : List S) : Plain (norm l) := foldr_ins_plain _ (some_bd l)
theorem norm_has (l : List S) (t : Int) : hasB (norm l) t = (okT t && hasB l t) := by
  rw [norm, foldr_ins_has _ (some_bd l), some_has]

theorem okT_of_plain {l : List S} (h : Plain l) {t : Int} (ht : hasB l t = true) : okT t = true := okT_iff.2 (h.has ht)

theorem norm_of_plain {l : List S} (h : Plain l) : norm l = l := by
  refine (norm_plain l).uniq h fun t => ?_
  rw [norm_has]
  cases hb : hasB l t
  · simp
  · simp [okT_of_plain h hb]

theorem norm_congr {l m : List S} (h : ∀ t, okT t = true → hasB l t = hasB m t) : norm l = norm m := by
  refine (norm_plain l).uniq (norm_plain m) fun t => ?_
  rw [norm_has, norm_has]
  cases hk : okT t
  · simp
  · simp [h t hk]

/-- A plain list is told by what it has. -/
theorem eq_norm {l m : List S} (h : Plain l) (he : ∀ t, hasB l t = (okT t && hasB m t)) : l = norm m :=
  h.uniq (norm_plain m) fun t => by rw [he, norm_has]

def and_ (a b : List S) : List S := norm ((norm a).flatMap fun s => (norm b).map fun t => (max s.1 t.1, min s.2 t.2))

theorem cross_has (a b : List S) (t : Int) : hasB (a.flatMap fun s => b.map fun t => (max s.1 t.1, min s.2 t.2)) t = (hasB a t && hasB b t) := by
  rw [Bool.eq_iff_iff, Bool.and_eq_true, hasB_iff, hasB_iff, hasB_iff]
  constructor
  · rintro ⟨s, hs, h1, h2⟩
    simp only [List.mem_flatMap, List.mem_map] at hs
    obtain ⟨x, hx, y, hy, rfl⟩ := hs
    simp only at h1 h2
    exact ⟨⟨x, hx, by omega, by omega⟩, ⟨y, hy, by omega, by omega⟩⟩
  · rintro ⟨⟨x, hx, h1, h2⟩, ⟨y, hy, h3, h4⟩⟩
    exact ⟨(max x.1 y.1, min x.2 y.2), List.mem_flatMap.2 ⟨x, hx, List.mem_map.2 ⟨y, hy, rfl⟩⟩, by simp only; omega, by simp only; omega⟩

theorem and_plain (a b : List S) : Plain (and_ a b) := norm_plain _
theorem and_has (a b : List S) (t : Int) : hasB (and_ a b) t = (okT t && (hasB a t && hasB b t)) := by
  rw [and_, norm_has, cross_has, norm_has, norm_has]
  cases okT t <;> simp

/-- What plain spans do not have, from a place on. -/
def othersFrom (from_ : Int) : List S → List S
  | [] => if from_ < MT then [(from_, MT)] else []
  | s :: r => if from_ < s.1 then (from_, s.1) :: othersFrom s.2 r else othersFrom s.2 r

theorem othersFrom_has {from_ lo : Int} {l : List S} (h : PlainFrom lo l) (hl : from_ ≤ lo) (t : Int) :
    hasB (othersFrom from_ l) t = (decide (from_ ≤ t) && decide (t < MT) && !hasB l t) := by
  induction l generalizing from_ lo with
  | nil =>
    unfold othersFrom
    split
    · simp [hasB, inB]
    · rw [Bool.eq_iff_iff]; simp [hasB]; omega
  | cons s r ih =>
    obtain ⟨h1, h2, h3, h4⟩ := h
    have hr := ih h4 (from_ := s.2) (by omega)
    have hn : t ≤ s.2 → hasB r t = false := fun ht => h4.not_has (by omega)
    unfold othersFrom
    rw [hasB_cons]
    split
    · rw [hasB_cons, hr, Bool.eq_iff_iff]
      by_cases ht : t ≤ s.2
      · rw [hn ht]; simp [inB]; omega
      · simp [inB]; cases hasB r t <;> simp <;> omega
    · rw [hr, Bool.eq_iff_iff]
      by_cases ht : t ≤ s.2
      · rw [hn ht]; simp [inB]; omega
      · simp [inB]; cases hasB r t <;> simp <;> omega

def minus (a b : List S) : List S := and_ a (othersFrom 0 (norm b))

theorem minus_plain (a b : List S) : Plain (minus a b) := and_plain _ _
theorem minus_has (a b : List S) (t : Int) : hasB (minus a b) t = (okT t && (hasB a t && !hasB b t)) := by
  rw [minus, and_has, othersFrom_has (norm_plain b) (Int.le_refl 0), norm_has, ← okT]
  cases okT t <;> simp

def sumLen (l : List S) : Int := (l.map fun s => s.2 - s.1).sum
def size (l : List S) : Int := sumLen (norm l)
def has (l : List S) (t : Int) : Bool := hasB (norm l) t

/-- How many numbers from 0 up to n are so. -/
def cnt (p : Int → Bool) : Nat → Nat
  | 0 => 0
  | n + 1 => cnt p n + (p n).toNat

theorem cnt_congr {p q : Int → Bool} {n : Nat} (h : ∀ t : Int, 0 ≤ t → t < n → p t = q t) : cnt p n = cnt q n := by
  induction n with
  | zero => rfl
  | succ n ih => rw [cnt, cnt, ih (fun t h0 h1 => h t h0 (by omega)), h n (by omega) (by omega)]

theorem cnt_le (p : Int → Bool) (n : Nat) : cnt p n ≤ n := by
  induction n with
  | zero => simp [cnt]
  | succ n ih => rw [cnt]; have := Bool.toNat_le (p n); omega

theorem cnt_mono (p : Int → Bool) {n m : Nat} (h : n ≤ m) : cnt p n ≤ cnt p m := by
  induction m with
  | zero => have : n = 0 := by omega
            subst this; exact Nat.le_refl _
  | succ m ih =>
    by_cases e : n = m + 1
    · subst e; exact Nat.le_refl _
    · rw [cnt]; have := ih (by omega); omega

theorem cnt_add (p q : Int → Bool) (n : Nat) : cnt (fun t => p t && q t) n + cnt (fun t => p t && !q t) n = cnt p n := by
  induction n with
  | zero => rfl
  | succ n ih => simp only [cnt]; generalize p n = x; generalize q n = y; cases x <;> cases y <;> simp <;> omega

theorem cnt_or (p q : Int → Bool) (n : Nat) (h : ∀ t, (p t && q t) = false) : cnt (fun t => p t || q t) n = cnt p n + cnt q n := by
  induction n with
  | zero => rfl
  | succ n ih =>
    simp only [cnt]
    have := h n
    revert this; generalize p n = x; generalize q n = y
    cases x <;> cases y <;> simp <;> omega

theorem cnt_imp {p q : Int → Bool} {n : Nat} (h : ∀ t, p t = true → q t = true) : cnt p n ≤ cnt q n := by
  induction n with
  | zero => exact Nat.le_refl _
  | succ n ih =>
    simp only [cnt]
    have := h n
    revert this; generalize p n = x; generalize q n = y
    cases x <;> cases y <;> simp <;> omega

theorem cnt_inB (s : S) (n : Nat) (h0 : 0 ≤ s.1) (h1 : s.1 ≤ s.2) : (cnt (inB s) n : Int) = max 0 (min s.2 n - s.1) := by
  induction n with
  | zero => simp only [cnt]; omega
  | succ n ih =>
    simp only [cnt]
    cases hb : inB s n
    · have hb' : ¬ (s.1 ≤ (n : Int) ∧ (n : Int) < s.2) := fun h => by rw [inB_iff.2 h] at hb; cases hb
      simp only [Bool.toNat_false]; omega
    · rw [inB_iff] at hb
      simp only [Bool.toNat_true]; omega

/-- The spans' lengths below a place are as many as there are seconds. -/
theorem plain_cnt {lo : Int} {l : List S} (h : PlainFrom lo l) (h0 : 0 ≤ lo) (n : Nat) : (cnt (hasB l) n : Int) = (l.map fun s => max 0 (min s.2 (n : Int) - s.1)).sum := by
  induction l generalizing lo with
  | nil =>
    simp only [List.map_nil, List.sum_nil]
    have : cnt (hasB []) n = 0 := by
      induction n with
      | zero => rfl
      | succ n ih => rw [cnt, ih]; simp [hasB]
    rw [this]; rfl
  | cons s r ih =>
    obtain ⟨h1, h2, h3, h4⟩ := h
    have e : cnt (hasB (s :: r)) n = cnt (fun t => inB s t || hasB r t) n := cnt_congr fun t _ _ => hasB_cons s r t
    rw [e, cnt_or]
    · rw [List.map_cons, List.sum_cons, Int.natCast_add, ih h4 (by omega), cnt_inB s n (by omega) (by omega)]
    · intro t
      cases hb : inB s t
      · rfl
      · rw [inB_iff] at hb
        rw [h4.not_has (by omega)]; rfl

theorem sumLen_cnt {l : List S} (h : Plain l) (N : Nat) (hN : (N : Int) = MT) : sumLen l = cnt (hasB l) N := by
  rw [plain_cnt h (Int.le_refl 0), sumLen]
  congr 1
  refine List.map_congr_left fun s hs => ?_
  have := PlainFrom.bd h s hs
  omega

@[irreducible] def MTn : Nat := 32054400
theorem MTn_eq : (MTn : Int) = MT := by unfold MTn; rfl

theorem size_cnt (l : List S) : size l = cnt (hasB l) MTn := by
  rw [size, sumLen_cnt (norm_plain l) MTn MTn_eq]
  congr 1
  refine cnt_congr fun t h0 h1 => ?_
  rw [norm_has, okT_iff.2 ⟨h0, by have := MTn_eq; omega⟩]; rfl

end Go.Proofs.YtnhmibfgaoealaaGreat.Sp
namespace Go.Proofs.YtnhmibfgaoealaaGreat.Sp

/-- How many seconds of plain spans are below one. -/
def upTo (p : List S) (t : Int) : Int := (p.map fun s => max 0 (min s.2 t - s.1)).sum

theorem upTo_cons (s : S) (r : List S) (t : Int) : upTo (s :: r) t = max 0 (min s.2 t - s.1) + upTo r t := by simp [upTo]
theorem upTo_nil (t : Int) : upTo [] t = 0 := rfl
theorem upTo_nonneg (p : List S) (t : Int) : 0 ≤ upTo p t := by
  induction p with
  | nil => exact Int.le_refl _
  | cons s r ih => rw [upTo_cons]; omega
theorem upTo_mono (p : List S) {t u : Int} (h : t ≤ u) : upTo p t ≤ upTo p u := by
  induction p with
  | nil => exact Int.le_refl _
  | cons s r ih => rw [upTo_cons, upTo_cons]; omega
theorem upTo_zero {lo : Int} {p : List S} (h : PlainFrom lo p) {t : Int} (ht : t ≤ lo) : upTo p t = 0 := by
  induction p generalizing lo with
  | nil => rfl
  | cons s r ih =>
    obtain ⟨h1, h2, h3, h4⟩ := h
    rw [upTo_cons, ih h4 (by omega)]; omega
theorem sumLen_cons (s : S) (r : List S) : sumLen (s :: r) = s.2 - s.1 + sumLen r := by simp [sumLen]
theorem sumLen_nonneg {lo : Int} {p : List S} (h : PlainFrom lo p) : 0 ≤ sumLen p := by
  induction p generalizing lo with
  | nil => exact Int.le_refl _
  | cons s r ih =>
    obtain ⟨h1, h2, h3, h4⟩ := h
    rw [sumLen_cons]; have := ih h4; omega
theorem upTo_le {lo : Int} {p : List S} (h : PlainFrom lo p) (t : Int) : upTo p t ≤ sumLen p := by
  induction p generalizing lo with
  | nil => exact Int.le_refl _
  | cons s r ih =>
    obtain ⟨h1, h2, h3, h4⟩ := h
    rw [sumLen_cons, upTo_cons]; have := ih h4; omega
theorem sumLen_le {lo : Int} {p : List S} (h : PlainFrom lo p) (hl : lo ≤ MT) : sumLen p ≤ MT - lo := by
  induction p generalizing lo with
  | nil => show (0 : Int) ≤ _; omega
  | cons s r ih =>
    obtain ⟨h1, h2, h3, h4⟩ := h
    rw [sumLen_cons]
    cases r with
    | nil => show s.2 - s.1 + 0 ≤ _; omega
    | cons x r =>
      have := ih h4 (by have := h4.1; have := h4.2.1; have := h4.2.2.1; omega)
      omega
theorem upTo_strict {lo : Int} {p : List S} (h : PlainFrom lo p) {t : Int} (ht : hasB p t = true) : upTo p t < sumLen p := by
  induction p generalizing lo with
  | nil => simp [hasB] at ht
  | cons s r ih =>
    obtain ⟨h1, h2, h3, h4⟩ := h
    rw [sumLen_cons, upTo_cons]
    rw [hasB_cons, Bool.or_eq_true, inB_iff] at ht
    rcases ht with ht | ht
    · have := upTo_le h4 t; omega
    · have := ih h4 ht; omega

/-- The n least ones of plain spans. -/
def firstP : List S → Int → List S
  | [], _ => []
  | s :: r, n => if n ≤ 0 then [] else (s.1, min s.2 (s.1 + min n MT)) :: firstP r (n - (min s.2 (s.1 + min n MT) - s.1))
def first (l : List S) (n : Int) : List S := firstP (norm l) n

theorem firstP_nonpos (p : List S) {n : Int} (h : n ≤ 0) : firstP p n = [] := by
  cases p with
  | nil => rfl
  | cons s r => rw [firstP, if_pos h]

theorem firstP_plain {lo : Int} {p : List S} (h : PlainFrom lo p) (h0 : 0 ≤ lo) (n : Int) : PlainFrom lo (firstP p n) := by
  induction p generalizing lo n with
  | nil => trivial
  | cons s r ih =>
    obtain ⟨h1, h2, h3, h4⟩ := h
    unfold firstP
    split
    · trivial
    · refine ⟨h1, ?_, ?_, ?_⟩
      · show s.1 < min s.2 (s.1 + min n MT); have : (0 : Int) < MT := by decide
        omega
      · show min s.2 (s.1 + min n MT) ≤ MT; omega
      · exact (ih h4 (by omega) _).mono (by show min s.2 (s.1 + min n MT) + 1 ≤ s.2 + 1; omega)

theorem firstP_has {lo : Int} {p : List S} (h : PlainFrom lo p) (h0 : 0 ≤ lo) (n : Int) (t : Int) : hasB (firstP p n) t = (hasB p t && decide (upTo p t < n)) := by
  induction p generalizing lo n with
  | nil => rfl
  | cons s r ih =>
    obtain ⟨h1, h2, h3, h4⟩ := h
    unfold firstP
    split
    · have := upTo_nonneg (s :: r) t
      rw [decide_eq_false (by omega)]; simp [hasB]
    · rw [hasB_cons, ih h4 (by omega), hasB_cons, upTo_cons]
      have hr : hasB r t = true → s.2 + 1 ≤ t := fun k => (h4.has k).1
      have hn := upTo_nonneg r t
      have hz : t ≤ s.2 + 1 → upTo r t = 0 := fun k => upTo_zero h4 k
      have e : min s.2 (s.1 + min n MT) = min s.2 (s.1 + n) := by omega
      rw [e, Bool.eq_iff_iff]
      cases hb : hasB r t
      · simp [inB]
        constructor
        · rintro ⟨a, b⟩
          have := hz (by omega)
          omega
        · rintro ⟨⟨a, b⟩, c⟩
          omega
      · have := hr hb
        simp [inB]
        omega

theorem sumLen_firstP {lo : Int} {p : List S} (h : PlainFrom lo p) (h0 : 0 ≤ lo) (n : Int) : sumLen (firstP p n) = max 0 (min n (sumLen p)) := by
  induction p generalizing lo n with
  | nil => show (0 : Int) = max 0 (min n 0); omega
  | cons s r ih =>
    obtain ⟨h1, h2, h3, h4⟩ := h
    have hs := sumLen_nonneg h4
    unfold firstP
    split
    · rw [sumLen_cons]; show (0 : Int) = _; omega
    · rw [sumLen_cons, ih h4 (by omega), sumLen_cons]
      show min s.2 (s.1 + min n MT) - s.1 + _ = _
      omega

theorem first_plain (l : List S) (n : Int) : Plain (first l n) := firstP_plain (norm_plain l) (Int.le_refl 0) n
theorem first_has (l : List S) (n t : Int) : hasB (first l n) t = (hasB (norm l) t && decide (upTo (norm l) t < n)) := firstP_has (norm_plain l) (Int.le_refl 0) n t

theorem size_of_plain {l : List S} (h : Plain l) : size l = sumLen l := by rw [size, norm_of_plain h]
theorem size_first (l : List S) (n : Int) : size (first l n) = max 0 (min n (size l)) := by
  rw [size_of_plain (first_plain l n), first, sumLen_firstP (norm_plain l) (Int.le_refl 0), size]
theorem size_nonneg (l : List S) : 0 ≤ size l := sumLen_nonneg (norm_plain l)
theorem size_le (l : List S) : size l ≤ MT := by have := sumLen_le (norm_plain l) (by decide); rw [size]; omega

def last (l : List S) (n : Int) : List S := if n ≤ 0 then [] else minus l (first l (size l - min n MT))

theorem plain_nil : Plain [] := trivial
theorem last_plain (l : List S) (n : Int) : Plain (last l n) := by
  unfold last; split
  · exact plain_nil
  · exact minus_plain _ _
theorem last_has (l : List S) (n t : Int) : hasB (last l n) t = (hasB (norm l) t && decide (size l - n ≤ upTo (norm l) t)) := by
  have hs := size_le l
  unfold last
  split
  · cases hb : hasB (norm l) t
    · simp [hasB]
    · have := upTo_strict (norm_plain l) hb
      have e : ¬ size l - n ≤ upTo (norm l) t := by rw [size] ; omega
      simp [hasB, e]
  · rw [minus_has, first_has, ← Bool.and_assoc, ← norm_has]
    cases hb : hasB (norm l) t
    · rfl
    · have hn := upTo_nonneg (norm l) t
      rw [Bool.eq_iff_iff]; simp; omega

/-- The least number below which so many seconds are. -/
def atP : List S → Int → Int
  | [], _ => MT
  | s :: r, n => if n ≤ s.2 - s.1 then s.1 + n else atP r (n - (s.2 - s.1))
def at_ (p : List S) (n : Int) : Int := if n < 1 then 0 else atP p n

theorem atP_lt {lo : Int} {p : List S} (h : PlainFrom lo p) {n : Int} (h1 : 1 ≤ n) {t : Int} (ht : hasB p t = true) : (t < atP p n ↔ upTo p t < n) := by
  induction p generalizing lo n with
  | nil => simp [hasB] at ht
  | cons s r ih =>
    obtain ⟨k1, k2, k3, k4⟩ := h
    rw [hasB_cons, Bool.or_eq_true, inB_iff] at ht
    rw [upTo_cons]
    unfold atP
    rcases ht with ht | ht
    · rw [upTo_zero k4 (by omega)]
      split
      · omega
      · have : t < atP r (n - (s.2 - s.1)) := by
          clear ih
          have : ∀ (lo : Int) (r : List S), PlainFrom lo r → ∀ m, 1 ≤ m → lo ≤ MT → lo ≤ atP r m := by
            intro lo r
            induction r generalizing lo with
            | nil => intro _ m _ hm; exact hm
            | cons x r ih =>
              rintro ⟨a, b, c, d⟩ m hm hl
              unfold atP
              split
              · omega
              · cases r with
                | nil => exact hl
                | cons y r => have := ih _ d (m - (x.2 - x.1)) (by omega) (by have := d.1; have := d.2.1; have := d.2.2.1; omega); omega
          cases r with
          | nil => show t < MT; omega
          | cons y r => have := this _ _ k4 (n - (s.2 - s.1)) (by omega) (by have := k4.1; have := k4.2.1; have := k4.2.2.1; omega); omega
        omega
    · have h5 := (k4.has ht).1
      have hn := upTo_nonneg r t
      split
      · omega
      · rw [ih k4 (by omega) ht]; omega

theorem first_at (l : List S) (n : Int) : and_ l [(0, at_ (norm l) n)] = first l n := by
  refine (and_plain _ _).uniq (first_plain _ _) fun t => ?_
  rw [and_has, first_has, ← Bool.and_assoc, ← norm_has]
  cases hb : hasB (norm l) t
  · rfl
  · have hk := (norm_plain l).has hb
    have hn := upTo_nonneg (norm l) t
    simp only [Bool.true_and]
    rw [Bool.eq_iff_iff, hasB_iff, decide_eq_true_eq]
    unfold at_
    split
    · constructor
      · rintro ⟨s, hs, a, b⟩
        simp at hs; subst hs; simp at a b; omega
      · intro h; omega
    · rw [← atP_lt (norm_plain l) (by omega) hb]
      constructor
      · rintro ⟨s, hs, a, b⟩
        simp at hs; subst hs; exact b
      · intro h; exact ⟨_, List.mem_singleton.2 rfl, hk.1, h⟩

theorem last_at (l : List S) (n : Int) (_h1 : 1 ≤ n) (h2 : n < size l) : minus l [(0, at_ (norm l) (size l - n))] = last l n := by
  refine (minus_plain _ _).uniq (last_plain _ _) fun t => ?_
  rw [minus_has, last_has, ← Bool.and_assoc, ← norm_has]
  cases hb : hasB (norm l) t
  · rfl
  · have hk := (norm_plain l).has hb
    simp only [Bool.true_and]
    have e : hasB [(0, at_ (norm l) (size l - n))] t = decide (t < at_ (norm l) (size l - n)) := by
      simp [hasB, inB, hk.1]
    rw [e, at_, if_neg (by omega), ← decide_not]
    have := atP_lt (norm_plain l) (n := size l - n) (by omega) hb
    rw [Bool.eq_iff_iff, decide_eq_true_eq, decide_eq_true_eq]; omega

theorem last_all (l : List S) (n : Int) (h2 : size l ≤ n) (_h1 : 1 ≤ n) : norm l = last l n := by
  refine (norm_plain _).uniq (last_plain _ _) fun t => ?_
  rw [last_has]
  have hn := upTo_nonneg (norm l) t
  rw [decide_eq_true (by omega), Bool.and_true]

end Go.Proofs.YtnhmibfgaoealaaGreat.Sp
namespace Go.Proofs.YtnhmibfgaoealaaGreat.Sp

theorem plainFrom_snoc {lo : Int} {o : List S} {x : S} : PlainFrom lo (o ++ [x]) ↔ PlainFrom lo o ∧ lo ≤ x.1 ∧ x.1 < x.2 ∧ x.2 ≤ MT ∧ ∀ y ∈ o, y.2 + 1 ≤ x.1 := by
  induction o generalizing lo with
  | nil => simp [PlainFrom]
  | cons s r ih =>
    simp only [List.cons_append, PlainFrom, ih, List.mem_cons]
    constructor
    · rintro ⟨a, b, c, d, e, f, g, h⟩
      refine ⟨⟨a, b, c, d⟩, by omega, f, g, fun y hy => ?_⟩
      rcases hy with rfl | hy
      · omega
      · exact h y hy
    · rintro ⟨⟨a, b, c, d⟩, e, f, g, h⟩
      exact ⟨a, b, c, d, h s (.inl rfl), f, g, fun y hy => h y (.inr hy)⟩

/-- One span joined to those that are there: the last of them may grow. -/
def stepM (out : List S) (s : S) : List S :=
  match out.getLast? with
  | some x => if s.1 ≤ x.2 then out.dropLast ++ [(x.1, max x.2 s.2)] else out ++ [s]
  | none => out ++ [s]

theorem stepM_nil (s : S) : stepM [] s = [s] := rfl
theorem stepM_snoc (o : List S) (x s : S) : stepM (o ++ [x]) s = if s.1 ≤ x.2 then o ++ [(x.1, max x.2 s.2)] else o ++ [x] ++ [s] := by simp [stepM]

theorem stepM_step {out : List S} {s : S} (h : Plain out) (h0 : 0 ≤ s.1) (h1 : s.1 < s.2) (h2 : s.2 ≤ MT) (hl : ∀ x ∈ out, x.1 ≤ s.1) :
    Plain (stepM out s) ∧ (∀ t, hasB (stepM out s) t = (hasB out t || inB s t)) ∧ ∀ y : Int, s.1 ≤ y → ∀ x ∈ stepM out s, x.1 ≤ y := by
  rcases List.eq_nil_or_concat out with rfl | ⟨o, x, rfl⟩
  · refine ⟨⟨h0, h1, h2, trivial⟩, fun t => by simp [stepM_nil, hasB], fun y hy x hx => ?_⟩
    simp [stepM_nil] at hx; subst hx; exact hy
  · simp only [List.concat_eq_append] at *
    obtain ⟨a, b, c, d, e⟩ := plainFrom_snoc.1 h
    have hx := hl x (by simp)
    rw [stepM_snoc]
    by_cases hs : s.1 ≤ x.2
    · simp only [hs, if_pos]
      refine ⟨plainFrom_snoc.2 ⟨a, b, by show x.1 < max x.2 s.2; omega, by show max x.2 s.2 ≤ MT; omega, e⟩, fun t => ?_, fun y hy z hz => ?_⟩
      · rw [hasB_append, hasB_append, Bool.or_assoc]
        congr 1
        rw [Bool.eq_iff_iff, Bool.or_eq_true]
        simp only [hasB_cons, hasB_nil, Bool.or_false, inB_iff]
        omega
      · rcases List.mem_append.1 hz with hz | hz
        · have := hl z (by simp [hz]); omega
        · simp at hz; subst hz; show x.1 ≤ y; omega
    · simp only [hs, if_false]
      refine ⟨plainFrom_snoc.2 ⟨h, h0, h1, h2, fun y hy => ?_⟩, fun t => ?_, fun y hy z hz => ?_⟩
      · rcases List.mem_append.1 hy with hy | hy
        · have := e y hy; omega
        · simp at hy; subst hy; omega
      · rw [hasB_append]; simp [hasB]
      · rcases List.mem_append.1 hz with hz | hz
        · have := hl z hz; omega
        · simp at hz; subst hz; exact hy

theorem foldM {m : List S} : ∀ {out : List S}, Plain out → (∀ s ∈ m, 0 ≤ s.1 ∧ s.1 < s.2 ∧ s.2 ≤ MT) → (∀ x ∈ out, ∀ s ∈ m, x.1 ≤ s.1) → m.Pairwise (fun a b => a.1 ≤ b.1) →
    Plain (m.foldl stepM out) ∧ ∀ t, hasB (m.foldl stepM out) t = (hasB out t || hasB m t) := by
  induction m with
  | nil => intro out h _ _ _; exact ⟨h, fun t => by simp [hasB]⟩
  | cons s r ih =>
    intro out h hb hl hp
    obtain ⟨h0, h1, h2⟩ := hb s (by simp)
    obtain ⟨k1, k2, k3⟩ := stepM_step h h0 h1 h2 (fun x hx => hl x hx s (by simp))
    obtain ⟨p1, p2⟩ := List.pairwise_cons.1 hp
    obtain ⟨q1, q2⟩ := ih k1 (fun x hx => hb x (by simp [hx])) (fun x hx y hy => k3 _ (p1 y hy) x hx) p2
    refine ⟨q1, fun t => ?_⟩
    rw [List.foldl_cons, q2, k2, hasB_cons, Bool.or_assoc]

theorem hasB_perm {l m : List S} (h : l.Perm m) (t : Int) : hasB l t = hasB m t := by
  rw [Bool.eq_iff_iff, hasB_iff, hasB_iff]
  simp only [h.mem_iff]

theorem merge_norm {l m : List S} (hp : m.Perm (some_ l)) (hs : m.Pairwise fun a b => a.1 ≤ b.1) : m.foldl stepM [] = norm l := by
  obtain ⟨h1, h2⟩ := foldM (m := m) (out := []) plain_nil (fun s hs => some_bd l s (hp.mem_iff.1 hs)) (by simp) hs
  refine eq_norm h1 fun t => ?_
  rw [h2, hasB_perm hp, some_has]; simp [hasB]

theorem stepM_length (out : List S) (s : S) : (stepM out s).length ≤ out.length + 1 := by
  rcases List.eq_nil_or_concat out with rfl | ⟨o, x, rfl⟩
  · simp [stepM_nil]
  · rw [List.concat_eq_append, stepM_snoc]; split <;> simp
theorem foldM_length (m out : List S) : (m.foldl stepM out).length ≤ out.length + m.length := by
  induction m generalizing out with
  | nil => simp
  | cons s r ih => rw [List.foldl_cons]; have := ih (stepM out s); have := stepM_length out s; simp; omega
theorem ins_length (s : S) (l : List S) : (ins s l).length ≤ l.length + 1 := by
  induction l generalizing s with
  | nil => simp [ins]
  | cons x r ih =>
    unfold ins
    split
    · simp
    · split
      · have := ih s; simp; omega
      · have := ih (min s.1 x.1, max s.2 x.2); simp; omega
theorem foldr_ins_length (l : List S) : (l.foldr ins []).length ≤ l.length := by
  induction l with
  | nil => simp
  | cons s r ih => rw [List.foldr_cons]; have := ins_length s (r.foldr ins []); simp; omega
theorem some_length (l : List S) : (some_ l).length ≤ l.length := Nat.le_trans (List.length_filter_le _ _) (by simp)
theorem norm_length (l : List S) : (norm l).length ≤ l.length := Nat.le_trans (foldr_ins_length _) (some_length l)
theorem some_snoc (l : List S) (s : S) : some_ (l ++ [s]) = some_ l ++ if (clip s).1 < (clip s).2 then [clip s] else [] := by
  simp only [some_, List.map_append, List.filter_append, List.map_cons, List.map_nil]
  congr 1
  split <;> simp_all

/-- A plain list is no longer than where it begins to be. -/
theorem plain_len {lo : Int} {l : List S} (h : PlainFrom lo l) (h0 : 0 ≤ lo) (n : Nat) (hn : MT ≤ n) : l.length = cnt (fun t => hasB l t && !hasB l (t - 1)) n := by
  induction l generalizing lo with
  | nil =>
    have : ∀ m, cnt (fun t => hasB [] t && !hasB [] (t - 1)) m = 0 := by
      intro m; induction m with
      | zero => rfl
      | succ m ih => rw [cnt, ih]; rfl
    rw [this]; rfl
  | cons s r ih =>
    obtain ⟨h1, h2, h3, h4⟩ := h
    have e : cnt (fun t => hasB (s :: r) t && !hasB (s :: r) (t - 1)) n = cnt (fun t => (inB (s.1, s.1 + 1) t) || (hasB r t && !hasB r (t - 1))) n := by
      refine cnt_congr fun t _ _ => ?_
      rw [hasB_cons, hasB_cons]
      have a1 : t ≤ s.2 → hasB r t = false := fun k => h4.not_has (by omega)
      have a2 : t ≤ s.2 + 1 → hasB r (t - 1) = false := fun k => h4.not_has (by omega)
      by_cases ht : t ≤ s.2
      · rw [a1 ht, a2 (by omega), Bool.eq_iff_iff]; simp [inB]; omega
      · have b1 : inB s t = false := by
          cases hb : inB s t
          · rfl
          · rw [inB_iff] at hb; omega
        have b2 : inB s (t - 1) = false := by
          cases hb : inB s (t - 1)
          · rfl
          · rw [inB_iff] at hb; omega
        have b3 : inB (s.1, s.1 + 1) t = false := by
          cases hb : inB (s.1, s.1 + 1) t
          · rfl
          · rw [inB_iff] at hb; simp at hb; omega
        rw [b1, b2, b3]; simp
    rw [e, cnt_or]
    · have := cnt_inB (s.1, s.1 + 1) n (by show 0 ≤ s.1; omega) (by show s.1 ≤ s.1 + 1; omega)
      have h5 : s.1 + 1 ≤ n := by omega
      rw [← ih h4 (by omega), List.length_cons]
      simp only at this
      omega
    · intro t
      cases hb : inB (s.1, s.1 + 1) t
      · rfl
      · rw [inB_iff] at hb; simp at hb
        rw [h4.not_has (by omega)]; rfl

theorem cnt_or_le (p q : Int → Bool) (n : Nat) : cnt (fun t => p t || q t) n ≤ cnt p n + cnt q n := by
  induction n with
  | zero => simp [cnt]
  | succ n ih =>
    simp only [cnt]
    generalize p n = x; generalize q n = y
    cases x <;> cases y <;> simp <;> omega

theorem MTn_le : MT ≤ (MTn : Int) := by rw [MTn_eq]; exact Int.le_refl _

/-- What is made of two sets, second by second, has no more spans than both. -/
theorem len_two {l a b : List S} (hl : Plain l) (ha : Plain a) (hb : Plain b) (h : ∀ t, hasB l t = true → hasB l (t - 1) = false → (hasB a t = true ∧ hasB a (t - 1) = false) ∨ (hasB b t = true ∧ hasB b (t - 1) = false)) : l.length ≤ a.length + b.length := by
  rw [plain_len hl (Int.le_refl 0) MTn MTn_le, plain_len ha (Int.le_refl 0) MTn MTn_le, plain_len hb (Int.le_refl 0) MTn MTn_le]
  refine Nat.le_trans (cnt_imp fun t ht => ?_) (cnt_or_le _ _ MTn)
  simp only [Bool.and_eq_true, Bool.not_eq_true', Bool.or_eq_true] at ht ⊢
  exact h t ht.1 ht.2

theorem and_length (a b : List S) : (and_ a b).length ≤ (norm a).length + (norm b).length := by
  refine len_two (and_plain a b) (norm_plain a) (norm_plain b) fun t h1 h2 => ?_
  rw [and_has] at h1 h2
  rw [norm_has, norm_has, norm_has, norm_has]
  revert h1 h2
  generalize okT t = x; generalize okT (t - 1) = x'; generalize hasB a t = y; generalize hasB b t = z; generalize hasB a (t - 1) = y'; generalize hasB b (t - 1) = z'
  cases x <;> cases x' <;> cases y <;> cases z <;> cases y' <;> cases z' <;> simp

end Go.Proofs.YtnhmibfgaoealaaGreat.Sp
