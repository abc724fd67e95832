/-
  Plain theory of sets of seconds as lists of spans. No program in sight.
-/
namespace Go.Proofs.Ytnhmibfgaoealaa.Sp

abbrev S := Int × Int

/-- The end of all time. -/
def MT : Int := 32054400

def inB (s : S) (t : Int) : Bool := decide (s.1 ≤ t) && decide (t < s.2)
def hasB (l : List S) (t : Int) : Bool := l.any fun s => inB s t

theorem inB_iff {s : S} {t : Int} : inB s t = true ↔ s.1 ≤ t ∧ t < s.2 := by simp [inB]
theorem hasB_nil (t : Int) : hasB [] t = false := rfl
theorem hasB_cons (s : S) (l : List S) (t : Int) : hasB (s :: l) t = (inB s t || hasB l t) := by simp [hasB]
theorem hasB_append (l m : List S) (t : Int) : hasB (l ++ m) t = (hasB l t || hasB m t) := by simp [hasB]
theorem hasB_iff {l : List S} {t : Int} : hasB l t = true ↔ ∃ s ∈ l, s.1 ≤ t ∧ t < s.2 := by simp [hasB, inB]

def PlainFrom (lo : Int) : List S → Prop
  | [] => True
  | s :: r => lo ≤ s.1 ∧ s.1 < s.2 ∧ s.2 ≤ MT ∧ PlainFrom (s.2 + 1) r

def Plain (l : List S) : Prop := PlainFrom 0 l

theorem PlainFrom.mono {lo lo' : Int} {l : List S} (h : PlainFrom lo l) (hl : lo' ≤ lo) : PlainFrom lo' l := by
  cases l with
  | nil => trivial
  | cons s r => exact ⟨by have := h.1; omega, h.2⟩

theorem PlainFrom.has {lo : Int} {l : List S} (h : PlainFrom lo l) {t : Int} (ht : hasB l t = true) : lo ≤ t ∧ t < MT := by
  induction l generalizing lo with
  | nil => simp [hasB] at ht
  | cons s r ih =>
    obtain ⟨h1, h2, h3, h4⟩ := h
    rw [hasB_cons, Bool.or_eq_true, inB_iff] at ht
    rcases ht with ht | ht
    · omega
    · have := ih h4 ht; omega

theorem PlainFrom.not_has {lo : Int} {l : List S} (h : PlainFrom lo l) {t : Int} (ht : t < lo) : hasB l t = false := by
  cases hb : hasB l t
  · rfl
  · have := h.has hb; omega

theorem PlainFrom.uniq {lo lo' : Int} {l l' : List S} (h : PlainFrom lo l) (h' : PlainFrom lo' l') (he : ∀ t, hasB l t = hasB l' t) : l = l' := by
  induction l generalizing lo lo' l' with
  | nil =>
    cases l' with
    | nil => rfl
    | cons s r =>
      have := he s.1
      have h2 := h'.2.1
      rw [hasB_nil, hasB_cons] at this
      have : inB s s.1 = true := by rw [inB_iff]; omega
      simp_all
  | cons s r ih =>
    cases l' with
    | nil =>
      have := he s.1
      have h2 := h.2.1
      rw [hasB_nil, hasB_cons] at this
      have : inB s s.1 = true := by rw [inB_iff]; omega
      simp_all
    | cons s' r' =>
      obtain ⟨h1, h2, h3, h4⟩ := h
      obtain ⟨k1, k2, k3, k4⟩ := h'
      have hlow : ∀ t, hasB (s :: r) t = true → s.1 ≤ t := by
        intro t ht
        exact (PlainFrom.has (lo := s.1) (l := s :: r) ⟨by omega, h2, h3, h4⟩ ht).1
      have klow : ∀ t, hasB (s' :: r') t = true → s'.1 ≤ t := by
        intro t ht
        exact (PlainFrom.has (lo := s'.1) (l := s' :: r') ⟨by omega, k2, k3, k4⟩ ht).1
      have m1 : hasB (s :: r) s.1 = true := by rw [hasB_cons, (inB_iff).2 ⟨by omega, h2⟩]; rfl
      have m2 : hasB (s' :: r') s'.1 = true := by rw [hasB_cons, (inB_iff).2 ⟨by omega, k2⟩]; rfl
      have e1 : s.1 = s'.1 := by
        have a := klow s.1 (by rw [← he]; exact m1)
        have b := hlow s'.1 (by rw [he]; exact m2)
        omega
      have n1 : hasB (s :: r) s.2 = false := by
        rw [hasB_cons, h4.not_has (by omega)]
        simp [inB]
      have n2 : hasB (s' :: r') s'.2 = false := by
        rw [hasB_cons, k4.not_has (by omega)]
        simp [inB]
      have e2 : s.2 = s'.2 := by
        by_cases hlt : s.2 < s'.2
        · have : hasB (s' :: r') s.2 = true := by rw [hasB_cons, (inB_iff).2 ⟨by omega, hlt⟩]; rfl
          rw [← he, n1] at this; simp at this
        · by_cases hgt : s'.2 < s.2
          · have : hasB (s :: r) s'.2 = true := by rw [hasB_cons, (inB_iff).2 ⟨by omega, hgt⟩]; rfl
            rw [he, n2] at this; simp at this
          · omega
      have es : s = s' := Prod.ext e1 e2
      subst es
      rw [ih h4 k4]
      intro t
      by_cases ht : t < s.2 + 1
      · rw [h4.not_has ht, k4.not_has ht]
      · have := he t
        rw [hasB_cons, hasB_cons] at this
        have hn : inB s t = false := by
          cases hb : inB s t
          · rfl
          · rw [inB_iff] at hb; omega
        simpa [hn] using this

theorem Plain.uniq {l l' : List S} (h : Plain l) (h' : Plain l') (he : ∀ t, hasB l t = hasB l' t) : l = l' := PlainFrom.uniq h h' he
theorem Plain.has {l : List S} (h : Plain l) {t : Int} (ht : hasB l t = true) : 0 ≤ t ∧ t < MT := PlainFrom.has h ht

/-- One span put in. -/
def ins (s : S) : List S → List S
  | [] => [s]
  | x :: r => if s.2 < x.1 then s :: x :: r else if x.2 < s.1 then x :: ins s r else ins (min s.1 x.1, max s.2 x.2) r

theorem ins_plain {lo : Int} {l : List S} {s : S} (h : PlainFrom lo l) (h1 : lo ≤ s.1) (h2 : s.1 < s.2) (h3 : s.2 ≤ MT) : PlainFrom lo (ins s l) := by
  induction l generalizing lo s with
  | nil => exact ⟨h1, h2, h3, trivial⟩
  | cons x r ih =>
    obtain ⟨k1, k2, k3, k4⟩ := h
    unfold ins
    split
    · exact ⟨h1, h2, h3, by omega, k2, k3, k4⟩
    · split
      · exact ⟨k1, k2, k3, ih k4 (by omega) h2 h3⟩
      · exact ih (k4.mono (by omega)) (by show lo ≤ min s.1 x.1; omega) (by show min s.1 x.1 < max s.2 x.2; omega) (by show max s.2 x.2 ≤ MT; omega)

theorem ins_has {l : List S} {s : S} (h : ∀ x ∈ l, x.1 < x.2) (h2 : s.1 < s.2) (t : Int) : hasB (ins s l) t = (inB s t || hasB l t) := by
  induction l generalizing s with
  | nil => rw [ins, hasB_cons]
  | cons x r ih =>
    unfold ins
    have hx := h x (by simp)
    have hr : ∀ x ∈ r, x.1 < x.2 := fun y hy => h y (by simp [hy])
    split
    · rw [hasB_cons]
    · split
      · rw [hasB_cons, ih hr h2, hasB_cons]
        cases inB s t <;> cases inB x t <;> simp
      · rw [ih hr (by show min s.1 x.1 < max s.2 x.2; omega), hasB_cons, ← Bool.or_assoc]
        congr 1
        rw [Bool.eq_iff_iff, Bool.or_eq_true, inB_iff, inB_iff, inB_iff]
        show min s.1 x.1 ≤ t ∧ t < max s.2 x.2 ↔ _
        omega

theorem PlainFrom.ne {lo : Int} {l : List S} (h : PlainFrom lo l) : ∀ x ∈ l, x.1 < x.2 := by
  induction l generalizing lo with
  | nil => simp
  | cons s r ih =>
    intro x hx
    rcases List.mem_cons.1 hx with rfl | hx
    · exact h.2.1
    · exact ih h.2.2.2 x hx

theorem PlainFrom.bd {lo : Int} {l : List S} (h : PlainFrom lo l) : ∀ x ∈ l, lo ≤ x.1 ∧ x.1 < x.2 ∧ x.2 ≤ MT := by
  induction l generalizing lo with
  | nil => simp
  | cons s r ih =>
    obtain ⟨h1, h2, h3, h4⟩ := h
    intro x hx
    rcases List.mem_cons.1 hx with rfl | hx
    · exact ⟨h1, h2, h3⟩
    · have := ih h4 x hx; omega

def clip (s : S) : S := (max s.1 0, min s.2 MT)
def some_ (l : List S) : List S := (l.map clip).filter fun s => decide (s.1 < s.2)
def norm (l : List S) : List S := (some_ l).foldr ins []

theorem some_bd (l : List S) : ∀ s ∈ some_ l, 0 ≤ s.1 ∧ s.1 < s.2 ∧ s.2 ≤ MT := by
  intro s hs
  simp only [some_, List.mem_filter, List.mem_map, decide_eq_true_eq] at hs
  obtain ⟨⟨x, _, rfl⟩, h2⟩ := hs
  simp only [clip] at h2 ⊢
  omega

def okT (t : Int) : Bool := decide (0 ≤ t) && decide (t < MT)
theorem okT_iff {t : Int} : okT t = true ↔ 0 ≤ t ∧ t < MT := by simp [okT]

theorem some_has (l : List S) (t : Int) : hasB (some_ l) t = (okT t && hasB l t) := by
  rw [Bool.eq_iff_iff, Bool.and_eq_true, okT_iff, hasB_iff, hasB_iff]
  constructor
  · rintro ⟨s, hs, h1, h2⟩
    simp only [some_, List.mem_filter, List.mem_map, decide_eq_true_eq] at hs
    obtain ⟨⟨x, hx, rfl⟩, h3⟩ := hs
    simp only [clip] at h1 h2 h3
    exact ⟨by omega, x, hx, by omega, by omega⟩
  · rintro ⟨h0, s, hs, h1, h2⟩
    refine ⟨clip s, ?_, ?_⟩
    · simp only [some_, List.mem_filter, List.mem_map, decide_eq_true_eq]
      exact ⟨⟨s, hs, rfl⟩, by simp only [clip]; omega⟩
    · simp only [clip]; omega

theorem foldr_ins_plain (l : List S) (h : ∀ s ∈ l, 0 ≤ s.1 ∧ s.1 < s.2 ∧ s.2 ≤ MT) : Plain (l.foldr ins []) := by
  induction l with
  | nil => trivial
  | cons s r ih =>
    obtain ⟨h1, h2, h3⟩ := h s (by simp)
    exact ins_plain (ih fun x hx => h x (by simp [hx])) h1 h2 h3

theorem foldr_ins_has (l : List S) (h : ∀ s ∈ l, 0 ≤ s.1 ∧ s.1 < s.2 ∧ s.2 ≤ MT) (t : Int) : hasB (l.foldr ins []) t = hasB l t := by
  induction l with
  | nil => rfl
  | cons s r ih =>
    obtain ⟨h1, h2, h3⟩ := h s (by simp)
    have hr : ∀ x ∈ r, 0 ≤ x.1 ∧ x.1 < x.2 ∧ x.2 ≤ MT := fun x hx => h x (by simp [hx])
    rw [List.foldr_cons, ins_has (PlainFrom.ne (foldr_ins_plain r hr)) h2, ih hr, hasB_cons]

theorem norm_plain (l : List S) : Plain (norm l) := foldr_ins_plain _ (some_bd l)
theorem norm_has (l : List S) (t : Int) : hasB (norm l) t = (okT t && hasB l t) := by
  rw [norm, foldr_ins_has _ (some_bd l), some_has]

theorem okT_of_plain {l : List S} (h : Plain l) {t : Int} (ht : hasB l t = true) : okT t = true := okT_iff.2 (h.has ht)

theorem norm_of_plain {l : List S} (h : Plain l) : norm l = l := by
  refine (norm_plain l).uniq h fun t => ?_
  rw [norm_has]
  cases hb : hasB l t
  · simp
  · simp [okT_of_plain h hb]

theorem norm_congr {l m : List S} (h : ∀ t, okT t = true → hasB l t = hasB m t) : norm l = norm m := by
  refine (norm_plain l).uniq (norm_plain m) fun t => ?_
  rw [norm_has, norm_has]
  cases hk : okT t
  · simp
  · simp [h t hk]

/-- A plain list is told by what it has. -/
theorem eq_norm {l m : List S} (h : Plain l) (he : ∀ t, hasB l t = (okT t && hasB m t)) : l = norm m :=
  h.uniq (norm_plain m) fun t => by rw [he, norm_has]

def and_ (a b : List S) : List S := norm ((norm a).flatMap fun s => (norm b).map fun t => (max s.1 t.1, min s.2 t.2))

theorem cross_has (a b : List S) (t : Int) : hasB (a.flatMap fun s => b.map fun t => (max s.1 t.1, min s.2 t.2)) t = (hasB a t && hasB b t) := by
  rw [Bool.eq_iff_iff, Bool.and_eq_true, hasB_iff, hasB_iff, hasB_iff]
  constructor
  · rintro ⟨s, hs, h1, h2⟩
    simp only [List.mem_flatMap, List.mem_map] at hs
    obtain ⟨x, hx, y, hy, rfl⟩ := hs
    simp only at h1 h2
    exact ⟨⟨x, hx, by omega, by omega⟩, ⟨y, hy, by omega, by omega⟩⟩
  · rintro ⟨⟨x, hx, h1, h2⟩, ⟨y, hy, h3, h4⟩⟩
    exact ⟨(max x.1 y.1, min x.2 y.2), List.mem_flatMap.2 ⟨x, hx, List.mem_map.2 ⟨y, hy, rfl⟩⟩, by simp only; omega, by simp only; omega⟩

theorem and_plain (a b : List S) : Plain (and_ a b) := norm_plain _
theorem and_has (a b : List S) (t : Int) : hasB (and_ a b) t = (okT t && (hasB a t && hasB b t)) := by
  rw [and_, norm_has, cross_has, norm_has, norm_has]
  cases okT t <;> simp

/-- What plain spans do not have, from a place on. -/
def othersFrom (from_ : Int) : List S → List S
  | [] => if from_ < MT then [(from_, MT)] else []
  | s :: r => if from_ < s.1 then (from_, s.1) :: othersFrom s.2 r else othersFrom s.2 r

theorem othersFrom_has {from_ lo : Int} {l : List S} (h : PlainFrom lo l) (hl : from_ ≤ lo) (t : Int) :
    hasB (othersFrom from_ l) t = (decide (from_ ≤ t) && decide (t < MT) && !hasB l t) := by
  induction l generalizing from_ lo with
  | nil =>
    unfold othersFrom
    split
    · simp [hasB, inB]
    · rw [Bool.eq_iff_iff]; simp [hasB]; omega
  | cons s r ih =>
    obtain ⟨h1, h2, h3, h4⟩ := h
    have hr := ih h4 (from_ := s.2) (by omega)
    have hn : t ≤ s.2 → hasB r t = false := fun ht => h4.not_has (by omega)
    unfold othersFrom
    rw [hasB_cons]
    split
    · rw [hasB_cons, hr, Bool.eq_iff_iff]
      by_cases ht : t ≤ s.2
      · rw [hn ht]; simp [inB]; omega
      · simp [inB]; cases hasB r t <;> simp <;> omega
    · rw [hr, Bool.eq_iff_iff]
      by_cases ht : t ≤ s.2
      · rw [hn ht]; simp [inB]; omega
      · simp [inB]; cases hasB r t <;> simp <;> omega

def minus (a b : List S) : List S := and_ a (othersFrom 0 (norm b))

theorem minus_plain (a b : List S) : Plain (minus a b) := and_plain _ _
theorem minus_has (a b : List S) (t : Int) : hasB (minus a b) t = (okT t && (hasB a t && !hasB b t)) := by
  rw [minus, and_has, othersFrom_has (norm_plain b) (Int.le_refl 0), norm_has, ← okT]
  cases okT t <;> simp

def sumLen (l : List S) : Int := (l.map fun s => s.2 - s.1).sum
def size (l : List S) : Int := sumLen (norm l)
def has (l : List S) (t : Int) : Bool := hasB (norm l) t

/-- How many numbers from 0 up to n are so. -/
def cnt (p : Int → Bool) : Nat → Nat
  | 0 => 0
  | n + 1 => cnt p n + (p n).toNat

theorem cnt_congr {p q : Int → Bool} {n : Nat} (h : ∀ t : Int, 0 ≤ t → t < n → p t = q t) : cnt p n = cnt q n := by
  induction n with
  | zero => rfl
  | succ n ih => rw [cnt, cnt, ih (fun t h0 h1 => h t h0 (by omega)), h n (by omega) (by omega)]

theorem cnt_le (p : Int → Bool) (n : Nat) : cnt p n ≤ n := by
  induction n with
  | zero => simp [cnt]
  | succ n ih => rw [cnt]; have := Bool.toNat_le (p n); omega

theorem cnt_mono (p : Int → Bool) {n m : Nat} (h : n ≤ m) : cnt p n ≤ cnt p m := by
  induction m with
  | zero => have : n = 0 := by omega
            subst this; exact Nat.le_refl _
  | succ m ih =>
    by_cases e : n = m + 1
    · subst e; exact Nat.le_refl _
    · rw [cnt]; have := ih (by omega); omega

theorem cnt_add (p q : Int → Bool) (n : Nat) : cnt (fun t => p t && q t) n + cnt (fun t => p t && !q t) n = cnt p n := by
  induction n with
  | zero => rfl
  | succ n ih => simp only [cnt]; generalize p n = x; generalize q n = y; cases x <;> cases y <;> simp <;> omega

theorem cnt_or (p q : Int → Bool) (n : Nat) (h : ∀ t, (p t && q t) = false) : cnt (fun t => p t || q t) n = cnt p n + cnt q n := by
  induction n with
  | zero => rfl
  | succ n ih =>
    simp only [cnt]
    have := h n
    revert this; generalize p n = x; generalize q n = y
    cases x <;> cases y <;> simp <;> omega

theorem cnt_imp {p q : Int → Bool} {n : Nat} (h : ∀ t, p t = true → q t = true) : cnt p n ≤ cnt q n := by
  induction n with
  | zero => exact Nat.le_refl _
  | succ n ih =>
    simp only [cnt]
    have := h n
    revert this; generalize p n = x; generalize q n = y
    cases x <;> cases y <;> simp <;> omega

theorem cnt_inB (s : S) (n : Nat) (h0 : 0 ≤ s.1) (h1 : s.1 ≤ s.2) : (cnt (inB s) n : Int) = max 0 (min s.2 n - s.1) := by
  induction n with
  | zero => simp only [cnt]; omega
  | succ n ih =>
    simp only [cnt]
    cases hb : inB s n
    · have hb' : ¬ (s.1 ≤ (n : Int) ∧ (n : Int) < s.2) := fun h => by rw [inB_iff.2 h] at hb; cases hb
      simp only [Bool.toNat_false]; omega
    · rw [inB_iff] at hb
      simp only [Bool.toNat_true]; omega

/-- The spans' lengths below a place are as many as there are seconds. -/
theorem plain_cnt {lo : Int} {l : List S} (h : PlainFrom lo l) (h0 : 0 ≤ lo) (n : Nat) : (cnt (hasB l) n : Int) = (l.map fun s => max 0 (min s.2 (n : Int) - s.1)).sum := by
  induction l generalizing lo with
  | nil =>
    simp only [List.map_nil, List.sum_nil]
    have : cnt (hasB []) n = 0 := by
      induction n with
      | zero => rfl
      | succ n ih => rw [cnt, ih]; simp [hasB]
    rw [this]; rfl
  | cons s r ih =>
    obtain ⟨h1, h2, h3, h4⟩ := h
    have e : cnt (hasB (s :: r)) n = cnt (fun t => inB s t || hasB r t) n := cnt_congr fun t _ _ => hasB_cons s r t
    rw [e, cnt_or]
    · rw [List.map_cons, List.sum_cons, Int.natCast_add, ih h4 (by omega), cnt_inB s n (by omega) (by omega)]
    · intro t
      cases hb : inB s t
      · rfl
      · rw [inB_iff] at hb
        rw [h4.not_has (by omega)]; rfl

theorem sumLen_cnt {l : List S} (h : Plain l) (N : Nat) (hN : (N : Int) = MT) : sumLen l = cnt (hasB l) N := by
  rw [plain_cnt h (Int.le_refl 0), sumLen]
  congr 1
  refine List.map_congr_left fun s hs => ?_
  have := PlainFrom.bd h s hs
  omega

@[irreducible] def MTn : Nat := 32054400
theorem MTn_eq : (MTn : Int) = MT := by unfold MTn; rfl

theorem size_cnt (l : List S) : size l = cnt (hasB l) MTn := by
  rw [size, sumLen_cnt (norm_plain l) MTn MTn_eq]
  congr 1
  refine cnt_congr fun t h0 h1 => ?_
  rw [norm_has, okT_iff.2 ⟨h0, by have := MTn_eq; omega⟩]; rfl

end Go.Proofs.Ytnhmibfgaoealaa.Sp
