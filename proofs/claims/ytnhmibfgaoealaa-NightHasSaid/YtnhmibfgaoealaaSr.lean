/-
  Plain theory of sets of seconds, third part: spans that rise, joined one by one.
-/
import Derived.Test.YtnhmibfgaoealaaSq
namespace Go.Proofs.Ytnhmibfgaoealaa.Sp

theorem plainFrom_snoc {lo : Int} {o : List S} {x : S} : PlainFrom lo (o ++ [x]) ↔ PlainFrom lo o ∧ lo ≤ x.1 ∧ x.1 < x.2 ∧ x.2 ≤ MT ∧ ∀ y ∈ o, y.2 + 1 ≤ x.1 := by
  induction o generalizing lo with
  | nil => simp [PlainFrom]
  | cons s r ih =>
    simp only [List.cons_append, PlainFrom, ih, List.mem_cons]
    constructor
    · rintro ⟨a, b, c, d, e, f, g, h⟩
      refine ⟨⟨a, b, c, d⟩, by omega, f, g, fun y hy => ?_⟩
      rcases hy with rfl | hy
      · omega
      · exact h y hy
    · rintro ⟨⟨a, b, c, d⟩, e, f, g, h⟩
      exact ⟨a, b, c, d, h s (.inl rfl), f, g, fun y hy => h y (.inr hy)⟩

/-- One span joined to those that are there: the last of them may grow. -/
def stepM (out : List S) (s : S) : List S :=
  match out.getLast? with
  | some x => if s.1 ≤ x.2 then out.dropLast ++ [(x.1, max x.2 s.2)] else out ++ [s]
  | none => out ++ [s]

theorem stepM_nil (s : S) : stepM [] s = [s] := rfl
theorem stepM_snoc (o : List S) (x s : S) : stepM (o ++ [x]) s = if s.1 ≤ x.2 then o ++ [(x.1, max x.2 s.2)] else o ++ [x] ++ [s] := by simp [stepM]

theorem stepM_step {out : List S} {s : S} (h : Plain out) (h0 : 0 ≤ s.1) (h1 : s.1 < s.2) (h2 : s.2 ≤ MT) (hl : ∀ x ∈ out, x.1 ≤ s.1) :
    Plain (stepM out s) ∧ (∀ t, hasB (stepM out s) t = (hasB out t || inB s t)) ∧ ∀ y : Int, s.1 ≤ y → ∀ x ∈ stepM out s, x.1 ≤ y := by
  rcases List.eq_nil_or_concat out with rfl | ⟨o, x, rfl⟩
  · refine ⟨⟨h0, h1, h2, trivial⟩, fun t => by simp [stepM_nil, hasB], fun y hy x hx => ?_⟩
    simp [stepM_nil] at hx; subst hx; exact hy
  · simp only [List.concat_eq_append] at *
    obtain ⟨a, b, c, d, e⟩ := plainFrom_snoc.1 h
    have hx := hl x (by simp)
    rw [stepM_snoc]
    by_cases hs : s.1 ≤ x.2
    · simp only [hs, if_pos]
      refine ⟨plainFrom_snoc.2 ⟨a, b, by show x.1 < max x.2 s.2; omega, by show max x.2 s.2 ≤ MT; omega, e⟩, fun t => ?_, fun y hy z hz => ?_⟩
      · rw [hasB_append, hasB_append, Bool.or_assoc]
        congr 1
        rw [Bool.eq_iff_iff, Bool.or_eq_true]
        simp only [hasB_cons, hasB_nil, Bool.or_false, inB_iff]
        omega
      · rcases List.mem_append.1 hz with hz | hz
        · have := hl z (by simp [hz]); omega
        · simp at hz; subst hz; show x.1 ≤ y; omega
    · simp only [hs, if_false]
      refine ⟨plainFrom_snoc.2 ⟨h, h0, h1, h2, fun y hy => ?_⟩, fun t => ?_, fun y hy z hz => ?_⟩
      · rcases List.mem_append.1 hy with hy | hy
        · have := e y hy; omega
        · simp at hy; subst hy; omega
      · rw [hasB_append]; simp [hasB]
      · rcases List.mem_append.1 hz with hz | hz
        · have := hl z hz; omega
        · simp at hz; subst hz; exact hy

theorem foldM {m : List S} : ∀ {out : List S}, Plain out → (∀ s ∈ m, 0 ≤ s.1 ∧ s.1 < s.2 ∧ s.2 ≤ MT) → (∀ x ∈ out, ∀ s ∈ m, x.1 ≤ s.1) → m.Pairwise (fun a b => a.1 ≤ b.1) →
    Plain (m.foldl stepM out) ∧ ∀ t, hasB (m.foldl stepM out) t = (hasB out t || hasB m t) := by
  induction m with
  | nil => intro out h _ _ _; exact ⟨h, fun t => by simp [hasB]⟩
  | cons s r ih =>
    intro out h hb hl hp
    obtain ⟨h0, h1, h2⟩ := hb s (by simp)
    obtain ⟨k1, k2, k3⟩ := stepM_step h h0 h1 h2 (fun x hx => hl x hx s (by simp))
    obtain ⟨p1, p2⟩ := List.pairwise_cons.1 hp
    obtain ⟨q1, q2⟩ := ih k1 (fun x hx => hb x (by simp [hx])) (fun x hx y hy => k3 _ (p1 y hy) x hx) p2
    refine ⟨q1, fun t => ?_⟩
    rw [List.foldl_cons, q2, k2, hasB_cons, Bool.or_assoc]

theorem hasB_perm {l m : List S} (h : l.Perm m) (t : Int) : hasB l t = hasB m t := by
  rw [Bool.eq_iff_iff, hasB_iff, hasB_iff]
  simp only [h.mem_iff]

theorem merge_norm {l m : List S} (hp : m.Perm (some_ l)) (hs : m.Pairwise fun a b => a.1 ≤ b.1) : m.foldl stepM [] = norm l := by
  obtain ⟨h1, h2⟩ := foldM (m := m) (out := []) plain_nil (fun s hs => some_bd l s (hp.mem_iff.1 hs)) (by simp) hs
  refine eq_norm h1 fun t => ?_
  rw [h2, hasB_perm hp, some_has]; simp [hasB]

theorem stepM_length (out : List S) (s : S) : (stepM out s).length ≤ out.length + 1 := by
  rcases List.eq_nil_or_concat out with rfl | ⟨o, x, rfl⟩
  · simp [stepM_nil]
  · rw [List.concat_eq_append, stepM_snoc]; split <;> simp
theorem foldM_length (m out : List S) : (m.foldl stepM out).length ≤ out.length + m.length := by
  induction m generalizing out with
  | nil => simp
  | cons s r ih => rw [List.foldl_cons]; have := ih (stepM out s); have := stepM_length out s; simp; omega
theorem ins_length (s : S) (l : List S) : (ins s l).length ≤ l.length + 1 := by
  induction l generalizing s with
  | nil => simp [ins]
  | cons x r ih =>
    unfold ins
    split
    · simp
    · split
      · have := ih s; simp; omega
      · have := ih (min s.1 x.1, max s.2 x.2); simp; omega
theorem foldr_ins_length (l : List S) : (l.foldr ins []).length ≤ l.length := by
  induction l with
  | nil => simp
  | cons s r ih => rw [List.foldr_cons]; have := ins_length s (r.foldr ins []); simp; omega
theorem some_length (l : List S) : (some_ l).length ≤ l.length := Nat.le_trans (List.length_filter_le _ _) (by simp)
theorem norm_length (l : List S) : (norm l).length ≤ l.length := Nat.le_trans (foldr_ins_length _) (some_length l)
theorem some_snoc (l : List S) (s : S) : some_ (l ++ [s]) = some_ l ++ if (clip s).1 < (clip s).2 then [clip s] else [] := by
  simp only [some_, List.map_append, List.filter_append, List.map_cons, List.map_nil]
  congr 1
  split <;> simp_all

/-- A plain list is no longer than where it begins to be. -/
theorem plain_len {lo : Int} {l : List S} (h : PlainFrom lo l) (h0 : 0 ≤ lo) (n : Nat) (hn : MT ≤ n) : l.length = cnt (fun t => hasB l t && !hasB l (t - 1)) n := by
  induction l generalizing lo with
  | nil =>
    have : ∀ m, cnt (fun t => hasB [] t && !hasB [] (t - 1)) m = 0 := by
      intro m; induction m with
      | zero => rfl
      | succ m ih => rw [cnt, ih]; rfl
    rw [this]; rfl
  | cons s r ih =>
    obtain ⟨h1, h2, h3, h4⟩ := h
    have e : cnt (fun t => hasB (s :: r) t && !hasB (s :: r) (t - 1)) n = cnt (fun t => (inB (s.1, s.1 + 1) t) || (hasB r t && !hasB r (t - 1))) n := by
      refine cnt_congr fun t _ _ => ?_
      rw [hasB_cons, hasB_cons]
      have a1 : t ≤ s.2 → hasB r t = false := fun k => h4.not_has (by omega)
      have a2 : t ≤ s.2 + 1 → hasB r (t - 1) = false := fun k => h4.not_has (by omega)
      by_cases ht : t ≤ s.2
      · rw [a1 ht, a2 (by omega), Bool.eq_iff_iff]; simp [inB]; omega
      · have b1 : inB s t = false := by
          cases hb : inB s t
          · rfl
          · rw [inB_iff] at hb; omega
        have b2 : inB s (t - 1) = false := by
          cases hb : inB s (t - 1)
          · rfl
          · rw [inB_iff] at hb; omega
        have b3 : inB (s.1, s.1 + 1) t = false := by
          cases hb : inB (s.1, s.1 + 1) t
          · rfl
          · rw [inB_iff] at hb; simp at hb; omega
        rw [b1, b2, b3]; simp
    rw [e, cnt_or]
    · have := cnt_inB (s.1, s.1 + 1) n (by show 0 ≤ s.1; omega) (by show s.1 ≤ s.1 + 1; omega)
      have h5 : s.1 + 1 ≤ n := by omega
      rw [← ih h4 (by omega), List.length_cons]
      simp only at this
      omega
    · intro t
      cases hb : inB (s.1, s.1 + 1) t
      · rfl
      · rw [inB_iff] at hb; simp at hb
        rw [h4.not_has (by omega)]; rfl

theorem cnt_or_le (p q : Int → Bool) (n : Nat) : cnt (fun t => p t || q t) n ≤ cnt p n + cnt q n := by
  induction n with
  | zero => simp [cnt]
  | succ n ih =>
    simp only [cnt]
    generalize p n = x; generalize q n = y
    cases x <;> cases y <;> simp <;> omega

theorem MTn_le : MT ≤ (MTn : Int) := by rw [MTn_eq]; exact Int.le_refl _

/-- What is made of two sets, second by second, has no more spans than both. -/
theorem len_two {l a b : List S} (hl : Plain l) (ha : Plain a) (hb : Plain b) (h : ∀ t, hasB l t = true → hasB l (t - 1) = false → (hasB a t = true ∧ hasB a (t - 1) = false) ∨ (hasB b t = true ∧ hasB b (t - 1) = false)) : l.length ≤ a.length + b.length := by
  rw [plain_len hl (Int.le_refl 0) MTn MTn_le, plain_len ha (Int.le_refl 0) MTn MTn_le, plain_len hb (Int.le_refl 0) MTn MTn_le]
  refine Nat.le_trans (cnt_imp fun t ht => ?_) (cnt_or_le _ _ MTn)
  simp only [Bool.and_eq_true, Bool.not_eq_true', Bool.or_eq_true] at ht ⊢
  exact h t ht.1 ht.2

theorem and_length (a b : List S) : (and_ a b).length ≤ (norm a).length + (norm b).length := by
  refine len_two (and_plain a b) (norm_plain a) (norm_plain b) fun t h1 h2 => ?_
  rw [and_has] at h1 h2
  rw [norm_has, norm_has, norm_has, norm_has]
  revert h1 h2
  generalize okT t = x; generalize okT (t - 1) = x'; generalize hasB a t = y; generalize hasB b t = z; generalize hasB a (t - 1) = y'; generalize hasB b (t - 1) = z'
  cases x <;> cases x' <;> cases y <;> cases z <;> cases y' <;> cases z' <;> simp

end Go.Proofs.Ytnhmibfgaoealaa.Sp
