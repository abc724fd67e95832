/-
  Plain theory: from one place where something changes to the next one.
-/
import Derived.Test.YtnhmibfgaoealaaSr
namespace Go.Proofs.Ytnhmibfgaoealaa.Sp

def aft1 (t out : Int) (s : S) : Int :=
  let o := if t < s.1 then min out s.1 else out
  if t < s.2 then min o s.2 else o
def aft (t : Int) (l : List S) : Int := l.foldl (aft1 t) MT

theorem aft1_le (t out : Int) (s : S) : aft1 t out s ≤ out := by
  unfold aft1; dsimp only; split <;> split <;> omega
theorem aft1_gt (t out : Int) (s : S) (h : t < out) : t < aft1 t out s := by
  unfold aft1; dsimp only; split <;> split <;> omega
theorem aft_le_ (t : Int) (l : List S) (o : Int) : l.foldl (aft1 t) o ≤ o := by
  induction l generalizing o with
  | nil => exact Int.le_refl _
  | cons s r ih => rw [List.foldl_cons]; have := ih (aft1 t o s); have := aft1_le t o s; omega
theorem aft_gt_ (t : Int) (l : List S) (o : Int) (h : t < o) : t < l.foldl (aft1 t) o := by
  induction l generalizing o with
  | nil => exact h
  | cons s r ih => rw [List.foldl_cons]; exact ih _ (aft1_gt t o s h)
theorem aft_le (t : Int) (l : List S) : aft t l ≤ MT := aft_le_ t l MT
theorem aft_gt (t : Int) (l : List S) (h : t < MT) : t < aft t l := aft_gt_ t l MT h
theorem aft_snoc (t : Int) (l : List S) (s : S) : aft t (l ++ [s]) = aft1 t (aft t l) s := by simp [aft, List.foldl_append]

theorem aft_same_ (t u : Int) (l : List S) (o : Int) (h1 : t ≤ u) (h2 : u < l.foldl (aft1 t) o) : hasB l u = hasB l t := by
  induction l generalizing o with
  | nil => rfl
  | cons s r ih =>
    rw [List.foldl_cons] at h2
    have h3 := aft_le_ t r (aft1 t o s)
    rw [hasB_cons, hasB_cons, ih _ h2]
    congr 1
    have h4 : u < aft1 t o s := by omega
    rw [Bool.eq_iff_iff, inB_iff, inB_iff]
    unfold aft1 at h4
    dsimp only at h4
    revert h4
    split <;> split <;> omega
theorem aft_same {t u : Int} {l : List S} (h1 : t ≤ u) (h2 : u < aft t l) : hasB l u = hasB l t := aft_same_ t u l MT h1 h2

/-- The spans of a set, up to a time. -/
def Upto (P : Int → Bool) (t : Int) (out : List S) : Prop := Plain out ∧ (∀ x ∈ out, x.2 ≤ t) ∧ ∀ u, hasB out u = (okT u && decide (u < t) && P u)

theorem upto_start (P : Int → Bool) : Upto P 0 [] := ⟨plain_nil, by simp, fun u => by
  by_cases h : 0 ≤ u
  · simp [hasB, show ¬ u < 0 by omega]
  · simp [hasB, okT, h]⟩

theorem upto_skip {P : Int → Bool} {t nx : Int} {out : List S} (h : Upto P t out) (hn : t < nx) (hP : ∀ u, t ≤ u → u < nx → P u = false) : Upto P nx out := by
  refine ⟨h.1, fun x hx => by have := h.2.1 x hx; omega, fun u => ?_⟩
  rw [h.2.2]
  by_cases h1 : u < t
  · simp [h1, show u < nx by omega]
  · by_cases h2 : u < nx
    · simp [h1, h2, hP u (by omega) h2]
    · simp [h1, h2]

theorem upto_new {P : Int → Bool} {t nx : Int} {out : List S} (h : Upto P t out) (h0 : 0 ≤ t) (hn : t < nx) (hm : nx ≤ MT) (hP : ∀ u, t ≤ u → u < nx → P u = true) (hl : ∀ x ∈ out, x.2 ≠ t) : Upto P nx (out ++ [(t, nx)]) := by
  refine ⟨plainFrom_snoc.2 ⟨h.1, h0, hn, hm, fun y hy => by have := h.2.1 y hy; have := hl y hy; show y.2 + 1 ≤ t; omega⟩, fun x hx => ?_, fun u => ?_⟩
  · rcases List.mem_append.1 hx with hx | hx
    · have := h.2.1 x hx; omega
    · simp at hx; subst hx; exact Int.le_refl _
  · rw [hasB_append, h.2.2, hasB_cons, hasB_nil, Bool.or_false]
    by_cases h1 : u < t
    · have : inB (t, nx) u = false := by simp [inB]; omega
      simp [h1, this, show u < nx by omega]
    · by_cases h2 : u < nx
      · have h3 : inB (t, nx) u = true := by rw [inB_iff]; exact ⟨by show t ≤ u; omega, h2⟩
        have h4 : okT u = true := okT_iff.2 ⟨by omega, by omega⟩
        simp [h1, h2, h3, h4, hP u (by omega) h2]
      · have : inB (t, nx) u = false := by simp [inB]; omega
        simp [h1, h2, this]

theorem upto_grow {P : Int → Bool} {t nx f : Int} {o : List S} (h : Upto P t (o ++ [(f, t)])) (h0 : 0 ≤ t) (hn : t < nx) (hm : nx ≤ MT) (hP : ∀ u, t ≤ u → u < nx → P u = true) : Upto P nx (o ++ [(f, nx)]) := by
  obtain ⟨a, b, c, d, e⟩ := plainFrom_snoc.1 h.1
  simp only at b c d e
  refine ⟨plainFrom_snoc.2 ⟨a, b, by show f < nx; omega, hm, e⟩, fun x hx => ?_, fun u => ?_⟩
  · rcases List.mem_append.1 hx with hx | hx
    · have := h.2.1 x (by simp [hx]); omega
    · simp at hx; subst hx; exact Int.le_refl _
  · have hu := h.2.2 u
    rw [hasB_append, hasB_cons, hasB_nil, Bool.or_false] at hu ⊢
    by_cases h1 : u < t
    · have : inB (f, nx) u = inB (f, t) u := by rw [Bool.eq_iff_iff, inB_iff, inB_iff]; simp only; omega
      rw [this, hu]
      simp [h1, show u < nx by omega]
    · have ho : inB (f, t) u = false := by simp [inB]; omega
      rw [ho, Bool.or_false] at hu
      rw [hu]
      by_cases h2 : u < nx
      · have h3 : inB (f, nx) u = true := by rw [inB_iff]; exact ⟨by show f ≤ u; omega, h2⟩
        have h4 : okT u = true := okT_iff.2 ⟨by omega, by omega⟩
        simp [h1, h2, h3, h4, hP u (by omega) h2]
      · have : inB (f, nx) u = false := by simp [inB]; omega
        simp [h1, h2, this]

theorem upto_end {P : Int → Bool} {t : Int} {out : List S} (h : Upto P t out) (ht : MT ≤ t) (u : Int) : hasB out u = (okT u && P u) := by
  rw [h.2.2]
  by_cases hk : okT u = true
  · have := (okT_iff.1 hk).2
    simp [show u < t by omega]
  · simp at hk; simp [hk]

theorem plain_length_le {l : List S} (h : Plain l) : l.length ≤ MTn := by
  rw [plain_len h (Int.le_refl 0) MTn MTn_le]; exact cnt_le _ _
theorem MTn_val : MTn = 32054400 := by have := MTn_eq; simp only [MT] at this; omega
end Go.Proofs.Ytnhmibfgaoealaa.Sp
