/-
  A stable sort: plain theory.
-/
import Derived.Test.YtmbjbbflhlndcaaKy2
namespace Go.Proofs.Ytmbjbbflhlndcaa
set_option linter.unusedVariables false
set_option linter.unusedSimpArgs false

namespace Stb
section
variable {α : Type} {lt : α → α → Bool}
/-- A strict weak order. -/
structure Ord (lt : α → α → Bool) : Prop where
  irr : ∀ x, lt x x = false
  ntr : ∀ x y z, lt x y = false → lt y z = false → lt x z = false
  asy : ∀ x y, lt x y = true → lt y x = false
def Sorted (lt : α → α → Bool) (l : List α) : Prop := l.Pairwise fun x y => lt y x = false
def eqv (lt : α → α → Bool) (x y : α) : Bool := !lt x y && !lt y x
/-- Each class in the same order. -/
def Stab (lt : α → α → Bool) (L T : List α) : Prop := ∀ x, L.filter (eqv lt x) = T.filter (eqv lt x)
theorem Stab.refl (L : List α) : Stab lt L L := fun _ => rfl
theorem Stab.trans {A B C : List α} (h : Stab lt A B) (k : Stab lt B C) : Stab lt A C := fun x => (h x).trans (k x)
theorem Stab.symm {A B : List α} (h : Stab lt A B) : Stab lt B A := fun x => (h x).symm
theorem Stab.app {A A' B B' : List α} (h : Stab lt A A') (k : Stab lt B B') : Stab lt (A ++ B) (A' ++ B') := fun x => by rw [List.filter_append, List.filter_append, h x, k x]
theorem eqv_self (o : Ord lt) (x : α) : eqv lt x x = true := by unfold eqv; rw [o.irr]; rfl
theorem Stab.mem (o : Ord lt) {L T : List α} (h : Stab lt L T) {x : α} : x ∈ L ↔ x ∈ T := by
  have k := h x
  have a : ∀ M : List α, x ∈ M ↔ x ∈ M.filter (eqv lt x) := fun M => by rw [List.mem_filter]; simp [eqv_self o]
  rw [a L, a T, k]
theorem eqv_far (o : Ord lt) {x y z : α} (h : lt y z = true) : ¬ (eqv lt x y = true ∧ eqv lt x z = true) := by
  rintro ⟨h1, h2⟩
  unfold eqv at h1 h2
  simp only [Bool.and_eq_true, Bool.not_eq_true'] at h1 h2
  have := o.ntr y x z h1.2 h2.1
  rw [h] at this; cases this
theorem stab_swap (o : Ord lt) {U V : List α} (h : ∀ x ∈ U, ∀ y ∈ V, lt y x = true) : Stab lt (U ++ V) (V ++ U) := fun x => by
  rw [List.filter_append, List.filter_append]
  by_cases hu : U.filter (eqv lt x) = []
  · rw [hu, List.nil_append, List.append_nil]
  · have hv : V.filter (eqv lt x) = [] := by
      rw [List.filter_eq_nil_iff]
      intro y hy hxy
      obtain ⟨u, hu2⟩ := List.exists_mem_of_ne_nil _ hu
      rw [List.mem_filter] at hu2
      exact eqv_far o (h u hu2.1 y hy) ⟨hxy, hu2.2⟩
    rw [hv, List.nil_append, List.append_nil]
theorem sorted_app {A B : List α} : Sorted lt (A ++ B) ↔ Sorted lt A ∧ Sorted lt B ∧ ∀ x ∈ A, ∀ y ∈ B, lt y x = false := List.pairwise_append
/-- There is one such list. -/
theorem unique (o : Ord lt) {S T : List α} (hS : Sorted lt S) (hT : Sorted lt T) (h : Stab lt S T) : S = T := by
  induction S generalizing T with
  | nil =>
    cases T with
    | nil => rfl
    | cons t T => have := (h.mem o (x := t)).2 (by simp); cases this
  | cons s S ih =>
    cases T with
    | nil => have := (h.mem o (x := s)).1 (by simp); cases this
    | cons t T =>
      have hS' := List.pairwise_cons.1 hS
      have hT' := List.pairwise_cons.1 hT
      have h1 : lt t s = false := by
        rcases List.mem_cons.1 ((h.mem o (x := t)).2 (by simp)) with e | e
        · rw [e]; exact o.irr s
        · exact hS'.1 t e
      have h2 : lt s t = false := by
        rcases List.mem_cons.1 ((h.mem o (x := s)).1 (by simp)) with e | e
        · rw [e]; exact o.irr t
        · exact hT'.1 s e
      have hst : s = t := by
        have k := h s
        rw [List.filter_cons_of_pos (eqv_self o s), List.filter_cons_of_pos (by unfold eqv; rw [h1, h2]; rfl)] at k
        injection k
      subst hst
      rw [ih hS'.2 hT'.2 fun x => by
        have k := h x
        by_cases e : eqv lt x s = true
        · rw [List.filter_cons_of_pos e, List.filter_cons_of_pos e] at k
          injection k
        · rw [List.filter_cons_of_neg e, List.filter_cons_of_neg e] at k
          exact k]
/-- What a call of the merge makes. -/
theorem merge_step (o : Ord lt) {U1 U2 V1 V2 T1 T2 : List α} (hU : Sorted lt (U1 ++ U2)) (hV : Sorted lt (V1 ++ V2)) (h1 : ∀ x ∈ U1, ∀ y ∈ V2, lt y x = false) (h2 : ∀ x ∈ U2, ∀ y ∈ V1, lt y x = true)
    (s1 : Sorted lt T1) (q1 : Stab lt (U1 ++ V1) T1) (s2 : Sorted lt T2) (q2 : Stab lt (U2 ++ V2) T2) : Sorted lt (T1 ++ T2) ∧ Stab lt ((U1 ++ U2) ++ (V1 ++ V2)) (T1 ++ T2) := by
  obtain ⟨_, _, hUU⟩ := sorted_app.1 hU
  obtain ⟨_, _, hVV⟩ := sorted_app.1 hV
  refine ⟨sorted_app.2 ⟨s1, s2, fun x hx y hy => ?_⟩, ?_⟩
  · rcases List.mem_append.1 ((q1.mem o).2 hx) with hx | hx <;> rcases List.mem_append.1 ((q2.mem o).2 hy) with hy | hy
    · exact hUU x hx y hy
    · exact h1 x hx y hy
    · exact o.asy _ _ (h2 y hy x hx)
    · exact hVV x hx y hy
  · have e1 : (U1 ++ U2) ++ (V1 ++ V2) = U1 ++ ((U2 ++ V1) ++ V2) := by simp
    have e2 : (U1 ++ V1) ++ (U2 ++ V2) = U1 ++ ((V1 ++ U2) ++ V2) := by simp
    rw [e1]
    refine Stab.trans ((Stab.refl U1).app ((stab_swap o h2).app (Stab.refl V2))) ?_
    rw [← e2]
    exact q1.app q2
end
end Stb
theorem ordE : Stb.Ord lessE where
  irr x := by unfold lessE; simp
  ntr x y z h1 h2 := by unfold lessE at *; simp only [decide_eq_false_iff_not] at *; omega
  asy x y h := by unfold lessE at *; simp only [decide_eq_false_iff_not, decide_eq_true_iff] at *; omega
end Go.Proofs.Ytmbjbbflhlndcaa
