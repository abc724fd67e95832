/-
  symMerge: plain theory of its three cases.
-/
import Derived.Test.YtmbjbbflhlndcaaKz2
namespace Go.Proofs.Ytmbjbbflhlndcaa
set_option linter.unusedVariables false
set_option linter.unusedSimpArgs false

namespace Stb
section
variable {α : Type} {lt : α → α → Bool}
theorem one_left (o : Ord lt) {V1 V2 : List α} {x : α} (hs : Sorted lt (V1 ++ V2)) (h1 : ∀ y ∈ V1, lt y x = true) (h2 : ∀ y ∈ V2, lt y x = false) : Sorted lt (V1 ++ (x :: V2)) ∧ Stab lt (x :: (V1 ++ V2)) (V1 ++ (x :: V2)) := by
  obtain ⟨s1, s2, s12⟩ := sorted_app.1 hs
  constructor
  · refine sorted_app.2 ⟨s1, List.pairwise_cons.2 ⟨h2, s2⟩, fun t ht y hy => ?_⟩
    rcases List.mem_cons.1 hy with rfl | hy
    · exact o.asy _ _ (h1 t ht)
    · exact s12 t ht y hy
  · have e1 : x :: (V1 ++ V2) = ([x] ++ V1) ++ V2 := by simp
    have e2 : V1 ++ (x :: V2) = (V1 ++ [x]) ++ V2 := by simp
    rw [e1, e2]
    exact (stab_swap o fun t ht y hy => by simp at ht; subst ht; exact h1 y hy).app (Stab.refl V2)
theorem last_ge (o : Ord lt) {U : List α} (hs : Sorted lt U) {l : α} (hl : U.getLast? = some l) : ∀ x ∈ U, lt l x = false := fun x hx => by
  rcases List.eq_nil_or_concat U with rfl | ⟨A, z, rfl⟩
  · cases hx
  · simp only [List.concat_eq_append] at *
    simp at hl
    subst hl
    rcases List.mem_append.1 hx with hx | hx
    · exact (sorted_app.1 hs).2.2 x hx z (by simp)
    · simp at hx; subst hx; exact o.irr _
theorem head_le (o : Ord lt) {V : List α} (hs : Sorted lt V) {f : α} (hf : V.head? = some f) : ∀ y ∈ V, lt y f = false := fun y hy => by
  cases V with
  | nil => cases hy
  | cons z V =>
    simp at hf
    subst hf
    rcases List.mem_cons.1 hy with rfl | hy
    · exact o.irr _
    · exact (List.pairwise_cons.1 hs).1 y hy
/-- What the search for the cut finds. -/
theorem cut_one (o : Ord lt) {U1 V2 : List α} (hU : Sorted lt U1) (hV : Sorted lt V2) (h : U1 = [] ∨ V2 = [] ∨ ∃ l f, U1.getLast? = some l ∧ V2.head? = some f ∧ lt f l = false) : ∀ x ∈ U1, ∀ y ∈ V2, lt y x = false := fun x hx y hy => by
  rcases h with rfl | rfl | ⟨l, f, hl, hf, h⟩
  · cases hx
  · cases hy
  · exact o.ntr _ _ _ (o.ntr _ _ _ (head_le o hV hf y hy) h) (last_ge o hU hl x hx)
theorem cut_two (o : Ord lt) {U2 V1 : List α} (hU : Sorted lt U2) (hV : Sorted lt V1) (h : U2 = [] ∨ V1 = [] ∨ ∃ f l, U2.head? = some f ∧ V1.getLast? = some l ∧ lt l f = true) : ∀ x ∈ U2, ∀ y ∈ V1, lt y x = true := fun x hx y hy => by
  rcases h with rfl | rfl | ⟨f, l, hf, hl, h⟩
  · cases hx
  · cases hy
  · cases hc : lt y x with
    | true => rfl
    | false =>
      have := o.ntr _ _ _ (o.ntr _ _ _ (last_ge o hV hl y hy) hc) (head_le o hU hf x hx)
      rw [h] at this; cases this
end
end Stb
end Go.Proofs.Ytmbjbbflhlndcaa
