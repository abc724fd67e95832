/-
  The library's sort on a row of the call's own, at elements of k cells.
-/
import Derived.Test.YtnhmibfgaoealaaGreatMb
import Derived.Shelf.SlSortCmp.WholeK
namespace Go.Proofs.YtnhmibfgaoealaaGreat
open Go.RowKit Go.Sort

section
variable {α : Type} [Inhabited α] {enc : α → List Value} {k : Nat}

theorem flatK_toArray (hk : ∀ x, (enc x).length = k) (l : List α) : flatK enc k l.toArray = (flat enc l).toArray := by
  apply Array.ext
  · simp [flat_length hk]
  · intro t h1 h2
    have ht : t < l.length * k := by simpa using h1
    have k0 : 0 < k := by
      rcases Nat.eq_zero_or_pos k with h | h
      · subst h; simp at ht
      · exact h
    have hq : t / k < l.length := by rw [Nat.div_lt_iff_lt_mul k0]; exact ht
    have hr : t % k < k := Nat.mod_lt _ k0
    have e : t = t / k * k + t % k := by rw [Nat.mul_comm]; exact (Nat.div_add_mod t k).symm
    have hf := flat_at hk l (t / k) hq (t % k) hr
    rw [← e] at hf
    have h3 := get_flatK enc k l.toArray t (by simpa using ht)
    rw [getElem!_pos (flatK enc k l.toArray) t h1] at h3
    rw [h3]
    have h4 : (flat enc l)[t]? = some ((flat enc l).toArray[t]) := by
      rw [List.getElem_toArray]; exact List.getElem?_eq_getElem (by simpa using h2)
    rw [h4] at hf
    have h5 : l.toArray[t / k]! = l[t / k] := by
      rw [getElem!_pos l.toArray (t / k) (by simpa using hq)]; simp
    rw [h5]
    have h6 : (enc l[t / k])[t % k]? = some ((enc l[t / k])[t % k]!) := by
      rw [getElem!_pos (enc l[t / k]) (t % k) (by rw [hk]; exact hr)]; exact List.getElem?_eq_getElem (by rw [hk]; exact hr)
    rw [h6] at hf
    exact (Option.some.inj hf).symm

theorem holdsK_of_block (hk : ∀ x, (enc x).length = k) {w : World} {g e : Nat} {cur : Array Value} {l : List α} (hb : w.heap[g]? = some (.cells cur e (0, 0)))
    (ht : cur.toList.take (l.length * k) = flat enc l) : HoldsK enc k w g 0 l.toArray := by
  intro j hj
  rw [flatK_toArray hk] at hj ⊢
  have hj' : j < (flat enc l).length := by simpa using hj
  refine ⟨?_, by simp [World.frozen?, hb]⟩
  have h1 : (cur.toList.take (l.length * k))[j]? = (flat enc l)[j]? := by rw [ht]
  rw [flat_length hk] at hj'
  rw [List.getElem?_take_of_lt hj'] at h1
  simp only [World.cell?, hb, Nat.zero_add]
  simp only [Option.isSome_none, Bool.false_eq_true, if_false]
  rw [← Array.getElem?_toList, h1]
  rw [getElem!_pos (flat enc l).toArray j hj]
  simp only [id, List.getElem_toArray]
  exact List.getElem?_eq_getElem _

theorem heap_sortedK {w : World} {g n off : Nat} {os : Array Obj} {cur : Array Value} {e : TypeId} {fr : Nat × Nat} (d : Array α) (hb : w.heap[g]? = some (.cells cur e fr)) :
    (sortWorldK enc k w g off n d os).heap[g]? = some (.cells (putCells id off (flatK enc k d) cur) e fr) := by
  have hg : g < w.heap.size := (Array.getElem?_eq_some_iff.1 hb).1
  unfold sortWorldK
  rw [heap_grow_old _ _ (by simpa [putRowK] using hg)]
  simp [putRowK, putRow, mapBlock, Sort.ahead, Array.getElem?_modify, hb, onCells]

theorem grownBy_sortedK {w : World} {g n off : Nat} {os : Array Obj} (d : Array α) : w.grownBy (sortWorldK enc k w g off n d os) (some g) := by
  refine ⟨rfl, rfl, rfl, by simp [sortWorldK, putRowK], fun j hj hne => ?_⟩
  unfold sortWorldK
  rw [heap_grow_old _ _ (by simpa [putRowK] using hj)]
  have : g ≠ j := fun e => hne (by rw [e])
  simp [putRowK, putRow, mapBlock, Sort.ahead, Array.getElem?_modify, this]

theorem take_putCells (cur : Array Value) (xs : List Value) (h : xs.length ≤ cur.size) : (putCells id 0 xs.toArray cur).toList.take xs.length = xs := by
  apply List.ext_getElem?
  intro j
  by_cases hj : j < xs.length
  · rw [List.getElem?_take_of_lt hj, Array.getElem?_toList]
    simp [putCells, hj, show j < cur.size by omega]
  · rw [List.getElem?_take_eq_none (by omega), List.getElem?_eq_none (by omega)]

theorem ownsRow_sortedK (hk : ∀ x, (enc x).length = k) {w : World} {base g cap n : Nat} {e : TypeId} {os : Array Obj} {cur : Array Value} {l m : List α} (hl : m.length = l.length) (hbase : base ≤ g) (hb : w.heap[g]? = some (.cells cur e (0, 0)))
    (h1 : l.length ≤ cap) (h2 : cap ≤ maxLen) (h3 : cur.size = cap * k) :
    (sortWorldK enc k w g 0 n m.toArray os).ownsRow base e k (.slice (some ⟨g, 0, none⟩) l.length cap) l.length (flat enc m) := by
  refine ⟨by rw [flat_length hk, hl], .inr ⟨g, cap, _, rfl, hbase, heap_sortedK _ hb, h1, h2, by simp [putCells, h3], ?_⟩⟩
  rw [← hl, ← flat_length hk, flatK_toArray hk]
  refine take_putCells cur _ ?_
  rw [flat_length hk, hl, h3]
  exact Nat.mul_le_mul_right k h1
end
end Go.Proofs.YtnhmibfgaoealaaGreat
