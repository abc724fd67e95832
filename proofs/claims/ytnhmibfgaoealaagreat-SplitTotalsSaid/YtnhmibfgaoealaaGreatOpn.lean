/-
  An argument that is a slice of spans: it reads as a list of spans.
-/
import Derived.Test.YtnhmibfgaoealaaGreatMi
import Derived.Deep.Fields
import Derived.ChangeSame
import Derived.ProofKit
import Derived.OpenShut
namespace Go.Proofs.YtnhmibfgaoealaaGreat
open Go.ChangeShapes Go.WideShapes Go.ChangeAt Go.RowKit Go.Deep

section
variable {H : Type} {enc : TypeId × Value → H} {P : Program} {w : World} {base : Nat} {spare : Nat → Bool} {held : Bool}
theorem open_slice_fields {t e : TypeId} {fs : Array Field} {fuel : Nat} {cs : List Value} {x : DataW H × List MemPlace} (ht : P.underlying t = some (.slice e)) (he : P.underlying e = some (.struct fs))
    (hone : oneCellFields P fs = true) (hC : P.cellsOf e = fs.size) (h : DataW.trod enc P w base spare held fuel t cs = some x) :
    (cs = [.slice none 0 0] ∧ x = (.nil, [])) ∨
    ∃ (a : Addr) (len cap m : Nat) (D : Nat → DataW H) (Pl : Nat → List MemPlace), cs = [.slice (some a) len cap] ∧ base ≤ a.block ∧ len ≤ cap ∧ cap ≤ maxLen ∧ m = (if spare a.block then cap else len) ∧
      x = (.slice ((List.range len).map D) ((List.range (m - len)).map fun j => D (len + j)), MemPlace.row a (m * fs.size) ++ (List.range m).flatMap Pl) ∧
      ∀ i, i < m → ∃ (ys : List (DataW H × List MemPlace)) (n : Nat), D i = .agg (ys.map (·.1)) ∧ Pl i = ys.flatMap (·.2) ∧ ys.length = fs.size ∧
        ∀ (j : Nat) (f : Field), fs[j]? = some f → ∃ (v : Value) (y : DataW H × List MemPlace), w.cell? (a.add (i * fs.size + j)) = some v ∧ ys[j]? = some y ∧ DataW.trod enc P w base spare held n f.type [v] = some y := by
  rcases open_slice ht h with h0 | ⟨a, len, cap, m, n, D, Pl, hcs, hb, hl, hm, hmm, hx, hi⟩
  · exact .inl h0
  · refine .inr ⟨a, len, cap, m, D, Pl, hcs, hb, hl, hm, hmm, by rw [hC] at hx; exact hx, fun i him => ?_⟩
    obtain ⟨cs', hc, ht'⟩ := hi i him
    rw [hC] at hc
    obtain ⟨ys, n', hn', hy, hlen, hyl, hf⟩ := DataW.trod_struct he ht'
    obtain ⟨_, hcl, hat⟩ := World.cells?_some hc
    simp only [Prod.mk.injEq] at hy
    refine ⟨ys, n', hy.1, hy.2, hyl, fun j f hj => ?_⟩
    obtain ⟨ho, hk⟩ := hone_of hone j f hj
    have hjl : j < fs.size := (Array.getElem?_eq_some_iff.1 hj).1
    have hcell := hat j hjl
    have hv : cs'[j]? = some (cs'[j]'(by omega)) := List.getElem?_eq_getElem (by omega)
    have h1 := hf j f hj
    rw [ho, hk] at h1
    have hone' : (cs'.drop j).take 1 = [cs'[j]'(by omega)] := by
      rw [List.drop_eq_getElem_cons (by omega)]
      rfl
    rw [hone'] at h1
    have hys : ys[j]? = some (ys[j]'(by omega)) := List.getElem?_eq_getElem (by omega)
    refine ⟨_, _, ?_, hys, h1.trans hys⟩
    rw [← Go.Deep.add_add, hcell, hv]
end

theorem open_two {H : Type} {enc : TypeId × Value → H} {P : Program} {w : World} {base : Nat} {spare : Nat → Bool} {held : Bool} {t e i : TypeId} {f0 f1 : Field} (ht : P.underlying t = some (.slice e)) (he : P.underlying e = some (.struct #[f0, f1])) (h0 : f0.type = i) (h1 : f1.type = i) (hi : P.underlying i = some (.int .i64))
    (hone : oneCellFields P #[f0, f1] = true) (hC : P.cellsOf e = 2) {A : Option Addr} {len cap : Nat} {d : DataW H} {p : List MemPlace} (h : DataW.Trod enc P w base spare held t (.slice A len cap) d p) :
    ∃ l : List Sp.S, len = l.length ∧ l.length ≤ maxLen ∧ Rs w A l := by
  obtain ⟨fuel, hf⟩ := h
  rcases open_slice_fields ht he hone hC hf with ⟨hcs, _⟩ | ⟨a, len', cap', m, D, Pl, hcs, _, hl, hm, hmm, _, hE⟩
  · simp [Value.cells] at hcs
    obtain ⟨rfl, rfl, rfl⟩ := hcs
    exact ⟨[], rfl, Nat.zero_le _, .nil⟩
  · simp [Value.cells] at hcs
    obtain ⟨rfl, rfl, rfl⟩ := hcs
    have hlm : len ≤ m := by rw [hmm]; split <;> omega
    have key : ∀ k, k < len → ∃ x y : Int, w.cell? (a.add (k * 2)) = some (.int .i64 x) ∧ w.cell? (a.add (k * 2 + 1)) = some (.int .i64 y) := by
      intro k hk
      obtain ⟨ys, n, _, _, _, hF⟩ := hE k (by omega)
      obtain ⟨v0, y0, c0, _, t0⟩ := hF 0 f0 rfl
      obtain ⟨v1, y1, c1, _, t1⟩ := hF 1 f1 rfl
      obtain ⟨x, hx, _, _⟩ := DataW.trod_int (by rw [h0]; exact hi) t0
      obtain ⟨y, hy, _, _⟩ := DataW.trod_int (by rw [h1]; exact hi) t1
      cases hx; cases hy
      exact ⟨x, y, c0, c1⟩
    have mk : ∀ n, n ≤ len → ∃ l : List Sp.S, l.length = n ∧ ∀ j (h : j < l.length), w.cell? (a.add (j * 2)) = some (.int .i64 l[j].1) ∧ w.cell? (a.add (j * 2 + 1)) = some (.int .i64 l[j].2) := by
      intro n
      induction n with
      | zero => exact fun _ => ⟨[], rfl, fun j h => absurd h (by simp)⟩
      | succ n ih =>
        intro hn
        obtain ⟨l, hl, hc⟩ := ih (by omega)
        obtain ⟨x, y, cx, cy⟩ := key n (by omega)
        refine ⟨l ++ [(x, y)], by simp [hl], fun j hj => ?_⟩
        by_cases hjn : j < l.length
        · rw [List.getElem_append_left hjn]; exact hc j hjn
        · obtain rfl : j = l.length := by simp at hj; omega
          have hg : (l ++ [(x, y)])[l.length]'hj = (x, y) := by simp
          rw [hg, hl]
          exact ⟨cx, cy⟩
    obtain ⟨l, hl', hc⟩ := mk len (Nat.le_refl _)
    refine ⟨l, hl'.symm, by omega, fun hne => ?_⟩
    have h0l : 0 < l.length := List.length_pos_iff.2 hne
    obtain ⟨b, off, spot⟩ := a
    have hc0 := (hc 0 h0l).1
    have hspot : spot = none := by simpa [Addr.add] using World.cell?_spot hc0
    subst hspot
    have hb : b < w.heap.size := by
      have : w.cell? ⟨b, off, none⟩ = some (.int .i64 l[0].1) := by simpa [Addr.add] using hc0
      exact World.block_lt_of_cell? w _ this
    have hadd : ∀ n : Nat, (Addr.mk b off none).add n = ⟨b, off + n, none⟩ := fun n => by
      unfold Addr.add; split
      · next h => subst h; rfl
      · rfl
    refine ⟨b, off, rfl, hb, fun j hj i u hu => ?_⟩
    obtain ⟨ca, cb⟩ := hc j hj
    rw [hadd] at ca cb
    match i, hu with
    | 0, hu => simp [encS] at hu; subst hu; exact ca
    | 1, hu => simp [encS] at hu; subst hu; rw [Nat.add_assoc]; exact cb
    | n + 2, hu => simp [encS] at hu
end Go.Proofs.YtnhmibfgaoealaaGreat
