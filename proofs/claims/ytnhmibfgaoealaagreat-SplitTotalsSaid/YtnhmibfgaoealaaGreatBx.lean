/-
  A struct that lies in a block of its own, known whole.
-/
import Derived.Test.YtnhmibfgaoealaaGreatMb
import Derived.Laws.Rows
namespace Go.Proofs.YtnhmibfgaoealaaGreat
open Go.RowKit

/-- Block b is just these cells. -/
def Bx (w : World) (b : Nat) (cs : List Value) (t : TypeId) : Prop := w.heap[b]? = some (.cells cs.toArray t (0, 0))
section
variable {w w' : World} {b : Nat} {cs : List Value} {t : TypeId}
theorem Bx.lt (h : Bx w b cs t) : b < w.heap.size := by
  rcases Nat.lt_or_ge b w.heap.size with hlt | hge
  · exact hlt
  · unfold Bx at h; rw [Array.getElem?_eq_none hge] at h; cases h
theorem Bx.ext (h : Bx w b cs t) (k : Ext w w') : Bx w' b cs t := (k.block b h.lt).trans h
theorem Bx.alloc (h : Bx w b cs t) (o : Obj) : Bx (w.alloc o) b cs t := h.ext ((Ext.refl w).alloc o)
theorem Bx.drewN (h : Bx w b cs t) (n : Nat) : Bx (w.drewN n) b cs t := h.ext ((Ext.refl w).drewN n)
theorem Bx.new (w : World) (cs : List Value) (t : TypeId) : Bx (w.alloc (.cells cs.toArray t)) w.heap.size cs t := heap_alloc_new w _
theorem Bx.cell (h : Bx w b cs t) (i : Nat) (u : Value) (hi : cs[i]? = some u) : w.cell? ⟨b, i, none⟩ = some u := by
  rw [cell_of_row w b i cs.toArray t (0, 0) h]; simpa using hi
theorem Bx.frozen (h : Bx w b cs t) (i : Nat) : w.frozen? ⟨b, i, none⟩ = false := by
  unfold Bx at h
  simp [World.frozen?, h]
theorem Bx.set_ (h : Bx w b cs t) (i : Nat) (u : Value) : Bx (w.setCell ⟨b, i, none⟩ u) b (cs.set i u) t := by
  unfold Bx at h ⊢
  simp [World.setCell, Array.getElem?_modify, h]
end

theorem suCells {w : World} {b : Nat} {v_pl v_wy v_p1 v_p2 v_el v_cl v_ge v_al v_un v_ca v_pb v_aa v_ab v_dr v_do v_wr v_nf v_nt v_ra v_di v_le v_fa v_ti : Value} {t : TypeId} (h : Bx w b [v_pl, v_wy, v_p1, v_p2, v_el, v_cl, v_ge, v_al, v_un, v_ca, v_pb, v_aa, v_ab, v_dr, v_do, v_wr, v_nf, v_nt, v_ra, v_di, v_le, v_fa, v_ti] t) : w.cell? ⟨b, 0, none⟩ = some v_pl ∧ w.cell? ⟨b, 1, none⟩ = some v_wy ∧ w.cell? ⟨b, 2, none⟩ = some v_p1 ∧ w.cell? ⟨b, 3, none⟩ = some v_p2 ∧ w.cell? ⟨b, 4, none⟩ = some v_el ∧ w.cell? ⟨b, 5, none⟩ = some v_cl ∧ w.cell? ⟨b, 6, none⟩ = some v_ge ∧ w.cell? ⟨b, 7, none⟩ = some v_al ∧ w.cell? ⟨b, 8, none⟩ = some v_un ∧ w.cell? ⟨b, 9, none⟩ = some v_ca ∧ w.cell? ⟨b, 10, none⟩ = some v_pb ∧ w.cell? ⟨b, 11, none⟩ = some v_aa ∧ w.cell? ⟨b, 12, none⟩ = some v_ab ∧ w.cell? ⟨b, 13, none⟩ = some v_dr ∧ w.cell? ⟨b, 14, none⟩ = some v_do ∧ w.cell? ⟨b, 15, none⟩ = some v_wr ∧ w.cell? ⟨b, 16, none⟩ = some v_nf ∧ w.cell? ⟨b, 17, none⟩ = some v_nt ∧ w.cell? ⟨b, 18, none⟩ = some v_ra ∧ w.cell? ⟨b, 19, none⟩ = some v_di ∧ w.cell? ⟨b, 20, none⟩ = some v_le ∧ w.cell? ⟨b, 21, none⟩ = some v_fa ∧ w.cell? ⟨b, 22, none⟩ = some v_ti := by
  exact ⟨h.cell 0 _ rfl, h.cell 1 _ rfl, h.cell 2 _ rfl, h.cell 3 _ rfl, h.cell 4 _ rfl, h.cell 5 _ rfl, h.cell 6 _ rfl, h.cell 7 _ rfl, h.cell 8 _ rfl, h.cell 9 _ rfl, h.cell 10 _ rfl, h.cell 11 _ rfl, h.cell 12 _ rfl, h.cell 13 _ rfl, h.cell 14 _ rfl, h.cell 15 _ rfl, h.cell 16 _ rfl, h.cell 17 _ rfl, h.cell 18 _ rfl, h.cell 19 _ rfl, h.cell 20 _ rfl, h.cell 21 _ rfl, h.cell 22 _ rfl⟩

/-- A whole struct read out of its block, guarded or not. -/
theorem load_box {P : Program} {ops : Array Oper} {rest : List Oper} {o : Oper} {a : Act} {w : World} {Q : Exit → Act → World → Prop} (hgd : Region.wanted o (yielded ops a.tmps) = true) (ty : TypeId) (x : Operand) (ho : o.op = .load ty x)
    (g : Nat) (hx : a.eval x = .pointer (some ⟨g, 0, none⟩)) (cs : List Value) (t : TypeId) (hg : Bx w g cs t) (d : TypeDesc)
    (hu : P.underlying ty = some d) (hd : (match d with | .struct _ | .array _ _ => true | _ => false) = true) (hi : (P.info? ty).map (·.size) = some cs.toArray.size)
    (h : wpList P ops Q rest (a.put o.dst (.agg cs.toArray)) w) : wpList P ops Q (o :: rest) a w := by
  refine wpList_step fun K hK => ?_
  rw [if_pos hgd]
  exact wp_load_row ty x ho g hx t cs.toArray (0, 0) d hg hu hd hi (hK _ _ h)
end Go.Proofs.YtnhmibfgaoealaaGreat
