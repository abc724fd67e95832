/-
  A great struct built of its fields, and stored into a block that has just been laid.
-/
import Derived.Test.YtnhmibfgaoealaaGreatBx
import Derived.Laws.Tables
import Derived.Deep.WholeRow
namespace Go.Proofs.YtnhmibfgaoealaaGreat
open Go.RowKit

theorem build_at {P : Program} {ops : Array Oper} {rest : List Oper} {o : Oper} {a : Act} {w : World} {Q : Exit → Act → World → Prop} (hgd : Region.wanted o (yielded ops a.tmps) = true) (t : TypeId) (parts : Array (Nat × Operand)) (ho : o.op = .build t parts)
    (cs : Array Value) (hb : P.built t (parts.map fun (i, x) => (i, a.eval x)).toList = some cs) (h : wpList P ops Q rest (a.put o.dst (.agg cs)) w) : wpList P ops Q (o :: rest) a w := by
  refine wpList_step fun K hK => ?_
  rw [if_pos hgd]
  refine wp_build t parts ho (by rw [hb]; rfl) ?_
  rw [hb]
  exact hK _ _ h

theorem store_new {P : Program} {ops : Array Oper} {rest : List Oper} {o : Oper} {a : Act} {w : World} {Q : Exit → Act → World → Prop} (hgd : Region.wanted o (yielded ops a.tmps) = true) (ty : TypeId) (x y : Operand) (ho : o.op = .store ty x y)
    (w0 : World) (g : Nat) (hg : g = w0.heap.size) (c c' : Array Value) (t : TypeId) (hw : w = w0.alloc (.cells c t)) (hx : a.eval x = .pointer (some ⟨g, 0, none⟩)) (hy : a.eval y = .agg c') (hi : (P.info? ty).map (·.size) = some c'.size) (hc : c.size = c'.size) (h1 : c'.all (·.oneCell') = true)
    (h : wpList P ops Q rest (a.put o.dst undef) (w0.alloc (.cells c' t))) : wpList P ops Q (o :: rest) a w := by
  subst hg; subst hw
  refine wpList_step fun K hK => ?_
  rw [if_pos hgd]
  refine wp_store_row ty x y ho w0.heap.size c' hx hy t c (heap_alloc_last w0 _) hi hc h1 ?_
  rw [World.setRow_alloc_new]
  exact hK _ _ h
end Go.Proofs.YtnhmibfgaoealaaGreat
