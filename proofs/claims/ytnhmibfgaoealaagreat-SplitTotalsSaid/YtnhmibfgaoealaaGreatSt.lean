/-
  A pair put behind a row of the call's own, in a region that draws its order.
-/
import Derived.Deep.RegionHeld3
import Derived.Deep.AppendLies
import Derived.Test.YtnhmibfgaoealaaGreatTw
namespace Go.Proofs.YtnhmibfgaoealaaGreat
open Go.RowKit

theorem step_app_one {ops : Array Oper} {o : Oper} {a : Act} {K : Act → World → Prop} {Q : Exit → Act → World → Prop} {E : Prop} (w0 w : World) (X : Ext w0 w) (hgd : o.guard = none) (s x : Operand)
    (ho : o.op = .call { callee := .builtin .append, args := #[s, x], argTypes := #[34, 34] })
    (n : Nat) (v : Value) (l : List Sp.S) (hs : a.eval s = v) (hown : w.ownsRow w0.heap.size 49 2 v n (flat encS l)) (q : Sp.S) (g : Nat)
    (hx : a.eval x = .slice (some ⟨g, 0, none⟩) 1 1) (hm : Rs w (some ⟨g, 0, none⟩) [q]) (hn : n ≤ 1000000)
    (h : ∀ A' cap' w', w'.ownsRow w0.heap.size 49 2 (.slice A' (n + 1) cap') (n + 1) (flat encS (l ++ [q])) → Ext w0 w' → K (a.put o.dst (.slice A' (n + 1) cap')) w') :
    if Region.wanted o (yielded ops a.tmps) = true then Oper.wp Tryz.prog o a w K Q else E := by
  obtain ⟨i0, hi, hz0, hz1, hz2⟩ := info_parts info_span
  refine step_append_lies w hgd s x 34 ho w0.heap.size 49 i0 (.agg #[.int .i64 0, .int .i64 0]) 2 16 Tryz.underlying34 hi hz0 hz1 hz2 rfl (by omega) v n (flat encS l) hs hown ⟨g, 0, none⟩ 1 1 (encS q) hx rfl ?_ ?_ (by omega) (by unfold maxLen; omega) (by omega) X.size w.heap.size rfl ?_
  · intro j u hj
    obtain ⟨b, off, hA, _, hc⟩ := hm (by simp)
    cases hA
    have := hc 0 (by simp) j u (by simpa using hj)
    rw [add_head]
    simpa using this
  · intro u hu
    simp [encS] at hu
    rcases hu with rfl | rfl <;> rfl
  · intro g' cap w' h1 h2 h3 h4
    exact h (some ⟨g', 0, none⟩) cap w' (by rw [flat_append]; simpa [flat] using h1) (Below.grown X h2 X.size fun k hk => (hown.lt k hk).1)
end Go.Proofs.YtnhmibfgaoealaaGreat
