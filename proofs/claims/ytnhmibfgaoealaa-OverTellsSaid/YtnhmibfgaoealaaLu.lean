/-
  A region that draws its order and is a chain of calls, beside operations that only read: the moves of a walk, one by one.
-/
import Derived.Deep.RegionHeld3
import Derived.Test.YtnhmibfgaoealaaLt
namespace Go.Proofs.Ytnhmibfgaoealaa
open Go.RowKit BigFrame

section
variable {P : Program} {ops : Array Oper} {Q : Exit → Act → World → Prop} {S : World → Prop}
theorem held_start {id : Nat} {a : Act} {w : World} (n : Nat) (hn : ops.size = n) (hm : P.follows .mixedOrders = true)
    (h : wpAnyH P .any ops (NoPanic Q) S n (Array.replicate n false) a { w with drawn := w.drawn + 1 }) : (Code.region id ops true).wp P Q a w := by
  subst hn
  exact wp_region_noPanic (wp_region_held (S := S) hm h)
theorem held_move {i fuel : Nat} {o : Oper} {listed : Array Bool} {a : Act} {w : World} (hi : ops[i]? = some o) (hs : Region.noSelect ops = true) (hf : Region.free .any ops listed i = true) (hr : (Region.ready .any ops listed).contains i = true)
    (x : Operand) (ho : o.op = .move x) (hw : Region.wanted o (yielded ops a.tmps) = true) (hS : S w) (a' : Act) (ha : a.put o.dst (a.eval x) = a')
    (h : wpAnyH P .any ops (NoPanic Q) S fuel (listed.setIfInBounds i true) a' w) : wpAnyH P .any ops (NoPanic Q) S (fuel + 1) listed a w :=
  wpAnyH_take hi hs hf hr (fun _ _ _ h => h) (.inl ⟨hw, fun w _ => run_move x ho w⟩) hS (ha ▸ h)
theorem held_assign {i fuel : Nat} {o : Oper} {listed : Array Bool} {a : Act} {w : World} (hi : ops[i]? = some o) (hs : Region.noSelect ops = true) (hf : Region.free .any ops listed i = true) (hr : (Region.ready .any ops listed).contains i = true)
    (x : Operand) (ho : o.op = .assign x) (hw : Region.wanted o (yielded ops a.tmps) = true) (hS : S w) (a' : Act) (ha : a.put o.dst (a.eval x) = a')
    (h : wpAnyH P .any ops (NoPanic Q) S fuel (listed.setIfInBounds i true) a' w) : wpAnyH P .any ops (NoPanic Q) S (fuel + 1) listed a w :=
  wpAnyH_take hi hs hf hr (fun _ _ _ h => h) (.inl ⟨hw, fun w _ => run_assign x ho w⟩) hS (ha ▸ h)
theorem held_box {i fuel : Nat} {o : Oper} {listed : Array Bool} {a : Act} {w : World} (hi : ops[i]? = some o) (hs : Region.noSelect ops = true) (hf : Region.free .any ops listed i = true) (hr : (Region.ready .any ops listed).contains i = true)
    (hw : Region.wanted o (yielded ops a.tmps) = true) (ty : TypeId) (x : Operand) (ho : o.op = .load ty x) (g : Nat) (hx : a.eval x = .pointer (some ⟨g, 0, none⟩)) (cs : List Value) (t : TypeId) (hg : ∀ w, S w → Bx w g cs t) (d : TypeDesc)
    (hu : P.underlying ty = some d) (hd : (match d with | .struct _ | .array _ _ => true | _ => false) = true) (hz : (P.info? ty).map (·.size) = some cs.toArray.size) (hS : S w) (a' : Act) (ha : a.put o.dst (.agg cs.toArray) = a')
    (h : wpAnyH P .any ops (NoPanic Q) S fuel (listed.setIfInBounds i true) a' w) : wpAnyH P .any ops (NoPanic Q) S (fuel + 1) listed a w :=
  wpAnyH_take hi hs hf hr (fun _ _ _ h => h) (.inl ⟨hw, fun w hS => by
    unfold execOp
    simp only [ho, hx, Instr.loadAt, Instr.sureAddr, Sem.run_bind, Sem.run_pure, Result.andThen_ok, run_loadVar_row w g t ty cs.toArray (0, 0) d (hg w hS) hu hd hz]⟩) hS (ha ▸ h)
theorem held_all {i fuel : Nat} {o : Oper} {listed : Array Bool} {a : Act} {w : World} (hi : ops[i]? = some o) (hr : Region.ready .any ops listed = [i]) (hw : Region.wanted o (yielded ops a.tmps) = true)
    (h : o.wp P a w (fun a' w' => S w' ∧ wpAnyH P .any ops (NoPanic Q) S fuel (listed.setIfInBounds i true) a' w') (NoPanic Q)) : wpAnyH P .any ops (NoPanic Q) S (fuel + 1) listed a w :=
  wpAnyH_all hr (by simp) fun j hj => by
    simp at hj; subst hj
    unfold wpOp
    simp only [hi, hw, if_true]
    exact .inl h
theorem held_done {listed : Array Bool} {a : Act} {w : World} (hr : Region.ready .any ops listed = []) (h : Q .normal a w) (fuel : Nat) : wpAnyH P .any ops (NoPanic Q) S fuel listed a w := wpAnyH_done hr (NoPanic.normal h) fuel
end
end Go.Proofs.Ytnhmibfgaoealaa
