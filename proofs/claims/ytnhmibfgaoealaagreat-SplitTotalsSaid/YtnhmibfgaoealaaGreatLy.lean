/-
  A region that draws its order, and whose calls only lay new blocks and hand back numbers or Bools: one walk serves every order.
  A region that draws its order and is a chain of calls, beside operations that only read: the moves of a walk, one by one.
-/
import Derived.BigQuiet
import Derived.Test.YtnhmibfgaoealaaGreatMb
import Derived.Test.YtnhmibfgaoealaaGreatBx
import Derived.Deep.RegionHeld3
namespace Go.Proofs.YtnhmibfgaoealaaGreat
open Go.RowKit BigFrame

/-- A world behind w. -/
def Later (w : World) : Type := { w' : World // Ext w w' }
instance later_some (w : World) : Nonempty (Later w) := ⟨⟨w, Ext.refl w⟩⟩

theorem wp_region_later {P : Program} {id : Nat} {Q : Exit → Act → World → Prop} {a : Act} {w : World} {l : List Oper} (w0 : World) (hX : Ext w0 w) (hm : P.follows .mixedOrders = true) (hB : Region.lexB .any l.toArray = true)
    (h : wpQuiet P l.toArray (fun w' => ∃ e : Later w0, w' = e.1) (fun a' => ∀ w', (∃ e : Later w0, w' = e.1) → Q .normal a' w') l a) : (Code.region id l.toArray true).wp P Q a w :=
  wp_region_quiet (C := fun w' => ∃ e : Later w0, w' = e.1) hm hB ⟨⟨_, hX.drewN 1⟩, rfl⟩ (by simpa using h)

theorem later_bool {P : Program} {f : FuncId} {args : Array Value} {w0 : World} {e : Later w0} {b : Bool} (h : Calls P f args e.1 (RetB e.1 b)) : Calls P f args e.1 fun x w'' => x = .returned (.bool b) ∧ ∃ e' : Later w0, w'' = e'.1 :=
  h.mono fun _ w'' ⟨he, hx⟩ => ⟨he, ⟨w'', e.2.trans hx⟩, rfl⟩
theorem later_int {P : Program} {f : FuncId} {args : Array Value} {w0 : World} {e : Later w0} {n : Int} (h : Calls P f args e.1 (RetI e.1 n)) : Calls P f args e.1 fun x w'' => x = .returned (.int .i64 n) ∧ ∃ e' : Later w0, w'' = e'.1 :=
  h.mono fun _ w'' ⟨he, hx⟩ => ⟨he, ⟨w'', e.2.trans hx⟩, rfl⟩

/-- A whole struct read out of its block, in a region that draws. -/
theorem quiet_box {P : Program} {ops : Array Oper} {C : World → Prop} {Q : Act → Prop} {a : Act} {o : Oper} {rest : List Oper} (hw : Region.wanted o (yielded ops a.tmps) = true) (ty : TypeId) (x : Operand) (ho : o.op = .load ty x)
    (g : Nat) (hx : a.eval x = .pointer (some ⟨g, 0, none⟩)) (cs : List Value) (t : TypeId) (hg : ∀ w, C w → Bx w g cs t) (d : TypeDesc)
    (hu : P.underlying ty = some d) (hd : (match d with | .struct _ | .array _ _ => true | _ => false) = true) (hi : (P.info? ty).map (·.size) = some cs.toArray.size)
    (a' : Act) (ha : a.put o.dst (.agg cs.toArray) = a') (h : wpQuiet P ops C Q rest a') : wpQuiet P ops C Q (o :: rest) a :=
  wpQuiet_want hw fun K hK => ⟨_, fun w hw => by
    unfold Oper.quietAt execOp
    simp only [ho, hx, Instr.loadAt, Instr.sureAddr, Sem.run_bind, Sem.run_pure, Result.andThen_ok, run_loadVar_row w g t ty cs.toArray (0, 0) d (hg w hw) hu hd hi]
    exact ⟨rfl, rfl⟩, hK _ (ha ▸ h)⟩
end Go.Proofs.YtnhmibfgaoealaaGreat
namespace Go.Proofs.YtnhmibfgaoealaaGreat
open Go.RowKit BigFrame

section
variable {P : Program} {ops : Array Oper} {Q : Exit → Act → World → Prop} {S : World → Prop}
theorem held_start {id : Nat} {a : Act} {w : World} (n : Nat) (hn : ops.size = n) (hm : P.follows .mixedOrders = true)
    (h : wpAnyH P .any ops (NoPanic Q) S n (Array.replicate n false) a { w with drawn := w.drawn + 1 }) : (Code.region id ops true).wp P Q a w := by
  subst hn
  exact wp_region_noPanic (wp_region_held (S := S) hm h)
theorem held_move {i fuel : Nat} {o : Oper} {listed : Array Bool} {a : Act} {w : World} (hi : ops[i]? = some o) (hs : Region.noSelect ops = true) (hf : Region.free .any ops listed i = true) (hr : (Region.ready .any ops listed).contains i = true)
    (x : Operand) (ho : o.op = .move x) (hw : Region.wanted o (yielded ops a.tmps) = true) (hS : S w) (a' : Act) (ha : a.put o.dst (a.eval x) = a')
    (h : wpAnyH P .any ops (NoPanic Q) S fuel (listed.setIfInBounds i true) a' w) : wpAnyH P .any ops (NoPanic Q) S (fuel + 1) listed a w :=
  wpAnyH_take hi hs hf hr (fun _ _ _ h => h) (.inl ⟨hw, fun w _ => run_move x ho w⟩) hS (ha ▸ h)
theorem held_assign {i fuel : Nat} {o : Oper} {listed : Array Bool} {a : Act} {w : World} (hi : ops[i]? = some o) (hs : Region.noSelect ops = true) (hf : Region.free .any ops listed i = true) (hr : (Region.ready .any ops listed).contains i = true)
    (x : Operand) (ho : o.op = .assign x) (hw : Region.wanted o (yielded ops a.tmps) = true) (hS : S w) (a' : Act) (ha : a.put o.dst (a.eval x) = a')
    (h : wpAnyH P .any ops (NoPanic Q) S fuel (listed.setIfInBounds i true) a' w) : wpAnyH P .any ops (NoPanic Q) S (fuel + 1) listed a w :=
  wpAnyH_take hi hs hf hr (fun _ _ _ h => h) (.inl ⟨hw, fun w _ => run_assign x ho w⟩) hS (ha ▸ h)
theorem held_box {i fuel : Nat} {o : Oper} {listed : Array Bool} {a : Act} {w : World} (hi : ops[i]? = some o) (hs : Region.noSelect ops = true) (hf : Region.free .any ops listed i = true) (hr : (Region.ready .any ops listed).contains i = true)
    (hw : Region.wanted o (yielded ops a.tmps) = true) (ty : TypeId) (x : Operand) (ho : o.op = .load ty x) (g : Nat) (hx : a.eval x = .pointer (some ⟨g, 0, none⟩)) (cs : List Value) (t : TypeId) (hg : ∀ w, S w → Bx w g cs t) (d : TypeDesc)
    (hu : P.underlying ty = some d) (hd : (match d with | .struct _ | .array _ _ => true | _ => false) = true) (hz : (P.info? ty).map (·.size) = some cs.toArray.size) (hS : S w) (a' : Act) (ha : a.put o.dst (.agg cs.toArray) = a')
    (h : wpAnyH P .any ops (NoPanic Q) S fuel (listed.setIfInBounds i true) a' w) : wpAnyH P .any ops (NoPanic Q) S (fuel + 1) listed a w :=
  wpAnyH_take hi hs hf hr (fun _ _ _ h => h) (.inl ⟨hw, fun w hS => by
    unfold execOp
    simp only [ho, hx, Instr.loadAt, Instr.sureAddr, Sem.run_bind, Sem.run_pure, Result.andThen_ok, run_loadVar_row w g t ty cs.toArray (0, 0) d (hg w hS) hu hd hz]⟩) hS (ha ▸ h)
theorem held_all {i fuel : Nat} {o : Oper} {listed : Array Bool} {a : Act} {w : World} (hi : ops[i]? = some o) (hr : Region.ready .any ops listed = [i]) (hw : Region.wanted o (yielded ops a.tmps) = true)
    (h : o.wp P a w (fun a' w' => S w' ∧ wpAnyH P .any ops (NoPanic Q) S fuel (listed.setIfInBounds i true) a' w') (NoPanic Q)) : wpAnyH P .any ops (NoPanic Q) S (fuel + 1) listed a w :=
  wpAnyH_all hr (by simp) fun j hj => by
    simp at hj; subst hj
    unfold wpOp
    simp only [hi, hw, if_true]
    exact .inl h
theorem held_done {listed : Array Bool} {a : Act} {w : World} (hr : Region.ready .any ops listed = []) (h : Q .normal a w) (fuel : Nat) : wpAnyH P .any ops (NoPanic Q) S fuel listed a w := wpAnyH_done hr (NoPanic.normal h) fuel
end
end Go.Proofs.YtnhmibfgaoealaaGreat
