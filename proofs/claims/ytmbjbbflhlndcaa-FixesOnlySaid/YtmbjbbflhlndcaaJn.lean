/-
  Pointers in memory; the tables of own numbers.
-/
import Derived.Test.YtmbjbbflhlndcaaJi
import Derived.Test.YtmbjbbflhlndcaaJm
namespace Go.Proofs.Ytmbjbbflhlndcaa
open Go.RowKit BigFrame
set_option linter.unusedVariables false
set_option linter.unusedSimpArgs false

def encA (p : Addr) : List Value := [.pointer (some p)]
theorem elA : El encA 1 84 88 8 where
  under := Try.underlying84
  info := ⟨.pointer none, by kernel_rfl, rfl⟩
  len := fun _ => rfl
  one := fun x u h => by simp [encA] at h; subst h; rfl
  pos := by decide
  few := by decide
def ptrs (g : Nat) (offs : List Nat) : List Addr := offs.map fun o => ⟨g, o, none⟩
/-- What a call leaves that hands back pointers to a block's own cells. -/
def RetOwn (w : World) (g : Nat) (R : List Nat) (b : Bool) (e : Ending) (w' : World) : Prop := ∃ A n cap, e = .returned (.tuple #[.slice A n cap, .bool b]) ∧ n = R.length ∧ Rw encA 1 w' A (ptrs g R) ∧ Ext w w' ∧ ∀ b off, A = some ⟨b, off, none⟩ → w.heap.size ≤ b
theorem rw_of_bx {w : World} {g : Nat} {l : List Addr} {t : TypeId} (h : Bx w g (flat encA l) t) {A : Option Addr} (hA : A = some ⟨g, 0, none⟩) : Rw encA 1 w A l := fun hne => by
  refine ⟨g, 0, hA, h.lt, fun j hj i u hu => ?_⟩
  have hi : i < 1 := by have := (List.getElem?_eq_some_iff.1 hu).1; simpa [encA] using this
  have := h.cell (j * 1 + i) u (by rw [flat_at (enc := encA) (k := 1) (fun _ => rfl) l j hj i hi]; exact hu)
  rw [Nat.zero_add]; exact this
def b2n (b : Bool) : Nat := if b then 1 else 0
theorem b2n_t : b2n true = 1 := rfl
theorem b2n_f : b2n false = 0 := rfl
theorem b2n_le (b : Bool) : b2n b ≤ 1 := by cases b <;> simp [b2n]
/-- An event's own numbers lie in these cells. -/
def ownE_Tab (k : Int) (R : List Nat) (b : Bool) : Prop := R = (if k = 3 then [4, 5, 6, 7, 8, 9] else if k = 4 then [10] else []) ∧ b = decide (1 ≤ k ∧ k ≤ 7)
section
variable {P : Program} {ops : Array Oper} {Q : Exit → Act → World → Prop} {S : World → Prop}
theorem held_start {id : Nat} {a : Act} {w : World} (n : Nat) (hn : ops.size = n) (hm : P.follows .mixedOrders = true)
    (h : wpAnyH P .any ops (NoPanic Q) S n (Array.replicate n false) a { w with drawn := w.drawn + 1 }) : (Code.region id ops true).wp P Q a w := by
  subst hn
  exact wp_region_noPanic (wp_region_held (S := S) hm h)
theorem held_takeV {i fuel : Nat} {o : Oper} {listed : Array Bool} {a : Act} {w : World} (hi : ops[i]? = some o) (hs : Region.noSelect ops = true) (hf : Region.free .any ops listed i = true) (hr : (Region.ready .any ops listed).contains i = true)
    (v : Value) (hw : Region.wanted o (yielded ops a.tmps) = true) (hv : ∀ w, S w → (execOp a.eval o).run P w = .ok (.value v) w) (hS : S w) (a' : Act) (ha : a.put o.dst v = a')
    (h : wpAnyH P .any ops (NoPanic Q) S fuel (listed.setIfInBounds i true) a' w) : wpAnyH P .any ops (NoPanic Q) S (fuel + 1) listed a w :=
  wpAnyH_take hi hs hf hr (fun _ _ _ h => h) (.inl ⟨hw, hv⟩) hS (ha ▸ h)
theorem held_move {i fuel : Nat} {o : Oper} {listed : Array Bool} {a : Act} {w : World} (hi : ops[i]? = some o) (hs : Region.noSelect ops = true) (hf : Region.free .any ops listed i = true) (hr : (Region.ready .any ops listed).contains i = true)
    (x : Operand) (ho : o.op = .move x) (hw : Region.wanted o (yielded ops a.tmps) = true) (hS : S w) (a' : Act) (ha : a.put o.dst (a.eval x) = a')
    (h : wpAnyH P .any ops (NoPanic Q) S fuel (listed.setIfInBounds i true) a' w) : wpAnyH P .any ops (NoPanic Q) S (fuel + 1) listed a w :=
  wpAnyH_take hi hs hf hr (fun _ _ _ h => h) (.inl ⟨hw, fun w _ => run_move x ho w⟩) hS (ha ▸ h)
theorem held_assign {i fuel : Nat} {o : Oper} {listed : Array Bool} {a : Act} {w : World} (hi : ops[i]? = some o) (hs : Region.noSelect ops = true) (hf : Region.free .any ops listed i = true) (hr : (Region.ready .any ops listed).contains i = true)
    (x : Operand) (ho : o.op = .assign x) (hw : Region.wanted o (yielded ops a.tmps) = true) (hS : S w) (a' : Act) (ha : a.put o.dst (a.eval x) = a')
    (h : wpAnyH P .any ops (NoPanic Q) S fuel (listed.setIfInBounds i true) a' w) : wpAnyH P .any ops (NoPanic Q) S (fuel + 1) listed a w :=
  wpAnyH_take hi hs hf hr (fun _ _ _ h => h) (.inl ⟨hw, fun w _ => run_assign x ho w⟩) hS (ha ▸ h)
theorem held_all {i fuel : Nat} {o : Oper} {listed : Array Bool} {a : Act} {w : World} (hi : ops[i]? = some o) (hr : Region.ready .any ops listed = [i]) (hw : Region.wanted o (yielded ops a.tmps) = true)
    (h : o.wp P a w (fun a' w' => S w' ∧ wpAnyH P .any ops (NoPanic Q) S fuel (listed.setIfInBounds i true) a' w') (NoPanic Q)) : wpAnyH P .any ops (NoPanic Q) S (fuel + 1) listed a w :=
  wpAnyH_all hr (by simp) fun j hj => by
    simp at hj; subst hj
    unfold wpOp
    simp only [hi, hw, if_true]
    exact .inl h
theorem held_done {listed : Array Bool} {a : Act} {w : World} (hr : Region.ready .any ops listed = []) (h : Q .normal a w) (fuel : Nat) : wpAnyH P .any ops (NoPanic Q) S fuel listed a w := wpAnyH_done hr (NoPanic.normal h) fuel
end
end Go.Proofs.Ytmbjbbflhlndcaa
