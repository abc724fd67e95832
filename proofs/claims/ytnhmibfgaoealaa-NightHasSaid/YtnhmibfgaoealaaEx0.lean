/-
  Words for a run of calls, each of which leaves what lay as it lay.
-/
import Derived.Test.YtnhmibfgaoealaaBas
namespace Go.Proofs.Ytnhmibfgaoealaa
open Go.RowKit

/-- Nothing that lay has turned. -/
def Ext (w w' : World) : Prop := Below w.heap.size w w'
theorem Ext.refl (w : World) : Ext w w := Below.refl _ _
theorem Ext.trans {a b c : World} (h : Ext a b) (k : Ext b c) : Ext a c := Below.trans h (Below.mono k h.size)
theorem Ext.alloc {a w : World} (h : Ext a w) (o : Obj) : Ext a (w.alloc o) := Below.alloc h h.size o
theorem Ext.drewN {a w : World} (h : Ext a w) (n : Nat) : Ext a (w.drewN n) := below_drewN h n

/-- The slice at A reads as these spans. -/
def Rs (w : World) (A : Option Addr) (l : List Sp.S) : Prop := Rd encS 2 w w.heap.size A l
theorem Rs.ext {w w' : World} {A : Option Addr} {l : List Sp.S} (h : Rs w A l) (k : Ext w w') : Rs w' A l := (Rd.below h k).more k.size
theorem Rs.alloc {w : World} {A : Option Addr} {l : List Sp.S} (h : Rs w A l) (o : Obj) : Rs (w.alloc o) A l := h.ext ((Ext.refl w).alloc o)
theorem Rs.nil {w : World} {A : Option Addr} : Rs w A [] := Rd.nil
theorem Rs.own {w : World} {A : Option Addr} {n cap base e : Nat} {l : List Sp.S} (h : w.ownsRow base e 2 (.slice A n cap) l.length (flat encS l)) : Rs w A l := Rd.of_own encS_len h
theorem Rs.new (w : World) (l : List Sp.S) (t : TypeId) : Rs (w.alloc (.cells (flat encS l).toArray t)) (some ⟨w.heap.size, 0, none⟩) l := fun _ =>
  ⟨w.heap.size, 0, rfl, by simp, fun j hj i u hu => by
    have hi : i < 2 := by have := (List.getElem?_eq_some_iff.1 hu).1; rwa [encS_len] at this
    have := cells_new w (flat encS l) t (j * 2 + i) u (by rw [flat_at encS_len l j hj i hi]; exact hu)
    rw [add_head] at this
    rw [Nat.zero_add]; exact this⟩

/-- What a call leaves that hands back a slice of spans. -/
def RetS (w : World) (R : List Sp.S) (e : Ending) (w' : World) : Prop := ∃ A cap, e = .returned (.slice A R.length cap) ∧ Rs w' A R ∧ Ext w w' ∧ w'.ownsRow w.heap.size 42 2 (.slice A R.length cap) R.length (flat encS R)
def RetB (w : World) (b : Bool) (e : Ending) (w' : World) : Prop := e = .returned (.bool b) ∧ Ext w w'
def RetI (w : World) (n : Int) (e : Ending) (w' : World) : Prop := e = .returned (.int .i64 n) ∧ Ext w w'

def B64 (n : Int) : Prop := -9223372036854775808 ≤ n ∧ n ≤ 9223372036854775807

end Go.Proofs.Ytnhmibfgaoealaa
