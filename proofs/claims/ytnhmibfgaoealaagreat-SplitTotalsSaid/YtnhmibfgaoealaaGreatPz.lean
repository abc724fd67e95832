/-
  Words for layer 11: the weeks about a time.
-/
import Derived.Test.YtnhmibfgaoealaaGreatMk
import Derived.Test.YtnhmibfgaoealaaGreatMl
namespace Go.Proofs.YtnhmibfgaoealaaGreat
open Go.RowKit
set_option linter.unusedVariables false
set_option linter.unusedSimpArgs false

theorem Rs.drewN {w : World} {A : Option Addr} {l : List Sp.S} (h : Rs w A l) (n : Nat) : Rs (w.drewN n) A l := h.ext ((Ext.refl w).drewN n)
/-- What a call leaves that hands back a slice of numbers. -/
def RetN (w : World) (R : List Int) (e : Ending) (w' : World) : Prop := ∃ A cap, e = .returned (.slice A R.length cap) ∧ Rn w' A R ∧ Ext w w' ∧ True
theorem cDays {w : World} {A : Option Addr} {l : List Sp.S} (h : Rs w A l) (hl : l.length ≤ 900000) (cap : Nat) : Calls Tryz.prog 31 #[.slice A l.length cap] w (RetN w (daysL (Sp.norm l))) :=
  (pDays h hl cap).mono fun _ _ ⟨A', c, he, hr, hx⟩ => ⟨A', c, he, hr, hx, trivial⟩

theorem clampQ (n m : Int) (w : World) : Calls Tryz.prog 137 #[.int .i64 n, .int .i64 m] w fun e w' => e = .returned (.int .i64 (min (max n 0) m)) ∧ w' = w := by
  go_enter Tryz.func137, Tryz.ntmps137
  go_wp2
  go_ret
  exact ⟨rfl, rfl⟩

def touchBy (u c : Int) : Int := min (max u 0) 604800 + min (max c 0) 604800
def touchA (u c t : Int) : Int := weekOf (min (max t 0) 32054399 - touchBy u c)
def touchB (u c t : Int) : Int := weekOf (min (max t 0) 32054399 + touchBy u c)

theorem nEq {f : Nat} {args : Array Value} {w : World} {R R' : List Int} (h : Calls Tryz.prog f args w (RetN w R)) (e : R = R') : Calls Tryz.prog f args w (RetN w R') := e ▸ h
theorem sEq {f : Nat} {args : Array Value} {w : World} {R R' : List Sp.S} (h : Calls Tryz.prog f args w (RetS w R)) (e : R = R') : Calls Tryz.prog f args w (RetS w R') := e ▸ h
end Go.Proofs.YtnhmibfgaoealaaGreat
