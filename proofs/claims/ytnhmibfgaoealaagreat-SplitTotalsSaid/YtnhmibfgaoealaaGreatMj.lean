/-
  Words for layer 11: a number clamped, its day and week, the seconds of a day and of a week.
  Words for layer 11: a time rounded.
-/
import Derived.Test.YtnhmibfgaoealaaGreatApp
import Derived.Test.YtnhmibfgaoealaaGreatMi
import Derived.Test.YtnhmibfgaoealaaGreatMl
namespace Go.Proofs.YtnhmibfgaoealaaGreat
open Go.RowKit

theorem pClamp (n m : Int) (w : World) : Calls Tryz.prog 137 #[.int .i64 n, .int .i64 m] w (RetI w (min (max n 0) m)) := by
  go_enter Tryz.func137, Tryz.ntmps137
  go_wp2
  go_ret
  exact ⟨rfl, Ext.refl _⟩

theorem pOf (t s : Int) (hs : 1 ≤ s) (w : World) : Calls Tryz.prog 103 #[.int .i64 t, .int .i64 s] w (RetI w (min (max t 0) 32054399 / s)) := by
  have h0 : (s == 0) = false := beq_false_of_ne (by omega)
  obtain ⟨c, hc, c0, c1⟩ : ∃ c, min (max t 0) 32054399 = c ∧ 0 ≤ c ∧ c ≤ 32054399 := ⟨_, rfl, by omega, by omega⟩
  rw [hc]
  have hd : c.tdiv s = c / s := Int.tdiv_eq_ediv_of_nonneg c0
  have hd0 : 0 ≤ c / s := Int.ediv_nonneg c0 (by omega)
  have hd1 : c / s ≤ c := Int.ediv_le_self _ c0
  have hc := Lib.hid hc
  go_enter Tryz.func103, Tryz.ntmps103
  go_wp2_with fail
  refine (iEq (pClamp _ _ _) hc.out).mono ?_
  rintro e w1 ⟨rfl, x1⟩
  go_wp2
  go_ret
  exact ⟨rfl, x1⟩

theorem pDay (t : Int) (w : World) : Calls Tryz.prog 73 #[.int .i64 t] w (RetI w (dayOf t)) := by
  go_enter Tryz.func73, Tryz.ntmps73
  go_wp2_with fail
  refine (pOf t 86400 (by omega) _).mono ?_
  rintro e w1 ⟨rfl, x1⟩
  go_wp2
  go_ret
  exact ⟨rfl, x1⟩
theorem pPart {w : World} {A : Option Addr} {l : List Sp.S} (h : Rs w A l) (hl : l.length ≤ 900000) (cap : Nat) (n s : Int) (hs : s = 86400 ∨ s = 604800) : Calls Tryz.prog 62 #[.slice A l.length cap, .int .i64 n, .int .i64 s] w (RetS w (partS l n s)) := by
  have h0 : (s == 0) = false := beq_false_of_ne (by omega)
  have hd : (32054400 : Int).tdiv s = 32054400 / s := Int.tdiv_eq_ediv_of_nonneg (by omega)
  have hd0 : 0 ≤ 32054400 / s ∧ 32054400 / s ≤ 400 := by rcases hs with rfl | rfl <;> omega
  by_cases h1 : n < 0
  · have hp : partS l n s = [] := if_pos (.inl h1)
    rw [hp]
    go_enter Tryz.func62, Tryz.ntmps62
    go_wp2
    go_ret
    exact ⟨none, 0, rfl, .nil, Ext.refl _, own_nil _ _⟩
  · by_cases h2 : 32054400 / s < n
    · have hp : partS l n s = [] := if_pos (.inr h2)
      rw [hp]
      have f1 : decide (n < 0) = false := decide_eq_false h1
      go_enter Tryz.func62, Tryz.ntmps62
      go_wp2
      go_ret
      exact ⟨none, 0, rfl, .nil, Ext.refl _, own_nil _ _⟩
    · have hp : partS l n s = Sp.and_ l [(n * s, (n + 1) * s)] := if_neg (by omega)
      rw [hp]
      have f1 : decide (n < 0) = false := decide_eq_false h1
      have f2 : decide (32054400 / s < n) = false := decide_eq_false h2
      have hns : 0 ≤ n * s ∧ n * s ≤ 400000000 := by rcases hs with rfl | rfl <;> omega
      have hns1 : 0 ≤ (n + 1) * s ∧ (n + 1) * s ≤ 400000000 := by rcases hs with rfl | rfl <;> omega
      go_enter Tryz.func62, Tryz.ntmps62
      go_wp2_with fail
      refine (cAnd (h.alloc _) (Rs.new _ [(n * s, (n + 1) * s)] _) hl (by simp) _ 1).mono ?_
      rintro e w1 ⟨A1, cap1, rfl, r1, x1, o1⟩
      go_wp2
      go_ret
      exact ⟨A1, cap1, rfl, r1, ((Ext.refl _).alloc _).trans x1, own_base o1 (by simp)⟩

theorem pOfDay {w : World} {A : Option Addr} {l : List Sp.S} (h : Rs w A l) (hl : l.length ≤ 900000) (cap : Nat) (n : Int) : Calls Tryz.prog 36 #[.slice A l.length cap, .int .i64 n] w (RetS w (partS l n 86400)) := by
  go_enter Tryz.func36, Tryz.ntmps36
  go_wp2_with fail
  refine (pPart h hl _ n 86400 (.inl rfl)).mono ?_
  rintro e w1 ⟨A1, cap1, rfl, r1, x1, o1⟩
  go_wp2
  go_ret
  exact ⟨A1, cap1, rfl, r1, x1, o1⟩
theorem pOfWeek {w : World} {A : Option Addr} {l : List Sp.S} (h : Rs w A l) (hl : l.length ≤ 900000) (cap : Nat) (n : Int) : Calls Tryz.prog 24 #[.slice A l.length cap, .int .i64 n] w (RetS w (partS l n 604800)) := by
  go_enter Tryz.func24, Tryz.ntmps24
  go_wp2_with fail
  refine (pPart h hl _ n 604800 (.inr rfl)).mono ?_
  rintro e w1 ⟨A1, cap1, rfl, r1, x1, o1⟩
  go_wp2
  go_ret
  exact ⟨A1, cap1, rfl, r1, x1, o1⟩
end Go.Proofs.YtnhmibfgaoealaaGreat
namespace Go.Proofs.YtnhmibfgaoealaaGreat
open Go.RowKit

def Ret2 (w : World) (a b : Int) (e : Ending) (w' : World) : Prop := e = .returned (.tuple #[.int .i64 a, .int .i64 b]) ∧ Ext w w'

end Go.Proofs.YtnhmibfgaoealaaGreat
