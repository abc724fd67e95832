/-
  Words for layer 11: a number clamped, its day and week, the seconds of a day and of a week.
  Words for layer 11: a time rounded.
-/
import Derived.Test.YtnhmibfgaoealaaApp
import Derived.Test.YtnhmibfgaoealaaMi
import Derived.Test.YtnhmibfgaoealaaMl
namespace Go.Proofs.Ytnhmibfgaoealaa
open Go.RowKit

theorem pClamp (n m : Int) (w : World) : Calls Try.prog 71 #[.int .i64 n, .int .i64 m] w (RetI w (min (max n 0) m)) := by
  go_enter Try.func71, Try.ntmps71
  go_wp2
  go_ret
  exact ⟨rfl, Ext.refl _⟩

theorem pOf (t s : Int) (hs : 1 ≤ s) (w : World) : Calls Try.prog 73 #[.int .i64 t, .int .i64 s] w (RetI w (min (max t 0) 32054399 / s)) := by
  have h0 : (s == 0) = false := beq_false_of_ne (by omega)
  obtain ⟨c, hc, c0, c1⟩ : ∃ c, min (max t 0) 32054399 = c ∧ 0 ≤ c ∧ c ≤ 32054399 := ⟨_, rfl, by omega, by omega⟩
  rw [hc]
  have hd : c.tdiv s = c / s := Int.tdiv_eq_ediv_of_nonneg c0
  have hd0 : 0 ≤ c / s := Int.ediv_nonneg c0 (by omega)
  have hd1 : c / s ≤ c := Int.ediv_le_self _ c0
  have hc := Lib.hid hc
  go_enter Try.func73, Try.ntmps73
  go_wp2_with fail
  refine (iEq (pClamp _ _ _) hc.out).mono ?_
  rintro e w1 ⟨rfl, x1⟩
  go_wp2
  go_ret
  exact ⟨rfl, x1⟩

theorem pDay (t : Int) (w : World) : Calls Try.prog 28 #[.int .i64 t] w (RetI w (dayOf t)) := by
  go_enter Try.func28, Try.ntmps28
  go_wp2_with fail
  refine (pOf t 86400 (by omega) _).mono ?_
  rintro e w1 ⟨rfl, x1⟩
  go_wp2
  go_ret
  exact ⟨rfl, x1⟩
theorem pWeek (t : Int) (w : World) : Calls Try.prog 29 #[.int .i64 t] w (RetI w (weekOf t)) := by
  go_enter Try.func29, Try.ntmps29
  go_wp2_with fail
  refine (pOf t 604800 (by omega) _).mono ?_
  rintro e w1 ⟨rfl, x1⟩
  go_wp2
  go_ret
  exact ⟨rfl, x1⟩


theorem pPart {w : World} {A : Option Addr} {l : List Sp.S} (h : Rs w A l) (hl : l.length ≤ 900000) (cap : Nat) (n s : Int) (hs : s = 86400 ∨ s = 604800) : Calls Try.prog 75 #[.slice A l.length cap, .int .i64 n, .int .i64 s] w (RetS w (partS l n s)) := by
  have h0 : (s == 0) = false := beq_false_of_ne (by omega)
  have hd : (32054400 : Int).tdiv s = 32054400 / s := Int.tdiv_eq_ediv_of_nonneg (by omega)
  have hd0 : 0 ≤ 32054400 / s ∧ 32054400 / s ≤ 400 := by rcases hs with rfl | rfl <;> omega
  by_cases h1 : n < 0
  · have hp : partS l n s = [] := if_pos (.inl h1)
    rw [hp]
    go_enter Try.func75, Try.ntmps75
    go_wp2
    go_ret
    exact ⟨none, 0, rfl, .nil, Ext.refl _, own_nil _ _⟩
  · by_cases h2 : 32054400 / s < n
    · have hp : partS l n s = [] := if_pos (.inr h2)
      rw [hp]
      have f1 : decide (n < 0) = false := decide_eq_false h1
      go_enter Try.func75, Try.ntmps75
      go_wp2
      go_ret
      exact ⟨none, 0, rfl, .nil, Ext.refl _, own_nil _ _⟩
    · have hp : partS l n s = Sp.and_ l [(n * s, (n + 1) * s)] := if_neg (by omega)
      rw [hp]
      have f1 : decide (n < 0) = false := decide_eq_false h1
      have f2 : decide (32054400 / s < n) = false := decide_eq_false h2
      have hns : 0 ≤ n * s ∧ n * s ≤ 400000000 := by rcases hs with rfl | rfl <;> omega
      have hns1 : 0 ≤ (n + 1) * s ∧ (n + 1) * s ≤ 400000000 := by rcases hs with rfl | rfl <;> omega
      go_enter Try.func75, Try.ntmps75
      go_wp2_with fail
      refine (cAnd (h.alloc _) (Rs.new _ [(n * s, (n + 1) * s)] _) hl (by simp) _ 1).mono ?_
      rintro e w1 ⟨A1, cap1, rfl, r1, x1, o1⟩
      go_wp2
      go_ret
      exact ⟨A1, cap1, rfl, r1, ((Ext.refl _).alloc _).trans x1, own_base o1 (by simp)⟩

theorem pOfDay {w : World} {A : Option Addr} {l : List Sp.S} (h : Rs w A l) (hl : l.length ≤ 900000) (cap : Nat) (n : Int) : Calls Try.prog 32 #[.slice A l.length cap, .int .i64 n] w (RetS w (partS l n 86400)) := by
  go_enter Try.func32, Try.ntmps32
  go_wp2_with fail
  refine (pPart h hl _ n 86400 (.inl rfl)).mono ?_
  rintro e w1 ⟨A1, cap1, rfl, r1, x1, o1⟩
  go_wp2
  go_ret
  exact ⟨A1, cap1, rfl, r1, x1, o1⟩
theorem pOfWeek {w : World} {A : Option Addr} {l : List Sp.S} (h : Rs w A l) (hl : l.length ≤ 900000) (cap : Nat) (n : Int) : Calls Try.prog 35 #[.slice A l.length cap, .int .i64 n] w (RetS w (partS l n 604800)) := by
  go_enter Try.func35, Try.ntmps35
  go_wp2_with fail
  refine (pPart h hl _ n 604800 (.inr rfl)).mono ?_
  rintro e w1 ⟨A1, cap1, rfl, r1, x1, o1⟩
  go_wp2
  go_ret
  exact ⟨A1, cap1, rfl, r1, x1, o1⟩
end Go.Proofs.Ytnhmibfgaoealaa
namespace Go.Proofs.Ytnhmibfgaoealaa
open Go.RowKit

def Ret2 (w : World) (a b : Int) (e : Ending) (w' : World) : Prop := e = .returned (.tuple #[.int .i64 a, .int .i64 b]) ∧ Ext w w'

theorem nParts (a b : Int) (a0 : 0 ≤ a) (a1 : a ≤ 32054400) (b0 : 1 ≤ b) (b1 : b ≤ 9223372036854775807) (w : World) : Calls Try.prog 104 #[.int .i64 a, .int .i64 b] w (Ret2 w (a / b) (a % b)) := by
  have h0 : (b == 0) = false := beq_false_of_ne (by omega)
  obtain ⟨q, hq, q0, q1⟩ : ∃ q, a / b = q ∧ 0 ≤ q ∧ q ≤ a := ⟨_, rfl, Int.ediv_nonneg a0 (by omega), Int.ediv_le_self _ a0⟩
  obtain ⟨r, hr, r0, r1⟩ : ∃ r, a % b = r ∧ 0 ≤ r ∧ r < b := ⟨_, rfl, Int.emod_nonneg _ (by omega), Int.emod_lt_of_pos _ (by omega)⟩
  have hd : a.tdiv b = q := by rw [← hq]; exact Int.tdiv_eq_ediv_of_nonneg a0
  have hm : a.tmod b = r := by rw [← hr]; exact Int.tmod_eq_emod_of_nonneg a0
  rw [hq, hr]
  clear hq hr
  have q2 : IntKind.i64.wrap q = q := IntWalk.i64_in _ (by omega)
  have r2 : IntKind.i64.wrap r = r := IntWalk.i64_in _ (by omega)
  have r3 : decide (r < 0) = false := decide_eq_false (by omega)
  go_enter Try.func104, Try.ntmps104
  go_wp2_with fail
  go_quiet (fail)
  go_wp2
  go_ret2
  exact ⟨rfl, (Ext.refl _).drewN _⟩

theorem nHalf (a b : Int) (a0 : 0 ≤ a) (a1 : a ≤ 32054400) (b0 : 1 ≤ b) (b1 : b ≤ 9223372036854775807) (w : World) : Calls Try.prog 72 #[.int .i64 a, .int .i64 b] w (Ret2 w (halfOf a b) 0) := by
  obtain ⟨q, hq, q0, q1⟩ : ∃ q, a / b = q ∧ 0 ≤ q ∧ q ≤ a := ⟨_, rfl, Int.ediv_nonneg a0 (by omega), Int.ediv_le_self _ a0⟩
  obtain ⟨r, hr, r0, r1⟩ : ∃ r, a % b = r ∧ 0 ≤ r ∧ r < b := ⟨_, rfl, Int.emod_nonneg _ (by omega), Int.emod_lt_of_pos _ (by omega)⟩
  have hp := fun w => nParts a b a0 a1 b0 b1 w
  rw [hq, hr] at hp
  unfold halfOf
  rw [hq, hr]
  clear hq hr
  by_cases h : b - r ≤ r
  · rw [if_pos h]
    have hp := Lib.hid hp
    go_enter Try.func72, Try.ntmps72
    go_wp2_with fail
    refine (hp.out _).mono ?_
    rintro e w1 ⟨rfl, x1⟩
    go_wp2
    go_ret2
    exact ⟨rfl, x1⟩
  · rw [if_neg h]
    have hp := Lib.hid hp
    go_enter Try.func72, Try.ntmps72
    go_wp2_with fail
    refine (hp.out _).mono ?_
    rintro e w1 ⟨rfl, x1⟩
    go_wp2
    go_ret2
    exact ⟨rfl, x1⟩

theorem pRound (t u : Int) (hu : u ≤ 9223372036854775807) (w : World) : Calls Try.prog 27 #[.int .i64 t, .int .i64 u] w (RetI w (roundOf t u)) := by
  obtain ⟨c, hc, c0, c1⟩ : ∃ c, min (max t 0) 32054400 = c ∧ 0 ≤ c ∧ c ≤ 32054400 := ⟨_, rfl, by omega, by omega⟩
  unfold roundOf
  rw [hc]
  have hc := Lib.hid hc
  by_cases h : u < 1
  · rw [if_pos h]
    go_enter Try.func27, Try.ntmps27
    go_wp2_with fail
    refine (iEq (pClamp _ _ _) hc.out).mono ?_
    rintro e w1 ⟨rfl, x1⟩
    go_wp2
    go_ret
    exact ⟨rfl, x1⟩
  · rw [if_neg h]
    obtain ⟨z0, z1⟩ := half_bd c u c0 c1 (by omega)
    have hp := fun w => nHalf c u c0 c1 (by omega) hu w
    obtain ⟨n, hn⟩ : ∃ n, halfOf c u = n := ⟨_, rfl⟩
    rw [hn] at hp z0 z1 ⊢
    clear hn
    obtain ⟨m, hm⟩ : ∃ m, min u 64108801 = m := ⟨_, rfl⟩
    rw [hm] at z0 z1 ⊢
    obtain ⟨y, hy⟩ : ∃ y, n * m = y := ⟨_, rfl⟩
    rw [hy] at z0 z1 ⊢
    have hp := Lib.hid hp
    go_enter Try.func27, Try.ntmps27
    go_wp2_with fail
    refine (iEq (pClamp _ _ _) hc.out).mono ?_
    rintro e w1 ⟨rfl, x1⟩
    go_wp2_with fail
    refine (hp.out _).mono ?_
    rintro e w2 ⟨rfl, x2⟩
    go_wp2
    go_ret
    exact ⟨rfl, x1.trans x2⟩
end Go.Proofs.Ytnhmibfgaoealaa
