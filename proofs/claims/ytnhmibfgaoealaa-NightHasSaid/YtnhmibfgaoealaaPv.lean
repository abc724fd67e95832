/-
  Words for layer 11: a time rounded.
-/
import Derived.Test.YtnhmibfgaoealaaPu
namespace Go.Proofs.Ytnhmibfgaoealaa
open Go.RowKit

def Ret2 (w : World) (a b : Int) (e : Ending) (w' : World) : Prop := e = .returned (.tuple #[.int .i64 a, .int .i64 b]) ∧ Ext w w'

theorem nParts (a b : Int) (a0 : 0 ≤ a) (a1 : a ≤ 32054400) (b0 : 1 ≤ b) (b1 : b ≤ 9223372036854775807) (w : World) : Calls Try.prog 104 #[.int .i64 a, .int .i64 b] w (Ret2 w (a / b) (a % b)) := by
  have h0 : (b == 0) = false := beq_false_of_ne (by omega)
  obtain ⟨q, hq, q0, q1⟩ : ∃ q, a / b = q ∧ 0 ≤ q ∧ q ≤ a := ⟨_, rfl, Int.ediv_nonneg a0 (by omega), Int.ediv_le_self _ a0⟩
  obtain ⟨r, hr, r0, r1⟩ : ∃ r, a % b = r ∧ 0 ≤ r ∧ r < b := ⟨_, rfl, Int.emod_nonneg _ (by omega), Int.emod_lt_of_pos _ (by omega)⟩
  have hd : a.tdiv b = q := by rw [← hq]; exact Int.tdiv_eq_ediv_of_nonneg a0
  have hm : a.tmod b = r := by rw [← hr]; exact Int.tmod_eq_emod_of_nonneg a0
  rw [hq, hr]
  clear hq hr
  have q2 : IntKind.i64.wrap q = q := IntWalk.i64_in _ (by omega)
  have r2 : IntKind.i64.wrap r = r := IntWalk.i64_in _ (by omega)
  have r3 : decide (r < 0) = false := decide_eq_false (by omega)
  go_enter Try.func104, Try.ntmps104
  go_wp2_with fail
  go_quiet (fail)
  go_wp2
  go_ret2
  exact ⟨rfl, (Ext.refl _).drewN _⟩

theorem nHalf (a b : Int) (a0 : 0 ≤ a) (a1 : a ≤ 32054400) (b0 : 1 ≤ b) (b1 : b ≤ 9223372036854775807) (w : World) : Calls Try.prog 72 #[.int .i64 a, .int .i64 b] w (Ret2 w (halfOf a b) 0) := by
  obtain ⟨q, hq, q0, q1⟩ : ∃ q, a / b = q ∧ 0 ≤ q ∧ q ≤ a := ⟨_, rfl, Int.ediv_nonneg a0 (by omega), Int.ediv_le_self _ a0⟩
  obtain ⟨r, hr, r0, r1⟩ : ∃ r, a % b = r ∧ 0 ≤ r ∧ r < b := ⟨_, rfl, Int.emod_nonneg _ (by omega), Int.emod_lt_of_pos _ (by omega)⟩
  have hp := fun w => nParts a b a0 a1 b0 b1 w
  rw [hq, hr] at hp
  unfold halfOf
  rw [hq, hr]
  clear hq hr
  by_cases h : b - r ≤ r
  · rw [if_pos h]
    have hp := Lib.hid hp
    go_enter Try.func72, Try.ntmps72
    go_wp2_with fail
    refine (hp.out _).mono ?_
    rintro e w1 ⟨rfl, x1⟩
    go_wp2
    go_ret2
    exact ⟨rfl, x1⟩
  · rw [if_neg h]
    have hp := Lib.hid hp
    go_enter Try.func72, Try.ntmps72
    go_wp2_with fail
    refine (hp.out _).mono ?_
    rintro e w1 ⟨rfl, x1⟩
    go_wp2
    go_ret2
    exact ⟨rfl, x1⟩

theorem pRound (t u : Int) (hu : u ≤ 9223372036854775807) (w : World) : Calls Try.prog 27 #[.int .i64 t, .int .i64 u] w (RetI w (roundOf t u)) := by
  obtain ⟨c, hc, c0, c1⟩ : ∃ c, min (max t 0) 32054400 = c ∧ 0 ≤ c ∧ c ≤ 32054400 := ⟨_, rfl, by omega, by omega⟩
  unfold roundOf
  rw [hc]
  have hc := Lib.hid hc
  by_cases h : u < 1
  · rw [if_pos h]
    go_enter Try.func27, Try.ntmps27
    go_wp2_with fail
    refine (iEq (pClamp _ _ _) hc.out).mono ?_
    rintro e w1 ⟨rfl, x1⟩
    go_wp2
    go_ret
    exact ⟨rfl, x1⟩
  · rw [if_neg h]
    obtain ⟨z0, z1⟩ := half_bd c u c0 c1 (by omega)
    have hp := fun w => nHalf c u c0 c1 (by omega) hu w
    obtain ⟨n, hn⟩ : ∃ n, halfOf c u = n := ⟨_, rfl⟩
    rw [hn] at hp z0 z1 ⊢
    clear hn
    obtain ⟨m, hm⟩ : ∃ m, min u 64108801 = m := ⟨_, rfl⟩
    rw [hm] at z0 z1 ⊢
    obtain ⟨y, hy⟩ : ∃ y, n * m = y := ⟨_, rfl⟩
    rw [hy] at z0 z1 ⊢
    have hp := Lib.hid hp
    go_enter Try.func27, Try.ntmps27
    go_wp2_with fail
    refine (iEq (pClamp _ _ _) hc.out).mono ?_
    rintro e w1 ⟨rfl, x1⟩
    go_wp2_with fail
    refine (hp.out _).mono ?_
    rintro e w2 ⟨rfl, x2⟩
    go_wp2
    go_ret
    exact ⟨rfl, x1.trans x2⟩
end Go.Proofs.Ytnhmibfgaoealaa
