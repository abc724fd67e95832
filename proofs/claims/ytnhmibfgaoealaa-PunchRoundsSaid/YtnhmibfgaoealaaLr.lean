/-
  Laws of layer 11.
-/
import Derived.Test.YtnhmibfgaoealaaBx
namespace Go.Proofs.Ytnhmibfgaoealaa
open Go.RowKit
set_option linter.unusedVariables false
set_option linter.unusedSimpArgs false


set_option maxRecDepth 100000 in
set_option maxHeartbeats 1000000 in
theorem rounds11_0 (t u n a b : Int) (ht : 0 ≤ t ∧ t ≤ 4294967295) (hu : 0 ≤ u ∧ u ≤ 4294967295) (hn : 0 ≤ n ∧ n ≤ 65535) (ha : t % 31000000 = a) (hb : u % 31000000 = b) (hab : a ≤ b) (w : World) : Calls Try.prog 3 #[.int .u32 t, .int .u32 u, .int .u16 n] w (RetB w true) := by
  have a0 : 0 ≤ a ∧ a < 31000000 := by omega
  have b0 : 0 ≤ b ∧ b < 31000000 := by omega
  have k0 : ((n : Int) + 1 == 0) = false := beq_false_of_ne (by omega)
  obtain ⟨x, hx⟩ : ∃ x, roundOf a (n + 1) = x := ⟨_, rfl⟩
  obtain ⟨y, hy⟩ : ∃ x, roundOf b (n + 1) = x := ⟨_, rfl⟩
  obtain ⟨r1, r2, r3, r4⟩ := round_near a0.1 a0.2 (show 1 ≤ n + 1 by omega) (show n + 1 ≤ 65536 by omega)
  obtain ⟨_, _, s3, s4⟩ := round_near b0.1 b0.2 (show 1 ≤ n + 1 by omega) (show n + 1 ≤ 65536 by omega)
  have m1 := round_mod a0.1 a0.2 (show 1 ≤ n + 1 by omega) (show n + 1 ≤ 65536 by omega)
  have z1 := round_again a0.1 a0.2 (show 1 ≤ n + 1 by omega) (show n + 1 ≤ 65536 by omega)
  have o1 := round_mono a0.1 b0.2 (show 1 ≤ n + 1 by omega) (show n + 1 ≤ 65536 by omega) hab
  rw [hx, hy] at o1
  have kx := fun w => pRound a (n + 1) (by omega) w
  have ky := fun w => pRound b (n + 1) (by omega) w
  have kz := fun w => pRound x (n + 1) (by omega) w
  rw [hx] at kx r1 r2 r3 r4 m1 z1; rw [hy] at ky s3 s4
  rw [z1] at kz
  have m2 : x.tmod (n + 1) = 0 := by rw [Int.tmod_eq_emod_of_nonneg r3]; exact m1
  have ta : t.tmod 31000000 = a := by rw [Int.tmod_eq_emod_of_nonneg ht.1]; exact ha
  have tb : u.tmod 31000000 = b := by rw [Int.tmod_eq_emod_of_nonneg hu.1]; exact hb
  replace kx := Lib.hid kx; replace ky := Lib.hid ky; replace kz := Lib.hid kz
  clear hx hy z1
  go_enter Try.func3, Try.ntmps3
  go_wp2_with fail
  refine (awake11 _).mono ?_
  rintro e w1 ⟨rfl, x1⟩
  have X1 := (Ext.refl _).trans x1
  go_wp2_with fail
  refine (kx.out _).mono ?_
  rintro e w2 ⟨rfl, x2⟩
  have X2 := X1.trans x2
  go_wp2_with fail
  refine (ky.out _).mono ?_
  rintro e w3 ⟨rfl, x3⟩
  have X3 := X2.trans x3
  go_wp2_with fail
  refine (kz.out _).mono ?_
  rintro e w4 ⟨rfl, x4⟩
  have X4 := X3.trans x4
  go_wp2
  go_ret
  exact ⟨rfl, X4⟩

set_option maxRecDepth 100000 in
set_option maxHeartbeats 1000000 in
theorem rounds11_1 (t u n a b : Int) (ht : 0 ≤ t ∧ t ≤ 4294967295) (hu : 0 ≤ u ∧ u ≤ 4294967295) (hn : 0 ≤ n ∧ n ≤ 65535) (ha : t % 31000000 = a) (hb : u % 31000000 = b) (hab : b < a) (w : World) : Calls Try.prog 3 #[.int .u32 t, .int .u32 u, .int .u16 n] w (RetB w true) := by
  have a0 : 0 ≤ a ∧ a < 31000000 := by omega
  have b0 : 0 ≤ b ∧ b < 31000000 := by omega
  have k0 : ((n : Int) + 1 == 0) = false := beq_false_of_ne (by omega)
  obtain ⟨x, hx⟩ : ∃ x, roundOf a (n + 1) = x := ⟨_, rfl⟩
  obtain ⟨y, hy⟩ : ∃ x, roundOf b (n + 1) = x := ⟨_, rfl⟩
  obtain ⟨r1, r2, r3, r4⟩ := round_near a0.1 a0.2 (show 1 ≤ n + 1 by omega) (show n + 1 ≤ 65536 by omega)
  obtain ⟨_, _, s3, s4⟩ := round_near b0.1 b0.2 (show 1 ≤ n + 1 by omega) (show n + 1 ≤ 65536 by omega)
  have m1 := round_mod a0.1 a0.2 (show 1 ≤ n + 1 by omega) (show n + 1 ≤ 65536 by omega)
  have z1 := round_again a0.1 a0.2 (show 1 ≤ n + 1 by omega) (show n + 1 ≤ 65536 by omega)
  have kx := fun w => pRound a (n + 1) (by omega) w
  have ky := fun w => pRound b (n + 1) (by omega) w
  have kz := fun w => pRound x (n + 1) (by omega) w
  rw [hx] at kx r1 r2 r3 r4 m1 z1; rw [hy] at ky s3 s4
  rw [z1] at kz
  have m2 : x.tmod (n + 1) = 0 := by rw [Int.tmod_eq_emod_of_nonneg r3]; exact m1
  have ta : t.tmod 31000000 = a := by rw [Int.tmod_eq_emod_of_nonneg ht.1]; exact ha
  have tb : u.tmod 31000000 = b := by rw [Int.tmod_eq_emod_of_nonneg hu.1]; exact hb
  replace kx := Lib.hid kx; replace ky := Lib.hid ky; replace kz := Lib.hid kz
  clear hx hy z1
  go_enter Try.func3, Try.ntmps3
  go_wp2_with fail
  refine (awake11 _).mono ?_
  rintro e w1 ⟨rfl, x1⟩
  have X1 := (Ext.refl _).trans x1
  go_wp2_with fail
  refine (kx.out _).mono ?_
  rintro e w2 ⟨rfl, x2⟩
  have X2 := X1.trans x2
  go_wp2_with fail
  refine (ky.out _).mono ?_
  rintro e w3 ⟨rfl, x3⟩
  have X3 := X2.trans x3
  go_wp2_with fail
  refine (kz.out _).mono ?_
  rintro e w4 ⟨rfl, x4⟩
  have X4 := X3.trans x4
  go_wp2
  go_ret
  exact ⟨rfl, X4⟩

theorem rounds11 (t u n : Int) (ht : 0 ≤ t ∧ t ≤ 4294967295) (hu : 0 ≤ u ∧ u ≤ 4294967295) (hn : 0 ≤ n ∧ n ≤ 65535) (w : World) : Calls Try.prog 3 #[.int .u32 t, .int .u32 u, .int .u16 n] w (RetB w true) := by
  by_cases h : u % 31000000 < t % 31000000
  · exact rounds11_1 t u n _ _ ht hu hn rfl rfl h w
  · exact rounds11_0 t u n _ _ ht hu hn rfl rfl (by omega) w
end Go.Proofs.Ytnhmibfgaoealaa
