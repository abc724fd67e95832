/-
  lumperref07.Check: the ratios.
-/
import Derived.Test.YtnhmibfgaoealaaMn
namespace Go.Proofs.Ytnhmibfgaoealaa
open Go.RowKit
set_option linter.unusedVariables false
set_option linter.unusedSimpArgs false

set_option maxRecDepth 100000 in
set_option maxHeartbeats 1000000 in
theorem rGcd : ∀ (m : Nat) (a b : Int), b.natAbs ≤ m → -9223372036854775807 ≤ a → a ≤ 9223372036854775807 → -9223372036854775807 ≤ b → b ≤ 9223372036854775807 → ∀ w : World,
    Calls Try.prog 156 #[.int .i64 a, .int .i64 b] w (RetI w ((Nat.gcd a.natAbs b.natAbs : Nat) : Int)) := by
  intro m
  induction m with
  | zero =>
    intro a b hm a0 a1 b0 b1 w
    obtain rfl : b = 0 := by omega
    have f1 : (a == -9223372036854775808) = false := by simp; omega
    have e1 : IntKind.i64.wrap (-a) = -a := IntWalk.i64_in _ (by omega)
    have e2 : max a (-a) = (a.natAbs : Int) := by omega
    have e3 : Nat.gcd a.natAbs (0 : Int).natAbs = a.natAbs := Nat.gcd_zero_right _
    rw [e3]
    go_enter Try.func156, Try.ntmps156
    go_wp2
    go_ret
    exact ⟨rfl, Ext.refl _⟩
  | succ m ih =>
    intro a b hm a0 a1 b0 b1 w
    have f1 : (a == -9223372036854775808) = false := by simp; omega
    have f2 : (b == -9223372036854775808) = false := by simp; omega
    have e1 : IntKind.i64.wrap (-a) = -a := IntWalk.i64_in _ (by omega)
    have e2 : IntKind.i64.wrap (-b) = -b := IntWalk.i64_in _ (by omega)
    obtain ⟨x, hx⟩ : ∃ x, a.natAbs = x := ⟨_, rfl⟩
    obtain ⟨y, hy⟩ : ∃ y, b.natAbs = y := ⟨_, rfl⟩
    have e3 : max a (-a) = (x : Int) := by omega
    have e4 : max b (-b) = (y : Int) := by omega
    have hxb : (x : Int) ≤ 9223372036854775807 := by omega
    have hyb : (y : Int) ≤ 9223372036854775807 := by omega
    rw [hx, hy]
    rw [hy] at hm
    clear hx hy a0 a1 b0 b1
    by_cases h0 : y = 0
    · subst h0
      rw [Nat.gcd_zero_right]
      have f3 : (((0 : Nat) : Int) == 0) = true := by decide
      clear ih hm
      go_enter Try.func156, Try.ntmps156
      go_wp2
      go_ret
      exact ⟨rfl, Ext.refl _⟩
    · have f3 : ((y : Int) == 0) = false := by simp; omega
      have f4 : ((0 : Int) == (y : Int)) = false := by simp; omega
      have hyz : (y : Int) ≠ 0 := by omega
      have ht : (x : Int).tmod (y : Int) = ((x % y : Nat) : Int) := by rw [Int.tmod_eq_emod_of_nonneg (by omega)]; rfl
      have hlt : x % y < y := Nat.mod_lt _ (by omega)
      have k := ih (y : Int) ((x % y : Nat) : Int) (by simp; omega) (by omega) hyb (by omega) (by omega) w
      rw [show Nat.gcd (y : Int).natAbs ((x % y : Nat) : Int).natAbs = Nat.gcd x y by rw [Int.natAbs_natCast, Int.natAbs_natCast, gcd_step]] at k
      replace k := Lib.hid k
      obtain ⟨z, hz⟩ : ∃ z, x % y = z := ⟨_, rfl⟩
      rw [hz] at k ht
      clear ih hm hlt hz
      go_enter Try.func156, Try.ntmps156
      go_wp2_with fail
      refine k.out.mono ?_
      rintro e w1 ⟨rfl, x1⟩
      go_wp2
      go_ret
      exact ⟨rfl, x1⟩

def rRatio (r : Int × Int) : Bool := decide (-2147483647 ≤ r.1 ∧ r.1 ≤ 2147483647 ∧ 1 ≤ r.2 ∧ r.2 ≤ 2147483647 ∧ Nat.gcd r.1.natAbs r.2.natAbs = 1)

set_option maxRecDepth 100000 in
set_option maxHeartbeats 1000000 in
theorem pRef02 (n d : Int) (w : World) : Calls Try.prog 141 #[.agg #[.int .i64 n, .int .i64 d]] w (RetB w (rRatio (n, d))) := by
  by_cases h1 : -2147483647 ≤ n
  · have f1 : decide (-2147483647 ≤ n) = true := decide_eq_true h1
    by_cases h2 : n ≤ 2147483647
    · have f2 : decide (n ≤ 2147483647) = true := decide_eq_true h2
      by_cases h3 : 1 ≤ d
      · have f3 : decide (1 ≤ d) = true := decide_eq_true h3
        by_cases h4 : d ≤ 2147483647
        · have f4 : decide (d ≤ 2147483647) = true := decide_eq_true h4
          have k := fun w => rGcd _ n d (Nat.le_refl _) (by omega) (by omega) (by omega) (by omega) w
          obtain ⟨G, hG⟩ : ∃ G, Nat.gcd n.natAbs d.natAbs = G := ⟨_, rfl⟩
          rw [hG] at k
          rw [show rRatio (n, d) = (((G : Nat) : Int) == 1) by
            unfold rRatio; rw [Bool.eq_iff_iff]; simp [hG]; omega]
          replace k := Lib.hid k
          clear hG h1 h2 h3 h4
          go_enter Try.func141, Try.ntmps141
          go_wp2_with fail
          refine (k.out _).mono ?_
          rintro e w1 ⟨rfl, x1⟩
          go_wp2
          go_ret
          exact ⟨rfl, ((Ext.refl w).alloc _).trans x1⟩
        · have f4 : decide (d ≤ 2147483647) = false := decide_eq_false h4
          rw [show rRatio (n, d) = false from decide_eq_false fun h => h4 (by simp at h; omega)]
          clear h1 h2 h3 h4
          go_enter Try.func141, Try.ntmps141
          go_wp2
          go_ret
          exact ⟨rfl, (Ext.refl _).alloc _⟩
      · have f3 : decide (1 ≤ d) = false := decide_eq_false h3
        rw [show rRatio (n, d) = false from decide_eq_false fun h => h3 (by simp at h; omega)]
        clear h1 h2 h3
        go_enter Try.func141, Try.ntmps141
        go_wp2
        go_ret
        exact ⟨rfl, (Ext.refl _).alloc _⟩
    · have f2 : decide (n ≤ 2147483647) = false := decide_eq_false h2
      rw [show rRatio (n, d) = false from decide_eq_false fun h => h2 (by simp at h; omega)]
      clear h1 h2
      go_enter Try.func141, Try.ntmps141
      go_wp2
      go_ret
      exact ⟨rfl, (Ext.refl _).alloc _⟩
  · have f1 : decide (-2147483647 ≤ n) = false := decide_eq_false h1
    rw [show rRatio (n, d) = false from decide_eq_false fun h => h1 (by simp at h; omega)]
    clear h1
    go_enter Try.func141, Try.ntmps141
    go_wp2
    go_ret
    exact ⟨rfl, (Ext.refl _).alloc _⟩

theorem share_ok (n d : Int) : (rRatio (n, d) && decide (0 ≤ n)) = okShare (n, d) := by
  unfold rRatio okShare
  rw [Bool.eq_iff_iff]
  simp only [Bool.and_eq_true, decide_eq_true_eq]
  constructor
  · rintro ⟨⟨a, b, c, e, f⟩, g⟩
    refine ⟨g, b, c, e, ?_⟩
    rw [show n.toNat = n.natAbs by omega, show d.toNat = d.natAbs by omega]; exact f
  · rintro ⟨a, b, c, e, f⟩
    refine ⟨⟨by omega, b, c, e, ?_⟩, a⟩
    rw [show n.natAbs = n.toNat by omega, show d.natAbs = d.toNat by omega]; exact f
set_option maxRecDepth 100000 in
set_option maxHeartbeats 1000000 in
theorem pRShare (n d : Int) (w : World) : Calls Try.prog 113 #[.agg #[.int .i64 n, .int .i64 d]] w (RetB w (okShare (n, d))) := by
  have k := fun w => pRef02 n d w
  rw [← share_ok]
  generalize rRatio (n, d) = b at k ⊢
  replace k := Lib.hid k
  go_enter Try.func113, Try.ntmps113
  go_wp2_with fail
  refine (k.out _).mono ?_
  rintro e w1 ⟨rfl, x1⟩
  have c0 : w1.cell? ⟨w.heap.size, 0, none⟩ = some (.int .i64 n) := by rw [x1.cell (p := ⟨w.heap.size, 0, none⟩) (by simp)]; simp
  cases b
  · go_wp2
    go_ret
    exact ⟨rfl, ((Ext.refl w).alloc _).trans x1⟩
  · go_wp2
    go_ret
    exact ⟨rfl, ((Ext.refl w).alloc _).trans x1⟩
theorem pRWithin (n lo hi : Int) (w : World) : Calls Try.prog 140 #[.int .i64 n, .int .i64 lo, .int .i64 hi] w (RetB w (okIn lo hi n)) := by
  by_cases h1 : lo ≤ n
  · have f1 : decide (lo ≤ n) = true := decide_eq_true h1
    rw [show okIn lo hi n = decide (n ≤ hi) by unfold okIn; simp [h1]]
    clear h1
    go_enter Try.func140, Try.ntmps140
    go_wp2
    go_ret
    exact ⟨rfl, Ext.refl _⟩
  · have f1 : decide (lo ≤ n) = false := decide_eq_false h1
    rw [show okIn lo hi n = false by unfold okIn; simp; omega]
    clear h1
    go_enter Try.func140, Try.ntmps140
    go_wp2
    go_ret
    exact ⟨rfl, Ext.refl _⟩
end Go.Proofs.Ytnhmibfgaoealaa
