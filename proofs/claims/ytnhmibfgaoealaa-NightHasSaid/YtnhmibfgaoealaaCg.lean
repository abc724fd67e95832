/-
  Words of layers 1 and 2: the greatest divisor, and which ratios may be (not below 0).
-/
import Derived.Test.YtnhmibfgaoealaaCk0
import Derived.Test.YtnhmibfgaoealaaNorm
import Derived.Test.YtnhmibfgaoealaaBx
namespace Go.Proofs.Ytnhmibfgaoealaa
open Go.RowKit
set_option linter.unusedVariables false
set_option linter.unusedSimpArgs false

theorem pSide (a : Int) (h0 : 0 ≤ a) (w : World) : Calls Try.prog 163 #[.int .i64 a] w (RetI w a) := by
  have f1 : (a == -9223372036854775808) = false := beq_false_of_ne (by omega)
  have f2 : decide (a < 0) = false := decide_eq_false (by omega)
  go_enter Try.func163, Try.ntmps163
  go_wp2
  go_ret
  exact ⟨rfl, Ext.refl _⟩

set_option maxRecDepth 100000 in
theorem pGcd (a b : Int) (a0 : 0 ≤ a) (a1 : a ≤ 9223372036854775807) (b0 : 0 ≤ b) (b1 : b ≤ 9223372036854775807) (w : World) : Calls Try.prog 162 #[.int .i64 a, .int .i64 b] w (RetI w ((Nat.gcd a.toNat b.toNat : Nat) : Int)) := by
  obtain ⟨G, hG⟩ : ∃ G, Nat.gcd a.toNat b.toNat = G := ⟨_, rfl⟩
  rw [hG]
  replace hG := Lib.hid hG
  go_enter Try.func162, Try.ntmps162
  go_wp2_with fail
  refine (pSide a a0 _).mono ?_
  rintro e w1 ⟨rfl, x1⟩
  go_wp2_with fail
  refine (pSide b b0 _).mono ?_
  rintro e w2 ⟨rfl, x2⟩
  have X := x1.trans x2
  go_wp2_with fail
  go_loopw [0, 1] (fun u v wr => ∃ x y : Int, (0 ≤ x ∧ x ≤ 9223372036854775807) ∧ (0 ≤ y ∧ y ≤ 9223372036854775807) ∧ u = .int .i64 x ∧ v = .int .i64 y ∧ Hid (Nat.gcd x.toNat y.toNat = G) ∧ Hid (Ext w wr)) (fun _ v _ => (intOf v).toNat)
  case atStart => exact ⟨a, b, ⟨a0, a1⟩, ⟨b0, b1⟩, rfl, rfl, hG, X⟩
  case round =>
    obtain ⟨x, y, ⟨x0, x1⟩, ⟨y0, y1⟩, rfl, rfl, HG, HX⟩ := hrel
    clear hG X
    by_cases hy : 0 < y
    · have f1 : (y == 0) = false := beq_false_of_ne (by omega)
      have r0 : 0 ≤ x % y := Int.emod_nonneg _ (by omega)
      have r1 : x % y < y := Int.emod_lt_of_pos _ hy
      have q : x.tmod y = x % y := Int.tmod_eq_emod_of_nonneg x0
      have g1 : Hid (Nat.gcd y.toNat (x % y).toNat = G) := by show _ = _; rw [Int.toNat_emod x0 y0, gcd_step]; exact HG.out
      go_wp2_with fail
      go_quiet (fail)
      go_wp2
      go_roundw
      case rel => exact ⟨y, x % y, ⟨y0, y1⟩, ⟨r0, by omega⟩, rfl, by rw [← q], g1, HX.out.drewN _⟩
      case measure => simp [intOf]; omega
    · obtain rfl : y = 0 := by omega
      have g1 : Hid (x = (G : Int)) := by
        have := HG.out
        simp at this
        show _ = _
        omega
      go_wp2
      go_ret
      exact ⟨by rw [g1.out]; rfl, HX.out⟩

theorem Ext.two {w w' : World} (h : Ext w w') (u v : Value) : Ext w ((w'.setCell ⟨w.heap.size, 0, none⟩ u).setCell ⟨w.heap.size, 1, none⟩ v) :=
  Below.setCell (p := ⟨w.heap.size, 1, none⟩) (Below.setCell (p := ⟨w.heap.size, 0, none⟩) h (Nat.le_refl _) u) (Nat.le_refl _) v
theorem results_ratio {fn : Func} {p q : Tmp} (h : fn.results = #[.cell p 29, .tmp q]) (tmps : Array Value) (w : World) (g : Nat) (a b : Value)
    (hp : tmps.getD p undef = .pointer (some ⟨g, 0, none⟩)) (ha : w.cell? ⟨g, 0, none⟩ = some a) (hb : w.cell? ⟨g, 1, none⟩ = some b) : (results fn tmps).run Try.prog w = .ok (.tuple #[.agg #[a, b], tmps.getD q undef]) w := by
  have hp' : tmps[p]?.getD undef = .pointer (some ⟨g, 0, none⟩) := by simpa using hp
  have u := Try.underlying29
  simp [results, h, hp', asAddr]
  go_simp

/-- The numbers of a ratio that is made. -/
def RetMake (w : World) (n d e : Int) (x : Ending) (w' : World) : Prop := x = .returned (.tuple #[.agg #[.int .i64 n, .int .i64 d], .int .i64 e]) ∧ Ext w w'

theorem results_ratio1 {fn : Func} {p : Tmp} (h : fn.results = #[.cell p 29]) (tmps : Array Value) (w : World) (g : Nat) (a b : Value)
    (hp : tmps.getD p undef = .pointer (some ⟨g, 0, none⟩)) (ha : w.cell? ⟨g, 0, none⟩ = some a) (hb : w.cell? ⟨g, 1, none⟩ = some b) : (results fn tmps).run Try.prog w = .ok (.agg #[a, b]) w := by
  have hp' : tmps[p]?.getD undef = .pointer (some ⟨g, 0, none⟩) := by simpa using hp
  have u := Try.underlying29
  simp [results, h, hp', asAddr]
  go_simp

theorem pZero (w : World) : Calls Try.prog 161 #[] w fun e w' => e = .returned (.agg #[.int .i64 0, .int .i64 1]) ∧ Ext w w' := by
  go_enter Try.func161, Try.ntmps161
  go_wp2
  refine bodyPost_ret (results_ratio1 rfl _ _ w.heap.size (.int .i64 0) (.int .i64 1) rfl (by go_simp) (by go_simp)) rfl ⟨rfl, ?_⟩
  exact (Ext.refl _).alloc _

def mk2s (n d : Int) : Int × Int × Int :=
  if d ≤ 0 then (0, 0, 20) else if n = 0 then (0, 1, 0) else if 2147483647 < n / (Nat.gcd n.toNat d.toNat : Nat) ∨ 2147483647 < d / (Nat.gcd n.toNat d.toNat : Nat) then (0, 0, 10) else (n / (Nat.gcd n.toNat d.toNat : Nat), d / (Nat.gcd n.toNat d.toNat : Nat), 0)

theorem mk2s_ok (n d : Int) (n0 : 0 ≤ n) : okShare (n, d) = (decide ((mk2s n d).2.2 = 0) && decide ((mk2s n d).1 = n ∧ (mk2s n d).2.1 = d)) := by
  rw [Bool.eq_iff_iff, Bool.and_eq_true, decide_eq_true_iff, decide_eq_true_iff]
  unfold okShare
  rw [decide_eq_true_iff]
  show (0 ≤ n ∧ n ≤ 2147483647 ∧ 1 ≤ d ∧ d ≤ 2147483647 ∧ Nat.gcd n.toNat d.toNat = 1) ↔ _
  unfold mk2s
  by_cases hd : d ≤ 0
  · rw [if_pos hd]; simp; omega
  · rw [if_neg hd]
    by_cases hn : n = 0
    · subst hn
      rw [if_pos rfl, show Nat.gcd (0 : Int).toNat d.toNat = d.toNat from Nat.gcd_zero_left _]
      show _ ↔ (0 : Int) = 0 ∧ (0 : Int) = 0 ∧ 1 = d
      omega
    · rw [if_neg hn]
      have g0 : 0 < Nat.gcd n.toNat d.toNat := Nat.gcd_pos_of_pos_left _ (by omega)
      generalize Nat.gcd n.toNat d.toNat = G at g0 ⊢
      have l1 : n / (G : Int) ≤ n := Int.ediv_le_self _ n0
      have l2 : d / (G : Int) ≤ d := Int.ediv_le_self _ (by omega)
      by_cases hG1 : G = 1
      · subst hG1
        rw [show ((1 : Nat) : Int) = 1 from rfl, Int.ediv_one, Int.ediv_one]
        split
        · simp; omega
        · simp; omega
      · have : ¬ n / (G : Int) = n := fun h => by
          have h2 : n * 1 < n * (G : Int) := Int.mul_lt_mul_of_pos_left (by omega) (by omega)
          have h3 := Int.mul_ediv_self_le (x := n) (k := (G : Int)) (by omega)
          rw [h] at h3
          have h4 : (G : Int) * n = n * G := Int.mul_comm _ _
          omega
        split
        · simp [hG1]
        · simp [hG1, this]

set_option maxRecDepth 100000 in
theorem pMake (n d : Int) (n0 : 0 ≤ n) (n1 : n ≤ 9223372036854775807) (d1 : d ≤ 9223372036854775807) (w : World) : Calls Try.prog 159 #[.int .i64 n, .int .i64 d] w (RetMake w (mk2s n d).1 (mk2s n d).2.1 (mk2s n d).2.2) := by
  by_cases hd : d ≤ 0
  · have e : mk2s n d = (0, 0, 20) := if_pos hd
    rw [e]
    go_enter Try.func159, Try.ntmps159
    go_wp2
    refine bodyPost_ret (results_ratio rfl _ _ w.heap.size (.int .i64 0) (.int .i64 0) rfl (by go_simp) (by go_simp)) rfl ⟨rfl, ?_⟩
    exact (Ext.refl _).alloc _
  · have f1 : decide (d ≤ 0) = false := decide_eq_false (by omega)
    by_cases hn : n = 0
    · subst hn
      have e : mk2s 0 d = (0, 1, 0) := (if_neg hd).trans (if_pos rfl)
      rw [e]
      go_enter Try.func159, Try.ntmps159
      go_wp2_with fail
      refine (pZero _).mono ?_
      rintro e w1 ⟨rfl, x1⟩
      have hb := (Bx.new w [.int .i64 0, .int .i64 0] 29).ext x1
      have c0 := hb.cell 0 _ rfl
      have c1 := hb.cell 1 _ rfl
      have z0 := hb.frozen 0
      have z1 := hb.frozen 1
      go_wp2
      refine bodyPost_ret (results_ratio rfl _ _ w.heap.size (.int .i64 0) (.int .i64 1) rfl (by go_simp) (by go_simp)) rfl ⟨rfl, ?_⟩
      exact Ext.two (((Ext.refl _).alloc _).trans x1) _ _
    · have f2 : (n == 0) = false := beq_false_of_ne hn
      have hG := fun w => pGcd n d n0 n1 (by omega) d1 w
      have g0 : 0 < Nat.gcd n.toNat d.toNat := Nat.gcd_pos_of_pos_left _ (by omega)
      have e : mk2s n d = if 2147483647 < n / (Nat.gcd n.toNat d.toNat : Nat) ∨ 2147483647 < d / (Nat.gcd n.toNat d.toNat : Nat) then (0, 0, 10) else (n / (Nat.gcd n.toNat d.toNat : Nat), d / (Nat.gcd n.toNat d.toNat : Nat), 0) := (if_neg hd).trans (if_neg hn)
      rw [e]
      generalize Nat.gcd n.toNat d.toNat = G at hG g0 ⊢
      have f3 : ((G : Int) == 0) = false := beq_false_of_ne (by omega)
      have q1 : n.tdiv (G : Int) = n / (G : Int) := Int.tdiv_eq_ediv_of_nonneg n0
      have q2 : d.tdiv (G : Int) = d / (G : Int) := Int.tdiv_eq_ediv_of_nonneg (by omega)
      have l1 : n / (G : Int) ≤ n := Int.ediv_le_self _ n0
      have l2 : d / (G : Int) ≤ d := Int.ediv_le_self _ (by omega)
      have l3 : 0 ≤ n / (G : Int) := Int.ediv_nonneg n0 (by omega)
      have l4 : 0 ≤ d / (G : Int) := Int.ediv_nonneg (by omega) (by omega)
      generalize n / (G : Int) = a at q1 l1 l3 ⊢
      generalize d / (G : Int) = b at q2 l2 l4 ⊢
      replace hG := Lib.hid hG
      by_cases ha : 2147483647 < a
      · rw [if_pos (.inl ha)]
        go_enter Try.func159, Try.ntmps159
        go_wp2_with fail
        refine (hG.out _).mono ?_
        rintro e w1 ⟨rfl, x1⟩
        have hb := (Bx.new w [.int .i64 0, .int .i64 0] 29).ext x1
        have c0 := hb.cell 0 _ rfl
        have c1 := hb.cell 1 _ rfl
        have z0 := hb.frozen 0
        have z1 := hb.frozen 1
        go_wp2_with fail
        go_quiet (fail)
        go_wp2
        refine bodyPost_ret (results_ratio rfl _ _ w.heap.size (.int .i64 0) (.int .i64 0) rfl (by go_simp) (by go_simp)) rfl ⟨rfl, ?_⟩
        exact Ext.two ((((Ext.refl _).alloc _).trans x1).drewN _) _ _
      · have f4 : decide (2147483647 < a) = false := decide_eq_false ha
        have f5 : decide (a < -2147483647) = false := decide_eq_false (by omega)
        by_cases hb2 : 2147483647 < b
        · rw [if_pos (.inr hb2)]
          go_enter Try.func159, Try.ntmps159
          go_wp2_with fail
          refine (hG.out _).mono ?_
          rintro e w1 ⟨rfl, x1⟩
          have hb := (Bx.new w [.int .i64 0, .int .i64 0] 29).ext x1
          have c0 := hb.cell 0 _ rfl
          have c1 := hb.cell 1 _ rfl
          have z0 := hb.frozen 0
          have z1 := hb.frozen 1
          go_wp2_with fail
          go_quiet (fail)
          go_wp2
          refine bodyPost_ret (results_ratio rfl _ _ w.heap.size (.int .i64 0) (.int .i64 0) rfl (by go_simp) (by go_simp)) rfl ⟨rfl, ?_⟩
          exact Ext.two ((((Ext.refl _).alloc _).trans x1).drewN _) _ _
        · rw [if_neg (by omega)]
          have f6 : decide (2147483647 < b) = false := decide_eq_false hb2
          go_enter Try.func159, Try.ntmps159
          go_wp2_with fail
          refine (hG.out _).mono ?_
          rintro e w1 ⟨rfl, x1⟩
          have hb := (Bx.new w [.int .i64 0, .int .i64 0] 29).ext x1
          have c0 := hb.cell 0 _ rfl
          have c1 := hb.cell 1 _ rfl
          have z0 := hb.frozen 0
          have z1 := hb.frozen 1
          go_wp2_with fail
          go_quiet (fail)
          go_wp2
          refine bodyPost_ret (results_ratio rfl _ _ w.heap.size (.int .i64 a) (.int .i64 b) rfl (by go_simp) (by go_simp)) rfl ⟨rfl, ?_⟩
          exact Ext.two ((((Ext.refl _).alloc _).trans x1).drewN _) _ _

set_option maxRecDepth 100000 in
theorem pRatio (n d : Int) (n0 : 0 ≤ n) (n1 : n ≤ 9223372036854775807) (d1 : d ≤ 9223372036854775807) (w : World) : Calls Try.prog 147 #[.agg #[.int .i64 n, .int .i64 d]] w (RetB w (okShare (n, d))) := by
  have k := fun w => pMake n d n0 n1 d1 w
  have e := mk2s_ok n d n0
  rw [e]; clear e
  generalize mk2s n d = M at k ⊢
  obtain ⟨a, b, c⟩ := M
  show Calls _ _ _ _ (RetB w (decide (c = 0) && decide (a = n ∧ b = d)))
  replace k : ∀ w, Calls Try.prog 159 #[.int .i64 n, .int .i64 d] w (RetMake w a b c) := k
  replace k := Lib.hid k
  by_cases hc : c = 0
  · subst hc
    go_enter Try.func147, Try.ntmps147
    go_wp2_with fail
    refine (k.out _).mono ?_
    rintro e w1 ⟨rfl, x1⟩
    have hB : w.heap.size < w1.heap.size := by have := x1.size; simp at this; omega
    have hb := (Bx.new w [.int .i64 n, .int .i64 d] 29).ext x1
    have c0 := hb.cell 0 _ rfl
    have c1 := hb.cell 1 _ rfl
    go_wp2
    all_goals go_ret
    all_goals refine ⟨?_, (((Ext.refl _).alloc _).trans x1).alloc _⟩
    all_goals simp [*]
  · have f1 : (c == 0) = false := beq_false_of_ne hc
    go_enter Try.func147, Try.ntmps147
    go_wp2_with fail
    refine (k.out _).mono ?_
    rintro e w1 ⟨rfl, x1⟩
    go_wp2
    go_ret
    exact ⟨by simp [hc], (((Ext.refl _).alloc _).trans x1).alloc _⟩
end Go.Proofs.Ytnhmibfgaoealaa
