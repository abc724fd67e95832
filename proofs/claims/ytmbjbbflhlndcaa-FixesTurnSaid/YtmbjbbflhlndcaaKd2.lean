/-
  lumperref08: fair, numbers, Put.
-/
import Derived.Test.YtmbjbbflhlndcaaJw
namespace Go.Proofs.Ytmbjbbflhlndcaa
open Go.RowKit BigFrame
set_option linter.unusedVariables false
set_option linter.unusedSimpArgs false

/-- The lower, the higher of two. -/
def mn (x y : Int) : Int := if y < x then y else x
def mx (x y : Int) : Int := if x < y then y else x
theorem mn_eq (x y : Int) : (if y < x then y else x) = mn x y := rfl
theorem mx_eq (x y : Int) : (if x < y then y else x) = mx x y := rfl
theorem mn_neg {x y : Int} : mn x y < 0 ↔ x < 0 ∨ y < 0 := by unfold mn; split <;> omega
theorem mx_zero {x y : Int} (hx : 0 ≤ x) (hy : 0 ≤ y) : mx x y = 0 ↔ x = 0 ∧ y = 0 := by unfold mx; split <;> omega
theorem mx_nonneg {x y : Int} (hx : 0 ≤ x) (hy : 0 ≤ y) : 0 ≤ mx x y := by unfold mx; split <;> omega
@[go_sem] theorem run_min_int7 {P : Program} (w : World) (ts : Array TypeId) (t : TypeId) (a b c d e f g : Int) : (Builtin.min_ ts t #[.int .i64 a, .int .i64 b, .int .i64 c, .int .i64 d, .int .i64 e, .int .i64 f, .int .i64 g]).run P w = .ok (.int .i64 (mn (mn (mn (mn (mn (mn a b) c) d) e) f) g)) w := by
  simp [Builtin.min_, Builtin.min2, mn_eq]
@[go_sem] theorem run_max_int6 {P : Program} (w : World) (ts : Array TypeId) (t : TypeId) (a b c d e f : Int) : (Builtin.max_ ts t #[.int .i64 a, .int .i64 b, .int .i64 c, .int .i64 d, .int .i64 e, .int .i64 f]).run P w = .ok (.int .i64 (mx (mx (mx (mx (mx a b) c) d) e) f)) w := by
  simp [Builtin.max_, Builtin.max2, mx_eq]

theorem fair_low {e : Ev} (h : e.fr < 0 ∨ e.to < 0 ∨ e.element < 0 ∨ e.units < 0 ∨ e.cls < 0 ∨ e.gear < 0 ∨ e.code < 0) : fairB e = false := by
  cases hf : fairB e
  · rfl
  · have := fairB_iff.1 hf
    omega
theorem task_zero {e : Ev} (h : 0 ≤ e.fr ∧ 0 ≤ e.to ∧ 0 ≤ e.element ∧ 0 ≤ e.units ∧ 0 ≤ e.cls ∧ 0 ≤ e.gear ∧ 0 ≤ e.code) :
    mx (mx (mx (mx (mx e.fr e.to) e.element) e.units) e.cls) e.gear = 0 ↔ e.fr = 0 ∧ e.to = 0 ∧ e.element = 0 ∧ e.units = 0 ∧ e.cls = 0 ∧ e.gear = 0 := by
  obtain ⟨h1, h2, h3, h4, h5, h6, h7⟩ := h
  have a1 := mx_nonneg h1 h2
  have a2 := mx_nonneg a1 h3
  have a3 := mx_nonneg a2 h4
  have a4 := mx_nonneg a3 h5
  rw [mx_zero a4 h6, mx_zero a3 h5, mx_zero a2 h4, mx_zero a1 h3, mx_zero h1 h2]
  omega

set_option maxRecDepth 100000 in
set_option maxHeartbeats 2000000 in
theorem rFair (e : Ev) (w : World) : Calls Try.prog 66 #[.agg (encV e).toArray] w (RetB w (fairB e)) := by
  have hs0 := Bx.new w (encV e) 23
  have X0 := Lib.hid ((Ext.refl w).alloc (.cells (encV e).toArray 23))
  obtain ⟨R, hR⟩ : ∃ R, fairB e = R := ⟨_, rfl⟩
  rw [hR]
  replace hR := Lib.hid hR
  have c0 := hs0.cell 0 _ rfl
  have c1 := hs0.cell 1 _ rfl
  have c2 := hs0.cell 2 _ rfl
  have c3 := hs0.cell 3 _ rfl
  have c4 := hs0.cell 4 _ rfl
  have c5 := hs0.cell 5 _ rfl
  have c6 := hs0.cell 6 _ rfl
  have c7 := hs0.cell 7 _ rfl
  have c8 := hs0.cell 8 _ rfl
  have c9 := hs0.cell 9 _ rfl
  have c10 := hs0.cell 10 _ rfl
  clear hs0
  go_enter Try.func66, Try.ntmps66
  by_cases h0 : e.id < 0
  · have d0 : decide (e.id < 0) = true := decide_eq_true h0
    obtain rfl : R = false := by rw [← hR.out]; exact fair_no (fun h => by omega)
    go_wp2
    go_ret
    exact ⟨rfl, X0.out⟩
  have d0 : decide (e.id < 0) = false := decide_eq_false h0
  by_cases h1 : 100000 < e.id
  · have d1 : decide (100000 < e.id) = true := decide_eq_true h1
    obtain rfl : R = false := by rw [← hR.out]; exact fair_no (fun h => by omega)
    go_wp2
    go_ret
    exact ⟨rfl, X0.out⟩
  have d1 : decide (100000 < e.id) = false := decide_eq_false h1
  by_cases h2 : e.worker < 0
  · have d2 : decide (e.worker < 0) = true := decide_eq_true h2
    obtain rfl : R = false := by rw [← hR.out]; exact fair_no (fun h => by omega)
    go_wp2
    go_ret
    exact ⟨rfl, X0.out⟩
  have d2 : decide (e.worker < 0) = false := decide_eq_false h2
  by_cases h3 : e.at_ < 0
  · have d3 : decide (e.at_ < 0) = true := decide_eq_true h3
    obtain rfl : R = false := by rw [← hR.out]; exact fair_no (fun h => by omega)
    go_wp2
    go_ret
    exact ⟨rfl, X0.out⟩
  have d3 : decide (e.at_ < 0) = false := decide_eq_false h3
  by_cases h4 : 31449599 < e.at_
  · have d4 : decide (31449599 < e.at_) = true := decide_eq_true h4
    obtain rfl : R = false := by rw [← hR.out]; exact fair_no (fun h => by omega)
    go_wp2
    go_ret
    exact ⟨rfl, X0.out⟩
  have d4 : decide (31449599 < e.at_) = false := decide_eq_false h4
  by_cases h5 : e.kind < 1
  · have d5 : decide (e.kind < 1) = true := decide_eq_true h5
    obtain rfl : R = false := by rw [← hR.out]; exact fair_no (fun h => by omega)
    go_wp2
    go_ret
    exact ⟨rfl, X0.out⟩
  have d5 : decide (e.kind < 1) = false := decide_eq_false h5
  by_cases h6 : 7 < e.kind
  · have d6 : decide (7 < e.kind) = true := decide_eq_true h6
    obtain rfl : R = false := by rw [← hR.out]; exact fair_no (fun h => by omega)
    go_wp2
    go_ret
    exact ⟨rfl, X0.out⟩
  have d6 : decide (7 < e.kind) = false := decide_eq_false h6
  by_cases hm : mn (mn (mn (mn (mn (mn e.fr e.to) e.element) e.units) e.cls) e.gear) e.code < 0
  · have dm : decide (mn (mn (mn (mn (mn (mn e.fr e.to) e.element) e.units) e.cls) e.gear) e.code < 0) = true := decide_eq_true hm
    obtain rfl : R = false := by rw [← hR.out]; exact fair_low (by simpa only [mn_neg, or_assoc] using hm)
    clear hm
    go_wp2
    go_ret
    exact ⟨rfl, X0.out⟩
  have dm : decide (mn (mn (mn (mn (mn (mn e.fr e.to) e.element) e.units) e.cls) e.gear) e.code < 0) = false := decide_eq_false hm
  have hlo : 0 ≤ e.fr ∧ 0 ≤ e.to ∧ 0 ≤ e.element ∧ 0 ≤ e.units ∧ 0 ≤ e.cls ∧ 0 ≤ e.gear ∧ 0 ≤ e.code := by
    simp only [mn_neg, not_or, Int.not_lt] at hm
    omega
  replace hlo := Lib.hid hlo
  have hz := Lib.hid (task_zero hlo.out)
  obtain ⟨T, hT⟩ : ∃ T, mx (mx (mx (mx (mx e.fr e.to) e.element) e.units) e.cls) e.gear = T := ⟨_, rfl⟩
  rw [hT] at hz
  replace hT := Lib.hid hT
  clear hm
  by_cases k3 : e.kind = 3
  · have qk3 : (e.kind == 3) = true := by rw [beq_iff_eq]; exact k3
    replace k3 := Lib.hid k3
    have q4 : (e.kind == 4) = false := by rw [beq_eq_false_iff_ne]; have := k3.out; omega
    have k4 : Hid (¬ e.kind = 4) := by show ¬ _; have := k3.out; omega
    by_cases hc : e.code = 0
    · have qhc : (e.code == 0) = true := by rw [beq_iff_eq]; exact hc
      replace hc := Lib.hid hc
      obtain rfl : R = true := by rw [← hR.out]; exact fairB_iff.2 ⟨⟨by omega, by omega⟩, ⟨by omega, by omega⟩, by omega, ⟨by omega, by omega⟩, hlo.out, fun h => absurd k3.out h, fun h => hc.out⟩
      go_wp2
      go_ret
      exact ⟨rfl, X0.out⟩
    · have qhc : (e.code == 0) = false := by rw [beq_eq_false_iff_ne]; exact hc
      replace hc := Lib.hid hc
      obtain rfl : R = false := by rw [← hR.out]; cases hf : fairB e with | false => rfl | true => exact absurd ((fairB_iff.1 hf).2.2.2.2.2.2 k4.out) hc.out
      go_wp2
      go_ret
      exact ⟨rfl, X0.out⟩
  · have qk3 : (e.kind == 3) = false := by rw [beq_eq_false_iff_ne]; exact k3
    replace k3 := Lib.hid k3
    by_cases hx : mx (mx (mx (mx (mx e.fr e.to) e.element) e.units) e.cls) e.gear = 0
    · have qhx : (mx (mx (mx (mx (mx e.fr e.to) e.element) e.units) e.cls) e.gear == 0) = true := by rw [beq_iff_eq]; exact hx
      replace hx := Lib.hid hx
      have hz2 := Lib.hid (hz.out.1 (hT.out.symm.trans hx.out))
      by_cases k4 : e.kind = 4
      · have qk4 : (e.kind == 4) = true := by rw [beq_iff_eq]; exact k4
        replace k4 := Lib.hid k4
        obtain rfl : R = true := by rw [← hR.out]; exact fairB_iff.2 ⟨⟨by omega, by omega⟩, ⟨by omega, by omega⟩, by omega, ⟨by omega, by omega⟩, hlo.out, fun h => hz2.out, fun h => absurd k4.out h⟩
        go_wp2
        go_ret
        exact ⟨rfl, X0.out⟩
      · have qk4 : (e.kind == 4) = false := by rw [beq_eq_false_iff_ne]; exact k4
        replace k4 := Lib.hid k4
        by_cases hc : e.code = 0
        · have qhc : (e.code == 0) = true := by rw [beq_iff_eq]; exact hc
          replace hc := Lib.hid hc
          obtain rfl : R = true := by rw [← hR.out]; exact fairB_iff.2 ⟨⟨by omega, by omega⟩, ⟨by omega, by omega⟩, by omega, ⟨by omega, by omega⟩, hlo.out, fun h => hz2.out, fun h => hc.out⟩
          go_wp2
          go_ret
          exact ⟨rfl, X0.out⟩
        · have qhc : (e.code == 0) = false := by rw [beq_eq_false_iff_ne]; exact hc
          replace hc := Lib.hid hc
          obtain rfl : R = false := by rw [← hR.out]; cases hf : fairB e with | false => rfl | true => exact absurd ((fairB_iff.1 hf).2.2.2.2.2.2 k4.out) hc.out
          go_wp2
          go_ret
          exact ⟨rfl, X0.out⟩
    · have qhx : (mx (mx (mx (mx (mx e.fr e.to) e.element) e.units) e.cls) e.gear == 0) = false := by rw [beq_eq_false_iff_ne]; exact hx
      replace hx := Lib.hid hx
      obtain rfl : R = false := by rw [← hR.out]; cases hf : fairB e with | false => rfl | true => exact absurd (hT.out.trans (hz.out.2 ((fairB_iff.1 hf).2.2.2.2.2.1 k3.out))) hx.out
      go_wp2
      go_ret
      exact ⟨rfl, X0.out⟩
end Go.Proofs.Ytmbjbbflhlndcaa
