/-
  lumperref24.Check.
-/
import Derived.Test.YtmbjbbflhlndcaaKg2
import Derived.Test.YtmbjbbflhlndcaaKc2
import Derived.Deep.Cut
namespace Go.Proofs.Ytmbjbbflhlndcaa
open Go.RowKit BigFrame
set_option linter.unusedVariables false
set_option linter.unusedSimpArgs false

/-- Is a command plain, by the document? -/
def refC (c : Cm) : Bool :=
  if c.tear < 0 ∨ c.worker < 0 ∨ c.week < 0 then false
  else if c.kind = 1 then fairB c.ev && (c.fk == 0) && (c.worker == 0) && (c.week == 0)
  else if c.kind = 2 then (c.worker == 0) && (c.week == 0) && (((c.fk == 1 || c.fk == 3) && fairB c.ev) || ((c.fk == 2) && (decide (c.ev = { ev0 with id := c.ev.id }) && decide (0 ≤ c.ev.id) && decide (c.ev.id ≤ 100000))))
  else if c.kind = 3 then decide (c.ev = ev0) && (c.fk == 0)
  else if c.kind = 4 then decide (c.ev = ev0) && (c.fk == 0) && (c.week == 0)
  else if c.kind = 5 ∨ c.kind = 6 ∨ c.kind = 7 then decide (c.ev = ev0) && (c.fk == 0) && (c.worker == 0)
  else if c.kind = 8 then decide (c.ev = ev0) && (c.fk == 0) && (c.worker == 0) && (c.week == 0)
  else false
theorem bool_ext {a b : Bool} (h : a = true ↔ b = true) : a = b := by cases a <;> cases b <;> simp_all
theorem refC_eq (c : Cm) : refC c = plainC c := by
  apply bool_ext
  rw [plainC_iff]
  rcases c with ⟨k, f, e, wo, we, t⟩
  obtain ⟨F, hF⟩ : ∃ F, fairB e = F := ⟨_, rfl⟩
  obtain ⟨z, hz⟩ : ∃ z : Prop, (e = ev0) = z := ⟨_, rfl⟩
  obtain ⟨y, hy⟩ : ∃ y : Prop, (e = { ev0 with id := e.id }) = y := ⟨_, rfl⟩
  obtain ⟨i, hi⟩ : ∃ i, e.id = i := ⟨_, rfl⟩
  by_cases k1 : k = 1
  · subst k1; simp [refC, wholeC, partC, ownC, hF]; grind
  by_cases k2 : k = 2
  · subst k2
    by_cases f1 : f = 1
    · subst f1; simp [refC, wholeC, partC, ownC, hF]; grind
    by_cases f3 : f = 3
    · subst f3; simp [refC, wholeC, partC, ownC, hF]; grind
    by_cases f2 : f = 2
    · subst f2; simp [refC, wholeC, partC, ownC, hF, hi]; grind
    · simp [refC, wholeC, partC, ownC, hF, f1, f2, f3]
  by_cases k3 : k = 3
  · subst k3; simp [refC, wholeC, partC, ownC]; grind
  by_cases k4 : k = 4
  · subst k4; simp [refC, wholeC, partC, ownC]; grind
  by_cases k5 : k = 5
  · subst k5; simp [refC, wholeC, partC, ownC]; grind
  by_cases k6 : k = 6
  · subst k6; simp [refC, wholeC, partC, ownC]; grind
  by_cases k7 : k = 7
  · subst k7; simp [refC, wholeC, partC, ownC]; grind
  by_cases k8 : k = 8
  · subst k8; simp [refC, wholeC, partC, ownC]; grind
  · simp only [refC, k1, k2, k3, k4, k5, k6, k7, k8, or_self, if_false]
    constructor
    · intro h; split at h <;> cases h
    · intro h; exfalso; have := h.1; omega

theorem rEPutNil (w : World) (e : Ev) (h64 : Ev64 e) : Calls Try.prog 35 #[.slice none 0 0, .agg (encV e).toArray] w fun x w' => (∃ A n cap r, x = .returned (.tuple #[.slice A n cap, .int .i64 r]) ∧ (r == 0) = fairB e) ∧ Ext w w' := by
  cases hf : fairB e
  · exact (rEPutNilN w e h64 hf).mono fun _ _ ⟨A, cap, he, _, hx, _⟩ => ⟨⟨A, _, cap, 80, he, rfl⟩, hx⟩
  · exact (rEPutNilY w e h64 hf).mono fun _ _ ⟨A, cap, he, _, hx, _⟩ => ⟨⟨A, _, cap, 0, he, rfl⟩, hx⟩

set_option maxRecDepth 100000 in
set_option maxHeartbeats 2000000 in
theorem rChkLow (c : Cm) (h64 : Cm64 c) (w : World) (h : c.tear < 0 ∨ c.worker < 0 ∨ c.week < 0) : Calls Try.prog 28 #[.agg (encC c).toArray] w (RetB w (refC c)) := by
  have HS0 := Lib.hid (Bx.new w (encC c) 27)
  have X0 := Lib.hid ((Ext.refl w).alloc (.cells (encC c).toArray 27))
  obtain ⟨R, hR⟩ : ∃ R, refC c = R := ⟨_, rfl⟩
  rw [hR]
  have hR2 := hR
  unfold refC at hR2
  replace hR := Lib.hid hR
  obtain ⟨N, hN⟩ : ∃ N, decide (c.ev = ev0) = N := ⟨_, rfl⟩
  obtain ⟨M, hM⟩ : ∃ M, decide (c.ev = { ev0 with id := c.ev.id }) = M := ⟨_, rfl⟩
  obtain ⟨F, hF⟩ : ∃ F, fairB c.ev = F := ⟨_, rfl⟩
  simp only [hN, hM, hF] at hR2
  have hg := eqGuardV
  have hq0 : ∀ w, (Op.equalIn 10000 23 (.agg (encV c.ev).toArray) (.agg #[.int .i64 0, .int .i64 0, .int .i64 0, .int .i64 0, .int .i64 0, .int .i64 0, .int .i64 0, .int .i64 0, .int .i64 0, .int .i64 0, .int .i64 0])).run Try.prog w = .ok N w := fun w => by rw [← hN]; exact eqInV c.ev ev0 w
  have hq1 : ∀ w, (Op.equalIn 10000 23 (.agg (encV c.ev).toArray) (.agg #[.int .i64 c.ev.id, .int .i64 0, .int .i64 0, .int .i64 0, .int .i64 0, .int .i64 0, .int .i64 0, .int .i64 0, .int .i64 0, .int .i64 0, .int .i64 0])).run Try.prog w = .ok M w := fun w => by rw [← hM]; exact eqInV c.ev { ev0 with id := c.ev.id } w
  rw [if_pos h] at hR2
  subst hR2
  by_cases h1 : c.tear < 0
  · have d1 : decide (c.tear < 0) = true := decide_eq_true h1
    go_enter Try.func28, Try.ntmps28
    go_wp2_with (first | (refine wpList_load_mid rfl 23 _ rfl w.heap.size 2 (by rfl) (encV c.ev) _ (bx_range HS0.out 2 (cmEv_at c)) Try.underlying23 rfl sizeV ?_))
    refine (rEPutNil _ c.ev h64.ev).mono ?_
    rintro e1 w1 ⟨⟨A1, n1, p1, r1, rfl, hr1⟩, x1⟩
    rw [hF] at hr1
    have HS1 := Lib.hid (HS0.out.ext x1); have X1 := Lib.hid (X0.out.trans x1)
    clear HS0 X0 x1 hN hM hF h64
    have c0 := HS1.out.cell 0 _ rfl; have c1 := HS1.out.cell 1 _ rfl; have c2 := HS1.out.cell 2 _ rfl; have c13 := HS1.out.cell 13 _ rfl; have c14 := HS1.out.cell 14 _ rfl; have c15 := HS1.out.cell 15 _ rfl
    go_wp2_with (first | (refine wpList_load_mid rfl 23 _ rfl w.heap.size 2 (by rfl) (encV c.ev) _ (bx_range HS1.out 2 (cmEv_at c)) Try.underlying23 rfl sizeV ?_))
    all_goals (go_ret; exact ⟨rfl, X1.out⟩)
  have d1 : decide (c.tear < 0) = false := decide_eq_false h1
  by_cases h2 : c.worker < 0
  · have d2 : decide (c.worker < 0) = true := decide_eq_true h2
    go_enter Try.func28, Try.ntmps28
    go_wp2_with (first | (refine wpList_load_mid rfl 23 _ rfl w.heap.size 2 (by rfl) (encV c.ev) _ (bx_range HS0.out 2 (cmEv_at c)) Try.underlying23 rfl sizeV ?_))
    refine (rEPutNil _ c.ev h64.ev).mono ?_
    rintro e1 w1 ⟨⟨A1, n1, p1, r1, rfl, hr1⟩, x1⟩
    rw [hF] at hr1
    have HS1 := Lib.hid (HS0.out.ext x1); have X1 := Lib.hid (X0.out.trans x1)
    clear HS0 X0 x1 hN hM hF h64
    have c0 := HS1.out.cell 0 _ rfl; have c1 := HS1.out.cell 1 _ rfl; have c2 := HS1.out.cell 2 _ rfl; have c13 := HS1.out.cell 13 _ rfl; have c14 := HS1.out.cell 14 _ rfl; have c15 := HS1.out.cell 15 _ rfl
    go_wp2_with (first | (refine wpList_load_mid rfl 23 _ rfl w.heap.size 2 (by rfl) (encV c.ev) _ (bx_range HS1.out 2 (cmEv_at c)) Try.underlying23 rfl sizeV ?_))
    all_goals (go_ret; exact ⟨rfl, X1.out⟩)
  have d2 : decide (c.worker < 0) = false := decide_eq_false h2
  have d3 : decide (c.week < 0) = true := decide_eq_true (by omega)
  go_enter Try.func28, Try.ntmps28
  go_wp2_with (first | (refine wpList_load_mid rfl 23 _ rfl w.heap.size 2 (by rfl) (encV c.ev) _ (bx_range HS0.out 2 (cmEv_at c)) Try.underlying23 rfl sizeV ?_))
  refine (rEPutNil _ c.ev h64.ev).mono ?_
  rintro e1 w1 ⟨⟨A1, n1, p1, r1, rfl, hr1⟩, x1⟩
  rw [hF] at hr1
  have HS1 := Lib.hid (HS0.out.ext x1); have X1 := Lib.hid (X0.out.trans x1)
  clear HS0 X0 x1 hN hM hF h64
  have c0 := HS1.out.cell 0 _ rfl; have c1 := HS1.out.cell 1 _ rfl; have c2 := HS1.out.cell 2 _ rfl; have c13 := HS1.out.cell 13 _ rfl; have c14 := HS1.out.cell 14 _ rfl; have c15 := HS1.out.cell 15 _ rfl
  go_wp2_with (first | (refine wpList_load_mid rfl 23 _ rfl w.heap.size 2 (by rfl) (encV c.ev) _ (bx_range HS1.out 2 (cmEv_at c)) Try.underlying23 rfl sizeV ?_))
  all_goals (go_ret; exact ⟨rfl, X1.out⟩)
set_option maxRecDepth 100000 in
set_option maxHeartbeats 2000000 in
theorem rChkK1 (c : Cm) (h64 : Cm64 c) (w : World) (h : ¬ (c.tear < 0 ∨ c.worker < 0 ∨ c.week < 0)) (hk : c.kind = 1) : Calls Try.prog 28 #[.agg (encC c).toArray] w (RetB w (refC c)) := by
  have HS0 := Lib.hid (Bx.new w (encC c) 27)
  have X0 := Lib.hid ((Ext.refl w).alloc (.cells (encC c).toArray 27))
  obtain ⟨R, hR⟩ : ∃ R, refC c = R := ⟨_, rfl⟩
  rw [hR]
  have hR2 := hR
  unfold refC at hR2
  replace hR := Lib.hid hR
  obtain ⟨N, hN⟩ : ∃ N, decide (c.ev = ev0) = N := ⟨_, rfl⟩
  obtain ⟨M, hM⟩ : ∃ M, decide (c.ev = { ev0 with id := c.ev.id }) = M := ⟨_, rfl⟩
  obtain ⟨F, hF⟩ : ∃ F, fairB c.ev = F := ⟨_, rfl⟩
  simp only [hN, hM, hF] at hR2
  have hg := eqGuardV
  have hq0 : ∀ w, (Op.equalIn 10000 23 (.agg (encV c.ev).toArray) (.agg #[.int .i64 0, .int .i64 0, .int .i64 0, .int .i64 0, .int .i64 0, .int .i64 0, .int .i64 0, .int .i64 0, .int .i64 0, .int .i64 0, .int .i64 0])).run Try.prog w = .ok N w := fun w => by rw [← hN]; exact eqInV c.ev ev0 w
  have hq1 : ∀ w, (Op.equalIn 10000 23 (.agg (encV c.ev).toArray) (.agg #[.int .i64 c.ev.id, .int .i64 0, .int .i64 0, .int .i64 0, .int .i64 0, .int .i64 0, .int .i64 0, .int .i64 0, .int .i64 0, .int .i64 0, .int .i64 0])).run Try.prog w = .ok M w := fun w => by rw [← hM]; exact eqInV c.ev { ev0 with id := c.ev.id } w
  rw [if_neg h] at hR2
  have d1 : decide (c.tear < 0) = false := decide_eq_false (by omega)
  have d2 : decide (c.worker < 0) = false := decide_eq_false (by omega)
  have d3 : decide (c.week < 0) = false := decide_eq_false (by omega)
  have q1 : (c.kind == 1) = true := by rw [beq_iff_eq]; exact hk
  have q2 : (c.kind == 2) = false := by rw [beq_eq_false_iff_ne]; omega
  have q3 : (c.kind == 3) = false := by rw [beq_eq_false_iff_ne]; omega
  have q4 : (c.kind == 4) = false := by rw [beq_eq_false_iff_ne]; omega
  have q5 : (c.kind == 5) = false := by rw [beq_eq_false_iff_ne]; omega
  have q6 : (c.kind == 6) = false := by rw [beq_eq_false_iff_ne]; omega
  have q7 : (c.kind == 7) = false := by rw [beq_eq_false_iff_ne]; omega
  have q8 : (c.kind == 8) = false := by rw [beq_eq_false_iff_ne]; omega
  simp only [hk, if_true, Int.reduceEq, if_false, true_or, or_true, or_self] at hR2
  clear h hk
  go_enter Try.func28, Try.ntmps28
  go_wp2_with (first | (refine wpList_load_mid rfl 23 _ rfl w.heap.size 2 (by rfl) (encV c.ev) _ (bx_range HS0.out 2 (cmEv_at c)) Try.underlying23 rfl sizeV ?_))
  refine (rEPutNil _ c.ev h64.ev).mono ?_
  rintro e1 w1 ⟨⟨A1, n1, p1, r1, rfl, hr1⟩, x1⟩
  rw [hF] at hr1
  have HS1 := Lib.hid (HS0.out.ext x1); have X1 := Lib.hid (X0.out.trans x1)
  clear HS0 X0 x1 hN hM hF h64
  have c0 := HS1.out.cell 0 _ rfl; have c1 := HS1.out.cell 1 _ rfl; have c2 := HS1.out.cell 2 _ rfl; have c13 := HS1.out.cell 13 _ rfl; have c14 := HS1.out.cell 14 _ rfl; have c15 := HS1.out.cell 15 _ rfl
  go_upto_region 6 with (first | (refine wpList_load_mid rfl 23 _ rfl w.heap.size 2 (by rfl) (encV c.ev) _ (bx_range HS1.out 2 (cmEv_at c)) Try.underlying23 rfl sizeV ?_))
  clear hg hq0 hq1 HS1 hR d1 d2 d3
  cases F
  · have hRf : R = false := by rw [← hR2]; rfl
    subst hRf
    clear hR2
    go_wp2
    all_goals (go_ret; exact ⟨rfl, X1.out⟩)
  · by_cases bf : (c.fk == 0) = true
    · by_cases bo : (c.worker == 0) = true
      · by_cases be : (c.week == 0) = true
        · have hRf : R = true := by rw [← hR2]; simp [bf, bo, be]
          subst hRf
          clear hR2
          go_wp2
          all_goals (go_ret; exact ⟨rfl, X1.out⟩)
        · replace be : (c.week == 0) = false := by simpa using be
          have hRf : R = false := by rw [← hR2]; simp [*]
          subst hRf
          clear hR2
          go_wp2
          all_goals (go_ret; exact ⟨rfl, X1.out⟩)
      · replace bo : (c.worker == 0) = false := by simpa using bo
        have hRf : R = false := by rw [← hR2]; simp [*]
        subst hRf
        clear hR2
        go_wp2
        all_goals (go_ret; exact ⟨rfl, X1.out⟩)
    · replace bf : (c.fk == 0) = false := by simpa using bf
      have hRf : R = false := by rw [← hR2]; simp [*]
      subst hRf
      clear hR2
      go_wp2
      all_goals (go_ret; exact ⟨rfl, X1.out⟩)
set_option maxRecDepth 100000 in
set_option maxHeartbeats 2000000 in
theorem rChkK2 (c : Cm) (h64 : Cm64 c) (w : World) (h : ¬ (c.tear < 0 ∨ c.worker < 0 ∨ c.week < 0)) (hk : c.kind = 2) : Calls Try.prog 28 #[.agg (encC c).toArray] w (RetB w (refC c)) := by
  have HS0 := Lib.hid (Bx.new w (encC c) 27)
  have X0 := Lib.hid ((Ext.refl w).alloc (.cells (encC c).toArray 27))
  obtain ⟨R, hR⟩ : ∃ R, refC c = R := ⟨_, rfl⟩
  rw [hR]
  have hR2 := hR
  unfold refC at hR2
  replace hR := Lib.hid hR
  obtain ⟨N, hN⟩ : ∃ N, decide (c.ev = ev0) = N := ⟨_, rfl⟩
  obtain ⟨M, hM⟩ : ∃ M, decide (c.ev = { ev0 with id := c.ev.id }) = M := ⟨_, rfl⟩
  obtain ⟨F, hF⟩ : ∃ F, fairB c.ev = F := ⟨_, rfl⟩
  simp only [hN, hM, hF] at hR2
  have hg := eqGuardV
  have hq0 : ∀ w, (Op.equalIn 10000 23 (.agg (encV c.ev).toArray) (.agg #[.int .i64 0, .int .i64 0, .int .i64 0, .int .i64 0, .int .i64 0, .int .i64 0, .int .i64 0, .int .i64 0, .int .i64 0, .int .i64 0, .int .i64 0])).run Try.prog w = .ok N w := fun w => by rw [← hN]; exact eqInV c.ev ev0 w
  have hq1 : ∀ w, (Op.equalIn 10000 23 (.agg (encV c.ev).toArray) (.agg #[.int .i64 c.ev.id, .int .i64 0, .int .i64 0, .int .i64 0, .int .i64 0, .int .i64 0, .int .i64 0, .int .i64 0, .int .i64 0, .int .i64 0, .int .i64 0])).run Try.prog w = .ok M w := fun w => by rw [← hM]; exact eqInV c.ev { ev0 with id := c.ev.id } w
  rw [if_neg h] at hR2
  have d1 : decide (c.tear < 0) = false := decide_eq_false (by omega)
  have d2 : decide (c.worker < 0) = false := decide_eq_false (by omega)
  have d3 : decide (c.week < 0) = false := decide_eq_false (by omega)
  have q1 : (c.kind == 1) = false := by rw [beq_eq_false_iff_ne]; omega
  have q2 : (c.kind == 2) = true := by rw [beq_iff_eq]; exact hk
  have q3 : (c.kind == 3) = false := by rw [beq_eq_false_iff_ne]; omega
  have q4 : (c.kind == 4) = false := by rw [beq_eq_false_iff_ne]; omega
  have q5 : (c.kind == 5) = false := by rw [beq_eq_false_iff_ne]; omega
  have q6 : (c.kind == 6) = false := by rw [beq_eq_false_iff_ne]; omega
  have q7 : (c.kind == 7) = false := by rw [beq_eq_false_iff_ne]; omega
  have q8 : (c.kind == 8) = false := by rw [beq_eq_false_iff_ne]; omega
  simp only [hk, if_true, Int.reduceEq, if_false, true_or, or_true, or_self] at hR2
  clear h hk
  go_enter Try.func28, Try.ntmps28
  go_wp2_with (first | (refine wpList_load_mid rfl 23 _ rfl w.heap.size 2 (by rfl) (encV c.ev) _ (bx_range HS0.out 2 (cmEv_at c)) Try.underlying23 rfl sizeV ?_))
  refine (rEPutNil _ c.ev h64.ev).mono ?_
  rintro e1 w1 ⟨⟨A1, n1, p1, r1, rfl, hr1⟩, x1⟩
  rw [hF] at hr1
  have HS1 := Lib.hid (HS0.out.ext x1); have X1 := Lib.hid (X0.out.trans x1)
  clear HS0 X0 x1 hN hM hF h64
  have c0 := HS1.out.cell 0 _ rfl; have c1 := HS1.out.cell 1 _ rfl; have c2 := HS1.out.cell 2 _ rfl; have c13 := HS1.out.cell 13 _ rfl; have c14 := HS1.out.cell 14 _ rfl; have c15 := HS1.out.cell 15 _ rfl
  go_upto_region 6 with (first | (refine wpList_load_mid rfl 23 _ rfl w.heap.size 2 (by rfl) (encV c.ev) _ (bx_range HS1.out 2 (cmEv_at c)) Try.underlying23 rfl sizeV ?_))
  have hA : ∀ A, (M && decide (0 ≤ c.ev.id) && decide (c.ev.id ≤ 100000)) = A → (c.worker == 0 && c.week == 0 && ((c.fk == 1 || c.fk == 3) && F || c.fk == 2 && A)) = R := fun A h => by rw [← h]; exact hR2
  clear hR2
  go_upto_region 12 with (first | (refine wpList_load_mid rfl 23 _ rfl w.heap.size 2 (by rfl) (encV c.ev) _ (bx_range HS1.out 2 (cmEv_at c)) Try.underlying23 rfl sizeV ?_))
  clear hg hq0 hq1 HS1 hR d1 d2 d3
  · obtain ⟨A, hAe⟩ : ∃ A, decide (c.ev.id ≤ 100000) = A := ⟨_, rfl⟩
    rw [hAe]
    have hR2 := hA A (by simp [*])
    clear hA hAe
    by_cases bo : (c.worker == 0) = true
    · by_cases be : (c.week == 0) = true
      · by_cases hf : c.fk = 1
        · have g1 : (c.fk == 1) = true := by rw [beq_iff_eq]; exact hf
          have g2 : (c.fk == 2) = false := by rw [beq_eq_false_iff_ne]; omega
          have g3 : (c.fk == 3) = false := by rw [beq_eq_false_iff_ne]; omega
          clear hf
          cases F
          · have hRf : R = false := by rw [← hR2]; simp [*]
            subst hRf
            clear hR2
            go_wp2
            all_goals (go_ret; exact ⟨rfl, X1.out⟩)
          · have hRf : R = true := by rw [← hR2]; simp [*]
            subst hRf
            clear hR2
            go_wp2
            all_goals (go_ret; exact ⟨rfl, X1.out⟩)
        by_cases hf3 : c.fk = 3
        · have g1 : (c.fk == 1) = false := by rw [beq_eq_false_iff_ne]; omega
          have g2 : (c.fk == 2) = false := by rw [beq_eq_false_iff_ne]; omega
          have g3 : (c.fk == 3) = true := by rw [beq_iff_eq]; exact hf3
          clear hf hf3
          cases F
          · have hRf : R = false := by rw [← hR2]; simp [*]
            subst hRf
            clear hR2
            go_wp2
            all_goals (go_ret; exact ⟨rfl, X1.out⟩)
          · have hRf : R = true := by rw [← hR2]; simp [*]
            subst hRf
            clear hR2
            go_wp2
            all_goals (go_ret; exact ⟨rfl, X1.out⟩)
        by_cases hf2 : c.fk = 2
        · have g1 : (c.fk == 1) = false := by rw [beq_eq_false_iff_ne]; omega
          have g2 : (c.fk == 2) = true := by rw [beq_iff_eq]; exact hf2
          have g3 : (c.fk == 3) = false := by rw [beq_eq_false_iff_ne]; omega
          clear hf hf3 hf2
          cases A
          · have hRf : R = false := by rw [← hR2]; simp [*]
            subst hRf
            clear hR2
            go_wp2
            all_goals (go_ret; exact ⟨rfl, X1.out⟩)
          · have hRf : R = true := by rw [← hR2]; simp [*]
            subst hRf
            clear hR2
            go_wp2
            all_goals (go_ret; exact ⟨rfl, X1.out⟩)
        have g1 : (c.fk == 1) = false := by rw [beq_eq_false_iff_ne]; omega
        have g2 : (c.fk == 2) = false := by rw [beq_eq_false_iff_ne]; omega
        have g3 : (c.fk == 3) = false := by rw [beq_eq_false_iff_ne]; omega
        clear hf hf3 hf2
        have hRf : R = false := by rw [← hR2]; simp [*]
        subst hRf
        clear hR2
        go_wp2
        all_goals (go_ret; exact ⟨rfl, X1.out⟩)
      · replace be : (c.week == 0) = false := by simpa using be
        have hRf : R = false := by rw [← hR2]; simp [*]
        subst hRf
        clear hR2
        go_wp2
        all_goals (go_ret; exact ⟨rfl, X1.out⟩)
    · replace bo : (c.worker == 0) = false := by simpa using bo
      have hRf : R = false := by rw [← hR2]; simp [*]
      subst hRf
      clear hR2
      go_wp2
      all_goals (go_ret; exact ⟨rfl, X1.out⟩)
  · have hR2 := hA false (by simp [*])
    clear hA
    by_cases bo : (c.worker == 0) = true
    · by_cases be : (c.week == 0) = true
      · by_cases hf : c.fk = 1
        · have g1 : (c.fk == 1) = true := by rw [beq_iff_eq]; exact hf
          have g2 : (c.fk == 2) = false := by rw [beq_eq_false_iff_ne]; omega
          have g3 : (c.fk == 3) = false := by rw [beq_eq_false_iff_ne]; omega
          clear hf
          cases F
          · have hRf : R = false := by rw [← hR2]; simp [*]
            subst hRf
            clear hR2
            go_wp2
            all_goals (go_ret; exact ⟨rfl, X1.out⟩)
          · have hRf : R = true := by rw [← hR2]; simp [*]
            subst hRf
            clear hR2
            go_wp2
            all_goals (go_ret; exact ⟨rfl, X1.out⟩)
        by_cases hf3 : c.fk = 3
        · have g1 : (c.fk == 1) = false := by rw [beq_eq_false_iff_ne]; omega
          have g2 : (c.fk == 2) = false := by rw [beq_eq_false_iff_ne]; omega
          have g3 : (c.fk == 3) = true := by rw [beq_iff_eq]; exact hf3
          clear hf hf3
          cases F
          · have hRf : R = false := by rw [← hR2]; simp [*]
            subst hRf
            clear hR2
            go_wp2
            all_goals (go_ret; exact ⟨rfl, X1.out⟩)
          · have hRf : R = true := by rw [← hR2]; simp [*]
            subst hRf
            clear hR2
            go_wp2
            all_goals (go_ret; exact ⟨rfl, X1.out⟩)
        by_cases hf2 : c.fk = 2
        · have g1 : (c.fk == 1) = false := by rw [beq_eq_false_iff_ne]; omega
          have g2 : (c.fk == 2) = true := by rw [beq_iff_eq]; exact hf2
          have g3 : (c.fk == 3) = false := by rw [beq_eq_false_iff_ne]; omega
          clear hf hf3 hf2
          have hRf : R = false := by rw [← hR2]; simp [*]
          subst hRf
          clear hR2
          go_wp2
          all_goals (go_ret; exact ⟨rfl, X1.out⟩)
        have g1 : (c.fk == 1) = false := by rw [beq_eq_false_iff_ne]; omega
        have g2 : (c.fk == 2) = false := by rw [beq_eq_false_iff_ne]; omega
        have g3 : (c.fk == 3) = false := by rw [beq_eq_false_iff_ne]; omega
        clear hf hf3 hf2
        have hRf : R = false := by rw [← hR2]; simp [*]
        subst hRf
        clear hR2
        go_wp2
        all_goals (go_ret; exact ⟨rfl, X1.out⟩)
      · replace be : (c.week == 0) = false := by simpa using be
        have hRf : R = false := by rw [← hR2]; simp [*]
        subst hRf
        clear hR2
        go_wp2
        all_goals (go_ret; exact ⟨rfl, X1.out⟩)
    · replace bo : (c.worker == 0) = false := by simpa using bo
      have hRf : R = false := by rw [← hR2]; simp [*]
      subst hRf
      clear hR2
      go_wp2
      all_goals (go_ret; exact ⟨rfl, X1.out⟩)
  · have hR2 := hA false (by simp [*])
    clear hA
    by_cases bo : (c.worker == 0) = true
    · by_cases be : (c.week == 0) = true
      · by_cases hf : c.fk = 1
        · have g1 : (c.fk == 1) = true := by rw [beq_iff_eq]; exact hf
          have g2 : (c.fk == 2) = false := by rw [beq_eq_false_iff_ne]; omega
          have g3 : (c.fk == 3) = false := by rw [beq_eq_false_iff_ne]; omega
          clear hf
          cases F
          · have hRf : R = false := by rw [← hR2]; simp [*]
            subst hRf
            clear hR2
            go_wp2
            all_goals (go_ret; exact ⟨rfl, X1.out⟩)
          · have hRf : R = true := by rw [← hR2]; simp [*]
            subst hRf
            clear hR2
            go_wp2
            all_goals (go_ret; exact ⟨rfl, X1.out⟩)
        by_cases hf3 : c.fk = 3
        · have g1 : (c.fk == 1) = false := by rw [beq_eq_false_iff_ne]; omega
          have g2 : (c.fk == 2) = false := by rw [beq_eq_false_iff_ne]; omega
          have g3 : (c.fk == 3) = true := by rw [beq_iff_eq]; exact hf3
          clear hf hf3
          cases F
          · have hRf : R = false := by rw [← hR2]; simp [*]
            subst hRf
            clear hR2
            go_wp2
            all_goals (go_ret; exact ⟨rfl, X1.out⟩)
          · have hRf : R = true := by rw [← hR2]; simp [*]
            subst hRf
            clear hR2
            go_wp2
            all_goals (go_ret; exact ⟨rfl, X1.out⟩)
        by_cases hf2 : c.fk = 2
        · have g1 : (c.fk == 1) = false := by rw [beq_eq_false_iff_ne]; omega
          have g2 : (c.fk == 2) = true := by rw [beq_iff_eq]; exact hf2
          have g3 : (c.fk == 3) = false := by rw [beq_eq_false_iff_ne]; omega
          clear hf hf3 hf2
          have hRf : R = false := by rw [← hR2]; simp [*]
          subst hRf
          clear hR2
          go_wp2
          all_goals (go_ret; exact ⟨rfl, X1.out⟩)
        have g1 : (c.fk == 1) = false := by rw [beq_eq_false_iff_ne]; omega
        have g2 : (c.fk == 2) = false := by rw [beq_eq_false_iff_ne]; omega
        have g3 : (c.fk == 3) = false := by rw [beq_eq_false_iff_ne]; omega
        clear hf hf3 hf2
        have hRf : R = false := by rw [← hR2]; simp [*]
        subst hRf
        clear hR2
        go_wp2
        all_goals (go_ret; exact ⟨rfl, X1.out⟩)
      · replace be : (c.week == 0) = false := by simpa using be
        have hRf : R = false := by rw [← hR2]; simp [*]
        subst hRf
        clear hR2
        go_wp2
        all_goals (go_ret; exact ⟨rfl, X1.out⟩)
    · replace bo : (c.worker == 0) = false := by simpa using bo
      have hRf : R = false := by rw [← hR2]; simp [*]
      subst hRf
      clear hR2
      go_wp2
      all_goals (go_ret; exact ⟨rfl, X1.out⟩)
set_option maxRecDepth 100000 in
set_option maxHeartbeats 2000000 in
theorem rChkK3 (c : Cm) (h64 : Cm64 c) (w : World) (h : ¬ (c.tear < 0 ∨ c.worker < 0 ∨ c.week < 0)) (hk : c.kind = 3) : Calls Try.prog 28 #[.agg (encC c).toArray] w (RetB w (refC c)) := by
  have HS0 := Lib.hid (Bx.new w (encC c) 27)
  have X0 := Lib.hid ((Ext.refl w).alloc (.cells (encC c).toArray 27))
  obtain ⟨R, hR⟩ : ∃ R, refC c = R := ⟨_, rfl⟩
  rw [hR]
  have hR2 := hR
  unfold refC at hR2
  replace hR := Lib.hid hR
  obtain ⟨N, hN⟩ : ∃ N, decide (c.ev = ev0) = N := ⟨_, rfl⟩
  obtain ⟨M, hM⟩ : ∃ M, decide (c.ev = { ev0 with id := c.ev.id }) = M := ⟨_, rfl⟩
  obtain ⟨F, hF⟩ : ∃ F, fairB c.ev = F := ⟨_, rfl⟩
  simp only [hN, hM, hF] at hR2
  have hg := eqGuardV
  have hq0 : ∀ w, (Op.equalIn 10000 23 (.agg (encV c.ev).toArray) (.agg #[.int .i64 0, .int .i64 0, .int .i64 0, .int .i64 0, .int .i64 0, .int .i64 0, .int .i64 0, .int .i64 0, .int .i64 0, .int .i64 0, .int .i64 0])).run Try.prog w = .ok N w := fun w => by rw [← hN]; exact eqInV c.ev ev0 w
  have hq1 : ∀ w, (Op.equalIn 10000 23 (.agg (encV c.ev).toArray) (.agg #[.int .i64 c.ev.id, .int .i64 0, .int .i64 0, .int .i64 0, .int .i64 0, .int .i64 0, .int .i64 0, .int .i64 0, .int .i64 0, .int .i64 0, .int .i64 0])).run Try.prog w = .ok M w := fun w => by rw [← hM]; exact eqInV c.ev { ev0 with id := c.ev.id } w
  rw [if_neg h] at hR2
  have d1 : decide (c.tear < 0) = false := decide_eq_false (by omega)
  have d2 : decide (c.worker < 0) = false := decide_eq_false (by omega)
  have d3 : decide (c.week < 0) = false := decide_eq_false (by omega)
  have q1 : (c.kind == 1) = false := by rw [beq_eq_false_iff_ne]; omega
  have q2 : (c.kind == 2) = false := by rw [beq_eq_false_iff_ne]; omega
  have q3 : (c.kind == 3) = true := by rw [beq_iff_eq]; exact hk
  have q4 : (c.kind == 4) = false := by rw [beq_eq_false_iff_ne]; omega
  have q5 : (c.kind == 5) = false := by rw [beq_eq_false_iff_ne]; omega
  have q6 : (c.kind == 6) = false := by rw [beq_eq_false_iff_ne]; omega
  have q7 : (c.kind == 7) = false := by rw [beq_eq_false_iff_ne]; omega
  have q8 : (c.kind == 8) = false := by rw [beq_eq_false_iff_ne]; omega
  simp only [hk, if_true, Int.reduceEq, if_false, true_or, or_true, or_self] at hR2
  clear h hk
  go_enter Try.func28, Try.ntmps28
  go_wp2_with (first | (refine wpList_load_mid rfl 23 _ rfl w.heap.size 2 (by rfl) (encV c.ev) _ (bx_range HS0.out 2 (cmEv_at c)) Try.underlying23 rfl sizeV ?_))
  refine (rEPutNil _ c.ev h64.ev).mono ?_
  rintro e1 w1 ⟨⟨A1, n1, p1, r1, rfl, hr1⟩, x1⟩
  rw [hF] at hr1
  have HS1 := Lib.hid (HS0.out.ext x1); have X1 := Lib.hid (X0.out.trans x1)
  clear HS0 X0 x1 hN hM hF h64
  have c0 := HS1.out.cell 0 _ rfl; have c1 := HS1.out.cell 1 _ rfl; have c2 := HS1.out.cell 2 _ rfl; have c13 := HS1.out.cell 13 _ rfl; have c14 := HS1.out.cell 14 _ rfl; have c15 := HS1.out.cell 15 _ rfl
  go_upto_region 6 with (first | (refine wpList_load_mid rfl 23 _ rfl w.heap.size 2 (by rfl) (encV c.ev) _ (bx_range HS1.out 2 (cmEv_at c)) Try.underlying23 rfl sizeV ?_))
  clear hg hq0 hq1 HS1 hR d1 d2 d3
  cases N
  · have hRf : R = false := by rw [← hR2]; rfl
    subst hRf
    clear hR2
    go_wp2
    all_goals (go_ret; exact ⟨rfl, X1.out⟩)
  · by_cases bf : (c.fk == 0) = true
    · have hRf : R = true := by rw [← hR2]; simp [bf]
      subst hRf
      clear hR2
      go_wp2
      all_goals (go_ret; exact ⟨rfl, X1.out⟩)
    · replace bf : (c.fk == 0) = false := by simpa using bf
      have hRf : R = false := by rw [← hR2]; simp [*]
      subst hRf
      clear hR2
      go_wp2
      all_goals (go_ret; exact ⟨rfl, X1.out⟩)
set_option maxRecDepth 100000 in
set_option maxHeartbeats 2000000 in
theorem rChkK4 (c : Cm) (h64 : Cm64 c) (w : World) (h : ¬ (c.tear < 0 ∨ c.worker < 0 ∨ c.week < 0)) (hk : c.kind = 4) : Calls Try.prog 28 #[.agg (encC c).toArray] w (RetB w (refC c)) := by
  have HS0 := Lib.hid (Bx.new w (encC c) 27)
  have X0 := Lib.hid ((Ext.refl w).alloc (.cells (encC c).toArray 27))
  obtain ⟨R, hR⟩ : ∃ R, refC c = R := ⟨_, rfl⟩
  rw [hR]
  have hR2 := hR
  unfold refC at hR2
  replace hR := Lib.hid hR
  obtain ⟨N, hN⟩ : ∃ N, decide (c.ev = ev0) = N := ⟨_, rfl⟩
  obtain ⟨M, hM⟩ : ∃ M, decide (c.ev = { ev0 with id := c.ev.id }) = M := ⟨_, rfl⟩
  obtain ⟨F, hF⟩ : ∃ F, fairB c.ev = F := ⟨_, rfl⟩
  simp only [hN, hM, hF] at hR2
  have hg := eqGuardV
  have hq0 : ∀ w, (Op.equalIn 10000 23 (.agg (encV c.ev).toArray) (.agg #[.int .i64 0, .int .i64 0, .int .i64 0, .int .i64 0, .int .i64 0, .int .i64 0, .int .i64 0, .int .i64 0, .int .i64 0, .int .i64 0, .int .i64 0])).run Try.prog w = .ok N w := fun w => by rw [← hN]; exact eqInV c.ev ev0 w
  have hq1 : ∀ w, (Op.equalIn 10000 23 (.agg (encV c.ev).toArray) (.agg #[.int .i64 c.ev.id, .int .i64 0, .int .i64 0, .int .i64 0, .int .i64 0, .int .i64 0, .int .i64 0, .int .i64 0, .int .i64 0, .int .i64 0, .int .i64 0])).run Try.prog w = .ok M w := fun w => by rw [← hM]; exact eqInV c.ev { ev0 with id := c.ev.id } w
  rw [if_neg h] at hR2
  have d1 : decide (c.tear < 0) = false := decide_eq_false (by omega)
  have d2 : decide (c.worker < 0) = false := decide_eq_false (by omega)
  have d3 : decide (c.week < 0) = false := decide_eq_false (by omega)
  have q1 : (c.kind == 1) = false := by rw [beq_eq_false_iff_ne]; omega
  have q2 : (c.kind == 2) = false := by rw [beq_eq_false_iff_ne]; omega
  have q3 : (c.kind == 3) = false := by rw [beq_eq_false_iff_ne]; omega
  have q4 : (c.kind == 4) = true := by rw [beq_iff_eq]; exact hk
  have q5 : (c.kind == 5) = false := by rw [beq_eq_false_iff_ne]; omega
  have q6 : (c.kind == 6) = false := by rw [beq_eq_false_iff_ne]; omega
  have q7 : (c.kind == 7) = false := by rw [beq_eq_false_iff_ne]; omega
  have q8 : (c.kind == 8) = false := by rw [beq_eq_false_iff_ne]; omega
  simp only [hk, if_true, Int.reduceEq, if_false, true_or, or_true, or_self] at hR2
  clear h hk
  go_enter Try.func28, Try.ntmps28
  go_wp2_with (first | (refine wpList_load_mid rfl 23 _ rfl w.heap.size 2 (by rfl) (encV c.ev) _ (bx_range HS0.out 2 (cmEv_at c)) Try.underlying23 rfl sizeV ?_))
  refine (rEPutNil _ c.ev h64.ev).mono ?_
  rintro e1 w1 ⟨⟨A1, n1, p1, r1, rfl, hr1⟩, x1⟩
  rw [hF] at hr1
  have HS1 := Lib.hid (HS0.out.ext x1); have X1 := Lib.hid (X0.out.trans x1)
  clear HS0 X0 x1 hN hM hF h64
  have c0 := HS1.out.cell 0 _ rfl; have c1 := HS1.out.cell 1 _ rfl; have c2 := HS1.out.cell 2 _ rfl; have c13 := HS1.out.cell 13 _ rfl; have c14 := HS1.out.cell 14 _ rfl; have c15 := HS1.out.cell 15 _ rfl
  go_upto_region 6 with (first | (refine wpList_load_mid rfl 23 _ rfl w.heap.size 2 (by rfl) (encV c.ev) _ (bx_range HS1.out 2 (cmEv_at c)) Try.underlying23 rfl sizeV ?_))
  clear hg hq0 hq1 HS1 hR d1 d2 d3
  cases N
  · have hRf : R = false := by rw [← hR2]; rfl
    subst hRf
    clear hR2
    go_wp2
    all_goals (go_ret; exact ⟨rfl, X1.out⟩)
  · by_cases bf : (c.fk == 0) = true
    · by_cases be : (c.week == 0) = true
      · have hRf : R = true := by rw [← hR2]; simp [bf, be]
        subst hRf
        clear hR2
        go_wp2
        all_goals (go_ret; exact ⟨rfl, X1.out⟩)
      · replace be : (c.week == 0) = false := by simpa using be
        have hRf : R = false := by rw [← hR2]; simp [*]
        subst hRf
        clear hR2
        go_wp2
        all_goals (go_ret; exact ⟨rfl, X1.out⟩)
    · replace bf : (c.fk == 0) = false := by simpa using bf
      have hRf : R = false := by rw [← hR2]; simp [*]
      subst hRf
      clear hR2
      go_wp2
      all_goals (go_ret; exact ⟨rfl, X1.out⟩)
set_option maxRecDepth 100000 in
set_option maxHeartbeats 2000000 in
theorem rChkK5 (c : Cm) (h64 : Cm64 c) (w : World) (h : ¬ (c.tear < 0 ∨ c.worker < 0 ∨ c.week < 0)) (hk : c.kind = 5) : Calls Try.prog 28 #[.agg (encC c).toArray] w (RetB w (refC c)) := by
  have HS0 := Lib.hid (Bx.new w (encC c) 27)
  have X0 := Lib.hid ((Ext.refl w).alloc (.cells (encC c).toArray 27))
  obtain ⟨R, hR⟩ : ∃ R, refC c = R := ⟨_, rfl⟩
  rw [hR]
  have hR2 := hR
  unfold refC at hR2
  replace hR := Lib.hid hR
  obtain ⟨N, hN⟩ : ∃ N, decide (c.ev = ev0) = N := ⟨_, rfl⟩
  obtain ⟨M, hM⟩ : ∃ M, decide (c.ev = { ev0 with id := c.ev.id }) = M := ⟨_, rfl⟩
  obtain ⟨F, hF⟩ : ∃ F, fairB c.ev = F := ⟨_, rfl⟩
  simp only [hN, hM, hF] at hR2
  have hg := eqGuardV
  have hq0 : ∀ w, (Op.equalIn 10000 23 (.agg (encV c.ev).toArray) (.agg #[.int .i64 0, .int .i64 0, .int .i64 0, .int .i64 0, .int .i64 0, .int .i64 0, .int .i64 0, .int .i64 0, .int .i64 0, .int .i64 0, .int .i64 0])).run Try.prog w = .ok N w := fun w => by rw [← hN]; exact eqInV c.ev ev0 w
  have hq1 : ∀ w, (Op.equalIn 10000 23 (.agg (encV c.ev).toArray) (.agg #[.int .i64 c.ev.id, .int .i64 0, .int .i64 0, .int .i64 0, .int .i64 0, .int .i64 0, .int .i64 0, .int .i64 0, .int .i64 0, .int .i64 0, .int .i64 0])).run Try.prog w = .ok M w := fun w => by rw [← hM]; exact eqInV c.ev { ev0 with id := c.ev.id } w
  rw [if_neg h] at hR2
  have d1 : decide (c.tear < 0) = false := decide_eq_false (by omega)
  have d2 : decide (c.worker < 0) = false := decide_eq_false (by omega)
  have d3 : decide (c.week < 0) = false := decide_eq_false (by omega)
  have q1 : (c.kind == 1) = false := by rw [beq_eq_false_iff_ne]; omega
  have q2 : (c.kind == 2) = false := by rw [beq_eq_false_iff_ne]; omega
  have q3 : (c.kind == 3) = false := by rw [beq_eq_false_iff_ne]; omega
  have q4 : (c.kind == 4) = false := by rw [beq_eq_false_iff_ne]; omega
  have q5 : (c.kind == 5) = true := by rw [beq_iff_eq]; exact hk
  have q6 : (c.kind == 6) = false := by rw [beq_eq_false_iff_ne]; omega
  have q7 : (c.kind == 7) = false := by rw [beq_eq_false_iff_ne]; omega
  have q8 : (c.kind == 8) = false := by rw [beq_eq_false_iff_ne]; omega
  simp only [hk, if_true, Int.reduceEq, if_false, true_or, or_true, or_self] at hR2
  clear h hk
  go_enter Try.func28, Try.ntmps28
  go_wp2_with (first | (refine wpList_load_mid rfl 23 _ rfl w.heap.size 2 (by rfl) (encV c.ev) _ (bx_range HS0.out 2 (cmEv_at c)) Try.underlying23 rfl sizeV ?_))
  refine (rEPutNil _ c.ev h64.ev).mono ?_
  rintro e1 w1 ⟨⟨A1, n1, p1, r1, rfl, hr1⟩, x1⟩
  rw [hF] at hr1
  have HS1 := Lib.hid (HS0.out.ext x1); have X1 := Lib.hid (X0.out.trans x1)
  clear HS0 X0 x1 hN hM hF h64
  have c0 := HS1.out.cell 0 _ rfl; have c1 := HS1.out.cell 1 _ rfl; have c2 := HS1.out.cell 2 _ rfl; have c13 := HS1.out.cell 13 _ rfl; have c14 := HS1.out.cell 14 _ rfl; have c15 := HS1.out.cell 15 _ rfl
  go_upto_region 6 with (first | (refine wpList_load_mid rfl 23 _ rfl w.heap.size 2 (by rfl) (encV c.ev) _ (bx_range HS1.out 2 (cmEv_at c)) Try.underlying23 rfl sizeV ?_))
  clear hg hq0 hq1 HS1 hR d1 d2 d3
  cases N
  · have hRf : R = false := by rw [← hR2]; rfl
    subst hRf
    clear hR2
    go_wp2
    all_goals (go_ret; exact ⟨rfl, X1.out⟩)
  · by_cases bf : (c.fk == 0) = true
    · by_cases bo : (c.worker == 0) = true
      · have hRf : R = true := by rw [← hR2]; simp [bf, bo]
        subst hRf
        clear hR2
        go_wp2
        all_goals (go_ret; exact ⟨rfl, X1.out⟩)
      · replace bo : (c.worker == 0) = false := by simpa using bo
        have hRf : R = false := by rw [← hR2]; simp [*]
        subst hRf
        clear hR2
        go_wp2
        all_goals (go_ret; exact ⟨rfl, X1.out⟩)
    · replace bf : (c.fk == 0) = false := by simpa using bf
      have hRf : R = false := by rw [← hR2]; simp [*]
      subst hRf
      clear hR2
      go_wp2
      all_goals (go_ret; exact ⟨rfl, X1.out⟩)
set_option maxRecDepth 100000 in
set_option maxHeartbeats 2000000 in
theorem rChkK6 (c : Cm) (h64 : Cm64 c) (w : World) (h : ¬ (c.tear < 0 ∨ c.worker < 0 ∨ c.week < 0)) (hk : c.kind = 6) : Calls Try.prog 28 #[.agg (encC c).toArray] w (RetB w (refC c)) := by
  have HS0 := Lib.hid (Bx.new w (encC c) 27)
  have X0 := Lib.hid ((Ext.refl w).alloc (.cells (encC c).toArray 27))
  obtain ⟨R, hR⟩ : ∃ R, refC c = R := ⟨_, rfl⟩
  rw [hR]
  have hR2 := hR
  unfold refC at hR2
  replace hR := Lib.hid hR
  obtain ⟨N, hN⟩ : ∃ N, decide (c.ev = ev0) = N := ⟨_, rfl⟩
  obtain ⟨M, hM⟩ : ∃ M, decide (c.ev = { ev0 with id := c.ev.id }) = M := ⟨_, rfl⟩
  obtain ⟨F, hF⟩ : ∃ F, fairB c.ev = F := ⟨_, rfl⟩
  simp only [hN, hM, hF] at hR2
  have hg := eqGuardV
  have hq0 : ∀ w, (Op.equalIn 10000 23 (.agg (encV c.ev).toArray) (.agg #[.int .i64 0, .int .i64 0, .int .i64 0, .int .i64 0, .int .i64 0, .int .i64 0, .int .i64 0, .int .i64 0, .int .i64 0, .int .i64 0, .int .i64 0])).run Try.prog w = .ok N w := fun w => by rw [← hN]; exact eqInV c.ev ev0 w
  have hq1 : ∀ w, (Op.equalIn 10000 23 (.agg (encV c.ev).toArray) (.agg #[.int .i64 c.ev.id, .int .i64 0, .int .i64 0, .int .i64 0, .int .i64 0, .int .i64 0, .int .i64 0, .int .i64 0, .int .i64 0, .int .i64 0, .int .i64 0])).run Try.prog w = .ok M w := fun w => by rw [← hM]; exact eqInV c.ev { ev0 with id := c.ev.id } w
  rw [if_neg h] at hR2
  have d1 : decide (c.tear < 0) = false := decide_eq_false (by omega)
  have d2 : decide (c.worker < 0) = false := decide_eq_false (by omega)
  have d3 : decide (c.week < 0) = false := decide_eq_false (by omega)
  have q1 : (c.kind == 1) = false := by rw [beq_eq_false_iff_ne]; omega
  have q2 : (c.kind == 2) = false := by rw [beq_eq_false_iff_ne]; omega
  have q3 : (c.kind == 3) = false := by rw [beq_eq_false_iff_ne]; omega
  have q4 : (c.kind == 4) = false := by rw [beq_eq_false_iff_ne]; omega
  have q5 : (c.kind == 5) = false := by rw [beq_eq_false_iff_ne]; omega
  have q6 : (c.kind == 6) = true := by rw [beq_iff_eq]; exact hk
  have q7 : (c.kind == 7) = false := by rw [beq_eq_false_iff_ne]; omega
  have q8 : (c.kind == 8) = false := by rw [beq_eq_false_iff_ne]; omega
  simp only [hk, if_true, Int.reduceEq, if_false, true_or, or_true, or_self] at hR2
  clear h hk
  go_enter Try.func28, Try.ntmps28
  go_wp2_with (first | (refine wpList_load_mid rfl 23 _ rfl w.heap.size 2 (by rfl) (encV c.ev) _ (bx_range HS0.out 2 (cmEv_at c)) Try.underlying23 rfl sizeV ?_))
  refine (rEPutNil _ c.ev h64.ev).mono ?_
  rintro e1 w1 ⟨⟨A1, n1, p1, r1, rfl, hr1⟩, x1⟩
  rw [hF] at hr1
  have HS1 := Lib.hid (HS0.out.ext x1); have X1 := Lib.hid (X0.out.trans x1)
  clear HS0 X0 x1 hN hM hF h64
  have c0 := HS1.out.cell 0 _ rfl; have c1 := HS1.out.cell 1 _ rfl; have c2 := HS1.out.cell 2 _ rfl; have c13 := HS1.out.cell 13 _ rfl; have c14 := HS1.out.cell 14 _ rfl; have c15 := HS1.out.cell 15 _ rfl
  go_upto_region 6 with (first | (refine wpList_load_mid rfl 23 _ rfl w.heap.size 2 (by rfl) (encV c.ev) _ (bx_range HS1.out 2 (cmEv_at c)) Try.underlying23 rfl sizeV ?_))
  clear hg hq0 hq1 HS1 hR d1 d2 d3
  cases N
  · have hRf : R = false := by rw [← hR2]; rfl
    subst hRf
    clear hR2
    go_wp2
    all_goals (go_ret; exact ⟨rfl, X1.out⟩)
  · by_cases bf : (c.fk == 0) = true
    · by_cases bo : (c.worker == 0) = true
      · have hRf : R = true := by rw [← hR2]; simp [bf, bo]
        subst hRf
        clear hR2
        go_wp2
        all_goals (go_ret; exact ⟨rfl, X1.out⟩)
      · replace bo : (c.worker == 0) = false := by simpa using bo
        have hRf : R = false := by rw [← hR2]; simp [*]
        subst hRf
        clear hR2
        go_wp2
        all_goals (go_ret; exact ⟨rfl, X1.out⟩)
    · replace bf : (c.fk == 0) = false := by simpa using bf
      have hRf : R = false := by rw [← hR2]; simp [*]
      subst hRf
      clear hR2
      go_wp2
      all_goals (go_ret; exact ⟨rfl, X1.out⟩)
set_option maxRecDepth 100000 in
set_option maxHeartbeats 2000000 in
theorem rChkK7 (c : Cm) (h64 : Cm64 c) (w : World) (h : ¬ (c.tear < 0 ∨ c.worker < 0 ∨ c.week < 0)) (hk : c.kind = 7) : Calls Try.prog 28 #[.agg (encC c).toArray] w (RetB w (refC c)) := by
  have HS0 := Lib.hid (Bx.new w (encC c) 27)
  have X0 := Lib.hid ((Ext.refl w).alloc (.cells (encC c).toArray 27))
  obtain ⟨R, hR⟩ : ∃ R, refC c = R := ⟨_, rfl⟩
  rw [hR]
  have hR2 := hR
  unfold refC at hR2
  replace hR := Lib.hid hR
  obtain ⟨N, hN⟩ : ∃ N, decide (c.ev = ev0) = N := ⟨_, rfl⟩
  obtain ⟨M, hM⟩ : ∃ M, decide (c.ev = { ev0 with id := c.ev.id }) = M := ⟨_, rfl⟩
  obtain ⟨F, hF⟩ : ∃ F, fairB c.ev = F := ⟨_, rfl⟩
  simp only [hN, hM, hF] at hR2
  have hg := eqGuardV
  have hq0 : ∀ w, (Op.equalIn 10000 23 (.agg (encV c.ev).toArray) (.agg #[.int .i64 0, .int .i64 0, .int .i64 0, .int .i64 0, .int .i64 0, .int .i64 0, .int .i64 0, .int .i64 0, .int .i64 0, .int .i64 0, .int .i64 0])).run Try.prog w = .ok N w := fun w => by rw [← hN]; exact eqInV c.ev ev0 w
  have hq1 : ∀ w, (Op.equalIn 10000 23 (.agg (encV c.ev).toArray) (.agg #[.int .i64 c.ev.id, .int .i64 0, .int .i64 0, .int .i64 0, .int .i64 0, .int .i64 0, .int .i64 0, .int .i64 0, .int .i64 0, .int .i64 0, .int .i64 0])).run Try.prog w = .ok M w := fun w => by rw [← hM]; exact eqInV c.ev { ev0 with id := c.ev.id } w
  rw [if_neg h] at hR2
  have d1 : decide (c.tear < 0) = false := decide_eq_false (by omega)
  have d2 : decide (c.worker < 0) = false := decide_eq_false (by omega)
  have d3 : decide (c.week < 0) = false := decide_eq_false (by omega)
  have q1 : (c.kind == 1) = false := by rw [beq_eq_false_iff_ne]; omega
  have q2 : (c.kind == 2) = false := by rw [beq_eq_false_iff_ne]; omega
  have q3 : (c.kind == 3) = false := by rw [beq_eq_false_iff_ne]; omega
  have q4 : (c.kind == 4) = false := by rw [beq_eq_false_iff_ne]; omega
  have q5 : (c.kind == 5) = false := by rw [beq_eq_false_iff_ne]; omega
  have q6 : (c.kind == 6) = false := by rw [beq_eq_false_iff_ne]; omega
  have q7 : (c.kind == 7) = true := by rw [beq_iff_eq]; exact hk
  have q8 : (c.kind == 8) = false := by rw [beq_eq_false_iff_ne]; omega
  simp only [hk, if_true, Int.reduceEq, if_false, true_or, or_true, or_self] at hR2
  clear h hk
  go_enter Try.func28, Try.ntmps28
  go_wp2_with (first | (refine wpList_load_mid rfl 23 _ rfl w.heap.size 2 (by rfl) (encV c.ev) _ (bx_range HS0.out 2 (cmEv_at c)) Try.underlying23 rfl sizeV ?_))
  refine (rEPutNil _ c.ev h64.ev).mono ?_
  rintro e1 w1 ⟨⟨A1, n1, p1, r1, rfl, hr1⟩, x1⟩
  rw [hF] at hr1
  have HS1 := Lib.hid (HS0.out.ext x1); have X1 := Lib.hid (X0.out.trans x1)
  clear HS0 X0 x1 hN hM hF h64
  have c0 := HS1.out.cell 0 _ rfl; have c1 := HS1.out.cell 1 _ rfl; have c2 := HS1.out.cell 2 _ rfl; have c13 := HS1.out.cell 13 _ rfl; have c14 := HS1.out.cell 14 _ rfl; have c15 := HS1.out.cell 15 _ rfl
  go_upto_region 6 with (first | (refine wpList_load_mid rfl 23 _ rfl w.heap.size 2 (by rfl) (encV c.ev) _ (bx_range HS1.out 2 (cmEv_at c)) Try.underlying23 rfl sizeV ?_))
  clear hg hq0 hq1 HS1 hR d1 d2 d3
  cases N
  · have hRf : R = false := by rw [← hR2]; rfl
    subst hRf
    clear hR2
    go_wp2
    all_goals (go_ret; exact ⟨rfl, X1.out⟩)
  · by_cases bf : (c.fk == 0) = true
    · by_cases bo : (c.worker == 0) = true
      · have hRf : R = true := by rw [← hR2]; simp [bf, bo]
        subst hRf
        clear hR2
        go_wp2
        all_goals (go_ret; exact ⟨rfl, X1.out⟩)
      · replace bo : (c.worker == 0) = false := by simpa using bo
        have hRf : R = false := by rw [← hR2]; simp [*]
        subst hRf
        clear hR2
        go_wp2
        all_goals (go_ret; exact ⟨rfl, X1.out⟩)
    · replace bf : (c.fk == 0) = false := by simpa using bf
      have hRf : R = false := by rw [← hR2]; simp [*]
      subst hRf
      clear hR2
      go_wp2
      all_goals (go_ret; exact ⟨rfl, X1.out⟩)
set_option maxRecDepth 100000 in
set_option maxHeartbeats 2000000 in
theorem rChkK8 (c : Cm) (h64 : Cm64 c) (w : World) (h : ¬ (c.tear < 0 ∨ c.worker < 0 ∨ c.week < 0)) (hk : c.kind = 8) : Calls Try.prog 28 #[.agg (encC c).toArray] w (RetB w (refC c)) := by
  have HS0 := Lib.hid (Bx.new w (encC c) 27)
  have X0 := Lib.hid ((Ext.refl w).alloc (.cells (encC c).toArray 27))
  obtain ⟨R, hR⟩ : ∃ R, refC c = R := ⟨_, rfl⟩
  rw [hR]
  have hR2 := hR
  unfold refC at hR2
  replace hR := Lib.hid hR
  obtain ⟨N, hN⟩ : ∃ N, decide (c.ev = ev0) = N := ⟨_, rfl⟩
  obtain ⟨M, hM⟩ : ∃ M, decide (c.ev = { ev0 with id := c.ev.id }) = M := ⟨_, rfl⟩
  obtain ⟨F, hF⟩ : ∃ F, fairB c.ev = F := ⟨_, rfl⟩
  simp only [hN, hM, hF] at hR2
  have hg := eqGuardV
  have hq0 : ∀ w, (Op.equalIn 10000 23 (.agg (encV c.ev).toArray) (.agg #[.int .i64 0, .int .i64 0, .int .i64 0, .int .i64 0, .int .i64 0, .int .i64 0, .int .i64 0, .int .i64 0, .int .i64 0, .int .i64 0, .int .i64 0])).run Try.prog w = .ok N w := fun w => by rw [← hN]; exact eqInV c.ev ev0 w
  have hq1 : ∀ w, (Op.equalIn 10000 23 (.agg (encV c.ev).toArray) (.agg #[.int .i64 c.ev.id, .int .i64 0, .int .i64 0, .int .i64 0, .int .i64 0, .int .i64 0, .int .i64 0, .int .i64 0, .int .i64 0, .int .i64 0, .int .i64 0])).run Try.prog w = .ok M w := fun w => by rw [← hM]; exact eqInV c.ev { ev0 with id := c.ev.id } w
  rw [if_neg h] at hR2
  have d1 : decide (c.tear < 0) = false := decide_eq_false (by omega)
  have d2 : decide (c.worker < 0) = false := decide_eq_false (by omega)
  have d3 : decide (c.week < 0) = false := decide_eq_false (by omega)
  have q1 : (c.kind == 1) = false := by rw [beq_eq_false_iff_ne]; omega
  have q2 : (c.kind == 2) = false := by rw [beq_eq_false_iff_ne]; omega
  have q3 : (c.kind == 3) = false := by rw [beq_eq_false_iff_ne]; omega
  have q4 : (c.kind == 4) = false := by rw [beq_eq_false_iff_ne]; omega
  have q5 : (c.kind == 5) = false := by rw [beq_eq_false_iff_ne]; omega
  have q6 : (c.kind == 6) = false := by rw [beq_eq_false_iff_ne]; omega
  have q7 : (c.kind == 7) = false := by rw [beq_eq_false_iff_ne]; omega
  have q8 : (c.kind == 8) = true := by rw [beq_iff_eq]; exact hk
  simp only [hk, if_true, Int.reduceEq, if_false, true_or, or_true, or_self] at hR2
  clear h hk
  go_enter Try.func28, Try.ntmps28
  go_wp2_with (first | (refine wpList_load_mid rfl 23 _ rfl w.heap.size 2 (by rfl) (encV c.ev) _ (bx_range HS0.out 2 (cmEv_at c)) Try.underlying23 rfl sizeV ?_))
  refine (rEPutNil _ c.ev h64.ev).mono ?_
  rintro e1 w1 ⟨⟨A1, n1, p1, r1, rfl, hr1⟩, x1⟩
  rw [hF] at hr1
  have HS1 := Lib.hid (HS0.out.ext x1); have X1 := Lib.hid (X0.out.trans x1)
  clear HS0 X0 x1 hN hM hF h64
  have c0 := HS1.out.cell 0 _ rfl; have c1 := HS1.out.cell 1 _ rfl; have c2 := HS1.out.cell 2 _ rfl; have c13 := HS1.out.cell 13 _ rfl; have c14 := HS1.out.cell 14 _ rfl; have c15 := HS1.out.cell 15 _ rfl
  go_upto_region 6 with (first | (refine wpList_load_mid rfl 23 _ rfl w.heap.size 2 (by rfl) (encV c.ev) _ (bx_range HS1.out 2 (cmEv_at c)) Try.underlying23 rfl sizeV ?_))
  clear hg hq0 hq1 HS1 hR d1 d2 d3
  cases N
  · have hRf : R = false := by rw [← hR2]; rfl
    subst hRf
    clear hR2
    go_wp2
    all_goals (go_ret; exact ⟨rfl, X1.out⟩)
  · by_cases bf : (c.fk == 0) = true
    · by_cases bo : (c.worker == 0) = true
      · by_cases be : (c.week == 0) = true
        · have hRf : R = true := by rw [← hR2]; simp [bf, bo, be]
          subst hRf
          clear hR2
          go_wp2
          all_goals (go_ret; exact ⟨rfl, X1.out⟩)
        · replace be : (c.week == 0) = false := by simpa using be
          have hRf : R = false := by rw [← hR2]; simp [*]
          subst hRf
          clear hR2
          go_wp2
          all_goals (go_ret; exact ⟨rfl, X1.out⟩)
      · replace bo : (c.worker == 0) = false := by simpa using bo
        have hRf : R = false := by rw [← hR2]; simp [*]
        subst hRf
        clear hR2
        go_wp2
        all_goals (go_ret; exact ⟨rfl, X1.out⟩)
    · replace bf : (c.fk == 0) = false := by simpa using bf
      have hRf : R = false := by rw [← hR2]; simp [*]
      subst hRf
      clear hR2
      go_wp2
      all_goals (go_ret; exact ⟨rfl, X1.out⟩)
set_option maxRecDepth 100000 in
set_option maxHeartbeats 2000000 in
theorem rChkK9 (c : Cm) (h64 : Cm64 c) (w : World) (h : ¬ (c.tear < 0 ∨ c.worker < 0 ∨ c.week < 0)) (hk : c.kind < 1 ∨ 8 < c.kind) : Calls Try.prog 28 #[.agg (encC c).toArray] w (RetB w (refC c)) := by
  have HS0 := Lib.hid (Bx.new w (encC c) 27)
  have X0 := Lib.hid ((Ext.refl w).alloc (.cells (encC c).toArray 27))
  obtain ⟨R, hR⟩ : ∃ R, refC c = R := ⟨_, rfl⟩
  rw [hR]
  have hR2 := hR
  unfold refC at hR2
  replace hR := Lib.hid hR
  obtain ⟨N, hN⟩ : ∃ N, decide (c.ev = ev0) = N := ⟨_, rfl⟩
  obtain ⟨M, hM⟩ : ∃ M, decide (c.ev = { ev0 with id := c.ev.id }) = M := ⟨_, rfl⟩
  obtain ⟨F, hF⟩ : ∃ F, fairB c.ev = F := ⟨_, rfl⟩
  simp only [hN, hM, hF] at hR2
  have hg := eqGuardV
  have hq0 : ∀ w, (Op.equalIn 10000 23 (.agg (encV c.ev).toArray) (.agg #[.int .i64 0, .int .i64 0, .int .i64 0, .int .i64 0, .int .i64 0, .int .i64 0, .int .i64 0, .int .i64 0, .int .i64 0, .int .i64 0, .int .i64 0])).run Try.prog w = .ok N w := fun w => by rw [← hN]; exact eqInV c.ev ev0 w
  have hq1 : ∀ w, (Op.equalIn 10000 23 (.agg (encV c.ev).toArray) (.agg #[.int .i64 c.ev.id, .int .i64 0, .int .i64 0, .int .i64 0, .int .i64 0, .int .i64 0, .int .i64 0, .int .i64 0, .int .i64 0, .int .i64 0, .int .i64 0])).run Try.prog w = .ok M w := fun w => by rw [← hM]; exact eqInV c.ev { ev0 with id := c.ev.id } w
  rw [if_neg h] at hR2
  have d1 : decide (c.tear < 0) = false := decide_eq_false (by omega)
  have d2 : decide (c.worker < 0) = false := decide_eq_false (by omega)
  have d3 : decide (c.week < 0) = false := decide_eq_false (by omega)
  have q1 : (c.kind == 1) = false := by rw [beq_eq_false_iff_ne]; omega
  have q2 : (c.kind == 2) = false := by rw [beq_eq_false_iff_ne]; omega
  have q3 : (c.kind == 3) = false := by rw [beq_eq_false_iff_ne]; omega
  have q4 : (c.kind == 4) = false := by rw [beq_eq_false_iff_ne]; omega
  have q5 : (c.kind == 5) = false := by rw [beq_eq_false_iff_ne]; omega
  have q6 : (c.kind == 6) = false := by rw [beq_eq_false_iff_ne]; omega
  have q7 : (c.kind == 7) = false := by rw [beq_eq_false_iff_ne]; omega
  have q8 : (c.kind == 8) = false := by rw [beq_eq_false_iff_ne]; omega
  have hRf : R = false := by
    rw [← hR2, if_neg (by omega), if_neg (by omega), if_neg (by omega), if_neg (by omega), if_neg (by omega), if_neg (by omega)]
  subst hRf
  clear hR2 h hk
  go_enter Try.func28, Try.ntmps28
  go_wp2_with (first | (refine wpList_load_mid rfl 23 _ rfl w.heap.size 2 (by rfl) (encV c.ev) _ (bx_range HS0.out 2 (cmEv_at c)) Try.underlying23 rfl sizeV ?_))
  refine (rEPutNil _ c.ev h64.ev).mono ?_
  rintro e1 w1 ⟨⟨A1, n1, p1, r1, rfl, hr1⟩, x1⟩
  rw [hF] at hr1
  have HS1 := Lib.hid (HS0.out.ext x1); have X1 := Lib.hid (X0.out.trans x1)
  clear HS0 X0 x1 hN hM hF h64
  have c0 := HS1.out.cell 0 _ rfl; have c1 := HS1.out.cell 1 _ rfl; have c2 := HS1.out.cell 2 _ rfl; have c13 := HS1.out.cell 13 _ rfl; have c14 := HS1.out.cell 14 _ rfl; have c15 := HS1.out.cell 15 _ rfl
  go_upto_region 6 with (first | (refine wpList_load_mid rfl 23 _ rfl w.heap.size 2 (by rfl) (encV c.ev) _ (bx_range HS1.out 2 (cmEv_at c)) Try.underlying23 rfl sizeV ?_))
  go_wp2
  all_goals (go_ret; exact ⟨rfl, X1.out⟩)
theorem rCheckC (c : Cm) (h64 : Cm64 c) (w : World) : Calls Try.prog 28 #[.agg (encC c).toArray] w (RetB w (plainC c)) := by
  rw [← refC_eq]
  by_cases h : c.tear < 0 ∨ c.worker < 0 ∨ c.week < 0
  · exact rChkLow c h64 w h
  by_cases k1 : c.kind = 1
  · exact rChkK1 c h64 w h k1
  by_cases k2 : c.kind = 2
  · exact rChkK2 c h64 w h k2
  by_cases k3 : c.kind = 3
  · exact rChkK3 c h64 w h k3
  by_cases k4 : c.kind = 4
  · exact rChkK4 c h64 w h k4
  by_cases k5 : c.kind = 5
  · exact rChkK5 c h64 w h k5
  by_cases k6 : c.kind = 6
  · exact rChkK6 c h64 w h k6
  by_cases k7 : c.kind = 7
  · exact rChkK7 c h64 w h k7
  by_cases k8 : c.kind = 8
  · exact rChkK8 c h64 w h k8
  exact rChkK9 c h64 w h (by omega)
end Go.Proofs.Ytmbjbbflhlndcaa
