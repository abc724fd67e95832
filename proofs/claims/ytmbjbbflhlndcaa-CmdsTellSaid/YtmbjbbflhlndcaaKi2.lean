/-
  lumperref24.bytes.
-/
import Derived.Test.YtmbjbbflhlndcaaKg2
import Derived.Test.YtmbjbbflhlndcaaKc2
namespace Go.Proofs.Ytmbjbbflhlndcaa
open Go.RowKit BigFrame
set_option linter.unusedVariables false
set_option linter.unusedSimpArgs false

theorem encZ_one (n : Int) : encZ [n] = one n.toNat := by simp [encZ, encNs]
theorem one_le9 {n : Int} (h0 : 0 ≤ n) (h : B64 n) : (one n.toNat).length ≤ 9 := by
  unfold B64 at h
  rw [one_len]
  have := needN_8 (n := n.toNat) (by omega)
  omega
theorem one_pos (n : Nat) : 1 ≤ (one n).length := by rw [one_len]; omega
theorem rOneA (n : Int) (h0 : 0 ≤ n) (h : B64 n) (w : World) : Calls Try.prog 86 #[.int .i64 n] w fun e w' => ∃ A cap D, one n.toNat = D ∧ e = .returned (.slice A D.length cap) ∧ Rb w' A D ∧ Ext w w' ∧ w'.ownsRow w.heap.size 5 1 (.slice A D.length cap) D.length (flat encB D) :=
  (rOne n h0 (by unfold B64 at h; omega) w).mono fun _ _ ⟨A, cap, he, h1, h2, h3⟩ => ⟨A, cap, _, rfl, he, h1, h2, h3⟩
theorem encZ_two (x y : Int) : encZ [x, y] = one x.toNat ++ one y.toNat := by simp [encZ, encNs]
theorem encZ_nil : encZ [] = [] := rfl

set_option maxRecDepth 100000 in
set_option maxHeartbeats 2000000 in
theorem rByK1 (c : Cm) (h64 : Cm64 c) (w : World) (hk : c.kind = 1) (ht : 0 ≤ c.tear) (hev : fairB c.ev = true) : Calls Try.prog 57 #[.agg (encC c).toArray] w (RetBy w (encM c)) := by
  have HB0 := Lib.hid (Bx.new w (encC c) 27)
  obtain ⟨R, hR⟩ : ∃ R, encM c = R := ⟨_, rfl⟩
  rw [hR]
  replace hR := Lib.hid hR
  have hk9 := Lib.hid hk
  have q1 : (c.kind == 1) = true := by rw [beq_iff_eq]; exact hk
  have q2 : (c.kind == 2) = false := by rw [beq_eq_false_iff_ne]; omega
  have q3 : (c.kind == 3) = false := by rw [beq_eq_false_iff_ne]; omega
  have q4 : (c.kind == 4) = false := by rw [beq_eq_false_iff_ne]; omega
  have q5 : (c.kind == 5) = false := by rw [beq_eq_false_iff_ne]; omega
  have q6 : (c.kind == 6) = false := by rw [beq_eq_false_iff_ne]; omega
  have q7 : (c.kind == 7) = false := by rw [beq_eq_false_iff_ne]; omega
  have q8 : (c.kind == 8) = false := by rw [beq_eq_false_iff_ne]; omega
  have hk0 : 1 ≤ c.kind ∧ c.kind ≤ 8 := by omega
  clear hk
  go_enter Try.func57, Try.ntmps57
  have c0 := HB0.out.cell 0 _ rfl
  go_wp2_with fail
  refine (rOneA c.kind (by omega) h64.kind _).mono ?_
  rintro e1 w1 ⟨A1, p1, L1, hL1, rfl, _, x1, o1⟩
  have l1 : L1.length ≤ 9 := by rw [← hL1]; exact one_le9 (by omega) h64.kind
  have HB1 := Lib.hid (HB0.out.ext x1); have X1 := Lib.hid x1; have O1 := Lib.hid o1
  replace hL1 := Lib.hid hL1
  clear x1 o1 c0
  have d0 := HB1.out.cell 0 _ rfl
  go_wp2_with (first | (refine wpList_load_mid rfl 23 _ rfl w.heap.size 2 (by rfl) (encV c.ev) _ (bx_range HB1.out 2 (cmEv_at c)) Try.underlying23 rfl sizeV ?_))
  refine (rEPutY (Rw.own elB O1.out) (by omega) _ c.ev h64.ev hev).mono ?_
  rintro e2 w2 ⟨A2, p2, rfl, _, y2, o2⟩
  have le2 := (encE_len hev h64.ev).1
  obtain ⟨L2, hL2⟩ : ∃ L, L1 ++ encE c.ev = L := ⟨_, rfl⟩
  have l2 : L2.length ≤ 218 := by rw [← hL2, List.length_append]; omega
  rw [hL2] at o2 ⊢
  have HB2 := Lib.hid (HB1.out.ext y2); have X2 := Lib.hid (X1.out.trans y2); have O2 := Lib.hid (own_base o2 X1.out.size)
  replace hL2 := Lib.hid hL2
  clear y2 o2 le2 HB1 X1 O1
  have c15 := HB2.out.cell 15 _ rfl
  go_wp2_with fail
  refine (rOneA c.tear (ht) h64.tear _).mono ?_
  rintro e3 v3 ⟨B3, q3, D3, hD3, rfl, rD3, y3, _⟩
  have ld3 : D3.length ≤ 9 := by rw [← hD3]; exact one_le9 (ht) h64.tear
  have O3m := own_below O2.out y3
  replace hD3 := Lib.hid hD3
  go_wp2_with (first | (at_builtin; refine appG elB (w.alloc (.cells (encC c).toArray 27)) _ (X2.out.trans y3) _ _ (by rfl) (by rfl) L2.length _ L2 D3 (by rfl) O3m rfl B3 q3 D3.length (by rfl) rfl rD3 (by omega) ?_; intro A3 p3 w3 o3 x3; have HB3 := Lib.hid (HB0.out.ext x3); have z1 := HB3.out.cell 1 _ rfl; have z2 := HB3.out.cell 2 _ rfl; have z14 := HB3.out.cell 14 _ rfl; have z15 := HB3.out.cell 15 _ rfl) | (refine wpList_load_mid rfl 23 _ rfl w.heap.size 2 (by rfl) (encV c.ev) _ (bx_range HB3.out 2 (cmEv_at c)) Try.underlying23 rfl sizeV ?_))
  obtain ⟨L3, hL3⟩ : ∃ L, L2 ++ D3 = L := ⟨_, rfl⟩
  have en3 : L2.length + D3.length = L3.length := by rw [← hL3, List.length_append]
  have l3 : L3.length ≤ 227 := by omega
  rw [hL3] at o3
  rw [en3] at o3 ⊢
  have X3 := Lib.hid x3; have O3 := Lib.hid o3
  clear z1 z2 z14 z15
  replace hL3 := Lib.hid hL3
  clear x3 o3 en3 rD3 y3 O3m ld3 HB2 X2 O2
  go_ret
  refine RetL.of elB (l := L3) ?_ rfl O3.out (by simp) (((Ext.refl w).alloc _).trans X3.out)
  rw [← hR.out, ← hL3.out, ← hL2.out, ← hL1.out, ← hD3.out]
  unfold encM
  have e1 : ownC c = [] := by unfold ownC; simp [hk9.out]
  have e2 : partC c = false := by unfold partC; simp [hk9.out]
  have e3 : wholeC c = true := by unfold wholeC; simp [hk9.out]
  rw [e1, e2, e3]
  simp only [Bool.false_eq_true, if_false, if_true]
  simp only [encZ_append, encZ_one, encZ_two, encZ_nil, List.append_assoc, List.nil_append, List.append_nil]

set_option maxRecDepth 100000 in
set_option maxHeartbeats 2000000 in
theorem rByK2v (c : Cm) (h64 : Cm64 c) (w : World) (hk : c.kind = 2) (ht : 0 ≤ c.tear) (hf : c.fk = 2) (hid : 0 ≤ c.ev.id) : Calls Try.prog 57 #[.agg (encC c).toArray] w (RetBy w (encM c)) := by
  have HB0 := Lib.hid (Bx.new w (encC c) 27)
  obtain ⟨R, hR⟩ : ∃ R, encM c = R := ⟨_, rfl⟩
  rw [hR]
  replace hR := Lib.hid hR
  have hk9 := Lib.hid hk
  have hf0 : 0 ≤ c.fk := by omega
  have hf9 : Hid (c.fk = 2) := hf
  have g2 : (c.fk == 2) = true := by rw [beq_iff_eq]; exact hf
  clear hf
  have q1 : (c.kind == 1) = false := by rw [beq_eq_false_iff_ne]; omega
  have q2 : (c.kind == 2) = true := by rw [beq_iff_eq]; exact hk
  have q3 : (c.kind == 3) = false := by rw [beq_eq_false_iff_ne]; omega
  have q4 : (c.kind == 4) = false := by rw [beq_eq_false_iff_ne]; omega
  have q5 : (c.kind == 5) = false := by rw [beq_eq_false_iff_ne]; omega
  have q6 : (c.kind == 6) = false := by rw [beq_eq_false_iff_ne]; omega
  have q7 : (c.kind == 7) = false := by rw [beq_eq_false_iff_ne]; omega
  have q8 : (c.kind == 8) = false := by rw [beq_eq_false_iff_ne]; omega
  have hk0 : 1 ≤ c.kind ∧ c.kind ≤ 8 := by omega
  clear hk
  go_enter Try.func57, Try.ntmps57
  have c0 := HB0.out.cell 0 _ rfl
  go_wp2_with fail
  refine (rOneA c.kind (by omega) h64.kind _).mono ?_
  rintro e1 w1 ⟨A1, p1, L1, hL1, rfl, _, x1, o1⟩
  have l1 : L1.length ≤ 9 := by rw [← hL1]; exact one_le9 (by omega) h64.kind
  have HB1 := Lib.hid (HB0.out.ext x1); have X1 := Lib.hid x1; have O1 := Lib.hid o1
  replace hL1 := Lib.hid hL1
  clear x1 o1 c0
  have d0 := HB1.out.cell 0 _ rfl
  have c1 := HB1.out.cell 1 _ rfl
  go_wp2_with fail
  refine (rOneA c.fk (hf0) h64.fk _).mono ?_
  rintro e2 v2 ⟨B2, q2, D2, hD2, rfl, rD2, y2, _⟩
  have ld2 : D2.length ≤ 9 := by rw [← hD2]; exact one_le9 (hf0) h64.fk
  have O2m := own_below O1.out y2
  replace hD2 := Lib.hid hD2
  go_wp2_with (first | (at_builtin; refine appG elB (w.alloc (.cells (encC c).toArray 27)) _ (X1.out.trans y2) _ _ (by rfl) (by rfl) L1.length _ L1 D2 (by rfl) O2m rfl B2 q2 D2.length (by rfl) rfl rD2 (by omega) ?_; intro A2 p2 w2 o2 x2; have HB2 := Lib.hid (HB0.out.ext x2); have z1 := HB2.out.cell 1 _ rfl; have z2 := HB2.out.cell 2 _ rfl; have z14 := HB2.out.cell 14 _ rfl; have z15 := HB2.out.cell 15 _ rfl) | (refine wpList_load_mid rfl 23 _ rfl w.heap.size 2 (by rfl) (encV c.ev) _ (bx_range HB2.out 2 (cmEv_at c)) Try.underlying23 rfl sizeV ?_))
  obtain ⟨L2, hL2⟩ : ∃ L, L1 ++ D2 = L := ⟨_, rfl⟩
  have en2 : L1.length + D2.length = L2.length := by rw [← hL2, List.length_append]
  have l2 : L2.length ≤ 118 := by omega
  rw [hL2] at o2
  rw [en2] at o2 ⊢
  have X2 := Lib.hid x2; have O2 := Lib.hid o2
  clear z1 z2 z14 z15
  replace hL2 := Lib.hid hL2
  clear x2 o2 en2 rD2 y2 O2m ld2 HB1 X1 O1
  refine (rOneA c.ev.id (hid) h64.ev.id _).mono ?_
  rintro e3 v3 ⟨B3, q3, D3, hD3, rfl, rD3, y3, _⟩
  have ld3 : D3.length ≤ 9 := by rw [← hD3]; exact one_le9 (hid) h64.ev.id
  have O3m := own_below O2.out y3
  replace hD3 := Lib.hid hD3
  go_wp2_with (first | (at_builtin; refine appG elB (w.alloc (.cells (encC c).toArray 27)) _ (X2.out.trans y3) _ _ (by rfl) (by rfl) L2.length _ L2 D3 (by rfl) O3m rfl B3 q3 D3.length (by rfl) rfl rD3 (by omega) ?_; intro A3 p3 w3 o3 x3; have HB3 := Lib.hid (HB0.out.ext x3); have z1 := HB3.out.cell 1 _ rfl; have z2 := HB3.out.cell 2 _ rfl; have z14 := HB3.out.cell 14 _ rfl; have z15 := HB3.out.cell 15 _ rfl) | (refine wpList_load_mid rfl 23 _ rfl w.heap.size 2 (by rfl) (encV c.ev) _ (bx_range HB3.out 2 (cmEv_at c)) Try.underlying23 rfl sizeV ?_))
  obtain ⟨L3, hL3⟩ : ∃ L, L2 ++ D3 = L := ⟨_, rfl⟩
  have en3 : L2.length + D3.length = L3.length := by rw [← hL3, List.length_append]
  have l3 : L3.length ≤ 127 := by omega
  rw [hL3] at o3
  rw [en3] at o3 ⊢
  have X3 := Lib.hid x3; have O3 := Lib.hid o3
  clear z1 z2 z14 z15
  replace hL3 := Lib.hid hL3
  clear x3 o3 en3 rD3 y3 O3m ld3 HB2 X2 O2
  refine (rOneA c.tear (ht) h64.tear _).mono ?_
  rintro e4 v4 ⟨B4, q4, D4, hD4, rfl, rD4, y4, _⟩
  have ld4 : D4.length ≤ 9 := by rw [← hD4]; exact one_le9 (ht) h64.tear
  have O4m := own_below O3.out y4
  replace hD4 := Lib.hid hD4
  go_wp2_with (first | (at_builtin; refine appG elB (w.alloc (.cells (encC c).toArray 27)) _ (X3.out.trans y4) _ _ (by rfl) (by rfl) L3.length _ L3 D4 (by rfl) O4m rfl B4 q4 D4.length (by rfl) rfl rD4 (by omega) ?_; intro A4 p4 w4 o4 x4; have HB4 := Lib.hid (HB0.out.ext x4); have z1 := HB4.out.cell 1 _ rfl; have z2 := HB4.out.cell 2 _ rfl; have z14 := HB4.out.cell 14 _ rfl; have z15 := HB4.out.cell 15 _ rfl) | (refine wpList_load_mid rfl 23 _ rfl w.heap.size 2 (by rfl) (encV c.ev) _ (bx_range HB4.out 2 (cmEv_at c)) Try.underlying23 rfl sizeV ?_))
  obtain ⟨L4, hL4⟩ : ∃ L, L3 ++ D4 = L := ⟨_, rfl⟩
  have en4 : L3.length + D4.length = L4.length := by rw [← hL4, List.length_append]
  have l4 : L4.length ≤ 136 := by omega
  rw [hL4] at o4
  rw [en4] at o4 ⊢
  have X4 := Lib.hid x4; have O4 := Lib.hid o4
  clear z1 z2 z14 z15
  replace hL4 := Lib.hid hL4
  clear x4 o4 en4 rD4 y4 O4m ld4 HB3 X3 O3
  go_ret
  refine RetL.of elB (l := L4) ?_ rfl O4.out (by simp) (((Ext.refl w).alloc _).trans X4.out)
  rw [← hR.out, ← hL4.out, ← hL3.out, ← hL2.out, ← hL1.out, ← hD2.out, ← hD3.out, ← hD4.out]
  unfold encM
  have e1 : ownC c = [c.fk] := by unfold ownC; simp [hk9.out]
  have e2 : partC c = true := by unfold partC; simp only [decide_eq_true_iff]; have := hf9.out; have := hk9.out; omega
  have e3 : wholeC c = false := by unfold wholeC; simp only [decide_eq_false_iff_not]; have := hf9.out; have := hk9.out; omega
  rw [e1, e2, e3]
  simp only [Bool.false_eq_true, if_false, if_true]
  simp only [encZ_append, encZ_one, encZ_two, encZ_nil, List.append_assoc, List.nil_append, List.append_nil]

set_option maxRecDepth 100000 in
set_option maxHeartbeats 2000000 in
theorem rByK2e (c : Cm) (h64 : Cm64 c) (w : World) (hk : c.kind = 2) (ht : 0 ≤ c.tear) (hf : c.fk = 1 ∨ c.fk = 3) (hev : fairB c.ev = true) : Calls Try.prog 57 #[.agg (encC c).toArray] w (RetBy w (encM c)) := by
  have HB0 := Lib.hid (Bx.new w (encC c) 27)
  obtain ⟨R, hR⟩ : ∃ R, encM c = R := ⟨_, rfl⟩
  rw [hR]
  replace hR := Lib.hid hR
  have hk9 := Lib.hid hk
  have hf0 : 0 ≤ c.fk := by omega
  have hf9 := Lib.hid hf
  have g2 : (c.fk == 2) = false := by rw [beq_eq_false_iff_ne]; omega
  clear hf
  have q1 : (c.kind == 1) = false := by rw [beq_eq_false_iff_ne]; omega
  have q2 : (c.kind == 2) = true := by rw [beq_iff_eq]; exact hk
  have q3 : (c.kind == 3) = false := by rw [beq_eq_false_iff_ne]; omega
  have q4 : (c.kind == 4) = false := by rw [beq_eq_false_iff_ne]; omega
  have q5 : (c.kind == 5) = false := by rw [beq_eq_false_iff_ne]; omega
  have q6 : (c.kind == 6) = false := by rw [beq_eq_false_iff_ne]; omega
  have q7 : (c.kind == 7) = false := by rw [beq_eq_false_iff_ne]; omega
  have q8 : (c.kind == 8) = false := by rw [beq_eq_false_iff_ne]; omega
  have hk0 : 1 ≤ c.kind ∧ c.kind ≤ 8 := by omega
  clear hk
  go_enter Try.func57, Try.ntmps57
  have c0 := HB0.out.cell 0 _ rfl
  go_wp2_with fail
  refine (rOneA c.kind (by omega) h64.kind _).mono ?_
  rintro e1 w1 ⟨A1, p1, L1, hL1, rfl, _, x1, o1⟩
  have l1 : L1.length ≤ 9 := by rw [← hL1]; exact one_le9 (by omega) h64.kind
  have HB1 := Lib.hid (HB0.out.ext x1); have X1 := Lib.hid x1; have O1 := Lib.hid o1
  replace hL1 := Lib.hid hL1
  clear x1 o1 c0
  have d0 := HB1.out.cell 0 _ rfl
  have c1 := HB1.out.cell 1 _ rfl
  go_wp2_with fail
  refine (rOneA c.fk (hf0) h64.fk _).mono ?_
  rintro e2 v2 ⟨B2, q2, D2, hD2, rfl, rD2, y2, _⟩
  have ld2 : D2.length ≤ 9 := by rw [← hD2]; exact one_le9 (hf0) h64.fk
  have O2m := own_below O1.out y2
  replace hD2 := Lib.hid hD2
  go_wp2_with (first | (at_builtin; refine appG elB (w.alloc (.cells (encC c).toArray 27)) _ (X1.out.trans y2) _ _ (by rfl) (by rfl) L1.length _ L1 D2 (by rfl) O2m rfl B2 q2 D2.length (by rfl) rfl rD2 (by omega) ?_; intro A2 p2 w2 o2 x2; have HB2 := Lib.hid (HB0.out.ext x2); have z1 := HB2.out.cell 1 _ rfl; have z2 := HB2.out.cell 2 _ rfl; have z14 := HB2.out.cell 14 _ rfl; have z15 := HB2.out.cell 15 _ rfl) | (refine wpList_load_mid rfl 23 _ rfl w.heap.size 2 (by rfl) (encV c.ev) _ (bx_range HB2.out 2 (cmEv_at c)) Try.underlying23 rfl sizeV ?_))
  obtain ⟨L2, hL2⟩ : ∃ L, L1 ++ D2 = L := ⟨_, rfl⟩
  have en2 : L1.length + D2.length = L2.length := by rw [← hL2, List.length_append]
  have l2 : L2.length ≤ 118 := by omega
  rw [hL2] at o2
  rw [en2] at o2 ⊢
  have X2 := Lib.hid x2; have O2 := Lib.hid o2
  clear z1 z2 z14 z15
  replace hL2 := Lib.hid hL2
  clear x2 o2 en2 rD2 y2 O2m ld2 HB1 X1 O1
  refine (rEPutY (Rw.own elB O2.out) (by omega) _ c.ev h64.ev hev).mono ?_
  rintro e3 w3 ⟨A3, p3, rfl, _, y3, o3⟩
  have le3 := (encE_len hev h64.ev).1
  obtain ⟨L3, hL3⟩ : ∃ L, L2 ++ encE c.ev = L := ⟨_, rfl⟩
  have l3 : L3.length ≤ 227 := by rw [← hL3, List.length_append]; omega
  rw [hL3] at o3 ⊢
  have HB3 := Lib.hid (HB2.out.ext y3); have X3 := Lib.hid (X2.out.trans y3); have O3 := Lib.hid (own_base o3 X2.out.size)
  replace hL3 := Lib.hid hL3
  clear y3 o3 le3 HB2 X2 O2
  have c15 := HB3.out.cell 15 _ rfl
  go_wp2_with fail
  refine (rOneA c.tear (ht) h64.tear _).mono ?_
  rintro e4 v4 ⟨B4, q4, D4, hD4, rfl, rD4, y4, _⟩
  have ld4 : D4.length ≤ 9 := by rw [← hD4]; exact one_le9 (ht) h64.tear
  have O4m := own_below O3.out y4
  replace hD4 := Lib.hid hD4
  go_wp2_with (first | (at_builtin; refine appG elB (w.alloc (.cells (encC c).toArray 27)) _ (X3.out.trans y4) _ _ (by rfl) (by rfl) L3.length _ L3 D4 (by rfl) O4m rfl B4 q4 D4.length (by rfl) rfl rD4 (by omega) ?_; intro A4 p4 w4 o4 x4; have HB4 := Lib.hid (HB0.out.ext x4); have z1 := HB4.out.cell 1 _ rfl; have z2 := HB4.out.cell 2 _ rfl; have z14 := HB4.out.cell 14 _ rfl; have z15 := HB4.out.cell 15 _ rfl) | (refine wpList_load_mid rfl 23 _ rfl w.heap.size 2 (by rfl) (encV c.ev) _ (bx_range HB4.out 2 (cmEv_at c)) Try.underlying23 rfl sizeV ?_))
  obtain ⟨L4, hL4⟩ : ∃ L, L3 ++ D4 = L := ⟨_, rfl⟩
  have en4 : L3.length + D4.length = L4.length := by rw [← hL4, List.length_append]
  have l4 : L4.length ≤ 236 := by omega
  rw [hL4] at o4
  rw [en4] at o4 ⊢
  have X4 := Lib.hid x4; have O4 := Lib.hid o4
  clear z1 z2 z14 z15
  replace hL4 := Lib.hid hL4
  clear x4 o4 en4 rD4 y4 O4m ld4 HB3 X3 O3
  go_ret
  refine RetL.of elB (l := L4) ?_ rfl O4.out (by simp) (((Ext.refl w).alloc _).trans X4.out)
  rw [← hR.out, ← hL4.out, ← hL3.out, ← hL2.out, ← hL1.out, ← hD2.out, ← hD4.out]
  unfold encM
  have e1 : ownC c = [c.fk] := by unfold ownC; simp [hk9.out]
  have e2 : partC c = false := by unfold partC; simp only [decide_eq_false_iff_not]; have := hf9.out; have := hk9.out; omega
  have e3 : wholeC c = true := by unfold wholeC; simp only [decide_eq_true_iff]; have := hf9.out; have := hk9.out; omega
  rw [e1, e2, e3]
  simp only [Bool.false_eq_true, if_false, if_true]
  simp only [encZ_append, encZ_one, encZ_two, encZ_nil, List.append_assoc, List.nil_append, List.append_nil]

set_option maxRecDepth 100000 in
set_option maxHeartbeats 2000000 in
theorem rByK3 (c : Cm) (h64 : Cm64 c) (w : World) (hk : c.kind = 3) (ht : 0 ≤ c.tear) (hwo : 0 ≤ c.worker) (hwe : 0 ≤ c.week) : Calls Try.prog 57 #[.agg (encC c).toArray] w (RetBy w (encM c)) := by
  have HB0 := Lib.hid (Bx.new w (encC c) 27)
  obtain ⟨R, hR⟩ : ∃ R, encM c = R := ⟨_, rfl⟩
  rw [hR]
  replace hR := Lib.hid hR
  have hk9 := Lib.hid hk
  have q1 : (c.kind == 1) = false := by rw [beq_eq_false_iff_ne]; omega
  have q2 : (c.kind == 2) = false := by rw [beq_eq_false_iff_ne]; omega
  have q3 : (c.kind == 3) = true := by rw [beq_iff_eq]; exact hk
  have q4 : (c.kind == 4) = false := by rw [beq_eq_false_iff_ne]; omega
  have q5 : (c.kind == 5) = false := by rw [beq_eq_false_iff_ne]; omega
  have q6 : (c.kind == 6) = false := by rw [beq_eq_false_iff_ne]; omega
  have q7 : (c.kind == 7) = false := by rw [beq_eq_false_iff_ne]; omega
  have q8 : (c.kind == 8) = false := by rw [beq_eq_false_iff_ne]; omega
  have hk0 : 1 ≤ c.kind ∧ c.kind ≤ 8 := by omega
  clear hk
  go_enter Try.func57, Try.ntmps57
  have c0 := HB0.out.cell 0 _ rfl
  go_wp2_with fail
  refine (rOneA c.kind (by omega) h64.kind _).mono ?_
  rintro e1 w1 ⟨A1, p1, L1, hL1, rfl, _, x1, o1⟩
  have l1 : L1.length ≤ 9 := by rw [← hL1]; exact one_le9 (by omega) h64.kind
  have HB1 := Lib.hid (HB0.out.ext x1); have X1 := Lib.hid x1; have O1 := Lib.hid o1
  replace hL1 := Lib.hid hL1
  clear x1 o1 c0
  have d0 := HB1.out.cell 0 _ rfl
  go_wp2_with fail
  have HB1d := Lib.hid (HB1.out.drewN 1); have X1d := Lib.hid (X1.out.drewN 1); have O1d := Lib.hid (own_drewN O1.out 1)
  clear HB1 X1 O1 d0
  have HB1 := HB1d; have X1 := X1d; have O1 := O1d
  clear HB1d X1d O1d
  refine held_start (S := fun W => Bx W w.heap.size (encC c) 27) 10 rfl (by kernel_rfl) ?_
  refine held_move (i := 0) rfl (by kernel_rfl) (by kernel_rfl) (by kernel_rfl) _ rfl rfl HB1.out _ (by simp [Act.put]; rfl) ?_
  refine held_takeV (i := 1) rfl (by kernel_rfl) (by kernel_rfl) (by kernel_rfl) (.pointer (some ⟨w.heap.size, 13, none⟩)) rfl (fun w _ => by go_simp) HB1.out _ (by simp [Act.put]; rfl) ?_
  refine held_takeV (i := 2) rfl (by kernel_rfl) (by kernel_rfl) (by kernel_rfl) (.int .i64 c.worker) rfl (fun w h => by have cc := h.cell 13 _ rfl; go_simp) HB1.out _ (by simp [Act.put]; rfl) ?_
  refine held_takeV (i := 5) rfl (by kernel_rfl) (by kernel_rfl) (by kernel_rfl) (.pointer (some ⟨w.heap.size, 14, none⟩)) rfl (fun w _ => by go_simp) HB1.out _ (by simp [Act.put]; rfl) ?_
  refine held_takeV (i := 6) rfl (by kernel_rfl) (by kernel_rfl) (by kernel_rfl) (.int .i64 c.week) rfl (fun w h => by have cc := h.cell 14 _ rfl; go_simp) HB1.out _ (by simp [Act.put]; rfl) ?_
  refine held_all (i := 3) rfl (by kernel_rfl) rfl ?_
  go_wp2_with fail
  refine (rOneA c.worker (hwo) h64.worker _).mono ?_
  rintro e2 v2 ⟨B2, q2, D2, hD2, rfl, rD2, y2, _⟩
  have ld2 : D2.length ≤ 9 := by rw [← hD2]; exact one_le9 (hwo) h64.worker
  have O2m := own_below O1.out y2
  have HB2m := HB1.out.ext y2
  replace hD2 := Lib.hid hD2
  refine ⟨HB2m, ?_⟩
  refine held_all (i := 4) rfl (by kernel_rfl) rfl ?_
  refine wp_appG elB (w.alloc (.cells (encC c).toArray 27)) _ (X1.out.trans y2) _ _ (by rfl) L1.length _ L1 D2 (by rfl) O2m rfl B2 q2 D2.length (by rfl) rfl rD2 (by omega) ?_
  intro A2 p2 w2 o2 x2 _ _
  obtain ⟨L2, hL2⟩ : ∃ L, L1 ++ D2 = L := ⟨_, rfl⟩
  have en2 : L1.length + D2.length = L2.length := by rw [← hL2, List.length_append]
  have l2 : L2.length ≤ 118 := by omega
  rw [hL2] at o2
  rw [en2] at o2 ⊢
  have HB2 := Lib.hid (HB0.out.ext x2); have X2 := Lib.hid x2; have O2 := Lib.hid o2
  replace hL2 := Lib.hid hL2
  clear x2 o2 en2 rD2 y2 O2m HB2m ld2 HB1 X1 O1
  refine ⟨HB2.out, ?_⟩
  refine held_all (i := 7) rfl (by kernel_rfl) rfl ?_
  go_wp2_with fail
  refine (rOneA c.week (hwe) h64.week _).mono ?_
  rintro e3 v3 ⟨B3, q3, D3, hD3, rfl, rD3, y3, _⟩
  have ld3 : D3.length ≤ 9 := by rw [← hD3]; exact one_le9 (hwe) h64.week
  have O3m := own_below O2.out y3
  have HB3m := HB2.out.ext y3
  replace hD3 := Lib.hid hD3
  refine ⟨HB3m, ?_⟩
  refine held_all (i := 8) rfl (by kernel_rfl) rfl ?_
  refine wp_appG elB (w.alloc (.cells (encC c).toArray 27)) _ (X2.out.trans y3) _ _ (by rfl) L2.length _ L2 D3 (by rfl) O3m rfl B3 q3 D3.length (by rfl) rfl rD3 (by omega) ?_
  intro A3 p3 w3 o3 x3 _ _
  obtain ⟨L3, hL3⟩ : ∃ L, L2 ++ D3 = L := ⟨_, rfl⟩
  have en3 : L2.length + D3.length = L3.length := by rw [← hL3, List.length_append]
  have l3 : L3.length ≤ 127 := by omega
  rw [hL3] at o3
  rw [en3] at o3 ⊢
  have HB3 := Lib.hid (HB0.out.ext x3); have X3 := Lib.hid x3; have O3 := Lib.hid o3
  replace hL3 := Lib.hid hL3
  clear x3 o3 en3 rD3 y3 O3m HB3m ld3 HB2 X2 O2
  refine ⟨HB3.out, ?_⟩
  refine held_assign (i := 9) rfl (by kernel_rfl) (by kernel_rfl) (by kernel_rfl) _ rfl rfl HB3.out _ (by simp [Act.put]; rfl) ?_
  refine held_done (by kernel_rfl) ?_ _
  have c15 := HB3.out.cell 15 _ rfl
  go_wp2_with fail
  refine (rOneA c.tear (ht) h64.tear _).mono ?_
  rintro e4 v4 ⟨B4, q4, D4, hD4, rfl, rD4, y4, _⟩
  have ld4 : D4.length ≤ 9 := by rw [← hD4]; exact one_le9 (ht) h64.tear
  have O4m := own_below O3.out y4
  replace hD4 := Lib.hid hD4
  go_wp2_with (first | (at_builtin; refine appG elB (w.alloc (.cells (encC c).toArray 27)) _ (X3.out.trans y4) _ _ (by rfl) (by rfl) L3.length _ L3 D4 (by rfl) O4m rfl B4 q4 D4.length (by rfl) rfl rD4 (by omega) ?_; intro A4 p4 w4 o4 x4; have HB4 := Lib.hid (HB0.out.ext x4); have z1 := HB4.out.cell 1 _ rfl; have z2 := HB4.out.cell 2 _ rfl; have z14 := HB4.out.cell 14 _ rfl; have z15 := HB4.out.cell 15 _ rfl) | (refine wpList_load_mid rfl 23 _ rfl w.heap.size 2 (by rfl) (encV c.ev) _ (bx_range HB4.out 2 (cmEv_at c)) Try.underlying23 rfl sizeV ?_))
  obtain ⟨L4, hL4⟩ : ∃ L, L3 ++ D4 = L := ⟨_, rfl⟩
  have en4 : L3.length + D4.length = L4.length := by rw [← hL4, List.length_append]
  have l4 : L4.length ≤ 136 := by omega
  rw [hL4] at o4
  rw [en4] at o4 ⊢
  have X4 := Lib.hid x4; have O4 := Lib.hid o4
  clear z1 z2 z14 z15
  replace hL4 := Lib.hid hL4
  clear x4 o4 en4 rD4 y4 O4m ld4 HB3 X3 O3
  go_ret
  refine RetL.of elB (l := L4) ?_ rfl O4.out (by simp) (((Ext.refl w).alloc _).trans X4.out)
  rw [← hR.out, ← hL4.out, ← hL3.out, ← hL2.out, ← hL1.out, ← hD2.out, ← hD3.out, ← hD4.out]
  unfold encM
  have e1 : ownC c = [c.worker, c.week] := by unfold ownC; simp [hk9.out]
  have e2 : partC c = false := by unfold partC; simp [hk9.out]
  have e3 : wholeC c = false := by unfold wholeC; simp [hk9.out]
  rw [e1, e2, e3]
  simp only [Bool.false_eq_true, if_false, if_true]
  simp only [encZ_append, encZ_one, encZ_two, encZ_nil, List.append_assoc, List.nil_append, List.append_nil]

set_option maxRecDepth 100000 in
set_option maxHeartbeats 2000000 in
theorem rByK4 (c : Cm) (h64 : Cm64 c) (w : World) (hk : c.kind = 4) (ht : 0 ≤ c.tear) (hwo : 0 ≤ c.worker) : Calls Try.prog 57 #[.agg (encC c).toArray] w (RetBy w (encM c)) := by
  have HB0 := Lib.hid (Bx.new w (encC c) 27)
  obtain ⟨R, hR⟩ : ∃ R, encM c = R := ⟨_, rfl⟩
  rw [hR]
  replace hR := Lib.hid hR
  have hk9 := Lib.hid hk
  have q1 : (c.kind == 1) = false := by rw [beq_eq_false_iff_ne]; omega
  have q2 : (c.kind == 2) = false := by rw [beq_eq_false_iff_ne]; omega
  have q3 : (c.kind == 3) = false := by rw [beq_eq_false_iff_ne]; omega
  have q4 : (c.kind == 4) = true := by rw [beq_iff_eq]; exact hk
  have q5 : (c.kind == 5) = false := by rw [beq_eq_false_iff_ne]; omega
  have q6 : (c.kind == 6) = false := by rw [beq_eq_false_iff_ne]; omega
  have q7 : (c.kind == 7) = false := by rw [beq_eq_false_iff_ne]; omega
  have q8 : (c.kind == 8) = false := by rw [beq_eq_false_iff_ne]; omega
  have hk0 : 1 ≤ c.kind ∧ c.kind ≤ 8 := by omega
  clear hk
  go_enter Try.func57, Try.ntmps57
  have c0 := HB0.out.cell 0 _ rfl
  go_wp2_with fail
  refine (rOneA c.kind (by omega) h64.kind _).mono ?_
  rintro e1 w1 ⟨A1, p1, L1, hL1, rfl, _, x1, o1⟩
  have l1 : L1.length ≤ 9 := by rw [← hL1]; exact one_le9 (by omega) h64.kind
  have HB1 := Lib.hid (HB0.out.ext x1); have X1 := Lib.hid x1; have O1 := Lib.hid o1
  replace hL1 := Lib.hid hL1
  clear x1 o1 c0
  have d0 := HB1.out.cell 0 _ rfl
  have c13 := HB1.out.cell 13 _ rfl
  go_wp2_with fail
  refine (rOneA c.worker (hwo) h64.worker _).mono ?_
  rintro e2 v2 ⟨B2, q2, D2, hD2, rfl, rD2, y2, _⟩
  have ld2 : D2.length ≤ 9 := by rw [← hD2]; exact one_le9 (hwo) h64.worker
  have O2m := own_below O1.out y2
  replace hD2 := Lib.hid hD2
  go_wp2_with (first | (at_builtin; refine appG elB (w.alloc (.cells (encC c).toArray 27)) _ (X1.out.trans y2) _ _ (by rfl) (by rfl) L1.length _ L1 D2 (by rfl) O2m rfl B2 q2 D2.length (by rfl) rfl rD2 (by omega) ?_; intro A2 p2 w2 o2 x2; have HB2 := Lib.hid (HB0.out.ext x2); have z1 := HB2.out.cell 1 _ rfl; have z2 := HB2.out.cell 2 _ rfl; have z14 := HB2.out.cell 14 _ rfl; have z15 := HB2.out.cell 15 _ rfl) | (refine wpList_load_mid rfl 23 _ rfl w.heap.size 2 (by rfl) (encV c.ev) _ (bx_range HB2.out 2 (cmEv_at c)) Try.underlying23 rfl sizeV ?_))
  obtain ⟨L2, hL2⟩ : ∃ L, L1 ++ D2 = L := ⟨_, rfl⟩
  have en2 : L1.length + D2.length = L2.length := by rw [← hL2, List.length_append]
  have l2 : L2.length ≤ 118 := by omega
  rw [hL2] at o2
  rw [en2] at o2 ⊢
  have X2 := Lib.hid x2; have O2 := Lib.hid o2
  clear z1 z2 z14 z15
  replace hL2 := Lib.hid hL2
  clear x2 o2 en2 rD2 y2 O2m ld2 HB1 X1 O1
  refine (rOneA c.tear (ht) h64.tear _).mono ?_
  rintro e3 v3 ⟨B3, q3, D3, hD3, rfl, rD3, y3, _⟩
  have ld3 : D3.length ≤ 9 := by rw [← hD3]; exact one_le9 (ht) h64.tear
  have O3m := own_below O2.out y3
  replace hD3 := Lib.hid hD3
  go_wp2_with (first | (at_builtin; refine appG elB (w.alloc (.cells (encC c).toArray 27)) _ (X2.out.trans y3) _ _ (by rfl) (by rfl) L2.length _ L2 D3 (by rfl) O3m rfl B3 q3 D3.length (by rfl) rfl rD3 (by omega) ?_; intro A3 p3 w3 o3 x3; have HB3 := Lib.hid (HB0.out.ext x3); have z1 := HB3.out.cell 1 _ rfl; have z2 := HB3.out.cell 2 _ rfl; have z14 := HB3.out.cell 14 _ rfl; have z15 := HB3.out.cell 15 _ rfl) | (refine wpList_load_mid rfl 23 _ rfl w.heap.size 2 (by rfl) (encV c.ev) _ (bx_range HB3.out 2 (cmEv_at c)) Try.underlying23 rfl sizeV ?_))
  obtain ⟨L3, hL3⟩ : ∃ L, L2 ++ D3 = L := ⟨_, rfl⟩
  have en3 : L2.length + D3.length = L3.length := by rw [← hL3, List.length_append]
  have l3 : L3.length ≤ 127 := by omega
  rw [hL3] at o3
  rw [en3] at o3 ⊢
  have X3 := Lib.hid x3; have O3 := Lib.hid o3
  clear z1 z2 z14 z15
  replace hL3 := Lib.hid hL3
  clear x3 o3 en3 rD3 y3 O3m ld3 HB2 X2 O2
  go_ret
  refine RetL.of elB (l := L3) ?_ rfl O3.out (by simp) (((Ext.refl w).alloc _).trans X3.out)
  rw [← hR.out, ← hL3.out, ← hL2.out, ← hL1.out, ← hD2.out, ← hD3.out]
  unfold encM
  have e1 : ownC c = [c.worker] := by unfold ownC; simp [hk9.out]
  have e2 : partC c = false := by unfold partC; simp [hk9.out]
  have e3 : wholeC c = false := by unfold wholeC; simp [hk9.out]
  rw [e1, e2, e3]
  simp only [Bool.false_eq_true, if_false, if_true]
  simp only [encZ_append, encZ_one, encZ_two, encZ_nil, List.append_assoc, List.nil_append, List.append_nil]

set_option maxRecDepth 100000 in
set_option maxHeartbeats 2000000 in
theorem rByK5 (c : Cm) (h64 : Cm64 c) (w : World) (hk : c.kind = 5) (ht : 0 ≤ c.tear) (hwe : 0 ≤ c.week) : Calls Try.prog 57 #[.agg (encC c).toArray] w (RetBy w (encM c)) := by
  have HB0 := Lib.hid (Bx.new w (encC c) 27)
  obtain ⟨R, hR⟩ : ∃ R, encM c = R := ⟨_, rfl⟩
  rw [hR]
  replace hR := Lib.hid hR
  have hk9 := Lib.hid hk
  have q1 : (c.kind == 1) = false := by rw [beq_eq_false_iff_ne]; omega
  have q2 : (c.kind == 2) = false := by rw [beq_eq_false_iff_ne]; omega
  have q3 : (c.kind == 3) = false := by rw [beq_eq_false_iff_ne]; omega
  have q4 : (c.kind == 4) = false := by rw [beq_eq_false_iff_ne]; omega
  have q5 : (c.kind == 5) = true := by rw [beq_iff_eq]; exact hk
  have q6 : (c.kind == 6) = false := by rw [beq_eq_false_iff_ne]; omega
  have q7 : (c.kind == 7) = false := by rw [beq_eq_false_iff_ne]; omega
  have q8 : (c.kind == 8) = false := by rw [beq_eq_false_iff_ne]; omega
  have hk0 : 1 ≤ c.kind ∧ c.kind ≤ 8 := by omega
  clear hk
  go_enter Try.func57, Try.ntmps57
  have c0 := HB0.out.cell 0 _ rfl
  go_wp2_with fail
  refine (rOneA c.kind (by omega) h64.kind _).mono ?_
  rintro e1 w1 ⟨A1, p1, L1, hL1, rfl, _, x1, o1⟩
  have l1 : L1.length ≤ 9 := by rw [← hL1]; exact one_le9 (by omega) h64.kind
  have HB1 := Lib.hid (HB0.out.ext x1); have X1 := Lib.hid x1; have O1 := Lib.hid o1
  replace hL1 := Lib.hid hL1
  clear x1 o1 c0
  have d0 := HB1.out.cell 0 _ rfl
  have c14 := HB1.out.cell 14 _ rfl
  go_wp2_with fail
  refine (rOneA c.week (hwe) h64.week _).mono ?_
  rintro e2 v2 ⟨B2, q2, D2, hD2, rfl, rD2, y2, _⟩
  have ld2 : D2.length ≤ 9 := by rw [← hD2]; exact one_le9 (hwe) h64.week
  have O2m := own_below O1.out y2
  replace hD2 := Lib.hid hD2
  go_wp2_with (first | (at_builtin; refine appG elB (w.alloc (.cells (encC c).toArray 27)) _ (X1.out.trans y2) _ _ (by rfl) (by rfl) L1.length _ L1 D2 (by rfl) O2m rfl B2 q2 D2.length (by rfl) rfl rD2 (by omega) ?_; intro A2 p2 w2 o2 x2; have HB2 := Lib.hid (HB0.out.ext x2); have z1 := HB2.out.cell 1 _ rfl; have z2 := HB2.out.cell 2 _ rfl; have z14 := HB2.out.cell 14 _ rfl; have z15 := HB2.out.cell 15 _ rfl) | (refine wpList_load_mid rfl 23 _ rfl w.heap.size 2 (by rfl) (encV c.ev) _ (bx_range HB2.out 2 (cmEv_at c)) Try.underlying23 rfl sizeV ?_))
  obtain ⟨L2, hL2⟩ : ∃ L, L1 ++ D2 = L := ⟨_, rfl⟩
  have en2 : L1.length + D2.length = L2.length := by rw [← hL2, List.length_append]
  have l2 : L2.length ≤ 118 := by omega
  rw [hL2] at o2
  rw [en2] at o2 ⊢
  have X2 := Lib.hid x2; have O2 := Lib.hid o2
  clear z1 z2 z14 z15
  replace hL2 := Lib.hid hL2
  clear x2 o2 en2 rD2 y2 O2m ld2 HB1 X1 O1
  refine (rOneA c.tear (ht) h64.tear _).mono ?_
  rintro e3 v3 ⟨B3, q3, D3, hD3, rfl, rD3, y3, _⟩
  have ld3 : D3.length ≤ 9 := by rw [← hD3]; exact one_le9 (ht) h64.tear
  have O3m := own_below O2.out y3
  replace hD3 := Lib.hid hD3
  go_wp2_with (first | (at_builtin; refine appG elB (w.alloc (.cells (encC c).toArray 27)) _ (X2.out.trans y3) _ _ (by rfl) (by rfl) L2.length _ L2 D3 (by rfl) O3m rfl B3 q3 D3.length (by rfl) rfl rD3 (by omega) ?_; intro A3 p3 w3 o3 x3; have HB3 := Lib.hid (HB0.out.ext x3); have z1 := HB3.out.cell 1 _ rfl; have z2 := HB3.out.cell 2 _ rfl; have z14 := HB3.out.cell 14 _ rfl; have z15 := HB3.out.cell 15 _ rfl) | (refine wpList_load_mid rfl 23 _ rfl w.heap.size 2 (by rfl) (encV c.ev) _ (bx_range HB3.out 2 (cmEv_at c)) Try.underlying23 rfl sizeV ?_))
  obtain ⟨L3, hL3⟩ : ∃ L, L2 ++ D3 = L := ⟨_, rfl⟩
  have en3 : L2.length + D3.length = L3.length := by rw [← hL3, List.length_append]
  have l3 : L3.length ≤ 127 := by omega
  rw [hL3] at o3
  rw [en3] at o3 ⊢
  have X3 := Lib.hid x3; have O3 := Lib.hid o3
  clear z1 z2 z14 z15
  replace hL3 := Lib.hid hL3
  clear x3 o3 en3 rD3 y3 O3m ld3 HB2 X2 O2
  go_ret
  refine RetL.of elB (l := L3) ?_ rfl O3.out (by simp) (((Ext.refl w).alloc _).trans X3.out)
  rw [← hR.out, ← hL3.out, ← hL2.out, ← hL1.out, ← hD2.out, ← hD3.out]
  unfold encM
  have e1 : ownC c = [c.week] := by unfold ownC; simp [hk9.out]
  have e2 : partC c = false := by unfold partC; simp [hk9.out]
  have e3 : wholeC c = false := by unfold wholeC; simp [hk9.out]
  rw [e1, e2, e3]
  simp only [Bool.false_eq_true, if_false, if_true]
  simp only [encZ_append, encZ_one, encZ_two, encZ_nil, List.append_assoc, List.nil_append, List.append_nil]

set_option maxRecDepth 100000 in
set_option maxHeartbeats 2000000 in
theorem rByK6 (c : Cm) (h64 : Cm64 c) (w : World) (hk : c.kind = 6) (ht : 0 ≤ c.tear) (hwe : 0 ≤ c.week) : Calls Try.prog 57 #[.agg (encC c).toArray] w (RetBy w (encM c)) := by
  have HB0 := Lib.hid (Bx.new w (encC c) 27)
  obtain ⟨R, hR⟩ : ∃ R, encM c = R := ⟨_, rfl⟩
  rw [hR]
  replace hR := Lib.hid hR
  have hk9 := Lib.hid hk
  have q1 : (c.kind == 1) = false := by rw [beq_eq_false_iff_ne]; omega
  have q2 : (c.kind == 2) = false := by rw [beq_eq_false_iff_ne]; omega
  have q3 : (c.kind == 3) = false := by rw [beq_eq_false_iff_ne]; omega
  have q4 : (c.kind == 4) = false := by rw [beq_eq_false_iff_ne]; omega
  have q5 : (c.kind == 5) = false := by rw [beq_eq_false_iff_ne]; omega
  have q6 : (c.kind == 6) = true := by rw [beq_iff_eq]; exact hk
  have q7 : (c.kind == 7) = false := by rw [beq_eq_false_iff_ne]; omega
  have q8 : (c.kind == 8) = false := by rw [beq_eq_false_iff_ne]; omega
  have hk0 : 1 ≤ c.kind ∧ c.kind ≤ 8 := by omega
  clear hk
  go_enter Try.func57, Try.ntmps57
  have c0 := HB0.out.cell 0 _ rfl
  go_wp2_with fail
  refine (rOneA c.kind (by omega) h64.kind _).mono ?_
  rintro e1 w1 ⟨A1, p1, L1, hL1, rfl, _, x1, o1⟩
  have l1 : L1.length ≤ 9 := by rw [← hL1]; exact one_le9 (by omega) h64.kind
  have HB1 := Lib.hid (HB0.out.ext x1); have X1 := Lib.hid x1; have O1 := Lib.hid o1
  replace hL1 := Lib.hid hL1
  clear x1 o1 c0
  have d0 := HB1.out.cell 0 _ rfl
  have c14 := HB1.out.cell 14 _ rfl
  go_wp2_with fail
  refine (rOneA c.week (hwe) h64.week _).mono ?_
  rintro e2 v2 ⟨B2, q2, D2, hD2, rfl, rD2, y2, _⟩
  have ld2 : D2.length ≤ 9 := by rw [← hD2]; exact one_le9 (hwe) h64.week
  have O2m := own_below O1.out y2
  replace hD2 := Lib.hid hD2
  go_wp2_with (first | (at_builtin; refine appG elB (w.alloc (.cells (encC c).toArray 27)) _ (X1.out.trans y2) _ _ (by rfl) (by rfl) L1.length _ L1 D2 (by rfl) O2m rfl B2 q2 D2.length (by rfl) rfl rD2 (by omega) ?_; intro A2 p2 w2 o2 x2; have HB2 := Lib.hid (HB0.out.ext x2); have z1 := HB2.out.cell 1 _ rfl; have z2 := HB2.out.cell 2 _ rfl; have z14 := HB2.out.cell 14 _ rfl; have z15 := HB2.out.cell 15 _ rfl) | (refine wpList_load_mid rfl 23 _ rfl w.heap.size 2 (by rfl) (encV c.ev) _ (bx_range HB2.out 2 (cmEv_at c)) Try.underlying23 rfl sizeV ?_))
  obtain ⟨L2, hL2⟩ : ∃ L, L1 ++ D2 = L := ⟨_, rfl⟩
  have en2 : L1.length + D2.length = L2.length := by rw [← hL2, List.length_append]
  have l2 : L2.length ≤ 118 := by omega
  rw [hL2] at o2
  rw [en2] at o2 ⊢
  have X2 := Lib.hid x2; have O2 := Lib.hid o2
  clear z1 z2 z14 z15
  replace hL2 := Lib.hid hL2
  clear x2 o2 en2 rD2 y2 O2m ld2 HB1 X1 O1
  refine (rOneA c.tear (ht) h64.tear _).mono ?_
  rintro e3 v3 ⟨B3, q3, D3, hD3, rfl, rD3, y3, _⟩
  have ld3 : D3.length ≤ 9 := by rw [← hD3]; exact one_le9 (ht) h64.tear
  have O3m := own_below O2.out y3
  replace hD3 := Lib.hid hD3
  go_wp2_with (first | (at_builtin; refine appG elB (w.alloc (.cells (encC c).toArray 27)) _ (X2.out.trans y3) _ _ (by rfl) (by rfl) L2.length _ L2 D3 (by rfl) O3m rfl B3 q3 D3.length (by rfl) rfl rD3 (by omega) ?_; intro A3 p3 w3 o3 x3; have HB3 := Lib.hid (HB0.out.ext x3); have z1 := HB3.out.cell 1 _ rfl; have z2 := HB3.out.cell 2 _ rfl; have z14 := HB3.out.cell 14 _ rfl; have z15 := HB3.out.cell 15 _ rfl) | (refine wpList_load_mid rfl 23 _ rfl w.heap.size 2 (by rfl) (encV c.ev) _ (bx_range HB3.out 2 (cmEv_at c)) Try.underlying23 rfl sizeV ?_))
  obtain ⟨L3, hL3⟩ : ∃ L, L2 ++ D3 = L := ⟨_, rfl⟩
  have en3 : L2.length + D3.length = L3.length := by rw [← hL3, List.length_append]
  have l3 : L3.length ≤ 127 := by omega
  rw [hL3] at o3
  rw [en3] at o3 ⊢
  have X3 := Lib.hid x3; have O3 := Lib.hid o3
  clear z1 z2 z14 z15
  replace hL3 := Lib.hid hL3
  clear x3 o3 en3 rD3 y3 O3m ld3 HB2 X2 O2
  go_ret
  refine RetL.of elB (l := L3) ?_ rfl O3.out (by simp) (((Ext.refl w).alloc _).trans X3.out)
  rw [← hR.out, ← hL3.out, ← hL2.out, ← hL1.out, ← hD2.out, ← hD3.out]
  unfold encM
  have e1 : ownC c = [c.week] := by unfold ownC; simp [hk9.out]
  have e2 : partC c = false := by unfold partC; simp [hk9.out]
  have e3 : wholeC c = false := by unfold wholeC; simp [hk9.out]
  rw [e1, e2, e3]
  simp only [Bool.false_eq_true, if_false, if_true]
  simp only [encZ_append, encZ_one, encZ_two, encZ_nil, List.append_assoc, List.nil_append, List.append_nil]

set_option maxRecDepth 100000 in
set_option maxHeartbeats 2000000 in
theorem rByK7 (c : Cm) (h64 : Cm64 c) (w : World) (hk : c.kind = 7) (ht : 0 ≤ c.tear) (hwe : 0 ≤ c.week) : Calls Try.prog 57 #[.agg (encC c).toArray] w (RetBy w (encM c)) := by
  have HB0 := Lib.hid (Bx.new w (encC c) 27)
  obtain ⟨R, hR⟩ : ∃ R, encM c = R := ⟨_, rfl⟩
  rw [hR]
  replace hR := Lib.hid hR
  have hk9 := Lib.hid hk
  have q1 : (c.kind == 1) = false := by rw [beq_eq_false_iff_ne]; omega
  have q2 : (c.kind == 2) = false := by rw [beq_eq_false_iff_ne]; omega
  have q3 : (c.kind == 3) = false := by rw [beq_eq_false_iff_ne]; omega
  have q4 : (c.kind == 4) = false := by rw [beq_eq_false_iff_ne]; omega
  have q5 : (c.kind == 5) = false := by rw [beq_eq_false_iff_ne]; omega
  have q6 : (c.kind == 6) = false := by rw [beq_eq_false_iff_ne]; omega
  have q7 : (c.kind == 7) = true := by rw [beq_iff_eq]; exact hk
  have q8 : (c.kind == 8) = false := by rw [beq_eq_false_iff_ne]; omega
  have hk0 : 1 ≤ c.kind ∧ c.kind ≤ 8 := by omega
  clear hk
  go_enter Try.func57, Try.ntmps57
  have c0 := HB0.out.cell 0 _ rfl
  go_wp2_with fail
  refine (rOneA c.kind (by omega) h64.kind _).mono ?_
  rintro e1 w1 ⟨A1, p1, L1, hL1, rfl, _, x1, o1⟩
  have l1 : L1.length ≤ 9 := by rw [← hL1]; exact one_le9 (by omega) h64.kind
  have HB1 := Lib.hid (HB0.out.ext x1); have X1 := Lib.hid x1; have O1 := Lib.hid o1
  replace hL1 := Lib.hid hL1
  clear x1 o1 c0
  have d0 := HB1.out.cell 0 _ rfl
  have c14 := HB1.out.cell 14 _ rfl
  go_wp2_with fail
  refine (rOneA c.week (hwe) h64.week _).mono ?_
  rintro e2 v2 ⟨B2, q2, D2, hD2, rfl, rD2, y2, _⟩
  have ld2 : D2.length ≤ 9 := by rw [← hD2]; exact one_le9 (hwe) h64.week
  have O2m := own_below O1.out y2
  replace hD2 := Lib.hid hD2
  go_wp2_with (first | (at_builtin; refine appG elB (w.alloc (.cells (encC c).toArray 27)) _ (X1.out.trans y2) _ _ (by rfl) (by rfl) L1.length _ L1 D2 (by rfl) O2m rfl B2 q2 D2.length (by rfl) rfl rD2 (by omega) ?_; intro A2 p2 w2 o2 x2; have HB2 := Lib.hid (HB0.out.ext x2); have z1 := HB2.out.cell 1 _ rfl; have z2 := HB2.out.cell 2 _ rfl; have z14 := HB2.out.cell 14 _ rfl; have z15 := HB2.out.cell 15 _ rfl) | (refine wpList_load_mid rfl 23 _ rfl w.heap.size 2 (by rfl) (encV c.ev) _ (bx_range HB2.out 2 (cmEv_at c)) Try.underlying23 rfl sizeV ?_))
  obtain ⟨L2, hL2⟩ : ∃ L, L1 ++ D2 = L := ⟨_, rfl⟩
  have en2 : L1.length + D2.length = L2.length := by rw [← hL2, List.length_append]
  have l2 : L2.length ≤ 118 := by omega
  rw [hL2] at o2
  rw [en2] at o2 ⊢
  have X2 := Lib.hid x2; have O2 := Lib.hid o2
  clear z1 z2 z14 z15
  replace hL2 := Lib.hid hL2
  clear x2 o2 en2 rD2 y2 O2m ld2 HB1 X1 O1
  refine (rOneA c.tear (ht) h64.tear _).mono ?_
  rintro e3 v3 ⟨B3, q3, D3, hD3, rfl, rD3, y3, _⟩
  have ld3 : D3.length ≤ 9 := by rw [← hD3]; exact one_le9 (ht) h64.tear
  have O3m := own_below O2.out y3
  replace hD3 := Lib.hid hD3
  go_wp2_with (first | (at_builtin; refine appG elB (w.alloc (.cells (encC c).toArray 27)) _ (X2.out.trans y3) _ _ (by rfl) (by rfl) L2.length _ L2 D3 (by rfl) O3m rfl B3 q3 D3.length (by rfl) rfl rD3 (by omega) ?_; intro A3 p3 w3 o3 x3; have HB3 := Lib.hid (HB0.out.ext x3); have z1 := HB3.out.cell 1 _ rfl; have z2 := HB3.out.cell 2 _ rfl; have z14 := HB3.out.cell 14 _ rfl; have z15 := HB3.out.cell 15 _ rfl) | (refine wpList_load_mid rfl 23 _ rfl w.heap.size 2 (by rfl) (encV c.ev) _ (bx_range HB3.out 2 (cmEv_at c)) Try.underlying23 rfl sizeV ?_))
  obtain ⟨L3, hL3⟩ : ∃ L, L2 ++ D3 = L := ⟨_, rfl⟩
  have en3 : L2.length + D3.length = L3.length := by rw [← hL3, List.length_append]
  have l3 : L3.length ≤ 127 := by omega
  rw [hL3] at o3
  rw [en3] at o3 ⊢
  have X3 := Lib.hid x3; have O3 := Lib.hid o3
  clear z1 z2 z14 z15
  replace hL3 := Lib.hid hL3
  clear x3 o3 en3 rD3 y3 O3m ld3 HB2 X2 O2
  go_ret
  refine RetL.of elB (l := L3) ?_ rfl O3.out (by simp) (((Ext.refl w).alloc _).trans X3.out)
  rw [← hR.out, ← hL3.out, ← hL2.out, ← hL1.out, ← hD2.out, ← hD3.out]
  unfold encM
  have e1 : ownC c = [c.week] := by unfold ownC; simp [hk9.out]
  have e2 : partC c = false := by unfold partC; simp [hk9.out]
  have e3 : wholeC c = false := by unfold wholeC; simp [hk9.out]
  rw [e1, e2, e3]
  simp only [Bool.false_eq_true, if_false, if_true]
  simp only [encZ_append, encZ_one, encZ_two, encZ_nil, List.append_assoc, List.nil_append, List.append_nil]

set_option maxRecDepth 100000 in
set_option maxHeartbeats 2000000 in
theorem rByK8 (c : Cm) (h64 : Cm64 c) (w : World) (hk : c.kind = 8) (ht : 0 ≤ c.tear)  : Calls Try.prog 57 #[.agg (encC c).toArray] w (RetBy w (encM c)) := by
  have HB0 := Lib.hid (Bx.new w (encC c) 27)
  obtain ⟨R, hR⟩ : ∃ R, encM c = R := ⟨_, rfl⟩
  rw [hR]
  replace hR := Lib.hid hR
  have hk9 := Lib.hid hk
  have q1 : (c.kind == 1) = false := by rw [beq_eq_false_iff_ne]; omega
  have q2 : (c.kind == 2) = false := by rw [beq_eq_false_iff_ne]; omega
  have q3 : (c.kind == 3) = false := by rw [beq_eq_false_iff_ne]; omega
  have q4 : (c.kind == 4) = false := by rw [beq_eq_false_iff_ne]; omega
  have q5 : (c.kind == 5) = false := by rw [beq_eq_false_iff_ne]; omega
  have q6 : (c.kind == 6) = false := by rw [beq_eq_false_iff_ne]; omega
  have q7 : (c.kind == 7) = false := by rw [beq_eq_false_iff_ne]; omega
  have q8 : (c.kind == 8) = true := by rw [beq_iff_eq]; exact hk
  have hk0 : 1 ≤ c.kind ∧ c.kind ≤ 8 := by omega
  clear hk
  go_enter Try.func57, Try.ntmps57
  have c0 := HB0.out.cell 0 _ rfl
  go_wp2_with fail
  refine (rOneA c.kind (by omega) h64.kind _).mono ?_
  rintro e1 w1 ⟨A1, p1, L1, hL1, rfl, _, x1, o1⟩
  have l1 : L1.length ≤ 9 := by rw [← hL1]; exact one_le9 (by omega) h64.kind
  have HB1 := Lib.hid (HB0.out.ext x1); have X1 := Lib.hid x1; have O1 := Lib.hid o1
  replace hL1 := Lib.hid hL1
  clear x1 o1 c0
  have d0 := HB1.out.cell 0 _ rfl
  have c15 := HB1.out.cell 15 _ rfl
  go_wp2_with fail
  refine (rOneA c.tear (ht) h64.tear _).mono ?_
  rintro e2 v2 ⟨B2, q2, D2, hD2, rfl, rD2, y2, _⟩
  have ld2 : D2.length ≤ 9 := by rw [← hD2]; exact one_le9 (ht) h64.tear
  have O2m := own_below O1.out y2
  replace hD2 := Lib.hid hD2
  go_wp2_with (first | (at_builtin; refine appG elB (w.alloc (.cells (encC c).toArray 27)) _ (X1.out.trans y2) _ _ (by rfl) (by rfl) L1.length _ L1 D2 (by rfl) O2m rfl B2 q2 D2.length (by rfl) rfl rD2 (by omega) ?_; intro A2 p2 w2 o2 x2; have HB2 := Lib.hid (HB0.out.ext x2); have z1 := HB2.out.cell 1 _ rfl; have z2 := HB2.out.cell 2 _ rfl; have z14 := HB2.out.cell 14 _ rfl; have z15 := HB2.out.cell 15 _ rfl) | (refine wpList_load_mid rfl 23 _ rfl w.heap.size 2 (by rfl) (encV c.ev) _ (bx_range HB2.out 2 (cmEv_at c)) Try.underlying23 rfl sizeV ?_))
  obtain ⟨L2, hL2⟩ : ∃ L, L1 ++ D2 = L := ⟨_, rfl⟩
  have en2 : L1.length + D2.length = L2.length := by rw [← hL2, List.length_append]
  have l2 : L2.length ≤ 118 := by omega
  rw [hL2] at o2
  rw [en2] at o2 ⊢
  have X2 := Lib.hid x2; have O2 := Lib.hid o2
  clear z1 z2 z14 z15
  replace hL2 := Lib.hid hL2
  clear x2 o2 en2 rD2 y2 O2m ld2 HB1 X1 O1
  go_ret
  refine RetL.of elB (l := L2) ?_ rfl O2.out (by simp) (((Ext.refl w).alloc _).trans X2.out)
  rw [← hR.out, ← hL2.out, ← hL1.out, ← hD2.out]
  unfold encM
  have e1 : ownC c = [] := by unfold ownC; simp [hk9.out]
  have e2 : partC c = false := by unfold partC; simp [hk9.out]
  have e3 : wholeC c = false := by unfold wholeC; simp [hk9.out]
  rw [e1, e2, e3]
  simp only [Bool.false_eq_true, if_false, if_true]
  simp only [encZ_append, encZ_one, encZ_two, encZ_nil, List.append_assoc, List.nil_append, List.append_nil]
end Go.Proofs.Ytmbjbbflhlndcaa
