/-
  cmds.Check.
-/
import Derived.Test.YtmbjbbflhlndcaaJw
namespace Go.Proofs.Ytmbjbbflhlndcaa
open Go.RowKit BigFrame
set_option linter.unusedVariables false
set_option linter.unusedSimpArgs false

set_option maxRecDepth 100000 in
set_option maxHeartbeats 4000000 in
theorem pCheckC (c : Cm) (h64 : Cm64 c) (w : World) : Calls Try.prog 27 #[.agg (encC c).toArray] w (RetB w (plainC c)) := by
  have hs0 := Bx.new w (encC c) 27
  have X0 := Lib.hid ((Ext.refl w).alloc (.cells (encC c).toArray 27))
  have hO := Lib.hid (pOwnC hs0)
  obtain ⟨R, hR⟩ : ∃ R, plainC c = R := ⟨_, rfl⟩
  rw [hR]
  replace hR := Lib.hid hR
  have HS0 := Lib.hid hs0
  clear hs0
  go_enter Try.func27, Try.ntmps27
  go_wp2_with fail
  refine hO.out.mono ?_
  rintro e1 w1 ⟨A, n, cap, rfl, hn, hA, x1, hA2⟩
  replace hn := Lib.hid hn; replace hA := Lib.hid hA; replace hA2 := Lib.hid hA2
  have HS1 := Lib.hid (HS0.out.ext x1)
  have X1 := Lib.hid (X0.out.trans x1)
  clear hO HS0 X0 x1
  have c15 := HS1.out.cell 15 _ rfl
  by_cases hk : 1 ≤ c.kind ∧ c.kind ≤ 8
  case neg =>
    have dk : decide (1 ≤ c.kind ∧ c.kind ≤ 8) = false := decide_eq_false hk
    rw [dk]
    clear dk
    obtain rfl : R = false := by
      rw [← hR.out]
      cases hf : plainC c
      · rfl
      · exact absurd (plainC_iff.1 hf).1 hk
    go_wp2
    go_ret
    exact ⟨rfl, X1.out⟩
  have dk : decide (1 ≤ c.kind ∧ c.kind ≤ 8) = true := decide_eq_true hk
  rw [dk]
  clear dk
  by_cases ht : c.tear < 0
  · have d1 : decide (c.tear < 0) = true := decide_eq_true ht
    obtain rfl : R = false := by
      rw [← hR.out]
      cases hf : plainC c
      · rfl
      · have := (plainC_iff.1 hf).2.1; omega
    go_wp2
    go_ret
    exact ⟨rfl, X1.out⟩
  have d1 : decide (c.tear < 0) = false := decide_eq_false ht
  go_wp2_with (first | (refine load_box rfl 27 _ rfl _ rfl _ _ HS1.out _ Try.underlying27 rfl sizeC ?_))
  refine (pWhole c _).mono ?_
  rintro e2 w2 ⟨rfl, x2⟩
  have HS2 := Lib.hid (HS1.out.ext x2); have X2 := Lib.hid (X1.out.trans x2); have HA := Lib.hid (hA.out.ext x2)
  clear HS1 X1 hA x2 c15
  cases hw : wholeC c
  · go_wp2_with (first | (refine load_box rfl 27 _ rfl _ rfl _ _ HS2.out _ Try.underlying27 rfl sizeC ?_))
    refine (pPart c _).mono ?_
    rintro e3 w3 ⟨rfl, x3⟩
    have HS3 := Lib.hid (HS2.out.ext x3); have X3 := Lib.hid (X2.out.trans x3); replace HA := Lib.hid (HA.out.ext x3)
    clear HS2 X2 x3
    cases hp : partC c
    · have c0 := HS3.out.cell 0 _ rfl
      by_cases h2 : c.kind = 2
      · have d2 : (c.kind == 2) = true := beq_iff_eq.2 h2
        have d2b : decide (c.kind = 2) = true := decide_eq_true h2
        obtain rfl : R = false := by
          rw [← hR.out]
          cases hf : plainC c
          · rfl
          · have := (plainC_iff.1 hf).2.2.2.1
            rw [hw, hp] at this
            simp only [Bool.false_eq_true, if_false] at this
            exact absurd h2 this.1
        clear hw hp h2 hk ht
        go_wp2
        go_ret
        exact ⟨rfl, X3.out⟩
      · have d2 : (c.kind == 2) = false := beq_eq_false_iff_ne.2 h2
        have d2b : decide (c.kind = 2) = false := decide_eq_false h2
        have hcal := calm_kind c
        obtain ⟨cc, hcc⟩ : ∃ cc, calmC c = cc := ⟨_, rfl⟩
        have hkk : Hid (cc.kind = c.kind) := by show _ = _; rw [← hcc]; exact hcal.1
        have htt : cc.tear = c.tear := by rw [← hcc]; exact hcal.2.2.2.2
        have hoo : ownC cc = ownC c := by rw [← hcc]; exact calm_own c
        have hfin : Hid ((∀ n ∈ ownC cc, 0 ≤ n) → decide (stripC cc = ⟨cc.kind, 0, ev0, 0, 0, cc.tear⟩) = R) := fun h => by
          rw [hoo] at h
          have := calm_plain hk (by omega) h (fun h => by rw [hw] at h; cases h) (fun _ h => by rw [hp] at h; cases h) (fun _ _ => h2)
          rw [hcc, hR.out] at this
          rw [← this]
          unfold bareC
          rw [hkk.out, htt]
        have hbad : Hid (∀ x ∈ ownC cc, x < 0 → R = false) := fun x hx h => by
          rw [hoo] at hx
          rw [← hR.out]
          cases hf : plainC c
          · rfl
          · have := (plainC_iff.1 hf).2.2.1 x hx; omega
        have HZ : Hid (Bx w3 w.heap.size (encC cc) 27) := by
          have e : calmC c = c := by unfold calmC; rw [hw, hp]; rfl
          rw [← hcc, e]; exact HS3.out
        have XZ := X3
        clear hcal hcc htt hoo hw hp h2 hk ht HS3 X3
        rw [← hkk.out] at HA
        have hn' : Hid (n = (ownCx cc.kind).length) := by show _ = _; rw [hkk.out]; exact hn.out
        have hn6 : n ≤ 6 := by
          rw [hn.out, ownCx_len]; unfold ownC; split
          · simp
          · split
            · simp
            · split
              · simp
              · split <;> simp
        clear hn
        go_wp2_with fail
        go_loopw [56] (fun i wr => ∃ k : Nat, k ≤ n ∧ i = .int .i64 k ∧ Hid (Bx wr w.heap.size (zeros ((ownCx cc.kind).take k) (encC cc)) 27) ∧ Hid (Ext w wr) ∧ Hid (Rw encA 1 wr A (ptrs w.heap.size (ownCx cc.kind))) ∧ Hid (∀ x ∈ (ownC cc).take k, 0 ≤ x)) (fun i _ => n - (intOf i).toNat)
        case atStart => exact ⟨0, Nat.zero_le _, rfl, HZ.out, XZ.out, HA.out, by show ∀ x ∈ _, _; simp⟩
        case round =>
          obtain ⟨k, hkn, rfl, HB, HX, HA, HP⟩ := hrel
          by_cases hlt : k < n
          · have hlt2 : k < (ptrs w.heap.size (ownCx cc.kind)).length := by unfold ptrs; rw [List.length_map, ← hn'.out]; exact hlt
            obtain ⟨b1, off1, p, rfl, hbB, hx, z0⟩ := Rd.atA HA.out (Ext.refl _) hlt2
            have hne := hA2.out b1 off1 rfl
            obtain ⟨o, ho, rfl⟩ : ∃ o, (ownCx cc.kind)[k]? = some o ∧ p = ⟨w.heap.size, o, none⟩ := by
              have := hx.out
              unfold ptrs at this
              rw [List.getElem?_map] at this
              cases h1 : (ownCx cc.kind)[k]? with
              | none => rw [h1] at this; cases this
              | some o => rw [h1] at this; exact ⟨o, rfl, by simpa using this.symm⟩
            obtain ⟨x, hx1, hx2⟩ := ownC_vals cc ho
            have hnd := ownCx_nodup cc.kind
            have hno : o ∉ (ownCx cc.kind).take k := fun hm => by
              obtain ⟨i, hi, hie⟩ := List.getElem_of_mem hm
              have hil : i < k := by rw [List.length_take] at hi; omega
              rw [List.getElem_take] at hie
              obtain ⟨hk2, hke⟩ := List.getElem?_eq_some_iff.1 ho
              exact List.pairwise_iff_getElem.1 hnd i k (by omega) hk2 hil (hie.trans hke.symm)
            have y0 := HB.out.cell o _ (by rw [zeros_at hno]; exact hx2)
            have y1 := HB.out.frozen o
            have q3 : (k : Int) < (n : Int) := by omega
            have q4 : (0 : Int) ≤ (k : Int) := by omega
            by_cases hneg : x < 0
            · have d1 : decide (x < 0) = true := decide_eq_true hneg
              obtain rfl : R = false := hbad.out x (List.mem_of_getElem? hx1) hneg
              go_wp2_with fail
              go_ret
              exact ⟨rfl, HX.out⟩
            · have d1 : decide (x < 0) = false := decide_eq_false hneg
              have HB2 : Hid (Bx (wr.setCell ⟨w.heap.size, o, none⟩ (.int .i64 0)) w.heap.size (zeros ((ownCx cc.kind).take (k + 1)) (encC cc)) 27) := by
                have := HB.out.set_ o (.int .i64 0)
                rw [← zeros_snoc, ← take_snoc ho] at this
                exact this
              have HX2 : Hid (Ext w (wr.setCell ⟨w.heap.size, o, none⟩ (.int .i64 0))) := HX.out.setCell (p := ⟨w.heap.size, o, none⟩) (Nat.le_refl _) _
              have HA3 : Hid (Rw encA 1 (wr.setCell ⟨w.heap.size, o, none⟩ (.int .i64 0)) (some ⟨b1, off1, none⟩) (ptrs w.heap.size (ownCx cc.kind))) := Rw.set_ HA.out _ (fun b off h => by cases h; simp at hne; omega)
              have HP2 : Hid (∀ x ∈ (ownC cc).take (k + 1), 0 ≤ x) := by
                show ∀ y ∈ _, _
                rw [take_snoc hx1]
                intro y hy
                rcases List.mem_append.1 hy with hy | hy
                · exact HP.out y hy
                · simp at hy; subst hy; omega
              clear HB HX HA HP hx ho hx1 hx2 hnd hno hne
              go_wp2_with fail
              go_roundw
              case rel => exact ⟨k + 1, by omega, by go_num, HB2, HX2, HA3, HP2⟩
              case measure => simp [intOf]; omega
          · obtain rfl : k = n := by omega
            have e1 : (ownCx cc.kind).take k = ownCx cc.kind := List.take_of_length_le (by rw [hn'.out]; exact Nat.le_refl _)
            have e2 : (ownC cc).take k = ownC cc := List.take_of_length_le (by rw [hn'.out, ownCx_len]; exact Nat.le_refl _)
            rw [e1, zerosC_all] at HB
            rw [e2] at HP
            have hst := hfin.out HP.out
            have hq : ∀ w, (Op.equalIn 10000 27 (.agg (encC (stripC cc)).toArray) (.agg #[.int .i64 cc.kind, .int .i64 0, .int .i64 0, .int .i64 0, .int .i64 0, .int .i64 0, .int .i64 0, .int .i64 0, .int .i64 0, .int .i64 0, .int .i64 0, .int .i64 0, .int .i64 0, .int .i64 0, .int .i64 0, .int .i64 cc.tear])).run Try.prog w = .ok R w := fun w => by
              have := eqInC (stripC cc) ⟨cc.kind, 0, ev0, 0, 0, cc.tear⟩ w
              rw [hst] at this
              exact this
            have hg := eqGuardC
            have HB2 := HB.out
            have f0 := strip_ev cc
            have c0 := HB2.cell 0 _ rfl; have c15 := HB2.cell 15 _ rfl
            rw [f0.2.1] at c0; rw [f0.2.2] at c15
            clear e1 e2 hst f0 HP HA hlt hkn hn' hA2 hfin hbad
            go_wp2_with (first | (refine load_box rfl 27 _ rfl _ rfl _ _ HB2 _ Try.underlying27 rfl sizeC ?_))
            go_ret
            exact ⟨rfl, HX.out⟩
    · have c2 := HS3.out.cell 2 _ rfl
      have z2 := HS3.out.frozen 2
      by_cases hi : 0 ≤ c.ev.id ∧ c.ev.id ≤ 100000
      · have d2 : decide (c.ev.id < 0) = false := decide_eq_false (by omega)
        have d3 : decide (100000 < c.ev.id) = false := decide_eq_false (by omega)
        have hcal := calm_kind c
        obtain ⟨cc, hcc⟩ : ∃ cc, calmC c = cc := ⟨_, rfl⟩
        have hkk : Hid (cc.kind = c.kind) := by show _ = _; rw [← hcc]; exact hcal.1
        have htt : cc.tear = c.tear := by rw [← hcc]; exact hcal.2.2.2.2
        have hoo : ownC cc = ownC c := by rw [← hcc]; exact calm_own c
        have hfin : Hid ((∀ n ∈ ownC cc, 0 ≤ n) → decide (stripC cc = ⟨cc.kind, 0, ev0, 0, 0, cc.tear⟩) = R) := fun h => by
          rw [hoo] at h
          have := calm_plain hk (by omega) h (fun h => by rw [hw] at h; cases h) (fun _ _ => hi) (fun _ h => by rw [hp] at h; cases h)
          rw [hcc, hR.out] at this
          rw [← this]
          unfold bareC
          rw [hkk.out, htt]
        have hbad : Hid (∀ x ∈ ownC cc, x < 0 → R = false) := fun x hx h => by
          rw [hoo] at hx
          rw [← hR.out]
          cases hf : plainC c
          · rfl
          · have := (plainC_iff.1 hf).2.2.1 x hx; omega
        have HZ : Hid (Bx (w3.setCell ⟨w.heap.size, 2, none⟩ (.int .i64 0)) w.heap.size (encC cc) 27) := by
          have e : calmC c = { c with ev := { c.ev with id := 0 } } := by unfold calmC; rw [hw, hp]; rfl
          rw [← hcc, e]; exact HS3.out.set_ 2 (.int .i64 0)
        have XZ : Hid (Ext w (w3.setCell ⟨w.heap.size, 2, none⟩ (.int .i64 0))) := X3.out.setCell (p := ⟨w.heap.size, 2, none⟩) (Nat.le_refl _) _
        replace HA : Hid (Rw encA 1 (w3.setCell ⟨w.heap.size, 2, none⟩ (.int .i64 0)) A (ptrs w.heap.size (ownCx c.kind))) := Rw.set_ HA.out _ (fun b off h => by have := hA2.out b off h; simp at this; omega)
        clear hcal hcc htt hoo hw hp hi hk ht HS3 X3
        rw [← hkk.out] at HA
        have hn' : Hid (n = (ownCx cc.kind).length) := by show _ = _; rw [hkk.out]; exact hn.out
        have hn6 : n ≤ 6 := by
          rw [hn.out, ownCx_len]; unfold ownC; split
          · simp
          · split
            · simp
            · split
              · simp
              · split <;> simp
        clear hn
        go_wp2_with fail
        go_loopw [56] (fun i wr => ∃ k : Nat, k ≤ n ∧ i = .int .i64 k ∧ Hid (Bx wr w.heap.size (zeros ((ownCx cc.kind).take k) (encC cc)) 27) ∧ Hid (Ext w wr) ∧ Hid (Rw encA 1 wr A (ptrs w.heap.size (ownCx cc.kind))) ∧ Hid (∀ x ∈ (ownC cc).take k, 0 ≤ x)) (fun i _ => n - (intOf i).toNat)
        case atStart => exact ⟨0, Nat.zero_le _, rfl, HZ.out, XZ.out, HA.out, by show ∀ x ∈ _, _; simp⟩
        case round =>
          obtain ⟨k, hkn, rfl, HB, HX, HA, HP⟩ := hrel
          by_cases hlt : k < n
          · have hlt2 : k < (ptrs w.heap.size (ownCx cc.kind)).length := by unfold ptrs; rw [List.length_map, ← hn'.out]; exact hlt
            obtain ⟨b1, off1, p, rfl, hbB, hx, z0⟩ := Rd.atA HA.out (Ext.refl _) hlt2
            have hne := hA2.out b1 off1 rfl
            obtain ⟨o, ho, rfl⟩ : ∃ o, (ownCx cc.kind)[k]? = some o ∧ p = ⟨w.heap.size, o, none⟩ := by
              have := hx.out
              unfold ptrs at this
              rw [List.getElem?_map] at this
              cases h1 : (ownCx cc.kind)[k]? with
              | none => rw [h1] at this; cases this
              | some o => rw [h1] at this; exact ⟨o, rfl, by simpa using this.symm⟩
            obtain ⟨x, hx1, hx2⟩ := ownC_vals cc ho
            have hnd := ownCx_nodup cc.kind
            have hno : o ∉ (ownCx cc.kind).take k := fun hm => by
              obtain ⟨i, hi, hie⟩ := List.getElem_of_mem hm
              have hil : i < k := by rw [List.length_take] at hi; omega
              rw [List.getElem_take] at hie
              obtain ⟨hk2, hke⟩ := List.getElem?_eq_some_iff.1 ho
              exact List.pairwise_iff_getElem.1 hnd i k (by omega) hk2 hil (hie.trans hke.symm)
            have y0 := HB.out.cell o _ (by rw [zeros_at hno]; exact hx2)
            have y1 := HB.out.frozen o
            have q3 : (k : Int) < (n : Int) := by omega
            have q4 : (0 : Int) ≤ (k : Int) := by omega
            by_cases hneg : x < 0
            · have d1 : decide (x < 0) = true := decide_eq_true hneg
              obtain rfl : R = false := hbad.out x (List.mem_of_getElem? hx1) hneg
              go_wp2_with fail
              go_ret
              exact ⟨rfl, HX.out⟩
            · have d1 : decide (x < 0) = false := decide_eq_false hneg
              have HB2 : Hid (Bx (wr.setCell ⟨w.heap.size, o, none⟩ (.int .i64 0)) w.heap.size (zeros ((ownCx cc.kind).take (k + 1)) (encC cc)) 27) := by
                have := HB.out.set_ o (.int .i64 0)
                rw [← zeros_snoc, ← take_snoc ho] at this
                exact this
              have HX2 : Hid (Ext w (wr.setCell ⟨w.heap.size, o, none⟩ (.int .i64 0))) := HX.out.setCell (p := ⟨w.heap.size, o, none⟩) (Nat.le_refl _) _
              have HA3 : Hid (Rw encA 1 (wr.setCell ⟨w.heap.size, o, none⟩ (.int .i64 0)) (some ⟨b1, off1, none⟩) (ptrs w.heap.size (ownCx cc.kind))) := Rw.set_ HA.out _ (fun b off h => by cases h; simp at hne; omega)
              have HP2 : Hid (∀ x ∈ (ownC cc).take (k + 1), 0 ≤ x) := by
                show ∀ y ∈ _, _
                rw [take_snoc hx1]
                intro y hy
                rcases List.mem_append.1 hy with hy | hy
                · exact HP.out y hy
                · simp at hy; subst hy; omega
              clear HB HX HA HP hx ho hx1 hx2 hnd hno hne
              go_wp2_with fail
              go_roundw
              case rel => exact ⟨k + 1, by omega, by go_num, HB2, HX2, HA3, HP2⟩
              case measure => simp [intOf]; omega
          · obtain rfl : k = n := by omega
            have e1 : (ownCx cc.kind).take k = ownCx cc.kind := List.take_of_length_le (by rw [hn'.out]; exact Nat.le_refl _)
            have e2 : (ownC cc).take k = ownC cc := List.take_of_length_le (by rw [hn'.out, ownCx_len]; exact Nat.le_refl _)
            rw [e1, zerosC_all] at HB
            rw [e2] at HP
            have hst := hfin.out HP.out
            have hq : ∀ w, (Op.equalIn 10000 27 (.agg (encC (stripC cc)).toArray) (.agg #[.int .i64 cc.kind, .int .i64 0, .int .i64 0, .int .i64 0, .int .i64 0, .int .i64 0, .int .i64 0, .int .i64 0, .int .i64 0, .int .i64 0, .int .i64 0, .int .i64 0, .int .i64 0, .int .i64 0, .int .i64 0, .int .i64 cc.tear])).run Try.prog w = .ok R w := fun w => by
              have := eqInC (stripC cc) ⟨cc.kind, 0, ev0, 0, 0, cc.tear⟩ w
              rw [hst] at this
              exact this
            have hg := eqGuardC
            have HB2 := HB.out
            have f0 := strip_ev cc
            have c0 := HB2.cell 0 _ rfl; have c15 := HB2.cell 15 _ rfl
            rw [f0.2.1] at c0; rw [f0.2.2] at c15
            clear e1 e2 hst f0 HP HA hlt hkn hn' hA2 hfin hbad
            go_wp2_with (first | (refine load_box rfl 27 _ rfl _ rfl _ _ HB2 _ Try.underlying27 rfl sizeC ?_))
            go_ret
            exact ⟨rfl, HX.out⟩
      · have hRf : R = false := by
          rw [← hR.out]
          cases hf : plainC c
          · rfl
          · have := (plainC_iff.1 hf).2.2.2.1
            rw [hw, hp] at this
            simp only [Bool.false_eq_true, if_false, if_true] at this
            exact absurd this.2 hi
        subst hRf
        by_cases hi0 : c.ev.id < 0
        · have d2 : decide (c.ev.id < 0) = true := decide_eq_true hi0
          clear hw hp hi hk ht hi0
          go_wp2
          go_ret
          exact ⟨rfl, X3.out⟩
        · have d2 : decide (c.ev.id < 0) = false := decide_eq_false hi0
          have d3 : decide (100000 < c.ev.id) = true := decide_eq_true (by omega)
          clear hw hp hi hk ht hi0
          go_wp2
          go_ret
          exact ⟨rfl, X3.out⟩
  · go_wp2_with (first | (refine wpList_load_mid rfl 23 _ rfl w.heap.size 2 (by rfl) (encV c.ev) _ (bx_range HS2.out 2 (cmEv_at c)) Try.underlying23 rfl sizeV ?_))
    cases hf : fairB c.ev
    · refine (pEPutN (b := []) Rw.nil (by decide) 0 c.ev h64.ev hf).mono ?_
      rintro e3 w3 ⟨A3, c3, rfl, _, x3, _⟩
      have X3 := Lib.hid (X2.out.trans x3)
      obtain rfl : R = false := by
        rw [← hR.out]
        cases hf2 : plainC c
        · rfl
        · have := (plainC_iff.1 hf2).2.2.2.1
          rw [hw] at this
          simp only [if_true] at this
          rw [hf] at this; cases this
      clear hw hf hk ht
      go_wp2
      go_ret
      exact ⟨rfl, X3.out⟩
    · refine (pEPutY (b := []) Rw.nil (by decide) 0 c.ev h64.ev hf).mono ?_
      rintro e3 w3 ⟨A3, c3, rfl, _, x3, _⟩
      have HS3 := Lib.hid (HS2.out.ext x3); have X3 := Lib.hid (X2.out.trans x3); replace HA := Lib.hid (HA.out.ext x3)
      have hcal := calm_kind c
      obtain ⟨cc, hcc⟩ : ∃ cc, calmC c = cc := ⟨_, rfl⟩
      have hkk : Hid (cc.kind = c.kind) := by show _ = _; rw [← hcc]; exact hcal.1
      have htt : cc.tear = c.tear := by rw [← hcc]; exact hcal.2.2.2.2
      have hoo : ownC cc = ownC c := by rw [← hcc]; exact calm_own c
      have hfin : Hid ((∀ n ∈ ownC cc, 0 ≤ n) → decide (stripC cc = ⟨cc.kind, 0, ev0, 0, 0, cc.tear⟩) = R) := fun h => by
        rw [hoo] at h
        have := calm_plain hk (by omega) h (fun _ => hf) (fun h => by rw [hw] at h; cases h) (fun h => by rw [hw] at h; cases h)
        rw [hcc, hR.out] at this
        rw [← this]
        unfold bareC
        rw [hkk.out, htt]
      have hbad : Hid (∀ x ∈ ownC cc, x < 0 → R = false) := fun x hx h => by
        rw [hoo] at hx
        rw [← hR.out]
        cases hf : plainC c
        · rfl
        · have := (plainC_iff.1 hf).2.2.1 x hx; omega
      have HZ : Hid (Bx (w3.setCells w.heap.size 2 (encV ev0)) w.heap.size (encC cc) 27) := by
        have e : calmC c = { c with ev := ev0 } := by unfold calmC; rw [hw]; rfl
        rw [← hcc, e, ← setEv]; exact bx_setCells HS3.out 2 (encV ev0)
      have XZ : Hid (Ext w (w3.setCells w.heap.size 2 (encV ev0))) := below_setCells (Nat.le_refl _) _ _ _ X3.out
      replace HA : Hid (Rw encA 1 (w3.setCells w.heap.size 2 (encV ev0)) A (ptrs w.heap.size (ownCx c.kind))) := rw_setCells HA.out _ _ (fun b off h => by have := hA2.out b off h; simp at this; omega)
      have hth := bx_there HS3.out 2 11 (by show 13 ≤ 16; decide)
      clear hcal hcc htt hoo hw hf hk ht x3
      go_wp2_with (first | (refine wpList_store_mid rfl 23 _ _ rfl w.heap.size 2 (encV ev0).toArray (by rfl) (by rfl) hth sizeV (cells_ok ev0) ?_; rw [show (encV ev0).toArray.toList = encV ev0 from rfl]; clear hth HS3 X3))
      rw [← hkk.out] at HA
      have hn' : Hid (n = (ownCx cc.kind).length) := by show _ = _; rw [hkk.out]; exact hn.out
      have hn6 : n ≤ 6 := by
        rw [hn.out, ownCx_len]; unfold ownC; split
        · simp
        · split
          · simp
          · split
            · simp
            · split <;> simp
      clear hn
      go_loopw [56] (fun i wr => ∃ k : Nat, k ≤ n ∧ i = .int .i64 k ∧ Hid (Bx wr w.heap.size (zeros ((ownCx cc.kind).take k) (encC cc)) 27) ∧ Hid (Ext w wr) ∧ Hid (Rw encA 1 wr A (ptrs w.heap.size (ownCx cc.kind))) ∧ Hid (∀ x ∈ (ownC cc).take k, 0 ≤ x)) (fun i _ => n - (intOf i).toNat)
      case atStart => exact ⟨0, Nat.zero_le _, rfl, HZ.out, XZ.out, HA.out, by show ∀ x ∈ _, _; simp⟩
      case round =>
        obtain ⟨k, hkn, rfl, HB, HX, HA, HP⟩ := hrel
        by_cases hlt : k < n
        · have hlt2 : k < (ptrs w.heap.size (ownCx cc.kind)).length := by unfold ptrs; rw [List.length_map, ← hn'.out]; exact hlt
          obtain ⟨b1, off1, p, rfl, hbB, hx, z0⟩ := Rd.atA HA.out (Ext.refl _) hlt2
          have hne := hA2.out b1 off1 rfl
          obtain ⟨o, ho, rfl⟩ : ∃ o, (ownCx cc.kind)[k]? = some o ∧ p = ⟨w.heap.size, o, none⟩ := by
            have := hx.out
            unfold ptrs at this
            rw [List.getElem?_map] at this
            cases h1 : (ownCx cc.kind)[k]? with
            | none => rw [h1] at this; cases this
            | some o => rw [h1] at this; exact ⟨o, rfl, by simpa using this.symm⟩
          obtain ⟨x, hx1, hx2⟩ := ownC_vals cc ho
          have hnd := ownCx_nodup cc.kind
          have hno : o ∉ (ownCx cc.kind).take k := fun hm => by
            obtain ⟨i, hi, hie⟩ := List.getElem_of_mem hm
            have hil : i < k := by rw [List.length_take] at hi; omega
            rw [List.getElem_take] at hie
            obtain ⟨hk2, hke⟩ := List.getElem?_eq_some_iff.1 ho
            exact List.pairwise_iff_getElem.1 hnd i k (by omega) hk2 hil (hie.trans hke.symm)
          have y0 := HB.out.cell o _ (by rw [zeros_at hno]; exact hx2)
          have y1 := HB.out.frozen o
          have q3 : (k : Int) < (n : Int) := by omega
          have q4 : (0 : Int) ≤ (k : Int) := by omega
          by_cases hneg : x < 0
          · have d1 : decide (x < 0) = true := decide_eq_true hneg
            obtain rfl : R = false := hbad.out x (List.mem_of_getElem? hx1) hneg
            go_wp2_with fail
            go_ret
            exact ⟨rfl, HX.out⟩
          · have d1 : decide (x < 0) = false := decide_eq_false hneg
            have HB2 : Hid (Bx (wr.setCell ⟨w.heap.size, o, none⟩ (.int .i64 0)) w.heap.size (zeros ((ownCx cc.kind).take (k + 1)) (encC cc)) 27) := by
              have := HB.out.set_ o (.int .i64 0)
              rw [← zeros_snoc, ← take_snoc ho] at this
              exact this
            have HX2 : Hid (Ext w (wr.setCell ⟨w.heap.size, o, none⟩ (.int .i64 0))) := HX.out.setCell (p := ⟨w.heap.size, o, none⟩) (Nat.le_refl _) _
            have HA3 : Hid (Rw encA 1 (wr.setCell ⟨w.heap.size, o, none⟩ (.int .i64 0)) (some ⟨b1, off1, none⟩) (ptrs w.heap.size (ownCx cc.kind))) := Rw.set_ HA.out _ (fun b off h => by cases h; simp at hne; omega)
            have HP2 : Hid (∀ x ∈ (ownC cc).take (k + 1), 0 ≤ x) := by
              show ∀ y ∈ _, _
              rw [take_snoc hx1]
              intro y hy
              rcases List.mem_append.1 hy with hy | hy
              · exact HP.out y hy
              · simp at hy; subst hy; omega
            clear HB HX HA HP hx ho hx1 hx2 hnd hno hne
            go_wp2_with fail
            go_roundw
            case rel => exact ⟨k + 1, by omega, by go_num, HB2, HX2, HA3, HP2⟩
            case measure => simp [intOf]; omega
        · obtain rfl : k = n := by omega
          have e1 : (ownCx cc.kind).take k = ownCx cc.kind := List.take_of_length_le (by rw [hn'.out]; exact Nat.le_refl _)
          have e2 : (ownC cc).take k = ownC cc := List.take_of_length_le (by rw [hn'.out, ownCx_len]; exact Nat.le_refl _)
          rw [e1, zerosC_all] at HB
          rw [e2] at HP
          have hst := hfin.out HP.out
          have hq : ∀ w, (Op.equalIn 10000 27 (.agg (encC (stripC cc)).toArray) (.agg #[.int .i64 cc.kind, .int .i64 0, .int .i64 0, .int .i64 0, .int .i64 0, .int .i64 0, .int .i64 0, .int .i64 0, .int .i64 0, .int .i64 0, .int .i64 0, .int .i64 0, .int .i64 0, .int .i64 0, .int .i64 0, .int .i64 cc.tear])).run Try.prog w = .ok R w := fun w => by
            have := eqInC (stripC cc) ⟨cc.kind, 0, ev0, 0, 0, cc.tear⟩ w
            rw [hst] at this
            exact this
          have hg := eqGuardC
          have HB2 := HB.out
          have f0 := strip_ev cc
          have c0 := HB2.cell 0 _ rfl; have c15 := HB2.cell 15 _ rfl
          rw [f0.2.1] at c0; rw [f0.2.2] at c15
          clear e1 e2 hst f0 HP HA hlt hkn hn' hA2 hfin hbad
          go_wp2_with (first | (refine load_box rfl 27 _ rfl _ rfl _ _ HB2 _ Try.underlying27 rfl sizeC ?_))
          go_ret
          exact ⟨rfl, HX.out⟩
end Go.Proofs.Ytmbjbbflhlndcaa
