/-
  event.fair.
-/
import Derived.Test.YtmbjbbflhlndcaaJp
namespace Go.Proofs.Ytmbjbbflhlndcaa
open Go.RowKit BigFrame
set_option linter.unusedVariables false
set_option linter.unusedSimpArgs false

theorem Rd.atA {w w' : World} {A : Option Addr} {l : List Addr} (h : Rw encA 1 w A l) (hX : Ext w w') {j : Nat} (hj : j < l.length) :
    ∃ b off p, A = some ⟨b, off, none⟩ ∧ b < w.heap.size ∧ Hid (l[j]? = some p) ∧ w'.cell? ⟨b, off + j, none⟩ = some (.pointer (some p)) := by
  obtain ⟨b, off, c, hA, hb, hx, hc⟩ := (Rd.below h hX).at_ hj
  refine ⟨b, off, c, hA, hb, hx, ?_⟩
  have := hc 0 _ rfl
  rw [Nat.mul_one, Nat.add_zero] at this
  exact this
theorem Rw.set_ {α : Type} {enc : α → List Value} {k : Nat} {w : World} {A : Option Addr} {l : List α} (h : Rw enc k w A l) {g j : Nat} (u : Value) (hg : ∀ b off, A = some ⟨b, off, none⟩ → b ≠ g) : Rw enc k (w.setCell ⟨g, j, none⟩ u) A l := fun hne => by
  obtain ⟨b, off, hA, hb, hc⟩ := h hne
  have hne := hg b off hA
  refine ⟨b, off, hA, by simpa using hb, fun i hi q v hv => ?_⟩
  rw [World.cell?_of_block (w := w) (Below.heap_setCell w _ _ b (by exact fun e => hne e))]
  exact hc i hi q v hv
theorem fair_no {e : Ev} (h : ¬ ((1 ≤ e.kind ∧ e.kind ≤ 7) ∧ (0 ≤ e.id ∧ e.id ≤ 100000) ∧ 0 ≤ e.worker ∧ (0 ≤ e.at_ ∧ e.at_ ≤ 31449599))) : fairB e = false := by
  cases hf : fairB e
  · rfl
  · have := fairB_iff.1 hf
    exact absurd ⟨this.1, this.2.1, this.2.2.1, this.2.2.2.1⟩ h
theorem fair_neg {e : Ev} {x : Int} (hx : x ∈ ownE e) (h : x < 0) : fairB e = false := by
  cases hf : fairB e
  · rfl
  · have h1 := fairB_iff.1 hf
    obtain ⟨_, _, _, _, ⟨f1, f2, f3, f4, f5, f6, f7⟩, _⟩ := h1
    unfold ownE at hx
    split at hx
    · simp at hx; omega
    · split at hx
      · simp at hx; omega
      · simp at hx

set_option maxRecDepth 100000 in
set_option maxHeartbeats 2000000 in
theorem pFair (e : Ev) (w : World) : Calls Try.prog 62 #[.agg (encV e).toArray] w (RetB w (fairB e)) := by
  have hs0 := Bx.new w (encV e) 23
  have X0 := Lib.hid ((Ext.refl w).alloc (.cells (encV e).toArray 23))
  have hO := Lib.hid (pOwnE hs0)
  obtain ⟨R, hR⟩ : ∃ R, fairB e = R := ⟨_, rfl⟩
  rw [hR]
  replace hR := Lib.hid hR
  have HS0 := Lib.hid hs0
  clear hs0
  go_enter Try.func62, Try.ntmps62
  go_wp2_with fail
  refine hO.out.mono ?_
  rintro e1 w1 ⟨A, n, cap, rfl, hn, hA, x1, hA2⟩
  replace hn := Lib.hid hn; replace hA := Lib.hid hA; replace hA2 := Lib.hid hA2
  have HS1 := Lib.hid (HS0.out.ext x1)
  have X1 := Lib.hid (X0.out.trans x1)
  clear hO HS0 X0 x1
  have c0 := HS1.out.cell 0 _ rfl; have c1 := HS1.out.cell 1 _ rfl; have c2 := HS1.out.cell 2 _ rfl; have c3 := HS1.out.cell 3 _ rfl
  by_cases hk : 1 ≤ e.kind ∧ e.kind ≤ 7
  · have dk : decide (1 ≤ e.kind ∧ e.kind ≤ 7) = true := decide_eq_true hk
    rw [dk]
    clear dk
    go_wp2_with fail
    refine (pLeast _ _ _).mono ?_
    rintro e2 w2 ⟨rfl, rfl⟩
    by_cases hi : 0 ≤ e.id ∧ e.id ≤ 100000
    · have d1 : decide (0 ≤ e.id ∧ e.id ≤ 100000) = true := decide_eq_true hi
      rw [d1]
      clear d1
      by_cases hw : e.worker < 0
      · have d2 : decide (e.worker < 0) = true := decide_eq_true hw
        obtain rfl : R = false := by rw [← hR.out]; exact fair_no (fun h => by omega)
        go_wp2
        go_ret
        exact ⟨rfl, X1.out⟩
      · have d2 : decide (e.worker < 0) = false := decide_eq_false hw
        go_wp2_with fail
        refine (pLeast _ _ _).mono ?_
        rintro e2 w2 ⟨rfl, rfl⟩
        by_cases ha : 0 ≤ e.at_ ∧ e.at_ ≤ 31449599
        · have d3 : decide (0 ≤ e.at_ ∧ e.at_ ≤ 31449599) = true := decide_eq_true ha
          rw [d3]
          clear d3 d2
          have hh := Lib.hid (show (1 ≤ e.kind ∧ e.kind ≤ 7) ∧ (0 ≤ e.id ∧ e.id ≤ 100000) ∧ 0 ≤ e.worker ∧ (0 ≤ e.at_ ∧ e.at_ ≤ 31449599) from ⟨hk, hi, by omega, ha⟩)
          clear hk hi hw ha c0 c1 c2 c3
          have hn6 : n ≤ 6 := by
            rw [hn.out]; unfold ownIx; split
            · decide
            · split <;> decide
          go_wp2_with fail
          go_loopw [32] (fun i wr => ∃ k : Nat, k ≤ n ∧ i = .int .i64 k ∧ Hid (Bx wr w.heap.size (zeros ((ownIx e.kind).take k) (encV e)) 23) ∧ Hid (Ext w wr) ∧ Hid (Rw encA 1 wr A (ptrs w.heap.size (ownIx e.kind))) ∧ Hid (∀ x ∈ (ownE e).take k, 0 ≤ x)) (fun i _ => n - (intOf i).toNat)
          case atStart => exact ⟨0, Nat.zero_le _, rfl, HS1.out, X1.out, hA.out, by show ∀ x ∈ _, _; simp⟩
          case round =>
            obtain ⟨k, hkn, rfl, HB, HX, HA, HP⟩ := hrel
            by_cases hlt : k < n
            · have hlt2 : k < (ptrs w.heap.size (ownIx e.kind)).length := by unfold ptrs; rw [List.length_map, ← hn.out]; exact hlt
              obtain ⟨b1, off1, p, rfl, hbB, hx, z0⟩ := Rd.atA HA.out (Ext.refl _) hlt2
              have hne := hA2.out b1 off1 rfl
              obtain ⟨o, ho, rfl⟩ : ∃ o, (ownIx e.kind)[k]? = some o ∧ p = ⟨w.heap.size, o, none⟩ := by
                have := hx.out
                unfold ptrs at this
                rw [List.getElem?_map] at this
                cases h1 : (ownIx e.kind)[k]? with
                | none => rw [h1] at this; cases this
                | some o => rw [h1] at this; exact ⟨o, rfl, by simpa using this.symm⟩
              obtain ⟨x, hx1, hx2⟩ := own_vals e ho
              have hnd := ownIx_nodup e.kind
              have hno : o ∉ (ownIx e.kind).take k := fun hm => by
                obtain ⟨i, hi, hie⟩ := List.getElem_of_mem hm
                have hil : i < k := by rw [List.length_take] at hi; omega
                rw [List.getElem_take] at hie
                obtain ⟨hk2, hke⟩ := List.getElem?_eq_some_iff.1 ho
                exact List.pairwise_iff_getElem.1 hnd i k (by omega) hk2 hil (hie.trans hke.symm)
              have y0 := HB.out.cell o _ (by rw [zeros_at hno]; exact hx2)
              have y1 := HB.out.frozen o
              have q3 : (k : Int) < (n : Int) := by omega
              have q4 : (0 : Int) ≤ (k : Int) := by omega
              by_cases hneg : x < 0
              · have d1 : decide (x < 0) = true := decide_eq_true hneg
                obtain rfl : R = false := by rw [← hR.out]; exact fair_neg (List.mem_of_getElem? hx1) hneg
                go_wp2_with fail
                go_ret
                exact ⟨rfl, HX.out⟩
              · have d1 : decide (x < 0) = false := decide_eq_false hneg
                have HB2 : Hid (Bx (wr.setCell ⟨w.heap.size, o, none⟩ (.int .i64 0)) w.heap.size (zeros ((ownIx e.kind).take (k + 1)) (encV e)) 23) := by
                  have := HB.out.set_ o (.int .i64 0)
                  rw [← zeros_snoc, ← take_snoc ho] at this
                  exact this
                have HX2 : Hid (Ext w (wr.setCell ⟨w.heap.size, o, none⟩ (.int .i64 0))) := HX.out.setCell (p := ⟨w.heap.size, o, none⟩) (Nat.le_refl _) _
                have HA3 : Hid (Rw encA 1 (wr.setCell ⟨w.heap.size, o, none⟩ (.int .i64 0)) (some ⟨b1, off1, none⟩) (ptrs w.heap.size (ownIx e.kind))) := Rw.set_ HA.out _ (fun b off h => by cases h; simp at hne; omega)
                have HP2 : Hid (∀ x ∈ (ownE e).take (k + 1), 0 ≤ x) := by
                  show ∀ y ∈ _, _
                  rw [take_snoc hx1]
                  intro y hy
                  rcases List.mem_append.1 hy with hy | hy
                  · exact HP.out y hy
                  · simp at hy; subst hy; omega
                clear HB HX HA HP hx ho hx1 hx2 hnd hno hne
                go_wp2_with fail
                go_roundw
                case rel => exact ⟨k + 1, by omega, by go_num, HB2, HX2, HA3, HP2⟩
                case measure => simp [intOf]; omega
            · obtain rfl : k = n := by omega
              have e1 : (ownIx e.kind).take k = ownIx e.kind := List.take_of_length_le (by rw [hn.out]; exact Nat.le_refl _)
              have e2 : (ownE e).take k = ownE e := List.take_of_length_le (by rw [hn.out, ownIx_len]; exact Nat.le_refl _)
              rw [e1, zeros_all] at HB
              rw [e2] at HP
              have hq : ∀ w, (Op.equalIn 10000 23 (.agg (encV (stripE e)).toArray) (.agg #[.int .i64 e.id, .int .i64 e.worker, .int .i64 e.at_, .int .i64 e.kind, .int .i64 0, .int .i64 0, .int .i64 0, .int .i64 0, .int .i64 0, .int .i64 0, .int .i64 0])).run Try.prog w = .ok (decide (stripE e = bare e)) w := fun w => eqInV (stripE e) (bare e) w
              have hst := strip_bare e hh.out.1 hh.out.2.1 hh.out.2.2.1 hh.out.2.2.2 HP.out
              rw [hst, hR.out] at hq
              have hg := eqGuardV
              have HB2 := HB.out
              have f0 : (stripE e).id = e.id ∧ (stripE e).worker = e.worker ∧ (stripE e).at_ = e.at_ ∧ (stripE e).kind = e.kind := by
                unfold stripE
                split
                · exact ⟨rfl, rfl, rfl, rfl⟩
                · split <;> exact ⟨rfl, rfl, rfl, rfl⟩
              have c0 := HB2.cell 0 _ rfl; have c1 := HB2.cell 1 _ rfl; have c2 := HB2.cell 2 _ rfl; have c3 := HB2.cell 3 _ rfl
              rw [f0.1] at c0; rw [f0.2.1] at c1; rw [f0.2.2.1] at c2; rw [f0.2.2.2] at c3
              clear e1 e2 hst f0 hh HP HA hlt hkn hn hA hA2 HS1 X1
              go_wp2_with (first | (refine load_box rfl 23 _ rfl _ rfl _ _ HB2 _ Try.underlying23 rfl sizeV ?_))
              go_ret
              exact ⟨rfl, HX.out⟩
        · have d3 : decide (0 ≤ e.at_ ∧ e.at_ ≤ 31449599) = false := decide_eq_false ha
          rw [d3]
          clear d3 d2
          obtain rfl : R = false := by rw [← hR.out]; exact fair_no (fun h => ha h.2.2.2)
          go_wp2
          go_ret
          exact ⟨rfl, X1.out⟩
    · have d1 : decide (0 ≤ e.id ∧ e.id ≤ 100000) = false := decide_eq_false hi
      rw [d1]
      clear d1
      obtain rfl : R = false := by rw [← hR.out]; exact fair_no (fun h => hi h.2.1)
      go_wp2
      go_ret
      exact ⟨rfl, X1.out⟩
  · have dk : decide (1 ≤ e.kind ∧ e.kind ≤ 7) = false := decide_eq_false hk
    rw [dk]
    clear dk
    obtain rfl : R = false := by rw [← hR.out]; exact fair_no (fun h => hk h.1)
    go_wp2
    go_ret
    exact ⟨rfl, X1.out⟩
end Go.Proofs.Ytmbjbbflhlndcaa
