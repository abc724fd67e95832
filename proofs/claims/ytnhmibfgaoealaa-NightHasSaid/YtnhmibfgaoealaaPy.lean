/-
  Words for layer 11: the days that have some.
-/
import Derived.Test.YtnhmibfgaoealaaPx
namespace Go.Proofs.Ytnhmibfgaoealaa
open Go.RowKit


theorem results_cell1 {fn : Func} {p : Tmp} (h : fn.results = #[.cell p 32]) (tmps : Array Value) (w : World) (g : Nat) (v : Value)
    (hp : tmps.getD p undef = .pointer (some ⟨g, 0, none⟩)) (hc : w.cell? ⟨g, 0, none⟩ = some v) : (results fn tmps).run Try.prog w = .ok v w := by
  have hp' : tmps[p]?.getD undef = .pointer (some ⟨g, 0, none⟩) := by simpa using hp
  have u := Try.underlying32
  simp [results, h, hp', asAddr]
  go_simp

set_option maxRecDepth 100000 in
set_option maxHeartbeats 1000000 in
theorem pDays {w : World} {A : Option Addr} {l : List Sp.S} (h : Rs w A l) (hl : l.length ≤ 900000) (cap : Nat) : Calls Try.prog 31 #[.slice A l.length cap] w fun e w' => ∃ A' cap', e = .returned (.slice A' (daysL (Sp.norm l)).length cap') ∧ Rn w' A' (daysL (Sp.norm l)) ∧ Ext w w' := by
  obtain ⟨N, hN, lN, bN⟩ : ∃ N, Sp.norm l = N ∧ N.length ≤ 900000 ∧ Hid (∀ s ∈ N, 0 ≤ s.1 ∧ s.1 < s.2 ∧ s.2 ≤ 32054400) := ⟨_, rfl, Nat.le_trans (Sp.norm_length l) hl, (Sp.norm_plain l).bd⟩
  rw [hN]
  have hN := Lib.hid hN
  go_enter Try.func31, Try.ntmps31
  go_wp2_with fail
  refine ((hN.out ▸ cNorm (h.alloc _) hl _ : Calls _ _ _ _ (RetS _ N))).mono ?_
  rintro e w1 ⟨A1, cap1, rfl, r1, x1, o1⟩
  have hB : w.heap.size < w1.heap.size := by have := x1.size; simp at this; omega
  have hbx : Boxed w1 w.heap.size 32 (.slice none 0 0) := (x1.block w.heap.size (by simp)).trans (heap_alloc_new w _)
  go_wp2_with fail
  go_loopw [12] (fun i wr => ∃ (k : Nat) (v : Value), k ≤ N.length ∧ i = .int .i64 k ∧ Hid (Boxed wr w.heap.size 32 v) ∧ Hid (wr.ownsRow w1.heap.size 3 1 v (daysL (N.take k)).length (flat encN (daysL (N.take k)))) ∧ Hid (Below w.heap.size w1 wr) ∧ Hid (Mid (w.heap.size + 1) w1.heap.size w1 wr)) (fun i _ => N.length - (intOf i).toNat)
  case atStart => exact ⟨0, _, Nat.zero_le _, rfl, hbx, ⟨rfl, .inl ⟨rfl, rfl⟩⟩, Below.refl _ _, Mid.refl _ _ _⟩
  case round =>
    obtain ⟨k, v, hk, rfl, HV, HO, HM, HR⟩ := hrel
    by_cases hlt : k < N.length
    · obtain ⟨A2, cap2, rfl, _, _⟩ := own_form HO.out
      obtain ⟨b, off, p, q, rfl, hbB, hx, c0, c1⟩ := Rd.atS r1 (Ext.refl w1) hlt
      have hgb : w.heap.size + 1 ≤ b := by
        rcases o1.2 with ⟨h0, _⟩ | ⟨g, _, _, h0, hg, _⟩
        · cases h0
        · cases h0; simpa using hg
      have d0 := (HR.out.cell (p := ⟨b, off + k * 2, none⟩) hgb hbB).trans c0
      have d1 := (HR.out.cell (p := ⟨b, off + k * 2 + 1, none⟩) hgb hbB).trans c1
      obtain ⟨p0, p1, p2⟩ := bN.out _ (List.mem_of_getElem? hx.out)
      replace p0 : 0 ≤ p := p0
      replace p1 : p < q := p1
      replace p2 : q ≤ 32054400 := p2
      clear c0 c1
      go_wp2_with fail
      refine (pDay p _).mono ?_
      rintro e w3 ⟨rfl, x3⟩
      have e1 : w3.cell? ⟨wr.heap.size, 1, none⟩ = some (.int .i64 q) := (x3.cell (p := ⟨wr.heap.size, 1, none⟩) (by simp)).trans (cells_new wr [.int .i64 p, .int .i64 q] 42 1 _ rfl)
      go_wp2_with fail
      refine (pDay (q - 1) _).mono ?_
      rintro e w4 ⟨rfl, x4⟩
      have u1 := dayOf_bd p
      have u2 := dayOf_bd (q - 1)
      have u3 : dayOf p ≤ dayOf (q - 1) := dayOf_mono (by omega)
      obtain ⟨M, hM, hM2⟩ : ∃ M : Nat, dayOf (q - 1) - dayOf p + 1 = (M : Int) ∧ Hid (spanN (p, q) = M) := ⟨(dayOf (q - 1) - dayOf p + 1).toNat, by omega, (rfl : _ = _)⟩
      have hM3 : M ≤ 371 := by omega
      have Xr : Ext wr w4 := (((Ext.refl _).alloc _).trans x3).trans x4
      have hD := daysL_len (N.take k)
      obtain ⟨D, hDD⟩ : ∃ D, daysL (N.take k) = D := ⟨_, rfl⟩
      rw [hDD] at hD HO HV
      have hDl : D.length ≤ 371 * 900000 := by have : (N.take k).length ≤ 900000 := by simp; omega
                                               omega
      replace hDD := Lib.hid hDD
      go_wp2_with fail
      go_loopw [26] (fun i wi => ∃ (m : Nat) (v : Value), m ≤ M ∧ i = .int .i64 m ∧ Hid (Boxed wi w.heap.size 32 v) ∧ Hid (wi.ownsRow w1.heap.size 3 1 v (putsN D (dayOf p) m).length (flat encN (putsN D (dayOf p) m))) ∧ Hid (Below w.heap.size w1 wi) ∧ Hid (Mid (w.heap.size + 1) w1.heap.size w1 wi)) (fun i _ => M - (intOf i).toNat)
      case atStart => exact ⟨0, _, Nat.zero_le _, rfl, (Xr.block w.heap.size HV.out.lt).trans HV.out, own_below HO.out Xr, HM.out.trans (Below.mono Xr (by have := HM.out.size; omega)), HR.out.below (Nat.le_refl _) Xr⟩
      case round =>
        obtain ⟨m, v, hm, rfl, HV2, HO2, HM2, HR2⟩ := hrel
        by_cases hlt2 : m < M
        · have hl2 := putsN_len D (dayOf p) m
          go_wp2_with fail
          refine (pPut w1.heap.size w.heap.size (putsN D (dayOf p) m) v (dayOf p + m) _ HV2.out HO2.out HR2.out.size hB (by omega)).mono ?_
          rintro e w5 ⟨⟨r, rfl⟩, v5, hv5, ho5, m1, m2⟩
          rw [← putsN_succ] at ho5
          replace hv5 := Lib.hid hv5; replace ho5 := Lib.hid ho5
          have m3 := Lib.hid (HM2.out.trans m1); have m4 := Lib.hid (HR2.out.trans m2)
          clear m1 m2
          go_wp2
          go_roundw
          case rel => exact ⟨m + 1, v5, by omega, by go_num, hv5, ho5, m3, m4⟩
          case measure => simp [intOf]; omega
        · obtain rfl : m = M := by omega
          have H1 : Hid (daysL (N.take (k + 1)) = putsN D (dayOf p) m) := by show _ = _; rw [take_snoc hx.out, daysL_snoc, hDD.out, hM2.out]
          have H2 := HO2.out
          rw [← H1.out] at H2
          replace H2 := Lib.hid H2
          clear HO2
          go_wp2
          go_roundw
          case rel => exact ⟨k + 1, v, by omega, by go_num, HV2, H2, HM2, HR2⟩
          case measure => simp [intOf]; omega
    · obtain rfl : k = N.length := by omega
      rw [List.take_length] at HO
      obtain ⟨A2, cap2, rfl, _, _⟩ := own_form HO.out
      have c1 := HV.out.cell
      have f1 := HV.out.frozen
      go_wp2
      have hbx2 := (HV.out.set (.slice A2 (daysL N).length cap2)).cell
      refine bodyPost_ret (results_cell1 rfl _ _ w.heap.size _ rfl hbx2) rfl ⟨A2, cap2, rfl, ?_, ?_⟩
      · exact Rn.own (HO.out.kept (grownBy_setCell' wr w.heap.size _) (.inr (HV.out.not_row (by decide) HO.out).symm))
      · have X1 : Ext w w1 := ((Ext.refl w).alloc _).trans x1
        have M2 : Below w.heap.size w1 (wr.setCell ⟨w.heap.size, 0, none⟩ (.slice A2 (daysL N).length cap2)) := HM.out.setCell (p := ⟨w.heap.size, 0, none⟩) (Nat.le_refl _) _
        exact Below.trans X1 M2
end Go.Proofs.Ytnhmibfgaoealaa
