/-
  lumperref07.Check: money.
-/
import Derived.Test.YtnhmibfgaoealaaEc
import Derived.Test.YtnhmibfgaoealaaLt
namespace Go.Proofs.Ytnhmibfgaoealaa
open Go.RowKit BigFrame
set_option linter.unusedVariables false
set_option linter.unusedSimpArgs false

def tierAt (t : List (Int × Int)) (j : Nat) : Bool := match t[j]? with
  | some x => okIn 0 1000 x.1 && okIn 0 100000 x.2 && (match j with | 0 => true | i + 1 => match t[i]? with | some u => decide (u.1 < x.1) | none => true)
  | none => true
def refTiers (t : List (Int × Int)) : Bool := (List.range t.length).all (tierAt t)
theorem refTiers_bad {t : List (Int × Int)} {k : Nat} (h : k < t.length) (h2 : tierAt t k = false) : refTiers t = false := by
  cases ha : refTiers t with
  | false => rfl
  | true => unfold refTiers at ha; rw [List.all_eq_true] at ha; rw [ha k (List.mem_range.2 h)] at h2; cases h2
theorem range_next {q : Nat → Bool} {k : Nat} (h : (List.range k).all q = true) (h2 : q k = true) : (List.range (k + 1)).all q = true := by
  rw [List.range_succ, List.all_append, h]; simp [h2]
theorem refTiers_eq (t : List (Int × Int)) : refTiers t = okTiers (-1) t := by
  rw [Bool.eq_iff_iff, tiers_aux]
  unfold refTiers
  rw [List.all_eq_true]
  constructor
  · intro h j x hx
    have hj := h j (List.mem_range.2 (List.getElem?_eq_some_iff.1 hx).1)
    unfold tierAt at hj
    rw [hx] at hj
    simp only [Bool.and_eq_true, okIn_iff] at hj
    unfold okTier
    rw [Bool.and_eq_true, decide_eq_true_eq, okIn_iff]
    obtain ⟨⟨⟨h1, h2⟩, h3⟩, h4⟩ := hj
    match j, h4 with
    | 0, _ => exact ⟨⟨by show (-1 : Int) < x.1; omega, h2⟩, h3⟩
    | i + 1, h4 =>
      cases hu : t[i]? with
      | none =>
        have := (List.getElem?_eq_some_iff.1 hx).1
        rw [List.getElem?_eq_none_iff] at hu; omega
      | some u =>
        have h5 : (match t[i]? with | some u => decide (u.1 < x.1) | none => true) = true := h4
        rw [hu] at h5
        simp only [decide_eq_true_eq] at h5
        refine ⟨⟨?_, h2⟩, h3⟩
        show (match t[i]? with | some u => u.1 | none => -1) < x.1
        rw [hu]; exact h5
  · intro h
    have pos : ∀ (j : Nat) (x : Int × Int), t[j]? = some x → 0 ≤ x.1 := by
      intro j
      induction j with
      | zero =>
        intro x hx
        have := h 0 x hx
        unfold okTier at this
        rw [Bool.and_eq_true, decide_eq_true_eq] at this
        have h1 : (-1 : Int) < x.1 := this.1.1
        omega
      | succ i ih =>
        intro x hx
        have hk := h (i + 1) x hx
        unfold okTier at hk
        rw [Bool.and_eq_true, decide_eq_true_eq] at hk
        have h1 : (match t[i]? with | some u => u.1 | none => -1) < x.1 := hk.1.1
        cases hu : t[i]? with
        | none => rw [hu] at h1; simp only at h1; omega
        | some u => rw [hu] at h1; have := ih u hu; simp only at h1; omega
    intro j hj
    obtain ⟨x, hx⟩ : ∃ x, t[j]? = some x := ⟨_, List.getElem?_eq_getElem (List.mem_range.1 hj)⟩
    have hk := h j x hx
    unfold tierAt
    rw [hx]
    unfold okTier at hk
    rw [Bool.and_eq_true, decide_eq_true_eq] at hk
    simp only [Bool.and_eq_true, okIn_iff]
    refine ⟨⟨⟨pos j x hx, hk.1.2⟩, okIn_iff.1 hk.2⟩, ?_⟩
    match j, hk with
    | 0, _ => rfl
    | i + 1, hk =>
      have h1 : (match t[i]? with | some u => u.1 | none => -1) < x.1 := hk.1.1
      show (match t[i]? with | some u => decide (u.1 < x.1) | none => true) = true
      cases hu : t[i]? with
      | none => rfl
      | some u => rw [hu] at h1; exact decide_eq_true h1

set_option maxRecDepth 100000 in
set_option maxHeartbeats 4000000 in
theorem rMoneyA (cs : List Value) (df le : Int) (r : List Int) (t : List (Int × Int)) (Ar At : Option Addr) (cr ct : Nat) (c18 : cs[18]? = some (.slice Ar r.length cr)) (c19 : cs[19]? = some (.int .i64 df)) (c20 : cs[20]? = some (.int .i64 le)) (c22 : cs[22]? = some (.slice At t.length ct)) (hr : r.length ≤ maxLen) (ht : t.length ≤ maxLen) (w : World) (h1 : Rd encN 1 w w.heap.size Ar r) (h2 : Rd encS 2 w w.heap.size At t) :
    Calls Try.prog 117 #[.agg cs.toArray] w (RetB w (r.all (okIn 0 100000) && (refTiers t && (okIn 1 16 r.length && decide ((t.length : Int) ≤ 8) && okIn 0 100000 df && okIn 0 100000 le)))) := by
  replace h1 := Lib.hid h1; replace h2 := Lib.hid h2
  have hl1 : r.length ≤ 9223372036854775807 := hr
  have hl2 : t.length ≤ 9223372036854775807 := ht
  clear hr ht
  have hs0 := Lib.hid (Bx.new w cs 35)
  have X0 := Lib.hid ((Ext.refl w).alloc (.cells cs.toArray 35))
  go_enter Try.func117, Try.ntmps117
  go_wp2_with fail
  go_loopw [3] (fun i wr => ∃ k : Nat, k ≤ r.length ∧ i = .int .i64 k ∧ Hid ((r.take k).all (okIn 0 100000) = true) ∧ Hid (Ext (w.alloc (.cells cs.toArray 35)) wr)) (fun i _ => r.length - (intOf i).toNat)
  case atStart => exact ⟨0, Nat.zero_le _, rfl, (rfl : _ = _), Ext.refl _⟩
  case round =>
    obtain ⟨k, hk, rfl, HP, HX⟩ := hrel
    have hs1 := hs0.out.ext HX.out
    have z18 := hs1.cell 18 _ c18
    by_cases hlt : k < r.length
    · obtain ⟨b, off, p, rfl, hbB, hx, d0⟩ := Rd.atN h1.out (X0.out.trans HX.out) hlt
      have q3 : (k : Int) < (r.length : Int) := by omega
      have q4 : (0 : Int) ≤ (k : Int) := by omega
      have kW := fun w => pRWithin p 0 100000 w
      obtain ⟨v, hv⟩ : ∃ v, okIn 0 100000 p = v := ⟨_, rfl⟩
      rw [hv] at kW
      replace kW := Lib.hid kW; replace hv := Lib.hid hv
      go_wp2_with fail
      refine (kW.out _).mono ?_
      rintro e w1 ⟨rfl, x1⟩
      have X1 := Lib.hid (HX.out.trans x1)
      clear x1 HX d0 h1 hs1 z18
      cases v
      · have hA := Lib.hid (all_bad hx.out hv.out)
        clear hx hv HP
        go_wp2
        go_ret
        exact ⟨by rw [hA.out]; rfl, X0.out.trans X1.out⟩
      · have HP2 := Lib.hid (all_next hx.out HP.out hv.out)
        clear hx hv HP
        go_wp2
        go_roundw
        case rel => exact ⟨k + 1, by omega, by go_num, HP2, X1⟩
        case measure => simp [intOf]; omega
    · obtain rfl : k = r.length := by omega
      have HPr := HP.out
      rw [List.take_length] at HPr
      replace HPr := Lib.hid HPr
      have XR := Lib.hid (X0.out.trans HX.out)
      have hs2 := Lib.hid hs1
      clear HP h1 hs1 hs0
      go_wp2_with fail
      go_loopw [4] (fun i wx => ∃ k : Nat, k ≤ t.length ∧ i = .int .i64 k ∧ Hid ((List.range k).all (tierAt t) = true) ∧ Hid (Ext wr wx)) (fun i _ => t.length - (intOf i).toNat)
      case atStart => exact ⟨0, Nat.zero_le _, rfl, (rfl : _ = _), Ext.refl _⟩
      case round =>
        obtain ⟨k, hk, rfl, HP, HY⟩ := hrel
        have hs3 := hs2.out.ext HY.out
        have z22 := hs3.cell 22 _ c22
        by_cases hlt : k < t.length
        · obtain ⟨b, off, p, q, rfl, hbB, hx, d0, d1⟩ := h2.out.at2 (XR.out.trans HY.out) hlt
          have q3 : (k : Int) < (t.length : Int) := by omega
          have q4 : (0 : Int) ≤ (k : Int) := by omega
          have kW := fun w => pRWithin p 0 1000 w
          have kV := fun w => pRWithin q 0 100000 w
          obtain ⟨v, hv⟩ : ∃ v, okIn 0 1000 p = v := ⟨_, rfl⟩
          obtain ⟨u, hu⟩ : ∃ v, okIn 0 100000 q = v := ⟨_, rfl⟩
          have hT : ∀ B, (match (generalizing := false) k with | 0 => true | i + 1 => match t[i]? with | some u => decide (u.1 < p) | none => true) = B → tierAt t k = (v && u && B) := fun B hB => by
            unfold tierAt; rw [hx.out]; show (okIn 0 1000 p && okIn 0 100000 q && _) = _; rw [hv, hu, hB]
          rw [hv] at kW
          rw [hu] at kV
          have X1 := Lib.hid (HY.out.alloc (.cells #[.int .i64 p, .int .i64 q] 125))
          have y0 : ∀ e : Later (wr.alloc (.cells #[.int .i64 p, .int .i64 q] 125)), e.1.cell? ⟨wr.heap.size, 0, none⟩ = some (.int .i64 p) := fun e => (e.2.cell (p := ⟨wr.heap.size, 0, none⟩) (by simp)).trans (by simp)
          have y1 : ∀ e : Later (wr.alloc (.cells #[.int .i64 p, .int .i64 q] 125)), e.1.cell? ⟨wr.heap.size, 1, none⟩ = some (.int .i64 q) := fun e => (e.2.cell (p := ⟨wr.heap.size, 1, none⟩) (by simp)).trans (by simp)
          have y22 : ∀ e : Later (wr.alloc (.cells #[.int .i64 p, .int .i64 q] 125)), e.1.cell? ⟨w.heap.size, 22, none⟩ = some (.slice (some ⟨b, off, none⟩) t.length ct) := fun e => ((hs3.alloc _).ext e.2).cell 22 _ c22
          have J : Hid ((k = 0 ∧ True) ∨ ∃ j p2, k = j + 1 ∧ t[j]? = some p2 ∧ ∀ e : Later (wr.alloc (.cells #[.int .i64 p, .int .i64 q] 125)), e.1.cell? ⟨b, off + j * 2, none⟩ = some (.int .i64 p2.1)) := by
            rcases Nat.eq_zero_or_pos k with h0 | h0
            · exact .inl ⟨h0, trivial⟩
            · refine .inr ⟨k - 1, t[k - 1], by omega, List.getElem?_eq_getElem _, fun e => ?_⟩
              obtain ⟨b', off', p', q', hA, _, hy, cy, _⟩ := h2.out.at2 (((XR.out.trans HY.out).alloc (.cells #[.int .i64 p, .int .i64 q] 125)).trans e.2) (show k - 1 < t.length by omega)
              cases hA
              rw [List.getElem?_eq_getElem (by omega)] at hy
              have := Option.some.inj hy.out
              rw [this]; exact cy
          replace kW := Lib.hid kW; replace kV := Lib.hid kV; replace hT := Lib.hid hT
          clear hv hu hs3 hbB h2
          cases v
          · have hA := Lib.hid (refTiers_bad hlt (hT.out _ rfl))
            clear J hx hT HP
            go_wp2_with fail
            refine wp_region_later (wr.alloc (.cells #[.int .i64 p, .int .i64 q] 125)) (Ext.refl _) (by kernel_rfl) (by kernel_rfl) ?_
            go_big_quiet_step (fail)
            go_big_quiet_step (fail)
            go_big_quiet_step (exact later_bool (kW.out _))
            repeat (go_big_quiet_step (exact later_bool (kV.out _)))
            refine wpQuiet_nil ?_
            rintro w4 ⟨e4, he4⟩
            have x4 : Ext (wr.alloc (.cells #[.int .i64 p, .int .i64 q] 125)) w4 := he4 ▸ e4.2
            clear he4 e4
            go_wp2
            go_ret
            exact ⟨by rw [hA.out, Bool.false_and, Bool.and_false]; rfl, (XR.out.trans X1.out).trans x4⟩
          · cases u
            · have hA := Lib.hid (refTiers_bad hlt (hT.out _ rfl))
              clear J hx hT HP
              go_wp2_with fail
              refine wp_region_later (wr.alloc (.cells #[.int .i64 p, .int .i64 q] 125)) (Ext.refl _) (by kernel_rfl) (by kernel_rfl) ?_
              go_big_quiet_step (fail)
              go_big_quiet_step (fail)
              go_big_quiet_step (exact later_bool (kW.out _))
              repeat (go_big_quiet_step (exact later_bool (kV.out _)))
              refine wpQuiet_nil ?_
              rintro w4 ⟨e4, he4⟩
              have x4 : Ext (wr.alloc (.cells #[.int .i64 p, .int .i64 q] 125)) w4 := he4 ▸ e4.2
              clear he4 e4
              go_wp2
              go_ret
              exact ⟨by rw [hA.out, Bool.false_and, Bool.and_false]; rfl, (XR.out.trans X1.out).trans x4⟩
            · rcases J.out with ⟨rfl, _⟩ | ⟨j, p2, rfl, hj, hc⟩
              · simp only [Nat.zero_mul, Nat.add_zero] at d0 d1
                have f0 : decide ((0 : Int) < ((0 : Nat) : Int)) = false := by decide
                have f00 : decide ((0 : Int) < (0 : Int)) = false := by decide
                have HP2 := Lib.hid (range_next HP.out (hT.out true rfl))
                clear J hx hT HP
                go_wp2_with fail
                refine wp_region_later (wr.alloc (.cells #[.int .i64 p, .int .i64 q] 125)) (Ext.refl _) (by kernel_rfl) (by kernel_rfl) ?_
                go_big_quiet_step (fail)
                go_big_quiet_step (fail)
                go_big_quiet_step (exact later_bool (kW.out _))
                repeat (go_big_quiet_step (exact later_bool (kV.out _)))
                refine wpQuiet_nil ?_
                rintro w4 ⟨e4, he4⟩
                have x4 : Ext (wr.alloc (.cells #[.int .i64 p, .int .i64 q] 125)) w4 := he4 ▸ e4.2
                clear he4 e4
                go_wp2
                go_roundw
                case rel => exact ⟨0 + 1, by omega, by go_num, HP2, X1.out.trans x4⟩
                case measure => simp [intOf]; omega
              · have q1 : IntKind.i64.wrap (((j + 1 : Nat) : Int) - 1) = (j : Int) := by rw [IntWalk.i64_in _ (by omega)]; omega
                have q1b : IntKind.i64.wrap ((j : Int) + 1 - 1) = (j : Int) := by rw [IntWalk.i64_in _ (by omega)]; omega
                have q5 : (j : Int) < (t.length : Int) := by omega
                have q6 : (0 : Int) ≤ (j : Int) := by omega
                have f9 : decide ((0 : Int) < (((j + 1 : Nat)) : Int)) = true := decide_eq_true (by omega)
                have f10 : decide ((0 : Int) < (j : Int) + 1) = true := decide_eq_true (by omega)
                obtain ⟨g, hg⟩ : ∃ g, g = p2.1 := ⟨_, rfl⟩
                rw [← hg] at hc
                by_cases hb : g < p
                · have f11 : decide (p ≤ g) = false := decide_eq_false (by omega)
                  have hB : (match t[j]? with | some u => decide (u.1 < p) | none => true) = true := by rw [hj]; show decide (p2.1 < p) = true; rw [← hg]; exact decide_eq_true hb
                  have HP2 := Lib.hid (range_next HP.out (hT.out true hB))
                  clear J hx hT HP
                  go_wp2_with fail
                  refine wp_region_later (wr.alloc (.cells #[.int .i64 p, .int .i64 q] 125)) (Ext.refl _) (by kernel_rfl) (by kernel_rfl) ?_
                  go_big_quiet_step (fail)
                  go_big_quiet_step (fail)
                  go_big_quiet_step (exact later_bool (kW.out _))
                  repeat (go_big_quiet_step (exact later_bool (kV.out _)))
                  refine wpQuiet_nil ?_
                  rintro w4 ⟨e4, he4⟩
                  have x4 : Ext (wr.alloc (.cells #[.int .i64 p, .int .i64 q] 125)) w4 := he4 ▸ e4.2
                  clear he4 e4
                  go_wp2
                  go_roundw
                  case rel => exact ⟨(j + 1) + 1, by omega, by go_num, HP2, X1.out.trans x4⟩
                  case measure => simp [intOf]; omega
                · have f11 : decide (p ≤ g) = true := decide_eq_true (by omega)
                  have hB : (match t[j]? with | some u => decide (u.1 < p) | none => true) = false := by rw [hj]; show decide (p2.1 < p) = false; rw [← hg]; exact decide_eq_false hb
                  have hA := Lib.hid (refTiers_bad hlt (hT.out false hB))
                  clear J hx hT HP
                  go_wp2_with fail
                  refine wp_region_later (wr.alloc (.cells #[.int .i64 p, .int .i64 q] 125)) (Ext.refl _) (by kernel_rfl) (by kernel_rfl) ?_
                  go_big_quiet_step (fail)
                  go_big_quiet_step (fail)
                  go_big_quiet_step (exact later_bool (kW.out _))
                  repeat (go_big_quiet_step (exact later_bool (kV.out _)))
                  refine wpQuiet_nil ?_
                  rintro w4 ⟨e4, he4⟩
                  have x4 : Ext (wr.alloc (.cells #[.int .i64 p, .int .i64 q] 125)) w4 := he4 ▸ e4.2
                  clear he4 e4
                  go_wp2
                  go_ret
                  exact ⟨by rw [hA.out, Bool.false_and, Bool.and_false]; rfl, (XR.out.trans X1.out).trans x4⟩
        · obtain rfl : k = t.length := by omega
          have HP2 : Hid (refTiers t = true) := HP.out
          have X1 := XR.out.trans HY.out
          have kA := Lib.hid (fun w => pRWithin (r.length : Int) 1 16 w)
          have kB := Lib.hid (fun w => pRWithin df 0 100000 w)
          have kC := Lib.hid (fun w => pRWithin le 0 100000 w)
          have x18 := hs3.cell 18 _ c18
          have hE : Hid (∀ B, (r.all (okIn 0 100000) && (refTiers t && B)) = B) := fun B => by rw [HPr.out, HP2.out]; rfl
          obtain ⟨v1, hv1⟩ : ∃ v, okIn 1 16 (r.length : Int) = v := ⟨_, rfl⟩
          obtain ⟨v2, hv2⟩ : ∃ v, okIn 0 100000 df = v := ⟨_, rfl⟩
          obtain ⟨v3, hv3⟩ : ∃ v, okIn 0 100000 le = v := ⟨_, rfl⟩
          obtain ⟨v4, hv4⟩ : ∃ v, decide ((t.length : Int) ≤ 8) = v := ⟨_, rfl⟩
          rw [hv1] at kA
          rw [hv2] at kB
          rw [hv3] at kC
          have HV := Lib.hid (show (okIn 1 16 (r.length : Int) && decide ((t.length : Int) ≤ 8) && okIn 0 100000 df && okIn 0 100000 le) = (v1 && v4 && v2 && v3) by rw [hv1, hv2, hv3, hv4])
          clear hv1 hv2 hv3 HP HPr HP2 h2
          replace hs3 := Lib.hid hs3
          go_wp2_with fail
          refine (kA.out _).mono ?_
          rintro e w3 ⟨rfl, x3⟩
          have x22 := (hs3.out.ext x3).cell 22 _ c22
          have x19 := (hs3.out.ext x3).cell 19 _ c19
          cases v1
          · go_wp2
            go_ret
            exact ⟨by rw [hE.out, HV.out]; rfl, X1.trans x3⟩
          · cases v4
            · go_wp2
              go_ret
              exact ⟨by rw [hE.out, HV.out]; rfl, X1.trans x3⟩
            · go_wp2_with fail
              refine (kB.out _).mono ?_
              rintro e w4 ⟨rfl, x4⟩
              have x20 := ((hs3.out.ext x3).ext x4).cell 20 _ c20
              cases v2
              · go_wp2
                go_ret
                exact ⟨by rw [hE.out, HV.out]; rfl, (X1.trans x3).trans x4⟩
              · go_wp2_with fail
                refine (kC.out _).mono ?_
                rintro e w5 ⟨rfl, x5⟩
                go_wp2
                go_ret
                exact ⟨by rw [hE.out, HV.out]; rfl, ((X1.trans x3).trans x4).trans x5⟩

theorem pRMoney {s : Su} {h : Sh} (ok : SuOk s) {w : World} (r : SuR w s h) : Calls Try.prog 117 #[.agg (s.cells h).toArray] w (RetB w (chMoney s)) := by
  have k := rMoneyA (s.cells h) s.diff s.least s.rates s.tiers h.rA h.tA h.rC h.tC rfl rfl rfl rfl ok.rates.1 ok.tiers.1 w r.rates r.tiers
  refine bEq k ?_
  rw [refTiers_eq]
  unfold chMoney okIn
  rw [Bool.eq_iff_iff]
  simp only [Bool.and_eq_true, List.all_cons, List.all_nil, decide_eq_true_eq, and_true]
  constructor
  · rintro ⟨h1, h2, ⟨⟨⟨h3, h4⟩, h5⟩, h6⟩, h7⟩
    exact ⟨⟨⟨⟨⟨by omega, h4⟩, h1⟩, h6, h7⟩, h5⟩, h2⟩
  · rintro ⟨⟨⟨⟨⟨h3, h4⟩, h1⟩, h6, h7⟩, h5⟩, h2⟩
    exact ⟨h1, h2, ⟨⟨⟨by omega, h4⟩, h5⟩, h6⟩, h7⟩
end Go.Proofs.Ytnhmibfgaoealaa
