/-
  lumperref07.Check: lists of ratios, elements, ways.
-/
import Derived.Test.YtnhmibfgaoealaaEa
namespace Go.Proofs.Ytnhmibfgaoealaa
open Go.RowKit
set_option linter.unusedVariables false
set_option linter.unusedSimpArgs false

theorem all_bad {α : Type} {q : α → Bool} {l : List α} {k : Nat} {x : α} (hx : l[k]? = some x) (h : q x = false) : l.all q = false := by
  cases ha : l.all q with
  | false => rfl
  | true => rw [List.all_eq_true] at ha; rw [ha x (List.mem_of_getElem? hx)] at h; cases h
theorem all_next {α : Type} {q : α → Bool} {l : List α} {k : Nat} {x : α} (hx : l[k]? = some x) (h : (l.take k).all q = true) (h2 : q x = true) : (l.take (k + 1)).all q = true := by
  rw [take_snoc hx, List.all_append, h]; simp [h2]
theorem Rd.at2 {w w' : World} {A : Option Addr} {l : List (Int × Int)} (h : Rd encS 2 w w.heap.size A l) (X : Ext w w') {j : Nat} (hj : j < l.length) :
    ∃ b off p q, A = some ⟨b, off, none⟩ ∧ b < w.heap.size ∧ Hid (l[j]? = some (p, q)) ∧ w'.cell? ⟨b, off + j * 2, none⟩ = some (.int .i64 p) ∧ w'.cell? ⟨b, off + j * 2 + 1, none⟩ = some (.int .i64 q) := by
  obtain ⟨b, off, x, hA, hb, hx, hc⟩ := (h.below X).at_ hj
  exact ⟨b, off, x.1, x.2, hA, hb, hx, hc 0 _ rfl, hc 1 _ rfl⟩
theorem Rd.at3 {w w' : World} {A : Option Addr} {l : List (Int × Int × Int)} (h : Rd enc3 3 w w.heap.size A l) (X : Ext w w') {j : Nat} (hj : j < l.length) :
    ∃ b off p q r, A = some ⟨b, off, none⟩ ∧ b < w.heap.size ∧ Hid (l[j]? = some (p, q, r)) ∧ w'.cell? ⟨b, off + j * 3, none⟩ = some (.int .i64 p) ∧ w'.cell? ⟨b, off + j * 3 + 1, none⟩ = some (.int .i64 q) ∧ w'.cell? ⟨b, off + j * 3 + 2, none⟩ = some (.int .i64 r) := by
  obtain ⟨b, off, x, hA, hb, hx, hc⟩ := (h.below X).at_ hj
  exact ⟨b, off, x.1, x.2.1, x.2.2, hA, hb, hx, hc 0 _ rfl, hc 1 _ rfl, hc 2 _ rfl⟩
theorem Rd.at4 {w w' : World} {A : Option Addr} {l : List ((Int × Int) × (Int × Int))} (h : Rd enc4 4 w w.heap.size A l) (X : Ext w w') {j : Nat} (hj : j < l.length) :
    ∃ b off p q r t, A = some ⟨b, off, none⟩ ∧ b < w.heap.size ∧ Hid (l[j]? = some ((p, q), (r, t))) ∧ w'.cell? ⟨b, off + j * 4, none⟩ = some (.int .i64 p) ∧ w'.cell? ⟨b, off + j * 4 + 1, none⟩ = some (.int .i64 q) ∧ w'.cell? ⟨b, off + j * 4 + 2, none⟩ = some (.int .i64 r) ∧ w'.cell? ⟨b, off + j * 4 + 3, none⟩ = some (.int .i64 t) := by
  obtain ⟨b, off, x, hA, hb, hx, hc⟩ := (h.below X).at_ hj
  exact ⟨b, off, x.1.1, x.1.2, x.2.1, x.2.2, hA, hb, hx, hc 0 _ rfl, hc 1 _ rfl, hc 2 _ rfl, hc 3 _ rfl⟩

set_option maxRecDepth 100000 in
set_option maxHeartbeats 1000000 in
theorem pRShares (l : List (Int × Int)) (A : Option Addr) (c : Nat) (hl : l.length ≤ maxLen) (w : World) (h : Rd encS 2 w w.heap.size A l) :
    Calls Try.prog 115 #[.slice A l.length c] w (RetB w (l.all okShare && decide ((l.length : Int) ≤ 8))) := by
  replace h := Lib.hid h
  have hl2 : l.length ≤ 9223372036854775807 := hl
  clear hl
  go_enter Try.func115, Try.ntmps115
  go_wp2_with fail
  go_loopw [3] (fun i wr => ∃ k : Nat, k ≤ l.length ∧ i = .int .i64 k ∧ Hid ((l.take k).all okShare = true) ∧ Hid (Ext w wr)) (fun i _ => l.length - (intOf i).toNat)
  case atStart => exact ⟨0, Nat.zero_le _, rfl, (rfl : _ = _), Ext.refl _⟩
  case round =>
    obtain ⟨k, hk, rfl, HP, HX⟩ := hrel
    by_cases hlt : k < l.length
    · obtain ⟨b, off, p, q, rfl, hbB, hx, c0, c1⟩ := h.out.at2 HX.out hlt
      have q3 : (k : Int) < (l.length : Int) := by omega
      have q4 : (0 : Int) ≤ (k : Int) := by omega
      have kS := fun w => pRShare p q w
      obtain ⟨v, hv⟩ : ∃ v, okShare (p, q) = v := ⟨_, rfl⟩
      rw [hv] at kS
      replace kS := Lib.hid kS; replace hv := Lib.hid hv
      go_wp2_with fail
      refine (kS.out _).mono ?_
      rintro e w1 ⟨rfl, x1⟩
      have X1 := Lib.hid (HX.out.trans x1)
      clear x1 HX c0 c1 h
      cases v
      · have hA := Lib.hid (all_bad hx.out hv.out)
        clear hx hv HP
        go_wp2
        go_ret
        exact ⟨by rw [hA.out]; rfl, X1.out⟩
      · have HP2 := Lib.hid (all_next hx.out HP.out hv.out)
        clear hx hv HP
        go_wp2
        go_roundw
        case rel => exact ⟨k + 1, by omega, by go_num, HP2, X1⟩
        case measure => simp [intOf]; omega
    · obtain rfl : k = l.length := by omega
      have HP2 := HP.out
      rw [List.take_length] at HP2
      replace HP2 := Lib.hid HP2
      clear HP
      go_wp2
      go_ret
      exact ⟨by rw [HP2.out, Bool.true_and]; rfl, HX.out⟩

set_option maxRecDepth 100000 in
set_option maxHeartbeats 1000000 in
theorem pRElements (l : List ((Int × Int) × (Int × Int))) (A : Option Addr) (c : Nat) (hl : l.length ≤ maxLen) (w : World) (h : Rd enc4 4 w w.heap.size A l) :
    Calls Try.prog 114 #[.slice A l.length c] w (RetB w (l.all okEl && decide ((l.length : Int) ≤ 8))) := by
  replace h := Lib.hid h
  have hl2 : l.length ≤ 9223372036854775807 := hl
  clear hl
  go_enter Try.func114, Try.ntmps114
  go_wp2_with fail
  go_loopw [3] (fun i wr => ∃ k : Nat, k ≤ l.length ∧ i = .int .i64 k ∧ Hid ((l.take k).all okEl = true) ∧ Hid (Ext w wr)) (fun i _ => l.length - (intOf i).toNat)
  case atStart => exact ⟨0, Nat.zero_le _, rfl, (rfl : _ = _), Ext.refl _⟩
  case round =>
    obtain ⟨k, hk, rfl, HP, HX⟩ := hrel
    by_cases hlt : k < l.length
    · obtain ⟨b, off, p, q, r, t, rfl, hbB, hx, c0, c1, c2, c3⟩ := h.out.at4 HX.out hlt
      have q3 : (k : Int) < (l.length : Int) := by omega
      have q4 : (0 : Int) ≤ (k : Int) := by omega
      have kS := fun w => pRShare p q w
      have kT := fun w => pRShare r t w
      obtain ⟨v, hv⟩ : ∃ v, okShare (p, q) = v := ⟨_, rfl⟩
      obtain ⟨u, hu⟩ : ∃ v, okShare (r, t) = v := ⟨_, rfl⟩
      have hE : okEl ((p, q), (r, t)) = (v && u) := by unfold okEl; rw [hv, hu]
      rw [hv] at kS
      rw [hu] at kT
      replace kS := Lib.hid kS; replace kT := Lib.hid kT; replace hE := Lib.hid hE
      clear hv hu
      go_wp2_with fail
      refine (kS.out _).mono ?_
      rintro e w1 ⟨rfl, x1⟩
      have hB1 : b < wr.heap.size := Nat.lt_of_lt_of_le hbB HX.out.size
      have d2 := (x1.cell (p := ⟨b, off + k * 4 + 2, none⟩) hB1).trans c2
      have d3 := (x1.cell (p := ⟨b, off + k * 4 + 3, none⟩) hB1).trans c3
      clear c0 c1 c2 c3
      go_wp2_with fail
      refine (kT.out _).mono ?_
      rintro e w2 ⟨rfl, x2⟩
      have X1 := Lib.hid ((HX.out.trans x1).trans x2)
      clear x1 x2 HX d2 d3 h
      cases v
      · have hA := Lib.hid (all_bad hx.out hE.out)
        clear hx hE HP
        go_wp2
        go_ret
        exact ⟨by rw [hA.out]; rfl, X1.out⟩
      · cases u
        · have hA := Lib.hid (all_bad hx.out hE.out)
          clear hx hE HP
          go_wp2
          go_ret
          exact ⟨by rw [hA.out]; rfl, X1.out⟩
        · have HP2 := Lib.hid (all_next hx.out HP.out hE.out)
          clear hx hE HP
          go_wp2
          go_roundw
          case rel => exact ⟨k + 1, by omega, by go_num, HP2, X1⟩
          case measure => simp [intOf]; omega
    · obtain rfl : k = l.length := by omega
      have HP2 := HP.out
      rw [List.take_length] at HP2
      replace HP2 := Lib.hid HP2
      clear HP
      go_wp2
      go_ret
      exact ⟨by rw [HP2.out, Bool.true_and]; rfl, HX.out⟩

set_option maxRecDepth 100000 in
set_option maxHeartbeats 2000000 in
theorem pRWays (cs : List Value) (hcs : cs.length = 23) (P : Int) (l : List (Int × Int × Int)) (A : Option Addr) (c : Nat) (c0 : cs[0]? = some (.int .i64 P)) (c1 : cs[1]? = some (.slice A l.length c)) (hl : l.length ≤ maxLen) (w : World) (h : Rd enc3 3 w w.heap.size A l) :
    Calls Try.prog 112 #[.agg cs.toArray] w (RetB w (l.all (okWay P) && decide ((l.length : Int) ≤ 64) && okIn 1 16 P)) := by
  replace h := Lib.hid h
  have hl2 : l.length ≤ 9223372036854775807 := hl
  have hs0 := Bx.new w cs 35
  have X0 := (Ext.refl w).alloc (.cells cs.toArray 35)
  have hS : Hid (∀ W, Ext (w.alloc (.cells cs.toArray 35)) W → W.cell? ⟨w.heap.size, 0, none⟩ = some (.int .i64 P) ∧ W.cell? ⟨w.heap.size, 1, none⟩ = some (.slice A l.length c)) := fun W X => ⟨(hs0.ext X).cell 0 _ c0, (hs0.ext X).cell 1 _ c1⟩
  replace X0 := Lib.hid X0
  have kW := Lib.hid fun w => pRWithin P 1 16 w
  clear hl hs0 c0 c1 hcs
  go_enter Try.func112, Try.ntmps112
  go_wp2_with fail
  go_loopw [3] (fun i wr => ∃ k : Nat, k ≤ l.length ∧ i = .int .i64 k ∧ Hid ((l.take k).all (okWay P) = true) ∧ Hid (Ext (w.alloc (.cells cs.toArray 35)) wr)) (fun i _ => l.length - (intOf i).toNat)
  case atStart => exact ⟨0, Nat.zero_le _, rfl, (rfl : _ = _), Ext.refl _⟩
  case round =>
    obtain ⟨k, hk, rfl, HP, HX⟩ := hrel
    obtain ⟨s0, s1⟩ := hS.out _ HX.out
    have hwl : w.heap.size < wr.heap.size := Nat.lt_of_lt_of_le (by simp) HX.out.size
    by_cases hlt : k < l.length
    · obtain ⟨b, off, p, q, r, rfl, hbB, hx, c0, c1, c2⟩ := h.out.at3 (X0.out.trans HX.out) hlt
      have q3 : (k : Int) < (l.length : Int) := by omega
      have q4 : (0 : Int) ≤ (k : Int) := by omega
      have hne : w.heap.size ≠ wr.heap.size := by omega
      have hne2 : b ≠ wr.heap.size := by omega
      have XW := Lib.hid (X0.out.trans HX.out)
      by_cases g0 : p < 0
      · have f0 : decide (p < 0) = true := decide_eq_true g0
        have hE : okWay P (p, q, r) = false := by unfold okWay okIn; simp; omega
        have hA := Lib.hid (all_bad hx.out hE)
        clear hx hE HP g0 h
        go_wp2
        go_ret
        exact ⟨by rw [hA.out, Bool.false_and, Bool.false_and]; rfl, XW.out.alloc _⟩
      · have f0 : decide (p < 0) = false := decide_eq_false g0
        by_cases g1 : q < 0
        · have f1 : decide (q < 0) = true := decide_eq_true g1
          have hE : okWay P (p, q, r) = false := by unfold okWay okIn; simp; omega
          have hA := Lib.hid (all_bad hx.out hE)
          clear hx hE HP g0 g1 h
          go_wp2
          go_ret
          exact ⟨by rw [hA.out, Bool.false_and, Bool.false_and]; rfl, XW.out.alloc _⟩
        · have f1 : decide (q < 0) = false := decide_eq_false g1
          by_cases g2 : P ≤ p
          · have f2 : decide (P ≤ p) = true := decide_eq_true g2
            have hE : okWay P (p, q, r) = false := by unfold okWay okIn; simp; omega
            have hA := Lib.hid (all_bad hx.out hE)
            clear hx hE HP g0 g1 g2 h
            go_wp2
            go_ret
            exact ⟨by rw [hA.out, Bool.false_and, Bool.false_and]; rfl, XW.out.alloc _⟩
          · have f2 : decide (P ≤ p) = false := decide_eq_false g2
            by_cases g3 : P ≤ q
            · have f3 : decide (P ≤ q) = true := decide_eq_true g3
              have hE : okWay P (p, q, r) = false := by unfold okWay okIn; simp; omega
              have hA := Lib.hid (all_bad hx.out hE)
              clear hx hE HP g0 g1 g2 g3 h
              go_wp2
              go_ret
              exact ⟨by rw [hA.out, Bool.false_and, Bool.false_and]; rfl, XW.out.alloc _⟩
            · have f3 : decide (P ≤ q) = false := decide_eq_false g3
              by_cases g4 : p = q
              · have f4 : (p == q) = true := by simp [g4]
                have hE : okWay P (p, q, r) = false := by unfold okWay okIn; simp; omega
                have hA := Lib.hid (all_bad hx.out hE)
                clear hx hE HP g0 g1 g2 g3 g4 h
                go_wp2
                go_ret
                exact ⟨by rw [hA.out, Bool.false_and, Bool.false_and]; rfl, XW.out.alloc _⟩
              · have f4 : (p == q) = false := by simp [g4]
                by_cases g5 : r < 1
                · have f5 : decide (r < 1) = true := decide_eq_true g5
                  have hE : okWay P (p, q, r) = false := by unfold okWay okIn; simp; omega
                  have hA := Lib.hid (all_bad hx.out hE)
                  clear hx hE HP g0 g1 g2 g3 g4 g5 h
                  go_wp2
                  go_ret
                  exact ⟨by rw [hA.out, Bool.false_and, Bool.false_and]; rfl, XW.out.alloc _⟩
                · have f5 : decide (r < 1) = false := decide_eq_false g5
                  by_cases g6 : 10000 < r
                  · have f6 : decide (10000 < r) = true := decide_eq_true g6
                    have hE : okWay P (p, q, r) = false := by unfold okWay okIn; simp; omega
                    have hA := Lib.hid (all_bad hx.out hE)
                    clear hx hE HP g0 g1 g2 g3 g4 g5 g6 h
                    go_wp2
                    go_ret
                    exact ⟨by rw [hA.out, Bool.false_and, Bool.false_and]; rfl, XW.out.alloc _⟩
                  · have f6 : decide (10000 < r) = false := decide_eq_false g6
                    have hE : okWay P (p, q, r) = true := by unfold okWay okIn; simp; omega
                    have HP2 := Lib.hid (all_next hx.out HP.out hE)
                    have HX2 := Lib.hid (HX.out.alloc (.cells #[.int .i64 p, .int .i64 q, .int .i64 r] 115))
                    clear hx hE HP g0 g1 g2 g3 g4 g5 g6 h
                    go_wp2
                    go_roundw
                    case rel => exact ⟨k + 1, by omega, by go_num, HP2, HX2⟩
                    case measure => simp [intOf]; omega
    · obtain rfl : k = l.length := by omega
      have HP2 := HP.out
      rw [List.take_length] at HP2
      replace HP2 := Lib.hid HP2
      have X1 := X0.out.trans HX.out
      clear HP h hS
      by_cases g : (l.length : Int) ≤ 64
      · have f1 : decide ((l.length : Int) ≤ 64) = true := decide_eq_true g
        go_wp2_with fail
        refine (kW.out _).mono ?_
        rintro e w2 ⟨rfl, x2⟩
        go_wp2
        go_ret
        exact ⟨by first | rfl | (rw [HP2.out, f1, Bool.true_and, Bool.true_and]; rfl) | (rw [HP2.out, Bool.true_and]; rfl), X1.trans x2⟩
      · have f1 : decide ((l.length : Int) ≤ 64) = false := decide_eq_false g
        go_wp2
        go_ret
        exact ⟨by first | rfl | (rw [HP2.out, f1, Bool.true_and, Bool.false_and]; rfl), X1⟩
end Go.Proofs.Ytnhmibfgaoealaa
