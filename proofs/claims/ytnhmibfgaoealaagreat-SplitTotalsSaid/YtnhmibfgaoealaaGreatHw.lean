/-
  split.Totals, and Spans, Totals, Same of lumperref17, by contract.
  Spans, Totals and Same of lumperref17 by contract.
  add and Parts of lumperref17 by contract.
-/
import Derived.Test.YtnhmibfgaoealaaGreatHv
import Derived.Test.YtnhmibfgaoealaaGreatFz
namespace Go.Proofs.YtnhmibfgaoealaaGreat
open Go.RowKit BigFrame
set_option linter.unusedVariables false
set_option linter.unusedSimpArgs false

def totN (m : List Pt) (k j : Nat) : Int := if j < k then Sp.size (spansOf m (j : Int)) else 0
def totC (m : List Pt) (k : Nat) : List Value := [.int .i64 (totN m k 0), .int .i64 (totN m k 1), .int .i64 (totN m k 2), .int .i64 (totN m k 3), .int .i64 (totN m k 4), .int .i64 (totN m k 5), .int .i64 (totN m k 6)]
theorem totC_zero (m : List Pt) : totC m 0 = [.int .i64 0, .int .i64 0, .int .i64 0, .int .i64 0, .int .i64 0, .int .i64 0, .int .i64 0] := by simp [totC, totN]
theorem totC_set (m : List Pt) {k : Nat} (hk : k < 7) : (totC m k).set k (.int .i64 (Sp.size (spansOf m (k : Int)))) = totC m (k + 1) := by
  match k, hk with
  | 0, _ => simp [totC, totN]
  | 1, _ => simp [totC, totN]
  | 2, _ => simp [totC, totN]
  | 3, _ => simp [totC, totN]
  | 4, _ => simp [totC, totN]
  | 5, _ => simp [totC, totN]
  | 6, _ => simp [totC, totN]
theorem totC_at (m : List Pt) (k : Nat) {j : Nat} (hj : j < 7) : ∃ u, (totC m k)[j]? = some u := by
  match j, hj with
  | 0, _ => exact ⟨_, rfl⟩
  | 1, _ => exact ⟨_, rfl⟩
  | 2, _ => exact ⟨_, rfl⟩
  | 3, _ => exact ⟨_, rfl⟩
  | 4, _ => exact ⟨_, rfl⟩
  | 5, _ => exact ⟨_, rfl⟩
  | 6, _ => exact ⟨_, rfl⟩
/-- What a call leaves that hands back an array. -/
def RetA (w : World) (cs : List Value) (e : Ending) (w' : World) : Prop := e = .returned (.agg cs.toArray) ∧ Ext w w'
theorem spansOf_yes {m : List Pt} {x : Pt} {c : Int} (h : x.2 = c) : spansOf (m ++ [x]) c = spansOf m c ++ [x.1] := by
  rw [spansOf_append]; simp [spansOf, h]
theorem spansOf_no {m : List Pt} {x : Pt} {c : Int} (h : ¬ x.2 = c) : spansOf (m ++ [x]) c = spansOf m c := by
  rw [spansOf_append]; simp [spansOf, h]
theorem spansOf_len (m : List Pt) (c : Int) : (spansOf m c).length ≤ m.length := by
  unfold spansOf; rw [List.length_map]; exact List.length_filter_le _ _
theorem arr_size (m : List Pt) (k : Nat) : (Tryz.prog.info? 43).map (·.size) = some (totC m k).toArray.size := by
  have : (Tryz.prog.info? 43).map (·.size) = some 7 := by kernel_rfl
  rw [this]; rfl

/-- An array that is the function's result lies in a block. -/
theorem results_arr {fn : Func} {p : Tmp} (h : fn.results = #[.cell p 43]) (tmps : Array Value) (w : World) (g : Nat) (cs : List Value)
    (hp : tmps.getD p undef = .pointer (some ⟨g, 0, none⟩)) (hb : Bx w g cs 43) (hl : cs.length = 7) : (results fn tmps).run Tryz.prog w = .ok (.agg cs.toArray) w := by
  have hp' : tmps[p]?.getD undef = .pointer (some ⟨g, 0, none⟩) := by simpa using hp
  have hz : (Tryz.prog.info? 43).map (·.size) = some cs.toArray.size := by
    rw [show cs.toArray.size = 7 from by simpa using hl]; kernel_rfl
  have k := run_loadVar_row (P := Tryz.prog) w g 43 43 cs.toArray (0, 0) _ hb Tryz.underlying43 rfl hz
  simp [results, h, hp', asAddr]
  exact k

set_option maxRecDepth 100000 in
set_option maxHeartbeats 2000000 in
theorem pTotals {w : World} {A : Option Addr} {m : List Pt} (h : Ps w A m) (hl : m.length ≤ 90000000) (hs : ∀ c, (spansOf m c).length ≤ 900000) (c : Nat) :
    Calls Tryz.prog 20 #[.slice A m.length c] w (RetA w (totC m 7)) := by
  have hb := Bx.new w [.int .i64 0, .int .i64 0, .int .i64 0, .int .i64 0, .int .i64 0, .int .i64 0, .int .i64 0] 43
  rw [← totC_zero m] at hb
  have hb0 := Lib.hid hb
  have X0 := Lib.hid ((Ext.refl w).alloc (.cells (totC m 0).toArray 43))
  have hz : (w.alloc (.cells (totC m 0).toArray 43)).heap.size = w.heap.size + 1 := by simp
  have eW : Hid ((.cells (totC m 0).toArray 43 : Obj) = .cells #[.int .i64 0, .int .i64 0, .int .i64 0, .int .i64 0, .int .i64 0, .int .i64 0, .int .i64 0] 43) := by show _ = _; rw [totC_zero]
  replace hs := Lib.hid hs
  have hP := Lib.hid h
  clear hb h
  go_enter Tryz.func20, Tryz.ntmps20
  go_wp2_with fail
  rw [← eW.out]
  obtain ⟨w1, hw1⟩ : ∃ W, w.alloc (.cells (totC m 0).toArray 43) = W := ⟨_, rfl⟩
  rw [hw1] at hb0 X0 hz ⊢
  clear hw1
  go_loopw [7] (fun i wr => ∃ k : Nat, k ≤ 7 ∧ i = .int .i64 k ∧ Hid (Bx wr w.heap.size (totC m k) 43) ∧ Hid (Ext w wr)) (fun i _ => 7 - (intOf i).toNat)
  case atStart => exact ⟨0, by omega, rfl, hb0.out, X0.out⟩
  case round =>
    obtain ⟨k, hk, rfl, HB, HX⟩ := hrel
    generalize wr = wo at *
    by_cases hlt : k < 7
    · have q3 : (k : Int) < 7 := by omega
      have q4 : (0 : Int) ≤ (k : Int) := by omega
      have cZ := HB.out.frozen
      obtain ⟨u, hu⟩ := totC_at m k hlt
      go_wp2_with fail
      go_loopw [4, 12] (fun v i w2 => ∃ (j n : Nat) (A2 : Option Addr) (c2 : Nat), j ≤ m.length ∧ i = .int .i64 j ∧ v = .slice A2 n c2 ∧ Hid (n = (spansOf (m.take j) k).length) ∧ Hid (w2.ownsRow wo.heap.size 49 2 (.slice A2 n c2) n (flat encS (spansOf (m.take j) k))) ∧ Hid (Ext wo w2)) (fun _ i _ => m.length - (intOf i).toNat)
      case atStart => exact ⟨0, 0, none, 0, Nat.zero_le _, rfl, rfl, rfl, own_nil _ _, Ext.refl _⟩
      case round =>
        obtain ⟨j, n, A2, c2, hj, rfl, rfl, HN, HO, HY⟩ := hrel
        by_cases hjt : j < m.length
        · obtain ⟨b, off, p, q, g, rfl, hbB, hx, y0, y1, y2⟩ := hP.out.atG (HX.out.trans HY.out) hjt
          have q5 : (j : Int) < (m.length : Int) := by omega
          have q6 : (0 : Int) ≤ (j : Int) := by omega
          by_cases hg : g = (k : Int)
          · have E : Hid (spansOf (m.take (j + 1)) k = spansOf (m.take j) k ++ [(p, q)]) := by show _ = _; rw [take_snoc hx.out]; exact spansOf_yes hg
            subst hg
            obtain ⟨O, hO⟩ : ∃ O, spansOf (m.take j) k = O := ⟨_, rfl⟩
            rw [hO] at HN HO E
            have hn := HN.out
            subst hn
            have lO : O.length ≤ 90000000 := by rw [← hO]; exact Nat.le_trans (spansOf_len _ _) (by rw [List.length_take]; omega)
            clear hO HN
            have hOa := Lib.hid (HO.out.alloc (.cells #[.int .i64 p, .int .i64 q, .int .i64 k] 47))
            have hYa := Lib.hid (HY.out.alloc (.cells #[.int .i64 p, .int .i64 q, .int .i64 k] 47))
            go_wp2_with (at_builtin; refine app_row wo _ (hYa.out.alloc _) _ _ (by rfl) (by rfl) O.length _ O [(p, q)] (by rfl) (hOa.out.alloc _) rfl (some ⟨wr.heap.size + 1, 0, none⟩) 1 (by rfl) (Rs.new_at (wr.alloc (.cells #[.int .i64 p, .int .i64 q, .int .i64 k] 47)) [(p, q)] _ (wr.heap.size + 1) (by simp)) (by simp; omega) ?_; intro A4 c4 w5 o4 x4; have O4 := Lib.hid o4; have X4 := Lib.hid x4; clear o4 x4)
            rw [← E.out] at O4
            clear HO HY hOa hYa
            go_roundw
            case rel => exact ⟨j + 1, _, A4, c4, by omega, by go_num, by rw [E.out, List.length_append]; rfl, rfl, O4, X4⟩
            case measure => simp [intOf]; omega
          · have hgd : decide (g = (k : Int)) = false := decide_eq_false hg
            have E : Hid (spansOf (m.take (j + 1)) k = spansOf (m.take j) k) := by show _ = _; rw [take_snoc hx.out]; exact spansOf_no hg
            rw [← E.out] at HN HO
            go_wp2_with fail
            go_roundw
            case rel => exact ⟨j + 1, n, A2, c2, by omega, by go_num, rfl, HN, HO.out.alloc _, HY.out.alloc _⟩
            case measure => simp [intOf]; omega
        · obtain rfl : j = m.length := by omega
          rw [List.take_length] at HN HO
          have kS := cSize (Rs.own (by rw [← HN.out]; exact HO.out)) (hs.out k) c2
          rw [← HN.out] at kS
          go_wp2_with fail
          refine kS.mono ?_
          rintro e w3 ⟨rfl, x3⟩
          have hB3 := HB.out.ext (HY.out.trans x3)
          have cc := hB3.cell k u hu
          have zz := hB3.frozen k
          have hB4 : Hid (Bx (w3.setCell ⟨w.heap.size, k, none⟩ (.int .i64 (Sp.size (spansOf m k)))) w.heap.size (totC m (k + 1)) 43) := by
            have := hB3.set_ k (.int .i64 (Sp.size (spansOf m k)))
            rw [totC_set m hlt] at this
            exact this
          have hX4 : Hid (Ext w (w3.setCell ⟨w.heap.size, k, none⟩ (.int .i64 (Sp.size (spansOf m k))))) := (HX.out.trans (HY.out.trans x3)).setCell (p := ⟨w.heap.size, k, none⟩) (Nat.le_refl _) _
          clear HO HN HY hB3
          go_wp2_with fail
          go_roundw
          case rel => exact ⟨k + 1, by omega, by go_num, hB4, hX4⟩
          case measure => simp [intOf]; omega
    · obtain rfl : k = 7 := by omega
      have z0 := HB.out.frozen 0; have z1 := HB.out.frozen 1; have z2 := HB.out.frozen 2; have z3 := HB.out.frozen 3; have z4 := HB.out.frozen 4; have z5 := HB.out.frozen 5; have z6 := HB.out.frozen 6
      have c0 := HB.out.cell 0 _ rfl; have c1 := HB.out.cell 1 _ rfl; have c2' := HB.out.cell 2 _ rfl; have c3 := HB.out.cell 3 _ rfl; have c4 := HB.out.cell 4 _ rfl; have c5 := HB.out.cell 5 _ rfl; have c6 := HB.out.cell 6 _ rfl
      have hB : Hid (Bx wo w.heap.size [.int .i64 (totN m 7 0), .int .i64 (totN m 7 1), .int .i64 (totN m 7 2), .int .i64 (totN m 7 3), .int .i64 (totN m 7 4), .int .i64 (totN m 7 5), .int .i64 (totN m 7 6)] 43) := HB
      go_wp2_with (first | (refine load_box rfl 43 _ rfl _ rfl _ _ hB.out _ Tryz.underlying43 rfl (arr_size m 7) ?_))
      have hB2 : Hid (Bx (((((((wo.setCell ⟨w.heap.size, 0, none⟩ (.int .i64 (totN m 7 0))).setCell ⟨w.heap.size, 1, none⟩ (.int .i64 (totN m 7 1))).setCell ⟨w.heap.size, 2, none⟩ (.int .i64 (totN m 7 2))).setCell ⟨w.heap.size, 3, none⟩ (.int .i64 (totN m 7 3))).setCell ⟨w.heap.size, 4, none⟩ (.int .i64 (totN m 7 4))).setCell ⟨w.heap.size, 5, none⟩ (.int .i64 (totN m 7 5))).setCell ⟨w.heap.size, 6, none⟩ (.int .i64 (totN m 7 6))) w.heap.size [.int .i64 (totN m 7 0), .int .i64 (totN m 7 1), .int .i64 (totN m 7 2), .int .i64 (totN m 7 3), .int .i64 (totN m 7 4), .int .i64 (totN m 7 5), .int .i64 (totN m 7 6)] 43) := (((((((hB.out.set_ 0 (.int .i64 (totN m 7 0))).set_ 1 (.int .i64 (totN m 7 1))).set_ 2 (.int .i64 (totN m 7 2))).set_ 3 (.int .i64 (totN m 7 3))).set_ 4 (.int .i64 (totN m 7 4))).set_ 5 (.int .i64 (totN m 7 5))).set_ 6 (.int .i64 (totN m 7 6)))
      have hX2 : Hid (Ext w (((((((wo.setCell ⟨w.heap.size, 0, none⟩ (.int .i64 (totN m 7 0))).setCell ⟨w.heap.size, 1, none⟩ (.int .i64 (totN m 7 1))).setCell ⟨w.heap.size, 2, none⟩ (.int .i64 (totN m 7 2))).setCell ⟨w.heap.size, 3, none⟩ (.int .i64 (totN m 7 3))).setCell ⟨w.heap.size, 4, none⟩ (.int .i64 (totN m 7 4))).setCell ⟨w.heap.size, 5, none⟩ (.int .i64 (totN m 7 5))).setCell ⟨w.heap.size, 6, none⟩ (.int .i64 (totN m 7 6)))) := (((((((HX.out.setCell (p := ⟨w.heap.size, 0, none⟩) (Nat.le_refl _) (.int .i64 (totN m 7 0))).setCell (p := ⟨w.heap.size, 1, none⟩) (Nat.le_refl _) (.int .i64 (totN m 7 1))).setCell (p := ⟨w.heap.size, 2, none⟩) (Nat.le_refl _) (.int .i64 (totN m 7 2))).setCell (p := ⟨w.heap.size, 3, none⟩) (Nat.le_refl _) (.int .i64 (totN m 7 3))).setCell (p := ⟨w.heap.size, 4, none⟩) (Nat.le_refl _) (.int .i64 (totN m 7 4))).setCell (p := ⟨w.heap.size, 5, none⟩) (Nat.le_refl _) (.int .i64 (totN m 7 5))).setCell (p := ⟨w.heap.size, 6, none⟩) (Nat.le_refl _) (.int .i64 (totN m 7 6)))
      refine bodyPost_ret (results_arr rfl _ _ w.heap.size [.int .i64 (totN m 7 0), .int .i64 (totN m 7 1), .int .i64 (totN m 7 2), .int .i64 (totN m 7 3), .int .i64 (totN m 7 4), .int .i64 (totN m 7 5), .int .i64 (totN m 7 6)] rfl hB2.out rfl) rfl ?_
      exact ⟨rfl, hX2.out⟩
end Go.Proofs.YtnhmibfgaoealaaGreat
namespace Go.Proofs.YtnhmibfgaoealaaGreat
open Go.RowKit BigFrame
set_option linter.unusedVariables false
set_option linter.unusedSimpArgs false

set_option maxRecDepth 100000 in
set_option maxHeartbeats 2000000 in
theorem rSpans {w : World} {A : Option Addr} {m : List Pt} (h : Ps w A m) (hl : m.length ≤ 90000000) (hs : ∀ c, (spansOf m c).length ≤ 900000) (c : Nat) (d : Int) :
    Calls Tryz.prog 29 #[.slice A m.length c, .int .i64 d] w (RetS w (spansOf m d)) := by
  have hP := Lib.hid h
  have hS : Hid (∀ k, (spansOf (m.take k) d).length ≤ 900000) := fun k => by
    refine Nat.le_trans ?_ (hs d)
    unfold spansOf
    rw [List.length_map, List.length_map]
    exact List.Sublist.length_le ((List.take_sublist k m).filter _)
  clear h hs
  go_enter Tryz.func29, Tryz.ntmps29
  go_wp2_with fail
  go_loopw [6, 5] (fun i v wr => ∃ (k n : Nat) (A2 : Option Addr) (c2 : Nat), k ≤ m.length ∧ i = .int .i64 k ∧ v = .slice A2 n c2 ∧ Hid (n = (spansOf (m.take k) d).length) ∧ Hid (wr.ownsRow w.heap.size 49 2 (.slice A2 n c2) n (flat encS (spansOf (m.take k) d))) ∧ Hid (Ext w wr)) (fun i _ _ => m.length - (intOf i).toNat)
  case atStart => exact ⟨0, 0, none, 0, Nat.zero_le _, rfl, rfl, rfl, own_nil _ _, Ext.refl _⟩
  case round =>
    obtain ⟨k, n, A2, c2, hk, rfl, rfl, HN, HO, HX⟩ := hrel
    by_cases hlt : k < m.length
    · obtain ⟨b, off, p, q, g, rfl, hbB, hx, y0, y1, y2⟩ := hP.out.atG HX.out hlt
      have q3 : (k : Int) < (m.length : Int) := by omega
      have q4 : (0 : Int) ≤ (k : Int) := by omega
      have nl : n ≤ 900000 := by rw [HN.out]; exact hS.out k
      by_cases hg : g = d
      · have E : Hid (spansOf (m.take (k + 1)) d = spansOf (m.take k) d ++ [(p, q)]) := by show _ = _; rw [take_snoc hx.out]; exact spansOf_yes hg
        subst hg
        obtain ⟨O, hO⟩ : ∃ O, spansOf (m.take k) g = O := ⟨_, rfl⟩
        rw [hO] at HN HO E
        clear hO
        go_wp2_with fail
        have z0 := (HX.out.cell (p := ⟨b, off + k * 3, none⟩) hbB).symm.trans y0
        have z1 := (HX.out.cell (p := ⟨b, off + k * 3 + 1, none⟩) hbB).symm.trans y1
        go_region_held3 (fun w' => w'.cell? ⟨b, off + k * 3, none⟩ = some (.int .i64 p) ∧ w'.cell? ⟨b, off + k * 3 + 1, none⟩ = some (.int .i64 q)) (first | exact ⟨(x3.cell (p := ⟨b, off + k * 3, none⟩) hbB).trans z0, (x3.cell (p := ⟨b, off + k * 3 + 1, none⟩) hbB).trans z1⟩ | exact ⟨y0, y1⟩ | go_keep) ((refine step_app_one w _ ((HX.out.alloc _).drewN 1) (by rfl) _ _ (by rfl) n _ O (by rfl) (own_drewN (HO.out.alloc _) 1) (p, q) wr.heap.size (by rfl) (Rs.drewN (Rs.new_g wr [(p, q)] _ _ rfl) 1) (by omega) ?_; intro A4 c4 w3 o4 x3))
        clear z0 z1 y0 y1 HO
        rw [← E.out] at o4
        have hm2 : Hid (n + 1 = (spansOf (m.take (k + 1)) g).length) := by show _ = _; rw [E.out, List.length_append, ← HN.out]; rfl
        replace o4 := Lib.hid o4; replace x3 := Lib.hid x3
        go_wp2
        go_roundw
        case rel => exact ⟨k + 1, n + 1, A4, c4, by omega, by go_num, rfl, hm2, o4, x3⟩
        case measure => simp [intOf]; omega
      · have hgd : decide (g = d) = false := decide_eq_false hg
        have E : Hid (spansOf (m.take (k + 1)) d = spansOf (m.take k) d) := by show _ = _; rw [take_snoc hx.out]; exact spansOf_no hg
        rw [← E.out] at HN HO
        go_wp2_with fail
        go_roundw
        case rel => exact ⟨k + 1, n, A2, c2, by omega, by go_num, rfl, HN, HO, HX⟩
        case measure => simp [intOf]; omega
    · obtain rfl : k = m.length := by omega
      rw [List.take_length] at HN HO
      have hn := HN.out
      subst hn
      go_wp2_with fail
      go_ret
      exact ⟨A2, c2, rfl, Rs.own HO.out, HX.out, HO.out⟩

set_option maxRecDepth 100000 in
set_option maxHeartbeats 2000000 in
theorem rTotals {w : World} {A : Option Addr} {m : List Pt} (h : Ps w A m) (hl : m.length ≤ 90000000) (hs : ∀ c, (spansOf m c).length ≤ 900000) (c : Nat) :
    Calls Tryz.prog 21 #[.slice A m.length c] w (RetA w (totC m 7)) := by
  have eW : Hid ((.cells (totC m 0).toArray 43 : Obj) = .cells #[.int .i64 0, .int .i64 0, .int .i64 0, .int .i64 0, .int .i64 0, .int .i64 0, .int .i64 0] 43) := by show _ = _; rw [totC_zero]
  have hb0 := Lib.hid ((Bx.new w (totC m 0) 43).alloc (.cells (totC m 0).toArray 43))
  have hb1 := Lib.hid (Bx.new_at (w.alloc (.cells (totC m 0).toArray 43)) (totC m 0) 43 (w.heap.size + 1) (by simp))
  have X0 := Lib.hid (((Ext.refl w).alloc (.cells (totC m 0).toArray 43)).alloc (.cells (totC m 0).toArray 43))
  have kS := fun (W : World) (X : Ext w W) (d : Int) => rSpans (h.ext X) hl hs c d
  replace kS := Lib.hid kS
  replace hs := Lib.hid hs
  clear h
  go_enter Tryz.func21, Tryz.ntmps21
  go_wp2_with fail
  rw [← eW.out]
  obtain ⟨w1, hw1⟩ : ∃ W, (w.alloc (.cells (totC m 0).toArray 43)).alloc (.cells (totC m 0).toArray 43) = W := ⟨_, rfl⟩
  rw [hw1] at hb0 hb1 X0 ⊢
  clear hw1
  go_loopw [4] (fun i wr => ∃ k : Nat, k ≤ 7 ∧ i = .int .i64 k ∧ Hid (Bx wr w.heap.size (totC m 0) 43) ∧ Hid (Bx wr (w.heap.size + 1) (totC m k) 43) ∧ Hid (Ext w wr)) (fun i _ => 7 - (intOf i).toNat)
  case atStart => exact ⟨0, by omega, rfl, hb0.out, hb1.out, X0.out⟩
  case round =>
    obtain ⟨k, hk, rfl, HB0, HB, HX⟩ := hrel
    by_cases hlt : k < 7
    · have q3 : (k : Int) < 7 := by omega
      have q4 : (0 : Int) ≤ (k : Int) := by omega
      obtain ⟨u, hu⟩ := totC_at m k hlt
      go_wp2_with fail
      refine (kS.out _ HX.out k).mono ?_
      rintro e w2 ⟨A2, c2, rfl, r2, x2, _⟩
      go_wp2_with fail
      refine (rSize r2 (hs.out k) c2).mono ?_
      rintro e w3 ⟨rfl, x3⟩
      have hB3 := HB.out.ext (x2.trans x3)
      have cc := hB3.cell k u hu
      have zz := hB3.frozen k
      have hB4 : Hid (Bx (w3.setCell ⟨w.heap.size + 1, k, none⟩ (.int .i64 (Sp.size (spansOf m k)))) (w.heap.size + 1) (totC m (k + 1)) 43) := by
        have := hB3.set_ k (.int .i64 (Sp.size (spansOf m k)))
        rw [totC_set m hlt] at this
        exact this
      have hB5 : Hid (Bx (w3.setCell ⟨w.heap.size + 1, k, none⟩ (.int .i64 (Sp.size (spansOf m k)))) w.heap.size (totC m 0) 43) :=
        (Below.heap_setCell _ _ _ w.heap.size (by simp)).trans (HB0.out.ext (x2.trans x3))
      have hX4 : Hid (Ext w (w3.setCell ⟨w.heap.size + 1, k, none⟩ (.int .i64 (Sp.size (spansOf m k))))) := (HX.out.trans (x2.trans x3)).setCell (p := ⟨w.heap.size + 1, k, none⟩) (by show w.heap.size ≤ w.heap.size + 1; omega) _
      clear r2 x2 x3 hB3
      go_wp2_with fail
      go_roundw
      case rel => exact ⟨k + 1, by omega, by go_num, hB5, hB4, hX4⟩
      case measure => simp [intOf]; omega
    · obtain rfl : k = 7 := by omega
      have z0 := HB0.out.frozen 0; have z1 := HB0.out.frozen 1; have z2 := HB0.out.frozen 2; have z3 := HB0.out.frozen 3; have z4 := HB0.out.frozen 4; have z5 := HB0.out.frozen 5; have z6 := HB0.out.frozen 6
      have c0 := HB0.out.cell 0 _ rfl; have c1 := HB0.out.cell 1 _ rfl; have c2' := HB0.out.cell 2 _ rfl; have c3 := HB0.out.cell 3 _ rfl; have c4 := HB0.out.cell 4 _ rfl; have c5 := HB0.out.cell 5 _ rfl; have c6 := HB0.out.cell 6 _ rfl
      have hB : Hid (Bx wr (w.heap.size + 1) [.int .i64 (totN m 7 0), .int .i64 (totN m 7 1), .int .i64 (totN m 7 2), .int .i64 (totN m 7 3), .int .i64 (totN m 7 4), .int .i64 (totN m 7 5), .int .i64 (totN m 7 6)] 43) := HB
      go_wp2_with (first | (refine load_box rfl 43 _ rfl _ rfl _ _ hB.out _ Tryz.underlying43 rfl (arr_size m 7) ?_))
      have hB2 : Hid (Bx (((((((wr.setCell ⟨w.heap.size, 0, none⟩ (.int .i64 (totN m 7 0))).setCell ⟨w.heap.size, 1, none⟩ (.int .i64 (totN m 7 1))).setCell ⟨w.heap.size, 2, none⟩ (.int .i64 (totN m 7 2))).setCell ⟨w.heap.size, 3, none⟩ (.int .i64 (totN m 7 3))).setCell ⟨w.heap.size, 4, none⟩ (.int .i64 (totN m 7 4))).setCell ⟨w.heap.size, 5, none⟩ (.int .i64 (totN m 7 5))).setCell ⟨w.heap.size, 6, none⟩ (.int .i64 (totN m 7 6))) w.heap.size [.int .i64 (totN m 7 0), .int .i64 (totN m 7 1), .int .i64 (totN m 7 2), .int .i64 (totN m 7 3), .int .i64 (totN m 7 4), .int .i64 (totN m 7 5), .int .i64 (totN m 7 6)] 43) := (Bx.set_ (Bx.set_ (Bx.set_ (Bx.set_ (Bx.set_ (Bx.set_ (Bx.set_ HB0.out 0 (.int .i64 (totN m 7 0))) 1 (.int .i64 (totN m 7 1))) 2 (.int .i64 (totN m 7 2))) 3 (.int .i64 (totN m 7 3))) 4 (.int .i64 (totN m 7 4))) 5 (.int .i64 (totN m 7 5))) 6 (.int .i64 (totN m 7 6)))
      have hX2 : Hid (Ext w (((((((wr.setCell ⟨w.heap.size, 0, none⟩ (.int .i64 (totN m 7 0))).setCell ⟨w.heap.size, 1, none⟩ (.int .i64 (totN m 7 1))).setCell ⟨w.heap.size, 2, none⟩ (.int .i64 (totN m 7 2))).setCell ⟨w.heap.size, 3, none⟩ (.int .i64 (totN m 7 3))).setCell ⟨w.heap.size, 4, none⟩ (.int .i64 (totN m 7 4))).setCell ⟨w.heap.size, 5, none⟩ (.int .i64 (totN m 7 5))).setCell ⟨w.heap.size, 6, none⟩ (.int .i64 (totN m 7 6)))) := (((((((HX.out.setCell (p := ⟨w.heap.size, 0, none⟩) (Nat.le_refl _) (.int .i64 (totN m 7 0))).setCell (p := ⟨w.heap.size, 1, none⟩) (Nat.le_refl _) (.int .i64 (totN m 7 1))).setCell (p := ⟨w.heap.size, 2, none⟩) (Nat.le_refl _) (.int .i64 (totN m 7 2))).setCell (p := ⟨w.heap.size, 3, none⟩) (Nat.le_refl _) (.int .i64 (totN m 7 3))).setCell (p := ⟨w.heap.size, 4, none⟩) (Nat.le_refl _) (.int .i64 (totN m 7 4))).setCell (p := ⟨w.heap.size, 5, none⟩) (Nat.le_refl _) (.int .i64 (totN m 7 5))).setCell (p := ⟨w.heap.size, 6, none⟩) (Nat.le_refl _) (.int .i64 (totN m 7 6)))
      refine bodyPost_ret (results_arr rfl _ _ w.heap.size [.int .i64 (totN m 7 0), .int .i64 (totN m 7 1), .int .i64 (totN m 7 2), .int .i64 (totN m 7 3), .int .i64 (totN m 7 4), .int .i64 (totN m 7 5), .int .i64 (totN m 7 6)] rfl hB2.out rfl) rfl ?_
      exact ⟨rfl, hX2.out⟩

theorem neqP (p q c p' q' c' : Int) (w : World) : (binOp .neq 47 (.agg #[.int .i64 p, .int .i64 q, .int .i64 c]) (.agg #[.int .i64 p', .int .i64 q', .int .i64 c'])).run Tryz.prog w = .ok (.bool (!(p == p' && (q == q' && c == c')))) w := by
  have u3 := Tryz.underlying3
  have a3 := Tryz.isAgg3
  have z3 := Tryz.sizeOf3
  have hS : Tryz.prog.underlying 47 = some (.struct (Tryz.prog.fieldsOf 47)) := by kernel_rfl
  have hp : Tryz.prog.stoodInHeld 47 = false := by kernel_rfl
  rw [run_neq_struct, show (10000 : Nat) = 9999 + 1 from rfl, run_equalIn_agg w 9999 47 _ _ hS hp]
  simp only [Program.fieldsOf, Tryz.underlying47]
  go_simp
  by_cases h1 : p = p' <;> by_cases h2 : q = q' <;> by_cases h3 : c = c' <;> simp [h1, h2, h3]

theorem eqGuardP : Tryz.prog.eqGuardType Tryz.prog.depth 47 = false := by kernel_rfl

set_option maxRecDepth 100000 in
set_option maxHeartbeats 1000000 in
theorem rSameP {w : World} {A1 A2 : Option Addr} {l m : List Pt} (h1 : Ps w A1 l) (h2 : Ps w A2 m) (l1 : l.length ≤ 4000000000000) (c1 c2 : Nat) :
    Calls Tryz.prog 17 #[.slice A1 l.length c1, .slice A2 m.length c2] w (RetB w (decide (l = m))) := by
  by_cases hlen : l.length = m.length
  · obtain ⟨R, hR⟩ : ∃ R, R = decide (l = m) := ⟨_, rfl⟩
    rw [← hR]
    have HR := Lib.hid hR; clear hR
    have hl0 : ((l.length : Int) == (m.length : Int)) = true := by simp [hlen]
    have hl1 : ((l.length : Int) != (m.length : Int)) = false := by simp [hlen]
    have HL := Lib.hid hlen
    have H1 := Lib.hid h1; have H2 := Lib.hid h2; clear h1 h2 hlen
    go_enter Tryz.func17, Tryz.ntmps17
    go_wp2
    clear hl0 hl1
    go_loopw [5] (fun i wr => ∃ k : Nat, k ≤ l.length ∧ i = .int .i64 k ∧ Hid (l.take k = m.take k) ∧ Below w.heap.size w wr) (fun i _ => l.length - (intOf i).toNat)
    case atStart => exact ⟨0, Nat.zero_le _, rfl, (rfl : _ = _), Below.refl _ _⟩
    case round =>
      obtain ⟨k, hk, rfl, hsame, hb⟩ := hrel
      have HB := Lib.hid hb
      by_cases hlt : k < l.length
      · have hlt2 : k < m.length := by rw [← HL.out]; exact hlt
        obtain ⟨b, off, p, q, c, rfl, hbB, hx, d0, d1, d2⟩ := H1.out.atG hb hlt
        obtain ⟨b', off', p', q', c', rfl, hbB', hx', d0', d1', d2'⟩ := H2.out.atG hb hlt2
        clear hb
        have hg := eqGuardP
        by_cases he : p = p' ∧ q = q' ∧ c = c'
        · have hq : (!(p == p' && (q == q' && c == c'))) = false := by simp [he.1, he.2.1, he.2.2]
          have hrun := fun w => neqP p q c p' q' c' w
          rw [hq] at hrun
          have hs2 : Hid (l.take (k + 1) = m.take (k + 1)) := by show _ = _; rw [take_snoc hx.out, take_snoc hx'.out, hsame.out, he.1, he.2.1, he.2.2]
          clear he
          go_wp2_with fail
          go_quiet (fail)
          go_wp2
          go_roundw
          case rel => exact ⟨k + 1, by omega, by go_num, hs2.out, below_drewN HB.out _⟩
          case measure => simp [intOf]; omega
        · have hq : (!(p == p' && (q == q' && c == c'))) = true := by
            cases h1 : (p == p' && (q == q' && c == c'))
            · rfl
            · simp at h1; exact absurd h1 he
          have hrun := fun w => neqP p q c p' q' c' w
          rw [hq] at hrun
          have hRf : R = false := by
            rw [HR.out]
            refine decide_eq_false fun h => he ?_
            rw [h, hx'.out] at hx
            have := hx.out
            injection this with this
            injection this with e1 e2
            injection e1 with e3 e4
            exact ⟨e3.symm, e4.symm, e2.symm⟩
          subst hRf
          clear he HR
          go_wp2_with fail
          go_quiet (fail)
          go_wp2
          go_ret
          exact ⟨rfl, below_drewN HB.out _⟩
      · obtain rfl : k = l.length := by omega
        have hRt : R = true := by
          rw [HR.out]
          refine decide_eq_true ?_
          have := hsame.out
          rw [List.take_length, HL.out, List.take_length] at this
          exact this
        subst hRt
        clear HR hb
        go_wp2
        go_ret
        exact ⟨rfl, HB.out⟩
  · have hR : decide (l = m) = false := decide_eq_false fun h => hlen (by rw [h])
    rw [hR]
    have hl0 : ((l.length : Int) == (m.length : Int)) = false := by simp; omega
    have hl1 : ((l.length : Int) != (m.length : Int)) = true := by simp; omega
    clear h1 h2 hlen hR
    go_enter Tryz.func17, Tryz.ntmps17
    go_wp2
    go_ret
    exact ⟨rfl, Below.refl _ _⟩
end Go.Proofs.YtnhmibfgaoealaaGreat
namespace Go.Proofs.YtnhmibfgaoealaaGreat
open Go.RowKit BigFrame
set_option linter.unusedVariables false
set_option linter.unusedSimpArgs false

theorem addP_snoc (o l : List Pt) (x : Pt) : addP o (l ++ [x]) = insP (addP o l) x := by simp [addP]
theorem insP_len (o : List Pt) (x : Pt) : (insP o x).length = o.length + 1 := by rw [(insP_perm o x).length_eq]; simp
theorem addP_len (o l : List Pt) : (addP o l).length = o.length + l.length := by rw [(addP_perm l o).length_eq]; simp
theorem insP_at {o : List Pt} {x : Pt} {j : Nat} (h1 : ∀ y ∈ o.take j, y.1.1 < x.1.1) (h2 : ∀ y, o[j]? = some y → ¬ y.1.1 < x.1.1) : insP o x = (o.take j ++ [x]) ++ o.drop j := by
  induction o generalizing j with
  | nil => simp [insP]
  | cons y r ih =>
    cases j with
    | zero =>
      have : ¬ y.1.1 < x.1.1 := h2 y rfl
      simp [insP, List.takeWhile_cons, List.dropWhile_cons, this]
    | succ n =>
      have hy : y.1.1 < x.1.1 := h1 y (by simp)
      have := ih (j := n) (fun z hz => h1 z (by simp [hz])) (fun z hz => h2 z (by simpa using hz))
      have e : insP (y :: r) x = y :: insP r x := by simp [insP, List.takeWhile_cons, List.dropWhile_cons, hy]
      rw [e, this]; simp
theorem take_lt {o : List Pt} {p : Int} {j : Nat} {y : Pt} (h : ∀ y ∈ o.take j, y.1.1 < p) (hy : o[j]? = some y) (hlt : y.1.1 < p) : ∀ y ∈ o.take (j + 1), y.1.1 < p := by
  rw [take_snoc hy]
  intro z hz
  rcases List.mem_append.1 hz with hz | hz
  · exact h z hz
  · simp at hz; subst hz; exact hlt

theorem Ps.take {w : World} {A : Option Addr} {l : List Pt} (h : Ps w A l) (j : Nat) : Ps w A (l.take j) := fun hne => by
  obtain ⟨b, off, hA, hb, hc⟩ := h (by intro e; rw [e] at hne; simp at hne)
  refine ⟨b, off, hA, hb, fun i hi k u hu => ?_⟩
  have hi2 : i < l.length := by rw [List.length_take] at hi; omega
  rw [List.getElem_take] at hu
  exact hc i hi2 k u hu
theorem addr_add (b off n : Nat) : (⟨b, off, none⟩ : Addr).add n = ⟨b, off + n, none⟩ := by
  unfold Addr.add
  split
  · rename_i h; subst h; rfl
  · rfl
theorem Ps.drop {w : World} {A : Option Addr} {l : List Pt} (h : Ps w A l) {j c : Nat} (hc : l.length ≤ c) : Ps w (if c = j then A else A.map (·.add (j * 3))) (l.drop j) := fun hne => by
  have hj : j < l.length := by
    rcases Nat.lt_or_ge j l.length with h1 | h1
    · exact h1
    · rw [List.drop_eq_nil_of_le h1] at hne; exact absurd rfl hne
  obtain ⟨b, off, hA, hb, hcc⟩ := h (by intro e; rw [e] at hj; simp at hj)
  refine ⟨b, off + j * 3, ?_, hb, fun i hi k u hu => ?_⟩
  · rw [if_neg (by omega), hA, Option.map_some, addr_add]
  · have hi2 : j + i < l.length := by rw [List.length_drop] at hi; omega
    rw [List.getElem_drop] at hu
    have := hcc (j + i) hi2 k u hu
    rw [show off + j * 3 + i * 3 + k = off + (j + i) * 3 + k from by omega]
    exact this

/-- A slice of parts put behind a row of the call's own. -/
theorem wp_app_parts {o : Oper} {a : Act} {K : Act → World → Prop} {Q : Exit → Act → World → Prop} (w0 w : World) (X : Ext w0 w) (s x : Operand)
    (ho : o.op = .call { callee := .builtin .append, args := #[s, x], argTypes := #[40, 40] })
    (n : Nat) (v : Value) (l m : List Pt) (hs : a.eval s = v) (hown : w.ownsRow w0.heap.size 47 3 v n (flat encP l)) (A : Option Addr) (c k : Nat)
    (hx : a.eval x = .slice A k c) (hk : k = m.length) (hm : Ps w A m) (hn : n + m.length ≤ 100000000) (r : Nat) (hr : r = n + k)
    (h : ∀ A' cap' w', w'.ownsRow w0.heap.size 47 3 (.slice A' r cap') r (flat encP (l ++ m)) → Ext w0 w' → w.grownBy w' v.ownBlock → K (a.put o.dst (.slice A' r cap')) w') : o.wp Tryz.prog a w K Q := by
  subst hr
  subst hk
  obtain ⟨i0, hi, hz0, hz1, hz2⟩ := info_parts info_part
  have hbase : w0.heap.size ≤ w.heap.size := X.size
  have one : ∀ u ∈ flat encP m, u.oneCell' = true := by
    intro u hu
    simp only [flat, List.mem_flatMap] at hu
    obtain ⟨y, _, hy⟩ := hu
    simp [encP] at hy
    rcases hy with rfl | rfl | rfl <;> rfl
  rcases A with _ | ad
  · have hm0 : m = [] := by
      cases m with
      | nil => rfl
      | cons y r => obtain ⟨b, off, h0, _⟩ := hm (by simp); cases h0
    subst hm0
    have hrun := run_append_none (P := Tryz.prog) w w0.heap.size 40 o.type 47 i0 3 Tryz.underlying40 hi v n (flat encP l) hown c
    unfold Oper.wp execOp
    simp only [ho, resolve, invoke, builtin, Sem.run_bind, Sem.run_pure, Result.andThen_ok, List.map_toArray, List.map_cons, List.map_nil, hs, hx, List.length_nil, hrun]
    obtain ⟨A', cap', hv, _⟩ := own_form hown
    subst hv
    exact h A' cap' w (by rw [List.append_nil]; exact hown) X (World.grownBy.refl w _)
  · refine wp_append_at w s x 40 ho w0.heap.size 47 i0 (.agg #[.int .i64 0, .int .i64 0, .int .i64 0]) 3 24 Tryz.underlying40 hi hz0 hz1 hz2 rfl (by decide) v n (flat encP l) hs hown ad m.length c (flat encP m) hx (flat_length encP_len m) ?_ one (by unfold maxLen; omega) (by omega) hbase ?_
    · intro j u hj
      have hjl : j < m.length * 3 := by rw [← flat_length encP_len]; exact (List.getElem?_eq_some_iff.1 hj).1
      have hd : j / 3 < m.length := by omega
      obtain ⟨b, off, hA, _, hc⟩ := hm (by rintro rfl; simp at hjl)
      cases hA
      have hf := flat_at encP_len m (j / 3) hd (j % 3) (by omega)
      rw [show j / 3 * 3 + j % 3 = j from by omega, hj] at hf
      have := hc (j / 3) hd (j % 3) u hf.symm
      rw [show off + j / 3 * 3 + j % 3 = off + j from by omega] at this
      rw [addr_add]; exact this
    · intro v' w' ho' hg _
      obtain ⟨A', cap', hv, _⟩ := own_form ho'
      subst hv
      exact h A' cap' w' (by rw [flat_append]; exact ho') (Below.grown X hg hbase fun g hg' => (hown.lt g hg').1) hg
theorem app_parts {ops : Array Oper} {rest : List Oper} {o : Oper} {a : Act} {Q : Exit → Act → World → Prop} (w0 w : World) (X : Ext w0 w) (s x : Operand) (hgd : Region.wanted o (yielded ops a.tmps) = true)
    (ho : o.op = .call { callee := .builtin .append, args := #[s, x], argTypes := #[40, 40] })
    (n : Nat) (v : Value) (l m : List Pt) (hs : a.eval s = v) (hown : w.ownsRow w0.heap.size 47 3 v n (flat encP l)) (A : Option Addr) (c k : Nat)
    (hx : a.eval x = .slice A k c) (hk : k = m.length) (hm : Ps w A m) (hn : n + m.length ≤ 100000000) (r : Nat) (hr : r = n + k)
    (h : ∀ A' cap' w', w'.ownsRow w0.heap.size 47 3 (.slice A' r cap') r (flat encP (l ++ m)) → Ext w0 w' → w.grownBy w' v.ownBlock → wpList Tryz.prog ops Q rest (a.put o.dst (.slice A' r cap')) w') : wpList Tryz.prog ops Q (o :: rest) a w := by
  refine wpList_step fun K hK => ?_
  rw [if_pos hgd]
  exact wp_app_parts w0 w X s x ho n v l m hs hown A c k hx hk hm hn r hr fun A' cap' w' h1 h2 h3 => hK _ _ (h A' cap' w' h1 h2 h3)
theorem own_emptyP (w : World) (b : Nat) (hb : b ≤ w.heap.size) : (w.alloc (.cells #[] 47)).ownsRow b 47 3 (.slice (some ⟨w.heap.size, 0, none⟩) 0 0) 0 (flat encP []) :=
  ⟨rfl, .inr ⟨w.heap.size, 0, #[], rfl, hb, heap_alloc_new w _, Nat.le_refl _, Nat.zero_le _, rfl, rfl⟩⟩

theorem Ps.moved {w w' : World} {A : Option Addr} {l : List Pt} {row : Option Nat} (h : Ps w A l) (hg : w.grownBy w' row) (hne : ∀ b off, A = some ⟨b, off, none⟩ → some b ≠ row) : Ps w' A l := fun hl => by
  obtain ⟨b, off, hA, hb, hc⟩ := h hl
  exact ⟨b, off, hA, Nat.lt_of_lt_of_le hb hg.size, fun j hj i u hu => hg.cell (hc j hj i u hu) (hne b off hA)⟩
theorem Ps.over {w w1 w' : World} {A : Option Addr} {l : List Pt} {g : Nat} (h : Ps w A l) (X : Ext w w1) (hg : w1.grownBy w' (some g)) (hgg : w.heap.size ≤ g) : Ps w' A l := fun hl => by
  obtain ⟨b, off, hA, hb, hc⟩ := h hl
  obtain ⟨b2, off2, hA2, _, hc2⟩ := (h.ext X) hl
  rw [hA] at hA2; cases hA2
  exact ⟨b, off, hA, Nat.lt_of_lt_of_le hb (Nat.le_trans X.size hg.size), fun j hj i u hu => hg.cell (hc2 j hj i u hu) (by intro e; have e2 : b = g := (by simpa using e); omega)⟩
theorem slice_lo {A : Option Addr} {O : List Pt} {c j : Nat} (hj : j ≤ O.length) (hc : O.length ≤ c) : ∃ A' c' nD, Hid (nD = (O.drop j).length) ∧ (∀ w : World, (Instr.sliceAt 40 (.slice A O.length c) (some (.int .i64 j)) none none).run Tryz.prog w = .ok (.slice A' nD c') w) ∧ ∀ w, Ps w A O → Ps w A' (O.drop j) := by
  have ht : Tryz.prog.underlying 40 = some (.slice (Tryz.prog.elem 40)) := by kernel_rfl
  have hs : ∀ w : World, (sizeOf (Tryz.prog.elem 40)).run Tryz.prog w = .ok 3 w := fun w => by kernel_rfl
  refine ⟨if c = j then A else A.map (·.add (j * 3)), c - j, (O.drop j).length, (rfl : _ = _), fun w => ?_, fun w h => h.drop hc⟩
  rw [run_sliceAt_slice (h := ht), run_slice_l (ht := ht) (h0 := by omega) (h1 := by omega), hs w]
  simp [Result.andThen, sliced]
theorem slice_hi {A : Option Addr} {O : List Pt} {c j : Nat} (hj : j ≤ O.length) (hc : O.length ≤ c) : ∃ A' nT, Hid (nT = (O.take j).length) ∧ (∀ w : World, (Instr.sliceAt 40 (.slice A O.length c) none (some (.int .i64 j)) none).run Tryz.prog w = .ok (.slice A' nT c) w) ∧ ∀ w, Ps w A O → Ps w A' (O.take j) := by
  have ht : Tryz.prog.underlying 40 = some (.slice (Tryz.prog.elem 40)) := by kernel_rfl
  have hs : ∀ w : World, (sizeOf (Tryz.prog.elem 40)).run Tryz.prog w = .ok 3 w := fun w => by kernel_rfl
  have hm : (O.take j).length = j := by rw [List.length_take]; omega
  refine ⟨if c = 0 then A else A.map (·.add (0 * 3)), (O.take j).length, (rfl : _ = _), fun w => ?_, fun w h => ?_⟩
  · rw [run_sliceAt_slice (h := ht), run_slice_h (ht := ht) (h0 := by omega) (h2 := by omega), hs w, hm]
    simp [Result.andThen, sliced]
  · have e : (if c = 0 then A else A.map (·.add (0 * 3))) = A := by
      split
      · rfl
      · cases A with
        | none => rfl
        | some a => simp [Addr.add]
    rw [e]; exact h.take j
theorem slice_at {ops : Array Oper} {rest : List Oper} {o : Oper} {a : Act} {w : World} {Q : Exit → Act → World → Prop} (hgd : Region.wanted o (yielded ops a.tmps) = true) (x y : Operand) (ty : TypeId) (ho : o.op = .slice ty x (some y) none none)
    (v u r : Value) (hx : a.eval x = v) (hy : a.eval y = u) (hrun : ∀ w, (Instr.sliceAt ty v (some u) none none).run Tryz.prog w = .ok r w) (h : wpList Tryz.prog ops Q rest (a.put o.dst r) w) : wpList Tryz.prog ops Q (o :: rest) a w := by
  refine wpList_step fun K hK => ?_
  rw [if_pos hgd]
  unfold Oper.wp execOp
  simp only [ho, Option.map_some, Option.map_none, hx, hy, Sem.run_bind, hrun, Result.andThen_ok, Sem.run_pure]
  exact hK _ _ h
theorem held_slice {ops : Array Oper} {Q : Exit → Act → World → Prop} {S : World → Prop} {i fuel : Nat} {o : Oper} {listed : Array Bool} {a : Act} {w : World} (hi : ops[i]? = some o) (hs : Region.noSelect ops = true) (hf : Region.free .any ops listed i = true) (hr : (Region.ready .any ops listed).contains i = true)
    (hw : Region.wanted o (yielded ops a.tmps) = true) (x y : Operand) (ty : TypeId) (ho : o.op = .slice ty x none (some y) none) (v u r : Value) (hx : a.eval x = v) (hy : a.eval y = u)
    (hrun : ∀ w, (Instr.sliceAt ty v none (some u) none).run Tryz.prog w = .ok r w) (hS : S w) (a' : Act) (ha : a.put o.dst r = a')
    (h : wpAnyH Tryz.prog .any ops (NoPanic Q) S fuel (listed.setIfInBounds i true) a' w) : wpAnyH Tryz.prog .any ops (NoPanic Q) S (fuel + 1) listed a w :=
  wpAnyH_take hi hs hf hr (fun _ _ _ h => h) (.inl ⟨hw, fun w _ => by
    unfold execOp
    simp only [ho, Option.map_some, Option.map_none, hx, hy, Sem.run_bind, hrun, Result.andThen_ok, Sem.run_pure]⟩) hS (ha ▸ h)

set_option maxRecDepth 100000 in
set_option maxHeartbeats 4000000 in
theorem rAdd {w : World} {A1 A2 : Option Addr} {o : List Pt} {l : List Sp.S} (h1 : Ps w A1 o) (h2 : Rs w A2 l) (bo : o.length ≤ 10000000) (bl : l.length ≤ 10000000) (c1 c2 : Nat) (hc1 : o.length ≤ c1) (cat : Int) :
    Calls Tryz.prog 54 #[.slice A1 o.length c1, .slice A2 l.length c2, .int .i64 cat] w (fun e w' => ∃ A c, (addP o (tag cat l)).length ≤ c ∧ e = .returned (.slice A (addP o (tag cat l)).length c) ∧ Ps w' A (addP o (tag cat l)) ∧ Ext w w') := by
  have H1 := Lib.hid h1; have H2 := Lib.hid h2
  clear h1 h2
  go_enter Tryz.func54, Tryz.ntmps54
  go_wp2_with fail
  go_loopw [0, 7] (fun v i wr => ∃ (k c : Nat) (O : List Pt) (A : Option Addr), k ≤ l.length ∧ i = .int .i64 k ∧ v = .slice A O.length c ∧ O.length ≤ c ∧ Hid (O = addP o (tag cat (l.take k))) ∧ Hid (Ps wr A O) ∧ Hid (Ext w wr)) (fun _ i _ => l.length - (intOf i).toNat)
  case atStart => exact ⟨0, c1, o, A1, Nat.zero_le _, rfl, rfl, hc1, (by show _ = _; simp [tag, addP]), H1.out, Ext.refl _⟩
  case round =>
    clear H1
    obtain ⟨k, c, O, A, hk, rfl, rfl, hcO, HO, HP, HX⟩ := hrel
    by_cases hlt : k < l.length
    · obtain ⟨b, off, p, q, rfl, hbB, hx, y0, y1⟩ := Rd.atS H2.out HX.out hlt
      have q3 : (k : Int) < (l.length : Int) := by omega
      have q4 : (0 : Int) ≤ (k : Int) := by omega
      have bO : O.length ≤ 20000000 := by rw [HO.out, addP_len, tag_len, List.length_take]; omega
      have E : Hid (addP o (tag cat (l.take (k + 1))) = insP O ((p, q), cat)) := by show _ = _; rw [take_snoc hx.out, tag_snoc, addP_snoc, ← HO.out]
      have u0 : Hid (w.cell? ⟨b, off + k * 2, none⟩ = some (.int .i64 p)) := (HX.out.cell (p := ⟨b, off + k * 2, none⟩) hbB).symm.trans y0
      have u1 : Hid (w.cell? ⟨b, off + k * 2 + 1, none⟩ = some (.int .i64 q)) := (HX.out.cell (p := ⟨b, off + k * 2 + 1, none⟩) hbB).symm.trans y1
      clear HO
      generalize wr = wo at *
      have hbo : b < wo.heap.size := Nat.lt_of_lt_of_le hbB HX.out.size
      go_wp2_with fail
      go_loopw [8] (fun i wr => ∃ j : Nat, j ≤ O.length ∧ i = .int .i64 j ∧ Hid (∀ y ∈ O.take j, y.1.1 < p) ∧ Hid (Ext wo wr)) (fun i _ => O.length - (intOf i).toNat)
      case atStart => exact ⟨0, Nat.zero_le _, rfl, (by show ∀ y ∈ O.take 0, y.1.1 < p; simp), Ext.refl _⟩
      case round =>
        obtain ⟨j, hj, rfl, HT, HY⟩ := hrel
        have z0 := (HY.out.cell (p := ⟨b, off + k * 2, none⟩) hbo).trans y0
        have z1 := (HY.out.cell (p := ⟨b, off + k * 2 + 1, none⟩) hbo).trans y1
        have r4 : (0 : Int) ≤ (j : Int) := by omega
        by_cases hjt : j < O.length
        · obtain ⟨b', off', p', q', g', rfl, hbB', hx', y0', y1', y2'⟩ := HP.out.atG HY.out hjt
          have r3 : (j : Int) < (O.length : Int) := by omega
          have r5 : decide ((j : Int) < (O.length : Int)) = true := decide_eq_true r3
          by_cases hpp : p' < p
          · have hd : decide (p' < p) = true := decide_eq_true hpp
            have HT2 : Hid (∀ y ∈ O.take (j + 1), y.1.1 < p) := take_lt HT.out hx'.out hpp
            go_wp2_with fail
            go_quiet (fail)
            go_wp2
            go_roundw
            case rel => exact ⟨j + 1, by omega, by go_num, HT2, HY.out.drewN _⟩
            case measure => simp [intOf]; omega
          · have hd : decide (p' < p) = false := decide_eq_false hpp
            have hI : Hid (insP O ((p, q), cat) = (O.take j ++ [((p, q), cat)]) ++ O.drop j) := insP_at HT.out (fun y hy => by rw [hx'.out] at hy; cases hy; exact hpp)
            have XW := Lib.hid (HX.out.trans HY.out)
            obtain ⟨As, cs, nD, hnD, sl, hsl⟩ := slice_lo (A := some ⟨b', off', none⟩) (O := O) (c := c) (j := j) (by omega) hcO
            have HD := Lib.hid (hsl wr (HP.out.ext HY.out))
            have HPr := Lib.hid (HP.out.ext HY.out)
            clear hsl
            go_wp2_with fail
            go_quiet (fail)
            have XQ := Lib.hid ((XW.out.drewN nq).alloc (.cells #[] 47))
            have XR : Hid (Ext wr ((wr.drewN nq).alloc (.cells #[] 47))) := ((Ext.refl wr).drewN nq).alloc _
            have HDQ := Lib.hid ((HD.out.drewN nq).alloc (.cells #[] 47))
            have HOQ := Lib.hid (own_emptyP (wr.drewN nq) w.heap.size (XW.out.drewN nq).size)
            have hcO' := hcO
            clear XW HD HP HY y0 y1 z0 z1
            go_wp2_with (first | (refine slice_at rfl _ _ 40 rfl _ _ _ rfl rfl sl ?_) | (at_builtin; go_loud (refine app_parts w _ XQ.out _ _ (by rfl) (by rfl) 0 _ [] (O.drop j) (by rfl) HOQ.out As cs nD (by rfl) hnD.out HDQ.out (by simp; omega) nD (by simp) ?_; intro A7 c7 w7 o7 x7 g7; have HD7 : Hid (Ps w7 A7 (O.drop j)) := Rd.of_own' encP_len o7 hnD.out; have HP7 : Hid (Ps w7 (some ⟨b', off', none⟩) O) := HPr.out.over XR.out g7 (Nat.le_refl _); have XW7 := Lib.hid x7; clear o7 x7 g7)))
            clear XQ XR HDQ HOQ HPr sl
            have hb7 := Lib.hid (Nat.lt_of_lt_of_le hbB XW7.out.size)
            have t0 := (XW7.out.cell (p := ⟨b, off + k * 2, none⟩) hbB).trans u0.out
            have t1 := (XW7.out.cell (p := ⟨b, off + k * 2 + 1, none⟩) hbB).trans u1.out
            have HS : Hid (Ext w7 (w7.drewN 1)) := (Ext.refl w7).drewN 1
            obtain ⟨Ah, nT, hnT, sh, hAh⟩ := slice_hi (A := some ⟨b', off', none⟩) (O := O) (c := c) (j := j) (by omega) hcO
            have HH7 := Lib.hid (hAh w7 HP7.out)
            have nTb : nT ≤ O.length := by rw [hnT.out, List.length_take]; omega
            have nDb : nD ≤ O.length := by rw [hnD.out, List.length_drop]; omega
            clear hAh HP7
            go_wp2_with fail
            refine held_start (S := fun W => Ext w7 W) 22 rfl (by kernel_rfl) ?_
            refine held_move (i := 1) rfl (by kernel_rfl) (by kernel_rfl) (by kernel_rfl) _ rfl rfl HS.out _ (by simp [Act.put]; rfl) ?_
            refine held_move (i := 2) rfl (by kernel_rfl) (by kernel_rfl) (by kernel_rfl) _ rfl rfl HS.out _ (by simp [Act.put]; rfl) ?_
            refine held_slice (i := 3) rfl (by kernel_rfl) (by kernel_rfl) (by kernel_rfl) rfl _ _ 40 rfl _ _ _ rfl rfl sh HS.out _ (by simp [Act.put]; rfl) ?_
            refine held_move (i := 5) rfl (by kernel_rfl) (by kernel_rfl) (by kernel_rfl) _ rfl rfl HS.out _ (by simp [Act.put]; rfl) ?_
            refine held_move (i := 6) rfl (by kernel_rfl) (by kernel_rfl) (by kernel_rfl) _ rfl rfl HS.out _ (by simp [Act.put]; rfl) ?_
            refine wpAnyH_take (i := 7) (v := .pointer (some ⟨b, off + k * 2, none⟩)) rfl (by kernel_rfl) (by kernel_rfl) (by kernel_rfl) (fun _ _ _ h => h) (.inl ⟨rfl, fun w hT => by first | (go_simp; done) | (go_simp; rfl)⟩) HS.out ?_
            simp only [Act.put, List.setIfInBounds_toArray, List.set_cons_zero, List.set_cons_succ]
            refine wpAnyH_take (i := 8) (v := .pointer (some ⟨b, off + k * 2, none⟩)) rfl (by kernel_rfl) (by kernel_rfl) (by kernel_rfl) (fun _ _ _ h => h) (.inl ⟨rfl, fun w hT => by first | (go_simp; done) | (go_simp; rfl)⟩) HS.out ?_
            simp only [Act.put, List.setIfInBounds_toArray, List.set_cons_zero, List.set_cons_succ]
            refine wpAnyH_take (i := 9) (v := .int .i64 p) rfl (by kernel_rfl) (by kernel_rfl) (by kernel_rfl) (fun _ _ _ h => h) (.inl ⟨rfl, fun w hT => by have cc := (hT.cell (p := ⟨b, off + k * 2, none⟩) hb7.out).trans t0; first | (go_simp; done) | (go_simp; rfl)⟩) HS.out ?_
            simp only [Act.put, List.setIfInBounds_toArray, List.set_cons_zero, List.set_cons_succ]
            refine held_move (i := 10) rfl (by kernel_rfl) (by kernel_rfl) (by kernel_rfl) _ rfl rfl HS.out _ (by simp [Act.put]; rfl) ?_
            refine held_move (i := 11) rfl (by kernel_rfl) (by kernel_rfl) (by kernel_rfl) _ rfl rfl HS.out _ (by simp [Act.put]; rfl) ?_
            refine wpAnyH_take (i := 12) (v := .pointer (some ⟨b, off + k * 2, none⟩)) rfl (by kernel_rfl) (by kernel_rfl) (by kernel_rfl) (fun _ _ _ h => h) (.inl ⟨rfl, fun w hT => by first | (go_simp; done) | (go_simp; rfl)⟩) HS.out ?_
            simp only [Act.put, List.setIfInBounds_toArray, List.set_cons_zero, List.set_cons_succ]
            refine wpAnyH_take (i := 13) (v := .pointer (some ⟨b, off + k * 2 + 1, none⟩)) rfl (by kernel_rfl) (by kernel_rfl) (by kernel_rfl) (fun _ _ _ h => h) (.inl ⟨rfl, fun w hT => by first | (go_simp; done) | (go_simp; rfl)⟩) HS.out ?_
            simp only [Act.put, List.setIfInBounds_toArray, List.set_cons_zero, List.set_cons_succ]
            refine wpAnyH_take (i := 14) (v := .int .i64 q) rfl (by kernel_rfl) (by kernel_rfl) (by kernel_rfl) (fun _ _ _ h => h) (.inl ⟨rfl, fun w hT => by have cc := (hT.cell (p := ⟨b, off + k * 2 + 1, none⟩) hb7.out).trans t1; first | (go_simp; done) | (go_simp; rfl)⟩) HS.out ?_
            simp only [Act.put, List.setIfInBounds_toArray, List.set_cons_zero, List.set_cons_succ]
            refine held_move (i := 15) rfl (by kernel_rfl) (by kernel_rfl) (by kernel_rfl) _ rfl rfl HS.out _ (by simp [Act.put]; rfl) ?_
            refine wpAnyH_take (i := 16) (v := .agg #[.int .i64 p, .int .i64 q, .int .i64 cat]) rfl (by kernel_rfl) (by kernel_rfl) (by kernel_rfl) (fun _ _ _ h => h) (.inl ⟨rfl, fun w hT => by first | (go_simp; done) | (go_simp; rfl)⟩) HS.out ?_
            simp only [Act.put, List.setIfInBounds_toArray, List.set_cons_zero, List.set_cons_succ]
            refine held_move (i := 19) rfl (by kernel_rfl) (by kernel_rfl) (by kernel_rfl) _ rfl rfl HS.out _ (by simp [Act.put]; rfl) ?_
            clear t0 t1
            refine held_two (i := 0) (j := 17) rfl rfl (by kernel_rfl) rfl rfl ?_ ?_
            · go_wp2_with fail
              obtain ⟨y1, hy1⟩ : ∃ W, W = (w7.alloc (.cells #[] 47)).drew := ⟨_, rfl⟩
              have owny1 : Hid (y1.ownsRow w7.heap.size 47 3 (.slice (some ⟨w7.heap.size, 0, none⟩) 0 0) 0 (flat encP [])) := by rw [hy1]; exact own_drewN (own_emptyP w7 _ (Nat.le_refl _)) 1
              have Xy1 : Hid (Ext w7 y1) := by rw [hy1]; exact ((Ext.refl w7).alloc _).drewN 1
              have sz1 : Hid (y1.heap.size = w7.heap.size + 1) := by rw [hy1]; show _ = _; simp [World.drew]
              rw [← hy1]
              replace hy1 := Lib.hid hy1
              refine ⟨Xy1.out, ?_⟩
              refine held_two (i := 4) (j := 17) rfl rfl (by kernel_rfl) rfl rfl ?_ ?_
              · refine wp_app_parts w7 _ Xy1.out _ _ rfl 0 _ [] (O.take j) (by rfl) owny1.out Ah c nT (by rfl) hnT.out (HH7.out.ext Xy1.out) (by rw [← hnT.out]; omega) nT (by simp) ?_
                intro A8 c8 y2 o8 x8 g8
                have O8 : Hid (y2.ownsRow w7.heap.size 47 3 (.slice A8 nT c8) nT (flat encP (O.take j))) := o8
                have Xy2 := Lib.hid x8; have G8 := Lib.hid g8; clear o8 x8 g8
                refine ⟨Xy2.out, ?_⟩
                refine held_all (i := 17) rfl (by kernel_rfl) rfl ?_
                go_wp2_with fail
                obtain ⟨y3, hy3⟩ : ∃ W, W = (y2).alloc (.cells #[.int .i64 p, .int .i64 q, .int .i64 cat] 47) := ⟨_, rfl⟩
                have psy3 : Hid (Ps y3 (some ⟨y2.heap.size, 0, none⟩) [((p, q), cat)]) := by rw [hy3]; exact Ps.new_at y2 [((p, q), cat)] _ _ rfl
                have Xy3 : Hid (Ext w7 y3) := by rw [hy3]; exact Xy2.out.alloc _
                have Ky3 : Hid (Ext y2 y3) := by rw [hy3]; exact (Ext.refl _).alloc _
                rw [← hy3]
                replace hy3 := Lib.hid hy3
                refine ⟨Xy3.out, ?_⟩
                have O83 := Lib.hid (own_below O8.out Ky3.out)
                refine held_all (i := 18) rfl (by kernel_rfl) rfl ?_
                refine wp_app_parts w7 _ Xy3.out _ _ rfl nT _ (O.take j) [((p, q), cat)] (by rfl) O83.out (some ⟨y2.heap.size, 0, none⟩) 1 1 (by rfl) rfl psy3.out (by simp; omega) (nT + 1) rfl ?_
                intro A9 c9 z1 o9 x9 g9
                have O9 := Lib.hid o9; have X9 := Lib.hid x9; clear o9 x9 g9
                refine ⟨X9.out, ?_⟩
                refine held_all (i := 20) rfl (by kernel_rfl) rfl ?_
                refine wp_app_parts w7 _ X9.out _ _ rfl (nT + 1) _ (O.take j ++ [((p, q), cat)]) (O.drop j) (by rfl) O9.out A7 c7 nD (by rfl) hnD.out (HD7.out.ext X9.out) (by rw [← hnD.out]; omega) (nT + 1 + nD) rfl ?_
                intro A10 c10 z2 o10 x10 g10
                have O10 := Lib.hid o10; have X10 := Lib.hid x10; clear o10 x10 g10
                refine ⟨X10.out, ?_⟩
                refine held_assign (i := 21) rfl (by kernel_rfl) (by kernel_rfl) (by kernel_rfl) _ rfl rfl X10.out _ (by simp [Act.put]; rfl) ?_
                refine held_done (by kernel_rfl) ?_ _
                obtain ⟨_, _, hv, hcl, _⟩ := own_form O10.out
                cases hv
                have hn10 := O10.out.1
                rw [flat_length encP_len] at hn10
                have hn := Nat.eq_of_mul_eq_mul_right (by decide : 0 < 3) hn10.symm
                have hlen : ((O.take j ++ [((p, q), cat)]) ++ O.drop j).length = (addP o (tag cat (l.take (k + 1)))).length := by rw [E.out, hI.out]
                have P10 : Hid (Ps z2 A10 (addP o (tag cat (l.take (k + 1))))) := by
                  have o := O10.out
                  rw [hn] at o
                  have := Ps.own (l := (O.take j ++ [((p, q), cat)]) ++ O.drop j) o
                  show Ps _ _ _
                  rw [E.out, hI.out]; exact this
                rw [hn, hlen] at hcl
                replace hn := Lib.hid hn
                have hnn := hn
                clear hn10
                have XX := Lib.hid (XW7.out.trans X10.out)
                clear O10 X10 O9 X9 HD7
                go_wp2
                go_roundw
                case rel => exact ⟨k + 1, c10, _, A10, by omega, by go_num, by rw [← hlen, ← hnn.out]; rfl, hcl, rfl, P10, XX⟩
                case measure => simp [intOf]; omega
              · go_wp2_with fail
                obtain ⟨y2, hy2⟩ : ∃ W, W = (y1).alloc (.cells #[.int .i64 p, .int .i64 q, .int .i64 cat] 47) := ⟨_, rfl⟩
                have psy2 : Hid (Ps y2 (some ⟨y1.heap.size, 0, none⟩) [((p, q), cat)]) := by rw [hy2]; exact Ps.new_at y1 [((p, q), cat)] _ _ rfl
                have Xy2 : Hid (Ext w7 y2) := by rw [hy2]; exact Xy1.out.alloc _
                have Ky2 : Hid (Ext y1 y2) := by rw [hy2]; exact (Ext.refl _).alloc _
                rw [← hy2]
                replace hy2 := Lib.hid hy2
                refine ⟨Xy2.out, ?_⟩
                have ow2 := Lib.hid (own_below owny1.out Ky2.out)
                refine held_all (i := 4) rfl (by kernel_rfl) rfl ?_
                refine wp_app_parts w7 _ Xy2.out _ _ rfl 0 _ [] (O.take j) (by rfl) ow2.out Ah c nT (by rfl) hnT.out (HH7.out.ext Xy2.out) (by rw [← hnT.out]; omega) nT (by simp) ?_
                intro A8 c8 y3 o8 x8 g8
                have O8 : Hid (y3.ownsRow w7.heap.size 47 3 (.slice A8 nT c8) nT (flat encP (O.take j))) := o8
                have Xy3 := Lib.hid x8; have G8 := Lib.hid g8; clear o8 x8 g8
                refine ⟨Xy3.out, ?_⟩
                have ps3 : Hid (Ps y3 (some ⟨y1.heap.size, 0, none⟩) [((p, q), cat)]) := psy2.out.moved G8.out (fun b off e => by cases e; intro e; have e2 : y1.heap.size = w7.heap.size := (by simpa [Value.ownBlock] using e); have := sz1.out; omega)
                refine held_all (i := 18) rfl (by kernel_rfl) rfl ?_
                refine wp_app_parts w7 _ Xy3.out _ _ rfl nT _ (O.take j) [((p, q), cat)] (by rfl) O8.out (some ⟨y1.heap.size, 0, none⟩) 1 1 (by rfl) rfl ps3.out (by simp; omega) (nT + 1) rfl ?_
                intro A9 c9 z1 o9 x9 g9
                have O9 := Lib.hid o9; have X9 := Lib.hid x9; clear o9 x9 g9
                refine ⟨X9.out, ?_⟩
                refine held_all (i := 20) rfl (by kernel_rfl) rfl ?_
                refine wp_app_parts w7 _ X9.out _ _ rfl (nT + 1) _ (O.take j ++ [((p, q), cat)]) (O.drop j) (by rfl) O9.out A7 c7 nD (by rfl) hnD.out (HD7.out.ext X9.out) (by rw [← hnD.out]; omega) (nT + 1 + nD) rfl ?_
                intro A10 c10 z2 o10 x10 g10
                have O10 := Lib.hid o10; have X10 := Lib.hid x10; clear o10 x10 g10
                refine ⟨X10.out, ?_⟩
                refine held_assign (i := 21) rfl (by kernel_rfl) (by kernel_rfl) (by kernel_rfl) _ rfl rfl X10.out _ (by simp [Act.put]; rfl) ?_
                refine held_done (by kernel_rfl) ?_ _
                obtain ⟨_, _, hv, hcl, _⟩ := own_form O10.out
                cases hv
                have hn10 := O10.out.1
                rw [flat_length encP_len] at hn10
                have hn := Nat.eq_of_mul_eq_mul_right (by decide : 0 < 3) hn10.symm
                have hlen : ((O.take j ++ [((p, q), cat)]) ++ O.drop j).length = (addP o (tag cat (l.take (k + 1)))).length := by rw [E.out, hI.out]
                have P10 : Hid (Ps z2 A10 (addP o (tag cat (l.take (k + 1))))) := by
                  have o := O10.out
                  rw [hn] at o
                  have := Ps.own (l := (O.take j ++ [((p, q), cat)]) ++ O.drop j) o
                  show Ps _ _ _
                  rw [E.out, hI.out]; exact this
                rw [hn, hlen] at hcl
                replace hn := Lib.hid hn
                have hnn := hn
                clear hn10
                have XX := Lib.hid (XW7.out.trans X10.out)
                clear O10 X10 O9 X9 HD7
                go_wp2
                go_roundw
                case rel => exact ⟨k + 1, c10, _, A10, by omega, by go_num, by rw [← hlen, ← hnn.out]; rfl, hcl, rfl, P10, XX⟩
                case measure => simp [intOf]; omega
            · go_wp2_with fail
              obtain ⟨y1, hy1⟩ : ∃ W, W = (w7.alloc (.cells #[.int .i64 p, .int .i64 q, .int .i64 cat] 47)).drew := ⟨_, rfl⟩
              have psy1 : Hid (Ps y1 (some ⟨w7.heap.size, 0, none⟩) [((p, q), cat)]) := by rw [hy1]; exact (Ps.new_at w7 [((p, q), cat)] _ _ rfl).drewN 1
              have Xy1 : Hid (Ext w7 y1) := by rw [hy1]; exact ((Ext.refl w7).alloc _).drewN 1
              have sz1 : Hid (y1.heap.size = w7.heap.size + 1) := by rw [hy1]; show _ = _; simp [World.drew]
              rw [← hy1]
              replace hy1 := Lib.hid hy1
              refine ⟨Xy1.out, ?_⟩
              refine held_all (i := 0) rfl (by kernel_rfl) rfl ?_
              go_wp2_with fail
              obtain ⟨y2, hy2⟩ : ∃ W, W = (y1).alloc (.cells #[] 47) := ⟨_, rfl⟩
              have owny2 : Hid (y2.ownsRow w7.heap.size 47 3 (.slice (some ⟨y1.heap.size, 0, none⟩) 0 0) 0 (flat encP [])) := by rw [hy2]; exact own_emptyP _ _ Xy1.out.size
              have Xy2 : Hid (Ext w7 y2) := by rw [hy2]; exact Xy1.out.alloc _
              have Ky2 : Hid (Ext y1 y2) := by rw [hy2]; exact (Ext.refl _).alloc _
              rw [← hy2]
              replace hy2 := Lib.hid hy2
              refine ⟨Xy2.out, ?_⟩
              have ps2 := Lib.hid (psy1.out.ext Ky2.out)
              refine held_all (i := 4) rfl (by kernel_rfl) rfl ?_
              refine wp_app_parts w7 _ Xy2.out _ _ rfl 0 _ [] (O.take j) (by rfl) owny2.out Ah c nT (by rfl) hnT.out (HH7.out.ext Xy2.out) (by rw [← hnT.out]; omega) nT (by simp) ?_
              intro A8 c8 y3 o8 x8 g8
              have O8 : Hid (y3.ownsRow w7.heap.size 47 3 (.slice A8 nT c8) nT (flat encP (O.take j))) := o8
              have Xy3 := Lib.hid x8; have G8 := Lib.hid g8; clear o8 x8 g8
              refine ⟨Xy3.out, ?_⟩
              have ps3 : Hid (Ps y3 (some ⟨w7.heap.size, 0, none⟩) [((p, q), cat)]) := ps2.out.moved G8.out (fun b off e => by cases e; intro e; have e2 : w7.heap.size = y1.heap.size := (by simpa [Value.ownBlock] using e); have := sz1.out; omega)
              refine held_all (i := 18) rfl (by kernel_rfl) rfl ?_
              refine wp_app_parts w7 _ Xy3.out _ _ rfl nT _ (O.take j) [((p, q), cat)] (by rfl) O8.out (some ⟨w7.heap.size, 0, none⟩) 1 1 (by rfl) rfl ps3.out (by simp; omega) (nT + 1) rfl ?_
              intro A9 c9 z1 o9 x9 g9
              have O9 := Lib.hid o9; have X9 := Lib.hid x9; clear o9 x9 g9
              refine ⟨X9.out, ?_⟩
              refine held_all (i := 20) rfl (by kernel_rfl) rfl ?_
              refine wp_app_parts w7 _ X9.out _ _ rfl (nT + 1) _ (O.take j ++ [((p, q), cat)]) (O.drop j) (by rfl) O9.out A7 c7 nD (by rfl) hnD.out (HD7.out.ext X9.out) (by rw [← hnD.out]; omega) (nT + 1 + nD) rfl ?_
              intro A10 c10 z2 o10 x10 g10
              have O10 := Lib.hid o10; have X10 := Lib.hid x10; clear o10 x10 g10
              refine ⟨X10.out, ?_⟩
              refine held_assign (i := 21) rfl (by kernel_rfl) (by kernel_rfl) (by kernel_rfl) _ rfl rfl X10.out _ (by simp [Act.put]; rfl) ?_
              refine held_done (by kernel_rfl) ?_ _
              obtain ⟨_, _, hv, hcl, _⟩ := own_form O10.out
              cases hv
              have hn10 := O10.out.1
              rw [flat_length encP_len] at hn10
              have hn := Nat.eq_of_mul_eq_mul_right (by decide : 0 < 3) hn10.symm
              have hlen : ((O.take j ++ [((p, q), cat)]) ++ O.drop j).length = (addP o (tag cat (l.take (k + 1)))).length := by rw [E.out, hI.out]
              have P10 : Hid (Ps z2 A10 (addP o (tag cat (l.take (k + 1))))) := by
                have o := O10.out
                rw [hn] at o
                have := Ps.own (l := (O.take j ++ [((p, q), cat)]) ++ O.drop j) o
                show Ps _ _ _
                rw [E.out, hI.out]; exact this
              rw [hn, hlen] at hcl
              replace hn := Lib.hid hn
              have hnn := hn
              clear hn10
              have XX := Lib.hid (XW7.out.trans X10.out)
              clear O10 X10 O9 X9 HD7
              go_wp2
              go_roundw
              case rel => exact ⟨k + 1, c10, _, A10, by omega, by go_num, by rw [← hlen, ← hnn.out]; rfl, hcl, rfl, P10, XX⟩
              case measure => simp [intOf]; omega
        · have hjO : j = O.length := by omega
          have r5 : decide ((j : Int) < (O.length : Int)) = false := decide_eq_false (by omega)
          have hI : Hid (insP O ((p, q), cat) = (O.take j ++ [((p, q), cat)]) ++ O.drop j) := insP_at HT.out (fun y hy => by rw [hjO, List.getElem?_eq_none (Nat.le_refl _)] at hy; cases hy)
          clear hjO
          have XW := Lib.hid (HX.out.trans HY.out)
          obtain ⟨As, cs, nD, hnD, sl, hsl⟩ := slice_lo (A := A) (O := O) (c := c) (j := j) (by omega) hcO
          have HD := Lib.hid (hsl wr (HP.out.ext HY.out))
          have HPr := Lib.hid (HP.out.ext HY.out)
          clear hsl
          go_wp2_with fail
          go_quiet (fail)
          have XQ := Lib.hid ((XW.out.drewN nq).alloc (.cells #[] 47))
          have XR : Hid (Ext wr ((wr.drewN nq).alloc (.cells #[] 47))) := ((Ext.refl wr).drewN nq).alloc _
          have HDQ := Lib.hid ((HD.out.drewN nq).alloc (.cells #[] 47))
          have HOQ := Lib.hid (own_emptyP (wr.drewN nq) w.heap.size (XW.out.drewN nq).size)
          have hcO' := hcO
          clear XW HD HP HY y0 y1 z0 z1
          go_wp2_with (first | (refine slice_at rfl _ _ 40 rfl _ _ _ rfl rfl sl ?_) | (at_builtin; go_loud (refine app_parts w _ XQ.out _ _ (by rfl) (by rfl) 0 _ [] (O.drop j) (by rfl) HOQ.out As cs nD (by rfl) hnD.out HDQ.out (by simp; omega) nD (by simp) ?_; intro A7 c7 w7 o7 x7 g7; have HD7 : Hid (Ps w7 A7 (O.drop j)) := Rd.of_own' encP_len o7 hnD.out; have HP7 : Hid (Ps w7 (A) O) := HPr.out.over XR.out g7 (Nat.le_refl _); have XW7 := Lib.hid x7; clear o7 x7 g7)))
          clear XQ XR HDQ HOQ HPr sl
          have hb7 := Lib.hid (Nat.lt_of_lt_of_le hbB XW7.out.size)
          have t0 := (XW7.out.cell (p := ⟨b, off + k * 2, none⟩) hbB).trans u0.out
          have t1 := (XW7.out.cell (p := ⟨b, off + k * 2 + 1, none⟩) hbB).trans u1.out
          have HS : Hid (Ext w7 (w7.drewN 1)) := (Ext.refl w7).drewN 1
          obtain ⟨Ah, nT, hnT, sh, hAh⟩ := slice_hi (A := A) (O := O) (c := c) (j := j) (by omega) hcO
          have HH7 := Lib.hid (hAh w7 HP7.out)
          have nTb : nT ≤ O.length := by rw [hnT.out, List.length_take]; omega
          have nDb : nD ≤ O.length := by rw [hnD.out, List.length_drop]; omega
          clear hAh HP7
          go_wp2_with fail
          refine held_start (S := fun W => Ext w7 W) 22 rfl (by kernel_rfl) ?_
          refine held_move (i := 1) rfl (by kernel_rfl) (by kernel_rfl) (by kernel_rfl) _ rfl rfl HS.out _ (by simp [Act.put]; rfl) ?_
          refine held_move (i := 2) rfl (by kernel_rfl) (by kernel_rfl) (by kernel_rfl) _ rfl rfl HS.out _ (by simp [Act.put]; rfl) ?_
          refine held_slice (i := 3) rfl (by kernel_rfl) (by kernel_rfl) (by kernel_rfl) rfl _ _ 40 rfl _ _ _ rfl rfl sh HS.out _ (by simp [Act.put]; rfl) ?_
          refine held_move (i := 5) rfl (by kernel_rfl) (by kernel_rfl) (by kernel_rfl) _ rfl rfl HS.out _ (by simp [Act.put]; rfl) ?_
          refine held_move (i := 6) rfl (by kernel_rfl) (by kernel_rfl) (by kernel_rfl) _ rfl rfl HS.out _ (by simp [Act.put]; rfl) ?_
          refine wpAnyH_take (i := 7) (v := .pointer (some ⟨b, off + k * 2, none⟩)) rfl (by kernel_rfl) (by kernel_rfl) (by kernel_rfl) (fun _ _ _ h => h) (.inl ⟨rfl, fun w hT => by first | (go_simp; done) | (go_simp; rfl)⟩) HS.out ?_
          simp only [Act.put, List.setIfInBounds_toArray, List.set_cons_zero, List.set_cons_succ]
          refine wpAnyH_take (i := 8) (v := .pointer (some ⟨b, off + k * 2, none⟩)) rfl (by kernel_rfl) (by kernel_rfl) (by kernel_rfl) (fun _ _ _ h => h) (.inl ⟨rfl, fun w hT => by first | (go_simp; done) | (go_simp; rfl)⟩) HS.out ?_
          simp only [Act.put, List.setIfInBounds_toArray, List.set_cons_zero, List.set_cons_succ]
          refine wpAnyH_take (i := 9) (v := .int .i64 p) rfl (by kernel_rfl) (by kernel_rfl) (by kernel_rfl) (fun _ _ _ h => h) (.inl ⟨rfl, fun w hT => by have cc := (hT.cell (p := ⟨b, off + k * 2, none⟩) hb7.out).trans t0; first | (go_simp; done) | (go_simp; rfl)⟩) HS.out ?_
          simp only [Act.put, List.setIfInBounds_toArray, List.set_cons_zero, List.set_cons_succ]
          refine held_move (i := 10) rfl (by kernel_rfl) (by kernel_rfl) (by kernel_rfl) _ rfl rfl HS.out _ (by simp [Act.put]; rfl) ?_
          refine held_move (i := 11) rfl (by kernel_rfl) (by kernel_rfl) (by kernel_rfl) _ rfl rfl HS.out _ (by simp [Act.put]; rfl) ?_
          refine wpAnyH_take (i := 12) (v := .pointer (some ⟨b, off + k * 2, none⟩)) rfl (by kernel_rfl) (by kernel_rfl) (by kernel_rfl) (fun _ _ _ h => h) (.inl ⟨rfl, fun w hT => by first | (go_simp; done) | (go_simp; rfl)⟩) HS.out ?_
          simp only [Act.put, List.setIfInBounds_toArray, List.set_cons_zero, List.set_cons_succ]
          refine wpAnyH_take (i := 13) (v := .pointer (some ⟨b, off + k * 2 + 1, none⟩)) rfl (by kernel_rfl) (by kernel_rfl) (by kernel_rfl) (fun _ _ _ h => h) (.inl ⟨rfl, fun w hT => by first | (go_simp; done) | (go_simp; rfl)⟩) HS.out ?_
          simp only [Act.put, List.setIfInBounds_toArray, List.set_cons_zero, List.set_cons_succ]
          refine wpAnyH_take (i := 14) (v := .int .i64 q) rfl (by kernel_rfl) (by kernel_rfl) (by kernel_rfl) (fun _ _ _ h => h) (.inl ⟨rfl, fun w hT => by have cc := (hT.cell (p := ⟨b, off + k * 2 + 1, none⟩) hb7.out).trans t1; first | (go_simp; done) | (go_simp; rfl)⟩) HS.out ?_
          simp only [Act.put, List.setIfInBounds_toArray, List.set_cons_zero, List.set_cons_succ]
          refine held_move (i := 15) rfl (by kernel_rfl) (by kernel_rfl) (by kernel_rfl) _ rfl rfl HS.out _ (by simp [Act.put]; rfl) ?_
          refine wpAnyH_take (i := 16) (v := .agg #[.int .i64 p, .int .i64 q, .int .i64 cat]) rfl (by kernel_rfl) (by kernel_rfl) (by kernel_rfl) (fun _ _ _ h => h) (.inl ⟨rfl, fun w hT => by first | (go_simp; done) | (go_simp; rfl)⟩) HS.out ?_
          simp only [Act.put, List.setIfInBounds_toArray, List.set_cons_zero, List.set_cons_succ]
          refine held_move (i := 19) rfl (by kernel_rfl) (by kernel_rfl) (by kernel_rfl) _ rfl rfl HS.out _ (by simp [Act.put]; rfl) ?_
          clear t0 t1
          refine held_two (i := 0) (j := 17) rfl rfl (by kernel_rfl) rfl rfl ?_ ?_
          · go_wp2_with fail
            obtain ⟨y1, hy1⟩ : ∃ W, W = (w7.alloc (.cells #[] 47)).drew := ⟨_, rfl⟩
            have owny1 : Hid (y1.ownsRow w7.heap.size 47 3 (.slice (some ⟨w7.heap.size, 0, none⟩) 0 0) 0 (flat encP [])) := by rw [hy1]; exact own_drewN (own_emptyP w7 _ (Nat.le_refl _)) 1
            have Xy1 : Hid (Ext w7 y1) := by rw [hy1]; exact ((Ext.refl w7).alloc _).drewN 1
            have sz1 : Hid (y1.heap.size = w7.heap.size + 1) := by rw [hy1]; show _ = _; simp [World.drew]
            rw [← hy1]
            replace hy1 := Lib.hid hy1
            refine ⟨Xy1.out, ?_⟩
            refine held_two (i := 4) (j := 17) rfl rfl (by kernel_rfl) rfl rfl ?_ ?_
            · refine wp_app_parts w7 _ Xy1.out _ _ rfl 0 _ [] (O.take j) (by rfl) owny1.out Ah c nT (by rfl) hnT.out (HH7.out.ext Xy1.out) (by rw [← hnT.out]; omega) nT (by simp) ?_
              intro A8 c8 y2 o8 x8 g8
              have O8 : Hid (y2.ownsRow w7.heap.size 47 3 (.slice A8 nT c8) nT (flat encP (O.take j))) := o8
              have Xy2 := Lib.hid x8; have G8 := Lib.hid g8; clear o8 x8 g8
              refine ⟨Xy2.out, ?_⟩
              refine held_all (i := 17) rfl (by kernel_rfl) rfl ?_
              go_wp2_with fail
              obtain ⟨y3, hy3⟩ : ∃ W, W = (y2).alloc (.cells #[.int .i64 p, .int .i64 q, .int .i64 cat] 47) := ⟨_, rfl⟩
              have psy3 : Hid (Ps y3 (some ⟨y2.heap.size, 0, none⟩) [((p, q), cat)]) := by rw [hy3]; exact Ps.new_at y2 [((p, q), cat)] _ _ rfl
              have Xy3 : Hid (Ext w7 y3) := by rw [hy3]; exact Xy2.out.alloc _
              have Ky3 : Hid (Ext y2 y3) := by rw [hy3]; exact (Ext.refl _).alloc _
              rw [← hy3]
              replace hy3 := Lib.hid hy3
              refine ⟨Xy3.out, ?_⟩
              have O83 := Lib.hid (own_below O8.out Ky3.out)
              refine held_all (i := 18) rfl (by kernel_rfl) rfl ?_
              refine wp_app_parts w7 _ Xy3.out _ _ rfl nT _ (O.take j) [((p, q), cat)] (by rfl) O83.out (some ⟨y2.heap.size, 0, none⟩) 1 1 (by rfl) rfl psy3.out (by simp; omega) (nT + 1) rfl ?_
              intro A9 c9 z1 o9 x9 g9
              have O9 := Lib.hid o9; have X9 := Lib.hid x9; clear o9 x9 g9
              refine ⟨X9.out, ?_⟩
              refine held_all (i := 20) rfl (by kernel_rfl) rfl ?_
              refine wp_app_parts w7 _ X9.out _ _ rfl (nT + 1) _ (O.take j ++ [((p, q), cat)]) (O.drop j) (by rfl) O9.out A7 c7 nD (by rfl) hnD.out (HD7.out.ext X9.out) (by rw [← hnD.out]; omega) (nT + 1 + nD) rfl ?_
              intro A10 c10 z2 o10 x10 g10
              have O10 := Lib.hid o10; have X10 := Lib.hid x10; clear o10 x10 g10
              refine ⟨X10.out, ?_⟩
              refine held_assign (i := 21) rfl (by kernel_rfl) (by kernel_rfl) (by kernel_rfl) _ rfl rfl X10.out _ (by simp [Act.put]; rfl) ?_
              refine held_done (by kernel_rfl) ?_ _
              obtain ⟨_, _, hv, hcl, _⟩ := own_form O10.out
              cases hv
              have hn10 := O10.out.1
              rw [flat_length encP_len] at hn10
              have hn := Nat.eq_of_mul_eq_mul_right (by decide : 0 < 3) hn10.symm
              have hlen : ((O.take j ++ [((p, q), cat)]) ++ O.drop j).length = (addP o (tag cat (l.take (k + 1)))).length := by rw [E.out, hI.out]
              have P10 : Hid (Ps z2 A10 (addP o (tag cat (l.take (k + 1))))) := by
                have o := O10.out
                rw [hn] at o
                have := Ps.own (l := (O.take j ++ [((p, q), cat)]) ++ O.drop j) o
                show Ps _ _ _
                rw [E.out, hI.out]; exact this
              rw [hn, hlen] at hcl
              replace hn := Lib.hid hn
              have hnn := hn
              clear hn10
              have XX := Lib.hid (XW7.out.trans X10.out)
              clear O10 X10 O9 X9 HD7
              go_wp2
              go_roundw
              case rel => exact ⟨k + 1, c10, _, A10, by omega, by go_num, by rw [← hlen, ← hnn.out]; rfl, hcl, rfl, P10, XX⟩
              case measure => simp [intOf]; omega
            · go_wp2_with fail
              obtain ⟨y2, hy2⟩ : ∃ W, W = (y1).alloc (.cells #[.int .i64 p, .int .i64 q, .int .i64 cat] 47) := ⟨_, rfl⟩
              have psy2 : Hid (Ps y2 (some ⟨y1.heap.size, 0, none⟩) [((p, q), cat)]) := by rw [hy2]; exact Ps.new_at y1 [((p, q), cat)] _ _ rfl
              have Xy2 : Hid (Ext w7 y2) := by rw [hy2]; exact Xy1.out.alloc _
              have Ky2 : Hid (Ext y1 y2) := by rw [hy2]; exact (Ext.refl _).alloc _
              rw [← hy2]
              replace hy2 := Lib.hid hy2
              refine ⟨Xy2.out, ?_⟩
              have ow2 := Lib.hid (own_below owny1.out Ky2.out)
              refine held_all (i := 4) rfl (by kernel_rfl) rfl ?_
              refine wp_app_parts w7 _ Xy2.out _ _ rfl 0 _ [] (O.take j) (by rfl) ow2.out Ah c nT (by rfl) hnT.out (HH7.out.ext Xy2.out) (by rw [← hnT.out]; omega) nT (by simp) ?_
              intro A8 c8 y3 o8 x8 g8
              have O8 : Hid (y3.ownsRow w7.heap.size 47 3 (.slice A8 nT c8) nT (flat encP (O.take j))) := o8
              have Xy3 := Lib.hid x8; have G8 := Lib.hid g8; clear o8 x8 g8
              refine ⟨Xy3.out, ?_⟩
              have ps3 : Hid (Ps y3 (some ⟨y1.heap.size, 0, none⟩) [((p, q), cat)]) := psy2.out.moved G8.out (fun b off e => by cases e; intro e; have e2 : y1.heap.size = w7.heap.size := (by simpa [Value.ownBlock] using e); have := sz1.out; omega)
              refine held_all (i := 18) rfl (by kernel_rfl) rfl ?_
              refine wp_app_parts w7 _ Xy3.out _ _ rfl nT _ (O.take j) [((p, q), cat)] (by rfl) O8.out (some ⟨y1.heap.size, 0, none⟩) 1 1 (by rfl) rfl ps3.out (by simp; omega) (nT + 1) rfl ?_
              intro A9 c9 z1 o9 x9 g9
              have O9 := Lib.hid o9; have X9 := Lib.hid x9; clear o9 x9 g9
              refine ⟨X9.out, ?_⟩
              refine held_all (i := 20) rfl (by kernel_rfl) rfl ?_
              refine wp_app_parts w7 _ X9.out _ _ rfl (nT + 1) _ (O.take j ++ [((p, q), cat)]) (O.drop j) (by rfl) O9.out A7 c7 nD (by rfl) hnD.out (HD7.out.ext X9.out) (by rw [← hnD.out]; omega) (nT + 1 + nD) rfl ?_
              intro A10 c10 z2 o10 x10 g10
              have O10 := Lib.hid o10; have X10 := Lib.hid x10; clear o10 x10 g10
              refine ⟨X10.out, ?_⟩
              refine held_assign (i := 21) rfl (by kernel_rfl) (by kernel_rfl) (by kernel_rfl) _ rfl rfl X10.out _ (by simp [Act.put]; rfl) ?_
              refine held_done (by kernel_rfl) ?_ _
              obtain ⟨_, _, hv, hcl, _⟩ := own_form O10.out
              cases hv
              have hn10 := O10.out.1
              rw [flat_length encP_len] at hn10
              have hn := Nat.eq_of_mul_eq_mul_right (by decide : 0 < 3) hn10.symm
              have hlen : ((O.take j ++ [((p, q), cat)]) ++ O.drop j).length = (addP o (tag cat (l.take (k + 1)))).length := by rw [E.out, hI.out]
              have P10 : Hid (Ps z2 A10 (addP o (tag cat (l.take (k + 1))))) := by
                have o := O10.out
                rw [hn] at o
                have := Ps.own (l := (O.take j ++ [((p, q), cat)]) ++ O.drop j) o
                show Ps _ _ _
                rw [E.out, hI.out]; exact this
              rw [hn, hlen] at hcl
              replace hn := Lib.hid hn
              have hnn := hn
              clear hn10
              have XX := Lib.hid (XW7.out.trans X10.out)
              clear O10 X10 O9 X9 HD7
              go_wp2
              go_roundw
              case rel => exact ⟨k + 1, c10, _, A10, by omega, by go_num, by rw [← hlen, ← hnn.out]; rfl, hcl, rfl, P10, XX⟩
              case measure => simp [intOf]; omega
          · go_wp2_with fail
            obtain ⟨y1, hy1⟩ : ∃ W, W = (w7.alloc (.cells #[.int .i64 p, .int .i64 q, .int .i64 cat] 47)).drew := ⟨_, rfl⟩
            have psy1 : Hid (Ps y1 (some ⟨w7.heap.size, 0, none⟩) [((p, q), cat)]) := by rw [hy1]; exact (Ps.new_at w7 [((p, q), cat)] _ _ rfl).drewN 1
            have Xy1 : Hid (Ext w7 y1) := by rw [hy1]; exact ((Ext.refl w7).alloc _).drewN 1
            have sz1 : Hid (y1.heap.size = w7.heap.size + 1) := by rw [hy1]; show _ = _; simp [World.drew]
            rw [← hy1]
            replace hy1 := Lib.hid hy1
            refine ⟨Xy1.out, ?_⟩
            refine held_all (i := 0) rfl (by kernel_rfl) rfl ?_
            go_wp2_with fail
            obtain ⟨y2, hy2⟩ : ∃ W, W = (y1).alloc (.cells #[] 47) := ⟨_, rfl⟩
            have owny2 : Hid (y2.ownsRow w7.heap.size 47 3 (.slice (some ⟨y1.heap.size, 0, none⟩) 0 0) 0 (flat encP [])) := by rw [hy2]; exact own_emptyP _ _ Xy1.out.size
            have Xy2 : Hid (Ext w7 y2) := by rw [hy2]; exact Xy1.out.alloc _
            have Ky2 : Hid (Ext y1 y2) := by rw [hy2]; exact (Ext.refl _).alloc _
            rw [← hy2]
            replace hy2 := Lib.hid hy2
            refine ⟨Xy2.out, ?_⟩
            have ps2 := Lib.hid (psy1.out.ext Ky2.out)
            refine held_all (i := 4) rfl (by kernel_rfl) rfl ?_
            refine wp_app_parts w7 _ Xy2.out _ _ rfl 0 _ [] (O.take j) (by rfl) owny2.out Ah c nT (by rfl) hnT.out (HH7.out.ext Xy2.out) (by rw [← hnT.out]; omega) nT (by simp) ?_
            intro A8 c8 y3 o8 x8 g8
            have O8 : Hid (y3.ownsRow w7.heap.size 47 3 (.slice A8 nT c8) nT (flat encP (O.take j))) := o8
            have Xy3 := Lib.hid x8; have G8 := Lib.hid g8; clear o8 x8 g8
            refine ⟨Xy3.out, ?_⟩
            have ps3 : Hid (Ps y3 (some ⟨w7.heap.size, 0, none⟩) [((p, q), cat)]) := ps2.out.moved G8.out (fun b off e => by cases e; intro e; have e2 : w7.heap.size = y1.heap.size := (by simpa [Value.ownBlock] using e); have := sz1.out; omega)
            refine held_all (i := 18) rfl (by kernel_rfl) rfl ?_
            refine wp_app_parts w7 _ Xy3.out _ _ rfl nT _ (O.take j) [((p, q), cat)] (by rfl) O8.out (some ⟨w7.heap.size, 0, none⟩) 1 1 (by rfl) rfl ps3.out (by simp; omega) (nT + 1) rfl ?_
            intro A9 c9 z1 o9 x9 g9
            have O9 := Lib.hid o9; have X9 := Lib.hid x9; clear o9 x9 g9
            refine ⟨X9.out, ?_⟩
            refine held_all (i := 20) rfl (by kernel_rfl) rfl ?_
            refine wp_app_parts w7 _ X9.out _ _ rfl (nT + 1) _ (O.take j ++ [((p, q), cat)]) (O.drop j) (by rfl) O9.out A7 c7 nD (by rfl) hnD.out (HD7.out.ext X9.out) (by rw [← hnD.out]; omega) (nT + 1 + nD) rfl ?_
            intro A10 c10 z2 o10 x10 g10
            have O10 := Lib.hid o10; have X10 := Lib.hid x10; clear o10 x10 g10
            refine ⟨X10.out, ?_⟩
            refine held_assign (i := 21) rfl (by kernel_rfl) (by kernel_rfl) (by kernel_rfl) _ rfl rfl X10.out _ (by simp [Act.put]; rfl) ?_
            refine held_done (by kernel_rfl) ?_ _
            obtain ⟨_, _, hv, hcl, _⟩ := own_form O10.out
            cases hv
            have hn10 := O10.out.1
            rw [flat_length encP_len] at hn10
            have hn := Nat.eq_of_mul_eq_mul_right (by decide : 0 < 3) hn10.symm
            have hlen : ((O.take j ++ [((p, q), cat)]) ++ O.drop j).length = (addP o (tag cat (l.take (k + 1)))).length := by rw [E.out, hI.out]
            have P10 : Hid (Ps z2 A10 (addP o (tag cat (l.take (k + 1))))) := by
              have o := O10.out
              rw [hn] at o
              have := Ps.own (l := (O.take j ++ [((p, q), cat)]) ++ O.drop j) o
              show Ps _ _ _
              rw [E.out, hI.out]; exact this
            rw [hn, hlen] at hcl
            replace hn := Lib.hid hn
            have hnn := hn
            clear hn10
            have XX := Lib.hid (XW7.out.trans X10.out)
            clear O10 X10 O9 X9 HD7
            go_wp2
            go_roundw
            case rel => exact ⟨k + 1, c10, _, A10, by omega, by go_num, by rw [← hlen, ← hnn.out]; rfl, hcl, rfl, P10, XX⟩
            case measure => simp [intOf]; omega
    · obtain rfl : k = l.length := by omega
      rw [List.take_length] at HO
      have hO := HO.out
      subst hO
      go_wp2_with fail
      go_ret
      exact ⟨A, c, hcO, rfl, HP.out, HX.out⟩
end Go.Proofs.YtnhmibfgaoealaaGreat
