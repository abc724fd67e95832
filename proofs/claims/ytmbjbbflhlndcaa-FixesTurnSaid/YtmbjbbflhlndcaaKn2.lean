/-
  lumperref24: Same, Write, Read; lumperref08.Same.
-/
import Derived.Test.YtmbjbbflhlndcaaKg2
namespace Go.Proofs.Ytmbjbbflhlndcaa
open Go.RowKit BigFrame
set_option linter.unusedVariables false
set_option linter.unusedSimpArgs false

theorem Rw.range {α : Type} {enc : α → List Value} {k : Nat} {w w' : World} {A : Option Addr} {l : List α} (h : Rw enc k w A l) (hX : Ext w w') {j : Nat} (hj : j < l.length) :
    ∃ b off c, A = some ⟨b, off, none⟩ ∧ Hid (l[j]? = some c) ∧ Hid (w'.rangeAt b (off + j * k) (enc c)) := by
  obtain ⟨b, off, c, hA, hb, hx, hc⟩ := (Rd.below h hX).at_ hj
  exact ⟨b, off, c, hA, hx, fun i u hu => hc i u hu⟩
theorem run_load_mid {a : Act} {o : Oper} {w : World} (ty : TypeId) (x : Operand) (ho : o.op = .load ty x) (b off : Nat) (hx : a.eval x = .pointer (some ⟨b, off, none⟩)) (cs : List Value) (d : TypeDesc) (hc : w.rangeAt b off cs)
    (hu : Try.prog.underlying ty = some d) (hd : d.isRow = true) (hi : (Try.prog.info? ty).map (·.size) = some cs.length) : (execOp a.eval o).run Try.prog w = .ok (.value (.agg cs.toArray)) w := by
  unfold execOp
  simp only [ho, hx, Instr.loadAt, Instr.sureAddr, Sem.run_bind, Sem.run_pure, Result.andThen_ok, run_loadVar_mid w b off ty cs d hc hu hd hi]
theorem run_neq_op {a : Act} {o : Oper} {w : World} (T ty2 : TypeId) (x y : Operand) (ho : o.op = .binOp .neq T x y ty2) (xs ys : Array Value) (hx : a.eval x = .agg xs) (hy : a.eval y = .agg ys) (hg : Try.prog.eqGuardType Try.prog.depth T = false) (b : Bool)
    (hq : ∀ w, (Op.equalIn 10000 T (.agg xs) (.agg ys)).run Try.prog w = .ok b w) : (execOp a.eval o).run Try.prog w = .ok (.value (.bool (!b))) w := by
  unfold execOp
  simp only [ho, hx, hy]
  go_simp
theorem take_eq_snoc {α : Type} {l m : List α} {k : Nat} {x y : α} (h : l.take k = m.take k) (hx : l[k]? = some x) (hy : m[k]? = some y) : (x = y ↔ l.take (k + 1) = m.take (k + 1)) := by
  rw [take_snoc hx, take_snoc hy, h]
  constructor
  · rintro rfl; rfl
  · intro e; simpa using e

set_option maxRecDepth 100000 in
set_option maxHeartbeats 1000000 in
theorem rSameC {w : World} {A1 A2 : Option Addr} {l m : List Cm} (h1 : Rw encC 16 w A1 l) (h2 : Rw encC 16 w A2 m) (hl : l.length ≤ 4000000000) (c1 c2 : Nat) (hm : m.length ≤ 4000000000) :
    Calls Try.prog 29 #[.slice A1 l.length c1, .slice A2 m.length c2] w (RetB w (decide (l = m))) := by
  replace h1 := Lib.hid h1; replace h2 := Lib.hid h2
  obtain ⟨R, hR⟩ : ∃ R, decide (l = m) = R := ⟨_, rfl⟩
  rw [hR]
  replace hR := Lib.hid hR
  by_cases hn : l.length = m.length
  case neg =>
    have q1 : ((l.length : Int) != (m.length : Int)) = true := by rw [bne_iff_ne]; omega
    have q1b : (l.length != m.length) = true := by rw [bne_iff_ne]; omega
    have q1c : (l.length == m.length) = false := by rw [beq_eq_false_iff_ne]; omega
    have q1d : ((l.length : Int) == (m.length : Int)) = false := by rw [beq_eq_false_iff_ne]; omega
    have hRf : R = false := by rw [← hR.out, decide_eq_false_iff_not]; rintro rfl; exact hn rfl
    subst hRf
    go_enter Try.func29, Try.ntmps29
    go_wp2
    go_ret
    exact ⟨rfl, Ext.refl w⟩
  obtain ⟨n, hnl⟩ : ∃ n, l.length = n := ⟨_, rfl⟩
  rw [hnl]
  have hnm : Hid (m.length = n) := by show _ = _; omega
  rw [hnm.out]
  have hnl2 := Lib.hid hnl
  have hl2 : n ≤ 4000000000 := by omega
  clear hn hnl hm hl
  have hg := eqGuardC
  go_enter Try.func29, Try.ntmps29
  go_wp2_with fail
  go_loopw [5] (fun i wr => ∃ k : Nat, k ≤ n ∧ i = .int .i64 k ∧ Hid (l.take k = m.take k) ∧ Hid (Ext w wr)) (fun i _ => n - (intOf i).toNat)
  case atStart => exact ⟨0, Nat.zero_le _, rfl, rfl, Ext.refl w⟩
  case round =>
    obtain ⟨k, hk, rfl, HT, HX⟩ := hrel
    by_cases hlt : k < n
    · obtain ⟨b1, o1, x, rfl, hx, hr1⟩ := Rw.range h1.out HX.out (j := k) (by rw [hnl2.out]; exact hlt)
      obtain ⟨b2, o2, y, rfl, hy, hr2⟩ := Rw.range h2.out HX.out (j := k) (by rw [hnm.out]; exact hlt)
      have q3 : (k : Int) < (n : Int) := by omega
      have q4 : (0 : Int) ≤ (k : Int) := by omega
      have hk1 : k + 1 ≤ n := by omega
      have hT2 := take_eq_snoc HT.out hx.out hy.out
      go_wp2_with fail
      have S0 : Hid (wr.rangeAt b1 (o1 + k * 16) (encC x) ∧ wr.rangeAt b2 (o2 + k * 16) (encC y)) := ⟨hr1.out, hr2.out⟩
      have S1 : Hid ((wr.drewN 1).rangeAt b1 (o1 + k * 16) (encC x) ∧ (wr.drewN 1).rangeAt b2 (o2 + k * 16) (encC y)) := ⟨fun j v hv => S0.out.1 j v hv, fun j v hv => S0.out.2 j v hv⟩
      refine held_start (S := fun W => W.rangeAt b1 (o1 + k * 16) (encC x) ∧ W.rangeAt b2 (o2 + k * 16) (encC y)) 9 rfl (by kernel_rfl) ?_
      refine held_move (i := 0) rfl (by kernel_rfl) (by kernel_rfl) (by kernel_rfl) _ rfl rfl S1.out _ (by simp [Act.put]; rfl) ?_
      refine held_move (i := 1) rfl (by kernel_rfl) (by kernel_rfl) (by kernel_rfl) _ rfl rfl S1.out _ (by simp [Act.put]; rfl) ?_
      refine held_move (i := 4) rfl (by kernel_rfl) (by kernel_rfl) (by kernel_rfl) _ rfl rfl S1.out _ (by simp [Act.put]; rfl) ?_
      refine held_move (i := 5) rfl (by kernel_rfl) (by kernel_rfl) (by kernel_rfl) _ rfl rfl S1.out _ (by simp [Act.put]; rfl) ?_
      refine held_takeV (i := 2) rfl (by kernel_rfl) (by kernel_rfl) (by kernel_rfl) (.pointer (some ⟨b1, o1 + k * 16, none⟩)) rfl (fun w _ => by go_simp) S1.out _ (by simp [Act.put]; rfl) ?_
      refine held_takeV (i := 3) rfl (by kernel_rfl) (by kernel_rfl) (by kernel_rfl) (.agg (encC x).toArray) rfl (fun w hS => run_load_mid 27 _ rfl b1 (o1 + k * 16) rfl (encC x) _ hS.1 Try.underlying27 rfl sizeC) S1.out _ (by simp [Act.put]; rfl) ?_
      refine held_takeV (i := 6) rfl (by kernel_rfl) (by kernel_rfl) (by kernel_rfl) (.pointer (some ⟨b2, o2 + k * 16, none⟩)) rfl (fun w _ => by go_simp) S1.out _ (by simp [Act.put]; rfl) ?_
      refine held_takeV (i := 7) rfl (by kernel_rfl) (by kernel_rfl) (by kernel_rfl) (.agg (encC y).toArray) rfl (fun w hS => run_load_mid 27 _ rfl b2 (o2 + k * 16) rfl (encC y) _ hS.2 Try.underlying27 rfl sizeC) S1.out _ (by simp [Act.put]; rfl) ?_
      refine held_takeV (i := 8) rfl (by kernel_rfl) (by kernel_rfl) (by kernel_rfl) (.bool (!decide (x = y))) rfl (fun w _ => run_neq_op 27 _ _ _ rfl (encC x).toArray (encC y).toArray rfl rfl hg _ (eqInC x y)) S1.out _ (by simp [Act.put]; rfl) ?_
      refine held_done (by kernel_rfl) ?_ _
      clear S0 S1 hr1 hr2
      have HX2 := Lib.hid (HX.out.drewN 1)
      by_cases he : x = y
      · have e2 := hT2.1 he
        have d2 : decide (x = y) = true := decide_eq_true he
        rw [d2]
        replace e2 := Lib.hid e2
        clear he hT2 hx hy d2 HT HX
        go_wp2
        go_roundw
        case rel => exact ⟨k + 1, hk1, by go_num, e2, HX2.out⟩
        case measure => simp [intOf]; omega
      · have d2 : decide (x = y) = false := decide_eq_false he
        rw [d2]
        have hRf : R = false := by
          rw [← hR.out, decide_eq_false_iff_not]
          rintro rfl
          exact he (hT2.2 rfl)
        subst hRf
        clear he hT2 hx hy d2 HT HX
        go_wp2
        go_ret
        exact ⟨rfl, HX2.out⟩
    · obtain rfl : k = n := by omega
      have hRt : R = true := by
        rw [← hR.out, decide_eq_true_iff]
        have := HT.out
        rw [List.take_of_length_le (by rw [hnl2.out]; exact Nat.le_refl _), List.take_of_length_le (by rw [hnm.out]; exact Nat.le_refl _)] at this
        exact this
      subst hRt
      go_wp2_with fail
      go_ret
      exact ⟨rfl, HX.out⟩

set_option maxRecDepth 100000 in
set_option maxHeartbeats 1000000 in
theorem rSameE {w : World} {A1 A2 : Option Addr} {l m : List Ev} (h1 : Rw encV 11 w A1 l) (h2 : Rw encV 11 w A2 m) (hl : l.length ≤ 4000000000) (c1 c2 : Nat) (hm : m.length ≤ 4000000000) :
    Calls Try.prog 40 #[.slice A1 l.length c1, .slice A2 m.length c2] w (RetB w (decide (l = m))) := by
  replace h1 := Lib.hid h1; replace h2 := Lib.hid h2
  obtain ⟨R, hR⟩ : ∃ R, decide (l = m) = R := ⟨_, rfl⟩
  rw [hR]
  replace hR := Lib.hid hR
  by_cases hn : l.length = m.length
  case neg =>
    have q1 : ((l.length : Int) != (m.length : Int)) = true := by rw [bne_iff_ne]; omega
    have q1b : (l.length != m.length) = true := by rw [bne_iff_ne]; omega
    have q1c : (l.length == m.length) = false := by rw [beq_eq_false_iff_ne]; omega
    have q1d : ((l.length : Int) == (m.length : Int)) = false := by rw [beq_eq_false_iff_ne]; omega
    have hRf : R = false := by rw [← hR.out, decide_eq_false_iff_not]; rintro rfl; exact hn rfl
    subst hRf
    go_enter Try.func40, Try.ntmps40
    go_wp2
    go_ret
    exact ⟨rfl, Ext.refl w⟩
  obtain ⟨n, hnl⟩ : ∃ n, l.length = n := ⟨_, rfl⟩
  rw [hnl]
  have hnm : Hid (m.length = n) := by show _ = _; omega
  rw [hnm.out]
  have hnl2 := Lib.hid hnl
  have hl2 : n ≤ 4000000000 := by omega
  clear hn hnl hm hl
  have hg := eqGuardV
  go_enter Try.func40, Try.ntmps40
  go_wp2_with fail
  go_loopw [5] (fun i wr => ∃ k : Nat, k ≤ n ∧ i = .int .i64 k ∧ Hid (l.take k = m.take k) ∧ Hid (Ext w wr)) (fun i _ => n - (intOf i).toNat)
  case atStart => exact ⟨0, Nat.zero_le _, rfl, rfl, Ext.refl w⟩
  case round =>
    obtain ⟨k, hk, rfl, HT, HX⟩ := hrel
    by_cases hlt : k < n
    · obtain ⟨b1, o1, x, rfl, hx, hr1⟩ := Rw.range h1.out HX.out (j := k) (by rw [hnl2.out]; exact hlt)
      obtain ⟨b2, o2, y, rfl, hy, hr2⟩ := Rw.range h2.out HX.out (j := k) (by rw [hnm.out]; exact hlt)
      have q3 : (k : Int) < (n : Int) := by omega
      have q4 : (0 : Int) ≤ (k : Int) := by omega
      have hk1 : k + 1 ≤ n := by omega
      have hT2 := take_eq_snoc HT.out hx.out hy.out
      go_wp2_with fail
      have S0 : Hid (wr.rangeAt b1 (o1 + k * 11) (encV x) ∧ wr.rangeAt b2 (o2 + k * 11) (encV y)) := ⟨hr1.out, hr2.out⟩
      have S1 : Hid ((wr.drewN 1).rangeAt b1 (o1 + k * 11) (encV x) ∧ (wr.drewN 1).rangeAt b2 (o2 + k * 11) (encV y)) := ⟨fun j v hv => S0.out.1 j v hv, fun j v hv => S0.out.2 j v hv⟩
      refine held_start (S := fun W => W.rangeAt b1 (o1 + k * 11) (encV x) ∧ W.rangeAt b2 (o2 + k * 11) (encV y)) 9 rfl (by kernel_rfl) ?_
      refine held_move (i := 0) rfl (by kernel_rfl) (by kernel_rfl) (by kernel_rfl) _ rfl rfl S1.out _ (by simp [Act.put]; rfl) ?_
      refine held_move (i := 1) rfl (by kernel_rfl) (by kernel_rfl) (by kernel_rfl) _ rfl rfl S1.out _ (by simp [Act.put]; rfl) ?_
      refine held_move (i := 4) rfl (by kernel_rfl) (by kernel_rfl) (by kernel_rfl) _ rfl rfl S1.out _ (by simp [Act.put]; rfl) ?_
      refine held_move (i := 5) rfl (by kernel_rfl) (by kernel_rfl) (by kernel_rfl) _ rfl rfl S1.out _ (by simp [Act.put]; rfl) ?_
      refine held_takeV (i := 2) rfl (by kernel_rfl) (by kernel_rfl) (by kernel_rfl) (.pointer (some ⟨b1, o1 + k * 11, none⟩)) rfl (fun w _ => by go_simp) S1.out _ (by simp [Act.put]; rfl) ?_
      refine held_takeV (i := 3) rfl (by kernel_rfl) (by kernel_rfl) (by kernel_rfl) (.agg (encV x).toArray) rfl (fun w hS => run_load_mid 23 _ rfl b1 (o1 + k * 11) rfl (encV x) _ hS.1 Try.underlying23 rfl sizeV) S1.out _ (by simp [Act.put]; rfl) ?_
      refine held_takeV (i := 6) rfl (by kernel_rfl) (by kernel_rfl) (by kernel_rfl) (.pointer (some ⟨b2, o2 + k * 11, none⟩)) rfl (fun w _ => by go_simp) S1.out _ (by simp [Act.put]; rfl) ?_
      refine held_takeV (i := 7) rfl (by kernel_rfl) (by kernel_rfl) (by kernel_rfl) (.agg (encV y).toArray) rfl (fun w hS => run_load_mid 23 _ rfl b2 (o2 + k * 11) rfl (encV y) _ hS.2 Try.underlying23 rfl sizeV) S1.out _ (by simp [Act.put]; rfl) ?_
      refine held_takeV (i := 8) rfl (by kernel_rfl) (by kernel_rfl) (by kernel_rfl) (.bool (!decide (x = y))) rfl (fun w _ => run_neq_op 23 _ _ _ rfl (encV x).toArray (encV y).toArray rfl rfl hg _ (eqInV x y)) S1.out _ (by simp [Act.put]; rfl) ?_
      refine held_done (by kernel_rfl) ?_ _
      clear S0 S1 hr1 hr2
      have HX2 := Lib.hid (HX.out.drewN 1)
      by_cases he : x = y
      · have e2 := hT2.1 he
        have d2 : decide (x = y) = true := decide_eq_true he
        rw [d2]
        replace e2 := Lib.hid e2
        clear he hT2 hx hy d2 HT HX
        go_wp2
        go_roundw
        case rel => exact ⟨k + 1, hk1, by go_num, e2, HX2.out⟩
        case measure => simp [intOf]; omega
      · have d2 : decide (x = y) = false := decide_eq_false he
        rw [d2]
        have hRf : R = false := by
          rw [← hR.out, decide_eq_false_iff_not]
          rintro rfl
          exact he (hT2.2 rfl)
        subst hRf
        clear he hT2 hx hy d2 HT HX
        go_wp2
        go_ret
        exact ⟨rfl, HX2.out⟩
    · obtain rfl : k = n := by omega
      have hRt : R = true := by
        rw [← hR.out, decide_eq_true_iff]
        have := HT.out
        rw [List.take_of_length_le (by rw [hnl2.out]; exact Nat.le_refl _), List.take_of_length_le (by rw [hnm.out]; exact Nat.le_refl _)] at this
        exact this
      subst hRt
      go_wp2_with fail
      go_ret
      exact ⟨rfl, HX.out⟩
end Go.Proofs.Ytmbjbbflhlndcaa
