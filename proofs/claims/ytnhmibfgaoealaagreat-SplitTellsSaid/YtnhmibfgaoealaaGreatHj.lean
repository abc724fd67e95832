/-
  Laws of layer 17: SplitTells.
-/
import Derived.Test.YtnhmibfgaoealaaGreatHi
namespace Go.Proofs.YtnhmibfgaoealaaGreat
open Go.RowKit BigFrame
set_option linter.unusedVariables false
set_option linter.unusedSimpArgs false

theorem eqInA (a0 a1 a2 a3 a4 a5 a6 : Int) (w : World) : (Op.equalIn 10000 43 (.agg #[.int .i64 a0, .int .i64 a1, .int .i64 a2, .int .i64 a3, .int .i64 a4, .int .i64 a5, .int .i64 a6]) (.agg #[.int .i64 a0, .int .i64 a1, .int .i64 a2, .int .i64 a3, .int .i64 a4, .int .i64 a5, .int .i64 a6])).run Tryz.prog w = .ok true w := by
  have u3 := Tryz.underlying3
  have a3 := Tryz.isAgg3
  have z3 := Tryz.sizeOf3
  have hc : Tryz.prog.cellsOf 3 = 1 := by kernel_rfl
  have hu : Tryz.prog.underlying 43 = some (.array 7 3) := by kernel_rfl
  cases hi : Tryz.prog.info? 3 with
  | none =>
    have : (Tryz.prog.info? 3).isSome = true := by kernel_rfl
    rw [hi] at this; cases this
  | some i =>
    rw [show (10000 : Nat) = 9999 + 1 from rfl, run_equalIn_array w 9999 _ _ hu hi, hc, show List.range 7 = [0, 1, 2, 3, 4, 5, 6] from rfl]
    clear hi hu
    simp only [Op.eqItems]
    go_simp

set_option maxRecDepth 100000 in
set_option maxHeartbeats 4000000 in
theorem splitTells0 (cs : List Value) (hcs : cs.length = 23) (l : List SegL) (A : Option Addr) (c : Nat) (d : Int) (q : List Pt) (AQ : Option Addr) (cq : Nat) (p : Prop) (m : List Pt) (w : World) (h : Rg w A l) (hq : Ps w AQ q) (lq : q.length ≤ 9223372036854775807)
    (kF : ∀ W, Ext w W → ∀ A c, Rg W A l → Calls Tryz.prog 10 #[.agg cs.toArray, .slice A l.length c] W (RetP W p))
    (kS : p → ∀ W, Ext w W → ∀ A c, Rg W A l → Calls Tryz.prog 18 #[.agg cs.toArray, .slice A l.length c, .int .i64 d] W (RetPs W m))
    (kR : p → ∀ W, Ext w W → ∀ A c, Rg W A l → Calls Tryz.prog 19 #[.agg cs.toArray, .slice A l.length c, .int .i64 d] W (RetPs W m))
    (bl : p → m.length ≤ 90000000) :
    Calls Tryz.prog 4 #[.agg cs.toArray, .slice A l.length c, .int .i64 d, .slice AQ q.length cq] w (RetB w true) := by
  replace kF := Lib.hid kF; replace kS := Lib.hid kS; replace kR := Lib.hid kR; replace h := Lib.hid h; replace bl := Lib.hid bl; replace hq := Lib.hid hq
  have hi := Lib.hid (su_size hcs)
  clear hcs
  have hs0 := Bx.new w cs 30
  have X0 := (Ext.refl w).alloc (.cells cs.toArray 30)
  have hg0 := h.out.alloc (.cells cs.toArray 30)
  go_enter Tryz.func4, Tryz.ntmps4
  go_wp2_with fail
  refine (awake17 _).mono ?_
  rintro e w1 ⟨rfl, x1⟩
  have hs1 := hs0.ext x1; clear hs0
  have hg1 := hg0.ext x1; clear hg0
  have X1 := X0.trans x1
  go_wp2_with (first | (refine load_box rfl 30 _ rfl _ rfl _ _ hs1 _ Tryz.underlying30 rfl hi.out ?_))
  refine (kF.out _ X1 _ _ hg1).mono ?_
  rintro e w2 ⟨⟨b, rfl, hb⟩, x2⟩
  have hs2 := hs1.ext x2; clear hs1
  have hg2 := hg1.ext x2; clear hg1
  have X2 := X1.trans x2
  cases b
  · clear hb
    go_wp2
    go_ret
    exact ⟨rfl, X2⟩
  · have hp := hb rfl
    clear hb
    by_cases hlq : 100 < q.length
    · have d1 : decide ((100 : Int) < (q.length : Int)) = true := decide_eq_true (by omega)
      go_wp2
      go_ret
      exact ⟨rfl, X2⟩
    · have d1 : decide ((100 : Int) < (q.length : Int)) = false := decide_eq_false (by omega)
      have lb1 := bl.out hp
      have hS := Lib.hid (kS.out hp); have hR := Lib.hid (kR.out hp)
      have ls : Hid (∀ c, (spansOf q c).length ≤ 900000) := fun c => Nat.le_trans (spansOf_len q c) (by omega)
      have HS2 := Lib.hid hs2; have HG2 := Lib.hid hg2; have HX2 := Lib.hid X2; have HQ2 := Lib.hid (hq.out.ext X2)
      have hg := eqGuardA
      clear X0 X1 X2 x1 x2 hs2 hg2 kS kR kF bl
      have kT := fun (W : World) (r : Ps W AQ q) => pTotals r (by omega) ls.out cq
      have kU := fun (W : World) (r : Ps W AQ q) => rTotals r (by omega) ls.out cq
      unfold RetA totC at kT kU
      obtain ⟨a0, e0⟩ : ∃ a, totN q 7 0 = a := ⟨_, rfl⟩
      rw [e0] at kT kU
      obtain ⟨a1, e1⟩ : ∃ a, totN q 7 1 = a := ⟨_, rfl⟩
      rw [e1] at kT kU
      obtain ⟨a2, e2⟩ : ∃ a, totN q 7 2 = a := ⟨_, rfl⟩
      rw [e2] at kT kU
      obtain ⟨a3, e3⟩ : ∃ a, totN q 7 3 = a := ⟨_, rfl⟩
      rw [e3] at kT kU
      obtain ⟨a4, e4⟩ : ∃ a, totN q 7 4 = a := ⟨_, rfl⟩
      rw [e4] at kT kU
      obtain ⟨a5, e5⟩ : ∃ a, totN q 7 5 = a := ⟨_, rfl⟩
      rw [e5] at kT kU
      obtain ⟨a6, e6⟩ : ∃ a, totN q 7 6 = a := ⟨_, rfl⟩
      rw [e6] at kT kU
      clear e0 e1 e2 e3 e4 e5 e6
      replace kT := Lib.hid kT; replace kU := Lib.hid kU
      go_wp2_with fail
      have S0 : Hid (Bx (w2.drewN 1) w.heap.size cs 30) := HS2.out.drewN 1
      have G0 := Lib.hid (HG2.out.drewN 1); have X0 := Lib.hid (HX2.out.drewN 1); have Q0 := Lib.hid (HQ2.out.drewN 1)
      clear HS2 HG2 HX2 HQ2
      refine held_start (S := fun W => Bx W w.heap.size cs 30) 20 rfl (by kernel_rfl) ?_
      refine held_move (i := 0) rfl (by kernel_rfl) (by kernel_rfl) (by kernel_rfl) _ rfl rfl S0.out _ (by simp [Act.put]; rfl) ?_
      refine held_move (i := 1) rfl (by kernel_rfl) (by kernel_rfl) (by kernel_rfl) _ rfl rfl S0.out _ (by simp [Act.put]; rfl) ?_
      refine held_box (i := 2) rfl (by kernel_rfl) (by kernel_rfl) (by kernel_rfl) rfl 30 _ rfl _ rfl cs 30 (fun w h => h) _ Tryz.underlying30 rfl hi.out S0.out _ (by simp [Act.put]; rfl) ?_
      refine held_move (i := 3) rfl (by kernel_rfl) (by kernel_rfl) (by kernel_rfl) _ rfl rfl S0.out _ (by simp [Act.put]; rfl) ?_
      refine held_move (i := 4) rfl (by kernel_rfl) (by kernel_rfl) (by kernel_rfl) _ rfl rfl S0.out _ (by simp [Act.put]; rfl) ?_
      refine held_box (i := 6) rfl (by kernel_rfl) (by kernel_rfl) (by kernel_rfl) rfl 30 _ rfl _ rfl cs 30 (fun w h => h) _ Tryz.underlying30 rfl hi.out S0.out _ (by simp [Act.put]; rfl) ?_
      refine held_move (i := 7) rfl (by kernel_rfl) (by kernel_rfl) (by kernel_rfl) _ rfl rfl S0.out _ (by simp [Act.put]; rfl) ?_
      refine held_move (i := 8) rfl (by kernel_rfl) (by kernel_rfl) (by kernel_rfl) _ rfl rfl S0.out _ (by simp [Act.put]; rfl) ?_
      refine held_all (i := 5) rfl (by kernel_rfl) rfl ?_
      go_wp2_with fail
      refine (hS.out _ X0.out _ _ G0.out).mono ?_
      rintro e y1 ⟨A1, c1, rfl, m1, x1⟩
      have S1 := Lib.hid (S0.out.ext x1); have G1 := Lib.hid (G0.out.ext x1); have X1 := Lib.hid (X0.out.trans x1); have Q1 := Lib.hid (Q0.out.ext x1); have M1 := Lib.hid m1
      refine ⟨S1.out, ?_⟩
      refine held_all (i := 9) rfl (by kernel_rfl) rfl ?_
      go_wp2_with fail
      refine (hR.out _ X1.out _ _ G1.out).mono ?_
      rintro e y2 ⟨A2, c2, rfl, m2, x2⟩
      have S2 := Lib.hid (S1.out.ext x2); have G2 := Lib.hid (G1.out.ext x2); have X2 := Lib.hid (X1.out.trans x2); have Q2 := Lib.hid (Q1.out.ext x2); have M2 := Lib.hid m2; have M1b := Lib.hid (M1.out.ext x2)
      refine ⟨S2.out, ?_⟩
      refine held_all (i := 10) rfl (by kernel_rfl) rfl ?_
      have sm := rSameP M1b.out M2.out (Nat.le_trans lb1 (by decide)) c1 c2
      rw [decide_eq_true rfl] at sm
      replace sm := Lib.hid sm
      go_wp2_with fail
      refine sm.out.mono ?_
      rintro e y3 ⟨rfl, x3⟩
      have S3 := Lib.hid (S2.out.ext x3); have X3 := Lib.hid (X2.out.trans x3); have Q3 := Lib.hid (Q2.out.ext x3)
      clear sm x3 S2 X2 Q2 G2 M2 M1b M1 S1 X1 Q1 G1
      refine ⟨S3.out, ?_⟩
      refine wpAnyH_take (i := 11) (v := .bool true) rfl (by kernel_rfl) (by kernel_rfl) (by kernel_rfl) (fun _ _ _ h => h) (.inl ⟨rfl, fun w hT => by first | (go_simp; done) | (go_simp; rfl)⟩) S3.out ?_
      simp only [Act.put, List.setIfInBounds_toArray, List.set_cons_zero, List.set_cons_succ]
      refine held_move (i := 12) rfl (by kernel_rfl) (by kernel_rfl) (by kernel_rfl) _ rfl rfl S3.out _ (by simp [Act.put]; rfl) ?_
      refine held_move (i := 13) rfl (by kernel_rfl) (by kernel_rfl) (by kernel_rfl) _ rfl rfl S3.out _ (by simp [Act.put]; rfl) ?_
      refine held_move (i := 15) rfl (by kernel_rfl) (by kernel_rfl) (by kernel_rfl) _ rfl rfl S3.out _ (by simp [Act.put]; rfl) ?_
      refine held_all (i := 14) rfl (by kernel_rfl) rfl ?_
      go_wp2_with fail
      refine (kT.out _ Q3.out).mono ?_
      rintro e y4 ⟨rfl, x4⟩
      have S4 := Lib.hid (S3.out.ext x4); have X4 := Lib.hid (X3.out.trans x4); have Q4 := Lib.hid (Q3.out.ext x4)
      refine ⟨S4.out, ?_⟩
      refine held_all (i := 16) rfl (by kernel_rfl) rfl ?_
      go_wp2_with fail
      refine (kU.out _ Q4.out).mono ?_
      rintro e y5 ⟨rfl, x5⟩
      have S5 := Lib.hid (S4.out.ext x5); have X5 := Lib.hid (X4.out.trans x5); have Q5 := Lib.hid (Q4.out.ext x5)
      refine ⟨S5.out, ?_⟩
      refine wpAnyH_take (i := 17) (v := .bool true) rfl (by kernel_rfl) (by kernel_rfl) (by kernel_rfl) (fun _ _ _ h => h) (.inl ⟨rfl, fun w hT => by have he := eqInA a0 a1 a2 a3 a4 a5 a6 w; first | (go_simp; done) | (go_simp; rfl)⟩) S5.out ?_
      simp only [Act.put, List.setIfInBounds_toArray, List.set_cons_zero, List.set_cons_succ]
      refine wpAnyH_take (i := 18) (v := .bool true) rfl (by kernel_rfl) (by kernel_rfl) (by kernel_rfl) (fun _ _ _ h => h) (.inl ⟨rfl, fun w hT => by first | (go_simp; done) | (go_simp; rfl)⟩) S5.out ?_
      simp only [Act.put, List.setIfInBounds_toArray, List.set_cons_zero, List.set_cons_succ]
      refine held_assign (i := 19) rfl (by kernel_rfl) (by kernel_rfl) (by kernel_rfl) _ rfl rfl S5.out _ (by simp [Act.put]; rfl) ?_
      refine held_done (by kernel_rfl) ?_ _
      go_wp2
      go_ret
      exact ⟨rfl, X5.out⟩

theorem tells17 (s : Su) (g : Sh) (ok : SuOk s) (l : List SegL) (A : Option Addr) (c : Nat) (hl : l.length ≤ maxLen) (d : Int) (q : List Pt) (AQ : Option Addr) (cq : Nat) (lq : q.length ≤ maxLen) (w : World) (r : SuR w s g) (h : Rg w A l) (hq : Ps w AQ q) :
    Calls Tryz.prog 4 #[.agg (s.cells g).toArray, .slice A l.length c, .int .i64 d, .slice AQ q.length cq] w (RetB w true) := by
  have a1 : Few15 s l → l.length ≤ 30 := fun p => p.2.1
  exact splitTells0 (s.cells g) rfl l A c d q AQ cq (Few15 s l) (partsS s l d) w h hq (by unfold maxLen at lq; omega) (fun W X A c h => pFew15 s g h hl c) (fun p W X A c h => pParts ok p.1 (r.ext X) h (a1 p) c d) (fun p W X A c h => pRParts ok (r.ext X) h (a1 p) c d) (fun p => Nat.le_trans (partsS_len s l (a1 p) d) (by decide))
end Go.Proofs.YtnhmibfgaoealaaGreat
