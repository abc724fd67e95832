/-
  lumperlaw13.awake, few.
  lumperlaw13.few; FixesTell: the walk.
  A correction opened; FixesTell for a setup.
-/
import Derived.Test.YtmbjbbflhlndcaaQf3
import Derived.Test.YtmbjbbflhlndcaaLr2
import Derived.Test.YtmbjbbflhlndcaaLu3
import Derived.Test.YtmbjbbflhlndcaaKr2
namespace Go.Proofs.Ytmbjbbflhlndcaa
open Go.RowKit BigFrame
set_option linter.unusedVariables false
set_option linter.unusedSimpArgs false

@[reducible] def suF (v : Value) : Array Value := #[.int .i64 1, .slice none 0 0, .int .i64 0, .int .i64 0, .slice none 0 0, .slice none 0 0, .slice none 0 0, .int .i64 0, .int .i64 900, .int .i64 3600, .int .i64 0, .int .i64 0, .int .i64 0, .int .i64 0, .int .i64 0, .int .i64 0, .int .i64 0, .int .i64 0, v, .int .i64 0, .int .i64 0, .int .i64 0, .slice none 0 0]
theorem buildF (A : Option Addr) : Try.prog.built 55 [(7, .int .i64 900), (8, .int .i64 3600), (0, .int .i64 1), (17, .slice A 2 2)] = some (suF (.slice A 2 2)) := by kernel_rfl
theorem oneF (A : Option Addr) : (suF (.slice A 2 2)).all (·.oneCell') = true := by simp [Value.oneCell']
theorem suEF (A : Option Addr) : SuE (suF (.slice A 2 2)).toList 1 0 0 0 2 := ⟨rfl, rfl, ⟨none, 0, rfl⟩, ⟨none, 0, rfl⟩, ⟨none, 0, rfl⟩, ⟨A, 2, rfl⟩⟩
theorem suUF (A : Option Addr) : SuUC (suF (.slice A 2 2)).toList 900 3600 := ⟨rfl, rfl, rfl⟩
def f1 : Ev := { ev0 with id := 1, at_ := 100, kind := 1 }
def f2 : Ev := { ev0 with id := 2, at_ := 200, kind := 2 }
def f3 : Ev := { ev0 with id := 1, at_ := 604800, kind := 1, worker := 1 }
def f4 : Ev := { ev0 with id := 2, kind := 1 }
def f5 : Ev := { ev0 with id := 3 }
def c1 : List Ev × Int := applyE (checkE 1 0 0 0 2 f3) [f1, f2] ⟨3, f3⟩
theorem c1_is : applyE (checkE 1 0 0 0 2 f3) [f1, f2] ⟨3, f3⟩ = ([f2, f3], 0) := by decide
theorem c2_is : applyE (checkE 1 0 0 0 2 f4) [f1, f2] ⟨1, f4⟩ = ([], 130) := by decide
theorem c3_is : applyE (checkE 1 0 0 0 2 f5) [f1, f2] ⟨2, f5⟩ = ([], 131) := by decide
theorem c4_is : applyE (checkE 1 0 0 0 2 ev0) [f1, f2] ⟨4, ev0⟩ = ([], 80) := by decide
theorem c5_is : fdE [f1, f2] 2 = f2 := by decide
theorem c6_is : (ixE [f1, f2] 2).isSome = true := by decide
theorem c7_is : touchK [] (touchedL 900 3600 [f1, f2] ⟨3, f3⟩) = [⟨0, 0⟩, ⟨1, 0⟩, ⟨1, 1⟩] := by decide
set_option maxRecDepth 100000 in
set_option maxHeartbeats 4000000 in
theorem awake13 (w : World) : Calls Try.prog 44 #[] w (RetB w true) := by
  go_enter Try.func44, Try.ntmps44
  have SU0 := Lib.hid (Bx.new (w.alloc (.cells #[.int .i64 1, .int .i64 1] 3)) (suF (.slice (some ⟨w.heap.size, 0, none⟩) 2 2)).toList 55)
  have Y := Lib.hid (((Ext.refl w).alloc (.cells #[.int .i64 1, .int .i64 1] 3)).alloc (.cells (suF (.slice (some ⟨w.heap.size, 0, none⟩) 2 2)).toList.toArray 55))
  go_upto_region 2 with (first | (refine build_at rfl 55 _ rfl (suF (.slice (some ⟨w.heap.size, 0, none⟩) 2 2)) (buildF _) ?_) | (refine store_newE rfl 55 _ _ (by rfl) (w.alloc (.cells #[.int .i64 1, .int .i64 1] 3)) (w.heap.size + 1) (by simp) _ (suF (.slice (some ⟨w.heap.size, 0, none⟩) 2 2)) 55 rfl (by rfl) (by rfl) sizeS rfl (oneF _) ?_) | fail)
  have hgs : (w.alloc (.cells #[.int .i64 1, .int .i64 1] 3)).heap.size = w.heap.size + 1 := by simp
  rw [hgs] at SU0
  clear hgs
  obtain ⟨w1, hw1⟩ : ∃ W, (w.alloc (.cells #[.int .i64 1, .int .i64 1] 3)).alloc (.cells (suF (.slice (some ⟨w.heap.size, 0, none⟩) 2 2)).toList.toArray 55) = W := ⟨_, rfl⟩
  have hw1' : (w.alloc (.cells #[.int .i64 1, .int .i64 1] 3)).alloc (.cells (suF (.slice (some ⟨w.heap.size, 0, none⟩) 2 2)) 55) = w1 := hw1
  rw [hw1] at SU0 Y
  rw [hw1']
  clear hw1 hw1'
  obtain ⟨A1, hA1⟩ : ∃ A, (some ⟨w.heap.size, 0, none⟩ : Option Addr) = A := ⟨_, rfl⟩
  obtain ⟨gs, hgs⟩ : ∃ g, w.heap.size + 1 = g := ⟨_, rfl⟩
  rw [hgs] at SU0 ⊢
  rw [hA1] at SU0
  try rw [hA1]
  clear hgs hA1
  have L1 := Lib.hid (Rw.new_at elV w1 [f1, f2] 23 w1.heap.size rfl)
  have XX := Lib.hid ((Ext.refl w1).alloc (.cells (flat encV [f1, f2]).toArray 23))
  have SU1 := Lib.hid (SU0.out.ext XX.out); have X1 := Lib.hid (Y.out.trans XX.out)
  clear SU0 Y XX
  go_upto_region 3 with fail
  obtain ⟨w2, hw2⟩ : ∃ W, w1.alloc (.cells (flat encV [f1, f2]).toArray 23) = W := ⟨_, rfl⟩
  have hw2' : w1.alloc (.cells #[.int .i64 1, .int .i64 0, .int .i64 100, .int .i64 1, .int .i64 0, .int .i64 0, .int .i64 0, .int .i64 0, .int .i64 0, .int .i64 0, .int .i64 0, .int .i64 2, .int .i64 0, .int .i64 200, .int .i64 2, .int .i64 0, .int .i64 0, .int .i64 0, .int .i64 0, .int .i64 0, .int .i64 0, .int .i64 0] 23) = w2 := hw2
  rw [hw2] at L1 SU1 X1
  rw [hw2']
  clear hw2 hw2'
  obtain ⟨AL, hAL⟩ : ∃ A, (some ⟨w1.heap.size, 0, none⟩ : Option Addr) = A := ⟨_, rfl⟩
  rw [hAL] at L1 ⊢
  clear hAL
  go_wp2_with (first | (refine load_boxE (by rfl) 55 _ rfl gs rfl _ (suF (.slice A1 2 2)) rfl _ SU1.out _ Try.underlying55 rfl sizeS ?_) | fail)
  have k := pApply (suEF A1) L1.out 2 2 rfl (by decide) ⟨3, f3⟩
  simp only [c1_is] at k
  refine k.mono ?_
  rintro e w3 ⟨A3, c3, rfl, r3, x⟩
  have R2 := Lib.hid r3
  have L2 := Lib.hid (L1.out.ext x); have SU2 := Lib.hid (SU1.out.ext x); have X2 := Lib.hid (X1.out.trans x)
  clear x k L1 SU1 X1 r3
  go_wp2_with (first | (refine load_boxE (by rfl) 55 _ rfl gs rfl _ (suF (.slice A1 2 2)) rfl _ SU2.out _ Try.underlying55 rfl sizeS ?_) | fail)
  have k := pApply (suEF A1) L2.out 2 2 rfl (by decide) ⟨1, f4⟩
  simp only [c2_is] at k
  refine k.mono ?_
  rintro e w4 ⟨B1, b1, rfl, _, x⟩
  have R3 := Lib.hid (R2.out.ext x)
  have L3 := Lib.hid (L2.out.ext x); have SU3 := Lib.hid (SU2.out.ext x); have X3 := Lib.hid (X2.out.trans x)
  clear x k L2 SU2 X2 R2
  go_wp2_with (first | (refine load_boxE (by rfl) 55 _ rfl gs rfl _ (suF (.slice A1 2 2)) rfl _ SU3.out _ Try.underlying55 rfl sizeS ?_) | fail)
  have k := pApply (suEF A1) L3.out 2 2 rfl (by decide) ⟨2, f5⟩
  simp only [c3_is] at k
  refine k.mono ?_
  rintro e w5 ⟨B2, b2, rfl, _, x⟩
  have R4 := Lib.hid (R3.out.ext x)
  have L4 := Lib.hid (L3.out.ext x); have SU4 := Lib.hid (SU3.out.ext x); have X4 := Lib.hid (X3.out.trans x)
  clear x k L3 SU3 X3 R3
  go_wp2_with (first | (refine load_boxE (by rfl) 55 _ rfl gs rfl _ (suF (.slice A1 2 2)) rfl _ SU4.out _ Try.underlying55 rfl sizeS ?_) | fail)
  have k := pApply (suEF A1) L4.out 2 2 rfl (by decide) ⟨4, ev0⟩
  simp only [c4_is] at k
  refine k.mono ?_
  rintro e w6 ⟨B3, b3, rfl, _, x⟩
  have R5 := Lib.hid (R4.out.ext x)
  have L5 := Lib.hid (L4.out.ext x); have SU5 := Lib.hid (SU4.out.ext x); have X5 := Lib.hid (X4.out.trans x)
  clear x k L4 SU4 X4 R4
  go_wp2_with fail
  have k := pFind L5.out 2 2 2 rfl (by decide)
  rw [c5_is, c6_is] at k
  refine k.mono ?_
  rintro e w7 ⟨x, rfl⟩
  have R6 := Lib.hid (R5.out.ext x); have L6 := Lib.hid (L5.out.ext x); have SU6 := Lib.hid (SU5.out.ext x); have X6 := Lib.hid (X5.out.trans x)
  clear x k L5 SU5 X5 R5
  go_upto_region 8 with (first | (refine store_newE rfl 23 _ _ (by rfl) w7 w7.heap.size rfl _ (encV f2).toArray 23 rfl (by rfl) (by rfl) sizeV rfl (cells_ok f2) ?_) | fail)
  obtain ⟨gx, hgx⟩ : ∃ g, w7.heap.size = g := ⟨_, rfl⟩
  obtain ⟨w8, hw8⟩ : ∃ W, w7.alloc (.cells (encV f2).toArray 23) = W := ⟨_, rfl⟩
  have x : Ext w7 w8 := by rw [← hw8]; exact (Ext.refl w7).alloc _
  have BX8 : Hid (Bx w8 gx (encV f2) 23) := by rw [← hw8, ← hgx]; exact Bx.new w7 _ _
  have R8 := Lib.hid (R6.out.ext x); have L8 := Lib.hid (L6.out.ext x); have SU8 := Lib.hid (SU6.out.ext x); have X8 := Lib.hid (X6.out.trans x)
  rw [hgx, hw8]
  clear x L6 SU6 X6 R6 hgx hw8
  go_wp2_with (first | (refine load_boxE (by rfl) 55 _ rfl gs rfl _ (suF (.slice A1 2 2)) rfl _ SU8.out _ Try.underlying55 rfl sizeS ?_) | fail)
  have k := KK.pTouched (suUF A1) L8.out 2 2 rfl (by decide) ⟨3, f3⟩
  rw [c7_is] at k
  refine k.mono ?_
  rintro e w9 ⟨A9, c9, rfl, r9, x, _⟩
  have R9 := Lib.hid (R8.out.ext x); have X9 := Lib.hid (X8.out.trans x); have K9 := Lib.hid r9
  have cx := (BX8.out.ext x).cell 2 _ rfl
  clear x k L8 SU8 X8 R8 BX8 r9
  obtain ⟨bL, oL, hAL, hbL, hcL⟩ := R9.out (by simp)
  subst hAL
  have l0 : w9.cell? ⟨bL, oL, none⟩ = some (.int .i64 2) := hcL 0 (by decide) 0 (.int .i64 2) rfl
  have l1 : w9.cell? ⟨bL, oL + 12, none⟩ = some (.int .i64 1) := hcL 1 (by decide) 1 (.int .i64 1) rfl
  clear hcL
  go_upto_region 11 with fail
  try dsimp only [List.append]
  go_wp2_with fail
  have k := rSameK (w := w9.alloc (.cells (flat encK [⟨0, 0⟩, ⟨1, 0⟩, ⟨1, 1⟩]).toArray 106)) (K9.out.ext ((Ext.refl w9).alloc _)) (Rw.new_at elK w9 [⟨0, 0⟩, ⟨1, 0⟩, ⟨1, 1⟩] 106 w9.heap.size rfl) (by decide) c9 3 (by decide)
  rw [decide_eq_true rfl] at k
  refine k.mono ?_
  rintro e w10 ⟨rfl, x⟩
  have XF := Lib.hid ((X9.out.alloc (.cells (flat encK [⟨0, 0⟩, ⟨1, 0⟩, ⟨1, 1⟩]).toArray 106)).trans x)
  clear x k
  go_wp2_with fail
  go_ret
  exact ⟨rfl, XF.out⟩
end Go.Proofs.Ytmbjbbflhlndcaa
namespace Go.Proofs.Ytmbjbbflhlndcaa
open Go.RowKit BigFrame
set_option linter.unusedVariables false
set_option linter.unusedSimpArgs false

set_option maxRecDepth 100000 in
theorem pFew13 {cs : List Value} (hlen : cs.length = 23) {F : Bool} (kF : ∀ W, Calls Try.prog 61 #[.agg cs.toArray] W (RetB W F)) (A : Option Addr) (n c : Nat) (w : World) : Calls Try.prog 45 #[.agg cs.toArray, .slice A n c] w (RetB w (F && decide (n ≤ 100))) := by
  have B0 := Lib.hid (Bx.new w cs 55)
  have X0 := Lib.hid ((Ext.refl w).alloc (.cells cs.toArray 55))
  have hsz : (Try.prog.info? 55).map (·.size) = some cs.toArray.size := by rw [sizeS]; simp [hlen]
  replace hsz := Lib.hid hsz; replace kF := Lib.hid kF; replace hlen := Lib.hid hlen
  go_enter Try.func45, Try.ntmps45
  go_wp2_with (first | (refine load_box (by rfl) 55 _ rfl w.heap.size rfl _ _ B0.out _ Try.underlying55 rfl hsz.out ?_) | fail)
  refine (kF.out _).mono ?_
  rintro e w' ⟨rfl, x⟩
  have X1 := Lib.hid (X0.out.trans x)
  clear x X0
  cases F with
  | false =>
    go_wp2_with fail
    go_ret
    exact ⟨rfl, X1.out⟩
  | true =>
    have e : Hid (decide ((n : Int) ≤ 100) = (true && decide (n ≤ 100))) := by
      show _ = _
      rw [Bool.true_and]
      by_cases h : n ≤ 100
      · rw [decide_eq_true h, decide_eq_true (by omega)]
      · rw [decide_eq_false h, decide_eq_false (by omega)]
    go_wp2_with fail
    go_ret
    exact ⟨by rw [← e.out]; rfl, X1.out⟩
theorem applyE_len (chk : Bool) (l : List Ev) (f : Fx) : (applyE chk l f).1.length ≤ l.length + 1 := by
  have hd : ∀ i, (delE l i).length ≤ l.length := fun i => by
    unfold delE
    rw [List.length_append, List.length_take, List.length_drop]; omega
  unfold applyE
  repeat' split
  all_goals first
    | (show ([] : List Ev).length ≤ _; exact Nat.zero_le _)
    | (show (sortE _).length ≤ _; rw [sortE_len]; first | (rw [List.length_append]; exact Nat.le_refl _) | exact Nat.le_trans (hd _) (by omega) | (rw [List.length_append]; exact Nat.succ_le_succ (hd _)))
theorem touchedL_len (u c : Int) (l : List Ev) (f : Fx) : (touchedL u c l f).length ≤ 12 := by
  have a := weeksE_len u c (fdE l f.ev.id); have b := weeksE_len u c f.ev
  unfold touchedL
  rw [List.length_append]
  refine Nat.add_le_add (b := 6) (d := 6) ?_ ?_
  · split
    · split
      · exact a
      · exact Nat.zero_le _
    · exact Nat.zero_le _
  · split
    · exact b
    · exact Nat.zero_le _
theorem run_eql_op {a : Act} {o : Oper} {w : World} (T ty2 : TypeId) (x y : Operand) (ho : o.op = .binOp .eql T x y ty2) (xs ys : Array Value) (hx : a.eval x = .agg xs) (hy : a.eval y = .agg ys) (hg : Try.prog.eqGuardType Try.prog.depth T = false) (b : Bool)
    (hq : ∀ w, (Op.equalIn 10000 T (.agg xs) (.agg ys)).run Try.prog w = .ok b w) : (execOp a.eval o).run Try.prog w = .ok (.value (.bool b)) w := by
  unfold execOp
  simp only [ho, hx, hy]
  go_simp
set_option maxRecDepth 100000 in
set_option maxHeartbeats 8000000 in
theorem tell13 {cs : List Value} {pl u c : Int} {ne nc ng nr : Nat} (hsE : SuE cs pl ne nc ng nr) (hsU : SuUC cs u c) {F : Bool} (kF : ∀ W, Calls Try.prog 61 #[.agg cs.toArray] W (RetB W F)) {w : World} {Al : Option Addr} {l : List Ev} (hl : Re w Al l) (cl n : Nat) (hn : l.length = n) (hc : n ≤ cl) (f : Fx) (id : Int) :
    Calls Try.prog 14 #[.agg cs.toArray, .slice Al n cl, .agg (encF f).toArray, .int .i64 id] w (RetB w true) := by
  obtain ⟨W0, hW0⟩ : ∃ W0, (w.alloc (.cells cs.toArray 55)).alloc (.cells (encF f).toArray 25) = W0 := ⟨_, rfl⟩
  have BS0 : Hid (Bx W0 w.heap.size cs 55) := by rw [← hW0]; exact (Bx.new w cs 55).alloc _
  have BF0 : Hid (Bx W0 (w.heap.size + 1) (encF f) 25) := by
    rw [← hW0]
    have := Bx.new (w.alloc (.cells cs.toArray 55)) (encF f) 25
    rwa [show (w.alloc (.cells cs.toArray 55)).heap.size = w.heap.size + 1 from by simp] at this
  have X0 : Hid (Ext w W0) := by rw [← hW0]; exact ((Ext.refl w).alloc _).alloc _
  have L0 := Lib.hid (hl.ext X0.out)
  have hsz : (Try.prog.info? 55).map (·.size) = some cs.toArray.size := by rw [sizeS]; simp [hsE.len]
  have hsl : (Try.prog.info? 55).map (·.size) = some cs.length := by rw [sizeS]; simp [hsE.len]
  replace hsz := Lib.hid hsz; replace hsl := Lib.hid hsl; replace kF := Lib.hid kF; replace hsE := Lib.hid hsE; replace hsU := Lib.hid hsU; replace hW0 := Lib.hid hW0; replace hn := Lib.hid hn
  clear hl
  go_enter Try.func14, Try.ntmps14
  go_wp2_with fail
  rw [hW0.out]
  refine (awake13 _).mono ?_
  rintro e1 w1 ⟨rfl, y⟩
  have BS1 := Lib.hid (BS0.out.ext y); have BF1 := Lib.hid (BF0.out.ext y); have X1 := Lib.hid (X0.out.trans y); have L1 := Lib.hid (L0.out.ext y)
  clear y BS0 BF0 X0 L0 hW0
  go_wp2_with (first | (refine load_box (by rfl) 55 _ rfl w.heap.size rfl _ _ BS1.out _ Try.underlying55 rfl hsz.out ?_) | fail)
  refine (pFew13 hsE.out.len kF.out Al n cl _).mono ?_
  rintro e2 w2 ⟨rfl, y⟩
  have BS2 := Lib.hid (BS1.out.ext y); have BF2 := Lib.hid (BF1.out.ext y); have X2 := Lib.hid (X1.out.trans y); have L2 := Lib.hid (L1.out.ext y)
  clear y BS1 BF1 X1 L1
  obtain ⟨G, hG⟩ : ∃ G, (F && decide (n ≤ 100)) = G := ⟨_, rfl⟩
  rw [hG]
  cases G with
  | false =>
    clear hG
    go_wp2_with fail
    go_ret
    exact ⟨rfl, X2.out⟩
  | true =>
  have hn1 : n ≤ 100 := by cases F <;> simp at hG; exact hG
  clear hG
  obtain ⟨R, hR⟩ : ∃ R, (applyE (checkE pl ne nc ng nr f.ev) l f).1 = R := ⟨_, rfl⟩
  obtain ⟨r, hr⟩ : ∃ r, (applyE (checkE pl ne nc ng nr f.ev) l f).2 = r := ⟨_, rfl⟩
  have hRl : Hid (R.length ≤ 4000000000) := by
    have := applyE_len (checkE pl ne nc ng nr f.ev) l f
    rw [hR, hn.out] at this
    show _ ≤ _; omega
  have kA := Lib.hid (pApply hsE.out L2.out cl n hn.out (by omega) f)
  rw [hR, hr] at kA
  go_wp2_with (first | (refine load_box (by rfl) 55 _ rfl w.heap.size rfl _ _ BS2.out _ Try.underlying55 rfl hsz.out ?_) | (refine load_box (by rfl) 25 _ rfl (w.heap.size + 1) rfl _ _ BF2.out _ Try.underlying25 rfl sizeF ?_) | fail)
  refine kA.out.mono ?_
  rintro e3 w3 ⟨A3, c3, rfl, r3, y⟩
  have P3 := Lib.hid r3
  have BS3 := Lib.hid (BS2.out.ext y); have BF3 := Lib.hid (BF2.out.ext y); have X3 := Lib.hid (X2.out.trans y); have L3 := Lib.hid (L2.out.ext y)
  clear y BS2 BF2 X2 L2 
  clear r3 kA
  have kA := Lib.hid (rApply hsE.out L3.out cl n hn.out (by omega) hc f)
  rw [hR, hr] at kA
  go_wp2_with (first | (refine load_box (by rfl) 55 _ rfl w.heap.size rfl _ _ BS3.out _ Try.underlying55 rfl hsz.out ?_) | (refine load_box (by rfl) 25 _ rfl (w.heap.size + 1) rfl _ _ BF3.out _ Try.underlying25 rfl sizeF ?_) | fail)
  refine kA.out.mono ?_
  rintro e4 w4 ⟨A4, c4, rfl, r4, y⟩
  have Q4 := Lib.hid r4
  have BS4 := Lib.hid (BS3.out.ext y); have BF4 := Lib.hid (BF3.out.ext y); have X4 := Lib.hid (X3.out.trans y); have L4 := Lib.hid (L3.out.ext y)
  have P4 := Lib.hid (P3.out.ext y)
  clear y BS3 BF3 X3 L3 P3
  clear r4 kA hR hr
  obtain ⟨x, hx⟩ : ∃ x, fdE l id = x := ⟨_, rfl⟩
  obtain ⟨I, hI⟩ : ∃ I, (ixE l id).isSome = I := ⟨_, rfl⟩
  go_wp2_with fail
  have k := pFind L4.out id cl n hn.out (by omega)
  rw [hx, hI] at k
  refine k.mono ?_
  rintro e5 w5 ⟨y, rfl⟩
  have BS5 := Lib.hid (BS4.out.ext y); have BF5 := Lib.hid (BF4.out.ext y); have X5 := Lib.hid (X4.out.trans y); have L5 := Lib.hid (L4.out.ext y)
  have P5 := Lib.hid (P4.out.ext y)
  have Q5 := Lib.hid (Q4.out.ext y)
  clear y BS4 BF4 X4 L4 P4 Q4
  clear k
  go_upto_region 7 with (first | (refine store_newE rfl 23 _ _ (by rfl) w5 w5.heap.size rfl _ (encV x).toArray 23 rfl (by rfl) (by rfl) sizeV rfl (cells_ok x) ?_) | fail)
  obtain ⟨gx, hgx⟩ : ∃ g, w5.heap.size = g := ⟨_, rfl⟩
  obtain ⟨w6, hw6⟩ : ∃ W, w5.alloc (.cells (encV x).toArray 23) = W := ⟨_, rfl⟩
  have y : Ext w5 w6 := by rw [← hw6]; exact (Ext.refl w5).alloc _
  have C6 : Hid (Bx w6 gx (encV x) 23) := by rw [← hw6, ← hgx]; exact Bx.new w5 _ _
  rw [hgx, hw6]
  clear hgx hw6
  have BS6 := Lib.hid (BS5.out.ext y); have BF6 := Lib.hid (BF5.out.ext y); have X6 := Lib.hid (X5.out.trans y); have L6 := Lib.hid (L5.out.ext y)
  have P6 := Lib.hid (P5.out.ext y)
  have Q6 := Lib.hid (Q5.out.ext y)
  clear y BS5 BF5 X5 L5 P5 Q5
  go_wp2_with fail
  have k := rFind L6.out id cl n hn.out (by omega)
  rw [hx, hI] at k
  refine k.mono ?_
  rintro e7 w7 ⟨y, rfl⟩
  have BS7 := Lib.hid (BS6.out.ext y); have BF7 := Lib.hid (BF6.out.ext y); have X7 := Lib.hid (X6.out.trans y); have L7 := Lib.hid (L6.out.ext y)
  have P7 := Lib.hid (P6.out.ext y)
  have Q7 := Lib.hid (Q6.out.ext y)
  have C7 := Lib.hid (C6.out.ext y)
  clear y BS6 BF6 X6 L6 P6 Q6 C6
  clear k hx hI
  go_upto_region 8 with (first | (refine store_newE rfl 23 _ _ (by rfl) w7 w7.heap.size rfl _ (encV x).toArray 23 rfl (by rfl) (by rfl) sizeV rfl (cells_ok x) ?_) | fail)
  obtain ⟨gy, hgy⟩ : ∃ g, w7.heap.size = g := ⟨_, rfl⟩
  obtain ⟨wp, hwp⟩ : ∃ W, w7.alloc (.cells (encV x).toArray 23) = W := ⟨_, rfl⟩
  have D8 : Hid (Bx wp gy (encV x) 23) := by rw [← hwp, ← hgy]; exact Bx.new w7 _ _
  have yp : Ext w7 wp := by rw [← hwp]; exact (Ext.refl w7).alloc _
  rw [hgy, hwp]
  clear hgy hwp
  obtain ⟨w8, hw8⟩ : ∃ W, wp.drewN 1 = W := ⟨_, rfl⟩
  have y8 : Ext wp w8 := by rw [← hw8]; exact (Ext.refl wp).drewN 1
  have y : Ext w7 w8 := yp.trans y8
  replace D8 := Lib.hid (D8.out.ext y8)
  clear yp y8
  have BS8 := Lib.hid (BS7.out.ext y); have BF8 := Lib.hid (BF7.out.ext y); have X8 := Lib.hid (X7.out.trans y); have L8 := Lib.hid (L7.out.ext y)
  have P8 := Lib.hid (P7.out.ext y)
  have Q8 := Lib.hid (Q7.out.ext y)
  have C8 := Lib.hid (C7.out.ext y)
  clear y BS7 BF7 X7 L7 P7 Q7 C7
  have rS : Hid (∀ W, Ext w8 W → W.rangeAt w.heap.size 0 cs) := fun W hW => (BS8.out.ext hW).all
  have rF : Hid (∀ W, Ext w8 W → W.rangeAt (w.heap.size + 1) 0 (encF f)) := fun W hW => (BF8.out.ext hW).all
  have rC : Hid (∀ W, Ext w8 W → W.rangeAt gx 0 (encV x)) := fun W hW => (C8.out.ext hW).all
  have rD : Hid (∀ W, Ext w8 W → W.rangeAt gy 0 (encV x)) := fun W hW => (D8.out.ext hW).all
  have kq := rSameE P8.out Q8.out hRl.out c3 c4 hRl.out
  rw [decide_eq_true rfl] at kq
  replace kq := Lib.hid kq
  have hqx : ∀ W, (Op.equalIn 10000 23 (.agg (encV x).toArray) (.agg (encV x).toArray)).run Try.prog W = .ok true W := fun W => by
    have := eqInV x x W
    rwa [decide_eq_true rfl] at this
  have sizeFl : (Try.prog.info? 25).map (·.size) = some (encF f).length := sizeF
  refine held_start (S := fun W => Ext w8 W) 33 rfl (by kernel_rfl) ?_
  rw [show ({ wp with drawn := wp.drawn + 1 } : World) = w8 from hw8]
  clear hw8
  refine held_move (i := 0) rfl (by kernel_rfl) (by kernel_rfl) (by kernel_rfl) _ rfl rfl (Ext.refl w8) _ (by simp [Act.put]; rfl) ?_
  refine held_move (i := 1) rfl (by kernel_rfl) (by kernel_rfl) (by kernel_rfl) _ rfl rfl (Ext.refl w8) _ (by simp [Act.put]; rfl) ?_
  refine held_move (i := 2) rfl (by kernel_rfl) (by kernel_rfl) (by kernel_rfl) _ rfl rfl (Ext.refl w8) _ (by simp [Act.put]; rfl) ?_
  refine held_move (i := 3) rfl (by kernel_rfl) (by kernel_rfl) (by kernel_rfl) _ rfl rfl (Ext.refl w8) _ (by simp [Act.put]; rfl) ?_
  refine held_all (i := 4) rfl (by kernel_rfl) rfl ?_
  go_wp2_with fail
  refine kq.out.mono ?_
  rintro e9 w9 ⟨rfl, y9⟩
  refine ⟨y9, ?_⟩
  refine held_takeV (i := 5) rfl (by kernel_rfl) (by kernel_rfl) (by kernel_rfl) (.bool true) rfl (fun W _ => by go_simp) y9 _ (by simp [Act.put]; rfl) ?_
  refine held_move (i := 6) rfl (by kernel_rfl) (by kernel_rfl) (by kernel_rfl) _ rfl rfl y9 _ (by simp [Act.put]; rfl) ?_
  refine held_move (i := 7) rfl (by kernel_rfl) (by kernel_rfl) (by kernel_rfl) _ rfl rfl y9 _ (by simp [Act.put]; rfl) ?_
  refine held_move (i := 8) rfl (by kernel_rfl) (by kernel_rfl) (by kernel_rfl) _ rfl rfl y9 _ (by simp [Act.put]; rfl) ?_
  refine held_takeV (i := 9) rfl (by kernel_rfl) (by kernel_rfl) (by kernel_rfl) (.bool true) rfl (fun W _ => by go_simp) y9 _ (by simp [Act.put]; rfl) ?_
  refine held_takeV (i := 10) rfl (by kernel_rfl) (by kernel_rfl) (by kernel_rfl) (.bool true) rfl (fun W _ => by go_simp) y9 _ (by simp [Act.put]; rfl) ?_
  refine held_move (i := 11) rfl (by kernel_rfl) (by kernel_rfl) (by kernel_rfl) _ rfl rfl y9 _ (by simp [Act.put]; rfl) ?_
  refine held_takeV (i := 12) rfl (by kernel_rfl) (by kernel_rfl) (by kernel_rfl) (.agg (encV x).toArray) rfl (fun W hW => run_load_mid 23 _ rfl gx 0 rfl (encV x) _ (rC.out W hW) Try.underlying23 rfl sizeE) y9 _ (by simp [Act.put]; rfl) ?_
  refine held_takeV (i := 13) rfl (by kernel_rfl) (by kernel_rfl) (by kernel_rfl) (.agg (encV x).toArray) rfl (fun W hW => run_load_mid 23 _ rfl gy 0 rfl (encV x) _ (rD.out W hW) Try.underlying23 rfl sizeE) y9 _ (by simp [Act.put]; rfl) ?_
  refine held_takeV (i := 14) rfl (by kernel_rfl) (by kernel_rfl) (by kernel_rfl) (.bool true) rfl (fun W _ => run_eql_op 23 _ _ _ rfl (encV x).toArray (encV x).toArray rfl rfl eqGuardV _ hqx) y9 _ (by simp [Act.put]; rfl) ?_
  refine held_takeV (i := 15) rfl (by kernel_rfl) (by kernel_rfl) (by kernel_rfl) (.bool true) rfl (fun W _ => by go_simp) y9 _ (by simp [Act.put]; rfl) ?_
  refine held_move (i := 16) rfl (by kernel_rfl) (by kernel_rfl) (by kernel_rfl) _ rfl rfl y9 _ (by simp [Act.put]; rfl) ?_
  refine held_move (i := 17) rfl (by kernel_rfl) (by kernel_rfl) (by kernel_rfl) _ rfl rfl y9 _ (by simp [Act.put]; rfl) ?_
  refine held_move (i := 18) rfl (by kernel_rfl) (by kernel_rfl) (by kernel_rfl) _ rfl rfl y9 _ (by simp [Act.put]; rfl) ?_
  refine held_takeV (i := 19) rfl (by kernel_rfl) (by kernel_rfl) (by kernel_rfl) (.bool true) rfl (fun W _ => by go_simp) y9 _ (by simp [Act.put]; rfl) ?_
  refine held_takeV (i := 20) rfl (by kernel_rfl) (by kernel_rfl) (by kernel_rfl) (.bool true) rfl (fun W _ => by go_simp) y9 _ (by simp [Act.put]; rfl) ?_
  refine held_move (i := 21) rfl (by kernel_rfl) (by kernel_rfl) (by kernel_rfl) _ rfl rfl y9 _ (by simp [Act.put]; rfl) ?_
  refine held_takeV (i := 22) rfl (by kernel_rfl) (by kernel_rfl) (by kernel_rfl) (.agg cs.toArray) rfl (fun W hW => run_load_mid 55 _ rfl w.heap.size 0 rfl cs _ (rS.out W hW) Try.underlying55 rfl hsl.out) y9 _ (by simp [Act.put]; rfl) ?_
  refine held_move (i := 23) rfl (by kernel_rfl) (by kernel_rfl) (by kernel_rfl) _ rfl rfl y9 _ (by simp [Act.put]; rfl) ?_
  refine held_takeV (i := 24) rfl (by kernel_rfl) (by kernel_rfl) (by kernel_rfl) (.agg (encF f).toArray) rfl (fun W hW => run_load_mid 25 _ rfl (w.heap.size + 1) 0 rfl (encF f) _ (rF.out W hW) Try.underlying25 rfl sizeFl) y9 _ (by simp [Act.put]; rfl) ?_
  refine held_takeV (i := 26) rfl (by kernel_rfl) (by kernel_rfl) (by kernel_rfl) (.agg cs.toArray) rfl (fun W hW => run_load_mid 55 _ rfl w.heap.size 0 rfl cs _ (rS.out W hW) Try.underlying55 rfl hsl.out) y9 _ (by simp [Act.put]; rfl) ?_
  refine held_move (i := 27) rfl (by kernel_rfl) (by kernel_rfl) (by kernel_rfl) _ rfl rfl y9 _ (by simp [Act.put]; rfl) ?_
  refine held_takeV (i := 28) rfl (by kernel_rfl) (by kernel_rfl) (by kernel_rfl) (.agg (encF f).toArray) rfl (fun W hW => run_load_mid 25 _ rfl (w.heap.size + 1) 0 rfl (encF f) _ (rF.out W hW) Try.underlying25 rfl sizeFl) y9 _ (by simp [Act.put]; rfl) ?_
  refine held_all (i := 25) rfl (by kernel_rfl) rfl ?_
  go_wp2_with fail
  obtain ⟨K, hK⟩ : ∃ K, touchK [] (touchedL u c l f) = K := ⟨_, rfl⟩
  have kt := KK.pTouched hsU.out (L8.out.ext y9) cl n hn.out (by omega) f
  rw [hK] at kt
  refine kt.mono ?_
  rintro e10 w10 ⟨A10, c10, rfl, r10, y10, _⟩
  refine ⟨y9.trans y10, ?_⟩
  refine held_all (i := 29) rfl (by kernel_rfl) rfl ?_
  go_wp2_with fail
  have kt := rTouched13 hsU.out (L8.out.ext (y9.trans y10)) cl n hn.out (by omega) f
  rw [hK] at kt
  refine kt.mono ?_
  rintro e11 w11 ⟨A11, c11, rfl, r11, y11, _⟩
  refine ⟨(y9.trans y10).trans y11, ?_⟩
  refine held_all (i := 30) rfl (by kernel_rfl) rfl ?_
  go_wp2_with fail
  have hKl : K.length ≤ 4000000000 := by
    have h1 := touchK_len (touchedL u c l f) []
    have h2 := touchedL_len u c l f
    rw [hK] at h1
    simp at h1
    omega
  have kt := rSameK (r10.ext y11) r11 hKl c10 c11 hKl
  rw [decide_eq_true rfl] at kt
  refine kt.mono ?_
  rintro e12 w12 ⟨rfl, y12⟩
  have y13 := ((y9.trans y10).trans y11).trans y12
  refine ⟨y13, ?_⟩
  refine held_takeV (i := 31) rfl (by kernel_rfl) (by kernel_rfl) (by kernel_rfl) (.bool true) rfl (fun W _ => by go_simp) y13 _ (by simp [Act.put]; rfl) ?_
  refine held_assign (i := 32) rfl (by kernel_rfl) (by kernel_rfl) (by kernel_rfl) _ rfl rfl y13 _ (by simp [Act.put]; rfl) ?_
  refine held_done (by kernel_rfl) ?_ _
  have XF := Lib.hid (X8.out.trans y13)
  clear kt hKl hK y13 y12 y11 y10 y9 r10 r11
  go_wp2_with fail
  go_ret
  exact ⟨rfl, XF.out⟩
end Go.Proofs.Ytmbjbbflhlndcaa
namespace Go.Proofs.Ytmbjbbflhlndcaa
open Go.ChangeShapes Go.WideShapes Go.ChangeAt Go.RowKit BigFrame
set_option linter.unusedVariables false
set_option linter.unusedSimpArgs false

def Fx64 (f : Fx) : Prop := B64 f.kind ∧ Ev64 f.ev
theorem fx_of {zs : List Int} (hl : zs.length = 12) (h : ∀ z ∈ zs, B64 z) : ∃ f : Fx, zs.map (Value.int .i64) = encF f ∧ Fx64 f := by
  cases zs with
  | nil => cases hl
  | cons a zs =>
    obtain ⟨e, he, h64⟩ := ev_of (zs := zs) (by simpa using hl) (fun z hz => h z (by simp [hz]))
    exact ⟨⟨a, e⟩, by rw [List.map_cons, he]; rfl, h a (by simp), h64⟩
set_option maxRecDepth 100000 in
theorem open_fix {H : Type} {enc : TypeId × Value → H} {w : World} {base b0 : Nat} {spare : Nat → Bool} {held : Bool} {r : Reach} {v : Value} {d : DataW H} {p : List MemPlace} (hv : Value.okWide Try.prog w r b0 25 v) (h : DataW.Trod enc Try.prog w base spare held 25 v d p) :
    ∃ f : Fx, v = .agg (encF f).toArray ∧ Fx64 f := by
  obtain ⟨cs, rfl, hsz⟩ := okWide_struct Try.underlying25 hv
  obtain ⟨fuel, hf⟩ := h
  obtain ⟨zs, hz, hl, hb⟩ := intsFix.2 _ _ _ _ _ _ _ _ _ hf
  obtain ⟨c, he, h64⟩ := fx_of hl hb
  refine ⟨c, ?_, h64⟩
  rw [← he, ← hz]
  rfl
theorem suU_of (s : Su) (h : Sh) : SuUC (s.cells h) s.unit s.cap := ⟨rfl, rfl, rfl⟩
theorem tell13' (s : Su) (h : Sh) {w : World} {A : Option Addr} {l : List Ev} (hl : Re w A l) (cl : Nat) (hc : l.length ≤ cl ∧ cl ≤ maxLen) (f : Fx) (id : Int) :
    Calls Try.prog 14 #[.agg (s.cells h).toArray, .slice A l.length cl, .agg (encF f).toArray, .int .i64 id] w (RetB w true) := by
  obtain ⟨F, _, kF⟩ := fewB s h
  exact tell13 (suE_of s h) (suU_of s h) kF hl cl l.length rfl hc.1 f id
end Go.Proofs.Ytmbjbbflhlndcaa
