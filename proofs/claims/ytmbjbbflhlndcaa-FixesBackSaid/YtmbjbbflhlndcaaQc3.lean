/-
  Keys; lumperref13: Ahead, Put.
  lumperref13: Same, touch, Touched.
-/
import Derived.Test.YtmbjbbflhlndcaaQb3
namespace Go.Proofs.Ytmbjbbflhlndcaa
open Go.RowKit BigFrame
set_option linter.unusedVariables false
set_option linter.unusedSimpArgs false

structure Ky where
  worker : Int
  week : Int
  deriving DecidableEq
def encK (k : Ky) : List Value := [.int .i64 k.worker, .int .i64 k.week]
theorem elK : El encK 2 78 106 16 where
  under := Try.underlying78
  info := ⟨.agg #[.int .i64 0, .int .i64 0], by kernel_rfl, rfl⟩
  len := fun _ => rfl
  one := fun x u h => by simp [encK] at h; rcases h with rfl | rfl <;> rfl
  pos := by decide
  few := by decide
abbrev Rk := Rw encK 2
theorem sizeK : (Try.prog.info? 106).map (·.size) = some 2 := by kernel_rfl
theorem elemK : Try.prog.underlying 78 = some (.slice (Try.prog.elem 78)) := by kernel_rfl
theorem sizeOfK (w : World) : (sizeOf (Try.prog.elem 78)).run Try.prog w = .ok 2 w := by kernel_rfl
theorem slice_hiK {A : Option Addr} {O : List Ky} {n c j : Nat} (hn : n = O.length) (hj : j ≤ n) (hc : n ≤ c) :
    ∃ A', (∀ w : World, (Instr.sliceAt 78 (.slice A n c) none (some (.int .i64 j)) none).run Try.prog w = .ok (.slice A' j c) w) ∧ ∀ w, Rk w A O → Rk w A' (O.take j) := by
  subst hn
  obtain ⟨A', nT, h1, h2, h3, h4⟩ := slice_hiG 78 2 (enc := encK) elemK sizeOfK (A := A) (O := O) (n := O.length) (c := c) (j := j) rfl hj hc
  have e : nT = j := by rw [h1.out, List.length_take]; omega
  subst e
  exact ⟨A', h3, h4⟩
theorem fillK (x : Ky) (c : Array Value) (hc : c.size = 2) : Instr.fill (fun i => some (i * 2, 2)) c [(0, .agg (encK x).toArray)] = some (encK x).toArray := by
  obtain ⟨l⟩ := c
  match l, hc with
  | [a0, a1], _ => simp [Instr.fill, Value.cells, encK, Array.zipIdx]
theorem wp_buildK {o : Oper} {a : Act} {w : World} {K : Act → World → Prop} {Q : Exit → Act → World → Prop} (y : Operand) (ho : o.op = .buildSlice 78 1 #[(0, y)]) (x : Ky) (hy : a.eval y = .agg (encK x).toArray)
    (h : K (a.put o.dst (.slice (some ⟨w.heap.size, 0, none⟩) 1 1)) (w.alloc (.cells (encK x).toArray 106))) : o.wp Try.prog a w K Q := by
  obtain ⟨z, hinfo, hzc⟩ := elK.info
  obtain ⟨i0, hi, hz0, hz1, hz2⟩ := info_parts hinfo
  refine wp_buildSlice 78 106 1 _ ho (encK x).toArray i0 z elK.under hi hz0 (by rw [hz1]; decide) (by rw [hz1]; decide) ?_ h
  rw [hz1]
  have e : (#[(0, y)].map fun (i, x) => (i, a.eval x)).toList = [(0, a.eval y)] := by simp
  rw [e, hy]
  exact fillK x _ (by simp)
theorem own_k1 (w : World) (x : Ky) : ((w.alloc (.cells (encK x).toArray 106)).alloc (.cells #[] 106)).ownsRow w.heap.size 106 2 (.slice (some ⟨w.heap.size + 1, 0, none⟩) 0 0) 0 (flat encK []) := by
  have := own_emptyG (E := 106) (enc := encK) (k := 2) (w.alloc (.cells (encK x).toArray 106)) w.heap.size (by simp)
  rwa [show (w.alloc (.cells (encK x).toArray 106)).heap.size = w.heap.size + 1 from by simp] at this
/-- A key ahead of another one. -/
def aheadK (a b : Ky) : Bool := decide (a.worker < b.worker ∨ a.worker = b.worker ∧ a.week < b.week)
def cutK (k : Ky) (l : List Ky) : Nat := (l.takeWhile (aheadK · k)).length
def putK (l : List Ky) (k : Ky) : List Ky := if l[cutK k l]? = some k then l else l.take (cutK k l) ++ (k :: l.drop (cutK k l))
theorem cutK_is {k : Ky} : ∀ {l : List Ky} {i : Nat}, i ≤ l.length → (∀ t y, t < i → l[t]? = some y → aheadK y k = true) → (∀ y, l[i]? = some y → aheadK y k = false) → cutK k l = i
  | [], i, hi, _, _ => by simp at hi; subst hi; rfl
  | x :: l, 0, _, _, h2 => by
    have := h2 x rfl
    unfold cutK
    rw [List.takeWhile_cons, this]; rfl
  | x :: l, i + 1, hi, h1, h2 => by
    have hx := h1 0 x (by omega) rfl
    have ih := cutK_is (k := k) (l := l) (i := i) (by simpa using hi) (fun t y ht hy => h1 (t + 1) y (by omega) (by simpa using hy)) (fun y hy => h2 y (by simpa using hy))
    unfold cutK at ih ⊢
    rw [List.takeWhile_cons, hx]
    simp [ih]
def RetK (w : World) (R : List Ky) (e : Ending) (w' : World) : Prop := ∃ A cap, e = .returned (.slice A R.length cap) ∧ Rk w' A R ∧ Ext w w' ∧ R.length ≤ cap ∧ cap ≤ maxLen

theorem ahead_or (a b : Ky) : aheadK a b = (decide (a.worker < b.worker) || (a.worker == b.worker && decide (a.week < b.week))) := by
  unfold aheadK
  by_cases h1 : a.worker < b.worker <;> by_cases h2 : a.worker = b.worker <;> by_cases h3 : a.week < b.week <;> simp [h1, h2, h3]
set_option maxRecDepth 100000 in
theorem rAhead (a b : Ky) (w : World) : Calls Try.prog 117 #[.agg (encK a).toArray, .agg (encK b).toArray] w (RetB w (aheadK a b)) := by
  have HA := (Bx.new w (encK a) 106).alloc (.cells (encK b).toArray 106)
  have HB : Bx ((w.alloc (.cells (encK a).toArray 106)).alloc (.cells (encK b).toArray 106)) (w.heap.size + 1) (encK b) 106 := by
    have := Bx.new (w.alloc (.cells (encK a).toArray 106)) (encK b) 106
    rw [show (w.alloc (.cells (encK a).toArray 106)).heap.size = w.heap.size + 1 from by simp] at this
    exact this
  have X := Lib.hid (((Ext.refl w).alloc (.cells (encK a).toArray 106)).alloc (.cells (encK b).toArray 106))
  have a0 := HA.cell 0 _ rfl; have a1 := HA.cell 1 _ rfl; have b0 := HB.cell 0 _ rfl; have b1 := HB.cell 1 _ rfl
  obtain ⟨L, hL⟩ : ∃ L, aheadK a b = L := ⟨_, rfl⟩
  rw [hL]
  have hL2 := Lib.hid ((ahead_or a b).symm.trans hL)
  clear HA HB hL
  by_cases h1 : a.worker < b.worker
  · have q1 : decide (a.worker < b.worker) = true := decide_eq_true h1
    have hLt : L = true := by rw [← hL2.out]; simp [h1]
    subst hLt
    clear hL2 h1
    go_enter Try.func117, Try.ntmps117
    go_wp2
    go_ret
    exact ⟨rfl, X.out⟩
  · have q1 : decide (a.worker < b.worker) = false := decide_eq_false h1
    by_cases h2 : (a.worker == b.worker) = true
    · have hLt : L = decide (a.week < b.week) := by rw [← hL2.out, h2, q1]; simp
      subst hLt
      clear hL2 h1
      go_enter Try.func117, Try.ntmps117
      go_wp2
      go_ret
      exact ⟨rfl, X.out⟩
    · replace h2 : (a.worker == b.worker) = false := by simpa using h2
      have hLt : L = false := by rw [← hL2.out, h2, q1]; simp
      subst hLt
      clear hL2 h1
      go_enter Try.func117, Try.ntmps117
      go_wp2
      go_ret
      exact ⟨rfl, X.out⟩
theorem eqInK (e f : Ky) (w : World) : (Op.equalIn 10000 106 (.agg (encK e).toArray) (.agg (encK f).toArray)).run Try.prog w = .ok (decide (e = f)) w := by
  have u3 := Try.underlying3
  have a3 := Try.isAgg3
  have z3 := Try.sizeOf3
  have hS : Try.prog.underlying 106 = some (.struct (Try.prog.fieldsOf 106)) := by kernel_rfl
  have hp : Try.prog.stoodInHeld 106 = false := by kernel_rfl
  rw [show (10000 : Nat) = 9999 + 1 from rfl, run_equalIn_agg w 9999 106 _ _ hS hp]
  simp only [Program.fieldsOf, Try.underlying106, encK]
  go_simp
  by_cases h : e = f
  · subst h; simp
  · rw [decide_eq_false h]
    repeat' split
    all_goals first
      | rfl
      | exact absurd (by cases e; cases f; simp_all) h
set_option maxRecDepth 100000 in
set_option maxHeartbeats 8000000 in
theorem rPutK {w : World} {A : Option Addr} {l : List Ky} (h : Rk w A l) (c n : Nat) (hn : l.length = n) (hl : n ≤ 1000) (hc : n ≤ c ∧ c ≤ maxLen) (k : Ky) : Calls Try.prog 100 #[.slice A n c, .agg (encK k).toArray] w (RetK w (putK l k)) := by
  have B0 := Lib.hid (Bx.new w (encK k) 106)
  have X0 := Lib.hid ((Ext.refl w).alloc (.cells (encK k).toArray 106))
  obtain ⟨w1, hw1⟩ : ∃ W, w.alloc (.cells (encK k).toArray 106) = W := ⟨_, rfl⟩
  have L1 := Lib.hid (h.ext X0.out)
  rw [hw1] at B0 X0 L1
  replace hn := Lib.hid hn; replace hw1 := Lib.hid hw1
  clear h
  obtain ⟨hc1, hc2⟩ := hc
  go_enter Try.func100, Try.ntmps100
  go_wp2_with fail
  rw [hw1.out]
  go_loopw [5] (fun vi wr => ∃ i : Nat, i ≤ n ∧ vi = .int .i64 i ∧ Hid (∀ t y, t < i → l[t]? = some y → aheadK y k = true) ∧ Hid (Ext w1 wr)) (fun vi _ => n - (intOf vi).toNat)
  case atStart => exact ⟨0, Nat.zero_le _, rfl, (by intro t y ht; omega), Ext.refl _⟩
  case round =>
    obtain ⟨i, hin, rfl, HB, XR⟩ := hrel
    obtain ⟨wq, hwq⟩ : ∃ W, wr = W := ⟨_, rfl⟩
    rw [hwq] at XR ⊢
    clear hwq
    have q3 : (i : Int) ≤ (n : Int) := by omega
    by_cases hlt : i < n
    · have q1 : (i : Int) < (n : Int) := by omega
      have q1d : decide ((i : Int) < (n : Int)) = true := decide_eq_true q1
      obtain ⟨x, hx⟩ : ∃ x, l[i]? = some x := ⟨_, List.getElem?_eq_getElem (by rw [hn.out]; exact hlt)⟩
      replace hx := Lib.hid hx
      obtain ⟨b, off, rfl, hr⟩ := L1.out.far (by rintro rfl; have := hn.out; simp at this; omega)
      have kL := Lib.hid (fun W => rAhead x k W)
      cases hL : aheadK x k with
      | true =>
        rw [hL] at kL
        have HB2 : Hid (∀ t y, t < i + 1 → l[t]? = some y → aheadK y k = true) := fun t y ht hy => by
          by_cases e : t < i
          · exact HB.out t y e hy
          · obtain rfl : t = i := by omega
            rw [hx.out] at hy; cases hy; exact hL
        clear hL
        go_wp2_with fail
        refine wp_region_later wq (Ext.refl _) (by kernel_rfl) (by kernel_rfl) ?_
        go_big_quiet_step (fail)
        go_big_quiet_step (fail)
        go_big_quiet_step (fail)
        go_big_quiet_step (fail)
        go_big_quiet_step (fail)
        go_big_quiet_step (fail)
        go_big_quiet_step (fail)
        go_big_quiet_step (fail)
        refine quiet_mid (by rfl) 106 _ rfl b (off + i * 2) rfl (encK x) (fun W ⟨e, he⟩ => by subst he; exact hr _ (XR.out.trans e.2) i x hx.out) _ Try.underlying106 rfl sizeK _ (by simp [Act.put]; rfl) ?_
        refine quiet_box (by rfl) 106 _ rfl w.heap.size rfl (encK k) _ (fun W ⟨e, he⟩ => by subst he; exact B0.out.ext (XR.out.trans e.2)) _ Try.underlying106 rfl sizeK _ (by simp [Act.put]; rfl) ?_
        go_big_quiet_step (exact later_bool (kL.out _))
        go_big_quiet_step (fail)
        refine wpQuiet_nil ?_
        rintro _ ⟨e6, rfl⟩
        have X6 := Lib.hid (XR.out.trans e6.2)
        go_wp2_with fail
        exact ⟨⟨i + 1, by omega, by first | rfl | go_num | (congr 1; omega), HB2, X6⟩, by simp [intOf]; omega⟩
      | false =>
        rw [hL] at kL
        have hcut : Hid (cutK k l = i) := cutK_is (by rw [hn.out]; exact hin) HB.out (fun y hy => by rw [hx.out] at hy; cases hy; exact hL)
        clear hL
        go_wp2_with fail
        refine wp_region_later wq (Ext.refl _) (by kernel_rfl) (by kernel_rfl) ?_
        go_big_quiet_step (fail)
        go_big_quiet_step (fail)
        go_big_quiet_step (fail)
        go_big_quiet_step (fail)
        go_big_quiet_step (fail)
        go_big_quiet_step (fail)
        go_big_quiet_step (fail)
        go_big_quiet_step (fail)
        refine quiet_mid (by rfl) 106 _ rfl b (off + i * 2) rfl (encK x) (fun W ⟨e, he⟩ => by subst he; exact hr _ (XR.out.trans e.2) i x hx.out) _ Try.underlying106 rfl sizeK _ (by simp [Act.put]; rfl) ?_
        refine quiet_box (by rfl) 106 _ rfl w.heap.size rfl (encK k) _ (fun W ⟨e, he⟩ => by subst he; exact B0.out.ext (XR.out.trans e.2)) _ Try.underlying106 rfl sizeK _ (by simp [Act.put]; rfl) ?_
        go_big_quiet_step (exact later_bool (kL.out _))
        go_big_quiet_step (fail)
        refine wpQuiet_nil ?_
        rintro _ ⟨e6, rfl⟩
        have X6 := Lib.hid (XR.out.trans e6.2)
        obtain ⟨we, hwe⟩ : ∃ W, e6.1 = W := ⟨_, rfl⟩
        rw [hwe] at X6 ⊢
        clear hwe kL
        have hq := fun W => eqInK x k W
        by_cases hxk : x = k
        · rw [decide_eq_true hxk] at hq
          have hP : Hid (putK l k = l) := by show _ = _; unfold putK; rw [hcut.out, if_pos (by rw [hx.out, hxk])]
          clear hxk
          go_wp2_with fail
          refine wp_region_later we (Ext.refl _) (by kernel_rfl) (by kernel_rfl) ?_
          go_big_quiet_step (fail)
          go_big_quiet_step (fail)
          go_big_quiet_step (fail)
          go_big_quiet_step (fail)
          go_big_quiet_step (fail)
          go_big_quiet_step (fail)
          go_big_quiet_step (fail)
          go_big_quiet_step (fail)
          refine quiet_mid (by rfl) 106 _ rfl b (off + i * 2) rfl (encK x) (fun W ⟨e, he⟩ => by subst he; exact hr _ (X6.out.trans e.2) i x hx.out) _ Try.underlying106 rfl sizeK _ (by simp [Act.put]; rfl) ?_
          refine quiet_box (by rfl) 106 _ rfl w.heap.size rfl (encK k) _ (fun W ⟨e, he⟩ => by subst he; exact B0.out.ext (X6.out.trans e.2)) _ Try.underlying106 rfl sizeK _ (by simp [Act.put]; rfl) ?_
          go_big_quiet_step (fail)
          go_big_quiet_step (fail)
          refine wpQuiet_nil ?_
          rintro _ ⟨e7, rfl⟩
          have X7 := Lib.hid ((X0.out.trans X6.out).trans e7.2)
          have L7 := Lib.hid (L1.out.ext (X6.out.trans e7.2))
          clear hq hr
          go_wp2_with fail
          go_ret
          exact ⟨_, _, by rw [hP.out, hn.out]; rfl, by rw [hP.out]; exact L7.out, X7.out, by rw [hP.out, hn.out]; exact hc1, hc2⟩
        · rw [decide_eq_false hxk] at hq
          have hP : Hid (putK l k = l.take i ++ (k :: l.drop i)) := by show _ = _; unfold putK; rw [hcut.out, if_neg (by rw [hx.out]; intro e; exact hxk (by simpa using e))]
          clear hxk
          go_wp2_with fail
          refine wp_region_later we (Ext.refl _) (by kernel_rfl) (by kernel_rfl) ?_
          go_big_quiet_step (fail)
          go_big_quiet_step (fail)
          go_big_quiet_step (fail)
          go_big_quiet_step (fail)
          go_big_quiet_step (fail)
          go_big_quiet_step (fail)
          go_big_quiet_step (fail)
          go_big_quiet_step (fail)
          refine quiet_mid (by rfl) 106 _ rfl b (off + i * 2) rfl (encK x) (fun W ⟨e, he⟩ => by subst he; exact hr _ (X6.out.trans e.2) i x hx.out) _ Try.underlying106 rfl sizeK _ (by simp [Act.put]; rfl) ?_
          refine quiet_box (by rfl) 106 _ rfl w.heap.size rfl (encK k) _ (fun W ⟨e, he⟩ => by subst he; exact B0.out.ext (X6.out.trans e.2)) _ Try.underlying106 rfl sizeK _ (by simp [Act.put]; rfl) ?_
          go_big_quiet_step (fail)
          go_big_quiet_step (fail)
          refine wpQuiet_nil ?_
          rintro _ ⟨e7, rfl⟩
          obtain ⟨A, hAA⟩ : ∃ A, (some ⟨b, off, none⟩ : Option Addr) = A := ⟨_, rfl⟩
          rw [hAA] at L1 ⊢
          clear hq hr hAA
          have XE : Hid (Ext w1 e7.1) := X6.out.trans e7.2
          obtain ⟨WE, hWE⟩ : ∃ W, e7.1 = W := ⟨_, rfl⟩
          rw [hWE] at XE ⊢
          clear hWE
          obtain ⟨Ad, cd, nD, hnD, hdc, hsl, hrd⟩ := slice_loP 78 2 (enc := encK) elemK sizeOfK (A := A) (O := l) (n := n) (c := c) (j := i) hn.out.symm hin hc1
          obtain ⟨At, hsl2, hrt⟩ := slice_hiK (A := A) (O := l) (n := n) (c := c) (j := i) hn.out.symm hin hc1
          have lD : Hid (nD + i = n) := by show _ = _; rw [hnD.out, List.length_drop, hn.out]; omega
          have hTk : Hid ((l.take i).length = i) := by show _ = _; rw [List.length_take, hn.out]; omega
          have bD : nD ≤ 1000 := by have := lD.out; omega
          go_wp2_with (at_builtin; refine appG elK w1 _ (XE.out.alloc _) _ _ (by rfl) (by rfl) 0 _ [] (l.drop i) (by rfl) (own_base (own_emptyG WE _ (Nat.le_refl _)) XE.out.size) rfl Ad cd nD (by rfl) hnD.out ((hrd _ (L1.out.ext XE.out)).alloc _) (by rw [List.length_nil, ← hnD.out]; omega) ?_; intro A6 c6 w6 o6 x6; rw [Nat.zero_add, List.nil_append] at o6; rw [Nat.zero_add])
          have hR6 : Hid (Rk w6 A6 (l.drop i)) := by rw [hnD.out] at o6; exact Rw.own elK o6
          have X8 := Lib.hid x6
          obtain ⟨w8, hw8⟩ : ∃ W, w6.drewN 1 = W := ⟨_, rfl⟩
          have X68 : Ext w6 w8 := by rw [← hw8]; exact (Ext.refl w6).drewN 1
          replace hR6 := Lib.hid (hR6.out.ext X68); replace X8 := Lib.hid (X8.out.trans X68)
          have hRt := Lib.hid (hrt _ (L1.out.ext X8.out))
          have B8 : Hid (∀ W, Ext w8 W → Bx W w.heap.size (encK k) 106) := fun W hW => B0.out.ext (X8.out.trans hW)
          clear o6 x6 hrd hrt hdc X68
          refine held_start (S := fun W => Ext w8 W) 11 rfl (by kernel_rfl) ?_
          have hW8 : { w6 with drawn := w6.drawn + 1 } = w8 := hw8
          rw [hW8]
          clear hW8 hw8
          refine held_move (i := 1) rfl (by kernel_rfl) (by kernel_rfl) (by kernel_rfl) _ rfl rfl (Ext.refl w8) _ (by simp [Act.put]; rfl) ?_
          refine held_move (i := 2) rfl (by kernel_rfl) (by kernel_rfl) (by kernel_rfl) _ rfl rfl (Ext.refl w8) _ (by simp [Act.put]; rfl) ?_
          refine held_takeV (i := 3) rfl (by kernel_rfl) (by kernel_rfl) (by kernel_rfl) (.slice At i c) rfl (fun w _ => by go_simp) (Ext.refl w8) _ (by simp [Act.put]; rfl) ?_
          refine held_boxV (i := 5) rfl (by kernel_rfl) (by kernel_rfl) (by kernel_rfl) rfl 106 _ rfl w.heap.size rfl (encK k) 106 (fun W hW => B8.out W hW) _ Try.underlying106 rfl sizeK (Ext.refl w8) _ (by simp [Act.put]; rfl) ?_
          refine held_move (i := 8) rfl (by kernel_rfl) (by kernel_rfl) (by kernel_rfl) _ rfl rfl (Ext.refl w8) _ (by simp [Act.put]; rfl) ?_
          clear hsl hsl2
          refine held_two (i := 0) (j := 6) rfl rfl (by kernel_rfl) rfl rfl ?_ ?_
          · go_wp2_with fail
            refine ⟨((Ext.refl w8).alloc _), ?_⟩
            refine held_two (i := 4) (j := 6) rfl rfl (by kernel_rfl) rfl rfl ?_ ?_
            · refine wp_appG elK w8 _ ((Ext.refl w8).alloc _) _ _ rfl 0 _ [] (l.take i) (by rfl) (own_emptyG w8 _ (Nat.le_refl _)) rfl At c i (by rfl) hTk.out.symm (hRt.out.ext ((Ext.refl w8).alloc _)) (by rw [List.length_nil, hTk.out]; omega) ?_
              intro A40 c40 w40 o40 x40 g40 _
              rw [Nat.zero_add, List.nil_append] at o40
              rw [Nat.zero_add]
              refine ⟨x40, ?_⟩
              refine held_all (i := 6) rfl (by kernel_rfl) rfl ?_
              refine wp_buildK _ rfl k (by rfl) ?_
              refine ⟨x40.alloc _, ?_⟩
              refine held_all (i := 7) rfl (by kernel_rfl) rfl ?_
              refine wp_appG elK w8 _ (x40.alloc _) _ _ rfl i _ (l.take i) [k] (by rfl) (own_below o40 ((Ext.refl w40).alloc _)) hTk.out.symm (some ⟨w40.heap.size, 0, none⟩) 1 1 (by rfl) rfl (Rw.new_at elK w40 [k] 106 _ rfl) (by rw [hTk.out]; simp; omega) ?_
              intro A46 c46 w46 o46 x46 _ _
              refine ⟨x46, ?_⟩
              refine held_all (i := 9) rfl (by kernel_rfl) rfl ?_
              refine wp_appG elK w8 _ x46 _ _ rfl (i + 1) _ (l.take i ++ [k]) (l.drop i) (by rfl) o46 (by rw [List.length_append, hTk.out]; rfl) A6 c6 nD (by rfl) hnD.out (hR6.out.ext x46) (by rw [List.length_append, hTk.out, ← hnD.out]; simp; omega) ?_
              intro A48 c48 w48 o48 x48 _ _
              refine ⟨x48, ?_⟩
              refine held_assign (i := 10) rfl (by kernel_rfl) (by kernel_rfl) (by kernel_rfl) _ rfl rfl x48 _ (by simp [Act.put]; rfl) ?_
              refine held_done (by kernel_rfl) ?_ _
              have hPl : Hid ((putK l k).length = i + 1 + nD) := by show _ = _; rw [hP.out, List.length_append, List.length_cons, hTk.out, ← hnD.out]; omega
              have ok : Hid (w48.ownsRow w8.heap.size 106 2 (.slice A48 (putK l k).length c48) (putK l k).length (flat encK (putK l k))) := by
                show World.ownsRow _ _ _ _ _ _ _
                rw [hPl.out, hP.out]
                have e2 : (l.take i ++ [k]) ++ l.drop i = l.take i ++ (k :: l.drop i) := by simp
                rw [← e2]; exact o48
              have X9 := Lib.hid ((X0.out.trans X8.out).trans x48)
              clear o48 x48 o46 x46
              go_wp2_with fail
              go_ret
              exact ⟨A48, c48, by rw [hPl.out]; rfl, Rw.own elK ok.out, X9.out, own_cap ok.out⟩
            · refine wp_buildK _ rfl k (by rfl) ?_
              refine ⟨(((Ext.refl w8).alloc _).alloc _), ?_⟩
              refine held_all (i := 4) rfl (by kernel_rfl) rfl ?_
              refine wp_appG elK w8 _ (((Ext.refl w8).alloc _).alloc _) _ _ rfl 0 _ [] (l.take i) (by rfl) (own_below (own_emptyG w8 _ (Nat.le_refl _)) ((Ext.refl _).alloc _)) rfl At c i (by rfl) hTk.out.symm (hRt.out.ext (((Ext.refl w8).alloc _).alloc _)) (by rw [List.length_nil, hTk.out]; omega) ?_
              intro A40 c40 w40 o40 x40 g40 _
              rw [Nat.zero_add, List.nil_append] at o40
              rw [Nat.zero_add]
              refine ⟨x40, ?_⟩
              refine held_all (i := 7) rfl (by kernel_rfl) rfl ?_
              refine wp_appG elK w8 _ x40 _ _ rfl i _ (l.take i) [k] (by rfl) o40 hTk.out.symm (some ⟨(w8.alloc (.cells #[] 106)).heap.size, 0, none⟩) 1 1 (by rfl) rfl ((Rw.new_at elK (w8.alloc (.cells #[] 106)) [k] 106 _ rfl).moved g40 (by rintro b0 o0 h0; cases h0; intro h1; simp [Value.ownBlock] at h1)) (by rw [hTk.out]; simp; omega) ?_
              intro A46 c46 w46 o46 x46 _ _
              refine ⟨x46, ?_⟩
              refine held_all (i := 9) rfl (by kernel_rfl) rfl ?_
              refine wp_appG elK w8 _ x46 _ _ rfl (i + 1) _ (l.take i ++ [k]) (l.drop i) (by rfl) o46 (by rw [List.length_append, hTk.out]; rfl) A6 c6 nD (by rfl) hnD.out (hR6.out.ext x46) (by rw [List.length_append, hTk.out, ← hnD.out]; simp; omega) ?_
              intro A48 c48 w48 o48 x48 _ _
              refine ⟨x48, ?_⟩
              refine held_assign (i := 10) rfl (by kernel_rfl) (by kernel_rfl) (by kernel_rfl) _ rfl rfl x48 _ (by simp [Act.put]; rfl) ?_
              refine held_done (by kernel_rfl) ?_ _
              have hPl : Hid ((putK l k).length = i + 1 + nD) := by show _ = _; rw [hP.out, List.length_append, List.length_cons, hTk.out, ← hnD.out]; omega
              have ok : Hid (w48.ownsRow w8.heap.size 106 2 (.slice A48 (putK l k).length c48) (putK l k).length (flat encK (putK l k))) := by
                show World.ownsRow _ _ _ _ _ _ _
                rw [hPl.out, hP.out]
                have e2 : (l.take i ++ [k]) ++ l.drop i = l.take i ++ (k :: l.drop i) := by simp
                rw [← e2]; exact o48
              have X9 := Lib.hid ((X0.out.trans X8.out).trans x48)
              clear o48 x48 o46 x46
              go_wp2_with fail
              go_ret
              exact ⟨A48, c48, by rw [hPl.out]; rfl, Rw.own elK ok.out, X9.out, own_cap ok.out⟩
          · refine wp_buildK _ rfl k (by rfl) ?_
            refine ⟨((Ext.refl w8).alloc _), ?_⟩
            refine held_all (i := 0) rfl (by kernel_rfl) rfl ?_
            go_wp2_with fail
            refine ⟨(((Ext.refl w8).alloc _).alloc _), ?_⟩
            refine held_all (i := 4) rfl (by kernel_rfl) rfl ?_
            refine wp_appG elK w8 _ (((Ext.refl w8).alloc _).alloc _) _ _ rfl 0 _ [] (l.take i) (by rfl) (own_k1 w8 k) rfl At c i (by rfl) hTk.out.symm (hRt.out.ext (((Ext.refl w8).alloc _).alloc _)) (by rw [List.length_nil, hTk.out]; omega) ?_
            intro A40 c40 w40 o40 x40 g40 _
            rw [Nat.zero_add, List.nil_append] at o40
            rw [Nat.zero_add]
            refine ⟨x40, ?_⟩
            refine held_all (i := 7) rfl (by kernel_rfl) rfl ?_
            refine wp_appG elK w8 _ x40 _ _ rfl i _ (l.take i) [k] (by rfl) o40 hTk.out.symm (some ⟨w8.heap.size, 0, none⟩) 1 1 (by rfl) rfl ((Rw.new_at elK w8 [k] 106 _ rfl).alloc _ |>.moved g40 (by rintro b0 o0 h0; cases h0; intro h1; simp [Value.ownBlock] at h1)) (by rw [hTk.out]; simp; omega) ?_
            intro A46 c46 w46 o46 x46 _ _
            refine ⟨x46, ?_⟩
            refine held_all (i := 9) rfl (by kernel_rfl) rfl ?_
            refine wp_appG elK w8 _ x46 _ _ rfl (i + 1) _ (l.take i ++ [k]) (l.drop i) (by rfl) o46 (by rw [List.length_append, hTk.out]; rfl) A6 c6 nD (by rfl) hnD.out (hR6.out.ext x46) (by rw [List.length_append, hTk.out, ← hnD.out]; simp; omega) ?_
            intro A48 c48 w48 o48 x48 _ _
            refine ⟨x48, ?_⟩
            refine held_assign (i := 10) rfl (by kernel_rfl) (by kernel_rfl) (by kernel_rfl) _ rfl rfl x48 _ (by simp [Act.put]; rfl) ?_
            refine held_done (by kernel_rfl) ?_ _
            have hPl : Hid ((putK l k).length = i + 1 + nD) := by show _ = _; rw [hP.out, List.length_append, List.length_cons, hTk.out, ← hnD.out]; omega
            have ok : Hid (w48.ownsRow w8.heap.size 106 2 (.slice A48 (putK l k).length c48) (putK l k).length (flat encK (putK l k))) := by
              show World.ownsRow _ _ _ _ _ _ _
              rw [hPl.out, hP.out]
              have e2 : (l.take i ++ [k]) ++ l.drop i = l.take i ++ (k :: l.drop i) := by simp
              rw [← e2]; exact o48
            have X9 := Lib.hid ((X0.out.trans X8.out).trans x48)
            clear o48 x48 o46 x46
            go_wp2_with fail
            go_ret
            exact ⟨A48, c48, by rw [hPl.out]; rfl, Rw.own elK ok.out, X9.out, own_cap ok.out⟩
    · have q1 : ¬ ((i : Int) < (n : Int)) := by omega
      have q1d : decide ((i : Int) < (n : Int)) = false := decide_eq_false q1
      have hcut : Hid (cutK k l = i) := cutK_is (by rw [hn.out]; exact hin) HB.out (fun y hy => by have := (List.getElem?_eq_some_iff.1 hy).1; rw [hn.out] at this; omega)
      have hP : Hid (putK l k = l.take i ++ (k :: l.drop i)) := by
        show _ = _; unfold putK
        rw [hcut.out, if_neg (by rw [List.getElem?_eq_none (by rw [hn.out]; omega)]; simp)]
      go_wp2_with fail
      refine wp_region_later wq (Ext.refl _) (by kernel_rfl) (by kernel_rfl) ?_
      go_big_quiet_step (fail)
      go_big_quiet_step (fail)
      go_big_quiet_step (fail)
      go_big_quiet_step (fail)
      go_big_quiet_step (fail)
      go_big_quiet_step (fail)
      go_big_quiet_step (fail)
      go_big_quiet_step (fail)
      go_big_quiet_step (fail)
      go_big_quiet_step (fail)
      go_big_quiet_step (fail)
      go_big_quiet_step (fail)
      refine wpQuiet_nil ?_
      rintro _ ⟨e6, rfl⟩
      have X6 := Lib.hid (XR.out.trans e6.2)
      obtain ⟨we, hwe⟩ : ∃ W, e6.1 = W := ⟨_, rfl⟩
      rw [hwe] at X6 ⊢
      clear hwe
      go_wp2_with fail
      refine wp_region_later we (Ext.refl _) (by kernel_rfl) (by kernel_rfl) ?_
      go_big_quiet_step (fail)
      go_big_quiet_step (fail)
      go_big_quiet_step (fail)
      go_big_quiet_step (fail)
      go_big_quiet_step (fail)
      go_big_quiet_step (fail)
      go_big_quiet_step (fail)
      go_big_quiet_step (fail)
      go_big_quiet_step (fail)
      go_big_quiet_step (fail)
      go_big_quiet_step (fail)
      go_big_quiet_step (fail)
      refine wpQuiet_nil ?_
      rintro _ ⟨e7, rfl⟩
      have XE : Hid (Ext w1 e7.1) := X6.out.trans e7.2
      obtain ⟨WE, hWE⟩ : ∃ W, e7.1 = W := ⟨_, rfl⟩
      rw [hWE] at XE ⊢
      clear hWE
      obtain ⟨Ad, cd, nD, hnD, hdc, hsl, hrd⟩ := slice_loP 78 2 (enc := encK) elemK sizeOfK (A := A) (O := l) (n := n) (c := c) (j := i) hn.out.symm hin hc1
      obtain ⟨At, hsl2, hrt⟩ := slice_hiK (A := A) (O := l) (n := n) (c := c) (j := i) hn.out.symm hin hc1
      have lD : Hid (nD + i = n) := by show _ = _; rw [hnD.out, List.length_drop, hn.out]; omega
      have hTk : Hid ((l.take i).length = i) := by show _ = _; rw [List.length_take, hn.out]; omega
      have bD : nD ≤ 1000 := by have := lD.out; omega
      go_wp2_with (at_builtin; refine appG elK w1 _ (XE.out.alloc _) _ _ (by rfl) (by rfl) 0 _ [] (l.drop i) (by rfl) (own_base (own_emptyG WE _ (Nat.le_refl _)) XE.out.size) rfl Ad cd nD (by rfl) hnD.out ((hrd _ (L1.out.ext XE.out)).alloc _) (by rw [List.length_nil, ← hnD.out]; omega) ?_; intro A6 c6 w6 o6 x6; rw [Nat.zero_add, List.nil_append] at o6; rw [Nat.zero_add])
      have hR6 : Hid (Rk w6 A6 (l.drop i)) := by rw [hnD.out] at o6; exact Rw.own elK o6
      have X8 := Lib.hid x6
      obtain ⟨w8, hw8⟩ : ∃ W, w6.drewN 1 = W := ⟨_, rfl⟩
      have X68 : Ext w6 w8 := by rw [← hw8]; exact (Ext.refl w6).drewN 1
      replace hR6 := Lib.hid (hR6.out.ext X68); replace X8 := Lib.hid (X8.out.trans X68)
      have hRt := Lib.hid (hrt _ (L1.out.ext X8.out))
      have B8 : Hid (∀ W, Ext w8 W → Bx W w.heap.size (encK k) 106) := fun W hW => B0.out.ext (X8.out.trans hW)
      clear o6 x6 hrd hrt hdc X68
      refine held_start (S := fun W => Ext w8 W) 11 rfl (by kernel_rfl) ?_
      have hW8 : { w6 with drawn := w6.drawn + 1 } = w8 := hw8
      rw [hW8]
      clear hW8 hw8
      refine held_move (i := 1) rfl (by kernel_rfl) (by kernel_rfl) (by kernel_rfl) _ rfl rfl (Ext.refl w8) _ (by simp [Act.put]; rfl) ?_
      refine held_move (i := 2) rfl (by kernel_rfl) (by kernel_rfl) (by kernel_rfl) _ rfl rfl (Ext.refl w8) _ (by simp [Act.put]; rfl) ?_
      refine held_takeV (i := 3) rfl (by kernel_rfl) (by kernel_rfl) (by kernel_rfl) (.slice At i c) rfl (fun w _ => by go_simp) (Ext.refl w8) _ (by simp [Act.put]; rfl) ?_
      refine held_boxV (i := 5) rfl (by kernel_rfl) (by kernel_rfl) (by kernel_rfl) rfl 106 _ rfl w.heap.size rfl (encK k) 106 (fun W hW => B8.out W hW) _ Try.underlying106 rfl sizeK (Ext.refl w8) _ (by simp [Act.put]; rfl) ?_
      refine held_move (i := 8) rfl (by kernel_rfl) (by kernel_rfl) (by kernel_rfl) _ rfl rfl (Ext.refl w8) _ (by simp [Act.put]; rfl) ?_
      clear hsl hsl2
      refine held_two (i := 0) (j := 6) rfl rfl (by kernel_rfl) rfl rfl ?_ ?_
      · go_wp2_with fail
        refine ⟨((Ext.refl w8).alloc _), ?_⟩
        refine held_two (i := 4) (j := 6) rfl rfl (by kernel_rfl) rfl rfl ?_ ?_
        · refine wp_appG elK w8 _ ((Ext.refl w8).alloc _) _ _ rfl 0 _ [] (l.take i) (by rfl) (own_emptyG w8 _ (Nat.le_refl _)) rfl At c i (by rfl) hTk.out.symm (hRt.out.ext ((Ext.refl w8).alloc _)) (by rw [List.length_nil, hTk.out]; omega) ?_
          intro A40 c40 w40 o40 x40 g40 _
          rw [Nat.zero_add, List.nil_append] at o40
          rw [Nat.zero_add]
          refine ⟨x40, ?_⟩
          refine held_all (i := 6) rfl (by kernel_rfl) rfl ?_
          refine wp_buildK _ rfl k (by rfl) ?_
          refine ⟨x40.alloc _, ?_⟩
          refine held_all (i := 7) rfl (by kernel_rfl) rfl ?_
          refine wp_appG elK w8 _ (x40.alloc _) _ _ rfl i _ (l.take i) [k] (by rfl) (own_below o40 ((Ext.refl w40).alloc _)) hTk.out.symm (some ⟨w40.heap.size, 0, none⟩) 1 1 (by rfl) rfl (Rw.new_at elK w40 [k] 106 _ rfl) (by rw [hTk.out]; simp; omega) ?_
          intro A46 c46 w46 o46 x46 _ _
          refine ⟨x46, ?_⟩
          refine held_all (i := 9) rfl (by kernel_rfl) rfl ?_
          refine wp_appG elK w8 _ x46 _ _ rfl (i + 1) _ (l.take i ++ [k]) (l.drop i) (by rfl) o46 (by rw [List.length_append, hTk.out]; rfl) A6 c6 nD (by rfl) hnD.out (hR6.out.ext x46) (by rw [List.length_append, hTk.out, ← hnD.out]; simp; omega) ?_
          intro A48 c48 w48 o48 x48 _ _
          refine ⟨x48, ?_⟩
          refine held_assign (i := 10) rfl (by kernel_rfl) (by kernel_rfl) (by kernel_rfl) _ rfl rfl x48 _ (by simp [Act.put]; rfl) ?_
          refine held_done (by kernel_rfl) ?_ _
          have hPl : Hid ((putK l k).length = i + 1 + nD) := by show _ = _; rw [hP.out, List.length_append, List.length_cons, hTk.out, ← hnD.out]; omega
          have ok : Hid (w48.ownsRow w8.heap.size 106 2 (.slice A48 (putK l k).length c48) (putK l k).length (flat encK (putK l k))) := by
            show World.ownsRow _ _ _ _ _ _ _
            rw [hPl.out, hP.out]
            have e2 : (l.take i ++ [k]) ++ l.drop i = l.take i ++ (k :: l.drop i) := by simp
            rw [← e2]; exact o48
          have X9 := Lib.hid ((X0.out.trans X8.out).trans x48)
          clear o48 x48 o46 x46
          go_wp2_with fail
          go_ret
          exact ⟨A48, c48, by rw [hPl.out]; rfl, Rw.own elK ok.out, X9.out, own_cap ok.out⟩
        · refine wp_buildK _ rfl k (by rfl) ?_
          refine ⟨(((Ext.refl w8).alloc _).alloc _), ?_⟩
          refine held_all (i := 4) rfl (by kernel_rfl) rfl ?_
          refine wp_appG elK w8 _ (((Ext.refl w8).alloc _).alloc _) _ _ rfl 0 _ [] (l.take i) (by rfl) (own_below (own_emptyG w8 _ (Nat.le_refl _)) ((Ext.refl _).alloc _)) rfl At c i (by rfl) hTk.out.symm (hRt.out.ext (((Ext.refl w8).alloc _).alloc _)) (by rw [List.length_nil, hTk.out]; omega) ?_
          intro A40 c40 w40 o40 x40 g40 _
          rw [Nat.zero_add, List.nil_append] at o40
          rw [Nat.zero_add]
          refine ⟨x40, ?_⟩
          refine held_all (i := 7) rfl (by kernel_rfl) rfl ?_
          refine wp_appG elK w8 _ x40 _ _ rfl i _ (l.take i) [k] (by rfl) o40 hTk.out.symm (some ⟨(w8.alloc (.cells #[] 106)).heap.size, 0, none⟩) 1 1 (by rfl) rfl ((Rw.new_at elK (w8.alloc (.cells #[] 106)) [k] 106 _ rfl).moved g40 (by rintro b0 o0 h0; cases h0; intro h1; simp [Value.ownBlock] at h1)) (by rw [hTk.out]; simp; omega) ?_
          intro A46 c46 w46 o46 x46 _ _
          refine ⟨x46, ?_⟩
          refine held_all (i := 9) rfl (by kernel_rfl) rfl ?_
          refine wp_appG elK w8 _ x46 _ _ rfl (i + 1) _ (l.take i ++ [k]) (l.drop i) (by rfl) o46 (by rw [List.length_append, hTk.out]; rfl) A6 c6 nD (by rfl) hnD.out (hR6.out.ext x46) (by rw [List.length_append, hTk.out, ← hnD.out]; simp; omega) ?_
          intro A48 c48 w48 o48 x48 _ _
          refine ⟨x48, ?_⟩
          refine held_assign (i := 10) rfl (by kernel_rfl) (by kernel_rfl) (by kernel_rfl) _ rfl rfl x48 _ (by simp [Act.put]; rfl) ?_
          refine held_done (by kernel_rfl) ?_ _
          have hPl : Hid ((putK l k).length = i + 1 + nD) := by show _ = _; rw [hP.out, List.length_append, List.length_cons, hTk.out, ← hnD.out]; omega
          have ok : Hid (w48.ownsRow w8.heap.size 106 2 (.slice A48 (putK l k).length c48) (putK l k).length (flat encK (putK l k))) := by
            show World.ownsRow _ _ _ _ _ _ _
            rw [hPl.out, hP.out]
            have e2 : (l.take i ++ [k]) ++ l.drop i = l.take i ++ (k :: l.drop i) := by simp
            rw [← e2]; exact o48
          have X9 := Lib.hid ((X0.out.trans X8.out).trans x48)
          clear o48 x48 o46 x46
          go_wp2_with fail
          go_ret
          exact ⟨A48, c48, by rw [hPl.out]; rfl, Rw.own elK ok.out, X9.out, own_cap ok.out⟩
      · refine wp_buildK _ rfl k (by rfl) ?_
        refine ⟨((Ext.refl w8).alloc _), ?_⟩
        refine held_all (i := 0) rfl (by kernel_rfl) rfl ?_
        go_wp2_with fail
        refine ⟨(((Ext.refl w8).alloc _).alloc _), ?_⟩
        refine held_all (i := 4) rfl (by kernel_rfl) rfl ?_
        refine wp_appG elK w8 _ (((Ext.refl w8).alloc _).alloc _) _ _ rfl 0 _ [] (l.take i) (by rfl) (own_k1 w8 k) rfl At c i (by rfl) hTk.out.symm (hRt.out.ext (((Ext.refl w8).alloc _).alloc _)) (by rw [List.length_nil, hTk.out]; omega) ?_
        intro A40 c40 w40 o40 x40 g40 _
        rw [Nat.zero_add, List.nil_append] at o40
        rw [Nat.zero_add]
        refine ⟨x40, ?_⟩
        refine held_all (i := 7) rfl (by kernel_rfl) rfl ?_
        refine wp_appG elK w8 _ x40 _ _ rfl i _ (l.take i) [k] (by rfl) o40 hTk.out.symm (some ⟨w8.heap.size, 0, none⟩) 1 1 (by rfl) rfl ((Rw.new_at elK w8 [k] 106 _ rfl).alloc _ |>.moved g40 (by rintro b0 o0 h0; cases h0; intro h1; simp [Value.ownBlock] at h1)) (by rw [hTk.out]; simp; omega) ?_
        intro A46 c46 w46 o46 x46 _ _
        refine ⟨x46, ?_⟩
        refine held_all (i := 9) rfl (by kernel_rfl) rfl ?_
        refine wp_appG elK w8 _ x46 _ _ rfl (i + 1) _ (l.take i ++ [k]) (l.drop i) (by rfl) o46 (by rw [List.length_append, hTk.out]; rfl) A6 c6 nD (by rfl) hnD.out (hR6.out.ext x46) (by rw [List.length_append, hTk.out, ← hnD.out]; simp; omega) ?_
        intro A48 c48 w48 o48 x48 _ _
        refine ⟨x48, ?_⟩
        refine held_assign (i := 10) rfl (by kernel_rfl) (by kernel_rfl) (by kernel_rfl) _ rfl rfl x48 _ (by simp [Act.put]; rfl) ?_
        refine held_done (by kernel_rfl) ?_ _
        have hPl : Hid ((putK l k).length = i + 1 + nD) := by show _ = _; rw [hP.out, List.length_append, List.length_cons, hTk.out, ← hnD.out]; omega
        have ok : Hid (w48.ownsRow w8.heap.size 106 2 (.slice A48 (putK l k).length c48) (putK l k).length (flat encK (putK l k))) := by
          show World.ownsRow _ _ _ _ _ _ _
          rw [hPl.out, hP.out]
          have e2 : (l.take i ++ [k]) ++ l.drop i = l.take i ++ (k :: l.drop i) := by simp
          rw [← e2]; exact o48
        have X9 := Lib.hid ((X0.out.trans X8.out).trans x48)
        clear o48 x48 o46 x46
        go_wp2_with fail
        go_ret
        exact ⟨A48, c48, by rw [hPl.out]; rfl, Rw.own elK ok.out, X9.out, own_cap ok.out⟩
end Go.Proofs.Ytmbjbbflhlndcaa
namespace Go.Proofs.Ytmbjbbflhlndcaa
open Go.RowKit BigFrame
set_option linter.unusedVariables false
set_option linter.unusedSimpArgs false

theorem eqGuardK : Try.prog.eqGuardType Try.prog.depth 106 = false := by kernel_rfl
set_option maxRecDepth 100000 in
set_option maxHeartbeats 2000000 in
theorem rSameK {w : World} {A1 A2 : Option Addr} {l m : List Ky} (h1 : Rk w A1 l) (h2 : Rk w A2 m) (hl : l.length ≤ 4000000000) (c1 c2 : Nat) (hm : m.length ≤ 4000000000) :
    Calls Try.prog 50 #[.slice A1 l.length c1, .slice A2 m.length c2] w (RetB w (decide (l = m))) := by
  replace h1 := Lib.hid h1; replace h2 := Lib.hid h2
  obtain ⟨R, hR⟩ : ∃ R, decide (l = m) = R := ⟨_, rfl⟩
  rw [hR]
  replace hR := Lib.hid hR
  by_cases hn : l.length = m.length
  case neg =>
    have q1 : ((l.length : Int) != (m.length : Int)) = true := by rw [bne_iff_ne]; omega
    have q1b : (l.length != m.length) = true := by rw [bne_iff_ne]; omega
    have q1c : (l.length == m.length) = false := by rw [beq_eq_false_iff_ne]; omega
    have q1d : ((l.length : Int) == (m.length : Int)) = false := by rw [beq_eq_false_iff_ne]; omega
    have hRf : R = false := by rw [← hR.out, decide_eq_false_iff_not]; rintro rfl; exact hn rfl
    subst hRf
    go_enter Try.func50, Try.ntmps50
    go_wp2
    go_ret
    exact ⟨rfl, Ext.refl w⟩
  obtain ⟨n, hnl⟩ : ∃ n, l.length = n := ⟨_, rfl⟩
  rw [hnl]
  have hnm : Hid (m.length = n) := by show _ = _; omega
  rw [hnm.out]
  have hnl2 := Lib.hid hnl
  have hl2 : n ≤ 4000000000 := by omega
  clear hn hnl hm hl
  have hg := eqGuardK
  go_enter Try.func50, Try.ntmps50
  go_wp2_with fail
  go_loopw [5] (fun i wr => ∃ k : Nat, k ≤ n ∧ i = .int .i64 k ∧ Hid (l.take k = m.take k) ∧ Hid (Ext w wr)) (fun i _ => n - (intOf i).toNat)
  case atStart => exact ⟨0, Nat.zero_le _, rfl, rfl, Ext.refl w⟩
  case round =>
    obtain ⟨k, hk, rfl, HT, HX⟩ := hrel
    by_cases hlt : k < n
    · obtain ⟨b1, o1, x, rfl, hx, hr1⟩ := Rw.range h1.out HX.out (j := k) (by rw [hnl2.out]; exact hlt)
      obtain ⟨b2, o2, y, rfl, hy, hr2⟩ := Rw.range h2.out HX.out (j := k) (by rw [hnm.out]; exact hlt)
      have q3 : (k : Int) < (n : Int) := by omega
      have q4 : (0 : Int) ≤ (k : Int) := by omega
      have hk1 : k + 1 ≤ n := by omega
      have hT2 := take_eq_snoc HT.out hx.out hy.out
      go_wp2_with fail
      have S0 : Hid (wr.rangeAt b1 (o1 + k * 2) (encK x) ∧ wr.rangeAt b2 (o2 + k * 2) (encK y)) := ⟨hr1.out, hr2.out⟩
      have S1 : Hid ((wr.drewN 1).rangeAt b1 (o1 + k * 2) (encK x) ∧ (wr.drewN 1).rangeAt b2 (o2 + k * 2) (encK y)) := ⟨fun j v hv => S0.out.1 j v hv, fun j v hv => S0.out.2 j v hv⟩
      refine held_start (S := fun W => W.rangeAt b1 (o1 + k * 2) (encK x) ∧ W.rangeAt b2 (o2 + k * 2) (encK y)) 9 rfl (by kernel_rfl) ?_
      refine held_move (i := 0) rfl (by kernel_rfl) (by kernel_rfl) (by kernel_rfl) _ rfl rfl S1.out _ (by simp [Act.put]; rfl) ?_
      refine held_move (i := 1) rfl (by kernel_rfl) (by kernel_rfl) (by kernel_rfl) _ rfl rfl S1.out _ (by simp [Act.put]; rfl) ?_
      refine held_move (i := 4) rfl (by kernel_rfl) (by kernel_rfl) (by kernel_rfl) _ rfl rfl S1.out _ (by simp [Act.put]; rfl) ?_
      refine held_move (i := 5) rfl (by kernel_rfl) (by kernel_rfl) (by kernel_rfl) _ rfl rfl S1.out _ (by simp [Act.put]; rfl) ?_
      refine held_takeV (i := 2) rfl (by kernel_rfl) (by kernel_rfl) (by kernel_rfl) (.pointer (some ⟨b1, o1 + k * 2, none⟩)) rfl (fun w _ => by go_simp) S1.out _ (by simp [Act.put]; rfl) ?_
      refine held_takeV (i := 3) rfl (by kernel_rfl) (by kernel_rfl) (by kernel_rfl) (.agg (encK x).toArray) rfl (fun w hS => run_load_mid 106 _ rfl b1 (o1 + k * 2) rfl (encK x) _ hS.1 Try.underlying106 rfl sizeK) S1.out _ (by simp [Act.put]; rfl) ?_
      refine held_takeV (i := 6) rfl (by kernel_rfl) (by kernel_rfl) (by kernel_rfl) (.pointer (some ⟨b2, o2 + k * 2, none⟩)) rfl (fun w _ => by go_simp) S1.out _ (by simp [Act.put]; rfl) ?_
      refine held_takeV (i := 7) rfl (by kernel_rfl) (by kernel_rfl) (by kernel_rfl) (.agg (encK y).toArray) rfl (fun w hS => run_load_mid 106 _ rfl b2 (o2 + k * 2) rfl (encK y) _ hS.2 Try.underlying106 rfl sizeK) S1.out _ (by simp [Act.put]; rfl) ?_
      refine held_takeV (i := 8) rfl (by kernel_rfl) (by kernel_rfl) (by kernel_rfl) (.bool (!decide (x = y))) rfl (fun w _ => run_neq_op 106 _ _ _ rfl (encK x).toArray (encK y).toArray rfl rfl hg _ (eqInK x y)) S1.out _ (by simp [Act.put]; rfl) ?_
      refine held_done (by kernel_rfl) ?_ _
      clear S0 S1 hr1 hr2
      have HX2 := Lib.hid (HX.out.drewN 1)
      by_cases he : x = y
      · have e2 := hT2.1 he
        have d2 : decide (x = y) = true := decide_eq_true he
        rw [d2]
        replace e2 := Lib.hid e2
        clear he hT2 hx hy d2 HT HX
        go_wp2
        go_roundw
        case rel => exact ⟨k + 1, hk1, by go_num, e2, HX2.out⟩
        case measure => simp [intOf]; omega
      · have d2 : decide (x = y) = false := decide_eq_false he
        rw [d2]
        have hRf : R = false := by
          rw [← hR.out, decide_eq_false_iff_not]
          rintro rfl
          exact he (hT2.2 rfl)
        subst hRf
        clear he hT2 hx hy d2 HT HX
        go_wp2
        go_ret
        exact ⟨rfl, HX2.out⟩
    · obtain rfl : k = n := by omega
      have hRt : R = true := by
        rw [← hR.out, decide_eq_true_iff]
        have := HT.out
        rw [List.take_of_length_le (by rw [hnl2.out]; exact Nat.le_refl _), List.take_of_length_le (by rw [hnm.out]; exact Nat.le_refl _)] at this
        exact this
      subst hRt
      go_wp2_with fail
      go_ret
      exact ⟨rfl, HX.out⟩

/-- Some weeks of a worker. -/
def keysOf (wk a : Int) (n : Nat) : List Ky := (List.range n).map fun i : Nat => ⟨wk, a + i⟩
theorem keysOf_succ (wk a : Int) (n : Nat) : keysOf wk a (n + 1) = keysOf wk a n ++ [⟨wk, a + n⟩] := by unfold keysOf; rw [List.range_succ, List.map_append]; rfl
def touchN (u c t : Int) : Nat := (touchB u c t - touchA u c t + 1).toNat
/-- The weeks that an event touches. -/
def weeksE (u c : Int) (e : Ev) : List Ky := keysOf e.worker (touchA u c e.at_) (touchN u c e.at_)
def touchK (l ks : List Ky) : List Ky := ks.foldl putK l
theorem putK_len (l : List Ky) (k : Ky) : (putK l k).length ≤ l.length + 1 := by
  unfold putK
  split
  · omega
  · have := List.length_take_le (cutK k l) l
    rw [List.length_append, List.length_cons, List.length_drop, List.length_take]; omega
theorem touchK_len (ks : List Ky) : ∀ l : List Ky, (touchK l ks).length ≤ l.length + ks.length := by
  induction ks with
  | nil => intro l; exact Nat.le_refl _
  | cons k ks ih => intro l; have := ih (putK l k); have := putK_len l k; show (touchK (putK l k) ks).length ≤ _; rw [List.length_cons]; omega
theorem keysOf_len (wk a : Int) (n : Nat) : (keysOf wk a n).length = n := by unfold keysOf; simp
theorem touch_bd (u c t : Int) : 0 ≤ touchA u c t ∧ touchA u c t ≤ touchB u c t ∧ touchB u c t ≤ 53 ∧ touchB u c t ≤ touchA u c t + 5 := by
  unfold touchA touchB weekOf touchBy
  omega
theorem touchN_le (u c t : Int) : touchN u c t ≤ 6 ∧ 1 ≤ touchN u c t ∧ touchA u c t + touchN u c t = touchB u c t + 1 := by
  have := touch_bd u c t
  unfold touchN
  omega
set_option maxRecDepth 100000 in
set_option maxHeartbeats 4000000 in
theorem rTouchK {cs : List Value} {u c : Int} (hs : SuUC cs u c) {w : World} {A : Option Addr} {l : List Ky} (h : Rk w A l) (cap n : Nat) (hn : l.length = n) (hl : n ≤ 500) (hc : n ≤ cap ∧ cap ≤ maxLen) (e : Ev) :
    Calls Try.prog 84 #[.agg cs.toArray, .slice A n cap, .agg (encV e).toArray] w (RetK w (touchK l (weeksE u c e))) := by
  obtain ⟨W0, hW0⟩ : ∃ W0, (w.alloc (.cells cs.toArray 55)).alloc (.cells (encV e).toArray 23) = W0 := ⟨_, rfl⟩
  have BS : Hid (Bx W0 w.heap.size cs 55) := by rw [← hW0]; exact (Bx.new w cs 55).alloc _
  have BV : Hid (Bx W0 (w.heap.size + 1) (encV e) 23) := by
    rw [← hW0]
    have := Bx.new (w.alloc (.cells cs.toArray 55)) (encV e) 23
    rwa [show (w.alloc (.cells cs.toArray 55)).heap.size = w.heap.size + 1 from by simp] at this
  have X0 : Hid (Ext w W0) := by rw [← hW0]; exact ((Ext.refl w).alloc _).alloc _
  have L0 := Lib.hid (h.ext X0.out)
  have hsz : (Try.prog.info? 55).map (·.size) = some cs.toArray.size := by rw [sizeS]; simp [hs.len]
  have kT := Lib.hid (fun W => rTouch hs e.at_ W)
  obtain ⟨ha0, hab, hb53, _⟩ := touch_bd u c e.at_
  obtain ⟨hN6, hN1, hN⟩ := touchN_le u c e.at_
  unfold weeksE
  obtain ⟨a, ea⟩ : ∃ a, touchA u c e.at_ = a := ⟨_, rfl⟩
  obtain ⟨b, eb⟩ : ∃ b, touchB u c e.at_ = b := ⟨_, rfl⟩
  obtain ⟨N, eN⟩ : ∃ N, touchN u c e.at_ = N := ⟨_, rfl⟩
  rw [ea, eb] at kT
  rw [ea] at ha0 hab hN
  rw [eb] at hab hb53 hN
  rw [eN] at hN hN6 hN1
  rw [ea, eN]
  replace hN := Lib.hid hN
  replace hsz := Lib.hid hsz; replace hW0 := Lib.hid hW0; replace hn := Lib.hid hn
  have c2 := BV.out.cell 2 _ rfl
  obtain ⟨hc1, hc2⟩ := hc
  clear h hs ea eb eN
  go_enter Try.func84, Try.ntmps84
  go_upto_region 1 with fail
  rw [hW0.out]
  go_wp2_with (first | (refine load_box (by rfl) 55 _ rfl w.heap.size rfl _ _ BS.out _ Try.underlying55 rfl hsz.out ?_) | fail)
  refine (kT.out _).mono ?_
  rintro e1 w1 ⟨rfl, x1⟩
  have X1 := Lib.hid (X0.out.trans x1); have L1 := Lib.hid (L0.out.ext x1); have BV1 := Lib.hid (BV.out.ext x1)
  clear x1 kT BS BV X0 L0 hsz hW0 c2
  go_wp2_with fail
  go_loopw [1, 9] (fun vl vi wr => ∃ (j m cj : Nat) (Aj : Option Addr), j ≤ N ∧ m ≤ n + j ∧ (m ≤ cj ∧ cj ≤ maxLen) ∧ vi = .int .i64 (a + j) ∧ vl = .slice Aj m cj ∧ Hid ((touchK l (keysOf e.worker a j)).length = m) ∧ Hid (Rk wr Aj (touchK l (keysOf e.worker a j))) ∧ Hid (Ext w1 wr)) (fun _ vi _ => (b + 1 - intOf vi).toNat)
  case atStart => exact ⟨0, n, cap, A, Nat.zero_le _, Nat.le_refl _, ⟨hc1, hc2⟩, (by show Value.int .i64 a = _; congr 1; omega), rfl, hn.out, L1.out, Ext.refl _⟩
  case round =>
    obtain ⟨j, m, cj, Aj, hj, hm, ⟨hmc, hcm⟩, rfl, rfl, ELm, RL, XR⟩ := hrel
    have hN2 := hN.out
    obtain ⟨wq, hwq⟩ : ∃ W, wr = W := ⟨_, rfl⟩
    rw [hwq] at XR RL ⊢
    clear hwq
    by_cases hjN : j < N
    · have q1 : a + (j : Int) ≤ b := by omega
      have q1d : decide (a + (j : Int) ≤ b) = true := decide_eq_true q1
      have q2 : (0 : Int) ≤ a + (j : Int) := by omega
      have c1 := (BV1.out.ext XR.out).cell 1 _ rfl
      have kP := Lib.hid (fun W (hW : Ext wq W) => rPutK (RL.out.ext hW) cj m ELm.out (by omega) ⟨hmc, hcm⟩ ⟨e.worker, a + (j : Int)⟩)
      have hE : Hid (putK (touchK l (keysOf e.worker a j)) ⟨e.worker, a + (j : Int)⟩ = touchK l (keysOf e.worker a (j + 1))) := by
        show _ = _
        rw [keysOf_succ]
        unfold touchK
        rw [List.foldl_append]; rfl
      have hEl : Hid ((touchK l (keysOf e.worker a (j + 1))).length ≤ n + (j + 1)) := by
        have := touchK_len (keysOf e.worker a (j + 1)) l
        rw [keysOf_len, hn.out] at this
        exact this
      rw [hE.out] at kP
      clear hE hN2
      go_wp2_with fail
      refine (kP.out _ (by first | exact Ext.refl _ | exact (Ext.refl _).drewN _)).mono ?_
      rintro e2 w2 ⟨A2, c2, rfl, r2, x2, k1, k2⟩
      obtain ⟨m2, hm2⟩ : ∃ m, (touchK l (keysOf e.worker a (j + 1))).length = m := ⟨_, rfl⟩
      have hm3 := hEl.out
      rw [hm2] at k1 hm3 ⊢
      have X2 : Hid (Ext w1 w2) := by first | exact XR.out.trans x2 | exact (XR.out.drewN _).trans x2
      replace r2 := Lib.hid r2; replace hm2 := Lib.hid hm2
      clear x2 kP c1 hEl XR RL ELm
      go_wp2_with fail
      exact ⟨⟨j + 1, m2, c2, A2, by omega, by omega, ⟨k1, k2⟩, by first | rfl | go_num | (congr 1; push_cast; omega), rfl, hm2, r2, X2⟩, by simp [intOf]; omega⟩
    · obtain rfl : j = N := by omega
      have q1 : ¬ a + (j : Int) ≤ b := by omega
      have q1d : decide (a + (j : Int) ≤ b) = false := decide_eq_false q1
      have XF := Lib.hid (X1.out.trans XR.out)
      clear X1 XR L1 BV1 hN2
      go_wp2_with fail
      go_ret
      exact ⟨Aj, cj, by rw [ELm.out]; rfl, RL.out, XF.out, by rw [ELm.out]; exact hmc, hcm⟩
/-- The keys that a correction touches, one after the other. -/
def touchedL (u c : Int) (l : List Ev) (f : Fx) : List Ky :=
  (if f.kind = 2 ∨ f.kind = 3 then (match ixE l f.ev.id with | some _ => weeksE u c (fdE l f.ev.id) | none => []) else []) ++ (if f.kind = 1 ∨ f.kind = 3 then weeksE u c f.ev else [])
theorem touchK_app (l a b : List Ky) : touchK l (a ++ b) = touchK (touchK l a) b := List.foldl_append ..
theorem weeksE_len (u c : Int) (e : Ev) : (weeksE u c e).length ≤ 6 := by unfold weeksE; rw [keysOf_len]; exact (touchN_le u c e.at_).1
theorem Bx.all {w : World} {g : Nat} {cs : List Value} {t : TypeId} (h : Bx w g cs t) : w.rangeAt g 0 cs := fun j v hv => by
  have := h.cell (0 + j) v (by rw [Nat.zero_add]; exact hv)
  exact this
-- Touched of the reference
set_option maxRecDepth 100000 in
set_option maxHeartbeats 4000000 in
theorem rTouched13 {cs : List Value} {u c : Int} (hs : SuUC cs u c) {w : World} {A : Option Addr} {l : List Ev} (h : Re w A l) (cap n : Nat) (hn : l.length = n) (hl : n ≤ 1000) (f : Fx) :
    Calls Try.prog 52 #[.agg cs.toArray, .slice A n cap, .agg (encF f).toArray] w (RetK w (touchK [] (touchedL u c l f))) := by
  obtain ⟨kd, ev⟩ := f
  obtain ⟨R, hR⟩ : ∃ R, touchK [] (touchedL u c l ⟨kd, ev⟩) = R := ⟨_, rfl⟩
  rw [hR]
  unfold touchedL at hR
  replace hR := Lib.hid hR
  obtain ⟨W0, hW0⟩ : ∃ W0, (w.alloc (.cells cs.toArray 55)).alloc (.cells (encF ⟨kd, ev⟩).toArray 25) = W0 := ⟨_, rfl⟩
  have BS : Hid (Bx W0 w.heap.size cs 55) := by rw [← hW0]; exact (Bx.new w cs 55).alloc _
  have BF : Hid (Bx W0 (w.heap.size + 1) (encF ⟨kd, ev⟩) 25) := by
    rw [← hW0]
    have := Bx.new (w.alloc (.cells cs.toArray 55)) (encF ⟨kd, ev⟩) 25
    rwa [show (w.alloc (.cells cs.toArray 55)).heap.size = w.heap.size + 1 from by simp] at this
  have X0 : Hid (Ext w W0) := by rw [← hW0]; exact ((Ext.refl w).alloc _).alloc _
  have L0 := Lib.hid (h.ext X0.out)
  have hsz : (Try.prog.info? 55).map (·.size) = some cs.length := by rw [sizeS]; simp [hs.len]
  replace hsz := Lib.hid hsz; replace hs := Lib.hid hs; replace hW0 := Lib.hid hW0; replace hn := Lib.hid hn
  have kH : Hid (∀ W, Re W A l → Calls Try.prog 79 #[.slice A n cap, .int .i64 ev.id] W (RetI W (ixI l ev.id))) := fun W hW => rAt13 hW ev.id cap n hn.out (by omega)
  have ci := BF.out.cell 1 _ rfl
  clear h
  go_enter Try.func52, Try.ntmps52
  go_upto_region 1 with fail
  rw [hW0.out]
  go_wp2_with fail
  refine (kH.out _ L0.out).mono ?_
  rintro e2 w2 ⟨rfl, x2⟩
  have X2 := Lib.hid (X0.out.trans x2); have L2 := Lib.hid (L0.out.ext x2); have BF2 := Lib.hid (BF.out.ext x2); have BS2 := Lib.hid (BS.out.ext x2)
  clear x2 kH X0 L0 BF BS ci hW0
  have c0 := BF2.out.cell 0 _ rfl
  cases hx : ixE l ev.id with
  | none =>
    have hI : ixI l ev.id = -1 := by unfold ixI; rw [hx]
    rw [hI]
    by_cases h1 : kd = 1
    · subst h1
      have BV := Lib.hid BF2.out.tail
      go_wp2_with (first | (refine load_box (by rfl) 55 _ rfl w.heap.size rfl _ _ BS2.out _ Try.underlying55 rfl hsz.out ?_) | (refine load_midG (by rfl) 23 _ rfl (w.heap.size + 1) 1 (by rfl) (encV ev) _ BV.out Try.underlying23 rfl sizeE ?_) | fail)
      refine (rTouchK hs.out (A := none) (l := []) (w := w2) Rw.nil 0 0 rfl (by omega) ⟨by omega, by decide⟩ ev).mono ?_
      rintro e10 w10 ⟨A10, c10, rfl, r10, x10, k11, k12⟩
      have X10 := Lib.hid (X2.out.trans x10)
      replace r10 := Lib.hid r10
      obtain ⟨Z, hZ⟩ : ∃ Z, touchK [] (weeksE u c ev) = Z := ⟨_, rfl⟩
      rw [hZ] at r10 k11 ⊢
      obtain rfl : Z = R := by rw [← hR.out, ← hZ]; simp
      clear x10 BV hZ
      go_wp2_with fail
      go_ret
      exact ⟨A10, c10, rfl, r10.out, X10.out, k11, k12⟩
    by_cases h2 : kd = 2
    · subst h2
      obtain rfl : [] = R := by rw [← hR.out]; simp [hx] <;> rfl
      go_wp2_with fail
      go_ret
      exact ⟨none, 0, rfl, Rw.nil, X2.out, Nat.le_refl _, by decide⟩
    by_cases h3 : kd = 3
    · subst h3
      have BV := Lib.hid BF2.out.tail
      go_wp2_with (first | (refine load_box (by rfl) 55 _ rfl w.heap.size rfl _ _ BS2.out _ Try.underlying55 rfl hsz.out ?_) | (refine load_midG (by rfl) 23 _ rfl (w.heap.size + 1) 1 (by rfl) (encV ev) _ BV.out Try.underlying23 rfl sizeE ?_) | fail)
      refine (rTouchK hs.out (A := none) (l := []) (w := w2) Rw.nil 0 0 rfl (by omega) ⟨by omega, by decide⟩ ev).mono ?_
      rintro e10 w10 ⟨A10, c10, rfl, r10, x10, k11, k12⟩
      have X10 := Lib.hid (X2.out.trans x10)
      replace r10 := Lib.hid r10
      obtain ⟨Z, hZ⟩ : ∃ Z, touchK [] (weeksE u c ev) = Z := ⟨_, rfl⟩
      rw [hZ] at r10 k11 ⊢
      obtain rfl : Z = R := by rw [← hR.out, ← hZ]; simp [hx]
      clear x10 BV hZ
      go_wp2_with fail
      go_ret
      exact ⟨A10, c10, rfl, r10.out, X10.out, k11, k12⟩
    have d1 : (kd == 1) = false := by rw [beq_eq_false_iff_ne]; exact h1
    have d2 : (kd == 2) = false := by rw [beq_eq_false_iff_ne]; exact h2
    have d3 : (kd == 3) = false := by rw [beq_eq_false_iff_ne]; exact h3
    obtain rfl : [] = R := by rw [← hR.out]; rw [if_neg (by omega), if_neg (by omega)]; rfl <;> rfl
    go_wp2_with fail
    go_ret
    exact ⟨none, 0, rfl, Rw.nil, X2.out, Nat.le_refl _, by decide⟩
  | some i =>
    have hI : ixI l ev.id = (i : Int) := by unfold ixI; rw [hx]
    have di2 : decide ((0 : Int) ≤ (i : Int)) = true := decide_eq_true (by omega)
    obtain ⟨x, hx1, _, _⟩ := ix_some hx
    have hfd : Hid (fdE l ev.id = x) := by show _ = _; unfold fdE; rw [hx]; simp only [hx1, Option.getD_some]
    have hi : i < n := by rw [← hn.out]; exact (List.getElem?_eq_some_iff.1 hx1).1
    replace hx1 := Lib.hid hx1
    rw [hI]
    obtain ⟨b, off, rfl, hr⟩ := L2.out.far (by rintro rfl; have := hn.out; simp at this; omega)
    have hx_ := hx
    have hx := hx1
    have hi2 : (i : Int) < (n : Int) := by omega
    by_cases h1 : kd = 1
    · subst h1
      have BV := Lib.hid BF2.out.tail
      go_wp2_with (first | (refine load_box (by rfl) 55 _ rfl w.heap.size rfl _ _ BS2.out _ Try.underlying55 rfl hsz.out ?_) | (refine load_midG (by rfl) 23 _ rfl (w.heap.size + 1) 1 (by rfl) (encV ev) _ BV.out Try.underlying23 rfl sizeE ?_) | fail)
      refine (rTouchK hs.out (A := none) (l := []) (w := w2) Rw.nil 0 0 rfl (by omega) ⟨by omega, by decide⟩ ev).mono ?_
      rintro e10 w10 ⟨A10, c10, rfl, r10, x10, k11, k12⟩
      have X10 := Lib.hid (X2.out.trans x10)
      replace r10 := Lib.hid r10
      obtain ⟨Z, hZ⟩ : ∃ Z, touchK [] (weeksE u c ev) = Z := ⟨_, rfl⟩
      rw [hZ] at r10 k11 ⊢
      obtain rfl : Z = R := by rw [← hR.out, ← hZ]; simp
      clear x10 BV hZ
      go_wp2_with fail
      go_ret
      exact ⟨A10, c10, rfl, r10.out, X10.out, k11, k12⟩
    by_cases h2 : kd = 2
    · subst h2
      go_wp2_with fail
      obtain ⟨w8, hw8⟩ : ∃ W, w2.drewN 1 = W := ⟨_, rfl⟩
      have X28 : Ext w2 w8 := by rw [← hw8]; exact (Ext.refl w2).drewN 1
      have X8 := Lib.hid (X2.out.trans X28)
      have BS8 : Hid (∀ W, Ext w8 W → W.rangeAt w.heap.size 0 cs) := fun W hW => (BS2.out.ext (X28.trans hW)).all
      have hr8 : Hid (∀ W, Ext w8 W → W.rangeAt b (off + i * 11) (encV x)) := fun W hW => hr _ (X28.trans hW) i x hx.out
      refine held_start (S := fun W => Ext w8 W) 8 rfl (by kernel_rfl) ?_
      rw [show ({ w2 with drawn := w2.drawn + 1 } : World) = w8 from hw8]
      clear hw8
      refine held_move (i := 1) rfl (by kernel_rfl) (by kernel_rfl) (by kernel_rfl) _ rfl rfl (Ext.refl w8) _ (by simp [Act.put]; rfl) ?_
      refine held_move (i := 2) rfl (by kernel_rfl) (by kernel_rfl) (by kernel_rfl) _ rfl rfl (Ext.refl w8) _ (by simp [Act.put]; rfl) ?_
      refine held_move (i := 3) rfl (by kernel_rfl) (by kernel_rfl) (by kernel_rfl) _ rfl rfl (Ext.refl w8) _ (by simp [Act.put]; rfl) ?_
      refine held_takeV (i := 0) rfl (by kernel_rfl) (by kernel_rfl) (by kernel_rfl) (.agg cs.toArray) rfl (fun W hW => run_load_mid 55 _ rfl w.heap.size 0 rfl cs _ (BS8.out W hW) Try.underlying55 rfl hsz.out) (Ext.refl w8) _ (by simp [Act.put]; rfl) ?_
      refine held_takeV (i := 4) rfl (by kernel_rfl) (by kernel_rfl) (by kernel_rfl) (.pointer (some ⟨b, off + i * 11, none⟩)) rfl (fun w _ => by go_simp) (Ext.refl w8) _ (by simp [Act.put]; rfl) ?_
      refine held_takeV (i := 5) rfl (by kernel_rfl) (by kernel_rfl) (by kernel_rfl) (.agg (encV x).toArray) rfl (fun W hW => run_load_mid 23 _ rfl b (off + i * 11) rfl (encV x) _ (hr8.out W hW) Try.underlying23 rfl sizeE) (Ext.refl w8) _ (by simp [Act.put]; rfl) ?_
      refine held_all (i := 6) rfl (by kernel_rfl) rfl ?_
      go_wp2_with fail
      refine (rTouchK hs.out (A := none) (l := []) (w := w8) Rw.nil 0 0 rfl (by omega) ⟨by omega, by decide⟩ x).mono ?_
      rintro e9 w9 ⟨A9, c9, rfl, r9, x9, k9, k10⟩
      refine ⟨x9, ?_⟩
      refine held_assign (i := 7) rfl (by kernel_rfl) (by kernel_rfl) (by kernel_rfl) _ rfl rfl x9 _ (by simp [Act.put]; rfl) ?_
      refine held_done (by kernel_rfl) ?_ _
      have X9 := Lib.hid (X8.out.trans x9)
      have BF9 := Lib.hid (BF2.out.ext (X28.trans x9))
      have BS9 := Lib.hid (BS2.out.ext (X28.trans x9))
      have l9 := touchK_len (weeksE u c x) []
      have l10 := weeksE_len u c x
      obtain ⟨T, hT⟩ : ∃ T, touchK [] (weeksE u c x) = T := ⟨_, rfl⟩
      rw [hT] at r9 k9 l9 ⊢
      obtain ⟨m, hm⟩ : ∃ m, T.length = m := ⟨_, rfl⟩
      rw [hm] at k9 l9 ⊢
      have m6 : m ≤ 6 := by simp at l9; omega
      replace r9 := Lib.hid r9; replace hm := Lib.hid hm; replace hT := Lib.hid hT
      clear l9 l10 x9 X28 X8 BS8 hr8
      obtain rfl : T = R := by rw [← hR.out, ← hT.out]; simp [hx_, hfd.out]
      have c9 := BF9.out.cell 0 _ rfl
      go_wp2_with fail
      go_ret
      exact ⟨A9, _, by rw [hm.out]; rfl, r9.out, X9.out, by rw [hm.out]; exact k9, k10⟩
    by_cases h3 : kd = 3
    · subst h3
      go_wp2_with fail
      obtain ⟨w8, hw8⟩ : ∃ W, w2.drewN 1 = W := ⟨_, rfl⟩
      have X28 : Ext w2 w8 := by rw [← hw8]; exact (Ext.refl w2).drewN 1
      have X8 := Lib.hid (X2.out.trans X28)
      have BS8 : Hid (∀ W, Ext w8 W → W.rangeAt w.heap.size 0 cs) := fun W hW => (BS2.out.ext (X28.trans hW)).all
      have hr8 : Hid (∀ W, Ext w8 W → W.rangeAt b (off + i * 11) (encV x)) := fun W hW => hr _ (X28.trans hW) i x hx.out
      refine held_start (S := fun W => Ext w8 W) 8 rfl (by kernel_rfl) ?_
      rw [show ({ w2 with drawn := w2.drawn + 1 } : World) = w8 from hw8]
      clear hw8
      refine held_move (i := 1) rfl (by kernel_rfl) (by kernel_rfl) (by kernel_rfl) _ rfl rfl (Ext.refl w8) _ (by simp [Act.put]; rfl) ?_
      refine held_move (i := 2) rfl (by kernel_rfl) (by kernel_rfl) (by kernel_rfl) _ rfl rfl (Ext.refl w8) _ (by simp [Act.put]; rfl) ?_
      refine held_move (i := 3) rfl (by kernel_rfl) (by kernel_rfl) (by kernel_rfl) _ rfl rfl (Ext.refl w8) _ (by simp [Act.put]; rfl) ?_
      refine held_takeV (i := 0) rfl (by kernel_rfl) (by kernel_rfl) (by kernel_rfl) (.agg cs.toArray) rfl (fun W hW => run_load_mid 55 _ rfl w.heap.size 0 rfl cs _ (BS8.out W hW) Try.underlying55 rfl hsz.out) (Ext.refl w8) _ (by simp [Act.put]; rfl) ?_
      refine held_takeV (i := 4) rfl (by kernel_rfl) (by kernel_rfl) (by kernel_rfl) (.pointer (some ⟨b, off + i * 11, none⟩)) rfl (fun w _ => by go_simp) (Ext.refl w8) _ (by simp [Act.put]; rfl) ?_
      refine held_takeV (i := 5) rfl (by kernel_rfl) (by kernel_rfl) (by kernel_rfl) (.agg (encV x).toArray) rfl (fun W hW => run_load_mid 23 _ rfl b (off + i * 11) rfl (encV x) _ (hr8.out W hW) Try.underlying23 rfl sizeE) (Ext.refl w8) _ (by simp [Act.put]; rfl) ?_
      refine held_all (i := 6) rfl (by kernel_rfl) rfl ?_
      go_wp2_with fail
      refine (rTouchK hs.out (A := none) (l := []) (w := w8) Rw.nil 0 0 rfl (by omega) ⟨by omega, by decide⟩ x).mono ?_
      rintro e9 w9 ⟨A9, c9, rfl, r9, x9, k9, k10⟩
      refine ⟨x9, ?_⟩
      refine held_assign (i := 7) rfl (by kernel_rfl) (by kernel_rfl) (by kernel_rfl) _ rfl rfl x9 _ (by simp [Act.put]; rfl) ?_
      refine held_done (by kernel_rfl) ?_ _
      have X9 := Lib.hid (X8.out.trans x9)
      have BF9 := Lib.hid (BF2.out.ext (X28.trans x9))
      have BS9 := Lib.hid (BS2.out.ext (X28.trans x9))
      have l9 := touchK_len (weeksE u c x) []
      have l10 := weeksE_len u c x
      obtain ⟨T, hT⟩ : ∃ T, touchK [] (weeksE u c x) = T := ⟨_, rfl⟩
      rw [hT] at r9 k9 l9 ⊢
      obtain ⟨m, hm⟩ : ∃ m, T.length = m := ⟨_, rfl⟩
      rw [hm] at k9 l9 ⊢
      have m6 : m ≤ 6 := by simp at l9; omega
      replace r9 := Lib.hid r9; replace hm := Lib.hid hm; replace hT := Lib.hid hT
      clear l9 l10 x9 X28 X8 BS8 hr8
      have c0_ := BF9.out.cell 0 _ rfl
      have BV := Lib.hid BF9.out.tail
      go_wp2_with (first | (refine load_box (by rfl) 55 _ rfl w.heap.size rfl _ _ BS9.out _ Try.underlying55 rfl hsz.out ?_) | (refine load_midG (by rfl) 23 _ rfl (w.heap.size + 1) 1 (by rfl) (encV ev) _ BV.out Try.underlying23 rfl sizeE ?_) | fail)
      refine (rTouchK hs.out (A := A9) (l := T) (w := w9) r9.out _ m hm.out (by omega) ⟨k9, k10⟩ ev).mono ?_
      rintro e10 w10 ⟨A10, c10, rfl, r10, x10, k11, k12⟩
      have X10 := Lib.hid (X9.out.trans x10)
      replace r10 := Lib.hid r10
      obtain ⟨Z, hZ⟩ : ∃ Z, touchK T (weeksE u c ev) = Z := ⟨_, rfl⟩
      rw [hZ] at r10 k11 ⊢
      obtain rfl : Z = R := by rw [← hR.out, ← hZ]; simp [hx_, touchK_app, hfd.out, hT.out]
      clear x10 BV hZ
      go_wp2_with fail
      go_ret
      exact ⟨A10, c10, rfl, r10.out, X10.out, k11, k12⟩
    have d1 : (kd == 1) = false := by rw [beq_eq_false_iff_ne]; exact h1
    have d2 : (kd == 2) = false := by rw [beq_eq_false_iff_ne]; exact h2
    have d3 : (kd == 3) = false := by rw [beq_eq_false_iff_ne]; exact h3
    obtain rfl : [] = R := by rw [← hR.out]; rw [if_neg (by omega), if_neg (by omega)]; rfl <;> rfl
    go_wp2_with fail
    go_ret
    exact ⟨none, 0, rfl, Rw.nil, X2.out, Nat.le_refl _, by decide⟩
end Go.Proofs.Ytmbjbbflhlndcaa
