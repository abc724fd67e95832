/-
  slices.Clip, slices.Grow (of nil), slices.Concat (of two), at spans.
  The seconds of segments: stream.Clock, stream.Only; few of layers 15 and 16.
  stream.Clock, stream.Only; few of layers 15 and 16.
-/
import Derived.Lib.AppendZerosOnto
import Derived.Lib.SliceRun
import Derived.LoopN
import Derived.Test.YtnhmibfgaoealaaGreatTw
import Derived.Test.YtnhmibfgaoealaaGreatDe
import Derived.Test.YtnhmibfgaoealaaGreatMo
namespace Go.Proofs.YtnhmibfgaoealaaGreat
open Go.RowKit
set_option linter.unusedVariables false
set_option linter.unusedSimpArgs false

theorem pClip (A : Option Addr) (n cap : Nat) (h : n ≤ cap) (hm : cap ≤ 9223372036854775807) (w : World) : Calls Tryz.prog 100 #[.slice A n cap] w fun e w' => e = .returned (.slice A n n) ∧ Ext w w' := by
  cases A with
  | none =>
    go_enter Tryz.func100, Tryz.ntmps100
    go_wp2
    go_ret
    exact ⟨rfl, Ext.refl _⟩
  | some a =>
    obtain ⟨b, off, sp⟩ := a
    go_enter Tryz.func100, Tryz.ntmps100
    go_wp2
    go_ret
    exact ⟨rfl, Ext.refl _⟩

theorem grow_zeros (w : World) (n : Nat) (n0 : 0 < n) (hn : n ≤ 4000000) (ty : TypeId) :
    (Builtin.append_ #[34, 3] ty #[.slice none 0 0, .int .i64 (n : Int)]).run Tryz.prog w =
      .ok (.slice (some ⟨w.heap.size, 0, none⟩) n (grownCap w n 0 49))
        (w.drew.alloc (.cells (#[] ++ Builtin.zeroCells #[.int .i64 0, .int .i64 0] n ++ Builtin.zeroCells #[.int .i64 0, .int .i64 0] (grownCap w n 0 49 - n)) 49)) := by
  obtain ⟨i0, hi, hz0, hz1, hz2⟩ := info_parts info_span
  have h := Lib.run_append_grow_zeros (P := Tryz.prog) w 34 3 ty 49 i0 _ .i64 .i64 Tryz.underlying34 Tryz.underlying3 hi hz0 none 0 0 []
    (run_firstCells_none w.drew i0.size 0 0 0) n n0 (by omega) (by omega) (by omega) (by rw [hz2]; omega) (by rw [hz2]; simp only [Nat.zero_add]; exact growslice_fits (need := n) (old := 0) (bytes := 16) (by omega) (by omega))
  simpa [Value.cells] using h

set_option maxRecDepth 100000 in
theorem pGrow (n : Nat) (hn : n ≤ 4000000) (m : Int) (hm : m = n) (w : World) : Calls Tryz.prog 102 #[.slice none 0 0, .int .i64 m] w fun e w' => ∃ A cap, e = .returned (.slice A 0 cap) ∧ w'.ownsRow w.heap.size 49 2 (.slice A 0 cap) 0 (flat encS []) ∧ Ext w w' := by
  subst hm
  by_cases h0 : n = 0
  · subst h0
    go_enter Tryz.func102, Tryz.ntmps102
    go_wp2
    go_ret
    exact ⟨none, 0, rfl, own_nil _ _, Ext.refl _⟩
  · have hz := grow_zeros w n (by omega) hn
    have hG : n ≤ grownCap w n 0 49 := grownCap_ge w _ _ _
    have hG2 := grownCap_le_maxLen w n 0 49 (by unfold maxLen; omega)
    obtain ⟨G, hGG⟩ : ∃ G, G = grownCap w n 0 49 := ⟨_, rfl⟩
    rw [← hGG] at hz hG hG2
    have hG3 : G ≤ 9223372036854775807 := by unfold maxLen at hG2; omega
    have h1 : ¬ ((n : Int) < 0) := by omega
    have h2 : (0 : Int) < (n : Int) := by omega
    have hfin : Hid (((w.alloc (.cells (Builtin.zeroCells #[.int .i64 0, .int .i64 0] n ++ Builtin.zeroCells #[.int .i64 0, .int .i64 0] (G - n)) 49)).drew).ownsRow w.heap.size 49 2 (.slice (some ⟨w.heap.size, 0, none⟩) 0 G) 0 (flat encS [])) := by
      refine ⟨rfl, .inr ⟨w.heap.size, G, _, rfl, Nat.le_refl _, heap_alloc_new w _, by omega, hG2, ?_, by simp [flat]⟩⟩
      rw [Array.size_append, size_zeroCells, size_zeroCells]
      show n * 2 + (G - n) * 2 = G * 2
      omega
    replace hz := Lib.hid hz
    replace hG2 := Lib.hid hG2
    clear hGG
    go_enter Tryz.func102, Tryz.ntmps102
    go_wp2_with (at_builtin; refine Lib.wpList_append_run _ rfl _ _ _ _ rfl _ _ rfl rfl _ _ (hz.out _) ?_)
    all_goals (go_ret; exact ⟨_, G, rfl, hfin.out, ((Ext.refl w).alloc _).drewN 1⟩)

set_option maxRecDepth 100000 in
set_option maxHeartbeats 1000000 in
theorem pConcat {w : World} {A1 A2 : Option Addr} {l1 l2 : List Sp.S} (g c1 c2 : Nat) (hb : Bx w g [.slice A1 l1.length c1, .slice A2 l2.length c2] 34) (h1 : Rs w A1 l1) (h2 : Rs w A2 l2) (b1 : l1.length ≤ 1000000) (b2 : l2.length ≤ 1000000) :
    Calls Tryz.prog 71 #[.slice (some ⟨g, 0, none⟩) 2 2] w (RetS w (l1 ++ l2)) := by
  have y0 := hb.cell 0 _ rfl
  have y1 := hb.cell 1 _ rfl
  replace h1 := Lib.hid h1; replace h2 := Lib.hid h2
  go_enter Tryz.func71, Tryz.ntmps71
  go_wp2_with fail
  refine wp_loop_rounds 3 ?_
  rw [rounds_succ]
  go_wp2_with fail
  rw [rounds_succ]
  go_wp2_with fail
  rw [rounds_succ]
  go_wp2_with fail
  refine (pGrow (l1.length + l2.length) (by omega) _ (by simp) _).mono ?_
  rintro e w1 ⟨A3, c3, rfl, o3, x1⟩
  have hb1 := hb.ext x1
  have z0 := hb1.cell 0 _ rfl
  have z1 := hb1.cell 1 _ rfl
  replace o3 := Lib.hid o3
  clear y0 y1
  go_wp2_with fail
  refine wp_loop_rounds 3 ?_
  rw [rounds_succ]
  go_wp2_with (at_builtin; refine app_row w w1 x1 _ _ rfl rfl 0 _ [] l1 rfl o3.out rfl A1 c1 rfl (h1.out.ext x1) (by simp; omega) ?_; intro A4 c4 w2 o4 x2)
  have hb2 := hb.ext x2
  have u0 := hb2.cell 0 _ rfl
  have u1 := hb2.cell 1 _ rfl
  replace o4 := Lib.hid o4
  clear z0 z1
  rw [rounds_succ]
  go_wp2_with (at_builtin; refine app_row w w2 x2 _ _ rfl rfl l1.length _ l1 l2 rfl o4.out rfl A2 c2 rfl (h2.out.ext x2) (by omega) ?_; intro A5 c5 w3 o5 x3)
  replace o5 := Lib.hid o5
  rw [rounds_succ]
  go_wp2
  go_ret
  exact ⟨A5, c5, by rw [List.length_append]; rfl, Rs.own o5.out, x3, o5.out⟩
end Go.Proofs.YtnhmibfgaoealaaGreat
namespace Go.Proofs.YtnhmibfgaoealaaGreat
open Go.RowKit
set_option linter.unusedVariables false
set_option linter.unusedSimpArgs false

def enc5 (x : SegL) : List Value := [.int .i64 x.from_, .int .i64 x.to, .int .i64 x.kind, .int .i64 x.id, .int .i64 x.code]
theorem enc5_len (x : SegL) : (enc5 x).length = 5 := rfl
/-- The slice at A reads as these segments. -/
def Rg (w : World) (A : Option Addr) (l : List SegL) : Prop := Rd enc5 5 w w.heap.size A l
theorem Rg.ext {w w' : World} {A : Option Addr} {l : List SegL} (h : Rg w A l) (k : Ext w w') : Rg w' A l := (Rd.below h k).more k.size
theorem Rg.alloc {w : World} {A : Option Addr} {l : List SegL} (h : Rg w A l) (o : Obj) : Rg (w.alloc o) A l := h.ext ((Ext.refl w).alloc o)
theorem Rg.drewN {w : World} {A : Option Addr} {l : List SegL} (h : Rg w A l) (n : Nat) : Rg (w.drewN n) A l := h.ext ((Ext.refl w).drewN n)
theorem Rg.atG {w w' : World} {A : Option Addr} {l : List SegL} (h : Rg w A l) (hX : Ext w w') {j : Nat} (hj : j < l.length) :
    ∃ b off x, A = some ⟨b, off, none⟩ ∧ b < w.heap.size ∧ Hid (l[j]? = some x) ∧ w'.cell? ⟨b, off + j * 5, none⟩ = some (.int .i64 x.from_) ∧ w'.cell? ⟨b, off + j * 5 + 1, none⟩ = some (.int .i64 x.to) ∧ w'.cell? ⟨b, off + j * 5 + 2, none⟩ = some (.int .i64 x.kind) ∧ w'.cell? ⟨b, off + j * 5 + 3, none⟩ = some (.int .i64 x.id) ∧ w'.cell? ⟨b, off + j * 5 + 4, none⟩ = some (.int .i64 x.code) := by
  obtain ⟨b, off, x, hA, hlt, hx, hc⟩ := (Rd.below h hX).at_ hj
  exact ⟨b, off, x, hA, hlt, hx, hc 0 _ rfl, hc 1 _ rfl, hc 2 _ rfl, hc 3 _ rfl, hc 4 _ rfl⟩

theorem keep_yes {q : SegL → Bool} {l : List SegL} {x : SegL} (h : q x = true) : ((l ++ [x]).filter q).map SegL.span = (l.filter q).map SegL.span ++ [(x.from_, x.to)] := by
  rw [List.filter_append, List.map_append]; simp [h, SegL.span]
theorem keep_no {q : SegL → Bool} {l : List SegL} {x : SegL} (h : q x = false) : ((l ++ [x]).filter q).map SegL.span = (l.filter q).map SegL.span := by
  rw [List.filter_append, List.map_append]; simp [h]

set_option maxRecDepth 100000 in
set_option maxHeartbeats 1000000 in
theorem pSpans (q : SegL → Bool) (g : Nat) (lb : Array Value) (eg : ∀ args w, (callFunc g args).run Tryz.prog w = .ok (.enter g args) w) {w : World} (kg : ∀ W x, Ext w W → Calls Tryz.prog g (#[.agg #[.int .i64 x.from_, .int .i64 x.to, .int .i64 x.kind, .int .i64 x.id, .int .i64 x.code]] ++ lb) W (RetB W (q x)))
    {A : Option Addr} {l : List SegL} (h : Rg w A l) (hl : l.length ≤ 100000) (c : Nat) :
    Calls Tryz.prog 63 #[.slice A l.length c, .func (.func g) #[] lb] w (RetS w (Sp.norm ((l.filter q).map SegL.span))) := by
  replace h := Lib.hid h; replace kg := Lib.hid kg
  go_enter Tryz.func63, Tryz.ntmps63
  go_wp2_with fail
  go_loopw [10, 5] (fun i v wr => ∃ (k n : Nat) (A2 : Option Addr) (c2 : Nat), k ≤ l.length ∧ i = .int .i64 k ∧ v = .slice A2 n c2 ∧ Hid (n = (((l.take k).filter q).map SegL.span).length) ∧ Hid (wr.ownsRow w.heap.size 49 2 (.slice A2 n c2) n (flat encS (((l.take k).filter q).map SegL.span))) ∧ Hid (Ext w wr) ∧ n ≤ k) (fun i _ _ => l.length - (intOf i).toNat)
  case atStart => exact ⟨0, 0, none, 0, Nat.zero_le _, rfl, rfl, rfl, own_nil _ _, Ext.refl _, Nat.le_refl _⟩
  case round =>
    obtain ⟨k, n, A2, c2, hk, rfl, rfl, HN, HO, HX, nk⟩ := hrel
    by_cases hlt : k < l.length
    · obtain ⟨b, off, x, rfl, hbB, hx, y0, y1, y2, y3, y4⟩ := h.out.atG HX.out hlt
      have hcall := Lib.hid fun W X => kg.out W x X
      cases hq : q x
      · rw [hq] at hcall
        have E : Hid (((l.take (k + 1)).filter q).map SegL.span = ((l.take k).filter q).map SegL.span) := by show _ = _; rw [take_snoc hx.out]; exact keep_no hq
        go_wp2_with (go_at_fn g; refine (hcall.out _ (HX.out.alloc _)).mono ?_; rintro e w2 ⟨rfl, x2⟩)
        rw [← E.out] at HN HO
        have HO2 := Lib.hid (own_below (HO.out.alloc _) x2)
        have X2 := Lib.hid ((HX.out.alloc _).trans x2)
        clear HO x2
        go_roundw
        case rel => exact ⟨k + 1, n, A2, c2, by omega, by go_num, rfl, HN, HO2, X2, by omega⟩
        case measure => simp [intOf]; omega
      · rw [hq] at hcall
        have E : Hid (((l.take (k + 1)).filter q).map SegL.span = ((l.take k).filter q).map SegL.span ++ [(x.from_, x.to)]) := by show _ = _; rw [take_snoc hx.out]; exact keep_yes hq
        obtain ⟨O, hO⟩ : ∃ O, ((l.take k).filter q).map SegL.span = O := ⟨_, rfl⟩
        rw [hO] at HN HO E
        clear hO
        have hn := HN.out
        subst hn
        obtain ⟨_, _, hv, hc1, hc2⟩ := own_form HO.out
        cases hv
        replace hc1 := Lib.hid hc1; replace hc2 := Lib.hid hc2
        clear HN
        go_wp2_with (first | (go_at_fn g; refine (hcall.out _ (HX.out.alloc _)).mono ?_; rintro e w2 ⟨rfl, x2⟩; have hb := (Bx.new wr [.int .i64 x.from_, .int .i64 x.to, .int .i64 x.kind, .int .i64 x.id, .int .i64 x.code] 60).ext x2; have v0 := hb.cell 0 _ rfl; have v1 := hb.cell 1 _ rfl; have X2 := Lib.hid ((HX.out.alloc (.cells #[.int .i64 x.from_, .int .i64 x.to, .int .i64 x.kind, .int .i64 x.id, .int .i64 x.code] 60)).trans x2); have HO2 := Lib.hid (own_below (HO.out.alloc _) x2); replace hb := Lib.hid hb; clear HO HX x2) | (at_builtin; refine app_row w _ (X2.out.alloc _) _ _ rfl rfl O.length _ O [(x.from_, x.to)] rfl (HO2.out.alloc _) rfl _ 1 rfl (Rs.new_g _ [(x.from_, x.to)] _ _ (by simp)) (by simp; omega) ?_; intro A4 c4 w3 o4 x3))
        rw [← E.out] at o4
        have e4 : (((l.take (k + 1)).filter q).map SegL.span).length = O.length + 1 := by rw [E.out, List.length_append]; rfl
        replace o4 := Lib.hid o4; replace x3 := Lib.hid x3
        go_roundw
        case rel => exact ⟨k + 1, _, A4, c4, by omega, by go_num, by rw [e4], rfl, o4, x3, by omega⟩
        case measure => simp [intOf]; omega
    · obtain rfl : k = l.length := by omega
      rw [List.take_length] at HN HO
      obtain ⟨O, hO⟩ : ∃ O, (l.filter q).map SegL.span = O := ⟨_, rfl⟩
      rw [hO] at HN HO
      replace hO := Lib.hid hO
      have hn := HN.out
      subst hn
      obtain ⟨A3, c3, hv, hc1, hc2⟩ := own_form HO.out
      cases hv
      go_wp2_with fail
      refine (pClip _ _ _ hc1 hc2 _).mono ?_
      rintro e w2 ⟨rfl, x2⟩
      go_wp2_with fail
      refine (cNorm (Rs.ext (Rs.own HO.out) x2) (by omega) _).mono ?_
      rintro e w3 ⟨A4, c4, rfl, r4, x4, o4⟩
      go_wp2
      go_ret
      show RetS w (Sp.norm ((l.filter q).map SegL.span)) _ _
      rw [hO.out]
      exact ⟨A4, c4, rfl, r4, (HX.out.trans x2).trans x4, own_base o4 (Nat.le_trans HX.out.size x2.size)⟩
end Go.Proofs.YtnhmibfgaoealaaGreat
namespace Go.Proofs.YtnhmibfgaoealaaGreat
open Go.RowKit
set_option linter.unusedVariables false
set_option linter.unusedSimpArgs false

theorem clock1 (x : SegL) (W : World) : Calls Tryz.prog 64 #[.agg #[.int .i64 x.from_, .int .i64 x.to, .int .i64 x.kind, .int .i64 x.id, .int .i64 x.code]] W (RetB W true) := by
  go_enter Tryz.func64, Tryz.ntmps64
  go_wp2
  go_ret
  exact ⟨rfl, (Ext.refl _).alloc _⟩
theorem only1 (x : SegL) (k : Int) (B : Nat) (W : World) (hB : B < W.heap.size) (hc : W.cell? ⟨B, 0, none⟩ = some (.int .i64 k)) : Calls Tryz.prog 77 #[.agg #[.int .i64 x.from_, .int .i64 x.to, .int .i64 x.kind, .int .i64 x.id, .int .i64 x.code], .pointer (some ⟨B, 0, none⟩)] W (RetB W (x.kind == k)) := by
  have hne : B ≠ W.heap.size := by omega
  obtain ⟨a, b, m, d, e⟩ := x
  show Calls Tryz.prog 77 #[.agg #[.int .i64 a, .int .i64 b, .int .i64 m, .int .i64 d, .int .i64 e], .pointer (some ⟨B, 0, none⟩)] W (RetB W (m == k))
  by_cases h : m = k
  · subst h
    rw [show (m == m) = true by simp]
    go_enter Tryz.func77, Tryz.ntmps77
    go_wp2
    go_ret
    exact ⟨rfl, (Ext.refl _).alloc _⟩
  · have f1 : (m == k) = false := beq_false_of_ne h
    rw [f1]
    go_enter Tryz.func77, Tryz.ntmps77
    go_wp2
    go_ret
    exact ⟨rfl, (Ext.refl _).alloc _⟩

theorem pClock {w : World} {A : Option Addr} {l : List SegL} (h : Rg w A l) (hl : l.length ≤ 100000) (c : Nat) : Calls Tryz.prog 25 #[.slice A l.length c] w (RetS w (clockL l)) := by
  have e : Sp.norm ((l.filter fun _ => true).map SegL.span) = clockL l := by rw [filter_true]; rfl
  go_enter Tryz.func25, Tryz.ntmps25
  go_wp2_with fail
  refine (sEq (pSpans (fun _ => true) 64 #[] (enters_of Tryz.func64 (by kernel_rfl) rfl) (fun W x _ => clock1 x W) h hl c) e).mono ?_
  rintro e w1 ⟨A1, c1, rfl, r1, x1, o1⟩
  go_wp2
  go_ret
  exact ⟨A1, c1, rfl, r1, x1, o1⟩
theorem pOnly {w : World} {A : Option Addr} {l : List SegL} (h : Rg w A l) (hl : l.length ≤ 100000) (c : Nat) (k : Int) : Calls Tryz.prog 38 #[.slice A l.length c, .int .i64 k] w (RetS w (onlyL l k)) := by
  have e : Sp.norm ((l.filter fun s => s.kind == k).map SegL.span) = onlyL l k := rfl
  go_enter Tryz.func38, Tryz.ntmps38
  go_wp2_with fail
  refine (sEq (pSpans (fun s => s.kind == k) 77 #[.pointer (some ⟨w.heap.size, 0, none⟩)] (enters_of Tryz.func77 (by kernel_rfl) rfl) (fun W x X => only1 x k w.heap.size W (((Bx.new w [.int .i64 k] 3).ext X).lt) (((Bx.new w [.int .i64 k] 3).ext X).cell 0 _ rfl)) (h.alloc _) hl c) e).mono ?_
  rintro e w1 ⟨A1, c1, rfl, r1, x1, o1⟩
  go_wp2
  go_ret
  exact ⟨A1, c1, rfl, r1, ((Ext.refl w).alloc _).trans x1, own_base o1 (by simp)⟩

set_option maxRecDepth 100000 in
set_option maxHeartbeats 1000000 in
theorem few15A (cs : List Value) (hcs : cs.length = 23) (p : Prop) (l : List SegL) (A : Option Addr) (c : Nat) (hl : l.length ≤ maxLen) (w : World) (h : Rg w A l)
    (kF : ∀ W, Ext w W → Calls Tryz.prog 30 #[.agg cs.toArray] W (RetP W p)) :
    Calls Tryz.prog 10 #[.agg cs.toArray, .slice A l.length c] w (RetP w (p ∧ l.length ≤ 30 ∧ ∀ x ∈ l, 0 ≤ x.from_ ∧ x.from_ ≤ 33000000 ∧ x.to ≤ 33000000)) := by
  replace h := Lib.hid h; replace kF := Lib.hid kF
  have hl2 : l.length ≤ 9223372036854775807 := hl
  clear hl
  go_enter Tryz.func10, Tryz.ntmps10
  go_wp2_with fail
  go_loopw [5] (fun i wr => ∃ k : Nat, k ≤ l.length ∧ i = .int .i64 k ∧ Hid (∀ x ∈ l.take k, 0 ≤ x.from_ ∧ x.from_ ≤ 33000000 ∧ x.to ≤ 33000000) ∧ Hid (Ext w wr) ∧ Hid (Bx wr w.heap.size cs 30)) (fun i _ => l.length - (intOf i).toNat)
  case atStart => exact ⟨0, Nat.zero_le _, rfl, (show Hid _ from fun x hx => by simp at hx), (Ext.refl w).alloc _, Bx.new w cs _⟩
  case round =>
    obtain ⟨k, hk, rfl, HP, HX, HB⟩ := hrel
    by_cases hlt : k < l.length
    · obtain ⟨b, off, x, rfl, hbB, hx, c0, c1, _, _, _⟩ := h.out.atG HX.out hlt
      obtain ⟨p, hp⟩ : ∃ p, x.from_ = p := ⟨_, rfl⟩
      obtain ⟨q, hq⟩ : ∃ q, x.to = q := ⟨_, rfl⟩
      rw [hp] at c0; rw [hq] at c1; replace hp := Lib.hid hp; replace hq := Lib.hid hq
      have q3 : (k : Int) < (l.length : Int) := by omega
      have q4 : (0 : Int) ≤ (k : Int) := by omega
      by_cases g1 : p < 0
      · go_wp2_with fail
        go_quiet (fail)
        go_wp2
        go_ret
        exact ⟨⟨_, rfl, fun h => by cases h⟩, HX.out.drewN _⟩
      · have f1 : decide (p < 0) = false := decide_eq_false g1
        by_cases g2 : 33000000 < p
        · go_wp2_with fail
          go_quiet (fail)
          go_wp2
          go_ret
          exact ⟨⟨_, rfl, fun h => by cases h⟩, HX.out.drewN _⟩
        · have f2 : decide (33000000 < p) = false := decide_eq_false g2
          by_cases g3 : 33000000 < q
          · go_wp2_with fail
            go_quiet (fail)
            go_wp2
            go_ret
            exact ⟨⟨_, rfl, fun h => by cases h⟩, HX.out.drewN _⟩
          · have f3 : decide (33000000 < q) = false := decide_eq_false g3
            obtain ⟨z, hz⟩ : ∃ z, IntKind.i64.wrap (q - p) = z := ⟨_, rfl⟩
            have g0 : Hid ((0 ≤ p ∧ p ≤ 33000000) ∧ q ≤ 33000000) := ⟨⟨by omega, by omega⟩, by omega⟩
            clear g1 g2 g3
            by_cases g4 : 864000 < z
            · have f4 : decide (864000 < z) = true := decide_eq_true g4
              go_wp2_with fail
              go_quiet (fail)
              go_wp2
              go_ret
              exact ⟨⟨_, rfl, fun h => by cases h⟩, HX.out.drewN _⟩
            · have f4 : decide (864000 < z) = false := decide_eq_false g4
              go_wp2_with fail
              go_quiet (fail)
              go_wp2
              go_roundw
              case rel =>
                refine ⟨k + 1, by omega, by go_num, ?_, HX.out.drewN _, HB.out.drewN _⟩
                show ∀ x ∈ l.take (k + 1), _
                rw [take_snoc hx.out]
                intro x hm
                rcases List.mem_append.1 hm with h | h
                · exact HP.out x h
                · simp at h; subst h; rw [hp.out, hq.out]; exact ⟨g0.out.1.1, g0.out.1.2, g0.out.2⟩
              case measure => simp [intOf]; omega
    · obtain rfl : k = l.length := by omega
      rw [List.take_length] at HP
      have hb := HB.out
      have hi := Lib.hid (su_size hcs)
      go_wp2_with (first | (refine load_box rfl 30 _ rfl _ rfl _ _ hb _ Tryz.underlying30 rfl hi.out ?_))
      refine (kF.out _ HX.out).mono ?_
      rintro e w1 ⟨⟨b, rfl, hb2⟩, x1⟩
      clear hb hi
      cases b
      · clear hb2
        go_wp2
        go_ret
        exact ⟨⟨_, rfl, fun h => by cases h⟩, HX.out.trans x1⟩
      · have hp := hb2 rfl
        replace hp := Lib.hid hp
        clear hb2
        go_wp2
        go_ret
        exact ⟨⟨_, rfl, fun h => ⟨hp.out, by have := of_decide_eq_true h; omega, HP.out⟩⟩, HX.out.trans x1⟩

def Few15 (s : Su) (l : List SegL) : Prop := SuFew s ∧ l.length ≤ 30 ∧ ∀ x ∈ l, 0 ≤ x.from_ ∧ x.from_ ≤ 33000000 ∧ x.to ≤ 33000000
theorem pFew15 (s : Su) (h : Sh) {w : World} {A : Option Addr} {l : List SegL} (hA : Rg w A l) (hl : l.length ≤ maxLen) (c : Nat) :
    Calls Tryz.prog 10 #[.agg (s.cells h).toArray, .slice A l.length c] w (RetP w (Few15 s l)) :=
  few15A (s.cells h) rfl (SuFew s) l A c hl w hA (fun W _ => (pFew s h W).mono fun _ _ ⟨⟨b, he, hb⟩, x⟩ => ⟨⟨b, he, hb.1⟩, x⟩)
end Go.Proofs.YtnhmibfgaoealaaGreat
