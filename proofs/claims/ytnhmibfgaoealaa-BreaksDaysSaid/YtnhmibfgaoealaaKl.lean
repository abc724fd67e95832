/-
  Laws of layer 15: BreaksDays.
-/
import Derived.Test.YtnhmibfgaoealaaKi
namespace Go.Proofs.Ytnhmibfgaoealaa
open Go.RowKit
set_option linter.unusedVariables false
set_option linter.unusedSimpArgs false

theorem info_seg : (Try.prog.info? 78).map (fun i => (i.zero, i.size, i.bytes)) = some (some (.agg #[.int .i64 0, .int .i64 0, .int .i64 0, .int .i64 0, .int .i64 0]), 5, 40) := by kernel_rfl

/-- A part put behind a row of the call's own. -/
theorem app_seg {ops : Array Oper} {rest : List Oper} {o : Oper} {a : Act} {Q : Exit → Act → World → Prop} (w0 w : World) (X : Ext w0 w) (s x : Operand) (hgd : o.guard = none)
    (ho : o.op = .call { callee := .builtin .append, args := #[s, x], argTypes := #[69, 69] })
    (n : Nat) (v : Value) (l : List SegL) (hs : a.eval s = v) (hown : w.ownsRow w0.heap.size 78 5 v n (flat enc5 l)) (y : SegL) (g c : Nat)
    (hx : a.eval x = .slice (some ⟨g, 0, none⟩) 1 c) (hg : ∀ i u, (enc5 y)[i]? = some u → w.cell? ⟨g, i, none⟩ = some u) (hn : n ≤ 1000000)
    (h : ∀ A' cap' w', w'.ownsRow w0.heap.size 78 5 (.slice A' (n + 1) cap') (n + 1) (flat enc5 (l ++ [y])) → Ext w0 w' → wpList Try.prog ops Q rest (a.put o.dst (.slice A' (n + 1) cap')) w') : wpList Try.prog ops Q (o :: rest) a w := by
  obtain ⟨i0, hi, hz0, hz1, hz2⟩ := info_parts info_seg
  refine wpList_append_at w hgd s x 69 ho w0.heap.size 78 i0 (.agg #[.int .i64 0, .int .i64 0, .int .i64 0, .int .i64 0, .int .i64 0]) 5 40 Try.underlying69 hi hz0 hz1 hz2 rfl (by decide) v n (flat enc5 l) hs hown ⟨g, 0, none⟩ 1 c (enc5 y) hx rfl ?_ ?_ (by unfold maxLen; omega) (by omega) X.size ?_
  · intro j u hj
    rw [add_head]
    exact hg j u hj
  · intro u hu; simp [enc5] at hu; rcases hu with rfl | rfl | rfl | rfl | rfl <;> rfl
  · intro v' w' ho' hgr hv
    obtain ⟨A', cap', hv, _⟩ := own_form ho'
    subst hv
    exact h A' cap' w' (by rw [flat_append]; simpa [flat] using ho') (Below.grown X hgr X.size fun k hk => (hown.lt k hk).1)

theorem some_yes {d k : Int} {l : List SegL} {x : SegL} {j : Nat} (hx : l[j]? = some x) (h : max x.from_ (d * k) < min x.to ((d + 1) * k)) : someSegs d k (l.take (j + 1)) = someSegs d k (l.take j) ++ [clipSeg d k x] := by
  unfold someSegs
  rw [take_snoc hx, List.map_append, List.filter_append]
  simp [clipSeg, h]
theorem some_no {d k : Int} {l : List SegL} {x : SegL} {j : Nat} (hx : l[j]? = some x) (h : ¬ max x.from_ (d * k) < min x.to ((d + 1) * k)) : someSegs d k (l.take (j + 1)) = someSegs d k (l.take j) := by
  unfold someSegs
  rw [take_snoc hx, List.map_append, List.filter_append]
  simp [clipSeg, h]
theorem some_len (d k : Int) (l : List SegL) : (someSegs d k l).length ≤ l.length := by
  unfold someSegs
  exact Nat.le_trans (List.length_filter_le _ _) (by simp)
theorem seg_cells (w : World) (y : SegL) (o : Obj) (g : Nat) (hg : g = w.heap.size + 1) (i : Nat) (u : Value) (h : (enc5 y)[i]? = some u) : ((w.alloc o).alloc (.cells (enc5 y).toArray 78)).cell? ⟨g, i, none⟩ = some u := by
  have := cell_of_row ((w.alloc o).alloc (.cells (enc5 y).toArray 78)) g i (enc5 y).toArray 78 (0, 0) (by rw [hg, show w.heap.size + 1 = (w.alloc o).heap.size by simp]; exact heap_alloc_new _ _)
  rw [this]
  simpa using h

set_option maxRecDepth 100000 in
set_option maxHeartbeats 2000000 in
theorem breaksDays0 (cs : List Value) (hcs : cs.length = 23) (l : List SegL) (A : Option Addr) (c : Nat) (d : Int) (hd : 0 ≤ d ∧ d ≤ 255) (p : Prop) (a b x y : List Sp.S) (w : World) (h : Rg w A l) (kF : ∀ W, Ext w W → ∀ A c, Rg W A l → Calls Try.prog 65 #[.agg cs.toArray, .slice A l.length c] W (RetP W p)) (kP : p → ∀ W, Ext w W → ∀ A c, Rg W A l → Calls Try.prog 66 #[.agg cs.toArray, .slice A l.length c] W (Ret2R W a b)) (kB : p → ∀ W, Ext w W → ∀ A c, Rg W A l → Calls Try.prog 68 #[.agg cs.toArray, .slice A l.length c, .int .i64 d] W (Ret2S W x y)) (kS : p → ∀ W, Ext w W → ∀ A c, Rg W A (someSegs d 86400 l) → Calls Try.prog 66 #[.agg cs.toArray, .slice A (someSegs d 86400 l).length c] W (Ret2R W x y))
    (h30 : p → l.length ≤ 100) (bl : p → a.length ≤ 400000 ∧ b.length ≤ 400000 ∧ x.length ≤ 400000 ∧ y.length ≤ 400000) (e1 : partS a d 86400 = x) (e2 : partS b d 86400 = y) :
    Calls Try.prog 24 #[.agg cs.toArray, .slice A l.length c, .int .u8 d] w (RetB w true) := by
  replace kF := Lib.hid kF
  replace kP := Lib.hid kP
  replace kB := Lib.hid kB
  replace kS := Lib.hid kS
  replace h := Lib.hid h
  replace h30 := Lib.hid h30
  replace bl := Lib.hid bl
  replace e1 := Lib.hid e1
  replace e2 := Lib.hid e2
  have hi := Lib.hid (su_size hcs)
  clear hcs
  have hs0 := Bx.new w cs 35
  have X0 := (Ext.refl w).alloc (.cells cs.toArray 35)
  have hg0 := h.out.alloc (.cells cs.toArray 35)
  go_enter Try.func24, Try.ntmps24
  go_wp2_with fail
  refine (awake15 _).mono ?_
  rintro e w1 ⟨rfl, x1⟩
  have hs1 := hs0.ext x1; clear hs0
  have hg1 := hg0.ext x1; clear hg0
  have X1 := X0.trans x1
  go_wp2_with (first | (refine load_box rfl 35 _ rfl _ rfl _ _ hs1 _ Try.underlying35 rfl hi.out ?_))
  refine (kF.out _ X1 _ _ hg1).mono ?_
  rintro e w2 ⟨⟨b, rfl, hb⟩, x2⟩
  have hs2 := hs1.ext x2; clear hs1
  have hg2 := hg1.ext x2; clear hg1
  have X2 := X1.trans x2
  cases b
  · clear hb
    go_wp2
    go_ret
    exact ⟨rfl, X2⟩
  · have hp := hb rfl
    clear hb
    have d1 : IntKind.i64.wrap (d * 86400) = d * 86400 := IntWalk.i64_in _ (by omega)
    have d2 : IntKind.i64.wrap (d + 1) = d + 1 := IntWalk.i64_in _ (by omega)
    have d3 : IntKind.i64.wrap ((d + 1) * 86400) = (d + 1) * 86400 := IntWalk.i64_in _ (by omega)
    have l30 := h30.out hp
    go_wp2_with fail
    go_loopw [10, 9] (fun i v wr => ∃ (k m : Nat) (A2 : Option Addr) (c2 : Nat), k ≤ l.length ∧ i = .int .i64 k ∧ v = .slice A2 m c2 ∧ Hid (m = (someSegs d 86400 (l.take k)).length) ∧ Hid (wr.ownsRow w2.heap.size 78 5 (.slice A2 m c2) m (flat enc5 (someSegs d 86400 (l.take k)))) ∧ Hid (Ext w2 wr)) (fun i _ _ => l.length - (intOf i).toNat)
    case atStart => exact ⟨0, 0, none, 0, Nat.zero_le _, rfl, rfl, rfl, ⟨rfl, .inl ⟨rfl, rfl⟩⟩, Ext.refl _⟩
    case round =>
      obtain ⟨k, m, A2, c2, hk, rfl, rfl, hm, HO, HX⟩ := hrel
      by_cases hlt : k < l.length
      · obtain ⟨b, off, z, rfl, hbB, hx, y0, y1, y2, y3, y4⟩ := hg2.atG HX.out hlt
        have q3 : (k : Int) < (l.length : Int) := by omega
        have q4 : (0 : Int) ≤ (k : Int) := by omega
        have hl2 : m ≤ l.length := by rw [hm.out]; exact Nat.le_trans (some_len _ _ _) (by simp; omega)
        by_cases g : max z.from_ (d * 86400) < min z.to ((d + 1) * 86400)
        · have f1 : decide (max z.from_ (d * 86400) < min z.to ((d + 1) * 86400)) = true := decide_eq_true g
          have E := Lib.hid (some_yes hx.out g)
          go_wp2_with (at_builtin; (refine app_seg w2 _ ((HX.out.alloc _).alloc _) _ _ (by rfl) (by rfl) m _ (someSegs d 86400 (l.take k)) (by rfl) ((HO.out.alloc _).alloc _) (clipSeg d 86400 z) (wr.heap.size + 1) 1 (by rfl) (seg_cells _ (clipSeg d 86400 z) _ _ (by simp)) (by omega) ?_; intro A4 c4 w3 o4 x3))
          clear HO HX
          rw [← E.out] at o4
          have hm2 : Hid (m + 1 = (someSegs d 86400 (l.take (k + 1))).length) := by show _ = _; rw [E.out, List.length_append, ← hm.out]; rfl
          replace o4 := Lib.hid o4; replace x3 := Lib.hid x3
          go_wp2
          go_roundw
          case rel => exact ⟨k + 1, m + 1, A4, c4, by omega, by go_num, rfl, hm2, o4, x3⟩
          case measure => simp [intOf]; omega
        · have f1 : decide (max z.from_ (d * 86400) < min z.to ((d + 1) * 86400)) = false := decide_eq_false g
          have E := Lib.hid (some_no hx.out g)
          rw [← E.out] at HO hm
          go_wp2_with fail
          go_roundw
          case rel => exact ⟨k + 1, m, A2, c2, by omega, by go_num, rfl, hm, HO.out.alloc _, HX.out.alloc _⟩
          case measure => simp [intOf]; omega
      · obtain rfl : k = l.length := by omega
        rw [List.take_length] at HO hm
        have hm2 := hm.out
        subst hm2
        have ho3 : Rg wr A2 (someSegs d 86400 l) := Rd.of_own enc5_len HO.out
        have hs3 := hs2.ext HX.out
        have hg3 := hg2.ext HX.out
        have X3 := X2.trans HX.out
        clear HO HX hs2 hg2 hm
        obtain ⟨lb1, lb2, lb3, lb4⟩ := bl.out hp
        go_wp2_with (first | (refine load_box rfl 35 _ rfl _ rfl _ _ hs3 _ Try.underlying35 rfl hi.out ?_))
        refine (kP.out hp _ X3 _ _ hg3).mono ?_
        rintro e w4 ⟨A4, cap4, B4, dap4, rfl, ⟨r4, t4⟩, x4, _⟩
        have hs4 := hs3.ext x4; clear hs3
        have hg4 := hg3.ext x4; clear hg3
        have ho4 := ho3.ext x4; clear ho3
        have X4 := X3.trans x4
        go_wp2_with (first | (refine load_box rfl 35 _ rfl _ rfl _ _ hs4 _ Try.underlying35 rfl hi.out ?_))
        refine (kB.out hp _ X4 _ _ hg4).mono ?_
        rintro e w5 ⟨A5, cap5, B5, dap5, rfl, ⟨r5, t5⟩, x5, _⟩
        have hs5 := hs4.ext x5; clear hs4
        have hg5 := hg4.ext x5; clear hg4
        have ho5 := ho4.ext x5; clear ho4
        have ha5 := r4.ext x5
        have hb5 := t4.ext x5
        have X5 := X4.trans x5
        go_wp2_with (first | (refine load_box rfl 35 _ rfl _ rfl _ _ hs5 _ Try.underlying35 rfl hi.out ?_))
        refine (kS.out hp _ X5 _ _ ho5).mono ?_
        rintro e w6 ⟨A6, cap6, B6, dap6, rfl, ⟨r6, t6⟩, x6, _⟩
        have hs6 := hs5.ext x6; clear hs5
        have hg6 := hg5.ext x6; clear hg5
        have ho6 := ho5.ext x6; clear ho5
        have ha6 := ha5.ext x6; clear ha5
        have hb6 := hb5.ext x6; clear hb5
        have hp6 := r5.ext x6
        have hq6 := t5.ext x6
        have X6 := X5.trans x6
        go_wp2_with fail
        refine (sEq (pOfDay ha6 (by omega) _ d) e1.out).mono ?_
        rintro e w7 ⟨A7, cap7, rfl, r7, x7, _⟩
        have hs7 := hs6.ext x7; clear hs6
        have hg7 := hg6.ext x7; clear hg6
        have ho7 := ho6.ext x7; clear ho6
        have ha7 := ha6.ext x7; clear ha6
        have hb7 := hb6.ext x7; clear hb6
        have hp7 := hp6.ext x7; clear hp6
        have hq7 := hq6.ext x7; clear hq6
        have hu7 := r6.ext x7
        have hv7 := t6.ext x7
        have X7 := X6.trans x7
        go_wp2_with fail
        refine (bEq (cSame r7 hp7 (by omega) _ _) (b' := true) (decide_eq_true rfl)).mono ?_
        rintro e w8 ⟨rfl, x8⟩
        have hs8 := hs7.ext x8; clear hs7
        have hg8 := hg7.ext x8; clear hg7
        have ho8 := ho7.ext x8; clear ho7
        have ha8 := ha7.ext x8; clear ha7
        have hb8 := hb7.ext x8; clear hb7
        have hp8 := hp7.ext x8; clear hp7
        have hq8 := hq7.ext x8; clear hq7
        have hu8 := hu7.ext x8; clear hu7
        have hv8 := hv7.ext x8; clear hv7
        have hm8 := r7.ext x8
        have X8 := X7.trans x8
        go_wp2_with fail
        refine (sEq (pOfDay hb8 (by omega) _ d) e2.out).mono ?_
        rintro e w9 ⟨A9, cap9, rfl, r9, x9, _⟩
        have hs9 := hs8.ext x9; clear hs8
        have hg9 := hg8.ext x9; clear hg8
        have ho9 := ho8.ext x9; clear ho8
        have ha9 := ha8.ext x9; clear ha8
        have hb9 := hb8.ext x9; clear hb8
        have hp9 := hp8.ext x9; clear hp8
        have hq9 := hq8.ext x9; clear hq8
        have hu9 := hu8.ext x9; clear hu8
        have hv9 := hv8.ext x9; clear hv8
        have hm9 := hm8.ext x9; clear hm8
        have X9 := X8.trans x9
        go_wp2_with fail
        refine (bEq (cSame r9 hq9 (by omega) _ _) (b' := true) (decide_eq_true rfl)).mono ?_
        rintro e w10 ⟨rfl, x10⟩
        have hs10 := hs9.ext x10; clear hs9
        have hg10 := hg9.ext x10; clear hg9
        have ho10 := ho9.ext x10; clear ho9
        have ha10 := ha9.ext x10; clear ha9
        have hb10 := hb9.ext x10; clear hb9
        have hp10 := hp9.ext x10; clear hp9
        have hq10 := hq9.ext x10; clear hq9
        have hu10 := hu9.ext x10; clear hu9
        have hv10 := hv9.ext x10; clear hv9
        have hm10 := r9.ext x10
        have X10 := X9.trans x10
        go_wp2_with fail
        refine (bEq (cSame hu10 hp10 (by omega) _ _) (b' := true) (decide_eq_true rfl)).mono ?_
        rintro e w11 ⟨rfl, x11⟩
        have hs11 := hs10.ext x11; clear hs10
        have hg11 := hg10.ext x11; clear hg10
        have ho11 := ho10.ext x11; clear ho10
        have ha11 := ha10.ext x11; clear ha10
        have hb11 := hb10.ext x11; clear hb10
        have hp11 := hp10.ext x11; clear hp10
        have hq11 := hq10.ext x11; clear hq10
        have hu11 := hu10.ext x11; clear hu10
        have hv11 := hv10.ext x11; clear hv10
        have hm11 := hm10.ext x11; clear hm10
        have X11 := X10.trans x11
        go_wp2_with fail
        refine (bEq (cSame hv11 hq11 (by omega) _ _) (b' := true) (decide_eq_true rfl)).mono ?_
        rintro e w12 ⟨rfl, x12⟩
        have hs12 := hs11.ext x12; clear hs11
        have hg12 := hg11.ext x12; clear hg11
        have ho12 := ho11.ext x12; clear ho11
        have ha12 := ha11.ext x12; clear ha11
        have hb12 := hb11.ext x12; clear hb11
        have hp12 := hp11.ext x12; clear hp11
        have hq12 := hq11.ext x12; clear hq11
        have hu12 := hu11.ext x12; clear hu11
        have hv12 := hv11.ext x12; clear hv11
        have hm12 := hm11.ext x12; clear hm11
        have X12 := X11.trans x12
        go_wp2
        go_ret
        exact ⟨rfl, X12⟩

theorem partS_nil (d k : Int) : partS [] d k = [] := by
  unfold partS
  split
  · rfl
  · exact (Sp.and_plain _ _).uniq Sp.plain_nil fun t => by rw [Sp.and_has]; simp [Sp.hasB_nil]
theorem days15 (s : Su) (g : Sh) (ok : SuOk s) (l : List SegL) (A : Option Addr) (c : Nat) (hl : l.length ≤ maxLen) (d : Int) (hd : 0 ≤ d ∧ d ≤ 255) (w : World) (r : SuR w s g) (h : Rg w A l) :
    Calls Try.prog 24 #[.agg (s.cells g).toArray, .slice A l.length c, .int .u8 d] w (RetB w true) := by
  have a1 : Few15 s l → l.length ≤ 100 := fun p => by have := p.2.1; omega
  have a3 : ∀ W, Ext w W → ∀ A c, Rg W A l → Calls Try.prog 65 #[.agg (s.cells g).toArray, .slice A l.length c] W (RetP W (Few15 s l)) := fun W X A c h => pFew15 s g h hl c
  have a4 : Few15 s l → ∀ W, Ext w W → ∀ A c, Rg W A l → Calls Try.prog 66 #[.agg (s.cells g).toArray, .slice A l.length c] W (Ret2R W (paidAll s l) (notAll s l)) := fun p W X A c h => pPaid ok p.1 (r.ext X) h (a1 p) c
  have a5 : Few15 s l → ∀ W, Ext w W → ∀ A c, Rg W A l → Calls Try.prog 68 #[.agg (s.cells g).toArray, .slice A l.length c, .int .i64 d] W (Ret2S W (paidD s l d) (notD s l d)) := fun p W X A c h => pBOfDay ok p.1 (r.ext X) h (by have := a1 p; omega) c d
  have a7 : Few15 s l → ∀ W, Ext w W → ∀ A c, Rg W A (someSegs d 86400 l) → Calls Try.prog 66 #[.agg (s.cells g).toArray, .slice A (someSegs d 86400 l).length c] W (Ret2R W (paidAll s (someSegs d 86400 l)) (notAll s (someSegs d 86400 l))) := fun p W X A c h => pPaid ok p.1 (r.ext X) h (by have := a1 p; have := some_len d 86400 l; omega) c
  have e : paidAll s (someSegs d 86400 l) = paidD s l d ∧ notAll s (someSegs d 86400 l) = notD s l d ∧ partS (paidAll s l) d 86400 = paidD s l d ∧ partS (notAll s l) d 86400 = notD s l d := by
    unfold paidD notD
    cases hc : chk s
    · rw [(paidAll_no hc _).1, (paidAll_no hc _).2, (paidAll_no hc _).1, (paidAll_no hc _).2]
      exact ⟨rfl, rfl, partS_nil _ _, partS_nil _ _⟩
    · rw [(paidAll_yes hc _).1, (paidAll_yes hc _).2, (paidAll_yes hc _).1, (paidAll_yes hc _).2]
      exact ⟨allPaid_some _ _ _ l d, allNot_some _ _ _ l d, paid_day _ _ _ l d, not_day _ _ _ l d⟩
  rw [e.1, e.2.1] at a7
  refine breaksDays0 (s.cells g) rfl l A c d hd _ _ _ _ _ w h a3 a4 a5 a7 a1 (fun p => ?_) e.2.2.1 e.2.2.2
  have h1 := all_lens s l (a1 p)
  have h2 := all_lens s (someSegs d 86400 l) (by have := a1 p; have := some_len d 86400 l; omega)
  rw [e.1, e.2.1] at h2
  exact ⟨h1.1, h1.2, h2.1, h2.2⟩
end Go.Proofs.Ytnhmibfgaoealaa
