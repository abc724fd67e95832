/-
  Laws of layer 17: SplitWeeks.
-/
import Derived.Test.YtnhmibfgaoealaaGreatHi
namespace Go.Proofs.YtnhmibfgaoealaaGreat
open Go.RowKit BigFrame
set_option linter.unusedVariables false
set_option linter.unusedSimpArgs false

theorem some_yesW {d k : Int} {l : List SegL} {x : SegL} {j : Nat} (hx : l[j]? = some x) (h : max x.from_ (d * k) < min x.to ((d + 1) * k)) : someSegs d k (l.take (j + 1)) = someSegs d k (l.take j) ++ [clipSeg d k x] := by
  unfold someSegs
  rw [take_snoc hx, List.map_append, List.filter_append]
  simp [clipSeg, h]
theorem some_noW {d k : Int} {l : List SegL} {x : SegL} {j : Nat} (hx : l[j]? = some x) (h : ¬ max x.from_ (d * k) < min x.to ((d + 1) * k)) : someSegs d k (l.take (j + 1)) = someSegs d k (l.take j) := by
  unfold someSegs
  rw [take_snoc hx, List.map_append, List.filter_append]
  simp [clipSeg, h]
theorem some_lenW (d k : Int) (l : List SegL) : (someSegs d k l).length ≤ l.length := by
  unfold someSegs
  exact Nat.le_trans (List.length_filter_le _ _) (by simp)
theorem seg_cellsW (w : World) (y : SegL) (o : Obj) (g : Nat) (hg : g = w.heap.size + 1) (i : Nat) (u : Value) (h : (enc5 y)[i]? = some u) : ((w.alloc o).alloc (.cells (enc5 y).toArray 60)).cell? ⟨g, i, none⟩ = some u := by
  have := cell_of_row ((w.alloc o).alloc (.cells (enc5 y).toArray 60)) g i (enc5 y).toArray 60 (0, 0) (by rw [hg, show w.heap.size + 1 = (w.alloc o).heap.size by simp]; exact heap_alloc_new _ _)
  rw [this]
  simpa using h

set_option maxRecDepth 100000 in
set_option maxHeartbeats 4000000 in
theorem splitWeeks0 (cs : List Value) (hcs : cs.length = 23) (l : List SegL) (A : Option Addr) (c : Nat) (d0 d : Int) (hd0 : 0 ≤ d0 ∧ d0 ≤ 255) (hd : d0 % 53 = d) (p : Prop) (m : List Pt) (w : World) (h : Rg w A l)
    (kF : ∀ W, Ext w W → ∀ A c, Rg W A l → Calls Tryz.prog 10 #[.agg cs.toArray, .slice A l.length c] W (RetP W p))
    (kS1 : p → ∀ W, Ext w W → ∀ A c, Rg W A (someSegs d 604800 l) → Calls Tryz.prog 18 #[.agg cs.toArray, .slice A (someSegs d 604800 l).length c, .int .i64 d] W (RetPs W m))
    (kS2 : p → ∀ W, Ext w W → ∀ A c, Rg W A l → Calls Tryz.prog 18 #[.agg cs.toArray, .slice A l.length c, .int .i64 d] W (RetPs W m))
    (kS3 : p → ∀ W, Ext w W → ∀ A c, Rg W A (someSegs d 604800 l) → Calls Tryz.prog 18 #[.agg cs.toArray, .slice A (someSegs d 604800 l).length c, .int .i64 (d + 1)] W (RetPs W []))
    (bl : p → m.length ≤ 90000000 ∧ l.length ≤ 30) :
    Calls Tryz.prog 8 #[.agg cs.toArray, .slice A l.length c, .int .u8 d0] w (RetB w true) := by
  replace kF := Lib.hid kF; replace kS1 := Lib.hid kS1; replace kS2 := Lib.hid kS2; replace kS3 := Lib.hid kS3; replace h := Lib.hid h; replace bl := Lib.hid bl
  have hi := Lib.hid (su_size hcs)
  have dd : 0 ≤ d ∧ d ≤ 52 := by omega
  have d1 : IntKind.i64.wrap (d * 604800) = d * 604800 := IntWalk.i64_in _ (by omega)
  have d2 : IntKind.i64.wrap (d + 1) = d + 1 := IntWalk.i64_in _ (by omega)
  have d3 : IntKind.i64.wrap ((d + 1) * 604800) = (d + 1) * 604800 := IntWalk.i64_in _ (by omega)
  clear hcs
  have hs0 := Bx.new w cs 30
  have X0 := (Ext.refl w).alloc (.cells cs.toArray 30)
  have hg0 := h.out.alloc (.cells cs.toArray 30)
  go_enter Tryz.func8, Tryz.ntmps8
  go_wp2_with fail
  refine (awake17 _).mono ?_
  rintro e w1 ⟨rfl, x1⟩
  have hs1 := hs0.ext x1; clear hs0
  have hg1 := hg0.ext x1; clear hg0
  have X1 := X0.trans x1
  go_wp2_with (first | (refine load_box rfl 30 _ rfl _ rfl _ _ hs1 _ Tryz.underlying30 rfl hi.out ?_))
  refine (kF.out _ X1 _ _ hg1).mono ?_
  rintro e w2 ⟨⟨b, rfl, hb⟩, x2⟩
  have hs2 := hs1.ext x2; clear hs1
  have hg2 := hg1.ext x2; clear hg1
  have X2 := X1.trans x2
  cases b
  · clear hb
    go_wp2
    go_ret
    exact ⟨rfl, X2⟩
  · have hp := hb rfl
    clear hb
    obtain ⟨lb1, l30⟩ := bl.out hp
    have hS1 := Lib.hid (kS1.out hp); have hS2 := Lib.hid (kS2.out hp); have hS3 := Lib.hid (kS3.out hp)
    have HS2 := Lib.hid hs2; have HG2 := Lib.hid hg2; have HX2 := Lib.hid X2
    clear X0 X1 X2 x1 x2 hs2 hg2 kS1 kS2 kS3 kF bl
    go_wp2_with fail
    clear hd
    go_loopw [10, 9] (fun i v wr => ∃ (k n : Nat) (A2 : Option Addr) (c2 : Nat), k ≤ l.length ∧ i = .int .i64 k ∧ v = .slice A2 n c2 ∧ Hid (n = (someSegs d 604800 (l.take k)).length) ∧ Hid (wr.ownsRow w2.heap.size 60 5 (.slice A2 n c2) n (flat enc5 (someSegs d 604800 (l.take k)))) ∧ Hid (Ext w2 wr)) (fun i _ _ => l.length - (intOf i).toNat)
    case atStart => exact ⟨0, 0, none, 0, Nat.zero_le _, rfl, rfl, rfl, ⟨rfl, .inl ⟨rfl, rfl⟩⟩, Ext.refl _⟩
    case round =>
      obtain ⟨k, n, A2, c2, hk, rfl, rfl, hm, HO, HX⟩ := hrel
      by_cases hlt : k < l.length
      · obtain ⟨b, off, z, rfl, hbB, hx, y0, y1, y2, y3, y4⟩ := HG2.out.atG HX.out hlt
        have q3 : (k : Int) < (l.length : Int) := by omega
        have q4 : (0 : Int) ≤ (k : Int) := by omega
        have hl2 : n ≤ l.length := by rw [hm.out]; exact Nat.le_trans (some_lenW _ _ _) (by simp; omega)
        by_cases g : max z.from_ (d * 604800) < min z.to ((d + 1) * 604800)
        · have f1 : decide (max z.from_ (d * 604800) < min z.to ((d + 1) * 604800)) = true := decide_eq_true g
          have E := Lib.hid (some_yesW hx.out g)
          go_wp2_with (at_builtin; (refine app_segF w2 _ ((HX.out.alloc _).alloc _) _ _ (by rfl) (by rfl) n _ (someSegs d 604800 (l.take k)) (by rfl) ((HO.out.alloc _).alloc _) (clipSeg d 604800 z) (wr.heap.size + 1) 1 (by rfl) (seg_cellsW _ (clipSeg d 604800 z) _ _ (by simp)) (by omega) ?_; intro A4 c4 w3 o4 x3))
          clear HO HX
          rw [← E.out] at o4
          have hm2 : Hid (n + 1 = (someSegs d 604800 (l.take (k + 1))).length) := by show _ = _; rw [E.out, List.length_append, ← hm.out]; rfl
          replace o4 := Lib.hid o4; replace x3 := Lib.hid x3
          go_wp2
          go_roundw
          case rel => exact ⟨k + 1, n + 1, A4, c4, by omega, by go_num, rfl, hm2, o4, x3⟩
          case measure => simp [intOf]; omega
        · have f1 : decide (max z.from_ (d * 604800) < min z.to ((d + 1) * 604800)) = false := decide_eq_false g
          have E := Lib.hid (some_noW hx.out g)
          rw [← E.out] at HO hm
          go_wp2_with fail
          go_roundw
          case rel => exact ⟨k + 1, n, A2, c2, by omega, by go_num, rfl, hm, HO.out.alloc _, HX.out.alloc _⟩
          case measure => simp [intOf]; omega
      · obtain rfl : k = l.length := by omega
        rw [List.take_length] at HO hm
        have hm2 := hm.out
        subst hm2
        have HO3 : Hid (Rg wr A2 (someSegs d 604800 l)) := Rd.of_own enc5_len HO.out
        have HS3 := Lib.hid (HS2.out.ext HX.out)
        have HG3 := Lib.hid (HG2.out.ext HX.out)
        have HX3 := Lib.hid (HX2.out.trans HX.out)
        clear HO HX HS2 HG2 HX2 hm
        go_wp2_with fail
        have S0 : Hid (Bx (wr.drewN 1) w.heap.size cs 30) := HS3.out.drewN 1
        have G0 := Lib.hid (HG3.out.drewN 1); have X0 := Lib.hid (HX3.out.drewN 1); have O0 := Lib.hid (HO3.out.drewN 1)
        clear HS3 HG3 HX3 HO3
        refine held_start (S := fun W => Bx W w.heap.size cs 30) 22 rfl (by kernel_rfl) ?_
        refine held_move (i := 0) rfl (by kernel_rfl) (by kernel_rfl) (by kernel_rfl) _ rfl rfl S0.out _ (by simp [Act.put]; rfl) ?_
        refine held_move (i := 1) rfl (by kernel_rfl) (by kernel_rfl) (by kernel_rfl) _ rfl rfl S0.out _ (by simp [Act.put]; rfl) ?_
        refine held_box (i := 2) rfl (by kernel_rfl) (by kernel_rfl) (by kernel_rfl) rfl 30 _ rfl _ rfl cs 30 (fun w h => h) _ Tryz.underlying30 rfl hi.out S0.out _ (by simp [Act.put]; rfl) ?_
        refine held_move (i := 3) rfl (by kernel_rfl) (by kernel_rfl) (by kernel_rfl) _ rfl rfl S0.out _ (by simp [Act.put]; rfl) ?_
        refine held_move (i := 4) rfl (by kernel_rfl) (by kernel_rfl) (by kernel_rfl) _ rfl rfl S0.out _ (by simp [Act.put]; rfl) ?_
        refine held_box (i := 6) rfl (by kernel_rfl) (by kernel_rfl) (by kernel_rfl) rfl 30 _ rfl _ rfl cs 30 (fun w h => h) _ Tryz.underlying30 rfl hi.out S0.out _ (by simp [Act.put]; rfl) ?_
        refine held_move (i := 7) rfl (by kernel_rfl) (by kernel_rfl) (by kernel_rfl) _ rfl rfl S0.out _ (by simp [Act.put]; rfl) ?_
        refine held_move (i := 8) rfl (by kernel_rfl) (by kernel_rfl) (by kernel_rfl) _ rfl rfl S0.out _ (by simp [Act.put]; rfl) ?_
        refine held_all (i := 5) rfl (by kernel_rfl) rfl ?_
        go_wp2_with fail
        refine (hS1.out _ X0.out _ _ O0.out).mono ?_
        rintro e y1 ⟨A1, c1, rfl, m1, x1⟩
        have S1 := Lib.hid (S0.out.ext x1); have G1 := Lib.hid (G0.out.ext x1); have X1 := Lib.hid (X0.out.trans x1); have O1 := Lib.hid (O0.out.ext x1); have M1 := Lib.hid m1
        clear m1
        refine ⟨S1.out, ?_⟩
        refine held_all (i := 9) rfl (by kernel_rfl) rfl ?_
        go_wp2_with fail
        refine (hS2.out _ X1.out _ _ G1.out).mono ?_
        rintro e y2 ⟨A2, c2, rfl, m2, x2⟩
        have S2 := Lib.hid (S1.out.ext x2); have G2 := Lib.hid (G1.out.ext x2); have X2 := Lib.hid (X1.out.trans x2); have O2 := Lib.hid (O1.out.ext x2); have M2 := Lib.hid m2; have M1b := Lib.hid (M1.out.ext x2)
        clear m2
        refine ⟨S2.out, ?_⟩
        refine held_all (i := 10) rfl (by kernel_rfl) rfl ?_
        have sm := rSameP M1b.out M2.out (Nat.le_trans lb1 (by decide)) c1 c2
        rw [decide_eq_true rfl] at sm
        replace sm := Lib.hid sm
        go_wp2_with fail
        refine sm.out.mono ?_
        rintro e y3 ⟨rfl, x3⟩
        have S3 := Lib.hid (S2.out.ext x3); have X3 := Lib.hid (X2.out.trans x3); have O3 := Lib.hid (O2.out.ext x3); have G3 := Lib.hid (G2.out.ext x3)
        clear sm x3 S2 X2 G2 O2 M2 M1b M1 S1 X1 O1 G1 x1 x2
        refine ⟨S3.out, ?_⟩
        refine wpAnyH_take (i := 11) (v := .bool true) rfl (by kernel_rfl) (by kernel_rfl) (by kernel_rfl) (fun _ _ _ h => h) (.inl ⟨rfl, fun w hT => by first | (go_simp; done) | (go_simp; rfl)⟩) S3.out ?_
        simp only [Act.put, List.setIfInBounds_toArray, List.set_cons_zero, List.set_cons_succ]
        refine held_move (i := 12) rfl (by kernel_rfl) (by kernel_rfl) (by kernel_rfl) _ rfl rfl S3.out _ (by simp [Act.put]; rfl) ?_
        refine held_box (i := 13) rfl (by kernel_rfl) (by kernel_rfl) (by kernel_rfl) rfl 30 _ rfl _ rfl cs 30 (fun w h => h) _ Tryz.underlying30 rfl hi.out S3.out _ (by simp [Act.put]; rfl) ?_
        refine held_move (i := 14) rfl (by kernel_rfl) (by kernel_rfl) (by kernel_rfl) _ rfl rfl S3.out _ (by simp [Act.put]; rfl) ?_
        refine held_move (i := 15) rfl (by kernel_rfl) (by kernel_rfl) (by kernel_rfl) _ rfl rfl S3.out _ (by simp [Act.put]; rfl) ?_
        refine wpAnyH_take (i := 16) (v := .int .i64 (d + 1)) rfl (by kernel_rfl) (by kernel_rfl) (by kernel_rfl) (fun _ _ _ h => h) (.inl ⟨rfl, fun w hT => by have d9 := d2; first | (go_simp; done) | (go_simp; rfl)⟩) S3.out ?_
        simp only [Act.put, List.setIfInBounds_toArray, List.set_cons_zero, List.set_cons_succ]
        refine held_all (i := 17) rfl (by kernel_rfl) rfl ?_
        go_wp2_with fail
        refine (hS3.out _ X3.out _ _ O3.out).mono ?_
        rintro e y4 ⟨A4, c4, rfl, m4, x4⟩
        have S4 := Lib.hid (S3.out.ext x4); have G4 := Lib.hid (G3.out.ext x4); have X4 := Lib.hid (X3.out.trans x4); have O4 := Lib.hid (O3.out.ext x4); have M4 := Lib.hid m4
        clear m4
        refine ⟨S4.out, ?_⟩
        refine wpAnyH_take (i := 18) (v := .int .i64 0) rfl (by kernel_rfl) (by kernel_rfl) (by kernel_rfl) (fun _ _ _ h => h) (.inl ⟨rfl, fun w hT => by first | (go_simp; done) | (go_simp; rfl)⟩) S4.out ?_
        simp only [Act.put, List.setIfInBounds_toArray, List.set_cons_zero, List.set_cons_succ]
        refine wpAnyH_take (i := 19) (v := .bool true) rfl (by kernel_rfl) (by kernel_rfl) (by kernel_rfl) (fun _ _ _ h => h) (.inl ⟨rfl, fun w hT => by first | (go_simp; done) | (go_simp; rfl)⟩) S4.out ?_
        simp only [Act.put, List.setIfInBounds_toArray, List.set_cons_zero, List.set_cons_succ]
        refine wpAnyH_take (i := 20) (v := .bool true) rfl (by kernel_rfl) (by kernel_rfl) (by kernel_rfl) (fun _ _ _ h => h) (.inl ⟨rfl, fun w hT => by first | (go_simp; done) | (go_simp; rfl)⟩) S4.out ?_
        simp only [Act.put, List.setIfInBounds_toArray, List.set_cons_zero, List.set_cons_succ]
        refine held_assign (i := 21) rfl (by kernel_rfl) (by kernel_rfl) (by kernel_rfl) _ rfl rfl S4.out _ (by simp [Act.put]; rfl) ?_
        refine held_done (by kernel_rfl) ?_ _
        go_wp2
        go_ret
        exact ⟨rfl, X4.out⟩

theorem addAll_nil : addAll (fun _ => []) = [] := by simp [addAll, tag, addP]
theorem parts_someW (s : Su) (l : List SegL) (d : Int) : partsS s (someSegs d 604800 l) d = partsS s l d := by
  cases hc : chk s
  · rw [partsS_no hc, partsS_no hc]
  · rw [partsS_yes hc, partsS_yes hc, cls_eq, cls_eq, show catL s.paid s.after s.auto s.dreg s.dover s.wreg s.nfrom s.nto (someSegs d 604800 l) d = catL s.paid s.after s.auto s.dreg s.dover s.wreg s.nfrom s.nto l d from funext fun c => catL_some _ _ _ _ _ _ _ _ l d c]
theorem parts_otherW (s : Su) (l : List SegL) (d : Int) : partsS s (someSegs d 604800 l) (d + 1) = [] := by
  cases hc : chk s
  · rw [partsS_no hc]
  · rw [partsS_yes hc, cls_eq, show catL s.paid s.after s.auto s.dreg s.dover s.wreg s.nfrom s.nto (someSegs d 604800 l) (d + 1) = fun _ => [] from funext fun c => catL_other _ _ _ _ _ _ _ _ l d c]
    exact addAll_nil
theorem weeks17 (s : Su) (g : Sh) (ok : SuOk s) (l : List SegL) (A : Option Addr) (c : Nat) (hl : l.length ≤ maxLen) (d : Int) (hd : 0 ≤ d ∧ d ≤ 255) (w : World) (r : SuR w s g) (h : Rg w A l) :
    Calls Tryz.prog 8 #[.agg (s.cells g).toArray, .slice A l.length c, .int .u8 d] w (RetB w true) := by
  have a1 : Few15 s l → l.length ≤ 30 := fun p => p.2.1
  have a2 : Few15 s l → (someSegs (d % 53) 604800 l).length ≤ 30 := fun p => Nat.le_trans (some_lenW _ _ l) (a1 p)
  refine splitWeeks0 (s.cells g) rfl l A c d (d % 53) hd rfl (Few15 s l) (partsS s l (d % 53)) w h (fun W X A c h => pFew15 s g h hl c) (fun p W X A c h => ?_) (fun p W X A c h => pParts ok p.1 (r.ext X) h (a1 p) c _) (fun p W X A c h => ?_) (fun p => ⟨Nat.le_trans (partsS_len s l (a1 p) _) (by decide), a1 p⟩)
  · have := pParts ok p.1 (r.ext X) h (a2 p) c (d % 53)
    rwa [parts_someW] at this
  · have := pParts ok p.1 (r.ext X) h (a2 p) c (d % 53 + 1)
    rwa [parts_otherW] at this
end Go.Proofs.YtnhmibfgaoealaaGreat
