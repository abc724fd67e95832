/-
  lumperref12.Clock and Only by contract.
  lumperref15.OfDay by contract.
  lumperref15.Paid by contract.
  Laws of layer 15: BreaksTell.
-/
import Derived.Test.YtnhmibfgaoealaaGreatKx
import Derived.Test.YtnhmibfgaoealaaGreatKh
import Derived.Test.YtnhmibfgaoealaaGreatEx
import Derived.Test.YtnhmibfgaoealaaGreatSt
import Derived.Test.YtnhmibfgaoealaaGreatLy
import Derived.Test.YtnhmibfgaoealaaGreatEl
namespace Go.Proofs.YtnhmibfgaoealaaGreat
open Go.RowKit BigFrame
set_option linter.unusedVariables false
set_option linter.unusedSimpArgs false

theorem info_segF : (Tryz.prog.info? 60).map (fun i => (i.zero, i.size, i.bytes)) = some (some (.agg #[.int .i64 0, .int .i64 0, .int .i64 0, .int .i64 0, .int .i64 0]), 5, 40) := by kernel_rfl

/-- A part put behind a row of the call's own. -/
theorem app_segF {ops : Array Oper} {rest : List Oper} {o : Oper} {a : Act} {Q : Exit → Act → World → Prop} (w0 w : World) (X : Ext w0 w) (s x : Operand) (hgd : o.guard = none)
    (ho : o.op = .call { callee := .builtin .append, args := #[s, x], argTypes := #[31, 31] })
    (n : Nat) (v : Value) (l : List SegL) (hs : a.eval s = v) (hown : w.ownsRow w0.heap.size 60 5 v n (flat enc5 l)) (y : SegL) (g c : Nat)
    (hx : a.eval x = .slice (some ⟨g, 0, none⟩) 1 c) (hg : ∀ i u, (enc5 y)[i]? = some u → w.cell? ⟨g, i, none⟩ = some u) (hn : n ≤ 1000000)
    (h : ∀ A' cap' w', w'.ownsRow w0.heap.size 60 5 (.slice A' (n + 1) cap') (n + 1) (flat enc5 (l ++ [y])) → Ext w0 w' → wpList Tryz.prog ops Q rest (a.put o.dst (.slice A' (n + 1) cap')) w') : wpList Tryz.prog ops Q (o :: rest) a w := by
  obtain ⟨i0, hi, hz0, hz1, hz2⟩ := info_parts info_segF
  refine wpList_append_at w hgd s x 31 ho w0.heap.size 60 i0 (.agg #[.int .i64 0, .int .i64 0, .int .i64 0, .int .i64 0, .int .i64 0]) 5 40 Tryz.underlying31 hi hz0 hz1 hz2 rfl (by decide) v n (flat enc5 l) hs hown ⟨g, 0, none⟩ 1 c (enc5 y) hx rfl ?_ ?_ (by unfold maxLen; omega) (by omega) X.size ?_
  · intro j u hj
    rw [add_head]
    exact hg j u hj
  · intro u hu; simp [enc5] at hu; rcases hu with rfl | rfl | rfl | rfl | rfl <;> rfl
  · intro v' w' ho' hgr hv
    obtain ⟨A', cap', hv, _⟩ := own_form ho'
    subst hv
    exact h A' cap' w' (by rw [flat_append]; simpa [flat] using ho') (Below.grown X hgr X.size fun k hk => (hown.lt k hk).1)
theorem seg_cellsF (w : World) (y : SegL) (g : Nat) (hg : g = w.heap.size) (i : Nat) (u : Value) (h : (enc5 y)[i]? = some u) : (w.alloc (.cells (enc5 y).toArray 60)).cell? ⟨g, i, none⟩ = some u := by
  have := cell_of_row (w.alloc (.cells (enc5 y).toArray 60)) g i (enc5 y).toArray 60 (0, 0) (by rw [hg]; exact heap_alloc_new _ _)
  rw [this]
  simpa using h

set_option maxRecDepth 100000 in
set_option maxHeartbeats 2000000 in
theorem rClock {w : World} {A : Option Addr} {l : List SegL} (h : Rg w A l) (hl : l.length ≤ 100000) (c : Nat) : Calls Tryz.prog 34 #[.slice A l.length c] w (RetS w (clockL l)) := by
  replace h := Lib.hid h
  go_enter Tryz.func34, Tryz.ntmps34
  go_wp2_with fail
  go_loopw [4, 3] (fun i v wr => ∃ (k : Nat) (A2 : Option Addr) (c2 : Nat), k ≤ l.length ∧ i = .int .i64 k ∧ v = .slice A2 k c2 ∧ Hid (wr.ownsRow w.heap.size 49 2 (.slice A2 k c2) k (flat encS ((l.take k).map SegL.span))) ∧ Hid (Ext w wr)) (fun i _ _ => l.length - (intOf i).toNat)
  case atStart => exact ⟨0, none, 0, Nat.zero_le _, rfl, rfl, own_nil _ _, Ext.refl _⟩
  case round =>
    obtain ⟨k, A2, c2, hk, rfl, rfl, HO, HX⟩ := hrel
    by_cases hlt : k < l.length
    · obtain ⟨b, off, x, rfl, hbB, hx, y0, y1, y2, y3, y4⟩ := h.out.atG HX.out hlt
      have q3 : (k : Int) < (l.length : Int) := by omega
      have q4 : (0 : Int) ≤ (k : Int) := by omega
      have E : Hid ((l.take (k + 1)).map SegL.span = (l.take k).map SegL.span ++ [(x.from_, x.to)]) := by show _ = _; rw [take_snoc hx.out, List.map_append]; rfl
      obtain ⟨O, hO⟩ : ∃ O, (l.take k).map SegL.span = O := ⟨_, rfl⟩
      rw [hO] at HO E
      clear hO
      obtain ⟨p', hp'⟩ : ∃ p, x.from_ = p := ⟨_, rfl⟩
      obtain ⟨q', hq'⟩ : ∃ p, x.to = p := ⟨_, rfl⟩
      rw [hp'] at y0 E; rw [hq'] at y1 E
      clear y2 y3 y4 hp' hq' hx
      go_wp2_with fail
      have z0 := (HX.out.cell (p := ⟨b, off + k * 5, none⟩) hbB).symm.trans y0
      have z1 := (HX.out.cell (p := ⟨b, off + k * 5 + 1, none⟩) hbB).symm.trans y1
      go_region_held3 (fun w' => w'.cell? ⟨b, off + k * 5, none⟩ = some (.int .i64 p') ∧ w'.cell? ⟨b, off + k * 5 + 1, none⟩ = some (.int .i64 q')) (first | exact ⟨(x3.cell (p := ⟨b, off + k * 5, none⟩) hbB).trans z0, (x3.cell (p := ⟨b, off + k * 5 + 1, none⟩) hbB).trans z1⟩ | exact ⟨y0, y1⟩ | go_keep)
        ((refine step_app_one w _ ((HX.out.alloc _).drewN 1) (by rfl) _ _ (by rfl) k _ O (by rfl) (own_drewN (HO.out.alloc _) 1) (p', q') wr.heap.size (by rfl) (Rs.drewN (Rs.new_g wr [(p', q')] _ _ rfl) 1) (by omega) ?_; intro A4 c4 w3 o4 x3))
      clear z0 z1 y0 y1 HO
      rw [← E.out] at o4
      replace o4 := Lib.hid o4; replace x3 := Lib.hid x3
      go_wp2
      go_roundw
      case rel => exact ⟨k + 1, A4, c4, by omega, by go_num, rfl, o4, x3⟩
      case measure => simp [intOf]; omega
    · obtain rfl : k = l.length := by omega
      rw [List.take_length] at HO
      have hlat : Rs wr A2 (l.map SegL.span) := Rs.own (by rw [List.length_map]; exact HO.out)
      go_wp2_with fail
      have kN := rNorm hlat (by rw [List.length_map]; omega) c2
      rw [List.length_map] at kN
      refine kN.mono ?_
      rintro e w1 ⟨A1, c1, rfl, r1, x1, o1⟩
      go_wp2
      go_ret
      exact ⟨A1, c1, rfl, r1, HX.out.trans x1, own_base o1 HX.out.size⟩

set_option maxRecDepth 100000 in
set_option maxHeartbeats 2000000 in
theorem rOnly {w : World} {A : Option Addr} {l : List SegL} (h : Rg w A l) (hl : l.length ≤ 100000) (c : Nat) (d : Int) : Calls Tryz.prog 42 #[.slice A l.length c, .int .i64 d] w (RetS w (onlyL l d)) := by
  replace h := Lib.hid h
  have kC := fun (W : World) (A : Option Addr) (c : Nat) (hr : Rg W A (l.filter fun s => s.kind == d)) => rClock hr (Nat.le_trans (List.length_filter_le _ _) hl) c
  replace kC := Lib.hid kC
  go_enter Tryz.func42, Tryz.ntmps42
  go_wp2_with fail
  go_loopw [6, 5] (fun i v wr => ∃ (k m : Nat) (A2 : Option Addr) (c2 : Nat), k ≤ l.length ∧ i = .int .i64 k ∧ v = .slice A2 m c2 ∧ Hid (m = ((l.take k).filter fun s => s.kind == d).length) ∧ Hid (wr.ownsRow w.heap.size 60 5 (.slice A2 m c2) m (flat enc5 ((l.take k).filter fun s => s.kind == d))) ∧ Hid (Ext w wr)) (fun i _ _ => l.length - (intOf i).toNat)
  case atStart => exact ⟨0, 0, none, 0, Nat.zero_le _, rfl, rfl, rfl, ⟨rfl, .inl ⟨rfl, rfl⟩⟩, Ext.refl _⟩
  case round =>
    obtain ⟨k, m, A2, c2, hk, rfl, rfl, hm, HO, HX⟩ := hrel
    by_cases hlt : k < l.length
    · obtain ⟨b, off, x, rfl, hbB, hx, y0, y1, y2, y3, y4⟩ := h.out.atG HX.out hlt
      have q3 : (k : Int) < (l.length : Int) := by omega
      have q4 : (0 : Int) ≤ (k : Int) := by omega
      have hl2 : m ≤ l.length := by rw [hm.out]; exact Nat.le_trans (List.length_filter_le _ _) (by simp; omega)
      cases hq : (x.kind == d)
      · have E : Hid ((l.take (k + 1)).filter (fun s => s.kind == d) = (l.take k).filter (fun s => s.kind == d)) := by show _ = _; rw [take_snoc hx.out, List.filter_append]; simp [hq]
        rw [← E.out] at HO hm
        clear E
        go_wp2_with fail
        go_roundw
        case rel => exact ⟨k + 1, m, A2, c2, by omega, by go_num, rfl, hm, HO, HX⟩
        case measure => simp [intOf]; omega
      · have E : Hid ((l.take (k + 1)).filter (fun s => s.kind == d) = (l.take k).filter (fun s => s.kind == d) ++ [x]) := by show _ = _; rw [take_snoc hx.out, List.filter_append]; simp [hq]
        obtain ⟨O, hO⟩ : ∃ O, (l.take k).filter (fun s => s.kind == d) = O := ⟨_, rfl⟩
        rw [hO] at HO E hm
        clear hO
        go_wp2_with (at_builtin; (refine app_segF w _ (HX.out.alloc _) _ _ (by rfl) (by rfl) m _ O (by rfl) (HO.out.alloc _) x wr.heap.size 1 (by rfl) (seg_cellsF _ x _ (by rfl)) (by omega) ?_; intro A4 c4 w3 o4 x3))
        rw [← E.out] at o4
        have hm2 : Hid (m + 1 = ((l.take (k + 1)).filter fun s => s.kind == d).length) := by show _ = _; rw [E.out, List.length_append, ← hm.out]; rfl
        replace o4 := Lib.hid o4; replace x3 := Lib.hid x3
        go_wp2
        go_roundw
        case rel => exact ⟨k + 1, m + 1, A4, c4, by omega, by go_num, rfl, hm2, o4, x3⟩
        case measure => simp [intOf]; omega
    · obtain rfl : k = l.length := by omega
      rw [List.take_length] at HO hm
      have hm2 := hm.out
      subst hm2
      have ho3 : Rg wr A2 (l.filter fun s => s.kind == d) := Rd.of_own enc5_len HO.out
      go_wp2_with fail
      refine (kC.out _ _ _ ho3).mono ?_
      rintro e w1 ⟨A1, c1, rfl, r1, x1, o1⟩
      go_wp2
      go_ret
      exact ⟨A1, c1, rfl, r1, HX.out.trans x1, own_base o1 HX.out.size⟩
end Go.Proofs.YtnhmibfgaoealaaGreat
namespace Go.Proofs.YtnhmibfgaoealaaGreat
open Go.RowKit BigFrame
set_option linter.unusedVariables false
set_option linter.unusedSimpArgs false

set_option maxRecDepth 100000 in
set_option maxHeartbeats 1000000 in
theorem rBDay0 (cs : List Value) (hcs : cs.length = 23) (l : List SegL) (A : Option Addr) (c : Nat) (d : Int) (w : World)
    (kC : ∀ W, Ext w W → Calls Tryz.prog 40 #[.agg cs.toArray] W (RetB W false)) :
    Calls Tryz.prog 14 #[.agg cs.toArray, .slice A l.length c, .int .i64 d] w (Ret2S w [] []) := by
  replace kC := Lib.hid kC
  have hi := Lib.hid (su_size hcs)
  have hs0 := Bx.new w cs 30
  have X0 := (Ext.refl w).alloc (.cells cs.toArray 30)
  go_enter Tryz.func14, Tryz.ntmps14
  go_wp2_with (first | (refine load_box rfl 30 _ rfl _ rfl _ _ hs0 _ Tryz.underlying30 rfl hi.out ?_))
  refine (kC.out _ X0).mono ?_
  rintro e w1 ⟨rfl, x1⟩
  have X1 := X0.trans x1
  go_wp2
  go_ret2
  exact ⟨none, 0, none, 0, rfl, ⟨.nil, .nil⟩, X1, own_nil _ _, own_nil _ _⟩

set_option maxRecDepth 100000 in
set_option maxHeartbeats 8000000 in
theorem rBDay1 (cs : List Value) (hcs : cs.length = 23) (P AA AB : Int) (c10 : cs[10]? = some (.int .i64 P)) (c11 : cs[11]? = some (.int .i64 AA)) (c12 : cs[12]? = some (.int .i64 AB)) (hP : 0 ≤ P ∧ P ≤ 86400) (hA : 0 ≤ AA ∧ AA ≤ 86400) (hB : 0 ≤ AB ∧ AB ≤ 86400) (l : List SegL) (A : Option Addr) (c : Nat) (d : Int) (hl : l.length ≤ 10000) (w : World) (h : Rg w A l)
    (kC : ∀ W, Ext w W → Calls Tryz.prog 40 #[.agg cs.toArray] W (RetB W true)) :
    Calls Tryz.prog 14 #[.agg cs.toArray, .slice A l.length c, .int .i64 d] w (Ret2S w (dayPaid P AA AB l d) (dayNot P AA AB l d)) := by
  replace kC := Lib.hid kC
  replace h := Lib.hid h
  have hs0 := Bx.new w cs 30
  have X0 := (Ext.refl w).alloc (.cells cs.toArray 30)
  have hg0 := h.out.alloc (.cells cs.toArray 30)
  have eP : Hid (Sp.minus (Sp.minus (partS (clockL l) d 86400) (Sp.minus (partS (onlyL l 3) d 86400) (Sp.first (partS (onlyL l 3) d 86400) P))) (if AA ≤ Sp.size (partS (clockL l) d 86400) ∧ Sp.size (partS (onlyL l 3) d 86400) < AB then Sp.last (Sp.minus (partS (clockL l) d 86400) (partS (onlyL l 3) d 86400)) (AB - Sp.size (partS (onlyL l 3) d 86400)) else []) = dayPaid P AA AB l d) := ref_paid
  have eN : Hid (Sp.minus (partS (clockL l) d 86400) (Sp.minus (Sp.minus (partS (clockL l) d 86400) (Sp.minus (partS (onlyL l 3) d 86400) (Sp.first (partS (onlyL l 3) d 86400) P))) (if AA ≤ Sp.size (partS (clockL l) d 86400) ∧ Sp.size (partS (onlyL l 3) d 86400) < AB then Sp.last (Sp.minus (partS (clockL l) d 86400) (partS (onlyL l 3) d 86400)) (AB - Sp.size (partS (onlyL l 3) d 86400)) else [])) = dayNot P AA AB l d) := ref_not (partS_plain _ _ _) fun t ht => part_sub (fun _ h => only_sub h) ht
  have l1 := partS_len (clockL l) d 86400
  have l2 := partS_len (onlyL l 3) d 86400
  have l3 := clock_len l
  have l4 := only_len l 3
  have kc := fun (w : World) (A : Option Addr) (c : Nat) (h : Rs w A (clockL l)) => rOfDay h (by omega : (clockL l).length ≤ 900000) c d
  have kr := fun (w : World) (A : Option Addr) (c : Nat) (h : Rs w A (onlyL l 3)) => rOfDay h (by omega : (onlyL l 3).length ≤ 900000) c d
  obtain ⟨ck, hck⟩ : ∃ x, partS (clockL l) d 86400 = x := ⟨_, rfl⟩
  obtain ⟨rs, hrs⟩ : ∃ x, partS (onlyL l 3) d 86400 = x := ⟨_, rfl⟩
  rw [hck] at l1 kc; rw [hrs] at l2 kr
  rw [hck, hrs] at eP eN
  clear hck hrs
  have l8 : ck.length ≤ 900000 := by omega
  have l9 : rs.length ≤ 900000 := by omega
  have m1 := first_length rs P
  have m2 := minus_le rs (Sp.first rs P)
  have m3 := minus_le ck (Sp.minus rs (Sp.first rs P))
  have m4 := minus_le ck rs
  have m5 := last_le (Sp.minus ck rs) (AB - Sp.size rs)
  have m6 := minus_le (Sp.minus ck (Sp.minus rs (Sp.first rs P))) (Sp.last (Sp.minus ck rs) (AB - Sp.size rs))
  have m7 := minus_le (Sp.minus ck (Sp.minus rs (Sp.first rs P))) []
  have lF : (Sp.first rs P).length ≤ 900000 := by omega
  have lM : (Sp.minus rs (Sp.first rs P)).length ≤ 900000 := by omega
  have lN : (Sp.minus ck (Sp.minus rs (Sp.first rs P))).length ≤ 900000 := by omega
  have lQ : (Sp.minus ck rs).length ≤ 900000 := by omega
  have lX2 : (Sp.last (Sp.minus ck rs) (AB - Sp.size rs)).length ≤ 900000 := by omega
  have lR0 : (Sp.minus (Sp.minus ck (Sp.minus rs (Sp.first rs P))) []).length ≤ 900000 := by simp only [List.length_nil] at m7; omega
  have lR2 : (Sp.minus (Sp.minus ck (Sp.minus rs (Sp.first rs P))) (Sp.last (Sp.minus ck rs) (AB - Sp.size rs))).length ≤ 900000 := by omega
  clear l1 l2 m1 m2 m3 m4 m5 m6 m7
  have s1 := Sp.size_nonneg ck
  have s2 := Sp.size_le ck
  have s3 := Sp.size_nonneg rs
  have s4 := Sp.size_le rs
  have kS := fun (w : World) (A : Option Addr) (c : Nat) (h : Rs w A ck) => rSize h l8 c
  have kH := fun (w : World) (A : Option Addr) (c : Nat) (h : Rs w A rs) => rSize h l9 c
  obtain ⟨C, hC⟩ : ∃ C, Sp.size ck = C := ⟨_, rfl⟩
  obtain ⟨D, hD⟩ : ∃ D, Sp.size rs = D := ⟨_, rfl⟩
  rw [hC] at s1 s2 kS; rw [hD] at s3 s4 kH lX2 lR2
  rw [hC, hD] at eP eN
  clear hC hD
  replace s4 : D ≤ 32054400 := s4
  replace s2 : C ≤ 32054400 := s2
  have l5 : l.length ≤ 100000 := by omega
  have hi := Lib.hid (su_size hcs)
  clear hcs hl l3 l4
  replace kc := Lib.hid kc; replace kr := Lib.hid kr; replace kS := Lib.hid kS; replace kH := Lib.hid kH
  go_enter Tryz.func14, Tryz.ntmps14
  go_wp2_with (first | (refine load_box rfl 30 _ rfl _ rfl _ _ hs0 _ Tryz.underlying30 rfl hi.out ?_))
  refine (kC.out _ X0).mono ?_
  rintro e w1 ⟨rfl, x1⟩
  have hs1 := hs0.ext x1; clear hs0
  have hg1 := hg0.ext x1; clear hg0
  have X1 := X0.trans x1
  go_wp2_with fail
  refine (rClock hg1 l5 _).mono ?_
  rintro e w2 ⟨A2, cap2, rfl, r2, x2, _⟩
  have hs2 := hs1.ext x2; clear hs1
  have hg2 := hg1.ext x2; clear hg1
  have X2 := X1.trans x2
  go_wp2_with fail
  refine (kc.out _ _ _ r2).mono ?_
  rintro e w3 ⟨A3, cap3, rfl, r3, x3, _⟩
  have hs3 := hs2.ext x3; clear hs2
  have hg3 := hg2.ext x3; clear hg2
  have X3 := X2.trans x3
  go_wp2_with fail
  refine (rOnly hg3 l5 _ 3).mono ?_
  rintro e w4 ⟨A4, cap4, rfl, r4, x4, _⟩
  have hs4 := hs3.ext x4; clear hs3
  have hc4 := r3.ext x4
  have X4 := X3.trans x4
  go_wp2_with fail
  refine (kr.out _ _ _ r4).mono ?_
  rintro e w5 ⟨A5, cap5, rfl, r5, x5, _⟩
  have hs5 := hs4.ext x5; clear hs4
  have hc5 := hc4.ext x5; clear hc4
  have X5 := X4.trans x5
  have z10 := hs5.cell 10 _ c10
  go_wp2_with fail
  refine (rFirst r5 l9 (show B64 P from by unfold B64; omega) _).mono ?_
  rintro e w6 ⟨A6, cap6, rfl, r6, x6, _⟩
  have hs6 := hs5.ext x6; clear hs5
  have hc6 := hc5.ext x6; clear hc5
  have hr6 := r5.ext x6
  have X6 := X5.trans x6
  clear z10
  go_wp2_with fail
  refine (kH.out _ _ _ hr6).mono ?_
  rintro e w7 ⟨rfl, x7⟩
  have hs7 := hs6.ext x7; clear hs6
  have hc7 := hc6.ext x7; clear hc6
  have hr7 := hr6.ext x7; clear hr6
  have hf7 := r6.ext x7
  have X7 := X6.trans x7
  have z11 := hs7.cell 11 _ c11
  have z12 := hs7.cell 12 _ c12
  have hB7 := hs7.lt
  by_cases g1 : AA ≤ C
  · by_cases g2 : D < AB
    · rw [if_pos ⟨g1, g2⟩] at eP eN
      have f1 : decide (AA ≤ C) = true := decide_eq_true g1
      have f2 : decide (D < AB) = true := decide_eq_true g2

      go_wp2_with fail
      have y11 : ∀ e : Later w7, e.1.cell? ⟨w.heap.size, 11, none⟩ = some (.int .i64 AA) := fun e => (e.2.cell (p := ⟨w.heap.size, 11, none⟩) hB7).trans z11
      have y12 : ∀ e : Later w7, e.1.cell? ⟨w.heap.size, 12, none⟩ = some (.int .i64 AB) := fun e => (e.2.cell (p := ⟨w.heap.size, 12, none⟩) hB7).trans z12
      refine wp_region_later w7 (Ext.refl w7) (by kernel_rfl) (by kernel_rfl) ?_
      repeat (go_big_quiet_step (exact later_int (kS.out _ _ _ (hc7.ext (Subtype.property _)))))
      refine wpQuiet_nil ?_
      rintro w8 ⟨e8, he8⟩
      have x8 : Ext w7 w8 := he8 ▸ e8.2
      clear he8 e8 y11 y12
      have hs8 := hs7.ext x8; clear hs7
      have hc8 := hc7.ext x8; clear hc7
      have hr8 := hr7.ext x8; clear hr7
      have hf8 := hf7.ext x8; clear hf7
      have X8 := X7.trans x8

      have z12b := hs8.cell 12 _ c12
      have hB8 := hs8.lt
      have q1 : IntKind.i64.wrap (AB - D) = AB - D := IntWalk.i64_in _ (by omega)
      have mB : B64 (AB - D) := by unfold B64; omega
      go_wp2_with fail
      have S0 : Ext w8 (w8.drewN 1) := (Ext.refl w8).drewN 1
      refine held_start (S := fun w' => Ext w8 w') 9 rfl (by kernel_rfl) ?_
      refine held_move (i := 0) rfl (by kernel_rfl) (by kernel_rfl) (by kernel_rfl) _ rfl rfl S0 _ (by simp [Act.put]; rfl) ?_
      refine held_move (i := 1) rfl (by kernel_rfl) (by kernel_rfl) (by kernel_rfl) _ rfl rfl S0 _ (by simp [Act.put]; rfl) ?_
      refine wpAnyH_take (i := 3) (v := .pointer (some ⟨w.heap.size, 12, none⟩)) rfl (by kernel_rfl) (by kernel_rfl) (by kernel_rfl) (fun _ _ _ h => h) (.inl ⟨rfl, fun w _ => by first | (go_simp; done) | (go_simp; rfl)⟩) S0 ?_
      simp only [Act.put, List.setIfInBounds_toArray, List.set_cons_zero, List.set_cons_succ]
      refine wpAnyH_take (i := 4) (v := .int .i64 AB) rfl (by kernel_rfl) (by kernel_rfl) (by kernel_rfl) (fun _ _ _ h => h) (.inl ⟨rfl, fun w' hT => by have cc := (hT.cell (p := ⟨w.heap.size, 12, none⟩) hB8).trans z12b; first | (go_simp; done) | (go_simp; rfl)⟩) S0 ?_
      simp only [Act.put, List.setIfInBounds_toArray, List.set_cons_zero, List.set_cons_succ]
      refine held_move (i := 5) rfl (by kernel_rfl) (by kernel_rfl) (by kernel_rfl) _ rfl rfl S0 _ (by simp [Act.put]; rfl) ?_
      refine wpAnyH_take (i := 6) (v := .int .i64 (AB - D)) rfl (by kernel_rfl) (by kernel_rfl) (by kernel_rfl) (fun _ _ _ h => h) (.inl ⟨rfl, fun w _ => by first | (go_simp; done) | (go_simp; rfl)⟩) S0 ?_
      simp only [Act.put, List.setIfInBounds_toArray, List.set_cons_zero, List.set_cons_succ]
      refine held_all (i := 2) rfl (by kernel_rfl) rfl ?_
      go_wp2_with fail
      refine (rMinus (Rs.drewN hc8 1) (Rs.drewN hr8 1) l8 l9 _ _).mono ?_
      rintro _ w9 ⟨A9, cap9, rfl, r9, x9, _⟩
      have S9 := S0.trans x9
      refine ⟨S9, ?_⟩
      refine held_all (i := 7) rfl (by kernel_rfl) rfl ?_
      go_wp2_with fail
      refine (rLast r9 lQ mB _).mono ?_
      rintro _ w10 ⟨A10, cap10, rfl, r10, x10, _⟩
      have S10 := S9.trans x10
      refine ⟨S10, ?_⟩
      refine held_assign (i := 8) rfl (by kernel_rfl) (by kernel_rfl) (by kernel_rfl) _ rfl rfl S10 _ (by simp [Act.put]; rfl) ?_
      refine held_done (by kernel_rfl) ?_ _
      have hc10 := hc8.ext S10; have hr10 := hr8.ext S10; have hf10 := hf8.ext S10
      have hx10 := r10
      have XB := X8.trans S10

      go_wp2_with fail
      refine (rMinus hr10 hf10 l9 lF _ _).mono ?_
      rintro _ y1 ⟨B1, b1, rfl, s1', t1, _⟩
      have hc5 := hc10.ext t1; have hx5 := hx10.ext t1
      have XX1 := XB.trans t1
      go_wp2_with fail
      refine (rMinus hc5 s1' l8 lM _ _).mono ?_
      rintro _ y2 ⟨B2, b2, rfl, s2', t2, _⟩
      have hc6 := hc5.ext t2; have hx6 := hx5.ext t2
      have XX2 := XX1.trans t2
      go_wp2_with fail
      refine (rMinus s2' hx6 lN lX2 _ _).mono ?_
      rintro _ y3 ⟨B3, b3, rfl, s3', t3, o3⟩
      have hc7 := hc6.ext t3
      have XX3 := XX2.trans t3
      rw [eP.out] at eN s3' o3
      replace eP := Lib.hid eP.out
      have eL : Hid ((Sp.minus (Sp.minus ck (Sp.minus rs (Sp.first rs P))) (Sp.last (Sp.minus ck rs) (AB - D))).length = (dayPaid P AA AB l d).length) := congrArg List.length eP.out
      have lR2 : (dayPaid P AA AB l d).length ≤ 900000 := by rw [← eL.out]; exact lR2
      rw [eL.out]
      go_wp2_with fail
      refine (rMinus hc7 s3' l8 lR2 _ _).mono ?_
      rw [eN.out]
      rintro _ y4 ⟨B4, b4, rfl, s4', t4, o4⟩
      go_wp2
      go_ret2
      exact ⟨B3, b3, B4, b4, rfl, ⟨s3'.ext t4, s4'⟩, XX3.trans t4, own_base (own_below o3 t4) XX2.size, own_base o4 XX3.size⟩
    · rw [if_neg (by omega)] at eP eN
      have f1 : decide (AA ≤ C) = true := decide_eq_true g1
      have f2 : decide (D < AB) = false := decide_eq_false g2

      go_wp2_with fail
      have y11 : ∀ e : Later w7, e.1.cell? ⟨w.heap.size, 11, none⟩ = some (.int .i64 AA) := fun e => (e.2.cell (p := ⟨w.heap.size, 11, none⟩) hB7).trans z11
      have y12 : ∀ e : Later w7, e.1.cell? ⟨w.heap.size, 12, none⟩ = some (.int .i64 AB) := fun e => (e.2.cell (p := ⟨w.heap.size, 12, none⟩) hB7).trans z12
      refine wp_region_later w7 (Ext.refl w7) (by kernel_rfl) (by kernel_rfl) ?_
      repeat (go_big_quiet_step (exact later_int (kS.out _ _ _ (hc7.ext (Subtype.property _)))))
      refine wpQuiet_nil ?_
      rintro w8 ⟨e8, he8⟩
      have x8 : Ext w7 w8 := he8 ▸ e8.2
      clear he8 e8 y11 y12
      have hs8 := hs7.ext x8; clear hs7
      have hc8 := hc7.ext x8; clear hc7
      have hr8 := hr7.ext x8; clear hr7
      have hf8 := hf7.ext x8; clear hf7
      have X8 := X7.trans x8

      have hx8 : Rs w8 none [] := Rs.nil
      have XB := X8

      go_wp2_with fail
      refine (rMinus hr8 hf8 l9 lF _ _).mono ?_
      rintro _ y1 ⟨B1, b1, rfl, s1', t1, _⟩
      have hc5 := hc8.ext t1; have hx5 := hx8.ext t1
      have XX1 := XB.trans t1
      go_wp2_with fail
      refine (rMinus hc5 s1' l8 lM _ _).mono ?_
      rintro _ y2 ⟨B2, b2, rfl, s2', t2, _⟩
      have hc6 := hc5.ext t2; have hx6 := hx5.ext t2
      have XX2 := XX1.trans t2
      go_wp2_with fail
      refine (rMinus s2' hx6 lN (Nat.zero_le _) _ _).mono ?_
      rintro _ y3 ⟨B3, b3, rfl, s3', t3, o3⟩
      have hc7 := hc6.ext t3
      have XX3 := XX2.trans t3
      rw [eP.out] at eN s3' o3
      replace eP := Lib.hid eP.out
      have eL : Hid ((Sp.minus (Sp.minus ck (Sp.minus rs (Sp.first rs P))) []).length = (dayPaid P AA AB l d).length) := congrArg List.length eP.out
      have lR2 : (dayPaid P AA AB l d).length ≤ 900000 := by rw [← eL.out]; exact lR0
      rw [eL.out]
      go_wp2_with fail
      refine (rMinus hc7 s3' l8 lR2 _ _).mono ?_
      rw [eN.out]
      rintro _ y4 ⟨B4, b4, rfl, s4', t4, o4⟩
      go_wp2
      go_ret2
      exact ⟨B3, b3, B4, b4, rfl, ⟨s3'.ext t4, s4'⟩, XX3.trans t4, own_base (own_below o3 t4) XX2.size, own_base o4 XX3.size⟩
  · rw [if_neg (by omega)] at eP eN
    have f1 : decide (AA ≤ C) = false := decide_eq_false g1

    go_wp2_with fail
    have y11 : ∀ e : Later w7, e.1.cell? ⟨w.heap.size, 11, none⟩ = some (.int .i64 AA) := fun e => (e.2.cell (p := ⟨w.heap.size, 11, none⟩) hB7).trans z11
    have y12 : ∀ e : Later w7, e.1.cell? ⟨w.heap.size, 12, none⟩ = some (.int .i64 AB) := fun e => (e.2.cell (p := ⟨w.heap.size, 12, none⟩) hB7).trans z12
    refine wp_region_later w7 (Ext.refl w7) (by kernel_rfl) (by kernel_rfl) ?_
    repeat (go_big_quiet_step (exact later_int (kS.out _ _ _ (hc7.ext (Subtype.property _)))))
    refine wpQuiet_nil ?_
    rintro w8 ⟨e8, he8⟩
    have x8 : Ext w7 w8 := he8 ▸ e8.2
    clear he8 e8 y11 y12
    have hs8 := hs7.ext x8; clear hs7
    have hc8 := hc7.ext x8; clear hc7
    have hr8 := hr7.ext x8; clear hr7
    have hf8 := hf7.ext x8; clear hf7
    have X8 := X7.trans x8

    have hx8 : Rs w8 none [] := Rs.nil
    have XB := X8

    go_wp2_with fail
    refine (rMinus hr8 hf8 l9 lF _ _).mono ?_
    rintro _ y1 ⟨B1, b1, rfl, s1', t1, _⟩
    have hc5 := hc8.ext t1; have hx5 := hx8.ext t1
    have XX1 := XB.trans t1
    go_wp2_with fail
    refine (rMinus hc5 s1' l8 lM _ _).mono ?_
    rintro _ y2 ⟨B2, b2, rfl, s2', t2, _⟩
    have hc6 := hc5.ext t2; have hx6 := hx5.ext t2
    have XX2 := XX1.trans t2
    go_wp2_with fail
    refine (rMinus s2' hx6 lN (Nat.zero_le _) _ _).mono ?_
    rintro _ y3 ⟨B3, b3, rfl, s3', t3, o3⟩
    have hc7 := hc6.ext t3
    have XX3 := XX2.trans t3
    rw [eP.out] at eN s3' o3
    replace eP := Lib.hid eP.out
    have eL : Hid ((Sp.minus (Sp.minus ck (Sp.minus rs (Sp.first rs P))) []).length = (dayPaid P AA AB l d).length) := congrArg List.length eP.out
    have lR2 : (dayPaid P AA AB l d).length ≤ 900000 := by rw [← eL.out]; exact lR0
    rw [eL.out]
    go_wp2_with fail
    refine (rMinus hc7 s3' l8 lR2 _ _).mono ?_
    rw [eN.out]
    rintro _ y4 ⟨B4, b4, rfl, s4', t4, o4⟩
    go_wp2
    go_ret2
    exact ⟨B3, b3, B4, b4, rfl, ⟨s3'.ext t4, s4'⟩, XX3.trans t4, own_base (own_below o3 t4) XX2.size, own_base o4 XX3.size⟩

theorem pRBDay {s : Su} {g : Sh} (ok : SuOk s) {w : World} (r : SuR w s g) {A : Option Addr} {l : List SegL} (h : Rg w A l) (hl : l.length ≤ 10000) (c : Nat) (d : Int) :
    Calls Tryz.prog 14 #[.agg (s.cells g).toArray, .slice A l.length c, .int .i64 d] w (Ret2S w (paidD s l d) (notD s l d)) := by
  have a6 : ∀ W, Ext w W → Calls Tryz.prog 40 #[.agg (s.cells g).toArray] W (RetB W (chk s)) := fun W X => pRChk ok (r.ext X)
  unfold paidD notD
  cases hc : chk s
  · rw [hc] at a6
    exact rBDay0 (s.cells g) rfl l A c d w a6
  · rw [hc] at a6
    have hb := chk_times hc
    exact rBDay1 (s.cells g) rfl s.paid s.after s.auto rfl rfl rfl (by omega) (by omega) (by omega) l A c d hl w h a6
end Go.Proofs.YtnhmibfgaoealaaGreat
namespace Go.Proofs.YtnhmibfgaoealaaGreat
open Go.RowKit BigFrame
set_option linter.unusedVariables false
set_option linter.unusedSimpArgs false

theorem fmap_snocF {pd : Int → List Sp.S} {D : List Int} {k : Nat} {d : Int} (hx : D[k]? = some d) : (D.take (k + 1)).flatMap pd = (D.take k).flatMap pd ++ pd d := by
  rw [take_snoc hx, List.flatMap_append]; simp

set_option maxRecDepth 100000 in
set_option maxHeartbeats 8000000 in
theorem rPaidA (cs : List Value) (hcs : cs.length = 23) (l : List SegL) (A : Option Addr) (c : Nat) (hl : l.length ≤ 100) (pd nd : Int → List Sp.S) (bpn : ∀ d, (pd d).length ≤ 900 ∧ (nd d).length ≤ 900) (w : World) (h : Rg w A l)
    (kO : ∀ W, Ext w W → ∀ d, Calls Tryz.prog 14 #[.agg cs.toArray, .slice A l.length c, .int .i64 d] W (Ret2S W (pd d) (nd d))) :
    Calls Tryz.prog 12 #[.agg cs.toArray, .slice A l.length c] w (Ret2R w (Sp.norm ((daysL (Sp.norm (clockL l))).flatMap pd)) (Sp.norm ((daysL (Sp.norm (clockL l))).flatMap nd))) := by
  have hi := Lib.hid (su_size hcs)
  have hDl := days_len (clockL l)
  have kc := fun (w : World) (A : Option Addr) (c : Nat) (h : Rs w A (clockL l)) => rDays h (by have := clock_len l; omega : (clockL l).length ≤ 900000) c
  obtain ⟨D, hD⟩ : ∃ D, daysL (Sp.norm (clockL l)) = D := ⟨_, rfl⟩
  rw [hD] at hDl kc ⊢
  clear hD
  have hPk : ∀ k, ((D.take k).flatMap pd).length ≤ 400000 := fun k => by
    have h1 := flatMap_len pd 900 (D.take k) fun d _ => (bpn d).1
    have h2 : (D.take k).length ≤ 371 := Nat.le_trans (List.length_take_le' _ _) hDl
    omega
  have hNk : ∀ k, ((D.take k).flatMap nd).length ≤ 400000 := fun k => by
    have h1 := flatMap_len nd 900 (D.take k) fun d _ => (bpn d).2
    have h2 : (D.take k).length ≤ 371 := Nat.le_trans (List.length_take_le' _ _) hDl
    omega
  replace kc := Lib.hid kc; replace kO := Lib.hid kO; replace h := Lib.hid h; replace hPk := Lib.hid hPk; replace hNk := Lib.hid hNk; replace bpn := Lib.hid bpn
  have hs0 := Bx.new w cs 30
  have X0 := (Ext.refl w).alloc (.cells cs.toArray 30)
  have hg0 := h.out.alloc (.cells cs.toArray 30)
  go_enter Tryz.func12, Tryz.ntmps12
  go_wp2_with fail
  refine (rClock hg0 (by omega) _).mono ?_
  rintro e w1 ⟨A1, c1, rfl, r1, x1, _⟩
  have hs1 := hs0.ext x1; clear hs0
  have X1 := X0.trans x1
  go_wp2_with fail
  refine (kc.out _ _ _ r1).mono ?_
  rintro e w2 ⟨A2, c2, rfl, r2, x2⟩
  have hs2 := Lib.hid (hs1.ext x2)
  have X2 := Lib.hid (X1.trans x2)
  have R2 : Hid (Rd encN 1 w2 w2.heap.size A2 D) := r2
  clear hs1 X0 X1 x1 x2 r1 hg0 r2 kc
  go_wp2_with fail
  go_loopw [9, 7, 8] (fun iv pv nv wr => ∃ (k n1 n2 : Nat) (B1 B2 : Option Addr) (b1 b2 : Nat), k ≤ D.length ∧ iv = .int .i64 k ∧ pv = .slice B1 n1 b1 ∧ nv = .slice B2 n2 b2 ∧ Hid (n1 = ((D.take k).flatMap pd).length) ∧ Hid (n2 = ((D.take k).flatMap nd).length) ∧ Hid (wr.ownsRow w2.heap.size 49 2 (.slice B1 n1 b1) n1 (flat encS ((D.take k).flatMap pd))) ∧ Hid (wr.ownsRow w2.heap.size 49 2 (.slice B2 n2 b2) n2 (flat encS ((D.take k).flatMap nd))) ∧ Hid (Apart (.slice B2 n2 b2) (.slice B1 n1 b1)) ∧ Hid (Ext w2 wr)) (fun iv _ _ _ => D.length - (intOf iv).toNat)
  case atStart => exact ⟨0, 0, 0, none, none, 0, 0, Nat.zero_le _, rfl, rfl, rfl, rfl, rfl, own_nil _ _, own_nil _ _, .inl rfl, Ext.refl _⟩
  case round =>
    obtain ⟨k, n1, n2, B1, B2, b1, b2, hk, rfl, rfl, rfl, hn1, hn2, O1, O2, AP, HX⟩ := hrel
    have XW : Hid (Ext w wr) := X2.out.trans HX.out
    by_cases hlt : k < D.length
    · obtain ⟨b, off, d, rfl, hbB, hx, d0⟩ := Rd.atN R2.out HX.out hlt
      have q3 : (k : Int) < (D.length : Int) := by omega
      have q4 : (0 : Int) ≤ (k : Int) := by omega
      have E1 : Hid ((D.take (k + 1)).flatMap pd = (D.take k).flatMap pd ++ pd d) := fmap_snocF hx.out
      have E2 : Hid ((D.take (k + 1)).flatMap nd = (D.take k).flatMap nd ++ nd d) := fmap_snocF hx.out
      have bn1 : n1 ≤ 400000 := by rw [hn1.out]; exact hPk.out k
      have bn2 : n2 ≤ 400000 := by rw [hn2.out]; exact hNk.out k
      obtain ⟨bp, bq⟩ := bpn.out d
      have hwr : w2.heap.size ≤ wr.heap.size := HX.out.size
      obtain ⟨P, hP⟩ : ∃ P, pd d = P := ⟨_, rfl⟩
      obtain ⟨N, hN⟩ : ∃ P, nd d = P := ⟨_, rfl⟩
      have kD := fun W (X : Ext w W) => kO.out W X d
      rw [hP] at E1 bp kD; rw [hN] at E2 bq kD
      obtain ⟨LP, hLP⟩ : ∃ P, (D.take k).flatMap pd = P := ⟨_, rfl⟩
      obtain ⟨LN, hLN⟩ : ∃ P, (D.take k).flatMap nd = P := ⟨_, rfl⟩
      rw [hLP] at E1 hn1 O1; rw [hLN] at E2 hn2 O2
      clear hP hN hLP hLN hx
      replace kD := Lib.hid kD
      have HS : Hid (OfS cs w.heap.size b (off + k) d (wr.drewN 1)) := ⟨(HX.out.block _ (hs2.out.lt)).trans hs2.out, d0, by have : wr.heap.size = (wr.drewN 1).heap.size := rfl; omega⟩
      go_wp2_with fail
      refine held_start (S := OfS cs w.heap.size b (off + k) d) 12 rfl (by kernel_rfl) ?_
      refine held_box (i := 0) rfl (by kernel_rfl) (by kernel_rfl) (by kernel_rfl) rfl 30 _ rfl _ rfl cs 30 (fun w h => h.1) _ Tryz.underlying30 rfl hi.out HS.out _ (by simp [Act.put]; rfl) ?_
      refine held_move (i := 1) rfl (by kernel_rfl) (by kernel_rfl) (by kernel_rfl) _ rfl rfl HS.out _ (by simp [Act.put]; rfl) ?_
      refine held_move (i := 2) rfl (by kernel_rfl) (by kernel_rfl) (by kernel_rfl) _ rfl rfl HS.out _ (by simp [Act.put]; rfl) ?_
      refine held_move (i := 3) rfl (by kernel_rfl) (by kernel_rfl) (by kernel_rfl) _ rfl rfl HS.out _ (by simp [Act.put]; rfl) ?_
      refine wpAnyH_take (i := 4) (v := .pointer (some ⟨b, off + k, none⟩)) rfl (by kernel_rfl) (by kernel_rfl) (by kernel_rfl) (fun _ _ _ h => h) (.inl ⟨rfl, fun w _ => by first | (go_simp; done) | (go_simp; rfl)⟩) HS.out ?_
      simp only [Act.put, List.setIfInBounds_toArray, List.set_cons_zero, List.set_cons_succ]
      refine wpAnyH_take (i := 5) (v := .int .i64 d) rfl (by kernel_rfl) (by kernel_rfl) (by kernel_rfl) (fun _ _ _ h => h) (.inl ⟨rfl, fun w hT => by have cc := hT.2.1; first | (go_simp; done) | (go_simp; rfl)⟩) HS.out ?_
      simp only [Act.put, List.setIfInBounds_toArray, List.set_cons_zero, List.set_cons_succ]
      refine held_all (i := 6) rfl (by kernel_rfl) rfl ?_
      go_wp2_with fail
      refine (kD.out _ (XW.out.drewN 1)).mono ?_
      rintro _ w3 ⟨A3, c3, A4, c4, rfl, ⟨r3, r4⟩, x3, o3, o4⟩
      have HS3 : Hid (OfS cs w.heap.size b (off + k) d w3) := HS.out.ext x3
      have XX3 := Lib.hid ((HX.out.drewN 1).trans x3)
      have ne4 : Hid (Apart (.slice A4 N.length c4) (.slice B1 n1 b1)) := Apart.fresh (own_drewN O1.out 1) o4
      have P1 := Lib.hid (own_below (own_drewN O1.out 1) x3)
      have P2 := Lib.hid (own_below (own_drewN O2.out 1) x3)
      replace o4 := Lib.hid o4; replace r3 := Lib.hid r3
      clear HS O1 O2 o3 r4 x3 XW
      refine ⟨HS3.out, ?_⟩
      refine held_move (i := 7) rfl (by kernel_rfl) (by kernel_rfl) (by kernel_rfl) _ rfl rfl HS3.out _ (by simp [Act.put]; rfl) ?_
      refine wpAnyH_take (i := 8) (v := .slice A3 P.length c3) rfl (by kernel_rfl) (by kernel_rfl) (by kernel_rfl) (fun _ _ _ h => h) (.inl ⟨rfl, fun w _ => by first | (go_simp; done) | (go_simp; rfl)⟩) HS3.out ?_
      simp only [Act.put, List.setIfInBounds_toArray, List.set_cons_zero, List.set_cons_succ]
      refine wpAnyH_take (i := 9) (v := .slice A4 N.length c4) rfl (by kernel_rfl) (by kernel_rfl) (by kernel_rfl) (fun _ _ _ h => h) (.inl ⟨rfl, fun w _ => by first | (go_simp; done) | (go_simp; rfl)⟩) HS3.out ?_
      simp only [Act.put, List.setIfInBounds_toArray, List.set_cons_zero, List.set_cons_succ]
      refine held_assign (i := 10) rfl (by kernel_rfl) (by kernel_rfl) (by kernel_rfl) _ rfl rfl HS3.out _ (by simp [Act.put]; rfl) ?_
      refine held_assign (i := 11) rfl (by kernel_rfl) (by kernel_rfl) (by kernel_rfl) _ rfl rfl HS3.out _ (by simp [Act.put]; rfl) ?_
      refine held_done (by kernel_rfl) ?_ _
      clear HS3
      go_wp2_with (at_builtin; first | (refine app_two_any w2 _ X5.out _ _ rfl rfl n2 (n1 + P.length) _ _ _ _ N rfl Q2.out Q1.out ap5.out.symm A4 c4 N.length rfl r5.out rfl (by omega) ?_; intro A6 c6 w6 q3 q4 ap6 x6 _; rw [← E2.out] at q3; replace q3 := Lib.hid q3; replace q4 := Lib.hid q4; replace ap6 := Lib.hid ap6.symm; replace x6 := Lib.hid x6) | (refine app_two_any w2 _ XX3.out _ _ rfl rfl n1 n2 _ _ _ _ P rfl P1.out P2.out AP.out A3 c3 P.length rfl r3.out rfl (by omega) ?_; intro A5 c5 w5 q1 q2 ap5 x5 g5; rw [← E1.out] at q1; have r5 : Hid (Rs w5 A4 N) := Rs.own (o4.out.kept g5 ne4.out); have Q1 := Lib.hid q1; have Q2 := Lib.hid q2; replace ap5 := Lib.hid ap5; have X5 := Lib.hid x5; clear q1 q2 x5 g5 P1 P2 AP))
      have hm1 : Hid (n1 + P.length = ((D.take (k + 1)).flatMap pd).length) := by show _ = _; rw [E1.out, List.length_append, ← hn1.out]
      have hm2 : Hid (n2 + N.length = ((D.take (k + 1)).flatMap nd).length) := by show _ = _; rw [E2.out, List.length_append, ← hn2.out]
      go_roundw
      case rel => exact ⟨k + 1, n1 + P.length, n2 + N.length, A5, A6, c5, c6, by omega, by go_num, rfl, rfl, hm1, hm2, q4, q3, ap6, x6⟩
      case measure => simp [intOf]; omega
    · obtain rfl : k = D.length := by omega
      have lP := hPk.out D.length
      have lN := hNk.out D.length
      rw [List.take_length] at hn1 hn2 O1 O2 lP lN
      obtain ⟨P, hP⟩ : ∃ P, D.flatMap pd = P := ⟨_, rfl⟩
      obtain ⟨N, hN⟩ : ∃ P, D.flatMap nd = P := ⟨_, rfl⟩
      rw [hP] at hn1 O1 lP; rw [hN] at hn2 O2 lN
      have kP := fun W (hr : Rs W B1 P) => rNormN hr (by omega) n1 hn1.out.symm b1
      have kN := fun W (hr : Rs W B2 N) => rNormN hr (by omega) n2 hn2.out.symm b2
      have rP : Hid (Rs wr B1 P) := Rs.own (by rw [← hn1.out]; exact O1.out)
      have rN : Hid (Rs wr B2 N) := Rs.own (by rw [← hn2.out]; exact O2.out)
      replace kP := Lib.hid kP; replace kN := Lib.hid kN; replace hP := Lib.hid hP; replace hN := Lib.hid hN
      clear O1 O2 AP hn1 hn2
      go_wp2_with fail
      refine (kP.out _ rP.out).mono ?_
      rintro _ w5 ⟨A5, c5, rfl, r5, x5, _⟩
      go_wp2_with fail
      refine (kN.out _ (rN.out.ext x5)).mono ?_
      rintro _ w6 ⟨A6, c6, rfl, r6, x6, _⟩
      go_wp2
      go_ret2
      exact ⟨A5, c5, A6, c6, by rw [hP.out, hN.out]; rfl, ⟨by rw [hP.out]; exact r5.ext x6, by rw [hN.out]; exact r6⟩, (XW.out.trans x5).trans x6, trivial⟩

theorem pRPaid {s : Su} {g : Sh} (ok : SuOk s) {w : World} (r : SuR w s g) {A : Option Addr} {l : List SegL} (h : Rg w A l) (hl : l.length ≤ 100) (c : Nat) :
    Calls Tryz.prog 12 #[.agg (s.cells g).toArray, .slice A l.length c] w (Ret2R w (paidAll s l) (notAll s l)) :=
  rPaidA (s.cells g) rfl l A c hl (paidD s l) (notD s l) (fun d => by
    have h := day_lens s.paid s.after s.auto l d hl
    unfold paidD notD
    split
    · omega
    · simp) w h (fun W X d => pRBDay ok (r.ext X) (h.ext X) (by omega) c d)
end Go.Proofs.YtnhmibfgaoealaaGreat
namespace Go.Proofs.YtnhmibfgaoealaaGreat
open Go.RowKit
set_option linter.unusedVariables false
set_option linter.unusedSimpArgs false

set_option maxRecDepth 100000 in
set_option maxHeartbeats 2000000 in
theorem breaksTell0 (cs : List Value) (hcs : cs.length = 23) (l : List SegL) (A : Option Addr) (c : Nat) (d : Int) (p : Prop) (a b x y : List Sp.S) (w : World) (h : Rg w A l) (kF : ∀ W, Ext w W → ∀ A c, Rg W A l → Calls Tryz.prog 10 #[.agg cs.toArray, .slice A l.length c] W (RetP W p)) (kP : p → ∀ W, Ext w W → ∀ A c, Rg W A l → Calls Tryz.prog 11 #[.agg cs.toArray, .slice A l.length c] W (Ret2R W a b)) (kQ : p → ∀ W, Ext w W → ∀ A c, Rg W A l → Calls Tryz.prog 12 #[.agg cs.toArray, .slice A l.length c] W (Ret2R W a b)) (kB : p → ∀ W, Ext w W → ∀ A c, Rg W A l → Calls Tryz.prog 13 #[.agg cs.toArray, .slice A l.length c, .int .i64 d] W (Ret2S W x y)) (kR : p → ∀ W, Ext w W → ∀ A c, Rg W A l → Calls Tryz.prog 14 #[.agg cs.toArray, .slice A l.length c, .int .i64 d] W (Ret2S W x y))
    (bl : p → a.length ≤ 400000 ∧ b.length ≤ 400000 ∧ x.length ≤ 400000 ∧ y.length ≤ 400000) :
    Calls Tryz.prog 3 #[.agg cs.toArray, .slice A l.length c, .int .i64 d] w (RetB w true) := by
  replace kF := Lib.hid kF
  replace kP := Lib.hid kP
  replace kQ := Lib.hid kQ
  replace kB := Lib.hid kB
  replace kR := Lib.hid kR
  replace h := Lib.hid h
  replace bl := Lib.hid bl
  have hi := Lib.hid (su_size hcs)
  clear hcs
  have hs0 := Bx.new w cs 30
  have X0 := (Ext.refl w).alloc (.cells cs.toArray 30)
  have hg0 := h.out.alloc (.cells cs.toArray 30)
  go_enter Tryz.func3, Tryz.ntmps3
  go_wp2_with fail
  refine (awake15 _).mono ?_
  rintro e w1 ⟨rfl, x1⟩
  have hs1 := hs0.ext x1; clear hs0
  have hg1 := hg0.ext x1; clear hg0
  have X1 := X0.trans x1
  go_wp2_with (first | (refine load_box rfl 30 _ rfl _ rfl _ _ hs1 _ Tryz.underlying30 rfl hi.out ?_))
  refine (kF.out _ X1 _ _ hg1).mono ?_
  rintro e w2 ⟨⟨b, rfl, hb⟩, x2⟩
  have hs2 := hs1.ext x2; clear hs1
  have hg2 := hg1.ext x2; clear hg1
  have X2 := X1.trans x2
  cases b
  · clear hb
    go_wp2
    go_ret
    exact ⟨rfl, X2⟩
  · have hp := hb rfl
    clear hb
    obtain ⟨lb1, lb2, lb3, lb4⟩ := bl.out hp
    go_wp2_with (first | (refine load_box rfl 30 _ rfl _ rfl _ _ hs2 _ Tryz.underlying30 rfl hi.out ?_))
    refine (kP.out hp _ X2 _ _ hg2).mono ?_
    rintro e w3 ⟨A3, a3, B3, b3, rfl, ⟨r3, t3⟩, x3, _⟩
    have hs3 := hs2.ext x3; clear hs2
    have hg3 := hg2.ext x3; clear hg2
    have X3 := X2.trans x3
    go_wp2_with (first | (refine load_box rfl 30 _ rfl _ rfl _ _ hs3 _ Tryz.underlying30 rfl hi.out ?_))
    refine (kQ.out hp _ X3 _ _ hg3).mono ?_
    rintro e w4 ⟨A4, a4, B4, b4, rfl, ⟨r4, t4⟩, x4, _⟩
    have hs4 := hs3.ext x4; clear hs3
    have hg4 := hg3.ext x4; clear hg3
    have X4 := X3.trans x4
    go_wp2_with (first | (refine load_box rfl 30 _ rfl _ rfl _ _ hs4 _ Tryz.underlying30 rfl hi.out ?_))
    refine (kB.out hp _ X4 _ _ hg4).mono ?_
    rintro e w5 ⟨A5, a5, B5, b5, rfl, ⟨r5, t5⟩, x5, _⟩
    have hs5 := hs4.ext x5; clear hs4
    have hg5 := hg4.ext x5; clear hg4
    have X5 := X4.trans x5
    go_wp2_with (first | (refine load_box rfl 30 _ rfl _ rfl _ _ hs5 _ Tryz.underlying30 rfl hi.out ?_))
    refine (kR.out hp _ X5 _ _ hg5).mono ?_
    rintro e w6 ⟨A6, a6, B6, b6, rfl, ⟨r6, t6⟩, x6, _⟩
    have X6 := X5.trans x6
    have p1 := Lib.hid (((r3.ext x4).ext x5).ext x6); have p2 := Lib.hid (((t3.ext x4).ext x5).ext x6)
    have p3 := Lib.hid ((r4.ext x5).ext x6); have p4 := Lib.hid ((t4.ext x5).ext x6)
    have p5 := Lib.hid (r5.ext x6); have p6 := Lib.hid (t5.ext x6)
    have p7 := Lib.hid r6; have p8 := Lib.hid t6
    clear r3 r4 r5 r6 t3 t4 t5 t6 hs5 hg5
    go_wp2_with fail
    refine (bEq (cSame p1.out p3.out (by omega) _ _) (b' := true) (decide_eq_true rfl)).mono ?_
    rintro e w7 ⟨rfl, x7⟩
    go_wp2_with fail
    refine (bEq (cSame (p2.out.ext x7) (p4.out.ext x7) (by omega) _ _) (b' := true) (decide_eq_true rfl)).mono ?_
    rintro e w8 ⟨rfl, x8⟩
    have x78 := x7.trans x8
    go_wp2_with fail
    refine (bEq (cSame (p5.out.ext x78) (p7.out.ext x78) (by omega) _ _) (b' := true) (decide_eq_true rfl)).mono ?_
    rintro e w9 ⟨rfl, x9⟩
    have x79 := x78.trans x9
    go_wp2_with fail
    refine (bEq (cSame (p6.out.ext x79) (p8.out.ext x79) (by omega) _ _) (b' := true) (decide_eq_true rfl)).mono ?_
    rintro e w10 ⟨rfl, x10⟩
    go_wp2
    go_ret
    exact ⟨rfl, (X6.trans x79).trans x10⟩

theorem all_lensF (s : Su) (l : List SegL) (hl : l.length ≤ 100) : (paidAll s l).length ≤ 400000 ∧ (notAll s l).length ≤ 400000 := by
  have hD := days_len (clockL l)
  have hp : ∀ d, (paidD s l d).length ≤ 900 ∧ (notD s l d).length ≤ 900 := fun d => by
    have h := day_lens s.paid s.after s.auto l d hl
    unfold paidD notD
    split
    · omega
    · simp
  constructor
  · unfold paidAll
    have := flatMap_len (paidD s l) 900 (daysL (Sp.norm (clockL l))) fun d _ => (hp d).1
    exact Nat.le_trans (Sp.norm_length _) (by omega)
  · unfold notAll
    have := flatMap_len (notD s l) 900 (daysL (Sp.norm (clockL l))) fun d _ => (hp d).2
    exact Nat.le_trans (Sp.norm_length _) (by omega)
theorem day_lensF (s : Su) (l : List SegL) (d : Int) (hl : l.length ≤ 100) : (paidD s l d).length ≤ 900 ∧ (notD s l d).length ≤ 900 := by
  have h := day_lens s.paid s.after s.auto l d hl
  unfold paidD notD
  split
  · omega
  · simp
theorem tell15 (s : Su) (g : Sh) (ok : SuOk s) (l : List SegL) (A : Option Addr) (c : Nat) (hl : l.length ≤ maxLen) (d : Int) (w : World) (r : SuR w s g) (h : Rg w A l) :
    Calls Tryz.prog 3 #[.agg (s.cells g).toArray, .slice A l.length c, .int .i64 d] w (RetB w true) := by
  have a1 : Few15 s l → l.length ≤ 100 := fun p => by have := p.2.1; omega
  refine breaksTell0 (s.cells g) rfl l A c d (Few15 s l) (paidAll s l) (notAll s l) (paidD s l d) (notD s l d) w h (fun W X A c h => pFew15 s g h hl c) (fun p W X A c h => pPaid ok p.1 (r.ext X) h (a1 p) c) (fun p W X A c h => pRPaid ok (r.ext X) h (a1 p) c) (fun p W X A c h => pBOfDay ok p.1 (r.ext X) h (by have := a1 p; omega) c d) (fun p W X A c h => pRBDay ok (r.ext X) h (by have := a1 p; omega) c d) fun p => ?_
  have h1 := all_lensF s l (a1 p)
  have h2 := day_lensF s l d (a1 p)
  omega
end Go.Proofs.YtnhmibfgaoealaaGreat
