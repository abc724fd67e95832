/-
  Events behind a correction: plain laws.
  lumperlaw13.FixesOnly: its walk.
  FixesOnly for a setup.
  Corrections of lists of unlike numbers: plain.
  A correction and its turning back: plain; a list of unlike numbers made.
  lumperlaw13.FixesTurn: its walk.
  lumperlaw13.FixesBack: its walk.
-/
import Derived.Test.YtmbjbbflhlndcaaQb3
import Derived.Test.YtmbjbbflhlndcaaLv3
import Derived.Test.YtmbjbbflhlndcaaQg3
namespace Go.Proofs.Ytmbjbbflhlndcaa
set_option linter.unusedVariables false
set_option linter.unusedSimpArgs false

theorem applyE_cases {chk : Bool} {l : List Ev} {f : Fx} {R : List Ev} (h : applyE chk l f = (R, 0)) :
    ∃ M, R = sortE M ∧ ((f.kind = 1 ∧ ixE l f.ev.id = none ∧ M = l ++ [f.ev]) ∨ (f.kind = 2 ∧ ∃ i, ixE l f.ev.id = some i ∧ M = delE l i) ∨ (f.kind = 3 ∧ ∃ i, ixE l f.ev.id = some i ∧ M = delE l i ++ [f.ev])) := by
  unfold applyE at h
  by_cases h1 : f.kind = 1
  · rw [if_pos h1] at h
    cases chk with
    | false => rw [if_neg (by simp)] at h; injection h with _ h; cases h
    | true =>
      rw [if_pos rfl] at h
      cases hx : ixE l f.ev.id with
      | some i => rw [hx] at h; injection h with _ h; cases h
      | none => rw [hx] at h; injection h with h _; exact ⟨_, h.symm, .inl ⟨h1, rfl, rfl⟩⟩
  · rw [if_neg h1] at h
    by_cases h2 : f.kind = 2
    · rw [if_pos h2] at h
      cases hx : ixE l f.ev.id with
      | none => rw [hx] at h; injection h with _ h; cases h
      | some i => rw [hx] at h; injection h with h _; exact ⟨_, h.symm, .inr (.inl ⟨h2, i, rfl, rfl⟩)⟩
    · rw [if_neg h2] at h
      by_cases h3 : f.kind = 3
      · rw [if_pos h3] at h
        cases chk with
        | false => rw [if_neg (by simp)] at h; injection h with _ h; cases h
        | true =>
          rw [if_pos rfl] at h
          cases hx : ixE l f.ev.id with
          | none => rw [hx] at h; injection h with _ h; cases h
          | some i => rw [hx] at h; injection h with h _; exact ⟨_, h.symm, .inr (.inr ⟨h3, i, rfl, rfl⟩)⟩
      · rw [if_neg h3] at h; injection h with _ h; cases h
theorem applyE_bad {chk : Bool} {l : List Ev} {f : Fx} (h : (applyE chk l f).2 ≠ 0) : (applyE chk l f).1 = [] := by
  unfold applyE at *
  repeat' split
  all_goals first
    | rfl
    | (exfalso; apply h; simp_all; done)
theorem cnt_app (x : Ev) (A B : List Ev) : cntE' x (A ++ B) = cntE' x A + cntE' x B := by unfold cntE'; rw [List.filter_append, List.length_append]
theorem cnt_one {x y : Ev} (h : y ≠ x) : cntE' x [y] = 0 := by unfold cntE'; simp [h]
theorem cnt_sort (x : Ev) (M : List Ev) : cntE' x (sortE M) = cntE' x M := (sort_count M x).symm
theorem cnt_del {x y : Ev} {l : List Ev} {i : Nat} (hi : l[i]? = some y) (h : y ≠ x) : cntE' x (delE l i) = cntE' x l := by
  have e : l = l.take i ++ (y :: l.drop (i + 1)) := by
    have h1 := (List.getElem?_eq_some_iff.1 hi)
    obtain ⟨h2, rfl⟩ := h1
    rw [← List.drop_eq_getElem_cons h2, List.take_append_drop]
  have e2 : cntE' x (l.take i ++ (y :: l.drop (i + 1))) = cntE' x (delE l i) := by
    rw [show (y :: l.drop (i + 1)) = [y] ++ l.drop (i + 1) from rfl, cnt_app, cnt_app, cnt_one h, Nat.zero_add]
    unfold delE
    rw [cnt_app]
  rw [← e2, ← e]
/-- Each other event is as often there as it was. -/
theorem only_count {chk : Bool} {l : List Ev} {f : Fx} {R : List Ev} (h : applyE chk l f = (R, 0)) {x : Ev} (hx : x.id ≠ f.ev.id) : cntE' x l = cntE' x R := by
  obtain ⟨M, hR, h'⟩ := applyE_cases h
  clear h
  subst hR
  have h := h'
  clear h'
  rw [cnt_sort]
  have ne : f.ev ≠ x := fun e => hx (by rw [e])
  rcases h with ⟨_, _, rfl⟩ | ⟨_, i, hi, rfl⟩ | ⟨_, i, hi, rfl⟩
  · rw [cnt_app, cnt_one ne]; rfl
  · obtain ⟨y, hy, hyi, _⟩ := ix_some hi
    exact (cnt_del hy (fun e => hx (by rw [← e, hyi]))).symm
  · obtain ⟨y, hy, hyi, _⟩ := ix_some hi
    rw [cnt_app, cnt_one ne, Nat.add_zero]
    exact (cnt_del hy (fun e => hx (by rw [← e, hyi]))).symm
theorem del_len {l : List Ev} {i : Nat} (hi : i < l.length) : (delE l i).length + 1 = l.length := by
  unfold delE
  rw [List.length_append, List.length_take, List.length_drop]; omega
/-- How many there are. -/
theorem only_len {chk : Bool} {l : List Ev} {f : Fx} {R : List Ev} (h : applyE chk l f = (R, 0)) : (R.length : Int) = if f.kind = 1 then (l.length : Int) + 1 else if f.kind = 2 then (l.length : Int) - 1 else (l.length : Int) := by
  obtain ⟨M, hR, h'⟩ := applyE_cases h
  clear h
  subst hR
  have h := h'
  clear h'
  rw [sortE_len]
  rcases h with ⟨hk, _, rfl⟩ | ⟨hk, i, hi, rfl⟩ | ⟨hk, i, hi, rfl⟩
  · rw [if_pos hk, List.length_append]; simp
  · obtain ⟨y, hy, _⟩ := ix_some hi
    have := del_len (List.getElem?_eq_some_iff.1 hy).1
    rw [if_neg (by omega), if_pos hk]; omega
  · obtain ⟨y, hy, _⟩ := ix_some hi
    have := del_len (List.getElem?_eq_some_iff.1 hy).1
    rw [if_neg (by omega), if_neg (by omega), List.length_append]; simp; omega
/-- What was put in is found. -/
theorem only_found {chk : Bool} {l : List Ev} {f : Fx} {R : List Ev} (h : applyE chk l f = (R, 0)) (hk : f.kind = 1) : fdE R f.ev.id = f.ev ∧ (ixE R f.ev.id).isSome = true := by
  obtain ⟨M, hR, h'⟩ := applyE_cases h
  clear h
  subst hR
  have h := h'
  clear h'
  rcases h with ⟨_, hn, rfl⟩ | ⟨h2, _⟩ | ⟨h3, _⟩
  · cases hx : ixE (sortE (l ++ [f.ev])) f.ev.id with
    | none =>
      exfalso
      have hm : f.ev ∈ sortE (l ++ [f.ev]) := sortE_mem.2 (by simp)
      unfold ixE at hx
      rw [List.findIdx?_eq_none_iff] at hx
      have := hx _ hm
      simp at this
    | some j =>
      obtain ⟨y, hy, hyi, _⟩ := ix_some hx
      refine ⟨?_, rfl⟩
      unfold fdE
      rw [hx]
      simp only [hy, Option.getD_some]
      have hm : y ∈ l ++ [f.ev] := sortE_mem.1 (List.mem_of_getElem? hy)
      rcases List.mem_append.1 hm with hm | hm
      · exfalso
        unfold ixE at hn
        rw [List.findIdx?_eq_none_iff] at hn
        have := hn _ hm
        simp at this
        exact this hyi
      · simpa using hm
  · omega
  · omega
/-- They are in order. -/
theorem only_order {chk : Bool} {l : List Ev} {f : Fx} {R : List Ev} (h : applyE chk l f = (R, 0)) {i : Nat} {x y : Ev} (hx : R[i]? = some x) (hy : R[i + 1]? = some y) : lessE y x = false := by
  obtain ⟨M, hR, _⟩ := applyE_cases h
  clear h
  subst hR
  exact sorted_next hx hy
end Go.Proofs.Ytmbjbbflhlndcaa
namespace Go.Proofs.Ytmbjbbflhlndcaa
open Go.RowKit BigFrame
set_option linter.unusedVariables false
set_option linter.unusedSimpArgs false

set_option maxRecDepth 100000 in
set_option maxHeartbeats 8000000 in
theorem only13 {cs : List Value} {pl : Int} {ne nc ng nr : Nat} (hsE : SuE cs pl ne nc ng nr) {F : Bool} (kF : ∀ W, Calls Try.prog 61 #[.agg cs.toArray] W (RetB W F)) {w : World} {Al : Option Addr} {l : List Ev} (hl : Re w Al l) (cl n : Nat) (hn : l.length = n) (hc : n ≤ cl) (f : Fx) :
    Calls Try.prog 17 #[.agg cs.toArray, .slice Al n cl, .agg (encF f).toArray] w (RetB w true) := by
  obtain ⟨W0, hW0⟩ : ∃ W0, (w.alloc (.cells cs.toArray 55)).alloc (.cells (encF f).toArray 25) = W0 := ⟨_, rfl⟩
  have BS0 : Hid (Bx W0 w.heap.size cs 55) := by rw [← hW0]; exact (Bx.new w cs 55).alloc _
  have BF0 : Hid (Bx W0 (w.heap.size + 1) (encF f) 25) := by
    rw [← hW0]
    have := Bx.new (w.alloc (.cells cs.toArray 55)) (encF f) 25
    rwa [show (w.alloc (.cells cs.toArray 55)).heap.size = w.heap.size + 1 from by simp] at this
  have X0 : Hid (Ext w W0) := by rw [← hW0]; exact ((Ext.refl w).alloc _).alloc _
  have L0 := Lib.hid (hl.ext X0.out)
  have hsz : (Try.prog.info? 55).map (·.size) = some cs.toArray.size := by rw [sizeS]; simp [hsE.len]
  replace hsz := Lib.hid hsz; replace kF := Lib.hid kF; replace hsE := Lib.hid hsE; replace hW0 := Lib.hid hW0; replace hn := Lib.hid hn
  clear hl
  go_enter Try.func17, Try.ntmps17
  go_wp2_with fail
  rw [hW0.out]
  refine (awake13 _).mono ?_
  rintro e1 w1 ⟨rfl, y⟩
  have BS1 := Lib.hid (BS0.out.ext y); have BF1 := Lib.hid (BF0.out.ext y); have X1 := Lib.hid (X0.out.trans y); have L1 := Lib.hid (L0.out.ext y)
  clear y BS0 BF0 X0 L0 hW0
  go_wp2_with (first | (refine load_box (by rfl) 55 _ rfl w.heap.size rfl _ _ BS1.out _ Try.underlying55 rfl hsz.out ?_) | fail)
  refine (pFew13 hsE.out.len kF.out Al n cl _).mono ?_
  rintro e2 w2 ⟨rfl, y⟩
  have BS2 := Lib.hid (BS1.out.ext y); have BF2 := Lib.hid (BF1.out.ext y); have X2 := Lib.hid (X1.out.trans y); have L2 := Lib.hid (L1.out.ext y)
  clear y BS1 BF1 X1 L1
  obtain ⟨G, hG⟩ : ∃ G, (F && decide (n ≤ 100)) = G := ⟨_, rfl⟩
  rw [hG]
  cases G with
  | false =>
    clear hG
    go_wp2_with fail
    go_ret
    exact ⟨rfl, X2.out⟩
  | true =>
  have hn1 : n ≤ 100 := by cases F <;> simp at hG; exact hG
  clear hG
  obtain ⟨R, hR⟩ : ∃ R, (applyE (checkE pl ne nc ng nr f.ev) l f).1 = R := ⟨_, rfl⟩
  obtain ⟨r, hr⟩ : ∃ r, (applyE (checkE pl ne nc ng nr f.ev) l f).2 = r := ⟨_, rfl⟩
  have hRl : Hid (R.length ≤ 101) := by
    have := applyE_len (checkE pl ne nc ng nr f.ev) l f
    rw [hR, hn.out] at this
    show _ ≤ _; omega
  have kA := Lib.hid (pApply hsE.out L2.out cl n hn.out (by omega) f)
  rw [hR, hr] at kA
  obtain ⟨nR, hnR⟩ : ∃ m, R.length = m := ⟨_, rfl⟩
  replace hnR := Lib.hid hnR
  have hRl1 : nR ≤ 101 := by have := hRl.out; rw [hnR.out] at this; exact this
  go_wp2_with (first | (refine load_box (by rfl) 55 _ rfl w.heap.size rfl _ _ BS2.out _ Try.underlying55 rfl hsz.out ?_) | (refine load_box (by rfl) 25 _ rfl (w.heap.size + 1) rfl _ _ BF2.out _ Try.underlying25 rfl sizeF ?_) | fail)
  refine kA.out.mono ?_
  rintro e3 w3 ⟨A3, c3, rfl, r3, y⟩
  rw [hnR.out]
  have BF3 := Lib.hid (BF2.out.ext y); have X3 := Lib.hid (X2.out.trans y); have L3 := Lib.hid (L2.out.ext y); have P3 := Lib.hid r3
  clear r3 kA y BS2 BF2 X2 L2 hRl hsE kF hsz
  by_cases hr0 : r = 0
  case neg =>
    have hnil : nR = 0 := by rw [← hnR.out, ← hR, applyE_bad (by rw [hr]; exact hr0)]; rfl
    subst hnil
    have q1 : (r != 0) = true := by rw [bne_iff_ne]; exact hr0
    replace hR := Lib.hid hR; replace hr := Lib.hid hr
    clear hr0
    go_wp2_with fail
    go_ret
    exact ⟨rfl, X3.out⟩
  subst hr0
  have hOK : Hid (applyE (checkE pl ne nc ng nr f.ev) l f = (R, 0)) := by show _ = _; rw [← hR, ← hr]
  clear hR hr
  obtain ⟨u0, hu0⟩ : ∃ u, w3 = u := ⟨_, rfl⟩
  rw [hu0] at BF3 X3 L3 P3 ⊢
  clear hu0
  have cfi := fun W (hW : Ext u0 W) => (BF3.out.ext hW).cell 1 _ rfl
  replace cfi := Lib.hid cfi
  have hsv : (Try.prog.info? 23).map (·.size) = some 11 := sizeV
  replace hsv := Lib.hid hsv
  go_wp2_with fail
  go_loopw [10] (fun vi wr => ∃ i : Nat, i ≤ n ∧ vi = .int .i64 i ∧ Hid (Ext u0 wr)) (fun vi _ => n - (intOf vi).toNat)
  case atStart => exact ⟨0, Nat.zero_le _, rfl, Ext.refl _⟩
  case round =>
    obtain ⟨i, hin, rfl, X⟩ := hrel
    by_cases hlt : i < n
    · have q1 : (i : Int) < (n : Int) := by omega
      obtain ⟨x, hx⟩ : ∃ x, l[i]? = some x := ⟨_, List.getElem?_eq_getElem (by rw [hn.out]; exact hlt)⟩
      replace hx := Lib.hid hx
      obtain ⟨b, off, rfl, hr⟩ := L3.out.far (by rintro rfl; have := hn.out; simp at this; omega)
      obtain ⟨wq, hwq⟩ : ∃ W, wr = W := ⟨_, rfl⟩
      rw [hwq] at X ⊢
      clear hwq
      go_wp2_with fail
      obtain ⟨w8, hw8⟩ : ∃ W, wq.drewN 1 = W := ⟨_, rfl⟩
      have X28 : Ext wq w8 := by rw [← hw8]; exact (Ext.refl wq).drewN 1
      have X10 := Lib.hid (X.out.trans X28)
      refine held_start (S := fun W => Ext w8 W) 9 rfl (by kernel_rfl) ?_
      rw [show ({ wq with drawn := wq.drawn + 1 } : World) = w8 from hw8]
      clear hw8
      refine held_move (i := 0) rfl (by kernel_rfl) (by kernel_rfl) (by kernel_rfl) _ rfl rfl (Ext.refl w8) _ (by simp [Act.put]; rfl) ?_
      refine held_move (i := 1) rfl (by kernel_rfl) (by kernel_rfl) (by kernel_rfl) _ rfl rfl (Ext.refl w8) _ (by simp [Act.put]; rfl) ?_
      refine held_takeV (i := 2) rfl (by kernel_rfl) (by kernel_rfl) (by kernel_rfl) (.pointer (some ⟨b, off + i * 11, none⟩)) rfl (fun W _ => by go_simp) (Ext.refl w8) _ (by simp [Act.put]; rfl) ?_
      refine held_takeV (i := 3) rfl (by kernel_rfl) (by kernel_rfl) (by kernel_rfl) (.pointer (some ⟨b, off + i * 11, none⟩)) rfl (fun W _ => by go_simp) (Ext.refl w8) _ (by simp [Act.put]; rfl) ?_
      refine held_takeV (i := 4) rfl (by kernel_rfl) (by kernel_rfl) (by kernel_rfl) (.int .i64 x.id) rfl (fun W hW => by have cc : W.cell? ⟨b, off + i * 11, none⟩ = some (.int .i64 x.id) := hr _ (X10.out.trans hW) i x hx.out 0 _ rfl; go_simp) (Ext.refl w8) _ (by simp [Act.put]; rfl) ?_
      refine held_takeV (i := 5) rfl (by kernel_rfl) (by kernel_rfl) (by kernel_rfl) (.pointer (some ⟨w.heap.size + 1, 1, none⟩)) rfl (fun W _ => by go_simp) (Ext.refl w8) _ (by simp [Act.put]; rfl) ?_
      refine held_takeV (i := 6) rfl (by kernel_rfl) (by kernel_rfl) (by kernel_rfl) (.pointer (some ⟨w.heap.size + 1, 1, none⟩)) rfl (fun W _ => by go_simp) (Ext.refl w8) _ (by simp [Act.put]; rfl) ?_
      refine held_takeV (i := 7) rfl (by kernel_rfl) (by kernel_rfl) (by kernel_rfl) (.int .i64 f.ev.id) rfl (fun W hW => by have cc := cfi.out W (X10.out.trans hW); go_simp) (Ext.refl w8) _ (by simp [Act.put]; rfl) ?_
      refine held_takeV (i := 8) rfl (by kernel_rfl) (by kernel_rfl) (by kernel_rfl) (.bool (x.id == f.ev.id)) rfl (fun W _ => by go_simp) (Ext.refl w8) _ (by simp [Act.put]; rfl) ?_
      refine held_done (by kernel_rfl) ?_ _
      clear X28 X
      by_cases hid : x.id = f.ev.id
      · have hb : (x.id == f.ev.id) = true := by rw [beq_iff_eq]; exact hid
        rw [hb]
        clear hid hb
        go_wp2_with fail
        exact ⟨⟨i + 1, by omega, by first | rfl | go_num | (congr 1; omega), X10⟩, by simp [intOf]; omega⟩
      · have hb : (x.id == f.ev.id) = false := by rw [beq_eq_false_iff_ne]; exact hid
        have hcount := Lib.hid (only_count hOK.out hid)
        rw [hb]
        clear hid hb
        go_wp2_with fail
        go_loopw [11, 13] (fun vn vk wr => ∃ (k n1 : Nat), k ≤ n ∧ vn = .int .i64 n1 ∧ vk = .int .i64 k ∧ Hid (n1 = cntE' x (l.take k)) ∧ Hid (Ext u0 wr)) (fun _ vk _ => n - (intOf vk).toNat)
        case atStart => exact ⟨0, 0, Nat.zero_le _, rfl, rfl, rfl, X10.out⟩
        case round =>
          clear X10
          obtain ⟨k, n1, hkn, rfl, rfl, hn1', XX⟩ := hrel
          have ln1 : n1 ≤ 100 := by
            rw [hn1'.out]; unfold cntE'
            refine Nat.le_trans (List.length_filter_le _ _) ?_
            rw [List.length_take]; omega
          by_cases hk : k < n
          · have q2 : (k : Int) < (n : Int) := by omega
            obtain ⟨y, hy⟩ : ∃ y, l[k]? = some y := ⟨_, List.getElem?_eq_getElem (by rw [hn.out]; exact hk)⟩
            have hn2 := Lib.hid (cnt_snoc (x := x) hy)
            rw [← hn1'.out] at hn2
            replace hy := Lib.hid hy
            have hq1 := fun W => eqInV y x W
            by_cases e1 : y = x
            · rw [if_pos e1] at hn2
              rw [decide_eq_true e1] at hq1
              clear e1
              go_wp2_with fail
              refine wp_region_later u0 XX.out (by kernel_rfl) (by kernel_rfl) ?_
              go_big_quiet_step (fail)
              go_big_quiet_step (fail)
              go_big_quiet_step (fail)
              refine quiet_mid (by rfl) 23 _ rfl b (off + k * 11) rfl (encV y) (fun W ⟨e, he⟩ => by subst he; exact hr _ e.2 k y hy.out) _ Try.underlying23 rfl sizeE _ (by simp [Act.put]; rfl) ?_
              go_big_quiet_step (fail)
              go_big_quiet_step (fail)
              go_big_quiet_step (fail)
              refine quiet_mid (by rfl) 23 _ rfl b (off + i * 11) rfl (encV x) (fun W ⟨e, he⟩ => by subst he; exact hr _ e.2 i x hx.out) _ Try.underlying23 rfl sizeE _ (by simp [Act.put]; rfl) ?_
              go_big_quiet_step (fail)
              refine wpQuiet_nil ?_
              rintro _ ⟨e13, rfl⟩
              go_wp2_with fail
              exact ⟨⟨k + 1, n1 + 1, by omega, by first | rfl | go_num | (congr 1; omega), by first | rfl | go_num | (congr 1; omega), by rw [hn2.out]; rfl, Lib.hid e13.2⟩, by simp [intOf]; omega⟩
            · rw [if_neg e1] at hn2
              rw [decide_eq_false e1] at hq1
              clear e1
              go_wp2_with fail
              refine wp_region_later u0 XX.out (by kernel_rfl) (by kernel_rfl) ?_
              go_big_quiet_step (fail)
              go_big_quiet_step (fail)
              go_big_quiet_step (fail)
              refine quiet_mid (by rfl) 23 _ rfl b (off + k * 11) rfl (encV y) (fun W ⟨e, he⟩ => by subst he; exact hr _ e.2 k y hy.out) _ Try.underlying23 rfl sizeE _ (by simp [Act.put]; rfl) ?_
              go_big_quiet_step (fail)
              go_big_quiet_step (fail)
              go_big_quiet_step (fail)
              refine quiet_mid (by rfl) 23 _ rfl b (off + i * 11) rfl (encV x) (fun W ⟨e, he⟩ => by subst he; exact hr _ e.2 i x hx.out) _ Try.underlying23 rfl sizeE _ (by simp [Act.put]; rfl) ?_
              go_big_quiet_step (fail)
              refine wpQuiet_nil ?_
              rintro _ ⟨e13, rfl⟩
              go_wp2_with fail
              exact ⟨⟨k + 1, n1, by omega, by first | rfl | go_num | (congr 1; omega), by first | rfl | go_num | (congr 1; omega), by rw [hn2.out]; rfl, Lib.hid e13.2⟩, by simp [intOf]; omega⟩
          · have q2 : ¬ ((k : Int) < (n : Int)) := by omega
            have hn3 : Hid (n1 = cntE' x l) := by
              have ek : k = n := by omega
              show _ = _
              rw [hn1'.out, ek, List.take_of_length_le (by rw [hn.out]; exact Nat.le_refl _)]
            clear hn1'
            go_wp2_with fail
            go_loopw [12, 14] (fun vn vk wr => ∃ (k m1 : Nat), k ≤ nR ∧ vn = .int .i64 m1 ∧ vk = .int .i64 k ∧ Hid (m1 = cntE' x (R.take k)) ∧ Hid (Ext u0 wr)) (fun _ vk _ => nR - (intOf vk).toNat)
            case atStart => exact ⟨0, 0, Nat.zero_le _, rfl, rfl, rfl, XX.out⟩
            case round =>
              clear XX
              obtain ⟨k2, m1, hkn2, rfl, rfl, hm1, X⟩ := hrel
              have lm1 : m1 ≤ 101 := by
                rw [hm1.out]; unfold cntE'
                refine Nat.le_trans (List.length_filter_le _ _) ?_
                rw [List.length_take]; omega
              by_cases hk2 : k2 < nR
              · have q3 : (k2 : Int) < (nR : Int) := by omega
                obtain ⟨z, hz⟩ : ∃ y, R[k2]? = some y := ⟨_, List.getElem?_eq_getElem (by rw [hnR.out]; exact hk2)⟩
                obtain ⟨bs, os, rfl, hs⟩ := P3.out.far (by rintro rfl; have := hnR.out; simp at this; omega)
                have hm2 := Lib.hid (cnt_snoc (x := x) hz)
                rw [← hm1.out] at hm2
                replace hz := Lib.hid hz
                have hq2 := fun W => eqInV z x W
                by_cases e1 : z = x
                · rw [if_pos e1] at hm2
                  rw [decide_eq_true e1] at hq2
                  clear e1
                  go_wp2_with fail
                  refine wp_region_later u0 X.out (by kernel_rfl) (by kernel_rfl) ?_
                  go_big_quiet_step (fail)
                  go_big_quiet_step (fail)
                  go_big_quiet_step (fail)
                  refine quiet_mid (by rfl) 23 _ rfl bs (os + k2 * 11) rfl (encV z) (fun W ⟨e, he⟩ => by subst he; exact hs _ e.2 k2 z hz.out) _ Try.underlying23 rfl sizeE _ (by simp [Act.put]; rfl) ?_
                  go_big_quiet_step (fail)
                  go_big_quiet_step (fail)
                  go_big_quiet_step (fail)
                  refine quiet_mid (by rfl) 23 _ rfl b (off + i * 11) rfl (encV x) (fun W ⟨e, he⟩ => by subst he; exact hr _ e.2 i x hx.out) _ Try.underlying23 rfl sizeE _ (by simp [Act.put]; rfl) ?_
                  go_big_quiet_step (fail)
                  refine wpQuiet_nil ?_
                  rintro _ ⟨e13, rfl⟩
                  go_wp2_with fail
                  exact ⟨⟨k2 + 1, m1 + 1, by omega, by first | rfl | go_num | (congr 1; omega), by first | rfl | go_num | (congr 1; omega), by rw [hm2.out]; rfl, Lib.hid e13.2⟩, by simp [intOf]; omega⟩
                · rw [if_neg e1] at hm2
                  rw [decide_eq_false e1] at hq2
                  clear e1
                  go_wp2_with fail
                  refine wp_region_later u0 X.out (by kernel_rfl) (by kernel_rfl) ?_
                  go_big_quiet_step (fail)
                  go_big_quiet_step (fail)
                  go_big_quiet_step (fail)
                  refine quiet_mid (by rfl) 23 _ rfl bs (os + k2 * 11) rfl (encV z) (fun W ⟨e, he⟩ => by subst he; exact hs _ e.2 k2 z hz.out) _ Try.underlying23 rfl sizeE _ (by simp [Act.put]; rfl) ?_
                  go_big_quiet_step (fail)
                  go_big_quiet_step (fail)
                  go_big_quiet_step (fail)
                  refine quiet_mid (by rfl) 23 _ rfl b (off + i * 11) rfl (encV x) (fun W ⟨e, he⟩ => by subst he; exact hr _ e.2 i x hx.out) _ Try.underlying23 rfl sizeE _ (by simp [Act.put]; rfl) ?_
                  go_big_quiet_step (fail)
                  refine wpQuiet_nil ?_
                  rintro _ ⟨e13, rfl⟩
                  go_wp2_with fail
                  exact ⟨⟨k2 + 1, m1, by omega, by first | rfl | go_num | (congr 1; omega), by first | rfl | go_num | (congr 1; omega), by rw [hm2.out]; rfl, Lib.hid e13.2⟩, by simp [intOf]; omega⟩
              · have q3 : ¬ ((k2 : Int) < (nR : Int)) := by omega
                have hnm : n1 = m1 := by
                  have ek : k2 = nR := by omega
                  rw [hn3.out, hm1.out, ek, List.take_of_length_le (by rw [hnR.out]; exact Nat.le_refl _)]
                  exact hcount.out
                have z1 : ((n1 : Int) != (m1 : Int)) = false := by rw [hnm]; simp
                replace hnm := Lib.hid hnm
                go_wp2_with fail
                exact ⟨⟨i + 1, by omega, by first | rfl | go_num | (congr 1; omega), X⟩, by simp [intOf]; omega⟩
    · have q1 : ¬ ((i : Int) < (n : Int)) := by omega
      have cf1 := cfi.out wr X.out
      obtain ⟨z, hz⟩ : ∃ z, fdE R f.ev.id = z := ⟨_, rfl⟩
      obtain ⟨I, hI⟩ : ∃ I, (ixE R f.ev.id).isSome = I := ⟨_, rfl⟩
      have hfound : Hid (f.kind = 1 → z = f.ev ∧ I = true) := fun hk => by rw [← hz, ← hI]; exact only_found hOK.out hk
      have hlen := Lib.hid (only_len hOK.out)
      rw [hnR.out, hn.out] at hlen
      have kf := pFind (P3.out.ext X.out) f.ev.id c3 nR hnR.out (by omega)
      rw [hz, hI] at kf
      replace kf := Lib.hid kf
      clear hz hI
      go_wp2_with fail
      refine kf.out.mono ?_
      rintro e5 w5 ⟨y, rfl⟩
      have BF5 := Lib.hid ((BF3.out.ext X.out).ext y); have X5 := Lib.hid ((X3.out.trans X.out).trans y); have P5 := Lib.hid ((P3.out.ext X.out).ext y)
      clear y kf cf1
      go_upto_region 26 with (first | (refine store_newE rfl 23 _ _ (by rfl) w5 w5.heap.size rfl _ (encV z).toArray 23 rfl (by rfl) (by rfl) sizeV rfl (cells_ok z) ?_) | fail)
      obtain ⟨gx, hgx⟩ : ∃ g, w5.heap.size = g := ⟨_, rfl⟩
      obtain ⟨u6_, hu6⟩ : ∃ W, w5.alloc (.cells (encV z).toArray 23) = W := ⟨_, rfl⟩
      have y : Ext w5 u6_ := by rw [← hu6]; exact (Ext.refl w5).alloc _
      have C6 : Hid (Bx u6_ gx (encV z) 23) := by rw [← hu6, ← hgx]; exact Bx.new w5 _ _
      have BF6 := Lib.hid (BF5.out.ext y); have X6 := Lib.hid (X5.out.trans y); have P6 := Lib.hid (P5.out.ext y)
      rw [hgx, hu6]
      clear y hgx hu6 BF5 X5 P5
      have c0 := BF6.out.cell 0 _ rfl
      have BV6 := Lib.hid BF6.out.tail
      by_cases k1 : f.kind = 1
      · have d1 : (f.kind == 1) = true := by rw [beq_iff_eq]; exact k1
        have d2 : (f.kind == 2) = false := by rw [beq_eq_false_iff_ne]; omega
        have d3 : (f.kind != 1) = false := by rw [k1]; rfl
        obtain ⟨rfl, rfl⟩ := hfound.out k1
        have hml : Hid ((nR : Int) = (n : Int) + 1) := by show _ = _; rw [hlen.out, if_pos k1]
        have hme : ((nR : Int) == (n : Int) + 1) = true := by rw [hml.out]; simp
        have hqx : ∀ W, (Op.equalIn 10000 23 (.agg (encV f.ev).toArray) (.agg (encV f.ev).toArray)).run Try.prog W = .ok true W := fun W => by
          have := eqInV f.ev f.ev W
          rwa [decide_eq_true rfl] at this
        have hg := eqGuardV
        clear hlen hfound k1
        go_wp2_with fail
        go_loopw [18] (fun vi wr => ∃ i : Nat, 1 ≤ i ∧ (i ≤ nR ∨ i = 1) ∧ vi = .int .i64 i ∧ Hid (Ext u6_ wr)) (fun vi _ => nR - (intOf vi).toNat)
        case atStart => exact ⟨1, Nat.le_refl _, .inr rfl, rfl, Ext.refl _⟩
        case round =>
          obtain ⟨i2, hi1, hi2, rfl, XL⟩ := hrel
          by_cases hlt2 : i2 < nR
          · have q5 : (i2 : Int) < (nR : Int) := by omega
            obtain ⟨j, hj⟩ : ∃ j, i2 = j + 1 := ⟨i2 - 1, by omega⟩
            obtain ⟨xs, hxs⟩ : ∃ y, R[i2]? = some y := ⟨_, List.getElem?_eq_getElem (by rw [hnR.out]; exact hlt2)⟩
            obtain ⟨ys, hys⟩ : ∃ y, R[j]? = some y := ⟨_, List.getElem?_eq_getElem (by rw [hnR.out]; omega)⟩
            have hless : lessE xs ys = false := by
              rw [hj] at hxs
              exact only_order hOK.out hys hxs
            have kL : Hid (∀ W, Calls Try.prog 38 #[.agg (encV xs).toArray, .agg (encV ys).toArray] W (RetB W false)) := fun W => hless ▸ pLess xs ys W
            have wj : (i2 : Int) - 1 = (j : Int) := by omega
            have wk : IntKind.i64.wrap (j : Int) = (j : Int) := by rw [IntKind.wrap_i64]; omega
            have q6 : (j : Int) < (nR : Int) := by omega
            obtain ⟨bs, os, rfl, hs⟩ := P6.out.far (by rintro rfl; have := hnR.out; simp at this; omega)
            replace hxs := Lib.hid hxs; replace hys := Lib.hid hys; replace hj := Lib.hid hj
            go_wp2_with fail
            refine wp_region_later u6_ XL.out (by kernel_rfl) (by kernel_rfl) ?_
            go_big_quiet_step (fail)
            go_big_quiet_step (fail)
            go_big_quiet_step (fail)
            refine quiet_mid (by rfl) 23 _ rfl bs (os + i2 * 11) rfl (encV xs) (fun W ⟨e, he⟩ => by subst he; exact hs _ e.2 i2 xs hxs.out) _ Try.underlying23 rfl sizeE _ (by simp [Act.put]; rfl) ?_
            go_big_quiet_step (fail)
            go_big_quiet_step (fail)
            go_big_quiet_step (fail)
            go_big_quiet_step (fail)
            refine quiet_mid (by rfl) 23 _ rfl bs (os + j * 11) rfl (encV ys) (fun W ⟨e, he⟩ => by subst he; exact hs _ e.2 j ys hys.out) _ Try.underlying23 rfl sizeE _ (by simp [Act.put]; rfl) ?_
            go_big_quiet_step (exact later_bool (kL.out _))
            refine wpQuiet_nil ?_
            rintro _ ⟨e17, rfl⟩
            have X17 := Lib.hid e17.2
            go_wp2_with fail
            exact ⟨⟨i2 + 1, by omega, by omega, by first | rfl | go_num | (congr 1; omega), X17⟩, by simp [intOf]; omega⟩
          · have q5 : ¬ ((i2 : Int) < (nR : Int)) := by omega
            have c0' := (BF6.out.ext XL.out).cell 0 _ rfl
            have C7 := Lib.hid (C6.out.ext XL.out); have BV7 := Lib.hid ((BF6.out.ext XL.out).tail)
            have XF := Lib.hid (X6.out.trans XL.out)
            clear c0
            go_wp2_with (first | (refine load_box (by rfl) 23 _ rfl gx rfl _ _ C7.out _ Try.underlying23 rfl sizeV ?_) | (refine load_midG (by rfl) 23 _ rfl (w.heap.size + 1) 1 (by rfl) (encV f.ev) _ BV7.out Try.underlying23 rfl sizeE ?_) | fail)
            go_ret
            exact ⟨rfl, XF.out⟩
      · have d1 : (f.kind == 1) = false := by rw [beq_eq_false_iff_ne]; exact k1
        have d3 : (f.kind != 1) = true := by rw [bne_iff_ne]; exact k1
        by_cases k2 : f.kind = 2
        · have d2 : (f.kind == 2) = true := by rw [beq_iff_eq]; exact k2
          have hml : Hid ((nR : Int) = (n : Int) - 1) := by show _ = _; rw [hlen.out, if_neg k1, if_pos k2]
          have hme : ((nR : Int) == (n : Int) - 1) = true := by rw [hml.out]; simp
          clear hlen hfound k1 k2
          go_wp2_with fail
          go_loopw [18] (fun vi wr => ∃ i : Nat, 1 ≤ i ∧ (i ≤ nR ∨ i = 1) ∧ vi = .int .i64 i ∧ Hid (Ext u6_ wr)) (fun vi _ => nR - (intOf vi).toNat)
          case atStart => exact ⟨1, Nat.le_refl _, .inr rfl, rfl, Ext.refl _⟩
          case round =>
            obtain ⟨i2, hi1, hi2, rfl, XL⟩ := hrel
            by_cases hlt2 : i2 < nR
            · have q5 : (i2 : Int) < (nR : Int) := by omega
              obtain ⟨j, hj⟩ : ∃ j, i2 = j + 1 := ⟨i2 - 1, by omega⟩
              obtain ⟨xs, hxs⟩ : ∃ y, R[i2]? = some y := ⟨_, List.getElem?_eq_getElem (by rw [hnR.out]; exact hlt2)⟩
              obtain ⟨ys, hys⟩ : ∃ y, R[j]? = some y := ⟨_, List.getElem?_eq_getElem (by rw [hnR.out]; omega)⟩
              have hless : lessE xs ys = false := by
                rw [hj] at hxs
                exact only_order hOK.out hys hxs
              have kL : Hid (∀ W, Calls Try.prog 38 #[.agg (encV xs).toArray, .agg (encV ys).toArray] W (RetB W false)) := fun W => hless ▸ pLess xs ys W
              have wj : (i2 : Int) - 1 = (j : Int) := by omega
              have wk : IntKind.i64.wrap (j : Int) = (j : Int) := by rw [IntKind.wrap_i64]; omega
              have q6 : (j : Int) < (nR : Int) := by omega
              obtain ⟨bs, os, rfl, hs⟩ := P6.out.far (by rintro rfl; have := hnR.out; simp at this; omega)
              replace hxs := Lib.hid hxs; replace hys := Lib.hid hys; replace hj := Lib.hid hj
              go_wp2_with fail
              refine wp_region_later u6_ XL.out (by kernel_rfl) (by kernel_rfl) ?_
              go_big_quiet_step (fail)
              go_big_quiet_step (fail)
              go_big_quiet_step (fail)
              refine quiet_mid (by rfl) 23 _ rfl bs (os + i2 * 11) rfl (encV xs) (fun W ⟨e, he⟩ => by subst he; exact hs _ e.2 i2 xs hxs.out) _ Try.underlying23 rfl sizeE _ (by simp [Act.put]; rfl) ?_
              go_big_quiet_step (fail)
              go_big_quiet_step (fail)
              go_big_quiet_step (fail)
              go_big_quiet_step (fail)
              refine quiet_mid (by rfl) 23 _ rfl bs (os + j * 11) rfl (encV ys) (fun W ⟨e, he⟩ => by subst he; exact hs _ e.2 j ys hys.out) _ Try.underlying23 rfl sizeE _ (by simp [Act.put]; rfl) ?_
              go_big_quiet_step (exact later_bool (kL.out _))
              refine wpQuiet_nil ?_
              rintro _ ⟨e17, rfl⟩
              have X17 := Lib.hid e17.2
              go_wp2_with fail
              exact ⟨⟨i2 + 1, by omega, by omega, by first | rfl | go_num | (congr 1; omega), X17⟩, by simp [intOf]; omega⟩
            · have q5 : ¬ ((i2 : Int) < (nR : Int)) := by omega
              have c0' := (BF6.out.ext XL.out).cell 0 _ rfl
              have C7 := Lib.hid (C6.out.ext XL.out); have BV7 := Lib.hid ((BF6.out.ext XL.out).tail)
              have XF := Lib.hid (X6.out.trans XL.out)
              clear c0
              go_wp2_with (first | (refine load_box (by rfl) 23 _ rfl gx rfl _ _ C7.out _ Try.underlying23 rfl sizeV ?_) | (refine load_midG (by rfl) 23 _ rfl (w.heap.size + 1) 1 (by rfl) (encV f.ev) _ BV7.out Try.underlying23 rfl sizeE ?_) | fail)
              go_ret
              exact ⟨rfl, XF.out⟩
        · have d2 : (f.kind == 2) = false := by rw [beq_eq_false_iff_ne]; exact k2
          have hml : Hid ((nR : Int) = (n : Int)) := by show _ = _; rw [hlen.out, if_neg k1, if_neg k2]
          have hme : ((nR : Int) == (n : Int)) = true := by rw [hml.out]; simp
          clear hlen hfound k1 k2
          go_wp2_with fail
          go_loopw [18] (fun vi wr => ∃ i : Nat, 1 ≤ i ∧ (i ≤ nR ∨ i = 1) ∧ vi = .int .i64 i ∧ Hid (Ext u6_ wr)) (fun vi _ => nR - (intOf vi).toNat)
          case atStart => exact ⟨1, Nat.le_refl _, .inr rfl, rfl, Ext.refl _⟩
          case round =>
            obtain ⟨i2, hi1, hi2, rfl, XL⟩ := hrel
            by_cases hlt2 : i2 < nR
            · have q5 : (i2 : Int) < (nR : Int) := by omega
              obtain ⟨j, hj⟩ : ∃ j, i2 = j + 1 := ⟨i2 - 1, by omega⟩
              obtain ⟨xs, hxs⟩ : ∃ y, R[i2]? = some y := ⟨_, List.getElem?_eq_getElem (by rw [hnR.out]; exact hlt2)⟩
              obtain ⟨ys, hys⟩ : ∃ y, R[j]? = some y := ⟨_, List.getElem?_eq_getElem (by rw [hnR.out]; omega)⟩
              have hless : lessE xs ys = false := by
                rw [hj] at hxs
                exact only_order hOK.out hys hxs
              have kL : Hid (∀ W, Calls Try.prog 38 #[.agg (encV xs).toArray, .agg (encV ys).toArray] W (RetB W false)) := fun W => hless ▸ pLess xs ys W
              have wj : (i2 : Int) - 1 = (j : Int) := by omega
              have wk : IntKind.i64.wrap (j : Int) = (j : Int) := by rw [IntKind.wrap_i64]; omega
              have q6 : (j : Int) < (nR : Int) := by omega
              obtain ⟨bs, os, rfl, hs⟩ := P6.out.far (by rintro rfl; have := hnR.out; simp at this; omega)
              replace hxs := Lib.hid hxs; replace hys := Lib.hid hys; replace hj := Lib.hid hj
              go_wp2_with fail
              refine wp_region_later u6_ XL.out (by kernel_rfl) (by kernel_rfl) ?_
              go_big_quiet_step (fail)
              go_big_quiet_step (fail)
              go_big_quiet_step (fail)
              refine quiet_mid (by rfl) 23 _ rfl bs (os + i2 * 11) rfl (encV xs) (fun W ⟨e, he⟩ => by subst he; exact hs _ e.2 i2 xs hxs.out) _ Try.underlying23 rfl sizeE _ (by simp [Act.put]; rfl) ?_
              go_big_quiet_step (fail)
              go_big_quiet_step (fail)
              go_big_quiet_step (fail)
              go_big_quiet_step (fail)
              refine quiet_mid (by rfl) 23 _ rfl bs (os + j * 11) rfl (encV ys) (fun W ⟨e, he⟩ => by subst he; exact hs _ e.2 j ys hys.out) _ Try.underlying23 rfl sizeE _ (by simp [Act.put]; rfl) ?_
              go_big_quiet_step (exact later_bool (kL.out _))
              refine wpQuiet_nil ?_
              rintro _ ⟨e17, rfl⟩
              have X17 := Lib.hid e17.2
              go_wp2_with fail
              exact ⟨⟨i2 + 1, by omega, by omega, by first | rfl | go_num | (congr 1; omega), X17⟩, by simp [intOf]; omega⟩
            · have q5 : ¬ ((i2 : Int) < (nR : Int)) := by omega
              have c0' := (BF6.out.ext XL.out).cell 0 _ rfl
              have C7 := Lib.hid (C6.out.ext XL.out); have BV7 := Lib.hid ((BF6.out.ext XL.out).tail)
              have XF := Lib.hid (X6.out.trans XL.out)
              clear c0
              go_wp2_with (first | (refine load_box (by rfl) 23 _ rfl gx rfl _ _ C7.out _ Try.underlying23 rfl sizeV ?_) | (refine load_midG (by rfl) 23 _ rfl (w.heap.size + 1) 1 (by rfl) (encV f.ev) _ BV7.out Try.underlying23 rfl sizeE ?_) | fail)
              go_ret
              exact ⟨rfl, XF.out⟩
end Go.Proofs.Ytmbjbbflhlndcaa
namespace Go.Proofs.Ytmbjbbflhlndcaa
open Go.RowKit BigFrame
set_option linter.unusedVariables false
theorem only13' (s : Su) (h : Sh) {w : World} {A : Option Addr} {l : List Ev} (hl : Re w A l) (cl : Nat) (hc : l.length ≤ cl ∧ cl ≤ maxLen) (f : Fx) :
    Calls Try.prog 17 #[.agg (s.cells h).toArray, .slice A l.length cl, .agg (encF f).toArray] w (RetB w true) := by
  obtain ⟨F, _, kF⟩ := fewB s h
  exact only13 (suE_of s h) kF hl cl l.length rfl hc.1 f
end Go.Proofs.Ytmbjbbflhlndcaa
namespace Go.Proofs.Ytmbjbbflhlndcaa
set_option linter.unusedVariables false
set_option linter.unusedSimpArgs false

/-- Unlike numbers. -/
def Ids (l : List Ev) : Prop := (l.map (·.id)).Nodup
theorem Ids.perm {L M : List Ev} (h : Ids L) (p : L.Perm M) : Ids M := (p.map _).nodup h
theorem sort_perm (L : List Ev) : (sortE L).Perm L := by
  rw [List.perm_iff_count]
  intro x
  have := sort_count L x
  simp only [List.count, List.countP_eq_length_filter]
  have e : ∀ M : List Ev, M.filter (fun y => y == x) = M.filter (fun y => decide (y = x)) := fun M => List.filter_congr fun y _ => by rw [Bool.eq_iff_iff]; simp
  rw [e, e]; exact this.symm
theorem ids_one {L : List Ev} (h : Ids L) (x : Ev) : (L.filter (Stb.eqv lessE x)).length ≤ 1 := by
  have hs : Ids (L.filter (Stb.eqv lessE x)) := List.Nodup.sublist (List.Sublist.map _ List.filter_sublist) h
  have hi : ∀ y ∈ L.filter (Stb.eqv lessE x), y.id = x.id := fun y hy => by
    have := (List.mem_filter.1 hy).2
    unfold Stb.eqv lessE at this
    simp at this
    omega
  match hL : L.filter (Stb.eqv lessE x) with
  | [] => exact Nat.zero_le _
  | [a] => exact Nat.le_refl _
  | a :: b :: t =>
    exfalso
    rw [hL] at hs hi
    have h1 := hi a (by simp)
    have h2 := hi b (by simp)
    unfold Ids at hs
    rw [List.map_cons, List.map_cons, List.nodup_cons] at hs
    exact hs.1 (by simp [h1, h2])
theorem sort_same {L M : List Ev} (h : Ids L) (p : L.Perm M) : sortE L = sortE M := by
  refine sortE_is (sortE_sorted L) fun x => ?_
  have hp : (M.filter (Stb.eqv lessE x)).Perm ((sortE L).filter (Stb.eqv lessE x)) := (p.symm.trans (sort_perm L).symm).filter _
  have h1 := ids_one (h.perm p) x
  match hM : M.filter (Stb.eqv lessE x), h1 with
  | [], _ => rw [hM] at hp; exact (List.nil_perm.1 hp).symm
  | [a], _ => rw [hM] at hp; exact List.singleton_perm.1 hp
  | _ :: _ :: _, h1 => simp at h1
/-- What a correction leaves, in no order. -/
def rest (l : List Ev) (id : Int) : List Ev := l.filter fun e => decide (e.id ≠ id)
def nfE (l : List Ev) (f : Fx) : List Ev := rest l f.ev.id ++ (if f.kind = 1 ∨ f.kind = 3 then [f.ev] else [])
theorem rest_all {l : List Ev} {id : Int} (h : ∀ e ∈ l, e.id ≠ id) : rest l id = l := by
  unfold rest
  rw [List.filter_eq_self]
  intro e he
  simpa using h e he
theorem ix_has {l : List Ev} {id : Int} : (ixE l id).isSome = true ↔ ∃ e ∈ l, e.id = id := by
  constructor
  · intro h
    obtain ⟨i, hi⟩ := Option.isSome_iff_exists.1 h
    obtain ⟨x, hx, hid, _⟩ := ix_some hi
    exact ⟨x, List.mem_of_getElem? hx, hid⟩
  · rintro ⟨e, he, hid⟩
    cases hx : ixE l id with
    | some i => rfl
    | none =>
      exfalso
      unfold ixE at hx
      rw [List.findIdx?_eq_none_iff] at hx
      have := hx _ he
      simp [hid] at this
theorem ix_no {l : List Ev} {id : Int} (h : ixE l id = none) : ∀ e ∈ l, e.id ≠ id := fun e he hid => by
  have := ix_has.2 ⟨e, he, hid⟩
  rw [h] at this; cases this
theorem del_rest {l : List Ev} {id : Int} (h : Ids l) {i : Nat} (hi : ixE l id = some i) : delE l i = rest l id := by
  obtain ⟨x, hx, hid, hb⟩ := ix_some hi
  obtain ⟨h2, rfl⟩ := List.getElem?_eq_some_iff.1 hx
  have e : l = l.take i ++ (l[i] :: l.drop (i + 1)) := by rw [← List.drop_eq_getElem_cons h2, List.take_append_drop]
  have hn : Ids (l.take i ++ (l[i] :: l.drop (i + 1))) := e ▸ h
  unfold Ids at hn
  rw [List.map_append, List.map_cons, List.nodup_append, List.nodup_cons] at hn
  obtain ⟨_, ⟨n1, _⟩, n2⟩ := hn
  have r1 : rest (l.take i) id = l.take i := rest_all fun y hy => by
    intro e2
    exact n2 y.id (List.mem_map_of_mem hy) l[i].id (by simp) (by rw [e2, hid])
  have r2 : rest (l.drop (i + 1)) id = l.drop (i + 1) := rest_all fun y hy => by
    intro e2
    refine n1 ?_
    rw [hid, ← e2]
    exact List.mem_map_of_mem hy
  have : rest l id = rest (l.take i ++ (l[i] :: l.drop (i + 1))) id := congrArg (fun z => rest z id) e
  rw [this]
  unfold rest at r1 r2 ⊢
  rw [List.filter_append, r1, List.filter_cons_of_neg (by simp [hid]), r2]
  rfl
/-- A correction that tells no error. -/
theorem apply_nf {chk : Bool} {l : List Ev} (h : Ids l) {f : Fx} (hok : (applyE chk l f).2 = 0) : (applyE chk l f).1 = sortE (nfE l f) := by
  have he : applyE chk l f = ((applyE chk l f).1, 0) := by rw [← hok]
  obtain ⟨M, hR, hc⟩ := applyE_cases he
  rw [hR]
  unfold nfE
  rcases hc with ⟨hk, hn, rfl⟩ | ⟨hk, i, hi, rfl⟩ | ⟨hk, i, hi, rfl⟩
  · rw [rest_all (ix_no hn), if_pos (by omega)]
  · rw [del_rest h hi, if_neg (by omega), List.append_nil]
  · rw [del_rest h hi, if_pos (by omega)]
theorem rest_mem {l : List Ev} {id : Int} {e : Ev} : e ∈ rest l id ↔ e ∈ l ∧ e.id ≠ id := by unfold rest; rw [List.mem_filter]; simp
theorem nf_ids {l : List Ev} (h : Ids l) (f : Fx) : Ids (nfE l f) := by
  unfold Ids nfE
  rw [List.map_append, List.nodup_append]
  refine ⟨List.Nodup.sublist (List.Sublist.map _ List.filter_sublist) h, by split <;> simp, fun a ha b hb => ?_⟩
  obtain ⟨y, hy, rfl⟩ := List.mem_map.1 ha
  split at hb
  · simp at hb
    subst hb
    exact (rest_mem.1 hy).2
  · cases hb
theorem nf_perm {L M : List Ev} (p : L.Perm M) (f : Fx) : (nfE L f).Perm (nfE M f) := (p.filter _).append_right _
theorem sort_ids {l : List Ev} (h : Ids l) : Ids (sortE l) := h.perm (sort_perm l).symm
/-- Two corrections, one after the other. -/
theorem nf_two {l : List Ev} (a b : Fx) (hab : a.ev.id ≠ b.ev.id) : (nfE (nfE l a) b).Perm (nfE (nfE l b) a) := by
  have key : ∀ (a b : Fx), a.ev.id ≠ b.ev.id → nfE (nfE l a) b = (rest (rest l a.ev.id) b.ev.id ++ (if a.kind = 1 ∨ a.kind = 3 then [a.ev] else [])) ++ (if b.kind = 1 ∨ b.kind = 3 then [b.ev] else []) := fun a b hab => by
    unfold nfE
    congr 1
    show rest (rest l a.ev.id ++ _) b.ev.id = _
    have : ∀ (x y : List Ev) (id : Int), rest (x ++ y) id = rest x id ++ rest y id := fun x y id => by unfold rest; exact List.filter_append ..
    rw [this]
    congr 1
    refine rest_all fun e he => ?_
    split at he
    · simp at he; subst he; exact hab
    · cases he
  rw [key a b hab, key b a (Ne.symm hab)]
  have hc : rest (rest l a.ev.id) b.ev.id = rest (rest l b.ev.id) a.ev.id := by
    unfold rest
    rw [List.filter_filter, List.filter_filter]
    exact List.filter_congr fun x _ => Bool.and_comm ..
  rw [hc, List.append_assoc, List.append_assoc]
  exact List.Perm.append_left _ List.perm_append_comm
/-- Does a correction tell no error? -/
def okE (chk : Bool) (l : List Ev) (f : Fx) : Bool := if f.kind = 1 then chk && !(ixE l f.ev.id).isSome else if f.kind = 2 then (ixE l f.ev.id).isSome else if f.kind = 3 then chk && (ixE l f.ev.id).isSome else false
theorem ok_is (chk : Bool) (l : List Ev) (f : Fx) : ((applyE chk l f).2 = 0) ↔ okE chk l f = true := by
  unfold applyE okE
  by_cases h1 : f.kind = 1
  · rw [if_pos h1, if_pos h1]
    cases chk <;> cases ixE l f.ev.id <;> simp
  · rw [if_neg h1, if_neg h1]
    by_cases h2 : f.kind = 2
    · rw [if_pos h2, if_pos h2]
      cases ixE l f.ev.id <;> simp
    · rw [if_neg h2, if_neg h2]
      by_cases h3 : f.kind = 3
      · rw [if_pos h3, if_pos h3]
        cases chk <;> cases ixE l f.ev.id <;> simp
      · rw [if_neg h3, if_neg h3]; simp
theorem ix_same {L M : List Ev} {id : Int} (h : ∀ e, e.id = id → (e ∈ L ↔ e ∈ M)) : (ixE L id).isSome = (ixE M id).isSome := by
  rw [Bool.eq_iff_iff, ix_has, ix_has]
  constructor
  · rintro ⟨e, he, hid⟩; exact ⟨e, (h e hid).1 he, hid⟩
  · rintro ⟨e, he, hid⟩; exact ⟨e, (h e hid).2 he, hid⟩
theorem nf_other {l : List Ev} {f : Fx} {e : Ev} (h : e.id ≠ f.ev.id) : e ∈ sortE (nfE l f) ↔ e ∈ l := by
  rw [sortE_mem]
  unfold nfE
  rw [List.mem_append, rest_mem]
  constructor
  · rintro (h1 | h1)
    · exact h1.1
    · split at h1
      · simp at h1; subst h1; exact absurd rfl h
      · cases h1
  · exact fun h1 => .inl ⟨h1, h⟩
/-- Two corrections of unlike events do not hang on which is first. -/
theorem turn_law {ca cb : Bool} {l : List Ev} (h : Ids l) {a b : Fx} (hab : a.ev.id ≠ b.ev.id) (ha : (applyE ca l a).2 = 0) (hb : (applyE cb l b).2 = 0) :
    (applyE cb (applyE ca l a).1 b).2 = 0 ∧ (applyE ca (applyE cb l b).1 a).2 = 0 ∧ (applyE cb (applyE ca l a).1 b).1 = (applyE ca (applyE cb l b).1 a).1 := by
  have hx := apply_nf h ha
  have hy := apply_nf h hb
  rw [hx, hy]
  have g1 : (applyE cb (sortE (nfE l a)) b).2 = 0 := by
    rw [ok_is] at hb ⊢
    rw [← hb]
    unfold okE
    rw [ix_same (L := sortE (nfE l a)) (M := l) (id := b.ev.id) fun e he => nf_other (by rw [he]; exact Ne.symm hab)]
  have g2 : (applyE ca (sortE (nfE l b)) a).2 = 0 := by
    rw [ok_is] at ha ⊢
    rw [← ha]
    unfold okE
    rw [ix_same (L := sortE (nfE l b)) (M := l) (id := a.ev.id) fun e he => nf_other (by rw [he]; exact hab)]
  refine ⟨g1, g2, ?_⟩
  have ia := nf_ids h a
  have ib := nf_ids h b
  rw [apply_nf (sort_ids ia) g1, apply_nf (sort_ids ib) g2]
  refine sort_same (nf_ids (sort_ids ia) b) ?_
  exact (nf_perm (sort_perm _) b).trans ((nf_two a b hab).trans (nf_perm (sort_perm _) a).symm)
end Go.Proofs.Ytmbjbbflhlndcaa
namespace Go.Proofs.Ytmbjbbflhlndcaa
set_option linter.unusedVariables false
set_option linter.unusedSimpArgs false

def addE (acc : List Ev) (e : Ev) : List Ev := if (ixE acc e.id).isSome then acc else acc ++ [e]
/-- The first event of each number. -/
def dedE (l : List Ev) : List Ev := l.foldl addE []
theorem add_ids {acc : List Ev} (h : Ids acc) (e : Ev) : Ids (addE acc e) := by
  unfold addE
  split
  · exact h
  · next hn =>
    unfold Ids
    rw [List.map_append, List.nodup_append]
    refine ⟨h, by simp, fun a ha b hb => ?_⟩
    obtain ⟨y, hy, rfl⟩ := List.mem_map.1 ha
    simp at hb
    subst hb
    intro he
    exact hn (ix_has.2 ⟨y, hy, he⟩)
theorem ded_ids (l : List Ev) : Ids (dedE l) := by
  have : ∀ (l acc : List Ev), Ids acc → Ids (l.foldl addE acc) := by
    intro l
    induction l with
    | nil => intro acc h; exact h
    | cons e l ih => intro acc h; exact ih _ (add_ids h e)
  exact this l [] (by unfold Ids; simp)
theorem add_len (acc : List Ev) (e : Ev) : (addE acc e).length ≤ acc.length + 1 := by
  unfold addE
  split
  · omega
  · rw [List.length_append]; exact Nat.le_refl _
theorem fd_mem {l : List Ev} {id : Int} (h : (ixE l id).isSome = true) : fdE l id ∈ l ∧ (fdE l id).id = id := by
  obtain ⟨i, hi⟩ := Option.isSome_iff_exists.1 h
  obtain ⟨x, hx, hid, _⟩ := ix_some hi
  unfold fdE
  rw [hi]
  simp only [hx, Option.getD_some]
  exact ⟨List.mem_of_getElem? hx, hid⟩
/-- A list of unlike numbers is what is left and the one. -/
theorem rest_perm {l : List Ev} (h : Ids l) {id : Int} (hs : (ixE l id).isSome = true) : (rest l id ++ [fdE l id]).Perm l := by
  obtain ⟨i, hi⟩ := Option.isSome_iff_exists.1 hs
  rw [← del_rest h hi]
  obtain ⟨x, hx, hid, _⟩ := ix_some hi
  have hf : fdE l id = x := by unfold fdE; rw [hi]; simp only [hx, Option.getD_some]
  rw [hf]
  obtain ⟨h2, rfl⟩ := List.getElem?_eq_some_iff.1 hx
  have e : l = l.take i ++ (l[i] :: l.drop (i + 1)) := by rw [← List.drop_eq_getElem_cons h2, List.take_append_drop]
  have p : (delE l i ++ [l[i]]).Perm (l.take i ++ (l[i] :: l.drop (i + 1))) := by
    unfold delE
    rw [List.append_assoc]
    exact List.Perm.append_left _ (List.perm_append_singleton _ _)
  exact p.trans (List.Perm.of_eq e.symm)
theorem rest_app (x y : List Ev) (id : Int) : rest (x ++ y) id = rest x id ++ rest y id := by unfold rest; exact List.filter_append ..
theorem rest_rest (l : List Ev) (id : Int) : rest (rest l id) id = rest l id := by unfold rest; rw [List.filter_filter]; exact List.filter_congr fun x _ => Bool.and_self _
theorem rest_one {e : Ev} {id : Int} (h : e.id = id) : rest [e] id = [] := by unfold rest; simp [h]
theorem n31 : ¬ ((3 : Int) = 1) := by decide
theorem n32 : ¬ ((3 : Int) = 2) := by decide
theorem n21 : ¬ ((2 : Int) = 1) := by decide
theorem p33 : ((3 : Int) = 1 ∨ (3 : Int) = 3) := by decide
theorem p13 : ((1 : Int) = 1 ∨ (1 : Int) = 3) := by decide
theorem n23 : ¬ ((2 : Int) = 1 ∨ (2 : Int) = 3) := by decide
/-- One that was there: changed, and changed back. -/
theorem back_has {ce co : Bool} {l : List Ev} (h : Ids l) {e : Ev} (hs : (ixE l e.id).isSome = true) :
    ((applyE ce l ⟨3, e⟩).2 ≠ 0 → ce = false) ∧ ((applyE ce l ⟨3, e⟩).2 = 0 → (co = true → (applyE co (applyE ce l ⟨3, e⟩).1 ⟨3, fdE l e.id⟩).2 = 0 ∧ (applyE co (applyE ce l ⟨3, e⟩).1 ⟨3, fdE l e.id⟩).1 = sortE l) ∧ (co = false → (applyE co (applyE ce l ⟨3, e⟩).1 ⟨3, fdE l e.id⟩).2 = 80)) := by
  constructor
  · intro hb
    cases ce with
    | false => rfl
    | true =>
      exfalso
      apply hb
      rw [ok_is]
      unfold okE
      rw [if_neg n31, if_neg n32, if_pos rfl]
      simpa using hs
  · intro hok
    have ha := apply_nf h hok
    rw [ha]
    obtain ⟨hm, hid⟩ := fd_mem hs
    refine ⟨fun hco => ?_, fun hco => ?_⟩
    · have hx : (ixE (sortE (nfE l ⟨3, e⟩)) (fdE l e.id).id).isSome = true := ix_has.2 ⟨e, sortE_mem.2 (by unfold nfE; simp), by rw [hid]⟩
      have g : (applyE co (sortE (nfE l ⟨3, e⟩)) ⟨3, fdE l e.id⟩).2 = 0 := by
        rw [ok_is]
        unfold okE
        rw [if_neg n31, if_neg n32, if_pos rfl, hco]
        simpa using hx
      refine ⟨g, ?_⟩
      have i1 := nf_ids h ⟨3, e⟩
      rw [apply_nf (sort_ids i1) g]
      refine sort_same (nf_ids (sort_ids i1) _) ((nf_perm (sort_perm _) _).trans ?_)
      have : nfE (nfE l ⟨3, e⟩) ⟨3, fdE l e.id⟩ = rest l e.id ++ [fdE l e.id] := by
        unfold nfE
        show rest (rest l e.id ++ (if (3 : Int) = 1 ∨ (3 : Int) = 3 then [e] else [])) (fdE l e.id).id ++ (if (3 : Int) = 1 ∨ (3 : Int) = 3 then [fdE l e.id] else []) = _
        rw [hid, if_pos p33, if_pos p33, rest_app, rest_rest, rest_one rfl, List.append_nil]
      rw [this]
      exact rest_perm h hs
    · subst hco
      unfold applyE
      rw [if_neg n31, if_neg n32, if_pos rfl, if_neg (by simp)]
/-- A new one: put in, and taken out. -/
theorem back_new {ce co : Bool} {l : List Ev} (h : Ids l) {e e' : Ev} (he : e'.id = e.id) (hs : (ixE l e.id).isSome = false) :
    ((applyE ce l ⟨1, e⟩).2 ≠ 0 → ce = false) ∧ ((applyE ce l ⟨1, e⟩).2 = 0 → (applyE co (applyE ce l ⟨1, e⟩).1 ⟨2, e'⟩).2 = 0 ∧ (applyE co (applyE ce l ⟨1, e⟩).1 ⟨2, e'⟩).1 = sortE l) := by
  constructor
  · intro hb
    cases ce with
    | false => rfl
    | true =>
      exfalso
      apply hb
      rw [ok_is]
      unfold okE
      rw [if_pos rfl]
      simp only [hs]; rfl
  · intro hok
    rw [apply_nf h hok]
    have g : (applyE co (sortE (nfE l ⟨1, e⟩)) ⟨2, e'⟩).2 = 0 := by
      rw [ok_is]
      unfold okE
      rw [if_neg n21, if_pos rfl]
      exact ix_has.2 ⟨e, sortE_mem.2 (by unfold nfE; simp), he.symm⟩
    refine ⟨g, ?_⟩
    have i1 := nf_ids h ⟨1, e⟩
    rw [apply_nf (sort_ids i1) g]
    refine sort_same (nf_ids (sort_ids i1) _) ((nf_perm (sort_perm _) _).trans ?_)
    have hr : rest l e.id = l := rest_all (ix_no (by cases hx : ixE l e.id with | none => rfl | some i => rw [hx] at hs; cases hs))
    have : nfE (nfE l ⟨1, e⟩) ⟨2, e'⟩ = l := by
      unfold nfE
      show rest (rest l e.id ++ (if (1 : Int) = 1 ∨ (1 : Int) = 3 then [e] else [])) e'.id ++ (if (2 : Int) = 1 ∨ (2 : Int) = 3 then [e'] else []) = _
      rw [he, if_pos p13, if_neg n23, hr, rest_app, hr, rest_one rfl, List.append_nil, List.append_nil]
    rw [this]
end Go.Proofs.Ytmbjbbflhlndcaa
namespace Go.Proofs.Ytmbjbbflhlndcaa
open Go.RowKit BigFrame
set_option linter.unusedVariables false
set_option linter.unusedSimpArgs false

set_option maxRecDepth 100000 in
set_option maxHeartbeats 8000000 in
theorem turn13 {cs : List Value} {pl : Int} {ne nc ng nr : Nat} (hsE : SuE cs pl ne nc ng nr) {F : Bool} (kF : ∀ W, Calls Try.prog 61 #[.agg cs.toArray] W (RetB W F)) {w : World} {Al : Option Addr} {l : List Ev} (hl : Re w Al l) (cl n : Nat) (hn : l.length = n) (f g : Fx) :
    Calls Try.prog 16 #[.agg cs.toArray, .slice Al n cl, .agg (encF f).toArray, .agg (encF g).toArray] w (RetB w true) := by
  obtain ⟨W0, hW0⟩ : ∃ W0, ((w.alloc (.cells cs.toArray 55)).alloc (.cells (encF f).toArray 25)).alloc (.cells (encF g).toArray 25) = W0 := ⟨_, rfl⟩
  have BS0 : Hid (Bx W0 w.heap.size cs 55) := by rw [← hW0]; exact ((Bx.new w cs 55).alloc _).alloc _
  have BF0 : Hid (Bx W0 (w.heap.size + 1) (encF f) 25) := by
    rw [← hW0]
    have := (Bx.new (w.alloc (.cells cs.toArray 55)) (encF f) 25).alloc (.cells (encF g).toArray 25)
    rwa [show (w.alloc (.cells cs.toArray 55)).heap.size = w.heap.size + 1 from by simp] at this
  have BG0 : Hid (Bx W0 (w.heap.size + 2) (encF g) 25) := by
    rw [← hW0]
    have := Bx.new ((w.alloc (.cells cs.toArray 55)).alloc (.cells (encF f).toArray 25)) (encF g) 25
    rwa [show ((w.alloc (.cells cs.toArray 55)).alloc (.cells (encF f).toArray 25)).heap.size = w.heap.size + 2 from by simp] at this
  have X0 : Hid (Ext w W0) := by rw [← hW0]; exact (((Ext.refl w).alloc _).alloc _).alloc _
  have L0 := Lib.hid (hl.ext X0.out)
  have hsz : (Try.prog.info? 55).map (·.size) = some cs.toArray.size := by rw [sizeS]; simp [hsE.len]
  replace hsz := Lib.hid hsz; replace kF := Lib.hid kF; replace hsE := Lib.hid hsE; replace hW0 := Lib.hid hW0; replace hn := Lib.hid hn
  clear hl
  go_enter Try.func16, Try.ntmps16
  go_wp2_with fail
  rw [hW0.out]
  refine (awake13 _).mono ?_
  rintro e1 w1 ⟨rfl, y⟩
  have BS1 := Lib.hid (BS0.out.ext y); have BF1 := Lib.hid (BF0.out.ext y); have BG1 := Lib.hid (BG0.out.ext y); have X1 := Lib.hid (X0.out.trans y); have L1 := Lib.hid (L0.out.ext y)
  clear y BS0 BF0 BG0 X0 L0 hW0
  go_wp2_with (first | (refine load_box (by rfl) 55 _ rfl w.heap.size rfl _ _ BS1.out _ Try.underlying55 rfl hsz.out ?_) | fail)
  refine (pFew13 hsE.out.len kF.out Al n cl _).mono ?_
  rintro e2 w2 ⟨rfl, y⟩
  have BS3 := Lib.hid (BS1.out.ext y); have BF3 := Lib.hid (BF1.out.ext y); have BG3 := Lib.hid (BG1.out.ext y); have X3 := Lib.hid (X1.out.trans y); have L3 := Lib.hid (L1.out.ext y)
  clear y BS1 BF1 BG1 X1 L1
  obtain ⟨G, hG⟩ : ∃ G, (F && decide (n ≤ 100)) = G := ⟨_, rfl⟩
  rw [hG]
  cases G with
  | false =>
    clear hG
    go_wp2_with fail
    go_ret
    exact ⟨rfl, X3.out⟩
  | true =>
  have hn1 : n ≤ 100 := by cases F <;> simp at hG; exact hG
  clear hG kF
  have cf := BF3.out.cell 1 _ rfl; have cg := BG3.out.cell 1 _ rfl
  by_cases hid : f.ev.id = g.ev.id
  · have hb : (f.ev.id == g.ev.id) = true := by rw [beq_iff_eq]; exact hid
    clear hid
    go_wp2_with fail
    go_ret
    exact ⟨rfl, X3.out⟩
  have hb : (f.ev.id == g.ev.id) = false := by rw [beq_eq_false_iff_ne]; exact hid
  replace hid := Lib.hid hid
  obtain ⟨u0, hu0⟩ : ∃ u, w2 = u := ⟨_, rfl⟩
  rw [hu0] at BS3 BF3 BG3 X3 L3 cf cg ⊢
  clear hu0
  go_wp2_with fail
  clear cf cg hb
  go_loopw [10, 11] (fun vo vi wr => ∃ (i m c' : Nat) (A' : Option Addr) (D : List Ev), i ≤ n ∧ m ≤ i ∧ vi = .int .i64 i ∧ vo = .slice A' m c' ∧ Hid (D = (l.take i).foldl addE []) ∧ Hid (D.length = m) ∧ Hid (wr.ownsRow u0.heap.size 23 11 (.slice A' m c') m (flat encV D)) ∧ Hid (Ext u0 wr)) (fun _ vi _ => n - (intOf vi).toNat)
  case atStart => exact ⟨0, 0, 0, none, [], Nat.zero_le _, Nat.le_refl _, rfl, rfl, rfl, rfl, own_nilG _ _, Ext.refl _⟩
  case round =>
    obtain ⟨i, m, c', A', D, hin, hmi, rfl, rfl, HD, HDl, HO, X⟩ := hrel
    obtain ⟨wq, hwq⟩ : ∃ W, wr = W := ⟨_, rfl⟩
    rw [hwq] at X HO ⊢
    clear hwq
    have RD : Hid (Re wq A' D) := Rw.own elV (by rw [HDl.out]; exact HO.out)
    by_cases hlt : i < n
    · have q1 : (i : Int) < (n : Int) := by omega
      obtain ⟨x, hx⟩ : ∃ x, l[i]? = some x := ⟨_, List.getElem?_eq_getElem (by rw [hn.out]; exact hlt)⟩
      obtain ⟨b, off, rfl, hr⟩ := L3.out.far (by rintro rfl; have := hn.out; simp at this; omega)
      have cc : wq.cell? ⟨b, off + i * 11, none⟩ = some (.int .i64 x.id) := hr _ X.out i x hx 0 _ rfl
      have hxm : Hid (∀ W, Ext u0 W → W.rangeAt b (off + i * 11) (encV x)) := fun W hW => hr W hW i x hx
      have HD2 : Hid (addE D x = (l.take (i + 1)).foldl addE []) := by show _ = _; rw [take_snoc hx, List.foldl_append, ← HD.out]; rfl
      obtain ⟨z, hz⟩ : ∃ z, fdE D x.id = z := ⟨_, rfl⟩
      have kf := pFind RD.out x.id c' m HDl.out (by omega)
      rw [hz] at kf
      replace kf := Lib.hid kf
      clear hx hr hz
      go_wp2_with fail
      refine kf.out.mono ?_
      rintro e5 w5 ⟨y, rfl⟩
      have X5 := Lib.hid (X.out.trans y); have HO5 := Lib.hid (own_below HO.out y)
      clear y kf cc X HO RD
      go_upto_region 9 with (first | (refine store_newE rfl 23 _ _ (by rfl) w5 w5.heap.size rfl _ (encV z).toArray 23 rfl (by rfl) (by rfl) sizeV rfl (cells_ok z) ?_) | fail)
      obtain ⟨u6_, hu6⟩ : ∃ W, w5.alloc (.cells (encV z).toArray 23) = W := ⟨_, rfl⟩
      have y : Ext w5 u6_ := by rw [← hu6]; exact (Ext.refl w5).alloc _
      obtain ⟨gx, hgx⟩ : ∃ g, w5.heap.size = g := ⟨_, rfl⟩
      have X6 := Lib.hid (X5.out.trans y); have HO6 := Lib.hid (own_below HO5.out y)
      rw [hu6, hgx]
      clear y hu6 hgx X5 HO5
      cases hs : (ixE D x.id).isSome with
      | true =>
        have ha : addE D x = D := by unfold addE; rw [hs]; rfl
        rw [ha] at HD2
        clear hs ha HD
        go_wp2_with fail
        exact ⟨⟨i + 1, m, c', A', D, by omega, by omega, by first | rfl | go_num | (congr 1; omega), rfl, HD2, HDl, HO6, X6⟩, by simp [intOf]; omega⟩
      | false =>
        have ha : addE D x = D ++ [x] := by unfold addE; rw [hs]; rfl
        rw [ha] at HD2
        obtain ⟨w7, hw7⟩ : ∃ W, u6_.alloc (.cells (encV x).toArray 23) = W := ⟨_, rfl⟩
        have y : Ext u6_ w7 := by rw [← hw7]; exact (Ext.refl u6_).alloc _
        have X7 := Lib.hid (X6.out.trans y); have HO7 := Lib.hid (own_below HO6.out y)
        have N7 : Hid (Re w7 (some ⟨u6_.heap.size, 0, none⟩) [x]) := by rw [← hw7]; exact Rw.new_at elV u6_ [x] 23 _ rfl
        have hxm6 := Lib.hid (hxm.out u6_ X6.out)
        have hDl2 : Hid ((D ++ [x]).length = m + 1) := by show _ = _; rw [List.length_append, HDl.out]; rfl
        replace hw7 := Lib.hid hw7
        clear hs ha y HD hxm
        go_wp2_with (first | (refine load_midG (by rfl) 23 _ rfl b (off + i * 11) (by rfl) (encV x) _ hxm6.out Try.underlying23 rfl sizeE ?_) | (refine wpl_buildE (by rfl) _ rfl x (by rfl) ?_; rw [hw7.out]) | (at_builtin; refine appG elV u0 _ X7.out _ _ (by rfl) (by rfl) m _ D [x] (by rfl) HO7.out HDl.out.symm (some ⟨u6_.heap.size, 0, none⟩) 1 1 (by rfl) rfl N7.out (by rw [HDl.out]; simp; omega) ?_; intro A8 c8 w8 o8 x8) | fail)
        exact ⟨⟨i + 1, m + 1, c8, A8, D ++ [x], by omega, by omega, by first | rfl | go_num | (congr 1; omega), rfl, HD2, hDl2, Lib.hid o8, Lib.hid x8⟩, by simp [intOf]; omega⟩
    · have q1 : ¬ ((i : Int) < (n : Int)) := by omega
      have HDE : Hid (D = dedE l) := by
        have e : i = n := by omega
        show _ = _
        rw [HD.out, e, List.take_of_length_le (by rw [hn.out]; exact Nat.le_refl _)]; rfl
      have hm100 : m ≤ 100 := by omega
      have hcap : Hid (m ≤ c') := by
        show _ ≤ _
        rcases HO.out.2 with ⟨hv, hh⟩ | ⟨g', cap', cur, hv, _, _, h1, h2, _⟩
        · cases hv; exact Nat.le_refl _
        · cases hv; exact h1
      clear HD HO
      have BS4 := Lib.hid (BS3.out.ext X.out); have BF4 := Lib.hid (BF3.out.ext X.out); have BG4 := Lib.hid (BG3.out.ext X.out); have X4 := Lib.hid (X3.out.trans X.out)
      have hI : Hid (Ids D) := by show Ids D; rw [HDE.out]; exact ded_ids l
      clear HDE BS3 BF3 BG3 X3 X L3 hn
      obtain ⟨ca, hca⟩ : ∃ b, checkE pl ne nc ng nr f.ev = b := ⟨_, rfl⟩
      obtain ⟨cb, hcb⟩ : ∃ b, checkE pl ne nc ng nr g.ev = b := ⟨_, rfl⟩
      have k1 := Lib.hid (fun W (hW : Re W A' D) => pApply hsE.out hW c' m HDl.out (by omega) f)
      have k2 := Lib.hid (fun W (hW : Re W A' D) => pApply hsE.out hW c' m HDl.out (by omega) g)
      rw [hca] at k1; rw [hcb] at k2
      have hLa := applyE_len ca D f; have hLb := applyE_len cb D g
      rw [HDl.out] at hLa hLb
      obtain ⟨Ra, hRa⟩ : ∃ R, (applyE ca D f).1 = R := ⟨_, rfl⟩
      obtain ⟨Rb, hRb⟩ : ∃ R, (applyE cb D g).1 = R := ⟨_, rfl⟩
      obtain ⟨ea, hea⟩ : ∃ r, (applyE ca D f).2 = r := ⟨_, rfl⟩
      obtain ⟨eb, heb⟩ : ∃ r, (applyE cb D g).2 = r := ⟨_, rfl⟩
      rw [hRa, hea] at k1
      rw [hRb, heb] at k2
      rw [hRa] at hLa
      rw [hRb] at hLb
      obtain ⟨na, hna⟩ : ∃ k, Ra.length = k := ⟨_, rfl⟩
      obtain ⟨nb, hnb⟩ : ∃ k, Rb.length = k := ⟨_, rfl⟩
      rw [hna] at hLa
      rw [hnb] at hLb
      have hPa : Hid (ea ≠ 0 → na = 0) := fun h => by rw [← hna, ← hRa, applyE_bad (by rw [hea]; exact h)]; rfl
      have hPb : Hid (eb ≠ 0 → nb = 0) := fun h => by rw [← hnb, ← hRb, applyE_bad (by rw [heb]; exact h)]; rfl
      have hT : Hid (ea = 0 → eb = 0 → (applyE cb Ra g).2 = 0 ∧ (applyE ca Rb f).2 = 0 ∧ (applyE cb Ra g).1 = (applyE ca Rb f).1) := fun h1 h2 => by
        have := turn_law (ca := ca) (cb := cb) hI.out hid.out (by rw [hea]; exact h1) (by rw [heb]; exact h2)
        rw [hRa, hRb] at this
        exact this
      replace hna := Lib.hid hna; replace hnb := Lib.hid hnb; replace hca := Lib.hid hca; replace hcb := Lib.hid hcb
      clear hRa hRb hea heb hI hid
      go_wp2_with (first | (refine load_box (by rfl) 55 _ rfl w.heap.size rfl _ _ BS4.out _ Try.underlying55 rfl hsz.out ?_) | (refine load_box (by rfl) 25 _ rfl (w.heap.size + 1) rfl _ _ BF4.out _ Try.underlying25 rfl sizeF ?_) | (refine load_box (by rfl) 25 _ rfl (w.heap.size + 2) rfl _ _ BG4.out _ Try.underlying25 rfl sizeF ?_) | fail)
      refine (k1.out _ RD.out).mono ?_
      rintro e5 w5 ⟨A5, c5, rfl, r5, y⟩
      rw [hna.out]
      have BS5 := Lib.hid (BS4.out.ext y); have BF5 := Lib.hid (BF4.out.ext y); have BG5 := Lib.hid (BG4.out.ext y); have X5 := Lib.hid (X4.out.trans y); have RD5 := Lib.hid (RD.out.ext y); have P5 := Lib.hid r5
      clear y r5 k1 BS4 BF4 BG4 X4 RD
      go_wp2_with (first | (refine load_box (by rfl) 55 _ rfl w.heap.size rfl _ _ BS5.out _ Try.underlying55 rfl hsz.out ?_) | (refine load_box (by rfl) 25 _ rfl (w.heap.size + 1) rfl _ _ BF5.out _ Try.underlying25 rfl sizeF ?_) | (refine load_box (by rfl) 25 _ rfl (w.heap.size + 2) rfl _ _ BG5.out _ Try.underlying25 rfl sizeF ?_) | fail)
      refine (k2.out _ RD5.out).mono ?_
      rintro e6 w6 ⟨A6, c6, rfl, r6, y⟩
      rw [hnb.out]
      have BS6 := Lib.hid (BS5.out.ext y); have BF6 := Lib.hid (BF5.out.ext y); have BG6 := Lib.hid (BG5.out.ext y); have X6 := Lib.hid (X5.out.trans y); have P6 := Lib.hid (P5.out.ext y); have Q6 := Lib.hid r6
      clear y r6 k2 BS5 BF5 BG5 X5 RD5 P5
      by_cases h1 : ea = 0
      case neg =>
        have hna0 := hPa.out h1
        subst hna0
        have q2 : (ea != 0) = true := by rw [bne_iff_ne]; exact h1
        clear h1 hT hPa hPb
        go_wp2_with fail
        go_ret
        exact ⟨rfl, X6.out⟩
      by_cases h2 : eb = 0
      case neg =>
        have hnb0 := hPb.out h2
        subst hnb0
        subst h1
        have q2 : (eb != 0) = true := by rw [bne_iff_ne]; exact h2
        clear h2 hT hPa hPb
        go_wp2_with fail
        go_ret
        exact ⟨rfl, X6.out⟩
      subst h1 h2
      obtain ⟨t1, t2, t3⟩ := hT.out rfl rfl
      clear hT hPa hPb
      have k3 := pApply hsE.out P6.out c5 na hna.out (by omega) g
      rw [hcb.out, t1] at k3
      have hL3 := applyE_len cb Ra g
      rw [hna.out] at hL3
      obtain ⟨R3, hR3⟩ : ∃ R, (applyE cb Ra g).1 = R := ⟨_, rfl⟩
      rw [hR3] at k3 t3 hL3
      have hR3l : R3.length ≤ 4000000000 := by omega
      replace k3 := Lib.hid k3; replace t1 := Lib.hid t1; replace t2 := Lib.hid t2; replace t3 := Lib.hid t3; replace hR3l := Lib.hid hR3l
      clear hR3 hL3
      go_wp2_with (first | (refine load_box (by rfl) 55 _ rfl w.heap.size rfl _ _ BS6.out _ Try.underlying55 rfl hsz.out ?_) | (refine load_box (by rfl) 25 _ rfl (w.heap.size + 1) rfl _ _ BF6.out _ Try.underlying25 rfl sizeF ?_) | (refine load_box (by rfl) 25 _ rfl (w.heap.size + 2) rfl _ _ BG6.out _ Try.underlying25 rfl sizeF ?_) | fail)
      refine k3.out.mono ?_
      rintro e7 w7 ⟨A7, c7, rfl, r7, y⟩
      have BS7 := Lib.hid (BS6.out.ext y); have BF7 := Lib.hid (BF6.out.ext y); have X7 := Lib.hid (X6.out.trans y); have Q7 := Lib.hid (Q6.out.ext y); have P7 := Lib.hid r7
      clear y r7 k3 BS6 BF6 BG6 X6 P6 Q6
      have k4 := pApply hsE.out Q7.out c6 nb hnb.out (by omega) f
      rw [hca.out, t2.out, ← t3.out] at k4
      replace k4 := Lib.hid k4
      go_wp2_with (first | (refine load_box (by rfl) 55 _ rfl w.heap.size rfl _ _ BS7.out _ Try.underlying55 rfl hsz.out ?_) | (refine load_box (by rfl) 25 _ rfl (w.heap.size + 1) rfl _ _ BF7.out _ Try.underlying25 rfl sizeF ?_) | fail)
      refine k4.out.mono ?_
      rintro e8 w8 ⟨A8, c8, rfl, r8, y⟩
      have X8 := Lib.hid (X7.out.trans y)
      have kE := rSameE (P7.out.ext y) r8 hR3l.out c7 c8 hR3l.out
      rw [decide_eq_true rfl] at kE
      replace kE := Lib.hid kE
      clear y r8 k4 BS7 BF7 X7 P7 Q7
      go_wp2_with fail
      refine kE.out.mono ?_
      rintro e9 w9 ⟨rfl, y⟩
      have X9 := Lib.hid (X8.out.trans y)
      clear y kE X8
      go_wp2_with fail
      go_ret
      exact ⟨rfl, X9.out⟩
theorem turn13' (s : Su) (h : Sh) {w : World} {A : Option Addr} {l : List Ev} (hl : Re w A l) (cl : Nat) (f g : Fx) :
    Calls Try.prog 16 #[.agg (s.cells h).toArray, .slice A l.length cl, .agg (encF f).toArray, .agg (encF g).toArray] w (RetB w true) := by
  obtain ⟨F, _, kF⟩ := fewB s h
  exact turn13 (suE_of s h) kF hl cl l.length rfl f g
end Go.Proofs.Ytmbjbbflhlndcaa
namespace Go.Proofs.Ytmbjbbflhlndcaa
open Go.RowKit BigFrame
set_option linter.unusedVariables false
set_option linter.unusedSimpArgs false

theorem buildFx (k : Int) (e : Ev) : Try.prog.built 25 [(0, .int .i64 k), (1, .agg (encV e).toArray)] = some (encF ⟨k, e⟩).toArray := by kernel_rfl
def evId (id : Int) : Ev := { ev0 with id := id }
theorem buildEv (id : Int) : Try.prog.built 23 [(0, .int .i64 id)] = some (encV (evId id)).toArray := by kernel_rfl
theorem build_fx {ops : Array Oper} {rest : List Oper} {o : Oper} {a : Act} {w : World} {Q : Exit → Act → World → Prop} (hgd : Region.wanted o (yielded ops a.tmps) = true) (k : Int) (x : Operand) (ho : o.op = .build 25 #[(0, .const (.int .i64 k)), (1, x)]) (e : Ev) (hx : a.eval x = .agg (encV e).toArray)
    (h : wpList Try.prog ops Q rest (a.put o.dst (.agg (encF ⟨k, e⟩).toArray)) w) : wpList Try.prog ops Q (o :: rest) a w := by
  refine build_at hgd 25 _ ho (encF ⟨k, e⟩).toArray ?_ h
  have e1 : ((#[(0, .const (.int .i64 k)), (1, x)] : Array (Nat × Operand)).map fun (i, x) => (i, a.eval x)).toList = [(0, .int .i64 k), (1, .agg (encV e).toArray)] := by simp only [List.map_toArray, List.map_cons, List.map_nil, hx]; rfl
  rw [e1]; exact buildFx k e
theorem build_ev {ops : Array Oper} {rest : List Oper} {o : Oper} {a : Act} {w : World} {Q : Exit → Act → World → Prop} (hgd : Region.wanted o (yielded ops a.tmps) = true) (x : Operand) (ho : o.op = .build 23 #[(0, x)]) (id : Int) (hx : a.eval x = .int .i64 id)
    (h : wpList Try.prog ops Q rest (a.put o.dst (.agg (encV (evId id)).toArray)) w) : wpList Try.prog ops Q (o :: rest) a w := by
  refine build_at hgd 23 _ ho (encV (evId id)).toArray ?_ h
  have e1 : ((#[(0, x)] : Array (Nat × Operand)).map fun (i, x) => (i, a.eval x)).toList = [(0, .int .i64 id)] := by simp [hx]
  rw [e1]; exact buildEv id
set_option maxRecDepth 100000 in
set_option maxHeartbeats 8000000 in
theorem backF13 {cs : List Value} {pl : Int} {ne nc ng nr : Nat} (hsE : SuE cs pl ne nc ng nr) {F : Bool} (kF : ∀ W, Calls Try.prog 61 #[.agg cs.toArray] W (RetB W F)) {w : World} {Al : Option Addr} {l : List Ev} (hl : Re w Al l) (cl n : Nat) (hn : l.length = n) (e : Ev) :
    Calls Try.prog 15 #[.agg cs.toArray, .slice Al n cl, .agg (encV e).toArray] w (RetB w true) := by
  obtain ⟨W0, hW0⟩ : ∃ W0, (w.alloc (.cells cs.toArray 55)).alloc (.cells (encV e).toArray 23) = W0 := ⟨_, rfl⟩
  have BS0 : Hid (Bx W0 w.heap.size cs 55) := by rw [← hW0]; exact (Bx.new w cs 55).alloc _
  have BE0 : Hid (Bx W0 (w.heap.size + 1) (encV e) 23) := by
    rw [← hW0]
    have := Bx.new (w.alloc (.cells cs.toArray 55)) (encV e) 23
    rwa [show (w.alloc (.cells cs.toArray 55)).heap.size = w.heap.size + 1 from by simp] at this
  have X0 : Hid (Ext w W0) := by rw [← hW0]; exact ((Ext.refl w).alloc _).alloc _
  have L0 := Lib.hid (hl.ext X0.out)
  have hsz : (Try.prog.info? 55).map (·.size) = some cs.toArray.size := by rw [sizeS]; simp [hsE.len]
  replace hsz := Lib.hid hsz; replace kF := Lib.hid kF; replace hsE := Lib.hid hsE; replace hW0 := Lib.hid hW0; replace hn := Lib.hid hn
  clear hl
  go_enter Try.func15, Try.ntmps15
  go_wp2_with fail
  rw [hW0.out]
  refine (awake13 _).mono ?_
  rintro e1 w1 ⟨rfl, y⟩
  have BS1 := Lib.hid (BS0.out.ext y); have BE1 := Lib.hid (BE0.out.ext y); have X1 := Lib.hid (X0.out.trans y); have L1 := Lib.hid (L0.out.ext y)
  clear y BS0 BE0 X0 L0 hW0
  go_wp2_with (first | (refine load_box (by rfl) 55 _ rfl w.heap.size rfl _ _ BS1.out _ Try.underlying55 rfl hsz.out ?_) | fail)
  refine (pFew13 hsE.out.len kF.out Al n cl _).mono ?_
  rintro e2 w2 ⟨rfl, y⟩
  have BS3 := Lib.hid (BS1.out.ext y); have BE3 := Lib.hid (BE1.out.ext y); have X3 := Lib.hid (X1.out.trans y); have L3 := Lib.hid (L1.out.ext y)
  clear y BS1 BE1 X1 L1
  obtain ⟨G, hG⟩ : ∃ G, (F && decide (n ≤ 100)) = G := ⟨_, rfl⟩
  rw [hG]
  cases G with
  | false =>
    clear hG
    go_wp2_with fail
    go_ret
    exact ⟨rfl, X3.out⟩
  | true =>
  have hn1 : n ≤ 100 := by cases F <;> simp at hG; exact hG
  clear hG kF
  obtain ⟨u0, hu0⟩ : ∃ u, w2 = u := ⟨_, rfl⟩
  rw [hu0] at BS3 BE3 X3 L3 ⊢
  clear hu0
  go_wp2_with fail
  go_loopw [8, 9] (fun vo vi wr => ∃ (i m c' : Nat) (A' : Option Addr) (D : List Ev), i ≤ n ∧ m ≤ i ∧ vi = .int .i64 i ∧ vo = .slice A' m c' ∧ Hid (D = (l.take i).foldl addE []) ∧ Hid (D.length = m) ∧ Hid (wr.ownsRow u0.heap.size 23 11 (.slice A' m c') m (flat encV D)) ∧ Hid (Ext u0 wr)) (fun _ vi _ => n - (intOf vi).toNat)
  case atStart => exact ⟨0, 0, 0, none, [], Nat.zero_le _, Nat.le_refl _, rfl, rfl, rfl, rfl, own_nilG _ _, Ext.refl _⟩
  case round =>
    obtain ⟨i, m, c', A', D, hin, hmi, rfl, rfl, HD, HDl, HO, X⟩ := hrel
    obtain ⟨wq, hwq⟩ : ∃ W, wr = W := ⟨_, rfl⟩
    rw [hwq] at X HO ⊢
    clear hwq
    have RD : Hid (Re wq A' D) := Rw.own elV (by rw [HDl.out]; exact HO.out)
    by_cases hlt : i < n
    · have q1 : (i : Int) < (n : Int) := by omega
      obtain ⟨x, hx⟩ : ∃ x, l[i]? = some x := ⟨_, List.getElem?_eq_getElem (by rw [hn.out]; exact hlt)⟩
      obtain ⟨b, off, rfl, hr⟩ := L3.out.far (by rintro rfl; have := hn.out; simp at this; omega)
      have cc : wq.cell? ⟨b, off + i * 11, none⟩ = some (.int .i64 x.id) := hr _ X.out i x hx 0 _ rfl
      have hxm : Hid (∀ W, Ext u0 W → W.rangeAt b (off + i * 11) (encV x)) := fun W hW => hr W hW i x hx
      have HD2 : Hid (addE D x = (l.take (i + 1)).foldl addE []) := by show _ = _; rw [take_snoc hx, List.foldl_append, ← HD.out]; rfl
      obtain ⟨z, hz⟩ : ∃ z, fdE D x.id = z := ⟨_, rfl⟩
      have kf := pFind RD.out x.id c' m HDl.out (by omega)
      rw [hz] at kf
      replace kf := Lib.hid kf
      clear hx hr hz
      go_wp2_with fail
      refine kf.out.mono ?_
      rintro e5 w5 ⟨y, rfl⟩
      have X5 := Lib.hid (X.out.trans y); have HO5 := Lib.hid (own_below HO.out y)
      clear y kf cc X HO RD
      go_upto_region 9 with (first | (refine store_newE rfl 23 _ _ (by rfl) w5 w5.heap.size rfl _ (encV z).toArray 23 rfl (by rfl) (by rfl) sizeV rfl (cells_ok z) ?_) | fail)
      obtain ⟨u6_, hu6⟩ : ∃ W, w5.alloc (.cells (encV z).toArray 23) = W := ⟨_, rfl⟩
      have y : Ext w5 u6_ := by rw [← hu6]; exact (Ext.refl w5).alloc _
      obtain ⟨gx, hgx⟩ : ∃ g, w5.heap.size = g := ⟨_, rfl⟩
      have X6 := Lib.hid (X5.out.trans y); have HO6 := Lib.hid (own_below HO5.out y)
      rw [hu6, hgx]
      clear y hu6 hgx X5 HO5
      cases hs : (ixE D x.id).isSome with
      | true =>
        have ha : addE D x = D := by unfold addE; rw [hs]; rfl
        rw [ha] at HD2
        clear hs ha HD
        go_wp2_with fail
        exact ⟨⟨i + 1, m, c', A', D, by omega, by omega, by first | rfl | go_num | (congr 1; omega), rfl, HD2, HDl, HO6, X6⟩, by simp [intOf]; omega⟩
      | false =>
        have ha : addE D x = D ++ [x] := by unfold addE; rw [hs]; rfl
        rw [ha] at HD2
        obtain ⟨w7, hw7⟩ : ∃ W, u6_.alloc (.cells (encV x).toArray 23) = W := ⟨_, rfl⟩
        have y : Ext u6_ w7 := by rw [← hw7]; exact (Ext.refl u6_).alloc _
        have X7 := Lib.hid (X6.out.trans y); have HO7 := Lib.hid (own_below HO6.out y)
        have N7 : Hid (Re w7 (some ⟨u6_.heap.size, 0, none⟩) [x]) := by rw [← hw7]; exact Rw.new_at elV u6_ [x] 23 _ rfl
        have hxm6 := Lib.hid (hxm.out u6_ X6.out)
        have hDl2 : Hid ((D ++ [x]).length = m + 1) := by show _ = _; rw [List.length_append, HDl.out]; rfl
        replace hw7 := Lib.hid hw7
        clear hs ha y HD hxm
        go_wp2_with (first | (refine load_midG (by rfl) 23 _ rfl b (off + i * 11) (by rfl) (encV x) _ hxm6.out Try.underlying23 rfl sizeE ?_) | (refine wpl_buildE (by rfl) _ rfl x (by rfl) ?_; rw [hw7.out]) | (at_builtin; refine appG elV u0 _ X7.out _ _ (by rfl) (by rfl) m _ D [x] (by rfl) HO7.out HDl.out.symm (some ⟨u6_.heap.size, 0, none⟩) 1 1 (by rfl) rfl N7.out (by rw [HDl.out]; simp; omega) ?_; intro A8 c8 w8 o8 x8) | fail)
        exact ⟨⟨i + 1, m + 1, c8, A8, D ++ [x], by omega, by omega, by first | rfl | go_num | (congr 1; omega), rfl, HD2, hDl2, Lib.hid o8, Lib.hid x8⟩, by simp [intOf]; omega⟩
    · have q1 : ¬ ((i : Int) < (n : Int)) := by omega
      have HDE : Hid (D = dedE l) := by
        have e : i = n := by omega
        show _ = _
        rw [HD.out, e, List.take_of_length_le (by rw [hn.out]; exact Nat.le_refl _)]; rfl
      have hm100 : m ≤ 100 := by omega
      have hcap : Hid (m ≤ c') := by
        show _ ≤ _
        rcases HO.out.2 with ⟨hv, hh⟩ | ⟨g', cap', cur, hv, _, _, h1, h2, _⟩
        · cases hv; exact Nat.le_refl _
        · cases hv; exact h1
      clear HD HO
      have BS4 := Lib.hid (BS3.out.ext X.out); have BE4 := Lib.hid (BE3.out.ext X.out); have X4 := Lib.hid (X3.out.trans X.out)
      obtain ⟨M, hM⟩ : ∃ M, sortE D = M := ⟨_, rfl⟩
      have hI : Hid (Ids M) := by show Ids M; rw [← hM, HDE.out]; exact sort_ids (ded_ids l)
      have hMM : Hid (sortE M = M) := by show _ = _; rw [← hM]; exact sortE_sort D
      have hMl : Hid (M.length = m) := by show _ = _; rw [← hM, sortE_len]; exact HDl.out
      have kS := pSort RD.out (by rw [HDl.out]; omega) c'
      rw [HDl.out, hM] at kS
      replace kS := Lib.hid kS
      clear HDE BS3 BE3 X3 X L3 hn RD hM hcap HDl
      go_wp2_with fail
      refine kS.out.mono ?_
      rintro e5 w5 ⟨A5, c5, rfl, r5, y, _⟩
      rw [hMl.out]
      have BS5 := Lib.hid (BS4.out.ext y); have BE5 := Lib.hid (BE4.out.ext y); have X5 := Lib.hid (X4.out.trans y); have P5 := Lib.hid r5
      clear y r5 kS BS4 BE4 X4
      have ce_ := BE5.out.cell 0 _ rfl
      have kf := pFind P5.out e.id c5 m hMl.out (by omega)
      obtain ⟨o, ho⟩ : ∃ o, fdE M e.id = o := ⟨_, rfl⟩
      rw [ho] at kf
      replace kf := Lib.hid kf
      go_wp2_with fail
      refine kf.out.mono ?_
      rintro e6 w6 ⟨y, rfl⟩
      have BS6 := Lib.hid (BS5.out.ext y); have BE6 := Lib.hid (BE5.out.ext y); have X6 := Lib.hid (X5.out.trans y); have P6 := Lib.hid (P5.out.ext y)
      clear y kf ce_ BS5 BE5 X5 P5
      go_upto_region 13 with (first | (refine store_newE rfl 23 _ _ (by rfl) w6 w6.heap.size rfl _ (encV o).toArray 23 rfl (by rfl) (by rfl) sizeV rfl (cells_ok o) ?_) | fail)
      obtain ⟨go, hgo⟩ : ∃ g, w6.heap.size = g := ⟨_, rfl⟩
      obtain ⟨w7, hw7⟩ : ∃ W, w6.alloc (.cells (encV o).toArray 23) = W := ⟨_, rfl⟩
      have y : Ext w6 w7 := by rw [← hw7]; exact (Ext.refl w6).alloc _
      have BO7 : Hid (Bx w7 go (encV o) 23) := by rw [← hw7, ← hgo]; exact Bx.new w6 _ _
      have BS7 := Lib.hid (BS6.out.ext y); have BE7 := Lib.hid (BE6.out.ext y); have X7 := Lib.hid (X6.out.trans y); have P7 := Lib.hid (P6.out.ext y)
      rw [hgo, hw7]
      clear y hgo hw7 BS6 BE6 X6 P6
      obtain ⟨ce, hce⟩ : ∃ b, checkE pl ne nc ng nr e = b := ⟨_, rfl⟩
      have kC := Lib.hid (fun W => pCheckE hsE.out e W)
      rw [hce] at kC
      replace hce := Lib.hid hce
      cases hs : (ixE M e.id).isSome with
      | true =>
        obtain ⟨co, hco⟩ : ∃ b, checkE pl ne nc ng nr o = b := ⟨_, rfl⟩
        have kO := Lib.hid (fun W => pCheckE hsE.out o W)
        rw [hco] at kO
        replace hco := Lib.hid hco
        obtain ⟨b1, b2⟩ := back_has (ce := ce) (co := co) hI.out hs
        rw [ho, hMM.out] at b2
        have k1 := pApply hsE.out P7.out c5 m hMl.out (by omega) ⟨3, e⟩
        simp only [hce.out] at k1
        have hL1 := applyE_len ce M ⟨3, e⟩
        rw [hMl.out] at hL1
        obtain ⟨R1, hR1⟩ : ∃ R, (applyE ce M ⟨3, e⟩).1 = R := ⟨_, rfl⟩
        obtain ⟨q1, hq1⟩ : ∃ R, (applyE ce M ⟨3, e⟩).2 = R := ⟨_, rfl⟩
        rw [hR1, hq1] at k1
        rw [hq1] at b1
        rw [hR1, hq1] at b2
        rw [hR1] at hL1
        obtain ⟨n1, hn1'⟩ : ∃ k, R1.length = k := ⟨_, rfl⟩
        rw [hn1'] at hL1
        replace k1 := Lib.hid k1; replace b1 := Lib.hid b1; replace b2 := Lib.hid b2; replace hn1' := Lib.hid hn1'
        clear hR1 hq1 hs ho
        go_wp2_with (first | (refine load_box (by rfl) 55 _ rfl w.heap.size rfl _ _ BS7.out _ Try.underlying55 rfl hsz.out ?_) | (refine load_box (by rfl) 23 _ rfl (w.heap.size + 1) rfl _ _ BE7.out _ Try.underlying23 rfl sizeV ?_) | (refine build_fx (by rfl) 3 _ rfl e rfl ?_) | fail)
        refine k1.out.mono ?_
        rintro e8 w8 ⟨A8, c8, rfl, r8, y⟩
        rw [hn1'.out]
        have BS8 := Lib.hid (BS7.out.ext y); have BE8 := Lib.hid (BE7.out.ext y); have BO8 := Lib.hid (BO7.out.ext y); have X8 := Lib.hid (X7.out.trans y); have P8 := Lib.hid (P7.out.ext y); have Q8 := Lib.hid r8
        clear y r8 k1 BS7 BE7 BO7 X7 P7
        have k2 := pApply hsE.out Q8.out c8 n1 hn1'.out (by omega) ⟨3, o⟩
        simp only [hco.out] at k2
        obtain ⟨R2, hR2⟩ : ∃ R, (applyE co R1 ⟨3, o⟩).1 = R := ⟨_, rfl⟩
        obtain ⟨q2, hq2⟩ : ∃ R, (applyE co R1 ⟨3, o⟩).2 = R := ⟨_, rfl⟩
        rw [hR2, hq2] at k2 b2
        replace k2 := Lib.hid k2
        clear hR2 hq2
        go_wp2_with (first | (refine load_box (by rfl) 55 _ rfl w.heap.size rfl _ _ BS8.out _ Try.underlying55 rfl hsz.out ?_) | (refine load_box (by rfl) 23 _ rfl go rfl _ _ BO8.out _ Try.underlying23 rfl sizeV ?_) | (refine build_fx (by rfl) 3 _ rfl o rfl ?_) | fail)
        refine k2.out.mono ?_
        rintro e9 w9 ⟨A9, c9, rfl, r9, y⟩
        have BS9 := Lib.hid (BS8.out.ext y); have BE9 := Lib.hid (BE8.out.ext y); have BO9 := Lib.hid (BO8.out.ext y); have X9 := Lib.hid (X8.out.trans y); have P9 := Lib.hid (P8.out.ext y); have Q9 := Lib.hid r9
        clear y r9 k2 BS8 BE8 BO8 X8 P8 Q8
        by_cases h1 : q1 = 0
        case neg =>
          have hz := b1.out h1
          subst hz
          have d1 : (q1 != 0) = true := by rw [bne_iff_ne]; exact h1
          clear h1 b1 b2
          go_wp2_with (first | (refine load_box (by rfl) 55 _ rfl w.heap.size rfl _ _ BS9.out _ Try.underlying55 rfl hsz.out ?_) | (refine load_box (by rfl) 23 _ rfl (w.heap.size + 1) rfl _ _ BE9.out _ Try.underlying23 rfl sizeV ?_) | (refine load_box (by rfl) 23 _ rfl go rfl _ _ BO9.out _ Try.underlying23 rfl sizeV ?_) | fail)
          refine (kC.out _).mono ?_
          rintro e10 w10 ⟨rfl, y⟩
          have X10 := Lib.hid (X9.out.trans y)
          clear y
          go_wp2_with fail
          go_ret
          exact ⟨rfl, X10.out⟩
        subst h1
        obtain ⟨b3, b4⟩ := b2.out rfl
        cases co with
        | true =>
          obtain ⟨rfl, rfl⟩ := b3 rfl
          have kE := rSameE Q9.out P9.out (by rw [hMl.out]; omega) c9 c5 (by rw [hMl.out]; omega)
          rw [decide_eq_true rfl, hMl.out] at kE
          rw [hMl.out]
          replace kE := Lib.hid kE
          clear b1 b2 b3 b4
          go_wp2_with fail
          refine kE.out.mono ?_
          rintro e10 w10 ⟨rfl, y⟩
          have X10 := Lib.hid (X9.out.trans y)
          clear y
          go_wp2_with fail
          go_ret
          exact ⟨rfl, X10.out⟩
        | false =>
          obtain rfl := b4 rfl
          clear b1 b2 b3 b4
          go_wp2_with (first | (refine load_box (by rfl) 55 _ rfl w.heap.size rfl _ _ BS9.out _ Try.underlying55 rfl hsz.out ?_) | (refine load_box (by rfl) 23 _ rfl (w.heap.size + 1) rfl _ _ BE9.out _ Try.underlying23 rfl sizeV ?_) | (refine load_box (by rfl) 23 _ rfl go rfl _ _ BO9.out _ Try.underlying23 rfl sizeV ?_) | fail)
          refine (kO.out _).mono ?_
          rintro e10 w10 ⟨rfl, y⟩
          have X10 := Lib.hid (X9.out.trans y)
          clear y
          go_wp2_with fail
          go_ret
          exact ⟨rfl, X10.out⟩
      | false =>
        obtain ⟨cz, hcz⟩ : ∃ b, checkE pl ne nc ng nr (evId e.id) = b := ⟨_, rfl⟩
        replace hcz := Lib.hid hcz
        obtain ⟨b1, b2⟩ := back_new (ce := ce) (co := cz) hI.out (e := e) (e' := evId e.id) rfl hs
        rw [hMM.out] at b2
        have k1 := pApply hsE.out P7.out c5 m hMl.out (by omega) ⟨1, e⟩
        simp only [hce.out] at k1
        have hL1 := applyE_len ce M ⟨1, e⟩
        rw [hMl.out] at hL1
        obtain ⟨R1, hR1⟩ : ∃ R, (applyE ce M ⟨1, e⟩).1 = R := ⟨_, rfl⟩
        obtain ⟨q1, hq1⟩ : ∃ R, (applyE ce M ⟨1, e⟩).2 = R := ⟨_, rfl⟩
        rw [hR1, hq1] at k1
        rw [hq1] at b1
        rw [hR1, hq1] at b2
        rw [hR1] at hL1
        obtain ⟨n1, hn1'⟩ : ∃ k, R1.length = k := ⟨_, rfl⟩
        rw [hn1'] at hL1
        replace k1 := Lib.hid k1; replace b1 := Lib.hid b1; replace b2 := Lib.hid b2; replace hn1' := Lib.hid hn1'
        clear hR1 hq1 hs ho
        go_wp2_with (first | (refine load_box (by rfl) 55 _ rfl w.heap.size rfl _ _ BS7.out _ Try.underlying55 rfl hsz.out ?_) | (refine load_box (by rfl) 23 _ rfl (w.heap.size + 1) rfl _ _ BE7.out _ Try.underlying23 rfl sizeV ?_) | (refine build_fx (by rfl) 1 _ rfl e rfl ?_) | fail)
        refine k1.out.mono ?_
        rintro e8 w8 ⟨A8, c8, rfl, r8, y⟩
        rw [hn1'.out]
        have BS8 := Lib.hid (BS7.out.ext y); have BE8 := Lib.hid (BE7.out.ext y); have X8 := Lib.hid (X7.out.trans y); have P8 := Lib.hid (P7.out.ext y); have Q8 := Lib.hid r8
        clear y r8 k1 BS7 BE7 BO7 X7 P7
        have k2 := pApply hsE.out Q8.out c8 n1 hn1'.out (by omega) ⟨2, evId e.id⟩
        simp only [hcz.out] at k2
        obtain ⟨R2, hR2⟩ : ∃ R, (applyE cz R1 ⟨2, evId e.id⟩).1 = R := ⟨_, rfl⟩
        obtain ⟨q2, hq2⟩ : ∃ R, (applyE cz R1 ⟨2, evId e.id⟩).2 = R := ⟨_, rfl⟩
        rw [hR2, hq2] at k2 b2
        replace k2 := Lib.hid k2
        have ce8 := BE8.out.cell 0 _ rfl
        clear hR2 hq2
        go_wp2_with (first | (refine load_box (by rfl) 55 _ rfl w.heap.size rfl _ _ BS8.out _ Try.underlying55 rfl hsz.out ?_) | (refine build_ev (by rfl) _ rfl e.id rfl ?_) | (refine build_fx (by rfl) 2 _ rfl (evId e.id) rfl ?_) | fail)
        refine k2.out.mono ?_
        rintro e9 w9 ⟨A9, c9, rfl, r9, y⟩
        have BS9 := Lib.hid (BS8.out.ext y); have BE9 := Lib.hid (BE8.out.ext y); have X9 := Lib.hid (X8.out.trans y); have P9 := Lib.hid (P8.out.ext y); have Q9 := Lib.hid r9
        clear y r9 k2 ce8 BS8 BE8 X8 P8 Q8
        by_cases h1 : q1 = 0
        case neg =>
          have hz := b1.out h1
          subst hz
          have d1 : (q1 != 0) = true := by rw [bne_iff_ne]; exact h1
          clear h1 b1 b2
          go_wp2_with (first | (refine load_box (by rfl) 55 _ rfl w.heap.size rfl _ _ BS9.out _ Try.underlying55 rfl hsz.out ?_) | (refine load_box (by rfl) 23 _ rfl (w.heap.size + 1) rfl _ _ BE9.out _ Try.underlying23 rfl sizeV ?_) | fail)
          refine (kC.out _).mono ?_
          rintro e10 w10 ⟨rfl, y⟩
          have X10 := Lib.hid (X9.out.trans y)
          clear y
          go_wp2_with fail
          go_ret
          exact ⟨rfl, X10.out⟩
        subst h1
        obtain ⟨rfl, rfl⟩ := b2.out rfl
        have kE := rSameE Q9.out P9.out (by rw [hMl.out]; omega) c9 c5 (by rw [hMl.out]; omega)
        rw [decide_eq_true rfl, hMl.out] at kE
        rw [hMl.out]
        replace kE := Lib.hid kE
        clear b1 b2
        go_wp2_with fail
        refine kE.out.mono ?_
        rintro e10 w10 ⟨rfl, y⟩
        have X10 := Lib.hid (X9.out.trans y)
        clear y
        go_wp2_with fail
        go_ret
        exact ⟨rfl, X10.out⟩
theorem backF13' (s : Su) (h : Sh) {w : World} {A : Option Addr} {l : List Ev} (hl : Re w A l) (cl : Nat) (e : Ev) :
    Calls Try.prog 15 #[.agg (s.cells h).toArray, .slice A l.length cl, .agg (encV e).toArray] w (RetB w true) := by
  obtain ⟨F, _, kF⟩ := fewB s h
  exact backF13 (suE_of s h) kF hl cl l.length rfl e
end Go.Proofs.Ytmbjbbflhlndcaa
