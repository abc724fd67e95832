/-
  lumperref08.Sort.
-/
import Derived.Test.YtmbjbbflhlndcaaLv3
import Derived.Great.BuildSlice
namespace Go.Proofs.Ytmbjbbflhlndcaa
open Go.RowKit BigFrame
set_option linter.unusedVariables false
set_option linter.unusedSimpArgs false

theorem elemE : Try.prog.underlying 63 = some (.slice (Try.prog.elem 63)) := by kernel_rfl
theorem sizeOfE (w : World) : (sizeOf (Try.prog.elem 63)).run Try.prog w = .ok 11 w := by kernel_rfl
theorem slice_hiE {A : Option Addr} {O : List Ev} {n c j : Nat} (hn : n = O.length) (hj : j ≤ n) (hc : n ≤ c) :
    ∃ A', (∀ w : World, (Instr.sliceAt 63 (.slice A n c) none (some (.int .i64 j)) none).run Try.prog w = .ok (.slice A' j c) w) ∧ ∀ w, Re w A O → Re w A' (O.take j) := by
  subst hn
  obtain ⟨A', nT, h1, h2, h3, h4⟩ := slice_hiG 63 11 (enc := encV) elemE sizeOfE (A := A) (O := O) (n := O.length) (c := c) (j := j) rfl hj hc
  have e : nT = j := by rw [h1.out, List.length_take]; omega
  subst e
  exact ⟨A', h3, h4⟩
section
variable {P : Program} {ops : Array Oper} {Q : Exit → Act → World → Prop} {S : World → Prop}
/-- Two operations that may be next. -/
theorem held_two {i j fuel : Nat} {o o' : Oper} {listed : Array Bool} {a : Act} {w : World} (hi : ops[i]? = some o) (hj : ops[j]? = some o') (hr : Region.ready .any ops listed = [i, j]) (hw : Region.wanted o (yielded ops a.tmps) = true) (hw' : Region.wanted o' (yielded ops a.tmps) = true)
    (h : o.wp P a w (fun a' w' => S w' ∧ wpAnyH P .any ops (NoPanic Q) S fuel (listed.setIfInBounds i true) a' w') (NoPanic Q))
    (h' : o'.wp P a w (fun a' w' => S w' ∧ wpAnyH P .any ops (NoPanic Q) S fuel (listed.setIfInBounds j true) a' w') (NoPanic Q)) : wpAnyH P .any ops (NoPanic Q) S (fuel + 1) listed a w :=
  wpAnyH_all hr (by simp) fun k hk => by
    simp at hk
    rcases hk with rfl | rfl
    · unfold wpOp
      simp only [hi, hw, if_true]
      exact .inl h
    · unfold wpOp
      simp only [hj, hw', if_true]
      exact .inl h'
end

/-- A row of one event. -/
theorem fill1 (x : Ev) (c : Array Value) (hc : c.size = 11) : Instr.fill (fun i => some (i * 11, 11)) c [(0, .agg (encV x).toArray)] = some (encV x).toArray := by
  obtain ⟨l⟩ := c
  match l, hc with
  | [a0, a1, a2, a3, a4, a5, a6, a7, a8, a9, a10], _ => simp [Instr.fill, Value.cells, encV, Array.zipIdx]
theorem wp_buildE {o : Oper} {a : Act} {w : World} {K : Act → World → Prop} {Q : Exit → Act → World → Prop} (y : Operand) (ho : o.op = .buildSlice 63 1 #[(0, y)]) (x : Ev) (hy : a.eval y = .agg (encV x).toArray)
    (h : K (a.put o.dst (.slice (some ⟨w.heap.size, 0, none⟩) 1 1)) (w.alloc (.cells (encV x).toArray 23))) : o.wp Try.prog a w K Q := by
  obtain ⟨z, hinfo, hzc⟩ := elV.info
  obtain ⟨i0, hi, hz0, hz1, hz2⟩ := info_parts hinfo
  refine wp_buildSlice 63 23 1 _ ho (encV x).toArray i0 z elV.under hi hz0 (by rw [hz1]; decide) (by rw [hz1]; decide) ?_ h
  rw [hz1]
  have e : (#[(0, y)].map fun (i, x) => (i, a.eval x)).toList = [(0, a.eval y)] := by simp
  rw [e, hy]
  exact fill1 x _ (by simp)

theorem own_e1 (w : World) (x : Ev) : ((w.alloc (.cells (encV x).toArray 23)).alloc (.cells #[] 23)).ownsRow w.heap.size 23 11 (.slice (some ⟨w.heap.size + 1, 0, none⟩) 0 0) 0 (flat encV []) := by
  have := own_emptyG (E := 23) (enc := encV) (k := 11) (w.alloc (.cells (encV x).toArray 23)) w.heap.size (by simp)
  rwa [show (w.alloc (.cells (encV x).toArray 23)).heap.size = w.heap.size + 1 from by simp] at this
set_option maxRecDepth 100000 in
set_option maxHeartbeats 8000000 in
theorem rSort {w : World} {A : Option Addr} {l : List Ev} (h : Re w A l) (hl : l.length ≤ 1000) (c : Nat) : Calls Try.prog 42 #[.slice A l.length c] w (RetEs w (sortE l)) := by
  replace h := Lib.hid h
  obtain ⟨n, hn⟩ : ∃ n, l.length = n := ⟨_, rfl⟩
  rw [hn] at hl ⊢
  replace hn := Lib.hid hn
  go_enter Try.func42, Try.ntmps42
  go_wp2_with fail
  go_loopw [3, 4] (fun vo vi wr => ∃ (i : Nat) (Ao : Option Addr) (co : Nat), i ≤ n ∧ vo = .slice Ao i co ∧ vi = .int .i64 i ∧ Hid (Ext w wr ∧ wr.ownsRow w.heap.size 23 11 (.slice Ao i co) i (flat encV ((l.take i).foldl putE [])))) (fun _ vi _ => n - (intOf vi).toNat)
  case atStart => exact ⟨0, none, 0, Nat.zero_le _, rfl, rfl, Ext.refl _, own_nilG _ _⟩
  case round =>
    obtain ⟨i, Ao, co, hin, rfl, rfl, HO⟩ := hrel
    by_cases hlt : i < n
    · have q1 : (i : Int) < (n : Int) := by omega
      obtain ⟨x, hx⟩ : ∃ x, l[i]? = some x := ⟨_, List.getElem?_eq_getElem (by rw [hn.out]; exact hlt)⟩
      replace hx := Lib.hid hx
      obtain ⟨b, off, rfl, hr⟩ := h.out.far (by rintro rfl; have := hn.out; simp at this; omega)
      obtain ⟨T, hT⟩ : ∃ T, (l.take i).foldl putE [] = T := ⟨_, rfl⟩
      have hTl : Hid (T.length = i) := by
        show _ = _
        rw [← hT, (foldE (L := l.take i) (T := []) (T0 := []) .nil (Stb.Stab.refl _)).2.2, List.length_take, hn.out]; simp; omega
      have hco := own_cap HO.out.2
      have RT : Hid (Re wr Ao T) := by
        have := HO.out.2
        rw [hT] at this
        exact Rd.of_own' elV.len this hTl.out.symm
      have XR := Lib.hid HO.out.1
      replace hT := Lib.hid hT
      clear HO
      obtain ⟨wq, hwq⟩ : ∃ W, wr = W := ⟨_, rfl⟩
      rw [hwq] at RT XR ⊢
      clear hwq
      go_wp2_with fail
      go_loopw [5] (fun vk wr2 => ∃ k : Nat, k ≤ i ∧ vk = .int .i64 k ∧ Hid (cutE x T i = cutE x T k) ∧ Hid (Ext wq wr2)) (fun vk _ => (intOf vk).toNat)
      case atStart => exact ⟨i, Nat.le_refl _, rfl, rfl, Ext.refl _⟩
      case round =>
        obtain ⟨k, hki, rfl, hck, X3⟩ := hrel
        by_cases hk : 0 < k
        · obtain ⟨j, hj⟩ : ∃ j, k = j + 1 := ⟨k - 1, by omega⟩
          obtain ⟨y, hy⟩ : ∃ y, T[j]? = some y := ⟨_, List.getElem?_eq_getElem (by rw [hTl.out]; omega)⟩
          have hck2 : Hid (cutE x T i = if lessE x y then cutE x T j else j + 1) := by
            show _ = _
            rw [hck.out, hj]; show (match T[j]? with | some y => if lessE x y then cutE x T j else j + 1 | none => j + 1) = _
            rw [hy]
          replace hy := Lib.hid hy
          obtain ⟨bo, oo, hAo, hs⟩ := RT.out.far (by rintro rfl; have := hTl.out; simp at this; omega)
          subst hAo
          have kL := Lib.hid (fun W => rLess x y W)
          have d0 : decide ((0 : Int) < (k : Int)) = true := decide_eq_true (by omega)
          have wj : (k : Int) - 1 = (j : Int) := by omega
          have wk : IntKind.i64.wrap (j : Int) = (j : Int) := by rw [IntKind.wrap_i64]; omega
          have q2 : (j : Int) < (i : Int) := by omega
          have q3 : (i : Int) < (n : Int) := by omega
          replace hj := Lib.hid hj
          cases hL : lessE x y with
          | true =>
            rw [hL] at kL
            have hck3 : Hid (cutE x T i = cutE x T j) := by have := hck2.out; rw [hL, if_pos rfl] at this; exact this
            clear hL hck hck2
            go_wp2_with fail
            refine wp_region_later wq X3.out (by kernel_rfl) (by kernel_rfl) ?_
            go_big_quiet_step (fail)
            go_big_quiet_step (fail)
            go_big_quiet_step (fail)
            go_big_quiet_step (fail)
            go_big_quiet_step (fail)
            go_big_quiet_step (fail)
            refine quiet_mid (by rfl) 23 _ rfl b (off + i * 11) rfl (encV x) (fun W ⟨e, he⟩ => by subst he; exact hr _ (XR.out.trans e.2) i x hx.out) _ Try.underlying23 rfl sizeE _ (by simp [Act.put]; rfl) ?_
            go_big_quiet_step (fail)
            go_big_quiet_step (fail)
            go_big_quiet_step (fail)
            go_big_quiet_step (fail)
            refine quiet_mid (by rfl) 23 _ rfl bo (oo + j * 11) rfl (encV y) (fun W ⟨e, he⟩ => by subst he; exact hs _ e.2 j y hy.out) _ Try.underlying23 rfl sizeE _ (by simp [Act.put]; rfl) ?_
            go_big_quiet_step (exact later_bool (kL.out _))
            go_big_quiet_step (fail)
            refine wpQuiet_nil ?_
            rintro _ ⟨e6, rfl⟩
            have X6 := Lib.hid e6.2
            go_wp2_with fail
            exact ⟨⟨j, by have := hj.out; omega, by first | rfl | go_num | (congr 1; omega), hck3, X6⟩, by have := hj.out; simp [intOf]; omega⟩
          | false =>
            rw [hL] at kL
            have hcut : Hid (cutE x T i = k) := by have := hck2.out; rw [hL, if_neg (by simp)] at this; rw [this]; exact hj.out.symm
            clear hL hck hck2
            go_wp2_with fail
            refine wp_region_later wq X3.out (by kernel_rfl) (by kernel_rfl) ?_
            go_big_quiet_step (fail)
            go_big_quiet_step (fail)
            go_big_quiet_step (fail)
            go_big_quiet_step (fail)
            go_big_quiet_step (fail)
            go_big_quiet_step (fail)
            refine quiet_mid (by rfl) 23 _ rfl b (off + i * 11) rfl (encV x) (fun W ⟨e, he⟩ => by subst he; exact hr _ (XR.out.trans e.2) i x hx.out) _ Try.underlying23 rfl sizeE _ (by simp [Act.put]; rfl) ?_
            go_big_quiet_step (fail)
            go_big_quiet_step (fail)
            go_big_quiet_step (fail)
            go_big_quiet_step (fail)
            refine quiet_mid (by rfl) 23 _ rfl bo (oo + j * 11) rfl (encV y) (fun W ⟨e, he⟩ => by subst he; exact hs _ e.2 j y hy.out) _ Try.underlying23 rfl sizeE _ (by simp [Act.put]; rfl) ?_
            go_big_quiet_step (exact later_bool (kL.out _))
            go_big_quiet_step (fail)
            refine wpQuiet_nil ?_
            rintro _ ⟨e6, rfl⟩
            obtain ⟨Ao, hAo⟩ : ∃ A, (some ⟨bo, oo, none⟩ : Option Addr) = A := ⟨_, rfl⟩
            rw [hAo] at RT ⊢
            clear hAo hs kL hy d0 wj wk q2 hj hk
            obtain ⟨Ad, cd, nD, hnD, hdc, hsl, hrd⟩ := slice_loP 63 11 (enc := encV) elemE sizeOfE (A := Ao) (O := T) (n := i) (c := co) (j := k) hTl.out.symm hki hco.1
            obtain ⟨At, hsl2, hrt⟩ := slice_hiE (A := Ao) (O := T) (n := i) (c := co) (j := k) hTl.out.symm hki hco.1
            have lD : Hid (nD + k = i) := by show _ = _; rw [hnD.out, List.length_drop, hTl.out]; omega
            have hTk : Hid ((T.take k).length = k) := by show _ = _; rw [List.length_take, hTl.out]; omega
            have bD : nD ≤ 1000 := by have := lD.out; omega
            obtain ⟨WE, hWE⟩ : ∃ W, e6.1 = W := ⟨_, rfl⟩
            have XE : Hid (Ext wq WE) := by rw [← hWE]; exact e6.2
            rw [hWE]
            clear hWE
            go_wp2_with (at_builtin; refine appG elV wq _ (XE.out.alloc _) _ _ (by rfl) (by rfl) 0 _ [] (T.drop k) (by rfl) (own_base (own_emptyG WE _ (Nat.le_refl _)) XE.out.size) rfl Ad cd nD (by rfl) hnD.out ((hrd _ (RT.out.ext XE.out)).alloc _) (by rw [List.length_nil, ← hnD.out]; omega) ?_; intro A6 c6 w6 o6 x6; rw [Nat.zero_add, List.nil_append] at o6; rw [Nat.zero_add])
            have hR6 : Hid (Re w6 A6 (T.drop k)) := by rw [hnD.out] at o6; exact Rw.own elV o6
            have X8 := Lib.hid x6
            obtain ⟨w8, hw8⟩ : ∃ W, w6.drewN 1 = W := ⟨_, rfl⟩
            have X68 : Ext w6 w8 := by rw [← hw8]; exact (Ext.refl w6).drewN 1
            replace hR6 := Lib.hid (hR6.out.ext X68); replace X8 := Lib.hid (X8.out.trans X68)
            have hRt := Lib.hid (hrt _ (RT.out.ext X8.out))
            have NXT : Hid (∀ w' A' c', w'.ownsRow w8.heap.size 23 11 (.slice A' (k + 1 + nD) c') (k + 1 + nD) (flat encV ((T.take k ++ [x]) ++ T.drop k)) → Ext w8 w' → Hid (Ext w w' ∧ w'.ownsRow w.heap.size 23 11 (.slice A' (i + 1) c') (i + 1) (flat encV ((l.take (i + 1)).foldl putE [])))) := fun w' A' c' ho hx' => by
              refine ⟨XR.out.trans (X8.out.trans hx'), ?_⟩
              have e1 : k + 1 + nD = i + 1 := by have := lD.out; omega
              rw [e1] at ho
              have e3 : (l.take (i + 1)).foldl putE [] = putE T x := by rw [take_snoc hx.out, List.foldl_append, ← hT.out]; rfl
              rw [e3]
              have e2 : (T.take k ++ [x]) ++ T.drop k = putE T x := by unfold putE; rw [hTl.out, hcut.out]; simp
              rw [← e2]
              exact own_base ho (XR.out.trans X8.out).size
            have hkn1 : Hid (k + 1 + nD = i + 1) := by show _ = _; have := lD.out; omega
            have hl8 : Hid (∀ W, Ext w8 W → W.rangeAt b (off + i * 11) (encV x)) := fun W hW => hr W (XR.out.trans (X8.out.trans hW)) i x hx.out
            clear o6 x6 hrd hrt hdc X68
            refine held_start (S := fun W => Ext w8 W) 14 rfl (by kernel_rfl) ?_
            have hW8 : { w6 with drawn := w6.drawn + 1 } = w8 := hw8
            rw [hW8]
            clear hW8 hw8
            refine held_move (i := 1) rfl (by kernel_rfl) (by kernel_rfl) (by kernel_rfl) _ rfl rfl (Ext.refl w8) _ (by simp [Act.put]; rfl) ?_
            refine held_move (i := 2) rfl (by kernel_rfl) (by kernel_rfl) (by kernel_rfl) _ rfl rfl (Ext.refl w8) _ (by simp [Act.put]; rfl) ?_
            refine held_takeV (i := 3) rfl (by kernel_rfl) (by kernel_rfl) (by kernel_rfl) (.slice At k co) rfl (fun w _ => by go_simp) (Ext.refl w8) _ (by simp [Act.put]; rfl) ?_
            refine held_move (i := 5) rfl (by kernel_rfl) (by kernel_rfl) (by kernel_rfl) _ rfl rfl (Ext.refl w8) _ (by simp [Act.put]; rfl) ?_
            refine held_move (i := 6) rfl (by kernel_rfl) (by kernel_rfl) (by kernel_rfl) _ rfl rfl (Ext.refl w8) _ (by simp [Act.put]; rfl) ?_
            refine held_takeV (i := 7) rfl (by kernel_rfl) (by kernel_rfl) (by kernel_rfl) (.pointer (some ⟨b, off + i * 11, none⟩)) rfl (fun w _ => by go_simp) (Ext.refl w8) _ (by simp [Act.put]; rfl) ?_
            refine held_takeV (i := 8) rfl (by kernel_rfl) (by kernel_rfl) (by kernel_rfl) (.agg (encV x).toArray) rfl (fun w h => run_load_mid 23 _ rfl b (off + i * 11) rfl (encV x) _ (hl8.out w h) Try.underlying23 rfl sizeE) (Ext.refl w8) _ (by simp [Act.put]; rfl) ?_
            refine held_move (i := 11) rfl (by kernel_rfl) (by kernel_rfl) (by kernel_rfl) _ rfl rfl (Ext.refl w8) _ (by simp [Act.put]; rfl) ?_
            clear hl8 hsl hsl2
            refine held_two (i := 0) (j := 9) rfl rfl (by kernel_rfl) rfl rfl ?_ ?_
            · go_wp2_with fail
              refine ⟨((Ext.refl w8).alloc _), ?_⟩
              refine held_two (i := 4) (j := 9) rfl rfl (by kernel_rfl) rfl rfl ?_ ?_
              · refine wp_appG elV w8 _ ((Ext.refl w8).alloc _) _ _ rfl 0 _ [] (T.take k) (by rfl) (own_emptyG w8 _ (Nat.le_refl _)) rfl At co k (by rfl) hTk.out.symm (hRt.out.ext ((Ext.refl w8).alloc _)) (by rw [List.length_nil, hTk.out]; omega) ?_
                intro A40 c40 w40 o40 x40 g40 _
                rw [Nat.zero_add, List.nil_append] at o40
                rw [Nat.zero_add]
                refine ⟨x40, ?_⟩
                refine held_all (i := 9) rfl (by kernel_rfl) rfl ?_
                refine wp_buildE _ rfl x (by rfl) ?_
                refine ⟨x40.alloc _, ?_⟩
                refine held_all (i := 10) rfl (by kernel_rfl) rfl ?_
                refine wp_appG elV w8 _ (x40.alloc _) _ _ rfl k _ (T.take k) [x] (by rfl) (own_below o40 ((Ext.refl w40).alloc _)) hTk.out.symm (some ⟨w40.heap.size, 0, none⟩) 1 1 (by rfl) rfl (Rw.new_at elV w40 [x] 23 _ rfl) (by rw [hTk.out]; simp; omega) ?_
                intro A46 c46 w46 o46 x46 _ _
                refine ⟨x46, ?_⟩
                refine held_all (i := 12) rfl (by kernel_rfl) rfl ?_
                refine wp_appG elV w8 _ x46 _ _ rfl (k + 1) _ (T.take k ++ [x]) (T.drop k) (by rfl) o46 (by rw [List.length_append, hTk.out]; rfl) A6 c6 nD (by rfl) hnD.out (hR6.out.ext x46) (by rw [List.length_append, hTk.out, ← hnD.out]; simp; omega) ?_
                intro A48 c48 w48 o48 x48 _ _
                refine ⟨x48, ?_⟩
                refine held_assign (i := 13) rfl (by kernel_rfl) (by kernel_rfl) (by kernel_rfl) _ rfl rfl x48 _ (by simp [Act.put]; rfl) ?_
                refine held_done (by kernel_rfl) ?_ _
                have ON := NXT.out w48 A48 c48 o48 x48
                replace ON := Lib.hid ON
                rw [hkn1.out]
                clear o48 x48 o46 x46 NXT hkn1
                go_wp2_with fail
                exact ⟨⟨i + 1, A48, c48, by omega, by first | rfl | go_num | (congr 1; omega), by first | rfl | go_num | (congr 1; omega), ON.out⟩, by simp [intOf]; omega⟩
              · refine wp_buildE _ rfl x (by rfl) ?_
                refine ⟨(((Ext.refl w8).alloc _).alloc _), ?_⟩
                refine held_all (i := 4) rfl (by kernel_rfl) rfl ?_
                refine wp_appG elV w8 _ (((Ext.refl w8).alloc _).alloc _) _ _ rfl 0 _ [] (T.take k) (by rfl) (own_below (own_emptyG w8 _ (Nat.le_refl _)) ((Ext.refl _).alloc _)) rfl At co k (by rfl) hTk.out.symm (hRt.out.ext (((Ext.refl w8).alloc _).alloc _)) (by rw [List.length_nil, hTk.out]; omega) ?_
                intro A40 c40 w40 o40 x40 g40 _
                rw [Nat.zero_add, List.nil_append] at o40
                rw [Nat.zero_add]
                refine ⟨x40, ?_⟩
                refine held_all (i := 10) rfl (by kernel_rfl) rfl ?_
                refine wp_appG elV w8 _ x40 _ _ rfl k _ (T.take k) [x] (by rfl) o40 hTk.out.symm (some ⟨(w8.alloc (.cells #[] 23)).heap.size, 0, none⟩) 1 1 (by rfl) rfl ((Rw.new_at elV (w8.alloc (.cells #[] 23)) [x] 23 _ rfl).moved g40 (by rintro b0 o0 h0; cases h0; intro h1; simp [Value.ownBlock] at h1)) (by rw [hTk.out]; simp; omega) ?_
                intro A46 c46 w46 o46 x46 _ _
                refine ⟨x46, ?_⟩
                refine held_all (i := 12) rfl (by kernel_rfl) rfl ?_
                refine wp_appG elV w8 _ x46 _ _ rfl (k + 1) _ (T.take k ++ [x]) (T.drop k) (by rfl) o46 (by rw [List.length_append, hTk.out]; rfl) A6 c6 nD (by rfl) hnD.out (hR6.out.ext x46) (by rw [List.length_append, hTk.out, ← hnD.out]; simp; omega) ?_
                intro A48 c48 w48 o48 x48 _ _
                refine ⟨x48, ?_⟩
                refine held_assign (i := 13) rfl (by kernel_rfl) (by kernel_rfl) (by kernel_rfl) _ rfl rfl x48 _ (by simp [Act.put]; rfl) ?_
                refine held_done (by kernel_rfl) ?_ _
                have ON := NXT.out w48 A48 c48 o48 x48
                replace ON := Lib.hid ON
                rw [hkn1.out]
                clear o48 x48 o46 x46 NXT hkn1
                go_wp2_with fail
                exact ⟨⟨i + 1, A48, c48, by omega, by first | rfl | go_num | (congr 1; omega), by first | rfl | go_num | (congr 1; omega), ON.out⟩, by simp [intOf]; omega⟩
            · refine wp_buildE _ rfl x (by rfl) ?_
              refine ⟨((Ext.refl w8).alloc _), ?_⟩
              refine held_all (i := 0) rfl (by kernel_rfl) rfl ?_
              go_wp2_with fail
              refine ⟨(((Ext.refl w8).alloc _).alloc _), ?_⟩
              refine held_all (i := 4) rfl (by kernel_rfl) rfl ?_
              refine wp_appG elV w8 _ (((Ext.refl w8).alloc _).alloc _) _ _ rfl 0 _ [] (T.take k) (by rfl) (own_e1 w8 x) rfl At co k (by rfl) hTk.out.symm (hRt.out.ext (((Ext.refl w8).alloc _).alloc _)) (by rw [List.length_nil, hTk.out]; omega) ?_
              intro A40 c40 w40 o40 x40 g40 _
              rw [Nat.zero_add, List.nil_append] at o40
              rw [Nat.zero_add]
              refine ⟨x40, ?_⟩
              refine held_all (i := 10) rfl (by kernel_rfl) rfl ?_
              refine wp_appG elV w8 _ x40 _ _ rfl k _ (T.take k) [x] (by rfl) o40 hTk.out.symm (some ⟨w8.heap.size, 0, none⟩) 1 1 (by rfl) rfl ((Rw.new_at elV w8 [x] 23 _ rfl).alloc _ |>.moved g40 (by rintro b0 o0 h0; cases h0; intro h1; simp [Value.ownBlock] at h1)) (by rw [hTk.out]; simp; omega) ?_
              intro A46 c46 w46 o46 x46 _ _
              refine ⟨x46, ?_⟩
              refine held_all (i := 12) rfl (by kernel_rfl) rfl ?_
              refine wp_appG elV w8 _ x46 _ _ rfl (k + 1) _ (T.take k ++ [x]) (T.drop k) (by rfl) o46 (by rw [List.length_append, hTk.out]; rfl) A6 c6 nD (by rfl) hnD.out (hR6.out.ext x46) (by rw [List.length_append, hTk.out, ← hnD.out]; simp; omega) ?_
              intro A48 c48 w48 o48 x48 _ _
              refine ⟨x48, ?_⟩
              refine held_assign (i := 13) rfl (by kernel_rfl) (by kernel_rfl) (by kernel_rfl) _ rfl rfl x48 _ (by simp [Act.put]; rfl) ?_
              refine held_done (by kernel_rfl) ?_ _
              have ON := NXT.out w48 A48 c48 o48 x48
              replace ON := Lib.hid ON
              rw [hkn1.out]
              clear o48 x48 o46 x46 NXT hkn1
              go_wp2_with fail
              exact ⟨⟨i + 1, A48, c48, by omega, by first | rfl | go_num | (congr 1; omega), by first | rfl | go_num | (congr 1; omega), ON.out⟩, by simp [intOf]; omega⟩
        · have d0 : decide ((0 : Int) < (k : Int)) = false := decide_eq_false (by omega)
          have hcut : Hid (cutE x T i = k) := by
            show _ = _
            rw [hck.out]
            obtain rfl : k = 0 := by omega
            rfl
          go_wp2_with fail
          refine wp_region_later wq X3.out (by kernel_rfl) (by kernel_rfl) ?_
          go_big_quiet_step (fail)
          go_big_quiet_step (fail)
          go_big_quiet_step (fail)
          go_big_quiet_step (fail)
          go_big_quiet_step (fail)
          go_big_quiet_step (fail)
          go_big_quiet_step (fail)
          go_big_quiet_step (fail)
          go_big_quiet_step (fail)
          go_big_quiet_step (fail)
          go_big_quiet_step (fail)
          go_big_quiet_step (fail)
          go_big_quiet_step (fail)
          go_big_quiet_step (fail)
          refine wpQuiet_nil ?_
          rintro _ ⟨e6, rfl⟩
          clear d0 hk hck
          obtain ⟨Ad, cd, nD, hnD, hdc, hsl, hrd⟩ := slice_loP 63 11 (enc := encV) elemE sizeOfE (A := Ao) (O := T) (n := i) (c := co) (j := k) hTl.out.symm hki hco.1
          obtain ⟨At, hsl2, hrt⟩ := slice_hiE (A := Ao) (O := T) (n := i) (c := co) (j := k) hTl.out.symm hki hco.1
          have lD : Hid (nD + k = i) := by show _ = _; rw [hnD.out, List.length_drop, hTl.out]; omega
          have hTk : Hid ((T.take k).length = k) := by show _ = _; rw [List.length_take, hTl.out]; omega
          have bD : nD ≤ 1000 := by have := lD.out; omega
          obtain ⟨WE, hWE⟩ : ∃ W, e6.1 = W := ⟨_, rfl⟩
          have XE : Hid (Ext wq WE) := by rw [← hWE]; exact e6.2
          rw [hWE]
          clear hWE
          go_wp2_with (at_builtin; refine appG elV wq _ (XE.out.alloc _) _ _ (by rfl) (by rfl) 0 _ [] (T.drop k) (by rfl) (own_base (own_emptyG WE _ (Nat.le_refl _)) XE.out.size) rfl Ad cd nD (by rfl) hnD.out ((hrd _ (RT.out.ext XE.out)).alloc _) (by rw [List.length_nil, ← hnD.out]; omega) ?_; intro A6 c6 w6 o6 x6; rw [Nat.zero_add, List.nil_append] at o6; rw [Nat.zero_add])
          have hR6 : Hid (Re w6 A6 (T.drop k)) := by rw [hnD.out] at o6; exact Rw.own elV o6
          have X8 := Lib.hid x6
          obtain ⟨w8, hw8⟩ : ∃ W, w6.drewN 1 = W := ⟨_, rfl⟩
          have X68 : Ext w6 w8 := by rw [← hw8]; exact (Ext.refl w6).drewN 1
          replace hR6 := Lib.hid (hR6.out.ext X68); replace X8 := Lib.hid (X8.out.trans X68)
          have hRt := Lib.hid (hrt _ (RT.out.ext X8.out))
          have NXT : Hid (∀ w' A' c', w'.ownsRow w8.heap.size 23 11 (.slice A' (k + 1 + nD) c') (k + 1 + nD) (flat encV ((T.take k ++ [x]) ++ T.drop k)) → Ext w8 w' → Hid (Ext w w' ∧ w'.ownsRow w.heap.size 23 11 (.slice A' (i + 1) c') (i + 1) (flat encV ((l.take (i + 1)).foldl putE [])))) := fun w' A' c' ho hx' => by
            refine ⟨XR.out.trans (X8.out.trans hx'), ?_⟩
            have e1 : k + 1 + nD = i + 1 := by have := lD.out; omega
            rw [e1] at ho
            have e3 : (l.take (i + 1)).foldl putE [] = putE T x := by rw [take_snoc hx.out, List.foldl_append, ← hT.out]; rfl
            rw [e3]
            have e2 : (T.take k ++ [x]) ++ T.drop k = putE T x := by unfold putE; rw [hTl.out, hcut.out]; simp
            rw [← e2]
            exact own_base ho (XR.out.trans X8.out).size
          have hkn1 : Hid (k + 1 + nD = i + 1) := by show _ = _; have := lD.out; omega
          have hl8 : Hid (∀ W, Ext w8 W → W.rangeAt b (off + i * 11) (encV x)) := fun W hW => hr W (XR.out.trans (X8.out.trans hW)) i x hx.out
          clear o6 x6 hrd hrt hdc X68
          refine held_start (S := fun W => Ext w8 W) 14 rfl (by kernel_rfl) ?_
          have hW8 : { w6 with drawn := w6.drawn + 1 } = w8 := hw8
          rw [hW8]
          clear hW8 hw8
          refine held_move (i := 1) rfl (by kernel_rfl) (by kernel_rfl) (by kernel_rfl) _ rfl rfl (Ext.refl w8) _ (by simp [Act.put]; rfl) ?_
          refine held_move (i := 2) rfl (by kernel_rfl) (by kernel_rfl) (by kernel_rfl) _ rfl rfl (Ext.refl w8) _ (by simp [Act.put]; rfl) ?_
          refine held_takeV (i := 3) rfl (by kernel_rfl) (by kernel_rfl) (by kernel_rfl) (.slice At k co) rfl (fun w _ => by go_simp) (Ext.refl w8) _ (by simp [Act.put]; rfl) ?_
          refine held_move (i := 5) rfl (by kernel_rfl) (by kernel_rfl) (by kernel_rfl) _ rfl rfl (Ext.refl w8) _ (by simp [Act.put]; rfl) ?_
          refine held_move (i := 6) rfl (by kernel_rfl) (by kernel_rfl) (by kernel_rfl) _ rfl rfl (Ext.refl w8) _ (by simp [Act.put]; rfl) ?_
          refine held_takeV (i := 7) rfl (by kernel_rfl) (by kernel_rfl) (by kernel_rfl) (.pointer (some ⟨b, off + i * 11, none⟩)) rfl (fun w _ => by go_simp) (Ext.refl w8) _ (by simp [Act.put]; rfl) ?_
          refine held_takeV (i := 8) rfl (by kernel_rfl) (by kernel_rfl) (by kernel_rfl) (.agg (encV x).toArray) rfl (fun w h => run_load_mid 23 _ rfl b (off + i * 11) rfl (encV x) _ (hl8.out w h) Try.underlying23 rfl sizeE) (Ext.refl w8) _ (by simp [Act.put]; rfl) ?_
          refine held_move (i := 11) rfl (by kernel_rfl) (by kernel_rfl) (by kernel_rfl) _ rfl rfl (Ext.refl w8) _ (by simp [Act.put]; rfl) ?_
          clear hl8 hsl hsl2
          refine held_two (i := 0) (j := 9) rfl rfl (by kernel_rfl) rfl rfl ?_ ?_
          · go_wp2_with fail
            refine ⟨((Ext.refl w8).alloc _), ?_⟩
            refine held_two (i := 4) (j := 9) rfl rfl (by kernel_rfl) rfl rfl ?_ ?_
            · refine wp_appG elV w8 _ ((Ext.refl w8).alloc _) _ _ rfl 0 _ [] (T.take k) (by rfl) (own_emptyG w8 _ (Nat.le_refl _)) rfl At co k (by rfl) hTk.out.symm (hRt.out.ext ((Ext.refl w8).alloc _)) (by rw [List.length_nil, hTk.out]; omega) ?_
              intro A40 c40 w40 o40 x40 g40 _
              rw [Nat.zero_add, List.nil_append] at o40
              rw [Nat.zero_add]
              refine ⟨x40, ?_⟩
              refine held_all (i := 9) rfl (by kernel_rfl) rfl ?_
              refine wp_buildE _ rfl x (by rfl) ?_
              refine ⟨x40.alloc _, ?_⟩
              refine held_all (i := 10) rfl (by kernel_rfl) rfl ?_
              refine wp_appG elV w8 _ (x40.alloc _) _ _ rfl k _ (T.take k) [x] (by rfl) (own_below o40 ((Ext.refl w40).alloc _)) hTk.out.symm (some ⟨w40.heap.size, 0, none⟩) 1 1 (by rfl) rfl (Rw.new_at elV w40 [x] 23 _ rfl) (by rw [hTk.out]; simp; omega) ?_
              intro A46 c46 w46 o46 x46 _ _
              refine ⟨x46, ?_⟩
              refine held_all (i := 12) rfl (by kernel_rfl) rfl ?_
              refine wp_appG elV w8 _ x46 _ _ rfl (k + 1) _ (T.take k ++ [x]) (T.drop k) (by rfl) o46 (by rw [List.length_append, hTk.out]; rfl) A6 c6 nD (by rfl) hnD.out (hR6.out.ext x46) (by rw [List.length_append, hTk.out, ← hnD.out]; simp; omega) ?_
              intro A48 c48 w48 o48 x48 _ _
              refine ⟨x48, ?_⟩
              refine held_assign (i := 13) rfl (by kernel_rfl) (by kernel_rfl) (by kernel_rfl) _ rfl rfl x48 _ (by simp [Act.put]; rfl) ?_
              refine held_done (by kernel_rfl) ?_ _
              have ON := NXT.out w48 A48 c48 o48 x48
              replace ON := Lib.hid ON
              rw [hkn1.out]
              clear o48 x48 o46 x46 NXT hkn1
              go_wp2_with fail
              exact ⟨⟨i + 1, A48, c48, by omega, by first | rfl | go_num | (congr 1; omega), by first | rfl | go_num | (congr 1; omega), ON.out⟩, by simp [intOf]; omega⟩
            · refine wp_buildE _ rfl x (by rfl) ?_
              refine ⟨(((Ext.refl w8).alloc _).alloc _), ?_⟩
              refine held_all (i := 4) rfl (by kernel_rfl) rfl ?_
              refine wp_appG elV w8 _ (((Ext.refl w8).alloc _).alloc _) _ _ rfl 0 _ [] (T.take k) (by rfl) (own_below (own_emptyG w8 _ (Nat.le_refl _)) ((Ext.refl _).alloc _)) rfl At co k (by rfl) hTk.out.symm (hRt.out.ext (((Ext.refl w8).alloc _).alloc _)) (by rw [List.length_nil, hTk.out]; omega) ?_
              intro A40 c40 w40 o40 x40 g40 _
              rw [Nat.zero_add, List.nil_append] at o40
              rw [Nat.zero_add]
              refine ⟨x40, ?_⟩
              refine held_all (i := 10) rfl (by kernel_rfl) rfl ?_
              refine wp_appG elV w8 _ x40 _ _ rfl k _ (T.take k) [x] (by rfl) o40 hTk.out.symm (some ⟨(w8.alloc (.cells #[] 23)).heap.size, 0, none⟩) 1 1 (by rfl) rfl ((Rw.new_at elV (w8.alloc (.cells #[] 23)) [x] 23 _ rfl).moved g40 (by rintro b0 o0 h0; cases h0; intro h1; simp [Value.ownBlock] at h1)) (by rw [hTk.out]; simp; omega) ?_
              intro A46 c46 w46 o46 x46 _ _
              refine ⟨x46, ?_⟩
              refine held_all (i := 12) rfl (by kernel_rfl) rfl ?_
              refine wp_appG elV w8 _ x46 _ _ rfl (k + 1) _ (T.take k ++ [x]) (T.drop k) (by rfl) o46 (by rw [List.length_append, hTk.out]; rfl) A6 c6 nD (by rfl) hnD.out (hR6.out.ext x46) (by rw [List.length_append, hTk.out, ← hnD.out]; simp; omega) ?_
              intro A48 c48 w48 o48 x48 _ _
              refine ⟨x48, ?_⟩
              refine held_assign (i := 13) rfl (by kernel_rfl) (by kernel_rfl) (by kernel_rfl) _ rfl rfl x48 _ (by simp [Act.put]; rfl) ?_
              refine held_done (by kernel_rfl) ?_ _
              have ON := NXT.out w48 A48 c48 o48 x48
              replace ON := Lib.hid ON
              rw [hkn1.out]
              clear o48 x48 o46 x46 NXT hkn1
              go_wp2_with fail
              exact ⟨⟨i + 1, A48, c48, by omega, by first | rfl | go_num | (congr 1; omega), by first | rfl | go_num | (congr 1; omega), ON.out⟩, by simp [intOf]; omega⟩
          · refine wp_buildE _ rfl x (by rfl) ?_
            refine ⟨((Ext.refl w8).alloc _), ?_⟩
            refine held_all (i := 0) rfl (by kernel_rfl) rfl ?_
            go_wp2_with fail
            refine ⟨(((Ext.refl w8).alloc _).alloc _), ?_⟩
            refine held_all (i := 4) rfl (by kernel_rfl) rfl ?_
            refine wp_appG elV w8 _ (((Ext.refl w8).alloc _).alloc _) _ _ rfl 0 _ [] (T.take k) (by rfl) (own_e1 w8 x) rfl At co k (by rfl) hTk.out.symm (hRt.out.ext (((Ext.refl w8).alloc _).alloc _)) (by rw [List.length_nil, hTk.out]; omega) ?_
            intro A40 c40 w40 o40 x40 g40 _
            rw [Nat.zero_add, List.nil_append] at o40
            rw [Nat.zero_add]
            refine ⟨x40, ?_⟩
            refine held_all (i := 10) rfl (by kernel_rfl) rfl ?_
            refine wp_appG elV w8 _ x40 _ _ rfl k _ (T.take k) [x] (by rfl) o40 hTk.out.symm (some ⟨w8.heap.size, 0, none⟩) 1 1 (by rfl) rfl ((Rw.new_at elV w8 [x] 23 _ rfl).alloc _ |>.moved g40 (by rintro b0 o0 h0; cases h0; intro h1; simp [Value.ownBlock] at h1)) (by rw [hTk.out]; simp; omega) ?_
            intro A46 c46 w46 o46 x46 _ _
            refine ⟨x46, ?_⟩
            refine held_all (i := 12) rfl (by kernel_rfl) rfl ?_
            refine wp_appG elV w8 _ x46 _ _ rfl (k + 1) _ (T.take k ++ [x]) (T.drop k) (by rfl) o46 (by rw [List.length_append, hTk.out]; rfl) A6 c6 nD (by rfl) hnD.out (hR6.out.ext x46) (by rw [List.length_append, hTk.out, ← hnD.out]; simp; omega) ?_
            intro A48 c48 w48 o48 x48 _ _
            refine ⟨x48, ?_⟩
            refine held_assign (i := 13) rfl (by kernel_rfl) (by kernel_rfl) (by kernel_rfl) _ rfl rfl x48 _ (by simp [Act.put]; rfl) ?_
            refine held_done (by kernel_rfl) ?_ _
            have ON := NXT.out w48 A48 c48 o48 x48
            replace ON := Lib.hid ON
            rw [hkn1.out]
            clear o48 x48 o46 x46 NXT hkn1
            go_wp2_with fail
            exact ⟨⟨i + 1, A48, c48, by omega, by first | rfl | go_num | (congr 1; omega), by first | rfl | go_num | (congr 1; omega), ON.out⟩, by simp [intOf]; omega⟩
    · have q1 : ¬ ((i : Int) < (n : Int)) := by omega
      have ei : i = n := by omega
      subst ei
      have o := HO.out.2
      rw [List.take_of_length_le (by rw [hn.out]; exact Nat.le_refl _)] at o
      have el : (sortE l).length = i := by rw [sortE_len]; exact hn.out
      have HO2 : Hid (Ext w wr ∧ wr.ownsRow w.heap.size 23 11 (.slice Ao (sortE l).length co) (sortE l).length (flat encV (sortE l))) := ⟨HO.out.1, by rw [el]; exact o⟩
      clear o HO
      go_wp2_with fail
      go_ret
      exact ⟨Ao, co, by rw [el]; rfl, Rw.own elV HO2.out.2, HO2.out.1, HO2.out.2⟩
end Go.Proofs.Ytmbjbbflhlndcaa
