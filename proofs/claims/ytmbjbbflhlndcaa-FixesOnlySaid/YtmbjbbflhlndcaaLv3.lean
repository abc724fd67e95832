/-
  lumperlaw08.EventSorts: its walk.
-/
import Derived.Test.YtmbjbbflhlndcaaLs2
namespace Go.Proofs.Ytmbjbbflhlndcaa
open Go.RowKit BigFrame
set_option linter.unusedVariables false
set_option linter.unusedSimpArgs false

/-- A struct in the midst of a block, read in a region that draws. -/
theorem quiet_mid {ops : Array Oper} {C : World → Prop} {Q : Act → Prop} {a : Act} {o : Oper} {rest : List Oper} (hw : Region.wanted o (yielded ops a.tmps) = true) (ty : TypeId) (x : Operand) (ho : o.op = .load ty x)
    (b off : Nat) (hx : a.eval x = .pointer (some ⟨b, off, none⟩)) (cs : List Value) (hg : ∀ w, C w → w.rangeAt b off cs) (d : TypeDesc)
    (hu : Try.prog.underlying ty = some d) (hd : d.isRow = true) (hi : (Try.prog.info? ty).map (·.size) = some cs.length)
    (a' : Act) (ha : a.put o.dst (.agg cs.toArray) = a') (h : wpQuiet Try.prog ops C Q rest a') : wpQuiet Try.prog ops C Q (o :: rest) a :=
  wpQuiet_want hw fun K hK => ⟨_, fun w hw => by
    have := run_load_mid (w := w) (a := a) ty x ho b off hx cs d (hg w hw) hu hd hi
    unfold Oper.quietAt
    rw [this]
    exact ⟨rfl, rfl⟩, hK _ (ha ▸ h)⟩
theorem sort_count (L : List Ev) (x : Ev) : (L.filter (fun y => decide (y = x))).length = ((sortE L).filter (fun y => decide (y = x))).length := by
  have h := sortE_stab L x
  have e : ∀ M : List Ev, M.filter (fun y => decide (y = x)) = (M.filter (Stb.eqv lessE x)).filter (fun y => decide (y = x)) := fun M => by
    rw [List.filter_filter]
    apply List.filter_congr
    intro y _
    by_cases hy : y = x
    · subst hy; simp [Stb.eqv_self ordE]
    · simp [hy]
  rw [e L, e (sortE L), h]

theorem sizeE : (Try.prog.info? 23).map (·.size) = some 11 := sizeV
/-- Where a row lies. -/
theorem Rw.far {α : Type} {enc : α → List Value} {k : Nat} {w : World} {A : Option Addr} {l : List α} (h : Rw enc k w A l) (hne : l ≠ []) : ∃ b off, A = some ⟨b, off, none⟩ ∧ ∀ W, Ext w W → ∀ j x, l[j]? = some x → W.rangeAt b (off + j * k) (enc x) := by
  obtain ⟨b, off, hA, hb, hc⟩ := h hne
  refine ⟨b, off, hA, fun W hX j x hx i u hu => ?_⟩
  obtain ⟨hj, rfl⟩ := List.getElem?_eq_some_iff.1 hx
  rw [(hX.cell (p := ⟨b, off + j * k + i, none⟩) hb)]
  exact hc j hj i u hu
def cntE' (x : Ev) (M : List Ev) : Nat := (M.filter (fun y => decide (y = x))).length
theorem cnt_snoc {x y : Ev} {M : List Ev} {k : Nat} (h : M[k]? = some y) : cntE' x (M.take (k + 1)) = cntE' x (M.take k) + (if y = x then 1 else 0) := by
  unfold cntE'
  rw [take_snoc h, List.filter_append, List.length_append]
  by_cases e : y = x
  · simp [e]
  · simp [e]
theorem sorted_next {l : List Ev} {i : Nat} {x y : Ev} (hx : (sortE l)[i]? = some x) (hy : (sortE l)[i + 1]? = some y) : lessE y x = false := by
  obtain ⟨h1, rfl⟩ := List.getElem?_eq_some_iff.1 hx
  obtain ⟨h2, rfl⟩ := List.getElem?_eq_some_iff.1 hy
  exact (List.pairwise_iff_getElem.1 (sortE_sorted l)) _ _ h1 h2 (by omega)

set_option maxRecDepth 100000 in
set_option maxHeartbeats 8000000 in
theorem sorts08 {w : World} {A : Option Addr} {l : List Ev} (h : Re w A l) (c : Nat) (hc : l.length ≤ c ∧ c ≤ maxLen) : Calls Try.prog 11 #[.slice A l.length c] w (RetB w true) := by
  replace h := Lib.hid h
  obtain ⟨n, hn⟩ : ∃ n, l.length = n := ⟨_, rfl⟩
  rw [hn]
  replace hn := Lib.hid hn
  go_enter Try.func11, Try.ntmps11
  go_wp2_with fail
  refine (awake08 _).mono ?_
  rintro e1 w1 ⟨rfl, y1⟩
  have X1 := Lib.hid y1; have L1 := Lib.hid (h.out.ext y1)
  clear y1
  by_cases hbl : 100 < n
  · have d1 : decide ((100 : Int) < (n : Int)) = true := decide_eq_true (by omega)
    go_wp2_with fail
    go_ret
    exact ⟨rfl, X1.out⟩
  have d1 : decide ((100 : Int) < (n : Int)) = false := decide_eq_false (by omega)
  have n100 : n ≤ 100 := by omega
  clear hbl
  have kS := pSort L1.out (by rw [hn.out]; omega) c
  rw [hn.out] at kS
  go_wp2_with fail
  refine kS.mono ?_
  have hSl := sortE_len l
  rw [hn.out] at hSl
  rintro e2 w2 ⟨A4, c4, rfl, r4, x4, _⟩
  obtain ⟨S, hS⟩ : ∃ S, sortE l = S := ⟨_, rfl⟩
  rw [hS] at r4 hSl ⊢
  rw [hSl]
  replace hS := Lib.hid hS; replace hSl := Lib.hid hSl
  have X2 := Lib.hid (X1.out.trans x4); have L2 := Lib.hid (L1.out.ext x4); have S2 := Lib.hid r4
  clear x4 r4 kS X1 L1 h
  obtain ⟨u0, hu0⟩ : ∃ u, w2 = u := ⟨_, rfl⟩
  subst hu0
  go_wp2_with fail
  go_loopw [5] (fun vi wr => ∃ i : Nat, i ≤ n ∧ vi = .int .i64 i ∧ Hid (Ext w2 wr)) (fun vi _ => n - (intOf vi).toNat)
  case atStart => exact ⟨0, Nat.zero_le _, rfl, Ext.refl _⟩
  case round =>
    obtain ⟨i, hin, rfl, X⟩ := hrel
    by_cases hlt : i < n
    · have q1 : (i : Int) < (n : Int) := by omega
      obtain ⟨x, hx⟩ : ∃ x, l[i]? = some x := ⟨_, List.getElem?_eq_getElem (by rw [hn.out]; exact hlt)⟩
      replace hx := Lib.hid hx
      obtain ⟨b, off, rfl, hr⟩ := L2.out.far (by rintro rfl; have := hn.out; simp at this; omega)
      obtain ⟨bs, os, rfl, hs⟩ := S2.out.far (by rintro rfl; have := hSl.out; simp at this; omega)
      go_wp2_with fail
      go_loopw [6, 7, 8] (fun vn vm vk wr => ∃ (k n1 m1 : Nat), k ≤ n ∧ vn = .int .i64 n1 ∧ vm = .int .i64 m1 ∧ vk = .int .i64 k ∧ Hid (n1 = cntE' x (l.take k)) ∧ Hid (m1 = cntE' x (S.take k)) ∧ Hid (Ext w2 wr)) (fun _ _ vk _ => n - (intOf vk).toNat)
      case atStart => exact ⟨0, 0, 0, Nat.zero_le _, rfl, rfl, rfl, rfl, rfl, X.out⟩
      case round =>
        clear X
        obtain ⟨k, n1, m1, hkn, rfl, rfl, rfl, hn1, hm1, X⟩ := hrel
        have ln1 : n1 ≤ 100 := by
          rw [hn1.out]; unfold cntE'
          refine Nat.le_trans (List.length_filter_le _ _) ?_
          rw [List.length_take]; omega
        have lm1 : m1 ≤ 100 := by
          rw [hm1.out]; unfold cntE'
          refine Nat.le_trans (List.length_filter_le _ _) ?_
          rw [List.length_take]; omega
        by_cases hk : k < n
        · have q2 : (k : Int) < (n : Int) := by omega
          obtain ⟨y, hy⟩ : ∃ y, l[k]? = some y := ⟨_, List.getElem?_eq_getElem (by rw [hn.out]; exact hk)⟩
          obtain ⟨z, hz⟩ : ∃ z, S[k]? = some z := ⟨_, List.getElem?_eq_getElem (by rw [hSl.out]; exact hk)⟩
          have hn2 := Lib.hid (cnt_snoc (x := x) hy)
          have hm2 := Lib.hid (cnt_snoc (x := x) hz)
          rw [← hn1.out] at hn2
          rw [← hm1.out] at hm2
          replace hy := Lib.hid hy; replace hz := Lib.hid hz
          have hq1 := fun W => eqInV y x W
          have hq2 := fun W => eqInV z x W
          by_cases e1 : y = x
          · rw [if_pos e1] at hn2
            rw [decide_eq_true e1] at hq1
            clear e1
            by_cases e2 : z = x
            · rw [if_pos e2] at hm2
              rw [decide_eq_true e2] at hq2
              clear e2
              go_wp2_with fail
              refine wp_region_later w2 X.out (by kernel_rfl) (by kernel_rfl) ?_
              go_big_quiet_step (fail)
              go_big_quiet_step (fail)
              go_big_quiet_step (fail)
              refine quiet_mid (by rfl) 23 _ rfl b (off + k * 11) rfl (encV y) (fun W ⟨e, he⟩ => by subst he; exact hr _ e.2 k y hy.out) _ Try.underlying23 rfl sizeE _ (by simp [Act.put]; rfl) ?_
              go_big_quiet_step (fail)
              go_big_quiet_step (fail)
              go_big_quiet_step (fail)
              refine quiet_mid (by rfl) 23 _ rfl b (off + i * 11) rfl (encV x) (fun W ⟨e, he⟩ => by subst he; exact hr _ e.2 i x hx.out) _ Try.underlying23 rfl sizeE _ (by simp [Act.put]; rfl) ?_
              go_big_quiet_step (fail)
              refine wpQuiet_nil ?_
              rintro _ ⟨e13, rfl⟩
              go_wp2_with fail
              refine wp_region_later w2 e13.2 (by kernel_rfl) (by kernel_rfl) ?_
              go_big_quiet_step (fail)
              go_big_quiet_step (fail)
              go_big_quiet_step (fail)
              go_big_quiet_step (fail)
              go_big_quiet_step (fail)
              go_big_quiet_step (fail)
              go_big_quiet_step (fail)
              go_big_quiet_step (fail)
              refine quiet_mid (by rfl) 23 _ rfl bs (os + k * 11) rfl (encV z) (fun W ⟨e, he⟩ => by subst he; exact hs _ e.2 k z hz.out) _ Try.underlying23 rfl sizeE _ (by simp [Act.put]; rfl) ?_
              go_big_quiet_step (fail)
              go_big_quiet_step (fail)
              go_big_quiet_step (fail)
              refine quiet_mid (by rfl) 23 _ rfl b (off + i * 11) rfl (encV x) (fun W ⟨e, he⟩ => by subst he; exact hr _ e.2 i x hx.out) _ Try.underlying23 rfl sizeE _ (by simp [Act.put]; rfl) ?_
              go_big_quiet_step (fail)
              go_big_quiet_step (fail)
              refine wpQuiet_nil ?_
              rintro _ ⟨e15, rfl⟩
              go_wp2_with fail
              exact ⟨⟨k + 1, n1 + 1, m1 + 1, by omega, by first | rfl | go_num | (congr 1; omega), by first | rfl | go_num | (congr 1; omega), by first | rfl | go_num | (congr 1; omega), by rw [hn2.out]; show n1 + 1 = _; omega, by rw [hm2.out]; show m1 + 1 = _; omega, Lib.hid e15.2⟩, by simp [intOf]; omega⟩
            · rw [if_neg e2] at hm2
              rw [decide_eq_false e2] at hq2
              clear e2
              go_wp2_with fail
              refine wp_region_later w2 X.out (by kernel_rfl) (by kernel_rfl) ?_
              go_big_quiet_step (fail)
              go_big_quiet_step (fail)
              go_big_quiet_step (fail)
              refine quiet_mid (by rfl) 23 _ rfl b (off + k * 11) rfl (encV y) (fun W ⟨e, he⟩ => by subst he; exact hr _ e.2 k y hy.out) _ Try.underlying23 rfl sizeE _ (by simp [Act.put]; rfl) ?_
              go_big_quiet_step (fail)
              go_big_quiet_step (fail)
              go_big_quiet_step (fail)
              refine quiet_mid (by rfl) 23 _ rfl b (off + i * 11) rfl (encV x) (fun W ⟨e, he⟩ => by subst he; exact hr _ e.2 i x hx.out) _ Try.underlying23 rfl sizeE _ (by simp [Act.put]; rfl) ?_
              go_big_quiet_step (fail)
              refine wpQuiet_nil ?_
              rintro _ ⟨e13, rfl⟩
              go_wp2_with fail
              refine wp_region_later w2 e13.2 (by kernel_rfl) (by kernel_rfl) ?_
              go_big_quiet_step (fail)
              go_big_quiet_step (fail)
              go_big_quiet_step (fail)
              go_big_quiet_step (fail)
              go_big_quiet_step (fail)
              go_big_quiet_step (fail)
              go_big_quiet_step (fail)
              go_big_quiet_step (fail)
              refine quiet_mid (by rfl) 23 _ rfl bs (os + k * 11) rfl (encV z) (fun W ⟨e, he⟩ => by subst he; exact hs _ e.2 k z hz.out) _ Try.underlying23 rfl sizeE _ (by simp [Act.put]; rfl) ?_
              go_big_quiet_step (fail)
              go_big_quiet_step (fail)
              go_big_quiet_step (fail)
              refine quiet_mid (by rfl) 23 _ rfl b (off + i * 11) rfl (encV x) (fun W ⟨e, he⟩ => by subst he; exact hr _ e.2 i x hx.out) _ Try.underlying23 rfl sizeE _ (by simp [Act.put]; rfl) ?_
              go_big_quiet_step (fail)
              go_big_quiet_step (fail)
              refine wpQuiet_nil ?_
              rintro _ ⟨e15, rfl⟩
              go_wp2_with fail
              exact ⟨⟨k + 1, n1 + 1, m1 + 0, by omega, by first | rfl | go_num | (congr 1; omega), by first | rfl | go_num | (congr 1; omega), by first | rfl | go_num | (congr 1; omega), by rw [hn2.out]; show n1 + 1 = _; omega, by rw [hm2.out]; show m1 + 0 = _; omega, Lib.hid e15.2⟩, by simp [intOf]; omega⟩
          · rw [if_neg e1] at hn2
            rw [decide_eq_false e1] at hq1
            clear e1
            by_cases e2 : z = x
            · rw [if_pos e2] at hm2
              rw [decide_eq_true e2] at hq2
              clear e2
              go_wp2_with fail
              refine wp_region_later w2 X.out (by kernel_rfl) (by kernel_rfl) ?_
              go_big_quiet_step (fail)
              go_big_quiet_step (fail)
              go_big_quiet_step (fail)
              refine quiet_mid (by rfl) 23 _ rfl b (off + k * 11) rfl (encV y) (fun W ⟨e, he⟩ => by subst he; exact hr _ e.2 k y hy.out) _ Try.underlying23 rfl sizeE _ (by simp [Act.put]; rfl) ?_
              go_big_quiet_step (fail)
              go_big_quiet_step (fail)
              go_big_quiet_step (fail)
              refine quiet_mid (by rfl) 23 _ rfl b (off + i * 11) rfl (encV x) (fun W ⟨e, he⟩ => by subst he; exact hr _ e.2 i x hx.out) _ Try.underlying23 rfl sizeE _ (by simp [Act.put]; rfl) ?_
              go_big_quiet_step (fail)
              refine wpQuiet_nil ?_
              rintro _ ⟨e13, rfl⟩
              go_wp2_with fail
              refine wp_region_later w2 e13.2 (by kernel_rfl) (by kernel_rfl) ?_
              go_big_quiet_step (fail)
              go_big_quiet_step (fail)
              go_big_quiet_step (fail)
              go_big_quiet_step (fail)
              go_big_quiet_step (fail)
              go_big_quiet_step (fail)
              go_big_quiet_step (fail)
              go_big_quiet_step (fail)
              refine quiet_mid (by rfl) 23 _ rfl bs (os + k * 11) rfl (encV z) (fun W ⟨e, he⟩ => by subst he; exact hs _ e.2 k z hz.out) _ Try.underlying23 rfl sizeE _ (by simp [Act.put]; rfl) ?_
              go_big_quiet_step (fail)
              go_big_quiet_step (fail)
              go_big_quiet_step (fail)
              refine quiet_mid (by rfl) 23 _ rfl b (off + i * 11) rfl (encV x) (fun W ⟨e, he⟩ => by subst he; exact hr _ e.2 i x hx.out) _ Try.underlying23 rfl sizeE _ (by simp [Act.put]; rfl) ?_
              go_big_quiet_step (fail)
              go_big_quiet_step (fail)
              refine wpQuiet_nil ?_
              rintro _ ⟨e15, rfl⟩
              go_wp2_with fail
              exact ⟨⟨k + 1, n1 + 0, m1 + 1, by omega, by first | rfl | go_num | (congr 1; omega), by first | rfl | go_num | (congr 1; omega), by first | rfl | go_num | (congr 1; omega), by rw [hn2.out]; show n1 + 0 = _; omega, by rw [hm2.out]; show m1 + 1 = _; omega, Lib.hid e15.2⟩, by simp [intOf]; omega⟩
            · rw [if_neg e2] at hm2
              rw [decide_eq_false e2] at hq2
              clear e2
              go_wp2_with fail
              refine wp_region_later w2 X.out (by kernel_rfl) (by kernel_rfl) ?_
              go_big_quiet_step (fail)
              go_big_quiet_step (fail)
              go_big_quiet_step (fail)
              refine quiet_mid (by rfl) 23 _ rfl b (off + k * 11) rfl (encV y) (fun W ⟨e, he⟩ => by subst he; exact hr _ e.2 k y hy.out) _ Try.underlying23 rfl sizeE _ (by simp [Act.put]; rfl) ?_
              go_big_quiet_step (fail)
              go_big_quiet_step (fail)
              go_big_quiet_step (fail)
              refine quiet_mid (by rfl) 23 _ rfl b (off + i * 11) rfl (encV x) (fun W ⟨e, he⟩ => by subst he; exact hr _ e.2 i x hx.out) _ Try.underlying23 rfl sizeE _ (by simp [Act.put]; rfl) ?_
              go_big_quiet_step (fail)
              refine wpQuiet_nil ?_
              rintro _ ⟨e13, rfl⟩
              go_wp2_with fail
              refine wp_region_later w2 e13.2 (by kernel_rfl) (by kernel_rfl) ?_
              go_big_quiet_step (fail)
              go_big_quiet_step (fail)
              go_big_quiet_step (fail)
              go_big_quiet_step (fail)
              go_big_quiet_step (fail)
              go_big_quiet_step (fail)
              go_big_quiet_step (fail)
              go_big_quiet_step (fail)
              refine quiet_mid (by rfl) 23 _ rfl bs (os + k * 11) rfl (encV z) (fun W ⟨e, he⟩ => by subst he; exact hs _ e.2 k z hz.out) _ Try.underlying23 rfl sizeE _ (by simp [Act.put]; rfl) ?_
              go_big_quiet_step (fail)
              go_big_quiet_step (fail)
              go_big_quiet_step (fail)
              refine quiet_mid (by rfl) 23 _ rfl b (off + i * 11) rfl (encV x) (fun W ⟨e, he⟩ => by subst he; exact hr _ e.2 i x hx.out) _ Try.underlying23 rfl sizeE _ (by simp [Act.put]; rfl) ?_
              go_big_quiet_step (fail)
              go_big_quiet_step (fail)
              refine wpQuiet_nil ?_
              rintro _ ⟨e15, rfl⟩
              go_wp2_with fail
              exact ⟨⟨k + 1, n1 + 0, m1 + 0, by omega, by first | rfl | go_num | (congr 1; omega), by first | rfl | go_num | (congr 1; omega), by first | rfl | go_num | (congr 1; omega), by rw [hn2.out]; show n1 + 0 = _; omega, by rw [hm2.out]; show m1 + 0 = _; omega, Lib.hid e15.2⟩, by simp [intOf]; omega⟩
        · have q2 : ¬ ((k : Int) < (n : Int)) := by omega
          have ek : k = n := by omega
          have hnm : n1 = m1 := by
            rw [hn1.out, hm1.out, ek, List.take_of_length_le (by rw [hn.out]; exact Nat.le_refl _), List.take_of_length_le (by rw [hSl.out]; exact Nat.le_refl _), ← hS.out]
            exact sort_count l x
          have z1 : ((n1 : Int) != (m1 : Int)) = false := by rw [hnm]; simp
          replace hnm := Lib.hid hnm
          clear ek
          go_wp2_with fail
          have hkn2 := hkn
          by_cases hi0 : 0 < i
          · obtain ⟨j, hj⟩ : ∃ j, i = j + 1 := ⟨i - 1, by omega⟩
            obtain ⟨xs, hxs⟩ : ∃ y, S[i]? = some y := ⟨_, List.getElem?_eq_getElem (by rw [hSl.out]; exact hlt)⟩
            obtain ⟨ys, hys⟩ : ∃ y, S[j]? = some y := ⟨_, List.getElem?_eq_getElem (by rw [hSl.out]; omega)⟩
            have hless : lessE xs ys = false := by
              rw [← hS.out, hj] at hxs
              rw [← hS.out] at hys
              exact sorted_next hys hxs
            have kL : Hid (∀ W, Calls Try.prog 38 #[.agg (encV xs).toArray, .agg (encV ys).toArray] W (RetB W false)) := fun W => hless ▸ pLess xs ys W
            have d0 : decide ((0 : Int) < (i : Int)) = true := decide_eq_true (by omega)
            have wj : (i : Int) - 1 = (j : Int) := by omega
            have wk : IntKind.i64.wrap (j : Int) = (j : Int) := by rw [IntKind.wrap_i64]; omega
            have q3 : (j : Int) < (n : Int) := by omega
            have q4 : decide ((i : Int) < (n : Int)) = true := decide_eq_true (by omega)
            replace hxs := Lib.hid hxs; replace hys := Lib.hid hys; replace hj := Lib.hid hj
            refine wp_region_later w2 X.out (by kernel_rfl) (by kernel_rfl) ?_
            go_big_quiet_step (fail)
            go_big_quiet_step (fail)
            go_big_quiet_step (fail)
            go_big_quiet_step (fail)
            go_big_quiet_step (fail)
            go_big_quiet_step (fail)
            go_big_quiet_step (fail)
            go_big_quiet_step (fail)
            go_big_quiet_step (fail)
            go_big_quiet_step (fail)
            go_big_quiet_step (fail)
            go_big_quiet_step (fail)
            go_big_quiet_step (fail)
            go_big_quiet_step (fail)
            go_big_quiet_step (fail)
            go_big_quiet_step (fail)
            refine quiet_mid (by rfl) 23 _ rfl bs (os + i * 11) rfl (encV xs) (fun W ⟨e, he⟩ => by subst he; exact hs _ e.2 i xs hxs.out) _ Try.underlying23 rfl sizeE _ (by simp [Act.put]; rfl) ?_
            go_big_quiet_step (fail)
            go_big_quiet_step (fail)
            go_big_quiet_step (fail)
            go_big_quiet_step (fail)
            refine quiet_mid (by rfl) 23 _ rfl bs (os + j * 11) rfl (encV ys) (fun W ⟨e, he⟩ => by subst he; exact hs _ e.2 j ys hys.out) _ Try.underlying23 rfl sizeE _ (by simp [Act.put]; rfl) ?_
            go_big_quiet_step (exact later_bool (kL.out _))
            go_big_quiet_step (fail)
            go_big_quiet_step (fail)
            refine wpQuiet_nil ?_
            rintro _ ⟨e17, rfl⟩
            have X17 := Lib.hid e17.2
            go_wp2_with fail
            exact ⟨⟨i + 1, by omega, by first | rfl | go_num | (congr 1; omega), X17⟩, by simp [intOf]; omega⟩
          · have d0 : decide ((0 : Int) < (i : Int)) = false := decide_eq_false (by omega)
            refine wp_region_later w2 X.out (by kernel_rfl) (by kernel_rfl) ?_
            go_big_quiet_step (fail)
            go_big_quiet_step (fail)
            go_big_quiet_step (fail)
            go_big_quiet_step (fail)
            go_big_quiet_step (fail)
            go_big_quiet_step (fail)
            go_big_quiet_step (fail)
            go_big_quiet_step (fail)
            go_big_quiet_step (fail)
            go_big_quiet_step (fail)
            go_big_quiet_step (fail)
            go_big_quiet_step (fail)
            go_big_quiet_step (fail)
            go_big_quiet_step (fail)
            go_big_quiet_step (fail)
            go_big_quiet_step (fail)
            go_big_quiet_step (fail)
            go_big_quiet_step (fail)
            go_big_quiet_step (fail)
            go_big_quiet_step (fail)
            go_big_quiet_step (fail)
            go_big_quiet_step (fail)
            go_big_quiet_step (fail)
            go_big_quiet_step (fail)
            go_big_quiet_step (fail)
            refine wpQuiet_nil ?_
            rintro _ ⟨e17, rfl⟩
            have X17 := Lib.hid e17.2
            go_wp2_with fail
            exact ⟨⟨i + 1, by omega, by first | rfl | go_num | (congr 1; omega), X17⟩, by simp [intOf]; omega⟩
    · have q1 : ¬ ((i : Int) < (n : Int)) := by omega
      go_wp2_with fail
      have kS2 := pSort (S2.out.ext X.out) (by rw [hSl.out]; omega) c4
      have hSS : sortE S = S := by rw [← hS.out, sortE_sort]
      rw [hSS, hSl.out] at kS2
      refine kS2.mono ?_
      rintro e5 w5 ⟨A5, c5, rfl, r5, x5, _⟩
      have kE := rSameE r5 ((S2.out.ext X.out).ext x5) (by rw [hSl.out]; omega) c5 c4 (by rw [hSl.out]; omega)
      rw [decide_eq_true (rfl : S = S), hSl.out] at kE
      rw [hSl.out]
      have X5 := Lib.hid ((X2.out.trans X.out).trans x5)
      clear r5 x5 kS2 hSS
      replace kE := Lib.hid kE
      go_wp2_with fail
      refine kE.out.mono ?_
      rintro e6 w6 ⟨rfl, x6⟩
      have X6 := Lib.hid (X5.out.trans x6)
      clear x6 X5 kE
      go_wp2_with fail
      go_ret
      exact ⟨rfl, X6.out⟩
end Go.Proofs.Ytmbjbbflhlndcaa
