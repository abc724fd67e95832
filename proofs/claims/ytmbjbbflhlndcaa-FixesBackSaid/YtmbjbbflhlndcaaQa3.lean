/-
  fixes: has, Find; lumperref13: at, Find.
  punch.Touch, lumperref11.Touch.
  slices.Delete of one event out of a row of the call's own.
-/
import Derived.Test.YtmbjbbflhlndcaaLw3
import Derived.Deep.RegionLaw
import Derived.Lib.SlicesDelete
namespace Go.Proofs.Ytmbjbbflhlndcaa
open Go.RowKit BigFrame
set_option linter.unusedVariables false
set_option linter.unusedSimpArgs false

/-- Where the first event of a number stands. -/
def ixE (l : List Ev) (id : Int) : Option Nat := l.findIdx? fun e => decide (e.id = id)
def ixI (l : List Ev) (id : Int) : Int := match ixE l id with | some i => (i : Int) | none => -1
def fdE (l : List Ev) (id : Int) : Ev := match ixE l id with | some i => (l[i]?).getD ev0 | none => ev0
theorem ix_found {l : List Ev} {id : Int} {k : Nat} {x : Ev} (hx : l[k]? = some x) (hi : x.id = id) (hb : ∀ t y, t < k → l[t]? = some y → y.id ≠ id) : ixE l id = some k := by
  unfold ixE
  rw [List.findIdx?_eq_some_iff_getElem]
  obtain ⟨hk, rfl⟩ := List.getElem?_eq_some_iff.1 hx
  exact ⟨hk, by simpa using hi, fun j hj => by simpa using hb j _ hj (List.getElem?_eq_getElem (by omega))⟩
theorem ix_none {l : List Ev} {id : Int} (hb : ∀ (t : Nat) (y : Ev), l[t]? = some y → y.id ≠ id) : ixE l id = none := by
  unfold ixE
  rw [List.findIdx?_eq_none_iff]
  intro x hx
  obtain ⟨t, ht, rfl⟩ := List.mem_iff_getElem.1 hx
  simpa using hb t _ (List.getElem?_eq_getElem ht)
theorem ix_some {l : List Ev} {id : Int} {k : Nat} (h : ixE l id = some k) : ∃ x, l[k]? = some x ∧ x.id = id ∧ ∀ t y, t < k → l[t]? = some y → y.id ≠ id := by
  unfold ixE at h
  rw [List.findIdx?_eq_some_iff_getElem] at h
  obtain ⟨hk, h1, h2⟩ := h
  refine ⟨l[k], List.getElem?_eq_getElem hk, by simpa using h1, fun t y ht hy => ?_⟩
  obtain ⟨_, rfl⟩ := List.getElem?_eq_some_iff.1 hy
  simpa using h2 t ht

set_option maxRecDepth 100000 in
theorem pHas1 {w : World} {g : Nat} {id : Int} (hb : Bx w g [.int .i64 id] 3) (x : Ev) : Calls Try.prog 94 #[.agg (encV x).toArray, .pointer (some ⟨g, 0, none⟩)] w (RetB w (x.id == id)) := by
  have c0 := (hb.alloc (.cells (encV x).toArray 23)).cell 0 _ rfl
  have c1 := (Bx.new w (encV x) 23).cell 0 _ rfl
  have X := Lib.hid ((Ext.refl w).alloc (.cells (encV x).toArray 23))
  clear hb
  go_enter Try.func94, Try.ntmps94
  go_wp2_with fail
  go_ret
  exact ⟨rfl, X.out⟩
set_option maxRecDepth 100000 in
set_option maxHeartbeats 2000000 in
theorem pIndex {w : World} {A : Option Addr} {l : List Ev} {g : Nat} {id : Int} (h : Re w A l) (hb : Bx w g [.int .i64 id] 3) (c n : Nat) (hn : l.length = n) (hl : n ≤ 1000000) :
    Calls Try.prog 93 #[.slice A n c, .func (.func 94) #[] #[.pointer (some ⟨g, 0, none⟩)]] w (RetI w (ixI l id)) := by
  replace h := Lib.hid h; replace hb := Lib.hid hb; replace hn := Lib.hid hn
  go_enter Try.func93, Try.ntmps93
  go_wp2_with fail
  go_loopw [8] (fun vi wr => ∃ k : Nat, k ≤ n ∧ vi = .int .i64 k ∧ Hid (∀ t y, t < k → l[t]? = some y → y.id ≠ id) ∧ Hid (Ext w wr)) (fun vi _ => n - (intOf vi).toNat)
  case atStart => exact ⟨0, Nat.zero_le _, rfl, (by intro t y ht; omega), Ext.refl _⟩
  case round =>
    obtain ⟨k, hkn, rfl, HB, HX⟩ := hrel
    by_cases hk : k < n
    · have q1 : (k : Int) < (n : Int) := by omega
      obtain ⟨x, hx⟩ : ∃ x, l[k]? = some x := ⟨_, List.getElem?_eq_getElem (by rw [hn.out]; exact hk)⟩
      obtain ⟨b, off, rfl, hr⟩ := h.out.far (by rintro rfl; have := hn.out; simp at this; omega)
      have hrr := Lib.hid (hr _ HX.out k x hx)
      have kH := Lib.hid (pHas1 (hb.out.ext HX.out) x)
      replace hx := Lib.hid hx
      by_cases hi : x.id = id
      · have hbb : (x.id == id) = true := by rw [beq_iff_eq]; exact hi
        have hR : Hid (ixI l id = (k : Int)) := by show _ = _; unfold ixI; rw [ix_found hx.out hi HB.out]
        rw [hbb] at kH
        clear hi hbb hr
        go_wp2_with (first | (refine load_midG (by rfl) 23 _ rfl b (off + k * 11) (by rfl) (encV x) _ hrr.out Try.underlying23 rfl sizeE ?_))
        refine kH.out.mono ?_
        rintro e w' ⟨rfl, x'⟩
        have HX2 := Lib.hid (HX.out.trans x')
        clear x' kH
        go_wp2_with fail
        go_ret
        exact ⟨by rw [hR.out]; rfl, HX2.out⟩
      · have hbb : (x.id == id) = false := by rw [beq_eq_false_iff_ne]; exact hi
        have HB2 : Hid (∀ t y, t < k + 1 → l[t]? = some y → y.id ≠ id) := fun t y ht hy => by
          by_cases e : t < k
          · exact HB.out t y e hy
          · obtain rfl : t = k := by omega
            rw [hx.out] at hy; cases hy; exact hi
        rw [hbb] at kH
        clear hi hbb hr
        go_wp2_with (first | (refine load_midG (by rfl) 23 _ rfl b (off + k * 11) (by rfl) (encV x) _ hrr.out Try.underlying23 rfl sizeE ?_))
        refine kH.out.mono ?_
        rintro e w' ⟨rfl, x'⟩
        have HX2 := Lib.hid (HX.out.trans x')
        clear x' kH
        go_wp2_with fail
        exact ⟨⟨k + 1, by omega, by first | rfl | go_num | (congr 1; omega), HB2, HX2⟩, by simp [intOf]; omega⟩
    · have q1 : ¬ ((k : Int) < (n : Int)) := by omega
      have hR : Hid (ixI l id = -1) := by
        show _ = _
        unfold ixI
        rw [ix_none fun t y hy => HB.out t y (by have := (List.getElem?_eq_some_iff.1 hy).1; rw [hn.out] at this; omega) hy]
      go_wp2_with fail
      go_ret
      exact ⟨by rw [hR.out]; rfl, HX.out⟩
set_option maxRecDepth 100000 in
theorem pHas {w : World} {A : Option Addr} {l : List Ev} (h : Re w A l) (id : Int) (c n : Nat) (hn : l.length = n) (hl : n ≤ 1000000) : Calls Try.prog 77 #[.slice A n c, .int .i64 id] w (RetI w (ixI l id)) := by
  have k := Lib.hid (pIndex (h.alloc (.cells #[.int .i64 id] 3)) (Bx.new w [.int .i64 id] 3) c n hn hl)
  have X := Lib.hid ((Ext.refl w).alloc (.cells #[.int .i64 id] 3))
  obtain ⟨R, hR⟩ : ∃ R, ixI l id = R := ⟨_, rfl⟩
  rw [hR] at k ⊢
  clear h hn hR
  go_enter Try.func77, Try.ntmps77
  go_wp2_with fail
  refine k.out.mono ?_
  rintro e w' ⟨rfl, x'⟩
  have X2 := Lib.hid (X.out.trans x')
  clear x' k
  go_wp2_with fail
  go_ret
  exact ⟨rfl, X2.out⟩
set_option maxRecDepth 100000 in
set_option maxHeartbeats 2000000 in
theorem rAt13 {w : World} {A : Option Addr} {l : List Ev} (h : Re w A l) (id : Int) (c n : Nat) (hn : l.length = n) (hl : n ≤ 1000000) : Calls Try.prog 79 #[.slice A n c, .int .i64 id] w (RetI w (ixI l id)) := by
  replace h := Lib.hid h; replace hn := Lib.hid hn
  go_enter Try.func79, Try.ntmps79
  go_wp2_with fail
  go_loopw [5] (fun vi wr => ∃ k : Nat, k ≤ n ∧ vi = .int .i64 k ∧ Hid (∀ t y, t < k → l[t]? = some y → y.id ≠ id) ∧ Hid (Ext w wr)) (fun vi _ => n - (intOf vi).toNat)
  case atStart => exact ⟨0, Nat.zero_le _, rfl, (by intro t y ht; omega), Ext.refl _⟩
  case round =>
    obtain ⟨k, hkn, rfl, HB, HX⟩ := hrel
    by_cases hk : k < n
    · have q1 : (k : Int) < (n : Int) := by omega
      obtain ⟨x, hx⟩ : ∃ x, l[k]? = some x := ⟨_, List.getElem?_eq_getElem (by rw [hn.out]; exact hk)⟩
      obtain ⟨b, off, rfl, hr⟩ := h.out.far (by rintro rfl; have := hn.out; simp at this; omega)
      have c0 : wr.cell? ⟨b, off + k * 11, none⟩ = some (.int .i64 x.id) := hr _ HX.out k x hx 0 _ rfl
      replace hx := Lib.hid hx
      clear hr
      by_cases hi : x.id = id
      · have hbb : (x.id == id) = true := by rw [beq_iff_eq]; exact hi
        have hR : Hid (ixI l id = (k : Int)) := by show _ = _; unfold ixI; rw [ix_found hx.out hi HB.out]
        clear hi
        go_wp2_with fail
        go_ret
        exact ⟨by rw [hR.out]; rfl, HX.out⟩
      · have hbb : (x.id == id) = false := by rw [beq_eq_false_iff_ne]; exact hi
        have HB2 : Hid (∀ t y, t < k + 1 → l[t]? = some y → y.id ≠ id) := fun t y ht hy => by
          by_cases e : t < k
          · exact HB.out t y e hy
          · obtain rfl : t = k := by omega
            rw [hx.out] at hy; cases hy; exact hi
        clear hi
        go_wp2_with fail
        exact ⟨⟨k + 1, by omega, by first | rfl | go_num | (congr 1; omega), HB2, HX⟩, by simp [intOf]; omega⟩
    · have q1 : ¬ ((k : Int) < (n : Int)) := by omega
      have hR : Hid (ixI l id = -1) := by
        show _ = _
        unfold ixI
        rw [ix_none fun t y hy => HB.out t y (by have := (List.getElem?_eq_some_iff.1 hy).1; rw [hn.out] at this; omega) hy]
      go_wp2_with fail
      go_ret
      exact ⟨by rw [hR.out]; rfl, HX.out⟩
/-- A struct and a Bool, handed back. -/
theorem results_fd {fn : Func} {p q : Tmp} (h : fn.results = #[.cell p 23, .tmp q]) (tmps : Array Value) (w : World) (g : Nat) (e : Ev) (v : Value)
    (hp : tmps.getD p undef = .pointer (some ⟨g, 0, none⟩)) (hb : Bx w g (encV e) 23) (hq : tmps.getD q undef = v) : (results fn tmps).run Try.prog w = .ok (.tuple #[.agg (encV e).toArray, v]) w := by
  have hp' : tmps[p]?.getD undef = .pointer (some ⟨g, 0, none⟩) := by simpa using hp
  have hq' : tmps[q]?.getD undef = v := by simpa using hq
  have k := run_loadVar_row (P := Try.prog) w g 23 23 (encV e).toArray (0, 0) _ hb Try.underlying23 rfl sizeV
  simp [results, h, hp', hq', asAddr, k]
/-- What a call leaves that finds an event. -/
def RetFd (w : World) (x : Ev) (b : Bool) (e : Ending) (w' : World) : Prop := Ext w w' ∧ e = .returned (.tuple #[.agg (encV x).toArray, .bool b])
set_option maxRecDepth 100000 in
set_option maxHeartbeats 2000000 in
theorem pFind {w : World} {A : Option Addr} {l : List Ev} (h : Re w A l) (id : Int) (c n : Nat) (hn : l.length = n) (hl : n ≤ 1000000) : Calls Try.prog 48 #[.slice A n c, .int .i64 id] w (RetFd w (fdE l id) (ixE l id).isSome) := by
  have HR0 := Bx.new w (encV ev0) 23
  have X0 := (Ext.refl w).alloc (.cells (encV ev0).toArray 23)
  have k := Lib.hid (pHas (h.ext X0) id c n hn hl)
  replace HR0 := Lib.hid HR0; replace X0 := Lib.hid X0; replace h := Lib.hid h; replace hn := Lib.hid hn
  go_enter Try.func48, Try.ntmps48
  go_wp2_with fail
  refine k.out.mono ?_
  rintro e w1 ⟨rfl, x1⟩
  have HR1 := Lib.hid (HR0.out.ext x1); have X1 := Lib.hid (X0.out.trans x1)
  clear x1 k HR0 X0
  cases hx : ixE l id with
  | none =>
    have hI : ixI l id = -1 := by unfold ixI; rw [hx]
    have hF : Hid (fdE l id = ev0 ∧ (ixE l id).isSome = false) := ⟨by unfold fdE; rw [hx], by rw [hx]; rfl⟩
    rw [hI]
    clear hI hx
    go_wp2_with (first | (refine wpList_store_row (by rfl) 23 _ _ (by rfl) (w.heap.size) (encV ev0).toArray (by rfl) (by rfl) 23 _ HR1.out sizeV rfl (cells_ok ev0) ?_))
    refine bodyPost_ret (results_fd rfl _ _ w.heap.size ev0 (.bool false) rfl (bx_setRow HR1.out) rfl) rfl ?_
    exact ⟨below_setRow X1.out (Nat.le_refl _) _, by rw [hF.out.1, hF.out.2]⟩
  | some i =>
    obtain ⟨x, hxi, hid, _⟩ := ix_some hx
    have hI : ixI l id = (i : Int) := by unfold ixI; rw [hx]
    have hF : Hid (fdE l id = x ∧ (ixE l id).isSome = true) := ⟨by unfold fdE; rw [hx]; simp only; rw [hxi]; rfl, by rw [hx]; rfl⟩
    have hin : i < n := by have := (List.getElem?_eq_some_iff.1 hxi).1; rw [hn.out] at this; exact this
    obtain ⟨b, off, rfl, hr⟩ := h.out.far (by rintro rfl; simp at hxi)
    have hrr := Lib.hid (hr _ X1.out i x hxi)
    have q1 : (i : Int) < (n : Int) := by omega
    rw [hI]
    clear hI hx hxi hid hr
    go_wp2_with (first | (refine load_midG (by rfl) 23 _ rfl b (off + i * 11) (by rfl) (encV x) _ hrr.out Try.underlying23 rfl sizeE ?_) | (refine wpList_store_row (by rfl) 23 _ _ (by rfl) (w.heap.size) (encV x).toArray (by rfl) (by rfl) 23 _ HR1.out sizeV rfl (cells_ok x) ?_))
    refine bodyPost_ret (results_fd rfl _ _ w.heap.size x (.bool true) rfl (bx_setRow HR1.out) rfl) rfl ?_
    exact ⟨below_setRow X1.out (Nat.le_refl _) _, by rw [hF.out.1, hF.out.2]⟩
set_option maxRecDepth 100000 in
set_option maxHeartbeats 2000000 in
theorem rFind {w : World} {A : Option Addr} {l : List Ev} (h : Re w A l) (id : Int) (c n : Nat) (hn : l.length = n) (hl : n ≤ 1000000) : Calls Try.prog 49 #[.slice A n c, .int .i64 id] w (RetFd w (fdE l id) (ixE l id).isSome) := by
  have HR0 := Bx.new w (encV ev0) 23
  have X0 := (Ext.refl w).alloc (.cells (encV ev0).toArray 23)
  have k := Lib.hid (rAt13 (h.ext X0) id c n hn hl)
  replace HR0 := Lib.hid HR0; replace X0 := Lib.hid X0; replace h := Lib.hid h; replace hn := Lib.hid hn
  go_enter Try.func49, Try.ntmps49
  go_wp2_with fail
  refine k.out.mono ?_
  rintro e w1 ⟨rfl, x1⟩
  have HR1 := Lib.hid (HR0.out.ext x1); have X1 := Lib.hid (X0.out.trans x1)
  clear x1 k HR0 X0
  cases hx : ixE l id with
  | none =>
    have hI : ixI l id = -1 := by unfold ixI; rw [hx]
    have hF : Hid (fdE l id = ev0 ∧ (ixE l id).isSome = false) := ⟨by unfold fdE; rw [hx], by rw [hx]; rfl⟩
    rw [hI]
    clear hI hx
    go_wp2_with (first | (refine wpList_store_row (by rfl) 23 _ _ (by rfl) (w.heap.size) (encV ev0).toArray (by rfl) (by rfl) 23 _ HR1.out sizeV rfl (cells_ok ev0) ?_))
    refine bodyPost_ret (results_fd rfl _ _ w.heap.size ev0 (.bool false) rfl (bx_setRow HR1.out) rfl) rfl ?_
    exact ⟨below_setRow X1.out (Nat.le_refl _) _, by rw [hF.out.1, hF.out.2]⟩
  | some i =>
    obtain ⟨x, hxi, hid, _⟩ := ix_some hx
    have hI : ixI l id = (i : Int) := by unfold ixI; rw [hx]
    have hF : Hid (fdE l id = x ∧ (ixE l id).isSome = true) := ⟨by unfold fdE; rw [hx]; simp only; rw [hxi]; rfl, by rw [hx]; rfl⟩
    have hin : i < n := by have := (List.getElem?_eq_some_iff.1 hxi).1; rw [hn.out] at this; exact this
    obtain ⟨b, off, rfl, hr⟩ := h.out.far (by rintro rfl; simp at hxi)
    have hrr := Lib.hid (hr _ X1.out i x hxi)
    have q1 : (i : Int) < (n : Int) := by omega
    rw [hI]
    clear hI hx hxi hid hr
    go_wp2_with (first | (refine load_midG (by rfl) 23 _ rfl b (off + i * 11) (by rfl) (encV x) _ hrr.out Try.underlying23 rfl sizeE ?_) | (refine wpList_store_row (by rfl) 23 _ _ (by rfl) (w.heap.size) (encV x).toArray (by rfl) (by rfl) 23 _ HR1.out sizeV rfl (cells_ok x) ?_))
    refine bodyPost_ret (results_fd rfl _ _ w.heap.size x (.bool true) rfl (bx_setRow HR1.out) rfl) rfl ?_
    exact ⟨below_setRow X1.out (Nat.le_refl _) _, by rw [hF.out.1, hF.out.2]⟩
end Go.Proofs.Ytmbjbbflhlndcaa
namespace Go.Proofs.Ytmbjbbflhlndcaa
open Go.RowKit BigFrame
set_option linter.unusedVariables false
set_option linter.unusedSimpArgs false

def weekOf (t : Int) : Int := min (max t 0) 32054399 / 604800
def touchBy (u c : Int) : Int := min (max u 0) 604800 + min (max c 0) 604800
def touchA (u c t : Int) : Int := weekOf (min (max t 0) 32054399 - touchBy u c)
def touchB (u c t : Int) : Int := weekOf (min (max t 0) 32054399 + touchBy u c)
def RetI2 (w : World) (a b : Int) (e : Ending) (w' : World) : Prop := e = .returned (.tuple #[.int .i64 a, .int .i64 b]) ∧ Ext w w'
theorem iEq {f : Nat} {args : Array Value} {w : World} {a b : Int} (h : Calls Try.prog f args w (RetI w a)) (e : a = b) : Calls Try.prog f args w (RetI w b) := e ▸ h
theorem pClamp (n m : Int) (w : World) : Calls Try.prog 95 #[.int .i64 n, .int .i64 m] w (RetI w (min (max n 0) m)) := by
  go_enter Try.func95, Try.ntmps95
  go_wp2
  go_ret
  exact ⟨rfl, Ext.refl _⟩
theorem clampQ (n m : Int) (w : World) : Calls Try.prog 95 #[.int .i64 n, .int .i64 m] w fun e w' => e = .returned (.int .i64 (min (max n 0) m)) ∧ w' = w := by
  go_enter Try.func95, Try.ntmps95
  go_wp2
  go_ret
  exact ⟨rfl, rfl⟩
theorem pOf (t s : Int) (hs : 1 ≤ s) (w : World) : Calls Try.prog 105 #[.int .i64 t, .int .i64 s] w (RetI w (min (max t 0) 32054399 / s)) := by
  have h0 : (s == 0) = false := beq_false_of_ne (by omega)
  obtain ⟨c, hc, c0, c1⟩ : ∃ c, min (max t 0) 32054399 = c ∧ 0 ≤ c ∧ c ≤ 32054399 := ⟨_, rfl, by omega, by omega⟩
  rw [hc]
  have hd : c.tdiv s = c / s := Int.tdiv_eq_ediv_of_nonneg c0
  have hd0 : 0 ≤ c / s := Int.ediv_nonneg c0 (by omega)
  have hd1 : c / s ≤ c := Int.ediv_le_self _ c0
  have hc := Lib.hid hc
  go_enter Try.func105, Try.ntmps105
  go_wp2_with fail
  refine (iEq (pClamp _ _ _) hc.out).mono ?_
  rintro e w1 ⟨rfl, x1⟩
  go_wp2
  go_ret
  exact ⟨rfl, x1⟩
theorem pWeek (t : Int) (w : World) : Calls Try.prog 96 #[.int .i64 t] w (RetI w (weekOf t)) := by
  go_enter Try.func96, Try.ntmps96
  go_wp2_with fail
  refine (pOf t 604800 (by omega) _).mono ?_
  rintro e w1 ⟨rfl, x1⟩
  go_wp2
  go_ret
  exact ⟨rfl, x1⟩
/-- The rounding and the cap of a setup. -/
structure SuUC (cs : List Value) (u c : Int) : Prop where
  len : cs.length = 23
  unit : cs[8]? = some (.int .i64 u)
  cap : cs[9]? = some (.int .i64 c)
set_option maxRecDepth 100000 in
set_option maxHeartbeats 1000000 in
theorem pTouch {cs : List Value} {u c : Int} (hs : SuUC cs u c) (t : Int) (w : World) : Calls Try.prog 81 #[.agg cs.toArray, .int .i64 t] w (RetI2 w (touchA u c t) (touchB u c t)) := by
  obtain ⟨n, hn, n0, n1⟩ : ∃ b, min (max t 0) 32054399 = b ∧ 0 ≤ b ∧ b ≤ 32054399 := ⟨_, rfl, by omega, by omega⟩
  obtain ⟨a, ha, a0, a1⟩ : ∃ b, min (max u 0) 604800 = b ∧ 0 ≤ b ∧ b ≤ 604800 := ⟨_, rfl, by omega, by omega⟩
  obtain ⟨b, hb, b0, b1⟩ : ∃ b, min (max c 0) 604800 = b ∧ 0 ≤ b ∧ b ≤ 604800 := ⟨_, rfl, by omega, by omega⟩
  have B0 := Lib.hid (Bx.new w cs 55)
  have X0 := Lib.hid ((Ext.refl w).alloc (.cells cs.toArray 55))
  replace hs := Lib.hid hs
  unfold touchA touchB touchBy
  rw [hn, ha, hb]
  have ka := fun w => clampQ u 604800 w
  have kb := fun w => clampQ c 604800 w
  have kn := fun w => pClamp t 32054399 w
  rw [ha] at ka; rw [hb] at kb; rw [hn] at kn
  replace ka := Lib.hid ka; replace kb := Lib.hid kb; replace kn := Lib.hid kn
  clear ha hb hn
  have q1 : IntKind.i64.wrap (a + b) = a + b := IntWalk.i64_in _ (by omega)
  go_enter Try.func81, Try.ntmps81
  go_wp2_with fail
  refine (kn.out _).mono ?_
  rintro e w1 ⟨rfl, x1⟩
  have e7 := (B0.out.ext x1).cell 8 _ hs.out.unit
  have e8 := (B0.out.ext x1).cell 9 _ hs.out.cap
  have X1 := Lib.hid (X0.out.trans x1)
  clear x1 B0 X0
  go_wp2_with fail
  go_quiet ((go_at_call 95; first | with_reducible exact Calls.quiet_of_same (ka.out _) | with_reducible exact Calls.quiet_of_same (kb.out _)))
  clear q1 e7 e8
  go_wp2_with fail
  refine (pWeek _ _).mono ?_
  rintro e w2 ⟨rfl, x2⟩
  go_wp2_with fail
  refine (pWeek _ _).mono ?_
  rintro e w3 ⟨rfl, x3⟩
  go_wp2
  go_ret2
  exact ⟨rfl, ((X1.out.drewN _).trans x2).trans x3⟩
theorem rTime (t : Int) (w : World) : Calls Try.prog 115 #[.int .i64 t] w (RetI w (min (max t 0) 32054400)) := by
  go_enter Try.func115, Try.ntmps115
  go_wp2
  go_ret
  exact ⟨rfl, Ext.refl _⟩
theorem rWeek (t : Int) (w : World) : Calls Try.prog 116 #[.int .i64 t] w (RetI w (weekOf t)) := by
  have k := fun w => rTime t w
  obtain ⟨z, hz⟩ : ∃ z, min (max t 0) 32054400 = z := ⟨_, rfl⟩
  have e : (min z 32054399).tdiv 604800 = weekOf t := by
    rw [Int.tdiv_eq_ediv_of_nonneg (by omega)]
    unfold weekOf
    congr 1
    omega
  obtain ⟨y, hy⟩ : ∃ y, min z 32054399 = y := ⟨_, rfl⟩
  have y0 : 0 ≤ y ∧ y ≤ 32054399 := by omega
  rw [hy] at e
  have e' : y / 604800 = weekOf t := by rw [← e, Int.tdiv_eq_ediv_of_nonneg y0.1]
  rw [hz] at k
  replace k := Lib.hid k
  obtain ⟨W, hW⟩ : ∃ W, weekOf t = W := ⟨_, rfl⟩
  rw [hW] at e e' ⊢
  clear hz hW
  go_enter Try.func116, Try.ntmps116
  go_wp2_with fail
  refine (k.out _).mono ?_
  rintro e1 w1 ⟨rfl, x1⟩
  replace x1 := Lib.hid x1
  go_wp2
  go_ret
  first
  | exact ⟨rfl, x1.out⟩
  | exact ⟨by rw [e]; rfl, x1.out⟩
  | exact ⟨by rw [e']; rfl, x1.out⟩
set_option maxRecDepth 100000 in
set_option maxHeartbeats 1000000 in
theorem rTouch {cs : List Value} {u c : Int} (hs : SuUC cs u c) (t : Int) (w : World) : Calls Try.prog 99 #[.agg cs.toArray, .int .i64 t] w (RetI2 w (touchA u c t) (touchB u c t)) := by
  obtain ⟨z, hz⟩ : ∃ z, min (max t 0) 32054400 = z := ⟨_, rfl⟩
  obtain ⟨n, hn, n0, n1⟩ : ∃ b, min (max t 0) 32054399 = b ∧ 0 ≤ b ∧ b ≤ 32054399 := ⟨_, rfl, by omega, by omega⟩
  have hzn : min z 32054399 = n := by omega
  obtain ⟨a, ha, a0, a1⟩ : ∃ b, min (max u 0) 604800 = b ∧ 0 ≤ b ∧ b ≤ 604800 := ⟨_, rfl, by omega, by omega⟩
  obtain ⟨b, hb, b0, b1⟩ : ∃ b, min (max c 0) 604800 = b ∧ 0 ≤ b ∧ b ≤ 604800 := ⟨_, rfl, by omega, by omega⟩
  have B0 := Bx.new w cs 55
  have X0 := Lib.hid ((Ext.refl w).alloc (.cells cs.toArray 55))
  have e7 := B0.cell 8 _ hs.unit
  have e8 := B0.cell 9 _ hs.cap
  unfold touchA touchB touchBy
  rw [hn, ha, hb]
  have kn := fun w => rTime t w
  rw [hz] at kn
  replace kn := Lib.hid kn
  have q1 : IntKind.i64.wrap (a + b) = a + b := IntWalk.i64_in _ (by omega)
  clear hn hz B0 hs
  go_enter Try.func99, Try.ntmps99
  go_wp2_with fail
  refine (kn.out _).mono ?_
  rintro e w1 ⟨rfl, x1⟩
  have X1 := Lib.hid (X0.out.trans x1)
  clear x1 X0 e7 e8 q1 ha hb
  go_wp2_with fail
  refine (rWeek _ _).mono ?_
  rintro e w2 ⟨rfl, x2⟩
  go_wp2_with fail
  refine (rWeek _ _).mono ?_
  rintro e w3 ⟨rfl, x3⟩
  go_wp2
  go_ret2
  exact ⟨rfl, (X1.out.trans x2).trans x3⟩
end Go.Proofs.Ytmbjbbflhlndcaa
namespace Go.Proofs.Ytmbjbbflhlndcaa
open Go.RowKit BigFrame
set_option linter.unusedVariables false
set_option linter.unusedSimpArgs false

theorem setCells_app (g : Nat) : ∀ (us vs : List Value) (o : Nat) (w : World), w.setCells g o (us ++ vs) = (w.setCells g o us).setCells g (o + us.length) vs
  | [], vs, o, w => rfl
  | u :: us, vs, o, w => by
    show (w.setCell ⟨g, o, none⟩ u).setCells g (o + 1) (us ++ vs) = _
    rw [setCells_app g us vs (o + 1)]
    show _ = ((w.setCell ⟨g, o, none⟩ u).setCells g (o + 1) us).setCells g (o + (us.length + 1)) vs
    rw [show o + 1 + us.length = o + (us.length + 1) by omega]
theorem Own.setMany {w0 : World} {g cap : Nat} : ∀ {M : List Ev} {w : World} {L : List Ev} {i : Nat}, Own w0 w g cap L → i + M.length ≤ L.length → Own w0 (w.setCells g (i * 11) (flat encV M)) g cap (L.take i ++ (M ++ L.drop (i + M.length)))
  | [], w, L, i, h, _ => by
    show Own w0 w g cap _
    simpa using h
  | x :: M, w, L, i, h, hl => by
    rw [List.length_cons] at hl
    rw [flat_cons, setCells_app]
    have h1 := h.set (i := i) (by omega) x
    have h2 := Own.setMany (M := M) (i := i + 1) h1 (by rw [List.length_set]; omega)
    rw [show i * 11 + (encV x).length = (i + 1) * 11 by rw [elV.len]; omega]
    have e : (L.set i x).take (i + 1) ++ (M ++ (L.set i x).drop (i + 1 + M.length)) = L.take i ++ (x :: M ++ L.drop (i + (x :: M).length)) := by
      rw [List.take_add_one, List.getElem?_set_self (by omega), List.take_set_of_le (by omega), List.drop_set_of_lt (by omega), List.length_cons]
      simp only [Option.toList, List.append_assoc, List.cons_append, List.nil_append]
      congr 4
      omega
    rw [e] at h2
    exact h2
theorem Own.shrink {w0 w : World} {g cap : Nat} {L : List Ev} (h : Own w0 w g cap L) {m : Nat} (hm : m ≤ L.length) : Own w0 w g cap (L.take m) := by
  refine ⟨?_, h.2⟩
  have hl : (L.take m).length = m := by rw [List.length_take]; omega
  have own0 := h.1
  rcases h.1.2 with ⟨h0, _⟩ | ⟨g', cap', cur, hv, hg, hh, h1, h2, h3, h4⟩
  · cases h0
  · cases hv
    refine ⟨by rw [flat_length (k := 11) elV.len], .inr ⟨g, cap, cur, rfl, hg, hh, by omega, h2, h3, ?_⟩⟩
    rw [hl]
    have e1 : flat encV (L.take m) = (flat encV L).take (m * 11) := by
      have := flat_append encV (L.take m) (L.drop m)
      rw [List.take_append_drop] at this
      rw [this, List.take_left' (by rw [flat_length (k := 11) elV.len, hl])]
    rw [e1, ← h4, List.take_take]
    congr 1
    omega
theorem zeroE (W : World) : (zeroValue 23).run Try.prog W = .ok (.agg (encV ev0).toArray) W := by kernel_rfl
theorem wp_append_room {P : Program} {o : Oper} {a : Act} {w : World} {K : Act → World → Prop} {Q : Exit → Act → World → Prop}
    (s x : Operand) (t : TypeId) (hop : o.op = Op.call { callee := Callee.builtin Builtin.append, args := #[s, x], argTypes := #[t, t] })
    (e : TypeId) (i : TypeInfo) (size : Nat) (h1 : P.underlying t = some (.slice e)) (h2 : P.info? e = some i) (h4 : i.size = size)
    (b off n cap : Nat) (hs : a.eval s = .slice (some ⟨b, off, none⟩) n cap)
    (ad : Addr) (m c : Nat) (news : List Value) (hx : a.eval x = .slice (some ad) m c) (hn : news.length = m * size) (hc : ∀ j u, news[j]? = some u → w.cell? (ad.add j) = some u) (h1c : ∀ u ∈ news, u.oneCell' = true)
    (hroom : n + m ≤ cap) (hspare : ∀ j, j < news.length → (w.cell? ⟨b, off + n * size + j, none⟩).isSome = true ∧ w.frozen? ⟨b, off + n * size + j, none⟩ = false)
    (hK : K (a.put o.dst (.slice (some ⟨b, off, none⟩) (n + m) cap)) (w.setCells b (off + n * size) news)) : Oper.wp P o a w K Q := by
  subst h4
  have hrun := run_append_room_cells (P := P) w t o.type e i h1 h2 b off n cap ad m c news hn hc h1c hroom (fun j hj => (hspare j hj).1) (fun j hj => (hspare j hj).2)
  unfold Oper.wp
  simp [execOp, hop, resolve, invoke, builtin, hs, hx, hrun, Result.andThen]
  exact hK

set_option maxRecDepth 100000 in
set_option maxHeartbeats 4000000 in
theorem pDelete {w0 w : World} {g cap : Nat} {L : List Ev} (h : Own w0 w g cap L) (i n : Nat) (hn : L.length = n) (hin : i < n) (hl : n ≤ 1000000) :
    Calls Try.prog 78 #[.slice (some ⟨g, 0, none⟩) n cap, .int .i64 i, .int .i64 ((i : Int) + 1)] w fun e w' => e = .returned (.slice (some ⟨g, 0, none⟩) (n - 1) cap) ∧ Own w0 w' g cap (L.take i ++ L.drop (i + 1)) := by
  obtain ⟨_, _, _, _, _, hcap, hmax⟩ := h.block
  obtain ⟨Ad, cd, nD, hnD, hdc, hsl, hrd⟩ := slice_loP 63 11 (enc := encV) elemE sizeOfE (A := some ⟨g, 0, none⟩) (O := L) (n := n) (c := cap) (j := i + 1) hn.symm (by omega) (by omega)
  have lD : nD + i + 1 = n := by rw [hnD.out, List.length_drop]; omega
  have hcn : n ≤ cap := by omega
  have RL : Re (w.drewN 1) (some ⟨g, 0, none⟩) L := Rd.of_own elV.len (h.drewN 1).1
  have RD := hrd _ RL
  have HOd := h.drewN 1
  obtain ⟨W1, hW1⟩ : ∃ W1, (w.drewN 1).setCells g (i * 11) (flat encV (L.drop (i + 1))) = W1 := ⟨_, rfl⟩
  have dl : (L.drop (i + 1)).length = nD := by rw [hnD.out]
  have H1 := Own.setMany (M := L.drop (i + 1)) (i := i) HOd (by rw [dl]; omega)
  rw [hW1, dl] at H1
  have hM1 : (L.take i ++ (L.drop (i + 1) ++ L.drop (i + nD))).length = n := by
    simp only [List.length_append, List.length_take, List.length_drop]; omega
  have s2 := H1.st (i := n - 1) (by rw [hM1]; omega) ev0
  have H2 := H1.set (i := n - 1) (by rw [hM1]; omega) ev0
  have H3 := H2.shrink (m := n - 1) (by rw [List.length_set, hM1]; omega)
  have e3 : ((L.take i ++ (L.drop (i + 1) ++ L.drop (i + nD))).set (n - 1) ev0).take (n - 1) = L.take i ++ L.drop (i + 1) := by
    rw [List.take_set_of_le (by omega), ← List.append_assoc, List.take_left' (by simp only [List.length_append, List.length_take, List.length_drop]; omega)]
  rw [e3] at H3
  have hclr : Hid (∀ ty, (Builtin.clear_ #[63] ty #[.slice (some ⟨g, (n - 1) * 11, none⟩) 1 (cap - (n - 1))]).run Try.prog W1 = .ok (.tuple #[]) (W1.setCells g ((n - 1) * 11) (encV ev0))) := fun ty => by
    have hz : (Builtin.zeroCells (Value.agg (encV ev0).toArray).cells 1).toList = encV ev0 := by kernel_rfl
    have hze := zeroE
    obtain ⟨Z, hZ⟩ : ∃ Z, Value.agg (encV ev0).toArray = Z := ⟨_, rfl⟩
    rw [hZ] at hz
    simp only [hZ] at hze
    simp [Builtin.clear_, run_underlying elV.under, hze, hz, s2]
  obtain ⟨z, hinfo, hzc⟩ := elV.info
  obtain ⟨i0, hi0, hz0, hz1, hz2⟩ := info_parts hinfo
  have hspare : Hid (∀ j, j < (flat encV (L.drop (i + 1))).length → ((w.drewN 1).cell? ⟨g, 0 + i * 11 + j, none⟩).isSome = true ∧ (w.drewN 1).frozen? ⟨g, 0 + i * 11 + j, none⟩ = false) := fun j hj => by
    rw [flat_length (k := 11) elV.len, dl] at hj
    rw [Nat.zero_add]
    have := HOd.there (i := i + j / 11) (by rw [hn]; omega) (j % 11) (by omega)
    rw [show (i + j / 11) * 11 + j % 11 = i * 11 + j by omega] at this
    exact this
  have hone : Hid (∀ u ∈ flat encV (L.drop (i + 1)), u.oneCell' = true) := fun u hu => by
    simp only [flat, List.mem_flatMap] at hu
    obtain ⟨y, _, hy⟩ := hu
    exact elV.one y u hy
  obtain ⟨ad, hAd, hsrc⟩ : ∃ ad : Addr, Ad = some ad ∧ Hid (∀ j u, (flat encV (L.drop (i + 1)))[j]? = some u → (w.drewN 1).cell? (ad.add j) = some u) := by
    by_cases h0 : L.drop (i + 1) = []
    · rcases Ad with _ | ad
      · exfalso
        have := hsl w
        rw [run_sliceAt_slice (h := elemE), run_slice_l (ht := elemE) (h0 := by omega) (h1 := by omega), sizeOfE w] at this
        simp [Result.andThen, sliced] at this
        split at this <;> simp_all
      · exact ⟨ad, rfl, fun j u hu => by rw [h0] at hu; simp [flat] at hu⟩
    · obtain ⟨b, off, hA, hr⟩ := RD.far h0
      refine ⟨⟨b, off, none⟩, hA, fun j u hu => ?_⟩
      have hj : j < nD * 11 := by rw [← dl, ← flat_length (k := 11) elV.len]; exact (List.getElem?_eq_some_iff.1 hu).1
      have hd : j / 11 < (L.drop (i + 1)).length := by rw [dl]; omega
      have hf := flat_at (enc := encV) (k := 11) elV.len (L.drop (i + 1)) (j / 11) hd (j % 11) (by omega)
      rw [show j / 11 * 11 + j % 11 = j by omega, hu] at hf
      have := hr _ (Ext.refl _) (j / 11) _ (List.getElem?_eq_getElem hd) (j % 11) u hf.symm
      rw [show off + j / 11 * 11 + j % 11 = off + j by omega] at this
      by_cases h0 : j = 0
      · subst h0; simpa [Addr.add] using this
      · simpa [Addr.add, h0] using this
  subst hAd
  have hli : Hid ((flat encV (L.drop (i + 1))).length = nD * 11) := by show _ = _; rw [flat_length (k := 11) elV.len, dl]
  obtain ⟨news, hnews⟩ : ∃ v, flat encV (L.drop (i + 1)) = v := ⟨_, rfl⟩
  rw [hnews] at hspare hone hsrc hli hW1
  have H3' := Lib.hid H3
  have hW1' : Hid ((w.drewN 1).setCells g (0 + i * 11) news = W1) := by show _ = _; rw [Nat.zero_add]; exact hW1
  obtain ⟨m, hm⟩ : ∃ m, n = m + 1 := ⟨n - 1, by omega⟩
  have hin2 : i + nD = m := by omega
  rw [hm] at hclr H3' hsl ⊢
  have em : m + 1 - 1 = m := by omega
  rw [em] at hclr H3' ⊢
  replace hin2 := Lib.hid hin2
  have ei : ((i + 1 : Nat) : Int) = (i : Int) + 1 := by omega
  simp only [ei] at hsl
  clear ei
  have c1 : (i : Int) + 1 ≤ (m : Int) + 1 := by omega
  have c8 : ¬ (cap = m) := by omega
  have c9 : m + 1 - m = 1 := by omega
  have c10 : m ≤ cap := by omega
  have c11 : (m : Int) ≤ (m : Int) + 1 := by omega
  have c2 : m + 1 ≤ cap := by omega
  have c3 : ((i : Int) == (i : Int) + 1) = false := by rw [beq_eq_false_iff_ne]; omega
  have c4 : i + 1 ≤ cap := by omega
  have c5 : i ≤ cap := by omega
  have c6 : m ≤ 1000000 := by omega
  have c7 : i ≤ m + 1 := by omega
  have hroom : Hid (i + nD ≤ cap) := by show _ ≤ _; omega
  clear hW1 hnews hM1 s2 H1 H2 H3 e3 RL RD hrd HOd h hcap hmax hdc hnD lD dl hin hn hl hinfo hz0 hz2 hzc hcn hm
  go_enter Try.func78, Try.ntmps78
  go_wp2_with fail
  refine held_start (S := fun _ => True) 8 rfl (by kernel_rfl) ?_
  have hW9 : { w with drawn := w.drawn + 1 } = w.drewN 1 := rfl
  rw [hW9]
  clear hW9
  refine held_move (i := 0) rfl (by kernel_rfl) (by kernel_rfl) (by kernel_rfl) _ rfl rfl trivial _ (by simp [Act.put]; rfl) ?_
  refine held_move (i := 1) rfl (by kernel_rfl) (by kernel_rfl) (by kernel_rfl) _ rfl rfl trivial _ (by simp [Act.put]; rfl) ?_
  refine held_takeV (i := 2) rfl (by kernel_rfl) (by kernel_rfl) (by kernel_rfl) (.slice (some ⟨g, 0, none⟩) i cap) rfl (fun w _ => by go_simp) trivial _ (by simp [Act.put]; rfl) ?_
  refine held_move (i := 3) rfl (by kernel_rfl) (by kernel_rfl) (by kernel_rfl) _ rfl rfl trivial _ (by simp [Act.put]; rfl) ?_
  refine held_move (i := 4) rfl (by kernel_rfl) (by kernel_rfl) (by kernel_rfl) _ rfl rfl trivial _ (by simp [Act.put]; rfl) ?_
  refine held_takeV (i := 5) rfl (by kernel_rfl) (by kernel_rfl) (by kernel_rfl) (.slice (some ad) nD cd) rfl (fun w _ => by go_simp) trivial _ (by simp [Act.put]; rfl) ?_
  refine held_all (i := 6) rfl (by kernel_rfl) rfl ?_
  refine wp_append_room _ _ 63 rfl 23 i0 11 elV.under hi0 hz1 g 0 i cap (by rfl) ad nD cd news (by rfl) hli.out hsrc.out hone.out hroom.out hspare.out ?_
  rw [hW1'.out]
  refine ⟨trivial, ?_⟩
  refine held_assign (i := 7) rfl (by kernel_rfl) (by kernel_rfl) (by kernel_rfl) _ rfl rfl trivial _ (by simp [Act.put]; rfl) ?_
  refine held_done (by kernel_rfl) ?_ _
  rw [hin2.out]
  clear hsl hspare hone hsrc hli hW1' hroom
  have hclr' := hclr.out
  simp [Act.eval, Act.put]
  go_wp2_with fail
  trace_state
  go_ret
  exact ⟨rfl, H3'.out⟩
end Go.Proofs.Ytmbjbbflhlndcaa
