/-
  Keys: fixes.compare, slices.insertionSortCmpFunc.
  Keys: slices.SortFunc at 12 keys or fewer.
-/
import Derived.Test.YtmbjbbflhlndcaaQc3
namespace Go.Proofs.Ytmbjbbflhlndcaa
open Go.RowKit BigFrame Go.Sort
set_option linter.unusedVariables false
set_option linter.unusedSimpArgs false
namespace KK
def cmpK (a b : Ky) : Int := orI (cmpI a.worker b.worker) (cmpI a.week b.week)
theorem cmpK_less (a b : Ky) : decide (cmpK a b < 0) = aheadK a b := by
  unfold aheadK cmpK orI cmpI
  by_cases h1 : a.worker < b.worker
  · simp [h1]
  · by_cases h2 : b.worker < a.worker
    · have : ¬ a.worker = b.worker := by omega
      simp [h1, h2, this]
    · have : a.worker = b.worker := by omega
      by_cases h3 : a.week < b.week
      · simp [this, h3]
      · by_cases h4 : b.week < a.week <;> simp [this, h3, h4]
theorem ordK : Stb.Ord aheadK where
  irr x := by unfold aheadK; simp
  ntr x y z h1 h2 := by
    unfold aheadK at *
    rw [decide_eq_false_iff_not] at *
    omega
  asy x y h := by
    unfold aheadK at *
    rw [decide_eq_true_iff] at h
    rw [decide_eq_false_iff_not]
    omega
set_option maxRecDepth 100000 in
set_option maxHeartbeats 1000000 in
theorem pCompare (a b : Ky) (w : World) : Calls Try.prog 83 #[.agg (encK a).toArray, .agg (encK b).toArray] w fun e w' => e = .returned (.int .i64 (cmpK a b)) ∧ ∃ n os, w' = grow (w.drewN n) os := by
  have HA := Lib.hid ((Bx.new w (encK a) 106).alloc (.cells (encK b).toArray 106))
  have HB : Hid (Bx ((w.alloc (.cells (encK a).toArray 106)).alloc (.cells (encK b).toArray 106)) (w.heap.size + 1) (encK b) 106) := by
    have := Bx.new (w.alloc (.cells (encK a).toArray 106)) (encK b) 106
    rw [show (w.alloc (.cells (encK a).toArray 106)).heap.size = w.heap.size + 1 from by simp] at this
    exact this
  have k1 := Lib.hid (compare_any a.worker b.worker)
  have k2 := Lib.hid (compare_any a.week b.week)
  have hE : Hid (cmpK a b = orI (cmpI a.worker b.worker) (cmpI a.week b.week)) := rfl
  obtain ⟨r1, hr1⟩ : ∃ r, cmpI a.worker b.worker = r := ⟨_, rfl⟩
  obtain ⟨r2, hr2⟩ : ∃ r, cmpI a.week b.week = r := ⟨_, rfl⟩
  rw [hr1] at k1 hE
  rw [hr2] at k2 hE
  rw [hE.out]
  clear hr1 hr2 hE
  go_enter Try.func83, Try.ntmps83
  go_wp2_with fail
  have hg2 : ∃ os, (w.alloc (.cells (encK a).toArray 106)).alloc (.cells (encK b).toArray 106) = grow w os := ⟨_, by rw [alloc_eq_grow, alloc_eq_grow, grow_grow]⟩
  obtain ⟨W, hW⟩ : ∃ W, (w.alloc (.cells (encK a).toArray 106)).alloc (.cells (encK b).toArray 106) = W := ⟨_, rfl⟩
  rw [hW] at HA HB hg2 ⊢
  clear hW
  have HS : Hid (Bx (W.drewN 1) w.heap.size (encK a) 106 ∧ Bx (W.drewN 1) (w.heap.size + 1) (encK b) 106) := ⟨HA.out.drewN 1, HB.out.drewN 1⟩
  refine held_start (S := fun W => Bx W w.heap.size (encK a) 106 ∧ Bx W (w.heap.size + 1) (encK b) 106) 13 rfl (by kernel_rfl) ?_
  have hW3 : { W with drawn := W.drawn + 1 } = W.drewN 1 := rfl
  rw [hW3]
  clear hW3
  refine held_takeV (i := 0) rfl (by kernel_rfl) (by kernel_rfl) (by kernel_rfl) (.pointer (some ⟨w.heap.size, 0, none⟩)) rfl (fun w _ => by go_simp) HS.out _ (by simp [Act.put]; rfl) ?_
  refine held_takeV (i := 1) rfl (by kernel_rfl) (by kernel_rfl) (by kernel_rfl) (.int .i64 a.worker) rfl (fun w h => by have cc := h.1.cell 0 _ rfl; go_simp) HS.out _ (by simp [Act.put]; rfl) ?_
  refine held_takeV (i := 2) rfl (by kernel_rfl) (by kernel_rfl) (by kernel_rfl) (.pointer (some ⟨w.heap.size + 1, 0, none⟩)) rfl (fun w _ => by go_simp) HS.out _ (by simp [Act.put]; rfl) ?_
  refine held_takeV (i := 3) rfl (by kernel_rfl) (by kernel_rfl) (by kernel_rfl) (.int .i64 b.worker) rfl (fun w h => by have cc := h.2.cell 0 _ rfl; go_simp) HS.out _ (by simp [Act.put]; rfl) ?_
  refine held_takeV (i := 5) rfl (by kernel_rfl) (by kernel_rfl) (by kernel_rfl) (.pointer (some ⟨w.heap.size, 1, none⟩)) rfl (fun w _ => by go_simp) HS.out _ (by simp [Act.put]; rfl) ?_
  refine held_takeV (i := 6) rfl (by kernel_rfl) (by kernel_rfl) (by kernel_rfl) (.int .i64 a.week) rfl (fun w h => by have cc := h.1.cell 1 _ rfl; go_simp) HS.out _ (by simp [Act.put]; rfl) ?_
  refine held_takeV (i := 7) rfl (by kernel_rfl) (by kernel_rfl) (by kernel_rfl) (.pointer (some ⟨w.heap.size + 1, 1, none⟩)) rfl (fun w _ => by go_simp) HS.out _ (by simp [Act.put]; rfl) ?_
  refine held_takeV (i := 8) rfl (by kernel_rfl) (by kernel_rfl) (by kernel_rfl) (.int .i64 b.week) rfl (fun w h => by have cc := h.2.cell 1 _ rfl; go_simp) HS.out _ (by simp [Act.put]; rfl) ?_
  refine held_all (i := 4) rfl (by kernel_rfl) rfl ?_
  go_wp2_with fail
  refine (k1.out _).mono ?_
  rintro e1 w1 ⟨rfl, rfl⟩
  refine ⟨HS.out, ?_⟩
  refine held_all (i := 9) rfl (by kernel_rfl) rfl ?_
  go_wp2_with fail
  refine (k2.out _).mono ?_
  rintro e1 w1 ⟨rfl, rfl⟩
  refine ⟨HS.out, ?_⟩
  refine held_all (i := 10) rfl (by kernel_rfl) rfl ?_
  go_wp2_with fail
  have HS2 : Hid (Bx ((W.drewN 1).alloc (.cells #[.int .i64 r1, .int .i64 r2] 3)) w.heap.size (encK a) 106 ∧ Bx ((W.drewN 1).alloc (.cells #[.int .i64 r1, .int .i64 r2] 3)) (w.heap.size + 1) (encK b) 106) := ⟨HS.out.1.alloc _, HS.out.2.alloc _⟩
  refine ⟨HS2.out, ?_⟩
  refine held_all (i := 11) rfl (by kernel_rfl) rfl ?_
  go_wp2_with fail
  refine (or_two (Rw.new_at elN (W.drewN 1) [r1, r2] 3 _ rfl) 2).mono ?_
  rintro e1 w1 ⟨rfl, rfl⟩
  refine ⟨HS2.out, ?_⟩
  refine held_assign (i := 12) rfl (by kernel_rfl) (by kernel_rfl) (by kernel_rfl) _ rfl rfl HS2.out _ (by simp [Act.put]; rfl) ?_
  refine held_done (by kernel_rfl) ?_ _
  go_wp2
  go_ret
  obtain ⟨os, rfl⟩ := hg2
  refine ⟨rfl, 1, os ++ #[.cells #[.int .i64 r1, .int .i64 r2] 3], ?_⟩
  rw [alloc_eq_grow]
  show grow (grow w os).drew _ = _
  rw [drew_grow, grow_grow]
  rfl
/-- A row of the call's own that reads as these events. -/
def Own (w0 w : World) (g : Nat) (cap : Nat) (L : List Ky) : Prop := w.ownsRow w0.heap.size 106 2 (.slice (some ⟨g, 0, none⟩) L.length cap) L.length (flat encK L) ∧ Ext w0 w
theorem Own.block {w0 w : World} {g cap : Nat} {L : List Ky} (h : Own w0 w g cap L) : ∃ cur, w.heap[g]? = some (.cells cur 106 (0, 0)) ∧ L.length * 2 ≤ cur.size ∧ cur.toList.take (L.length * 2) = flat encK L ∧ w0.heap.size ≤ g ∧ L.length ≤ cap ∧ cap ≤ maxLen := by
  rcases h.1.2 with ⟨h0, _⟩ | ⟨g', cap', cur, hv, hg, hh, h1, h2, h3, h4⟩
  · cases h0
  · cases hv
    refine ⟨cur, hh, ?_, h4, hg, h1, h2⟩
    have := congrArg List.length h4
    rw [List.length_take, flat_length (k := 2) (fun _ => rfl)] at this
    simp only [Array.length_toList] at this
    omega
theorem Own.range {w0 w : World} {g cap : Nat} {L : List Ky} (h : Own w0 w g cap L) {i : Nat} {x : Ky} (hx : L[i]? = some x) : w.rangeAt g (i * 2) (encK x) := fun j v hv => by
  obtain ⟨cur, hh, hs, ht, _⟩ := h.block
  have hi : i < L.length := (List.getElem?_eq_some_iff.1 hx).1
  have hj : j < 2 := (List.getElem?_eq_some_iff.1 hv).1
  have hL : L[i] = x := by rw [List.getElem?_eq_getElem hi] at hx; simpa using hx
  have hf := flat_at (enc := encK) (k := 2) (fun _ => rfl) L i hi j hj
  rw [hL, hv, ← ht, List.getElem?_take_of_lt (by omega)] at hf
  simp only [World.cell?, hh, Option.isSome_none, Bool.false_eq_true, if_false]
  rw [← Array.getElem?_toList]; exact hf
theorem Own.there {w0 w : World} {g cap : Nat} {L : List Ky} (h : Own w0 w g cap L) {i : Nat} (hi : i < L.length) : w.there g (i * 2) 2 := fun j hj => by
  obtain ⟨x, hx⟩ : ∃ x, L[i]? = some x := ⟨_, List.getElem?_eq_getElem hi⟩
  obtain ⟨cur, hh, _⟩ := h.block
  have hv : (encK x)[j]? = some ((encK x)[j]'(show j < 2 from hj)) := List.getElem?_eq_getElem _
  exact ⟨by rw [h.range hx j _ hv]; rfl, by simp [World.frozen?, hh]⟩
theorem flat_set (L : List Ky) {i : Nat} (hi : i < L.length) (x : Ky) : setL (i * 2) (encK x) (flat encK L) = flat encK (L.set i x) := by
  have setL_at : ∀ (vs : List Value) (o : Nat) (cs : List Value) (t : Nat), o + vs.length ≤ cs.length → (setL o vs cs)[t]? = if o ≤ t ∧ t < o + vs.length then vs[t - o]? else cs[t]? := by
    intro vs
    induction vs with
    | nil => intro o cs t _; rw [if_neg (by simp)]; rfl
    | cons v vs ih =>
      intro o cs t hl
      simp only [List.length_cons] at hl
      show (setL (o + 1) vs (cs.set o v))[t]? = _
      rw [ih (o + 1) (cs.set o v) t (by simp; omega)]
      by_cases h0 : t = o
      · subst h0
        rw [if_neg (by omega), if_pos (by simp), List.getElem?_set_self (by omega)]
        simp
      · rw [List.getElem?_set_ne (by omega)]
        by_cases h1 : o + 1 ≤ t ∧ t < o + 1 + vs.length
        · rw [if_pos h1, if_pos (by simp; omega), show t - o = (t - (o + 1)) + 1 by omega, List.getElem?_cons_succ]
        · rw [if_neg h1, if_neg (by simp; omega)]
  have hk : ∀ y, (encK y).length = 2 := fun _ => rfl
  apply List.ext_getElem?
  intro t
  rw [setL_at _ _ _ _ (by rw [flat_length hk, hk]; omega), hk]
  by_cases ht : t < L.length * 2
  · have hd : t / 2 < L.length := by omega
    have e : t = t / 2 * 2 + t % 2 := by omega
    have h1 := flat_at hk L (t / 2) hd (t % 2) (by omega)
    have h2 := flat_at hk (L.set i x) (t / 2) (by simpa using hd) (t % 2) (by omega)
    rw [← e] at h1 h2
    rw [h1, h2]
    by_cases hit : i = t / 2
    · subst hit
      rw [if_pos (by omega), List.getElem_set_self, show t - t / 2 * 2 = t % 2 by omega]
    · rw [if_neg (by omega), List.getElem_set_ne hit]
  · rw [if_neg (by omega), List.getElem?_eq_none (by rw [flat_length hk]; omega), List.getElem?_eq_none (by rw [flat_length hk, List.length_set]; omega)]
theorem Own.set {w0 w : World} {g cap : Nat} {L : List Ky} (h : Own w0 w g cap L) {i : Nat} (hi : i < L.length) (x : Ky) : Own w0 (w.setCells g (i * 2) (encK x)) g cap (L.set i x) := by
  have hg : w0.heap.size ≤ g := by obtain ⟨_, _, _, _, hg, _⟩ := h.block; exact hg
  refine ⟨?_, below_setCells hg (encK x) (i * 2) w h.2⟩
  rw [← flat_set L hi x, List.length_set]
  have step : ∀ (vs : List Value) (o : Nat) (w : World) (xs : List Value), w.ownsRow w0.heap.size 106 2 (.slice (some ⟨g, 0, none⟩) L.length cap) L.length xs → (w.setCells g o vs).ownsRow w0.heap.size 106 2 (.slice (some ⟨g, 0, none⟩) L.length cap) L.length (setL o vs xs) := by
    intro vs
    induction vs with
    | nil => intro o w xs h; exact h
    | cons v vs ih => intro o w xs h; exact ih (o + 1) _ _ (own_set h o v)
  exact step _ _ _ _ h.1
theorem Own.drewN {w0 w : World} {g cap : Nat} {L : List Ky} (h : Own w0 w g cap L) (n : Nat) : Own w0 (w.drewN n) g cap L := ⟨own_drewN h.1 n, h.2.drewN n⟩
theorem Own.ext {w0 w w' : World} {g cap : Nat} {L : List Ky} (h : Own w0 w g cap L) (x : Ext w w') : Own w0 w' g cap L := ⟨own_below h.1 x, h.2.trans x⟩
def swp (L : List Ky) (i j : Nat) (x y : Ky) : List Ky := (L.set i y).set j x

theorem Own.ld {w0 w : World} {g cap : Nat} {L : List Ky} (h : Own w0 w g cap L) {i : Nat} {x : Ky} (hx : L[i]? = some x) : Sem.run Try.prog (loadCellsFrom ⟨g, i * 2, none⟩ 0 2 #[]) w = .ok (encK x).toArray w :=
  run_loadCellsFrom_list Try.prog w ⟨g, i * 2, none⟩ (encK x) 2 rfl fun j v hv => by
    have := h.range hx j v hv
    rw [← this]
    unfold Addr.add
    split
    · next h => subst h; rfl
    · rfl
theorem Own.st {w0 w : World} {g cap : Nat} {L : List Ky} (h : Own w0 w g cap L) {i : Nat} (hi : i < L.length) (x : Ky) : Sem.run Try.prog (storeCells ⟨g, i * 2, none⟩ (encK x) 0) w = .ok () (w.setCells g (i * 2) (encK x)) := by
  have := run_storeCells_cells (P := Try.prog) g (i * 2) (encK x) 0 w (fun j hj => by simpa using (h.there hi j hj).1) (fun j hj => by simpa using (h.there hi j hj).2) (elK.one x)
  simpa using this
open Stb in
/-- An element put into a sorted row, behind its equals. -/
theorem put_in {T1 T2 T0 : List Ky} {x : Ky} (h0 : T1 ++ T2 = T0) (hs : Sorted aheadK T0) (h2 : ∀ t ∈ T2, aheadK x t = true) (h1 : ∀ l, T1.getLast? = some l → aheadK x l = false) : Sorted aheadK (T1 ++ (x :: T2)) ∧ Stab aheadK (T0 ++ [x]) (T1 ++ (x :: T2)) := by
  subst h0
  obtain ⟨s1, s2, s12⟩ := sorted_app.1 hs
  constructor
  · refine sorted_app.2 ⟨s1, List.pairwise_cons.2 ⟨fun t ht => ordK.asy _ _ (h2 t ht), s2⟩, fun t ht y hy => ?_⟩
    rcases List.mem_cons.1 hy with rfl | hy
    · rcases List.eq_nil_or_concat T1 with rfl | ⟨A, l, rfl⟩
      · cases ht
      · have hl := h1 l (by simp)
        simp only [List.concat_eq_append] at s1 ht
        rcases List.mem_append.1 ht with ht | ht
        · have := (sorted_app.1 s1).2.2 t ht l (by simp)
          exact ordK.ntr _ _ _ hl this
        · simp at ht; subst ht; exact hl
    · exact s12 t ht y hy
  · have e1 : T1 ++ T2 ++ [x] = T1 ++ (T2 ++ [x]) := by simp
    rw [e1]
    exact (Stab.refl T1).app (stab_swap ordK fun t ht y hy => by simp at hy; subst hy; exact h2 t ht)

theorem cmpK_neg {x y : Ky} : (cmpK x y < 0) = (aheadK x y = true) := by
  have := cmpK_less x y
  rw [← this]; simp
theorem Own.ldc {w0 w : World} {g cap : Nat} {L : List Ky} (h : Own w0 w g cap L) {i : Nat} {x : Ky} (hx : L[i]? = some x) (n : Nat) (os : Array Obj) : Sem.run Try.prog (loadCellsFrom ⟨g, i * 2, none⟩ 0 2 #[]) (grow (w.drewN n) os) = .ok (encK x).toArray (grow (w.drewN n) os) := (h.ext (ext_grow w n os)).ld hx
theorem swap_at (A B : List Ky) (l x : Ky) : (((A ++ (l :: x :: B)).set (A.length + 1) l).set A.length x) = A ++ (x :: l :: B) := by
  induction A with
  | nil => rfl
  | cons a A ih => simp

set_option maxRecDepth 100000 in
set_option maxHeartbeats 4000000 in
/-- The inner loop's test and exchange, as one stretch: the walk of insertionSort. -/
theorem insertion0 (gc : Nat) (eg : ∀ args w, (callFunc gc args).run Try.prog w = .ok (.enter gc args) w) (kc : ∀ x l w, Calls Try.prog gc (#[.agg (encK x).toArray, .agg (encK l).toArray] ++ #[]) w fun e w' => e = .returned (.int .i64 (cmpK x l)) ∧ ∃ n os, w' = grow (w.drewN n) os) {w0 w : World} {g cap : Nat} {P U S : List Ky} (h : Own w0 w g cap (P ++ (U ++ S))) (a b N : Nat) (hN : (P ++ (U ++ S)).length = N) (hl : N ≤ 1000000) (ha : a = P.length) (hb : b = P.length + U.length) (hU : 1 ≤ U.length) :
    Calls Try.prog 106 #[.slice (some ⟨g, 0, none⟩) N cap, .int .i64 a, .int .i64 b, .func (.func gc) #[] #[]] w fun e w' => e = .returned (.tuple #[]) ∧ ∃ T, Own w0 w' g cap (P ++ (T ++ S)) ∧ T.length = U.length ∧ Stb.Sorted aheadK T ∧ Stb.Stab aheadK U T := by
  have hbN : b ≤ N := by rw [← hN]; simp only [List.length_append]; omega
  have hab : a < b := by omega
  have mixed : Try.prog.follows Departure.mixedOrders = true := by kernel_rfl
  replace h := Lib.hid h
  replace kc := Lib.hid kc
  replace hN := Lib.hid hN
  replace ha := Lib.hid ha
  replace hb := Lib.hid hb
  go_enter Try.func106, Try.ntmps106
  go_wp2_with fail
  go_loopw [8] (fun vi wr => ∃ (i k : Nat) (T : List Ky), vi = .int .i64 i ∧ Hid (i = a + k) ∧ a < i ∧ i ≤ b ∧ Hid (T.length = k) ∧ Hid (Stb.Sorted aheadK T ∧ Stb.Stab aheadK (U.take k) T) ∧ Hid (Own w0 wr g cap (P ++ (T ++ (U.drop k ++ S))))) (fun vi _ => b - (intOf vi).toNat)
  case atStart => exact ⟨a + 1, 1, U.take 1, by congr 1, rfl, by omega, by omega, by show _ = _; rw [List.length_take]; omega, ⟨by
      cases U with
      | nil => simp at hU
      | cons u U => simp [Stb.Sorted], Stb.Stab.refl _⟩, by show Own _ _ _ _ _; rw [← List.append_assoc (U.take 1), List.take_append_drop]; exact h.out⟩
  case round =>
    obtain ⟨i, k, T, rfl, hik, hai, hib, HT, HS, HO⟩ := hrel
    by_cases hlt : i < b
    · have q1 : (i : Int) < (b : Int) := by omega
      have hkU : k < U.length := by have := hik.out; have := hb.out; have := ha.out; omega
      obtain ⟨x, hx⟩ : ∃ x, U[k]? = some x := ⟨_, List.getElem?_eq_getElem hkU⟩
      obtain ⟨R, hR⟩ : ∃ R, U.drop (k + 1) ++ S = R := ⟨_, rfl⟩
      have hd : U.drop k ++ S = x :: R := by
        rw [List.drop_eq_getElem_cons hkU, ← hR]
        rw [List.getElem?_eq_getElem hkU] at hx
        injection hx with hx
        rw [hx]; rfl
      rw [hd] at HO
      have HTK : Hid (U.take (k + 1) = U.take k ++ [x]) := by
        show _ = _
        rw [List.take_add_one, hx]; rfl
      have hn : Hid (∀ A B : List Ky, A.length + B.length = k → ∀ z : Ky, (P ++ (A ++ (z :: (B ++ R)))).length = N) := fun A B hAB z => by
        have := congrArg List.length hd
        rw [← hN.out]
        simp only [List.length_append, List.length_cons, List.length_drop] at this ⊢
        omega
      replace hR := Lib.hid hR
      clear hd hx
      go_wp2_with fail
      go_loopw [9] (fun vj wr2 => ∃ (j : Nat) (T1 T2 : List Ky), vj = .int .i64 j ∧ a ≤ j ∧ j ≤ i ∧ Hid (j = a + T1.length) ∧ Hid (T1 ++ T2 = T) ∧ Hid (∀ t ∈ T2, aheadK x t = true) ∧ Hid (Own w0 wr2 g cap (P ++ (T1 ++ (x :: (T2 ++ R)))))) (fun vj _ => (intOf vj).toNat)
      case atStart => exact ⟨i, T, [], rfl, by omega, Nat.le_refl _, by show _ = _; rw [HT.out]; exact hik.out, by show _ = _; simp, (by intro t ht; cases ht), HO.out⟩
      case round =>
        clear HO
        obtain ⟨j, T1, T2, rfl, haj, hji, HJ, HT1, HT2, HO⟩ := hrel
        have OUT : Hid (∀ w', Own w0 w' g cap (P ++ (T1 ++ (x :: (T2 ++ R)))) → (∀ l, T1.getLast? = some l → aheadK x l = false) → ∃ (i' k' : Nat) (T' : List Ky), Value.int .i64 ((i : Int) + 1) = .int .i64 i' ∧ Hid (i' = a + k') ∧ a < i' ∧ i' ≤ b ∧ Hid (T'.length = k') ∧ Hid (Stb.Sorted aheadK T' ∧ Stb.Stab aheadK (U.take k') T') ∧ Hid (Own w0 w' g cap (P ++ (T' ++ (U.drop k' ++ S))))) := fun w' ho hl1 => by
          obtain ⟨p1, p2⟩ := put_in HT1.out HS.out.1 HT2.out hl1
          refine ⟨i + 1, k + 1, T1 ++ (x :: T2), by congr 1, by show _ = _; have := hik.out; omega, by omega, by omega, ?_, ⟨p1, ?_⟩, ?_⟩
          · show _ = _
            have := HT.out
            rw [← HT1.out] at this
            simp only [List.length_append, List.length_cons] at this ⊢
            omega
          · rw [HTK.out]
            exact ((HS.out.2).app (Stb.Stab.refl [x])).trans p2
          · show Own _ _ _ _ _
            rw [hR.out]
            simpa using ho
        by_cases hja : a < j
        · obtain ⟨jp, rfl⟩ : ∃ jp, j = jp + 1 := ⟨j - 1, by omega⟩
          have hT1 : T1 ≠ [] := by rintro rfl; have := HJ.out; simp at this; omega
          obtain ⟨A, l, rfl⟩ : ∃ A l, T1 = A ++ [l] := by
            rcases List.eq_nil_or_concat T1 with e | ⟨A, l, e⟩
            · exact absurd e hT1
            · exact ⟨A, l, by simpa using e⟩
          have hjp : jp = (P ++ A).length := by have := HJ.out; have := ha.out; simp at *; omega
          have HO2 : Own w0 wr g cap ((P ++ A) ++ (l :: x :: (T2 ++ R))) := by have := HO.out; simpa using this
          have hLN : ((P ++ A) ++ (l :: x :: (T2 ++ R))).length = N := by
            have e := hn.out (A ++ [l]) T2 (by have := congrArg List.length HT1.out; rw [List.length_append] at this; rw [this]; exact HT.out) x
            rw [← e]; simp
          obtain ⟨M, hM⟩ : ∃ M, (P ++ A) ++ (l :: x :: (T2 ++ R)) = M := ⟨_, rfl⟩
          have gl : M[jp]? = some l := by rw [← hM, hjp, List.getElem?_append_right (Nat.le_refl _)]; simp
          have gx : M[jp + 1]? = some x := by rw [← hM, hjp, List.getElem?_append_right (by omega)]; simp
          have hsw : (M.set (jp + 1) l).set jp x = (P ++ A) ++ (x :: l :: (T2 ++ R)) := by rw [← hM, hjp]; exact swap_at _ _ _ _
          rw [hM] at HO2 hLN
          replace HO2 := Lib.hid HO2
          have jl : jp + 1 < N := by have := (List.getElem?_eq_some_iff.1 gx).1; omega
          have q2 : (a : Int) < (jp : Int) + 1 := by omega
          have q3 : (jp : Int) + 1 < (N : Int) := by omega
          have q4 : (jp : Int) < (N : Int) := by omega
          have q5 : (0 : Int) ≤ (jp : Int) + 1 := by omega
          have q6 : ((jp : Int) + 1).toNat = jp + 1 := by omega
          have hwp : IntKind.i64.wrap (jp : Int) = (jp : Int) := by rw [IntKind.wrap_i64]; omega
          obtain ⟨K, hK⟩ : ∃ K, (2 : Nat) = K := ⟨_, rfl⟩
          replace hK := Lib.hid hK
          have lj := fun n os => HO2.out.ldc gx n os
          have lp := fun n os => HO2.out.ldc gl n os
          have hcg : ∀ n' os', Calls Try.prog gc (#[.agg (encK x).toArray, .agg (encK l).toArray] ++ #[]) (grow (wr.drewN n') os') fun e w' => e = .returned (.int .i64 (cmpK x l)) ∧ ∃ q os'', w' = grow ((grow (wr.drewN n') os').drewN q) os'' := fun n' os' => kc.out x l _
          rw [hK.out] at lj lp
          have aE := Try.isAgg106
          have zE := Try.sizeOf106
          rw [hK.out] at zE
          replace hM := Lib.hid hM; replace gl := Lib.hid gl; replace gx := Lib.hid gx; replace hsw := Lib.hid hsw; replace hjp := Lib.hid hjp
          have hlen : M.length = N := hLN
          replace hLN := Lib.hid hLN
          by_cases hlv : cmpK x l < 0
          · go_wp2_with fail
            go_quiet_grown (first | (go_at_fn gc; refine Calls.grown_of (hcg _ _)))
            have HO3 := HO2.out.ext (ext_grow wr nq osq)
            obtain ⟨wq, hwq⟩ : ∃ wq, grow (wr.drewN nq) osq = wq := ⟨_, rfl⟩
            rw [hwq] at HO3 ⊢
            clear hwq lj lp hcg
            have hlt' : Hid (aheadK x l = true) := by have := hlv; rw [cmpK_neg] at this; exact this
            clear hlv
            have HMd : Own w0 wq.drew g cap M := HO3.drewN 1
            clear HO3
            have lx := HMd.ld gx.out
            have ly := HMd.ld gl.out
            have s1 := HMd.st (i := jp + 1) (by rw [hlen]; exact jl) l
            have HM2 := Lib.hid (HMd.set (i := jp + 1) (by rw [hlen]; exact jl) l)
            have s2 := HM2.out.st (i := jp) (by rw [List.length_set, hlen]; omega) x
            clear HMd
            have HM3 := Lib.hid (HM2.out.set (i := jp) (by rw [List.length_set, hlen]; omega) x)
            rw [hsw.out] at HM3
            obtain ⟨cx, hcx⟩ : ∃ c, encK x = c := ⟨_, rfl⟩
            obtain ⟨cy, hcy⟩ : ∃ c, encK l = c := ⟨_, rfl⟩
            have hlx : cx.length = 2 := by rw [← hcx]; rfl
            have hly : cy.length = 2 := by rw [← hcy]; rfl
            rw [hcx] at lx s2
            rw [hcy] at ly s1 s2
            rw [hcx, hcy] at HM3
            clear HM2
            obtain ⟨W1, hW1⟩ : ∃ W1, wq.drew.setCells g ((jp + 1) * 2) cy = W1 := ⟨_, rfl⟩
            rw [hW1] at s1 s2 HM3
            obtain ⟨W2, hW2⟩ : ∃ W2, W1.setCells g (jp * 2) cx = W2 := ⟨_, rfl⟩
            rw [hW2] at s2 HM3
            rw [hK.out] at lx ly s1 s2 hlx hly
            clear hW1 hW2 hcx hcy
            go_wp2_with fail
            go_big_region
            clear lx ly s1 s2
            go_wp2_with fail
            have HJ2 : Hid (jp = a + A.length) := by show _ = _; have := HJ.out; simp at this; omega
            exact ⟨⟨jp, A, l :: T2, by first | rfl | go_num | (congr 1; omega), by omega, by omega, HJ2, by show _ = _; rw [← HT1.out]; simp, (by
              intro t ht
              rcases List.mem_cons.1 ht with rfl | ht
              · exact hlt'.out
              · exact HT2.out t ht), by show Own _ _ _ _ _; simpa using HM3.out⟩, by simp [intOf] <;> omega⟩
          · have hlt' : Hid (aheadK x l = false) := by
              have := hlv; rw [cmpK_neg] at this; show _ = _; simpa using this
            go_wp2_with fail
            go_quiet_grown (first | (go_at_fn gc; refine Calls.grown_of (hcg _ _)))
            have HO3 := Lib.hid (HO.out.ext (ext_grow wr nq osq))
            obtain ⟨wq, hwq⟩ : ∃ wq, grow (wr.drewN nq) osq = wq := ⟨_, rfl⟩
            rw [hwq] at HO3 ⊢
            clear hwq lj lp hcg
            have OUT2 := Lib.hid (OUT.out wq HO3.out (fun y hy => by simp at hy; subst hy; exact hlt'.out))
            go_wp2_with fail
            exact ⟨OUT2.out, by simp [intOf]; omega⟩
        · have q2 : ¬ ((a : Int) < (j : Int)) := by omega
          go_wp2_with fail
          go_big_region_o
          have OUT2 := Lib.hid (OUT.out wr.drew (HO.out.drewN 1) (fun y hy => by
            have : T1 = [] := by
              have := HJ.out
              exact List.eq_nil_of_length_eq_zero (by omega)
            subst this; cases hy))
          go_wp2_with fail
          exact ⟨OUT2.out, by simp [intOf]; omega⟩
    · have q1 : ¬ ((i : Int) < (b : Int)) := by omega
      go_wp2_with fail
      go_end0
      have hk := hik.out
      have hb' := hb.out
      have ha' := ha.out
      have e : k = U.length := by omega
      subst e
      refine ⟨rfl, T, by simpa using HO.out, HT.out, HS.out.1, by simpa using HS.out.2⟩
set_option maxRecDepth 100000 in
set_option maxHeartbeats 4000000 in
/-- Nothing to sort. -/
theorem insertion_nil (gc : Nat) (g cap a b N : Nat) (hl : b ≤ 1000000) (hab : b ≤ a) (ha : a ≤ 1000000) (w : World) :
    Calls Try.prog 106 #[.slice (some ⟨g, 0, none⟩) N cap, .int .i64 a, .int .i64 b, .func (.func gc) #[] #[]] w fun e w' => e = .returned (.tuple #[]) ∧ w' = w := by
  go_enter Try.func106, Try.ntmps106
  go_wp2_with fail
  go_loopw [8] (fun vi wr => vi = .int .i64 (a + 1 : Nat) ∧ wr = w) (fun vi _ => 0)
  case atStart => exact ⟨by congr 1, rfl⟩
  case round =>
    obtain ⟨rfl, rfl⟩ := hrel
    have q1 : ¬ ((a : Int) + 1 < (b : Int)) := by omega
    go_wp2_with fail
    go_end0
    exact ⟨rfl, rfl⟩
theorem pInsertion {w0 w : World} {g cap : Nat} {P U S : List Ky} (h : Own w0 w g cap (P ++ (U ++ S))) (a b N : Nat) (hN : (P ++ (U ++ S)).length = N) (hl : N ≤ 1000000) (ha : a = P.length) (hb : b = P.length + U.length) (hU : 1 ≤ U.length) :
    Calls Try.prog 106 #[.slice (some ⟨g, 0, none⟩) N cap, .int .i64 a, .int .i64 b, .func (.func 83) #[] #[]] w fun e w' => e = .returned (.tuple #[]) ∧ ∃ T, Own w0 w' g cap (P ++ (T ++ S)) ∧ T.length = U.length ∧ Stb.Sorted aheadK T ∧ Stb.Stab aheadK U T :=
  insertion0 83 (enters_of Try.func83 (by kernel_rfl) rfl) (fun x l w => pCompare x l w) h a b N hN hl ha hb hU
end KK
end Go.Proofs.Ytmbjbbflhlndcaa
namespace Go.Proofs.Ytmbjbbflhlndcaa
open Go.RowKit BigFrame Go.Sort
set_option linter.unusedVariables false
set_option linter.unusedSimpArgs false
namespace KK
set_option maxRecDepth 100000 in
set_option maxHeartbeats 4000000 in
theorem pLen64 (n : Nat) (hn : n ≤ 12) (w : World) : Calls Try.prog 92 #[.int .u64 n] w fun e w' => (∃ l : Int, e = .returned (.int .i64 l)) ∧ w' = w := by
  have q1 : ¬ ((4294967296 : Int) ≤ (n : Int)) := by omega
  have q2 : ¬ ((65536 : Int) ≤ (n : Int)) := by omega
  have q3 : ¬ ((256 : Int) ≤ (n : Int)) := by omega
  go_enter Try.func92, Try.ntmps92
  go_upto_region 10 with fail
  generalize hS : (ByteArray.mk _) = S
  have hS2 : S.size = 256 := by rw [← hS]; rfl
  clear hS
  have q4 : (n : Int) < 256 := by omega
  have q5 : n < 256 := by omega
  have q6 : n % 256 = n := by omega
  go_wp2_with fail
  all_goals (go_ret; exact ⟨⟨_, rfl⟩, rfl⟩)
set_option maxRecDepth 100000 in
theorem pLen (n : Nat) (hn : n ≤ 12) (w : World) : Calls Try.prog 98 #[.int .u64 n] w fun e w' => (∃ l : Int, e = .returned (.int .i64 l)) ∧ w' = w := by
  go_enter Try.func98, Try.ntmps98
  go_wp2_with fail
  refine (pLen64 n hn _).mono ?_
  rintro e w1 ⟨⟨l, rfl⟩, rfl⟩
  go_wp2_with fail
  go_ret
  exact ⟨⟨_, rfl⟩, rfl⟩
set_option maxRecDepth 100000 in
set_option maxHeartbeats 4000000 in
theorem pPdqK {Q : World → Prop} (v f : Value) (n : Nat) (hn : n ≤ 12) (lim : Int) {w : World} (hi : Calls Try.prog 106 #[v, .int .i64 0, .int .i64 n, f] w fun e w' => e = .returned (.tuple #[]) ∧ Q w') :
    Calls Try.prog 97 #[v, .int .i64 0, .int .i64 n, .int .i64 lim, f] w fun e w' => e = .returned (.tuple #[]) ∧ Q w' := by
  have q1 : ((n : Int) ≤ 12) := by omega
  replace hi := Lib.hid hi
  go_enter Try.func97, Try.ntmps97
  go_wp2_with fail
  refine wp_loop_rounds 1 ?_
  rw [rounds_succ]
  go_wp2_with fail
  refine hi.out.mono ?_
  rintro e w1 ⟨rfl, h1⟩
  replace h1 := Lib.hid h1
  go_wp2_with fail
  (try simp only [Exit.inBlock, Exit.then]); refine bodyPost_ret (results_none rfl _ _ _) rfl ?_
  exact ⟨rfl, h1.out⟩
set_option maxRecDepth 100000 in
theorem pSortF {Q : World → Prop} (A : Option Addr) (cap : Nat) (f : Value) (n : Nat) (hn : n ≤ 12) {w : World} (hi : Calls Try.prog 106 #[.slice A n cap, .int .i64 0, .int .i64 n, f] w fun e w' => e = .returned (.tuple #[]) ∧ Q w') :
    Calls Try.prog 82 #[.slice A n cap, f] w fun e w' => e = .returned (.tuple #[]) ∧ Q w' := by
  have wr : IntKind.u64.wrap (n : Int) = n := by simp [IntKind.wrap, IntKind.bits, IntKind.signed]; omega
  have kL := Lib.hid (pLen n hn)
  have kP := Lib.hid (fun lim => pPdqK (Q := Q) (.slice A n cap) f n hn lim hi)
  clear hi
  go_enter Try.func82, Try.ntmps82
  go_wp2_with fail
  refine (kL.out _).mono ?_
  rintro e w1 ⟨⟨l, rfl⟩, rfl⟩
  go_wp2_with fail
  refine (kP.out l).mono ?_
  rintro e w2 ⟨rfl, h2⟩
  replace h2 := Lib.hid h2
  go_wp2_with fail
  go_end0
  exact ⟨rfl, h2.out⟩
set_option maxRecDepth 100000 in
theorem insertion_none (v f : Value) (w : World) : Calls Try.prog 106 #[v, .int .i64 0, .int .i64 (0 : Nat), f] w fun e w' => e = .returned (.tuple #[]) ∧ w' = w := by
  go_enter Try.func106, Try.ntmps106
  go_wp2_with fail
  go_loopw [8] (fun vi wr => vi = .int .i64 1 ∧ wr = w) (fun vi _ => 0)
  case atStart => exact ⟨rfl, rfl⟩
  case round =>
    obtain ⟨rfl, rfl⟩ := hrel
    go_wp2_with fail
    go_end0
    exact ⟨rfl, rfl⟩
/-- slices.SortFunc of a row of the call's own. -/
theorem pSortK {w0 w : World} {A : Option Addr} {cap n : Nat} {L : List Ky} (h : w.ownsRow w0.heap.size 106 2 (.slice A n cap) n (flat encK L)) (hX : Ext w0 w) (hn : L.length = n) (hl : n ≤ 12) :
    Calls Try.prog 82 #[.slice A n cap, .func (.func 83) #[] #[]] w fun e w' => e = .returned (.tuple #[]) ∧ ∃ T, w'.ownsRow w0.heap.size 106 2 (.slice A n cap) n (flat encK T) ∧ Ext w0 w' ∧ T.length = n ∧ Stb.Sorted aheadK T ∧ Stb.Stab aheadK L T := by
  rcases h.2 with ⟨hv, hn0⟩ | ⟨g', cap', cur, hv, hg, hh, h1, h2, h3, h4⟩
  · cases hv
    have : L = [] := List.eq_nil_of_length_eq_zero (by omega)
    subst this
    refine pSortF none 0 _ 0 (by omega) ((insertion_none _ _ w).mono ?_)
    rintro e w' ⟨rfl, rfl⟩
    exact ⟨rfl, [], own_nilG _ _, hX, rfl, by simp [Stb.Sorted], Stb.Stab.refl _⟩
  · cases hv
    by_cases hn0 : n = 0
    · subst hn0
      have : L = [] := List.eq_nil_of_length_eq_zero (by omega)
      subst this
      refine pSortF _ cap _ 0 (by omega) ((insertion_none _ _ w).mono ?_)
      rintro e w' ⟨rfl, rfl⟩
      exact ⟨rfl, [], h, hX, rfl, by simp [Stb.Sorted], Stb.Stab.refl _⟩
    · subst hn
      have hO : Own w0 w g' cap ([] ++ (L ++ [])) := by
        show Own _ _ _ _ _
        rw [List.nil_append, List.append_nil]
        exact ⟨h, hX⟩
      have k := pInsertion (P := []) (U := L) (S := []) hO 0 L.length L.length (by simp) (by omega) rfl (by simp) (by omega)
      refine pSortF _ cap _ L.length (by omega) (k.mono ?_)
      rintro e w' ⟨rfl, T, ho, t1, t2, t3⟩
      rw [List.nil_append, List.append_nil] at ho
      have := ho.1
      rw [t1] at this
      exact ⟨rfl, T, this, ho.2, t1, t2, t3⟩
end KK
end Go.Proofs.Ytmbjbbflhlndcaa
