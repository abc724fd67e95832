/-
  Stable sort: a row of the call's own, element by element; slices.swapRangeCmpFunc.
-/
import Derived.Test.YtmbjbbflhlndcaaKz2
import Derived.Test.YtmbjbbflhlndcaaJw
import Derived.Shelf.SlicesQ.Load
import Derived.BigRegion
namespace Go.Proofs.Ytmbjbbflhlndcaa
open Go.RowKit BigFrame
set_option linter.unusedVariables false
set_option linter.unusedSimpArgs false

/-- A row of the call's own that reads as these events. -/
def Own (w0 w : World) (g : Nat) (cap : Nat) (L : List Ev) : Prop := w.ownsRow w0.heap.size 23 11 (.slice (some ⟨g, 0, none⟩) L.length cap) L.length (flat encV L) ∧ Ext w0 w
theorem Own.block {w0 w : World} {g cap : Nat} {L : List Ev} (h : Own w0 w g cap L) : ∃ cur, w.heap[g]? = some (.cells cur 23 (0, 0)) ∧ L.length * 11 ≤ cur.size ∧ cur.toList.take (L.length * 11) = flat encV L ∧ w0.heap.size ≤ g ∧ L.length ≤ cap ∧ cap ≤ maxLen := by
  rcases h.1.2 with ⟨h0, _⟩ | ⟨g', cap', cur, hv, hg, hh, h1, h2, h3, h4⟩
  · cases h0
  · cases hv
    refine ⟨cur, hh, ?_, h4, hg, h1, h2⟩
    have := congrArg List.length h4
    rw [List.length_take, flat_length (k := 11) (fun _ => rfl)] at this
    simp only [Array.length_toList] at this
    omega
theorem Own.range {w0 w : World} {g cap : Nat} {L : List Ev} (h : Own w0 w g cap L) {i : Nat} {x : Ev} (hx : L[i]? = some x) : w.rangeAt g (i * 11) (encV x) := fun j v hv => by
  obtain ⟨cur, hh, hs, ht, _⟩ := h.block
  have hi : i < L.length := (List.getElem?_eq_some_iff.1 hx).1
  have hj : j < 11 := (List.getElem?_eq_some_iff.1 hv).1
  have hL : L[i] = x := by rw [List.getElem?_eq_getElem hi] at hx; simpa using hx
  have hf := flat_at (enc := encV) (k := 11) (fun _ => rfl) L i hi j hj
  rw [hL, hv, ← ht, List.getElem?_take_of_lt (by omega)] at hf
  simp only [World.cell?, hh, Option.isSome_none, Bool.false_eq_true, if_false]
  rw [← Array.getElem?_toList]; exact hf
theorem Own.there {w0 w : World} {g cap : Nat} {L : List Ev} (h : Own w0 w g cap L) {i : Nat} (hi : i < L.length) : w.there g (i * 11) 11 := fun j hj => by
  obtain ⟨x, hx⟩ : ∃ x, L[i]? = some x := ⟨_, List.getElem?_eq_getElem hi⟩
  obtain ⟨cur, hh, _⟩ := h.block
  have hv : (encV x)[j]? = some ((encV x)[j]'(show j < 11 from hj)) := List.getElem?_eq_getElem _
  exact ⟨by rw [h.range hx j _ hv]; rfl, by simp [World.frozen?, hh]⟩
theorem flat_set (L : List Ev) {i : Nat} (hi : i < L.length) (x : Ev) : setL (i * 11) (encV x) (flat encV L) = flat encV (L.set i x) := by
  have setL_at : ∀ (vs : List Value) (o : Nat) (cs : List Value) (t : Nat), o + vs.length ≤ cs.length → (setL o vs cs)[t]? = if o ≤ t ∧ t < o + vs.length then vs[t - o]? else cs[t]? := by
    intro vs
    induction vs with
    | nil => intro o cs t _; rw [if_neg (by simp)]; rfl
    | cons v vs ih =>
      intro o cs t hl
      simp only [List.length_cons] at hl
      show (setL (o + 1) vs (cs.set o v))[t]? = _
      rw [ih (o + 1) (cs.set o v) t (by simp; omega)]
      by_cases h0 : t = o
      · subst h0
        rw [if_neg (by omega), if_pos (by simp), List.getElem?_set_self (by omega)]
        simp
      · rw [List.getElem?_set_ne (by omega)]
        by_cases h1 : o + 1 ≤ t ∧ t < o + 1 + vs.length
        · rw [if_pos h1, if_pos (by simp; omega), show t - o = (t - (o + 1)) + 1 by omega, List.getElem?_cons_succ]
        · rw [if_neg h1, if_neg (by simp; omega)]
  have hk : ∀ y, (encV y).length = 11 := fun _ => rfl
  apply List.ext_getElem?
  intro t
  rw [setL_at _ _ _ _ (by rw [flat_length hk, hk]; omega), hk]
  by_cases ht : t < L.length * 11
  · have hd : t / 11 < L.length := by omega
    have e : t = t / 11 * 11 + t % 11 := by omega
    have h1 := flat_at hk L (t / 11) hd (t % 11) (by omega)
    have h2 := flat_at hk (L.set i x) (t / 11) (by simpa using hd) (t % 11) (by omega)
    rw [← e] at h1 h2
    rw [h1, h2]
    by_cases hit : i = t / 11
    · subst hit
      rw [if_pos (by omega), List.getElem_set_self, show t - t / 11 * 11 = t % 11 by omega]
    · rw [if_neg (by omega), List.getElem_set_ne hit]
  · rw [if_neg (by omega), List.getElem?_eq_none (by rw [flat_length hk]; omega), List.getElem?_eq_none (by rw [flat_length hk, List.length_set]; omega)]
theorem Own.set {w0 w : World} {g cap : Nat} {L : List Ev} (h : Own w0 w g cap L) {i : Nat} (hi : i < L.length) (x : Ev) : Own w0 (w.setCells g (i * 11) (encV x)) g cap (L.set i x) := by
  have hg : w0.heap.size ≤ g := by obtain ⟨_, _, _, _, hg, _⟩ := h.block; exact hg
  refine ⟨?_, below_setCells hg (encV x) (i * 11) w h.2⟩
  rw [← flat_set L hi x, List.length_set]
  have step : ∀ (vs : List Value) (o : Nat) (w : World) (xs : List Value), w.ownsRow w0.heap.size 23 11 (.slice (some ⟨g, 0, none⟩) L.length cap) L.length xs → (w.setCells g o vs).ownsRow w0.heap.size 23 11 (.slice (some ⟨g, 0, none⟩) L.length cap) L.length (setL o vs xs) := by
    intro vs
    induction vs with
    | nil => intro o w xs h; exact h
    | cons v vs ih => intro o w xs h; exact ih (o + 1) _ _ (own_set h o v)
  exact step _ _ _ _ h.1
theorem Own.drewN {w0 w : World} {g cap : Nat} {L : List Ev} (h : Own w0 w g cap L) (n : Nat) : Own w0 (w.drewN n) g cap L := ⟨own_drewN h.1 n, h.2.drewN n⟩
theorem Own.ext {w0 w w' : World} {g cap : Nat} {L : List Ev} (h : Own w0 w g cap L) (x : Ext w w') : Own w0 w' g cap L := ⟨own_below h.1 x, h.2.trans x⟩
def swp (L : List Ev) (i j : Nat) (x y : Ev) : List Ev := (L.set i y).set j x

theorem Own.ld {w0 w : World} {g cap : Nat} {L : List Ev} (h : Own w0 w g cap L) {i : Nat} {x : Ev} (hx : L[i]? = some x) : Sem.run Try.prog (loadCellsFrom ⟨g, i * 11, none⟩ 0 11 #[]) w = .ok (encV x).toArray w :=
  run_loadCellsFrom_list Try.prog w ⟨g, i * 11, none⟩ (encV x) 11 rfl fun j v hv => by
    have := h.range hx j v hv
    rw [← this]
    unfold Addr.add
    split
    · next h => subst h; rfl
    · rfl
theorem Own.st {w0 w : World} {g cap : Nat} {L : List Ev} (h : Own w0 w g cap L) {i : Nat} (hi : i < L.length) (x : Ev) : Sem.run Try.prog (storeCells ⟨g, i * 11, none⟩ (encV x) 0) w = .ok () (w.setCells g (i * 11) (encV x)) := by
  have := run_storeCells_cells (P := Try.prog) g (i * 11) (encV x) 0 w (fun j hj => by simpa using (h.there hi j hj).1) (fun j hj => by simpa using (h.there hi j hj).2) (elV.one x)
  simpa using this
set_option maxRecDepth 100000 in
set_option maxHeartbeats 2000000 in
theorem swapRange0 {w0 w : World} {g cap : Nat} {L : List Ev} (h : Own w0 w g cap L) (f : Value) (a b n : Nat) (hl : L.length ≤ 1000000) (han : a + n ≤ b) (hbn : b + n ≤ L.length) :
    Calls Try.prog 124 #[.slice (some ⟨g, 0, none⟩) L.length cap, .int .i64 a, .int .i64 b, .int .i64 n, f] w fun e w' => e = .returned (.tuple #[]) ∧ ∃ L', Own w0 w' g cap L' ∧ L'.length = L.length ∧ ∀ t, L'[t]? = if a ≤ t ∧ t < a + n then L[t - a + b]? else if b ≤ t ∧ t < b + n then L[t - b + a]? else L[t]? := by
  replace h := Lib.hid h
  go_enter Try.func124, Try.ntmps124
  go_wp2_with fail
  go_loopw [10] (fun i wr => ∃ (k : Nat) (M : List Ev), k ≤ n ∧ i = .int .i64 k ∧ Hid (Own w0 wr g cap M) ∧ Hid (M.length = L.length) ∧ Hid (∀ t, M[t]? = if a ≤ t ∧ t < a + k then L[t - a + b]? else if b ≤ t ∧ t < b + k then L[t - b + a]? else L[t]?)) (fun i _ => n - (intOf i).toNat)
  case atStart => exact ⟨0, L, Nat.zero_le _, rfl, h.out, rfl, fun t => by rw [if_neg (by omega), if_neg (by omega)]⟩
  case round =>
    obtain ⟨k, M, hk, rfl, HM, HL, HE⟩ := hrel
    by_cases hlt : k < n
    · have q3 : (k : Int) < (n : Int) := by omega
      have hak : a + k < L.length := by omega
      have hbk : b + k < L.length := by omega
      obtain ⟨x, hx⟩ : ∃ x, M[a + k]? = some x := ⟨_, List.getElem?_eq_getElem (by rw [HL.out]; exact hak)⟩
      obtain ⟨y, hy⟩ : ∃ y, M[b + k]? = some y := ⟨_, List.getElem?_eq_getElem (by rw [HL.out]; exact hbk)⟩
      obtain ⟨K, hK⟩ : ∃ K, (11 : Nat) = K := ⟨_, rfl⟩
      replace hK := Lib.hid hK
      have HMd : Own w0 wr.drew g cap M := HM.out.drewN 1
      have lx := HMd.ld hx
      have ly := HMd.ld hy
      have s1 := HMd.st (i := a + k) (by rw [HL.out]; exact hak) y
      have HM2 := Lib.hid (HMd.set (i := a + k) (by rw [HL.out]; exact hak) y)
      have s2 := HM2.out.st (i := b + k) (by rw [List.length_set, HL.out]; exact hbk) x
      clear HMd
      rw [hK.out] at lx ly
      have HM3 := Lib.hid (HM2.out.set (i := b + k) (by rw [List.length_set, HL.out]; exact hbk) x)
      obtain ⟨cx, hcx⟩ : ∃ c, encV x = c := ⟨_, rfl⟩
      obtain ⟨cy, hcy⟩ : ∃ c, encV y = c := ⟨_, rfl⟩
      have hlx : cx.length = 11 := by rw [← hcx]; rfl
      have hly : cy.length = 11 := by rw [← hcy]; rfl
      rw [hcx] at lx s2
      rw [hcy] at ly s1 s2
      rw [hcx, hcy] at HM3
      rw [hcy] at HM2
      obtain ⟨W1, hW1⟩ : ∃ W1, wr.drew.setCells g ((a + k) * 11) cy = W1 := ⟨_, rfl⟩
      rw [hW1] at s1 s2 HM3 HM2
      obtain ⟨W2, hW2⟩ : ∃ W2, W1.setCells g ((b + k) * 11) cx = W2 := ⟨_, rfl⟩
      rw [hW2] at s2 HM3
      rw [hK.out] at s1 s2 hlx hly
      replace hW1 := Lib.hid hW1; replace hW2 := Lib.hid hW2
      replace hcx := Lib.hid hcx; replace hcy := Lib.hid hcy; replace hx := Lib.hid hx; replace hy := Lib.hid hy
      have q5 : (a : Int) + (k : Int) < (L.length : Int) := by omega
      have q6 : (b : Int) + (k : Int) < (L.length : Int) := by omega
      have q7 : (0 : Int) ≤ (a : Int) + (k : Int) := by omega
      have q8 : (0 : Int) ≤ (b : Int) + (k : Int) := by omega
      have q9 : ((a : Int) + (k : Int)).toNat = a + k := by omega
      have q10 : ((b : Int) + (k : Int)).toNat = b + k := by omega
      go_wp2_with fail
      have aE := Try.isAgg23
      have zE := Try.sizeOf23
      rw [hK.out] at zE
      go_big_region
      clear lx ly s1 s2
      go_wp2_with fail
      refine ⟨⟨k + 1, (M.set (a + k) y).set (b + k) x, hlt, by simp, HM3, by simp only [List.length_set]; exact HL, ?_⟩, by simp [intOf]; omega⟩
      have hE := HE.out
      have hx' := hx.out
      have hy' := hy.out
      have hM := HL.out
      intro t
      have hEx := hE (a + k)
      rw [if_neg (by omega), if_neg (by omega), hx'] at hEx
      have hEy := hE (b + k)
      rw [if_neg (by omega), if_neg (by omega), hy'] at hEy
      by_cases h1 : t = b + k
      · subst h1
        rw [List.getElem?_set_self (by rw [List.length_set]; omega), if_neg (by omega), if_pos (by omega), show b + k - b + a = a + k by omega, ← hEx]
      · rw [List.getElem?_set_ne (Ne.symm h1)]
        by_cases h2 : t = a + k
        · subst h2
          rw [List.getElem?_set_self (by omega), if_pos (by omega), show a + k - a + b = b + k by omega, ← hEy]
        · rw [List.getElem?_set_ne (Ne.symm h2), hE t]
          by_cases h3 : a ≤ t ∧ t < a + k
          · rw [if_pos h3, if_pos (by omega)]
          · by_cases h4 : b ≤ t ∧ t < b + k
            · rw [if_neg h3, if_pos h4, if_neg (by omega), if_pos (by omega)]
            · rw [if_neg h3, if_neg h4, if_neg (by omega), if_neg (by omega)]
    · have q3 : ¬ ((k : Int) < (n : Int)) := by omega
      go_wp2_with fail
      go_end0
      have hkn : k = n := by omega
      subst hkn
      exact ⟨rfl, M, HM.out, HL.out, HE.out⟩
end Go.Proofs.Ytmbjbbflhlndcaa
