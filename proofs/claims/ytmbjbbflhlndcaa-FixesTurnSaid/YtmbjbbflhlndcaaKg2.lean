/-
  lumperref08: at, Take.
-/
import Derived.Test.YtmbjbbflhlndcaaKf2
import Derived.Test.YtmbjbbflhlndcaaJt
import Derived.Laws.IdiomStrings
namespace Go.Proofs.Ytmbjbbflhlndcaa
open Go.RowKit BigFrame
set_option linter.unusedVariables false
set_option linter.unusedSimpArgs false

theorem rw_setCell {α : Type} {enc : α → List Value} {k : Nat} {w : World} {A : Option Addr} {l : List α} (h : Rw enc k w A l) {p : Addr} (v : Value) (hp : ∀ a, A = some a → a.block ≠ p.block) : Rw enc k (w.setCell p v) A l := fun hne => by
  obtain ⟨b, off, hA, hb, hc⟩ := h hne
  refine ⟨b, off, hA, by simpa [World.setCell] using hb, fun i hi q u hu => ?_⟩
  rw [World.cell?_of_block (w := w) (Below.heap_setCell w p v b (fun e => hp _ hA e))]
  exact hc i hi q u hu
/-- The bytes as a string. -/
theorem run_str {w : World} {A : Option Addr} {l : List UInt8} (h : Rb w A l) (c : Nat) : (convert 29 9 (.slice A l.length c)).run Try.prog w = .ok (.string ⟨l.toArray⟩) w := by
  rcases A with _ | ad
  · have h0 := h.none_nil
    subst h0
    rw [run_convert_bytes_nil w 29 5 Try.underlying29 Try.underlying5 _ _ 9 Try.underlying9]
    rfl
  · refine run_convert_bytes_back w 29 9 5 ad c l Try.underlying29 Try.underlying5 Try.underlying9 fun j hj => ?_
    obtain ⟨b, off, hA, _, hc⟩ := h (by intro e; subst e; simp at hj)
    cases hA
    have := hc j hj 0 _ rfl
    rw [Nat.mul_one, Nat.add_zero] at this
    by_cases h0 : j = 0
    · subst h0; simpa [Addr.add] using this
    · simpa [Addr.add, h0] using this

set_option maxRecDepth 100000 in
theorem rAt {w : World} {A : Option Addr} {l : List Nat} (h : Rn w A (intsOf l)) (n : Nat) (hn : n = l.length) (c : Nat) (i : Nat) (hi : i ≤ 100) (hl : l.length ≤ 100) :
    Calls Try.prog 70 #[.slice A n c, .int .i64 i] w fun e w' => e = .returned (.int .i64 (nth l i)) ∧ w = w' := by
  subst hn
  by_cases hlt : i < l.length
  · obtain ⟨b, off, x, rfl, hb, hx, hc⟩ := Rd.at_ h (j := i) (by rw [intsOf_len]; exact hlt)
    have hc0 := hc 0 _ rfl
    rw [Nat.mul_one, Nat.add_zero] at hc0
    have hx2 : nth l i = x := by
      have := hx
      unfold intsOf at this
      rw [List.getElem?_map] at this
      unfold nth
      cases h1 : l[i]? with
      | none => rw [h1] at this; cases this
      | some y => rw [h1] at this; simpa using this
    rw [hx2]
    have d1 : decide ((l.length : Int) ≤ (i : Int)) = false := decide_eq_false (by omega)
    have q3 : (i : Int) < (l.length : Int) := by omega
    have q4 : (0 : Int) ≤ (i : Int) := by omega
    clear hx hx2 hc h
    go_enter Try.func70, Try.ntmps70
    go_wp2
    go_ret
    exact ⟨rfl, rfl⟩
  · have hx2 : nth l i = 0 := by
      unfold nth
      rw [List.getElem?_eq_none (by omega)]
      rfl
    rw [hx2]
    have d1 : decide ((l.length : Int) ≤ (i : Int)) = true := decide_eq_true (by omega)
    clear hx2 h
    go_enter Try.func70, Try.ntmps70
    go_wp2
    go_ret
    exact ⟨rfl, rfl⟩

/-- What a call leaves that takes an event: what is behind lies where it lay. -/
def RetEvP (w : World) (A0 : Option Addr) (c0 : Nat) (r : Option (Ev × List UInt8)) (err : Int) (e : Ending) (w' : World) : Prop := Ext w w' ∧ match r with
  | none => e = .returned (.tuple #[.agg (encV ev0).toArray, .slice none 0 0, .int .i64 err])
  | some (x, s) => ∃ A cap, e = .returned (.tuple #[.agg (encV x).toArray, .slice A s.length cap, .int .i64 0]) ∧ Rb w' A s ∧ s.length ≤ cap ∧ cap ≤ c0 ∧ SameBlk A0 A

/-- 'b[:j]'. -/
theorem slice_hiS {A : Option Addr} {O : List UInt8} {w0 : World} {c j : Nat} (h : Rb w0 A O) (hj : j ≤ O.length) (hc : O.length ≤ c) :
    ∃ A', (∀ w : World, (Instr.sliceAt 29 (.slice A O.length c) none (some (.int .i64 j)) none).run Try.prog w = .ok (.slice A' j c) w) ∧ ∀ w, Rb w A O → Rb w A' (O.take j) := by
  obtain ⟨A', nT, h1, h2, h3, h4⟩ := slice_hiG 29 1 (enc := encB) elemB sizeB (A := A) (O := O) (n := O.length) (c := c) (j := j) rfl hj hc
  have e : nT = j := by rw [h1.out, List.length_take]; omega
  subst e
  exact ⟨A', h3, h4⟩
theorem bx_setCell_other {w : World} {k : Nat} {cs : List Value} {t : TypeId} (h : Bx w k cs t) {p : Addr} (v : Value) (hne : k ≠ p.block) : Bx (w.setCell p v) k cs t := by
  unfold Bx at h ⊢; rw [Below.heap_setCell w p v k hne]; exact h
theorem rEPutNilY (w : World) (e : Ev) (h64 : Ev64 e) (hf : fairB e = true) : Calls Try.prog 35 #[.slice none 0 0, .agg (encV e).toArray] w (RetBE w (encE e) 0) := by
  have := rEPutY (w := w) (A := none) (b := []) Rw.nil (by simp) 0 e h64 hf
  exact this
theorem rEPutNilN (w : World) (e : Ev) (h64 : Ev64 e) (hf : fairB e = false) : Calls Try.prog 35 #[.slice none 0 0, .agg (encV e).toArray] w (RetBE w [] 80) := by
  have := rEPutN (w := w) (A := none) (b := []) Rw.nil (by simp) 0 e h64 hf
  exact this
set_option maxRecDepth 100000 in
set_option maxHeartbeats 2000000 in
theorem rETake {w : World} {A : Option Addr} {b : List UInt8} (h : Rb w A b) (hb : b.length ≤ 100000000) (c : Nat) (hc : b.length ≤ c) (hc2 : c ≤ 9223372036854775807) :
    Calls Try.prog 36 #[.slice A b.length c] w (RetEvP w A c (decE b) 80) := by
  rw [← refE_eq]
  replace h := Lib.hid h; replace hb := Lib.hid hb; replace hc := Lib.hid hc; replace hc2 := Lib.hid hc2
  obtain ⟨R, hR⟩ : ∃ R, refE b = R := ⟨_, rfl⟩
  rw [hR]
  replace hR := Lib.hid hR
  have HR0 := Lib.hid (Bx.new w (encV ev0) 23)
  have X0 := Lib.hid ((Ext.refl w).alloc (.cells (encV ev0).toArray 23))
  go_enter Try.func36, Try.ntmps36
  go_wp2_with fail
  refine (rTakes (h.out.ext X0.out) hb.out c hc.out hc2.out).mono ?_
  rintro e w1 ⟨A1, c1, rfl, r1, x1, o1⟩
  have l10 := numbs_len 10 b
  have l64 := Lib.hid (numbs_bd 10 b)
  have hRr : Hid (R = if fairB (evOf (numbs 10 b)) = true then if b.take (encE (evOf (numbs 10 b))).length = encE (evOf (numbs 10 b)) then some (evOf (numbs 10 b), b.drop (encE (evOf (numbs 10 b))).length) else none else none) := hR.out.symm
  obtain ⟨L, hL⟩ : ∃ L, numbs 10 b = L := ⟨_, rfl⟩
  rw [hL] at hRr l10 l64 r1 o1
  rw [hL]
  rw [intsOf_len] at o1 ⊢
  obtain ⟨n, hn⟩ : ∃ n, L.length = n := ⟨_, rfl⟩
  rw [hn] at o1 l10 ⊢
  have hn2 : Hid (n = L.length) := hn.symm
  have HR1 := Lib.hid (HR0.out.ext x1); have X1 := Lib.hid (X0.out.trans x1); have R1 := Lib.hid r1
  have hblk : Hid (∀ a, A1 = some a → w.heap.size + 1 ≤ a.block ∧ a.block < w1.heap.size) := fun a ha => by
    rcases o1.2 with ⟨h0, _⟩ | ⟨g, cap, cur, hv, hg, hh, _⟩
    · cases h0; cases ha
    · cases hv
      cases ha
      have := (Array.getElem?_eq_some_iff.1 hh).1
      simp at hg
      exact ⟨by simpa using hg, this⟩
  have hz1 : w.heap.size + 1 ≤ w1.heap.size := by have := x1.size; simpa using this
  clear x1 r1 o1 hL hn HR0 X0 hR
  have k0 := Lib.hid (rAt R1.out n hn2.out c1 0 (by omega) (by rw [← hn2.out]; omega))
  have k1 := Lib.hid (rAt R1.out n hn2.out c1 1 (by omega) (by rw [← hn2.out]; omega))
  have k2 := Lib.hid (rAt R1.out n hn2.out c1 2 (by omega) (by rw [← hn2.out]; omega))
  have k3 := Lib.hid (rAt R1.out n hn2.out c1 3 (by omega) (by rw [← hn2.out]; omega))
  go_wp2_with fail
  refine k0.out.mono ?_
  rintro e w1 ⟨rfl, rfl⟩
  go_wp2_with fail
  refine k1.out.mono ?_
  rintro e w1 ⟨rfl, rfl⟩
  go_wp2_with fail
  refine k2.out.mono ?_
  rintro e w1 ⟨rfl, rfl⟩
  go_wp2_with fail
  refine k3.out.mono ?_
  rintro e w1 ⟨rfl, rfl⟩
  have hf4 := Lib.hid (cells_ok ⟨nth L 0, nth L 1, nth L 2, nth L 3, 0, 0, 0, 0, 0, 0, 0⟩)
  obtain ⟨v0, hv0⟩ : ∃ v, nth L 0 = v := ⟨_, rfl⟩
  obtain ⟨v1, hv1⟩ : ∃ v, nth L 1 = v := ⟨_, rfl⟩
  obtain ⟨v2, hv2⟩ : ∃ v, nth L 2 = v := ⟨_, rfl⟩
  obtain ⟨v3, hv3⟩ : ∃ v, nth L 3 = v := ⟨_, rfl⟩
  rw [hv0, hv1, hv2] 
  have hev : Hid (evOf L = if v3 = 3 then ⟨v0, v1, v2, v3, nth L 4, nth L 5, nth L 6, nth L 7, nth L 8, nth L 9, 0⟩ else if v3 = 4 then ⟨v0, v1, v2, v3, 0, 0, 0, 0, 0, 0, nth L 4⟩ else ⟨v0, v1, v2, v3, 0, 0, 0, 0, 0, 0, 0⟩) := by show _ = _; unfold evOf; rw [hv0, hv1, hv2, hv3]
  rw [hv0, hv1, hv2, hv3] at hf4
  rw [hv3]
  clear hv0 hv1 hv2 hv3 k0 k1 k2 k3
  have HE := Lib.hid (Bx.new w1 (encV ⟨v0, v1, v2, v3, 0, 0, 0, 0, 0, 0, 0⟩) 23)
  have HR2 := Lib.hid (HR1.out.alloc (.cells (encV ⟨v0, v1, v2, v3, 0, 0, 0, 0, 0, 0, 0⟩).toArray 23))
  have X2 := Lib.hid (X1.out.alloc (.cells (encV ⟨v0, v1, v2, v3, 0, 0, 0, 0, 0, 0, 0⟩).toArray 23))
  have R2 := Lib.hid (R1.out.alloc (.cells (encV ⟨v0, v1, v2, v3, 0, 0, 0, 0, 0, 0, 0⟩).toArray 23))
  have e3 := HE.out.cell 3 _ rfl
  obtain ⟨w2, hw2⟩ : ∃ W, w1.alloc (.cells (encV ⟨v0, v1, v2, v3, 0, 0, 0, 0, 0, 0, 0⟩).toArray 23) = W := ⟨_, rfl⟩
  have hg2 : w1.heap.size < w2.heap.size := by rw [← hw2]; simp
  have HE0 := Lib.hid HE.out
  rw [hw2] at HE HR2 X2 R2
  replace hw2 := Lib.hid hw2
  have hgb := Lib.hid (show ∀ a, A1 = some a → a.block < w1.heap.size from fun a ha => (hblk.out a ha).2)
  by_cases q3 : v3 = 3
  · have b3 : (v3 == 3) = true := beq_iff_eq.2 q3
    have b4 : (v3 == 4) = false := by rw [beq_eq_false_iff_ne]; omega
    have hE : Hid (evOf L = ⟨v0, v1, v2, v3, nth L 4, nth L 5, nth L 6, nth L 7, nth L 8, nth L 9, 0⟩) := by show _ = _; rw [hev.out, if_pos q3]
    clear hev
    replace q3 := Lib.hid q3
    go_wp2_with (first | (refine store_newE rfl 23 _ _ (by rfl) w1 w1.heap.size rfl (encV ev0).toArray (encV ⟨v0, v1, v2, v3, 0, 0, 0, 0, 0, 0, 0⟩).toArray 23 (by rfl) (by rfl) (by rfl) sizeV rfl hf4.out ?_))
    rw [hw2.out]
    clear hw2 e3 hf4 HE0
    refine (rAt R2.out n hn2.out c1 4 (by omega) (by rw [← hn2.out]; omega)).mono ?_
    rintro e w2' ⟨rfl, rfl⟩
    have eo := HE.out.cell 4 _ rfl
    have fo := HE.out.frozen 4
    have HE3 : Hid (Bx (w2.setCell ⟨w1.heap.size, 4, none⟩ (.int .i64 (nth L 4))) w1.heap.size (encV ⟨v0, v1, v2, v3, nth L 4, 0, 0, 0, 0, 0, 0⟩) 23) := HE.out.set_ 4 _
    have HR3 := Lib.hid (bx_setCell_other HR2.out (p := ⟨w1.heap.size, 4, none⟩) (.int .i64 (nth L 4)) (by show w.heap.size ≠ w1.heap.size; omega))
    have X3 : Hid (Ext w (w2.setCell ⟨w1.heap.size, 4, none⟩ (.int .i64 (nth L 4)))) := Below.setCell X2.out (p := ⟨w1.heap.size, 4, none⟩) (by show w.heap.size ≤ w1.heap.size; omega) (.int .i64 (nth L 4))
    have R3 := Lib.hid (rw_setCell R2.out (p := ⟨w1.heap.size, 4, none⟩) (.int .i64 (nth L 4)) (fun a ha => Nat.ne_of_lt (hgb.out a ha)))
    clear HR2 X2 R2
    go_wp2_with fail
    obtain ⟨u3, hu⟩ : ∃ U, w2.setCell ⟨w1.heap.size, 4, none⟩ (.int .i64 (nth L 4)) = U := ⟨_, rfl⟩
    rw [hu] at HE3 HR3 X3 R3
    rw [hu]
    clear hu eo fo HE
    refine (rAt R3.out n hn2.out c1 5 (by omega) (by rw [← hn2.out]; omega)).mono ?_
    rintro e w2' ⟨rfl, rfl⟩
    have eo := HE3.out.cell 5 _ rfl
    have fo := HE3.out.frozen 5
    have HE4 : Hid (Bx (u3.setCell ⟨w1.heap.size, 5, none⟩ (.int .i64 (nth L 5))) w1.heap.size (encV ⟨v0, v1, v2, v3, nth L 4, nth L 5, 0, 0, 0, 0, 0⟩) 23) := HE3.out.set_ 5 _
    have HR4 := Lib.hid (bx_setCell_other HR3.out (p := ⟨w1.heap.size, 5, none⟩) (.int .i64 (nth L 5)) (by show w.heap.size ≠ w1.heap.size; omega))
    have X4 : Hid (Ext w (u3.setCell ⟨w1.heap.size, 5, none⟩ (.int .i64 (nth L 5)))) := Below.setCell X3.out (p := ⟨w1.heap.size, 5, none⟩) (by show w.heap.size ≤ w1.heap.size; omega) (.int .i64 (nth L 5))
    have R4 := Lib.hid (rw_setCell R3.out (p := ⟨w1.heap.size, 5, none⟩) (.int .i64 (nth L 5)) (fun a ha => Nat.ne_of_lt (hgb.out a ha)))
    clear HR3 X3 R3
    go_wp2_with fail
    obtain ⟨u4, hu⟩ : ∃ U, u3.setCell ⟨w1.heap.size, 5, none⟩ (.int .i64 (nth L 5)) = U := ⟨_, rfl⟩
    rw [hu] at HE4 HR4 X4 R4
    rw [hu]
    clear hu eo fo HE3
    refine (rAt R4.out n hn2.out c1 6 (by omega) (by rw [← hn2.out]; omega)).mono ?_
    rintro e w2' ⟨rfl, rfl⟩
    have eo := HE4.out.cell 6 _ rfl
    have fo := HE4.out.frozen 6
    have HE5 : Hid (Bx (u4.setCell ⟨w1.heap.size, 6, none⟩ (.int .i64 (nth L 6))) w1.heap.size (encV ⟨v0, v1, v2, v3, nth L 4, nth L 5, nth L 6, 0, 0, 0, 0⟩) 23) := HE4.out.set_ 6 _
    have HR5 := Lib.hid (bx_setCell_other HR4.out (p := ⟨w1.heap.size, 6, none⟩) (.int .i64 (nth L 6)) (by show w.heap.size ≠ w1.heap.size; omega))
    have X5 : Hid (Ext w (u4.setCell ⟨w1.heap.size, 6, none⟩ (.int .i64 (nth L 6)))) := Below.setCell X4.out (p := ⟨w1.heap.size, 6, none⟩) (by show w.heap.size ≤ w1.heap.size; omega) (.int .i64 (nth L 6))
    have R5 := Lib.hid (rw_setCell R4.out (p := ⟨w1.heap.size, 6, none⟩) (.int .i64 (nth L 6)) (fun a ha => Nat.ne_of_lt (hgb.out a ha)))
    clear HR4 X4 R4
    go_wp2_with fail
    obtain ⟨u5, hu⟩ : ∃ U, u4.setCell ⟨w1.heap.size, 6, none⟩ (.int .i64 (nth L 6)) = U := ⟨_, rfl⟩
    rw [hu] at HE5 HR5 X5 R5
    rw [hu]
    clear hu eo fo HE4
    refine (rAt R5.out n hn2.out c1 7 (by omega) (by rw [← hn2.out]; omega)).mono ?_
    rintro e w2' ⟨rfl, rfl⟩
    have eo := HE5.out.cell 7 _ rfl
    have fo := HE5.out.frozen 7
    have HE6 : Hid (Bx (u5.setCell ⟨w1.heap.size, 7, none⟩ (.int .i64 (nth L 7))) w1.heap.size (encV ⟨v0, v1, v2, v3, nth L 4, nth L 5, nth L 6, nth L 7, 0, 0, 0⟩) 23) := HE5.out.set_ 7 _
    have HR6 := Lib.hid (bx_setCell_other HR5.out (p := ⟨w1.heap.size, 7, none⟩) (.int .i64 (nth L 7)) (by show w.heap.size ≠ w1.heap.size; omega))
    have X6 : Hid (Ext w (u5.setCell ⟨w1.heap.size, 7, none⟩ (.int .i64 (nth L 7)))) := Below.setCell X5.out (p := ⟨w1.heap.size, 7, none⟩) (by show w.heap.size ≤ w1.heap.size; omega) (.int .i64 (nth L 7))
    have R6 := Lib.hid (rw_setCell R5.out (p := ⟨w1.heap.size, 7, none⟩) (.int .i64 (nth L 7)) (fun a ha => Nat.ne_of_lt (hgb.out a ha)))
    clear HR5 X5 R5
    go_wp2_with fail
    obtain ⟨u6, hu⟩ : ∃ U, u5.setCell ⟨w1.heap.size, 7, none⟩ (.int .i64 (nth L 7)) = U := ⟨_, rfl⟩
    rw [hu] at HE6 HR6 X6 R6
    rw [hu]
    clear hu eo fo HE5
    refine (rAt R6.out n hn2.out c1 8 (by omega) (by rw [← hn2.out]; omega)).mono ?_
    rintro e w2' ⟨rfl, rfl⟩
    have eo := HE6.out.cell 8 _ rfl
    have fo := HE6.out.frozen 8
    have HE7 : Hid (Bx (u6.setCell ⟨w1.heap.size, 8, none⟩ (.int .i64 (nth L 8))) w1.heap.size (encV ⟨v0, v1, v2, v3, nth L 4, nth L 5, nth L 6, nth L 7, nth L 8, 0, 0⟩) 23) := HE6.out.set_ 8 _
    have HR7 := Lib.hid (bx_setCell_other HR6.out (p := ⟨w1.heap.size, 8, none⟩) (.int .i64 (nth L 8)) (by show w.heap.size ≠ w1.heap.size; omega))
    have X7 : Hid (Ext w (u6.setCell ⟨w1.heap.size, 8, none⟩ (.int .i64 (nth L 8)))) := Below.setCell X6.out (p := ⟨w1.heap.size, 8, none⟩) (by show w.heap.size ≤ w1.heap.size; omega) (.int .i64 (nth L 8))
    have R7 := Lib.hid (rw_setCell R6.out (p := ⟨w1.heap.size, 8, none⟩) (.int .i64 (nth L 8)) (fun a ha => Nat.ne_of_lt (hgb.out a ha)))
    clear HR6 X6 R6
    go_wp2_with fail
    obtain ⟨u7, hu⟩ : ∃ U, u6.setCell ⟨w1.heap.size, 8, none⟩ (.int .i64 (nth L 8)) = U := ⟨_, rfl⟩
    rw [hu] at HE7 HR7 X7 R7
    rw [hu]
    clear hu eo fo HE6
    refine (rAt R7.out n hn2.out c1 9 (by omega) (by rw [← hn2.out]; omega)).mono ?_
    rintro e w2' ⟨rfl, rfl⟩
    have eo := HE7.out.cell 9 _ rfl
    have fo := HE7.out.frozen 9
    have HE8 : Hid (Bx (u7.setCell ⟨w1.heap.size, 9, none⟩ (.int .i64 (nth L 9))) w1.heap.size (encV ⟨v0, v1, v2, v3, nth L 4, nth L 5, nth L 6, nth L 7, nth L 8, nth L 9, 0⟩) 23) := HE7.out.set_ 9 _
    have HR8 := Lib.hid (bx_setCell_other HR7.out (p := ⟨w1.heap.size, 9, none⟩) (.int .i64 (nth L 9)) (by show w.heap.size ≠ w1.heap.size; omega))
    have X8 : Hid (Ext w (u7.setCell ⟨w1.heap.size, 9, none⟩ (.int .i64 (nth L 9)))) := Below.setCell X7.out (p := ⟨w1.heap.size, 9, none⟩) (by show w.heap.size ≤ w1.heap.size; omega) (.int .i64 (nth L 9))
    have R8 := Lib.hid (rw_setCell R7.out (p := ⟨w1.heap.size, 9, none⟩) (.int .i64 (nth L 9)) (fun a ha => Nat.ne_of_lt (hgb.out a ha)))
    clear HR7 X7 R7
    have d3 := HE8.out.cell 3 _ rfl
    go_wp2_with (first | (refine load_box rfl 23 _ rfl _ rfl _ _ HE8.out _ Try.underlying23 rfl sizeV ?_))
    obtain ⟨u8, hu⟩ : ∃ U, u7.setCell ⟨w1.heap.size, 9, none⟩ (.int .i64 (nth L 9)) = U := ⟨_, rfl⟩
    rw [hu] at HE8 HR8 X8 R8
    rw [hu]
    clear hu eo fo HE7 d3
    have h64 : Ev64 ⟨v0, v1, v2, v3, nth L 4, nth L 5, nth L 6, nth L 7, nth L 8, nth L 9, 0⟩ := by rw [← hE.out]; exact evOf_64 l64.out
    rw [hE.out] at hRr
    cases hf : fairB ⟨v0, v1, v2, v3, nth L 4, nth L 5, nth L 6, nth L 7, nth L 8, nth L 9, 0⟩
    · have hRn : R = none := by rw [hRr.out, hf]; rfl
      subst hRn
      refine (rEPutNilN _ _ h64 hf).mono ?_
      rintro e w8 ⟨A6, c6, rfl, r6, x6, _⟩
      have HR8 := Lib.hid (HR8.out.ext x6); have X8 := Lib.hid (X8.out.trans x6)
      clear hf hRr x6 r6 h64 hE
      go_wp2_with fail
      go_quiet (fail)
      have HR9 := Lib.hid (HR8.out.drewN nq); have X9 := Lib.hid (X8.out.drewN nq)
      clear HR8 X8
      go_wp2_with (first | (refine wpList_store_row (by rfl) 23 _ _ (by rfl) (w.heap.size) (encV ev0).toArray (by rfl) (by rfl) 23 _ HR9.out sizeV rfl (cells_ok ev0) ?_))
      refine bodyPost_ret (results_ev rfl _ _ w.heap.size ev0 (.slice none 0 0) (.int .i64 80) rfl (bx_setRow HR9.out) rfl rfl) rfl ?_
      exact ⟨below_setRow X9.out (Nat.le_refl _) _, rfl⟩
    · refine (rEPutNilY _ _ h64 hf).mono ?_
      rintro e w8 ⟨A6, c6, rfl, r6, x6, _⟩
      rw [if_pos hf] at hRr
      have HR8 := Lib.hid (HR8.out.ext x6); have X8 := Lib.hid (X8.out.trans x6); have HE8 := Lib.hid (HE8.out.ext x6); have B8 := Lib.hid (h.out.ext X8.out); have R8 := Lib.hid r6
      obtain ⟨ev, hev⟩ : ∃ ev, (⟨v0, v1, v2, v3, nth L 4, nth L 5, nth L 6, nth L 7, nth L 8, nth L 9, 0⟩ : Ev) = ev := ⟨_, rfl⟩
      rw [hev] at hRr HE8 R8
      rw [hev]
      obtain ⟨M, hM⟩ : ∃ M, encE ev = M := ⟨_, rfl⟩
      rw [hM] at hRr R8
      rw [hM]
      clear x6 r6 h64 hE hf hM hev
      by_cases hle : M.length ≤ b.length
      · have d1 : decide ((b.length : Int) < (M.length : Int)) = false := decide_eq_false (by omega)
        have d1b : decide (b.length < M.length) = false := decide_eq_false (by omega)
        have hr1 := fun q => run_str (R8.out.drewN q) c6
        obtain ⟨A7, hA7, hs7⟩ := slice_hiS h.out hle hc.out
        have hr2 : ∀ q, (convert 29 9 (.slice A7 M.length c)).run Try.prog (w8.drewN q) = .ok (.string ⟨(b.take M.length).toArray⟩) (w8.drewN q) := fun q => by
          have := run_str (hs7 _ (B8.out.drewN q)) c
          rw [List.length_take, Nat.min_eq_left hle] at this
          exact this
        by_cases hp : b.take M.length = M
        · rw [if_pos hp] at hRr
          rw [hp] at hr2
          obtain ⟨A8, c8, n8, hn8, hc8, hr8, hs8⟩ := slice_loP 29 1 (enc := encB) elemB sizeB (A := A) (O := b) (n := b.length) (c := c) (j := M.length) rfl hle hc.out
          have B9 := hs8 _ B8.out
          obtain ⟨T, hT⟩ : ∃ T, b.drop M.length = T := ⟨_, rfl⟩
          rw [hT] at hRr B9 hn8
          have hT0 : Hid (b = [] → T = []) := fun e => by rw [← hT, e, List.drop_nil]
          have hRs := hRr.out
          subst hRs
          clear hT hRr hs8
          replace hr8 := Lib.hid hr8; replace B9 := Lib.hid B9; replace hn8 := Lib.hid hn8.out; replace hp := Lib.hid hp
          go_wp2_with fail
          go_quiet (fail)
          clear hr1 hr2 hA7 hs7
          go_wp2_with fail
          have HS0 := Lib.hid ((HE8.out.drewN nq).drewN 1); have HR9 := Lib.hid ((HR8.out.drewN nq).drewN 1); have X9 := Lib.hid ((X8.out.drewN nq).drewN 1); have B10 := Lib.hid ((B9.out.drewN nq).drewN 1)
          clear HE8 HR8 X8 B8 B9
          refine held_start (S := fun W => Bx W w1.heap.size (encV ev) 23) 8 rfl (by kernel_rfl) ?_
          refine held_boxV (i := 0) rfl (by kernel_rfl) (by kernel_rfl) (by kernel_rfl) rfl 23 _ rfl _ rfl (encV ev) 23 (fun w h => h) _ Try.underlying23 rfl sizeV HS0.out _ (by simp [Act.put]; rfl) ?_
          refine held_move (i := 1) rfl (by kernel_rfl) (by kernel_rfl) (by kernel_rfl) _ rfl rfl HS0.out _ (by simp [Act.put]; rfl) ?_
          refine held_move (i := 2) rfl (by kernel_rfl) (by kernel_rfl) (by kernel_rfl) _ rfl rfl HS0.out _ (by simp [Act.put]; rfl) ?_
          refine held_takeV (i := 3) rfl (by kernel_rfl) (by kernel_rfl) (by kernel_rfl) (.int .i64 M.length) rfl (fun w _ => by go_simp) HS0.out _ (by simp [Act.put]; rfl) ?_
          refine held_takeV (i := 4) rfl (by kernel_rfl) (by kernel_rfl) (by kernel_rfl) (.slice A8 n8 c8) rfl (fun w _ => by have := hr8.out w; go_simp) HS0.out _ (by simp [Act.put]; rfl) ?_
          refine held_all (i := 5) rfl (by kernel_rfl) rfl ?_
          refine wp_store_row 23 _ _ rfl w.heap.size (encV ev).toArray (by rfl) (by rfl) 23 (encV ev0).toArray HR9.out sizeV rfl (cells_ok ev) ?_
          have HS1 : Hid (Bx (((w8.drewN nq).drewN 1).setRow w.heap.size (encV ev).toArray) w1.heap.size (encV ev) 23) := bx_setRow_other HS0.out (by omega) _
          refine ⟨HS1.out, ?_⟩
          refine held_assign (i := 6) rfl (by kernel_rfl) (by kernel_rfl) (by kernel_rfl) _ rfl rfl HS1.out _ (by simp [Act.put]; rfl) ?_
          refine held_assign (i := 7) rfl (by kernel_rfl) (by kernel_rfl) (by kernel_rfl) _ rfl rfl HS1.out _ (by simp [Act.put]; rfl) ?_
          refine held_done (by kernel_rfl) ?_ _
          go_wp2
          refine bodyPost_ret (results_ev rfl _ _ w.heap.size ev (.slice A8 n8 c8) (.int .i64 0) rfl (bx_setRow HR9.out) rfl rfl) rfl ?_
          have hn := hn8.out
          subst hn
          refine ⟨below_setRow X9.out (Nat.le_refl _) _, A8, c8, rfl, ?_, hc8⟩
          by_cases hb0 : b = []
          · rw [hT0.out hb0]; exact Rw.nil
          · exact rw_setRow B10.out _ (fun blk off e => by
              obtain ⟨a, ha, hblk⟩ := hc8.2.2 _ e
              have := Rw.blk h.out hb0 ha
              simp only at hblk
              omega)
        · have d2 : (M == b.take M.length) = false := beq_eq_false_iff_ne.2 (Ne.symm hp)
          have hRn : R = none := by rw [hRr.out, if_neg hp]
          subst hRn
          clear hRr
          go_wp2_with fail
          go_quiet (fail)
          have HR9 := Lib.hid (HR8.out.drewN nq); have X9 := Lib.hid (X8.out.drewN nq)
          clear HR8 X8
          go_wp2_with (first | (refine wpList_store_row (by rfl) 23 _ _ (by rfl) (w.heap.size) (encV ev0).toArray (by rfl) (by rfl) 23 _ HR9.out sizeV rfl (cells_ok ev0) ?_))
          refine bodyPost_ret (results_ev rfl _ _ w.heap.size ev0 (.slice none 0 0) (.int .i64 80) rfl (bx_setRow HR9.out) rfl rfl) rfl ?_
          exact ⟨below_setRow X9.out (Nat.le_refl _) _, rfl⟩
      · have d1 : decide ((b.length : Int) < (M.length : Int)) = true := decide_eq_true (by omega)
        have d1b : decide (b.length < M.length) = true := decide_eq_true (by omega)
        have hRn : R = none := by
          rw [hRr.out, if_neg]
          intro e
          have := congrArg List.length e
          simp at this
          omega
        subst hRn
        clear hRr
        go_wp2_with fail
        go_quiet (fail)
        have HR9 := Lib.hid (HR8.out.drewN nq); have X9 := Lib.hid (X8.out.drewN nq)
        clear HR8 X8
        go_wp2_with (first | (refine wpList_store_row (by rfl) 23 _ _ (by rfl) (w.heap.size) (encV ev0).toArray (by rfl) (by rfl) 23 _ HR9.out sizeV rfl (cells_ok ev0) ?_))
        refine bodyPost_ret (results_ev rfl _ _ w.heap.size ev0 (.slice none 0 0) (.int .i64 80) rfl (bx_setRow HR9.out) rfl rfl) rfl ?_
        exact ⟨below_setRow X9.out (Nat.le_refl _) _, rfl⟩
  · by_cases q4 : v3 = 4
    · have b3 : (v3 == 3) = false := beq_eq_false_iff_ne.2 q3
      have b4 : (v3 == 4) = true := beq_iff_eq.2 q4
      have hE : Hid (evOf L = ⟨v0, v1, v2, v3, 0, 0, 0, 0, 0, 0, nth L 4⟩) := by show _ = _; rw [hev.out, if_neg q3, if_pos q4]
      clear hev
      replace q3 := Lib.hid q3; replace q4 := Lib.hid q4
      go_wp2_with (first | (refine store_newE rfl 23 _ _ (by rfl) w1 w1.heap.size rfl (encV ev0).toArray (encV ⟨v0, v1, v2, v3, 0, 0, 0, 0, 0, 0, 0⟩).toArray 23 (by rfl) (by rfl) (by rfl) sizeV rfl hf4.out ?_))
      rw [hw2.out]
      clear hw2 e3 hf4 HE0
      refine (rAt R2.out n hn2.out c1 4 (by omega) (by rw [← hn2.out]; omega)).mono ?_
      rintro e w2' ⟨rfl, rfl⟩
      have eo := HE.out.cell 10 _ rfl
      have fo := HE.out.frozen 10
      have HE3 : Hid (Bx (w2.setCell ⟨w1.heap.size, 10, none⟩ (.int .i64 (nth L 4))) w1.heap.size (encV ⟨v0, v1, v2, v3, 0, 0, 0, 0, 0, 0, nth L 4⟩) 23) := HE.out.set_ 10 _
      have HR3 := Lib.hid (bx_setCell_other HR2.out (p := ⟨w1.heap.size, 10, none⟩) (.int .i64 (nth L 4)) (by show w.heap.size ≠ w1.heap.size; omega))
      have X3 : Hid (Ext w (w2.setCell ⟨w1.heap.size, 10, none⟩ (.int .i64 (nth L 4)))) := Below.setCell X2.out (p := ⟨w1.heap.size, 10, none⟩) (by show w.heap.size ≤ w1.heap.size; omega) (.int .i64 (nth L 4))
      have R3 := Lib.hid (rw_setCell R2.out (p := ⟨w1.heap.size, 10, none⟩) (.int .i64 (nth L 4)) (fun a ha => Nat.ne_of_lt (hgb.out a ha)))
      clear HR2 X2 R2
      have d3 := HE3.out.cell 3 _ rfl
      go_wp2_with (first | (refine load_box rfl 23 _ rfl _ rfl _ _ HE3.out _ Try.underlying23 rfl sizeV ?_))
      obtain ⟨u3, hu⟩ : ∃ U, w2.setCell ⟨w1.heap.size, 10, none⟩ (.int .i64 (nth L 4)) = U := ⟨_, rfl⟩
      rw [hu] at HE3 HR3 X3 R3
      rw [hu]
      clear hu eo fo HE d3
      have h64 : Ev64 ⟨v0, v1, v2, v3, 0, 0, 0, 0, 0, 0, nth L 4⟩ := by rw [← hE.out]; exact evOf_64 l64.out
      rw [hE.out] at hRr
      cases hf : fairB ⟨v0, v1, v2, v3, 0, 0, 0, 0, 0, 0, nth L 4⟩
      · have hRn : R = none := by rw [hRr.out, hf]; rfl
        subst hRn
        refine (rEPutNilN _ _ h64 hf).mono ?_
        rintro e w8 ⟨A6, c6, rfl, r6, x6, _⟩
        have HR8 := Lib.hid (HR3.out.ext x6); have X8 := Lib.hid (X3.out.trans x6)
        clear hf hRr x6 r6 h64 hE
        go_wp2_with fail
        go_quiet (fail)
        have HR9 := Lib.hid (HR8.out.drewN nq); have X9 := Lib.hid (X8.out.drewN nq)
        clear HR8 X8
        go_wp2_with (first | (refine wpList_store_row (by rfl) 23 _ _ (by rfl) (w.heap.size) (encV ev0).toArray (by rfl) (by rfl) 23 _ HR9.out sizeV rfl (cells_ok ev0) ?_))
        refine bodyPost_ret (results_ev rfl _ _ w.heap.size ev0 (.slice none 0 0) (.int .i64 80) rfl (bx_setRow HR9.out) rfl rfl) rfl ?_
        exact ⟨below_setRow X9.out (Nat.le_refl _) _, rfl⟩
      · refine (rEPutNilY _ _ h64 hf).mono ?_
        rintro e w8 ⟨A6, c6, rfl, r6, x6, _⟩
        rw [if_pos hf] at hRr
        have HR8 := Lib.hid (HR3.out.ext x6); have X8 := Lib.hid (X3.out.trans x6); have HE8 := Lib.hid (HE3.out.ext x6); have B8 := Lib.hid (h.out.ext X8.out); have R8 := Lib.hid r6
        obtain ⟨ev, hev⟩ : ∃ ev, (⟨v0, v1, v2, v3, 0, 0, 0, 0, 0, 0, nth L 4⟩ : Ev) = ev := ⟨_, rfl⟩
        rw [hev] at hRr HE8 R8
        rw [hev]
        obtain ⟨M, hM⟩ : ∃ M, encE ev = M := ⟨_, rfl⟩
        rw [hM] at hRr R8
        rw [hM]
        clear x6 r6 h64 hE hf hM hev
        by_cases hle : M.length ≤ b.length
        · have d1 : decide ((b.length : Int) < (M.length : Int)) = false := decide_eq_false (by omega)
          have d1b : decide (b.length < M.length) = false := decide_eq_false (by omega)
          have hr1 := fun q => run_str (R8.out.drewN q) c6
          obtain ⟨A7, hA7, hs7⟩ := slice_hiS h.out hle hc.out
          have hr2 : ∀ q, (convert 29 9 (.slice A7 M.length c)).run Try.prog (w8.drewN q) = .ok (.string ⟨(b.take M.length).toArray⟩) (w8.drewN q) := fun q => by
            have := run_str (hs7 _ (B8.out.drewN q)) c
            rw [List.length_take, Nat.min_eq_left hle] at this
            exact this
          by_cases hp : b.take M.length = M
          · rw [if_pos hp] at hRr
            rw [hp] at hr2
            obtain ⟨A8, c8, n8, hn8, hc8, hr8, hs8⟩ := slice_loP 29 1 (enc := encB) elemB sizeB (A := A) (O := b) (n := b.length) (c := c) (j := M.length) rfl hle hc.out
            have B9 := hs8 _ B8.out
            obtain ⟨T, hT⟩ : ∃ T, b.drop M.length = T := ⟨_, rfl⟩
            rw [hT] at hRr B9 hn8
            have hT0 : Hid (b = [] → T = []) := fun e => by rw [← hT, e, List.drop_nil]
            have hRs := hRr.out
            subst hRs
            clear hT hRr hs8
            replace hr8 := Lib.hid hr8; replace B9 := Lib.hid B9; replace hn8 := Lib.hid hn8.out; replace hp := Lib.hid hp
            go_wp2_with fail
            go_quiet (fail)
            clear hr1 hr2 hA7 hs7
            go_wp2_with fail
            have HS0 := Lib.hid ((HE8.out.drewN nq).drewN 1); have HR9 := Lib.hid ((HR8.out.drewN nq).drewN 1); have X9 := Lib.hid ((X8.out.drewN nq).drewN 1); have B10 := Lib.hid ((B9.out.drewN nq).drewN 1)
            clear HE8 HR8 X8 B8 B9
            refine held_start (S := fun W => Bx W w1.heap.size (encV ev) 23) 8 rfl (by kernel_rfl) ?_
            refine held_boxV (i := 0) rfl (by kernel_rfl) (by kernel_rfl) (by kernel_rfl) rfl 23 _ rfl _ rfl (encV ev) 23 (fun w h => h) _ Try.underlying23 rfl sizeV HS0.out _ (by simp [Act.put]; rfl) ?_
            refine held_move (i := 1) rfl (by kernel_rfl) (by kernel_rfl) (by kernel_rfl) _ rfl rfl HS0.out _ (by simp [Act.put]; rfl) ?_
            refine held_move (i := 2) rfl (by kernel_rfl) (by kernel_rfl) (by kernel_rfl) _ rfl rfl HS0.out _ (by simp [Act.put]; rfl) ?_
            refine held_takeV (i := 3) rfl (by kernel_rfl) (by kernel_rfl) (by kernel_rfl) (.int .i64 M.length) rfl (fun w _ => by go_simp) HS0.out _ (by simp [Act.put]; rfl) ?_
            refine held_takeV (i := 4) rfl (by kernel_rfl) (by kernel_rfl) (by kernel_rfl) (.slice A8 n8 c8) rfl (fun w _ => by have := hr8.out w; go_simp) HS0.out _ (by simp [Act.put]; rfl) ?_
            refine held_all (i := 5) rfl (by kernel_rfl) rfl ?_
            refine wp_store_row 23 _ _ rfl w.heap.size (encV ev).toArray (by rfl) (by rfl) 23 (encV ev0).toArray HR9.out sizeV rfl (cells_ok ev) ?_
            have HS1 : Hid (Bx (((w8.drewN nq).drewN 1).setRow w.heap.size (encV ev).toArray) w1.heap.size (encV ev) 23) := bx_setRow_other HS0.out (by omega) _
            refine ⟨HS1.out, ?_⟩
            refine held_assign (i := 6) rfl (by kernel_rfl) (by kernel_rfl) (by kernel_rfl) _ rfl rfl HS1.out _ (by simp [Act.put]; rfl) ?_
            refine held_assign (i := 7) rfl (by kernel_rfl) (by kernel_rfl) (by kernel_rfl) _ rfl rfl HS1.out _ (by simp [Act.put]; rfl) ?_
            refine held_done (by kernel_rfl) ?_ _
            go_wp2
            refine bodyPost_ret (results_ev rfl _ _ w.heap.size ev (.slice A8 n8 c8) (.int .i64 0) rfl (bx_setRow HR9.out) rfl rfl) rfl ?_
            have hn := hn8.out
            subst hn
            refine ⟨below_setRow X9.out (Nat.le_refl _) _, A8, c8, rfl, ?_, hc8⟩
            by_cases hb0 : b = []
            · rw [hT0.out hb0]; exact Rw.nil
            · exact rw_setRow B10.out _ (fun blk off e => by
                obtain ⟨a, ha, hblk⟩ := hc8.2.2 _ e
                have := Rw.blk h.out hb0 ha
                simp only at hblk
                omega)
          · have d2 : (M == b.take M.length) = false := beq_eq_false_iff_ne.2 (Ne.symm hp)
            have hRn : R = none := by rw [hRr.out, if_neg hp]
            subst hRn
            clear hRr
            go_wp2_with fail
            go_quiet (fail)
            have HR9 := Lib.hid (HR8.out.drewN nq); have X9 := Lib.hid (X8.out.drewN nq)
            clear HR8 X8
            go_wp2_with (first | (refine wpList_store_row (by rfl) 23 _ _ (by rfl) (w.heap.size) (encV ev0).toArray (by rfl) (by rfl) 23 _ HR9.out sizeV rfl (cells_ok ev0) ?_))
            refine bodyPost_ret (results_ev rfl _ _ w.heap.size ev0 (.slice none 0 0) (.int .i64 80) rfl (bx_setRow HR9.out) rfl rfl) rfl ?_
            exact ⟨below_setRow X9.out (Nat.le_refl _) _, rfl⟩
        · have d1 : decide ((b.length : Int) < (M.length : Int)) = true := decide_eq_true (by omega)
          have d1b : decide (b.length < M.length) = true := decide_eq_true (by omega)
          have hRn : R = none := by
            rw [hRr.out, if_neg]
            intro e
            have := congrArg List.length e
            simp at this
            omega
          subst hRn
          clear hRr
          go_wp2_with fail
          go_quiet (fail)
          have HR9 := Lib.hid (HR8.out.drewN nq); have X9 := Lib.hid (X8.out.drewN nq)
          clear HR8 X8
          go_wp2_with (first | (refine wpList_store_row (by rfl) 23 _ _ (by rfl) (w.heap.size) (encV ev0).toArray (by rfl) (by rfl) 23 _ HR9.out sizeV rfl (cells_ok ev0) ?_))
          refine bodyPost_ret (results_ev rfl _ _ w.heap.size ev0 (.slice none 0 0) (.int .i64 80) rfl (bx_setRow HR9.out) rfl rfl) rfl ?_
          exact ⟨below_setRow X9.out (Nat.le_refl _) _, rfl⟩
    · have hE : Hid (evOf L = ⟨v0, v1, v2, v3, 0, 0, 0, 0, 0, 0, 0⟩) := by show _ = _; rw [hev.out, if_neg q3, if_neg q4]
      clear hev
      go_wp2_with (first | (refine store_newE rfl 23 _ _ (by rfl) w1 w1.heap.size rfl (encV ev0).toArray (encV ⟨v0, v1, v2, v3, 0, 0, 0, 0, 0, 0, 0⟩).toArray 23 (by rfl) (by rfl) (by rfl) sizeV rfl hf4.out ?_) | (refine load_box rfl 23 _ rfl _ rfl _ _ HE0.out _ Try.underlying23 rfl sizeV ?_))
      rw [hw2.out]
      clear hw2 e3 hf4 HE0 q3 q4
      have h64 : Ev64 ⟨v0, v1, v2, v3, 0, 0, 0, 0, 0, 0, 0⟩ := by rw [← hE.out]; exact evOf_64 l64.out
      rw [hE.out] at hRr
      cases hf : fairB ⟨v0, v1, v2, v3, 0, 0, 0, 0, 0, 0, 0⟩
      · have hRn : R = none := by rw [hRr.out, hf]; rfl
        subst hRn
        refine (rEPutNilN _ _ h64 hf).mono ?_
        rintro e w8 ⟨A6, c6, rfl, r6, x6, _⟩
        have HR8 := Lib.hid (HR2.out.ext x6); have X8 := Lib.hid (X2.out.trans x6)
        clear hf hRr x6 r6 h64 hE
        go_wp2_with fail
        go_quiet (fail)
        have HR9 := Lib.hid (HR8.out.drewN nq); have X9 := Lib.hid (X8.out.drewN nq)
        clear HR8 X8
        go_wp2_with (first | (refine wpList_store_row (by rfl) 23 _ _ (by rfl) (w.heap.size) (encV ev0).toArray (by rfl) (by rfl) 23 _ HR9.out sizeV rfl (cells_ok ev0) ?_))
        refine bodyPost_ret (results_ev rfl _ _ w.heap.size ev0 (.slice none 0 0) (.int .i64 80) rfl (bx_setRow HR9.out) rfl rfl) rfl ?_
        exact ⟨below_setRow X9.out (Nat.le_refl _) _, rfl⟩
      · refine (rEPutNilY _ _ h64 hf).mono ?_
        rintro e w8 ⟨A6, c6, rfl, r6, x6, _⟩
        rw [if_pos hf] at hRr
        have HR8 := Lib.hid (HR2.out.ext x6); have X8 := Lib.hid (X2.out.trans x6); have HE8 := Lib.hid (HE.out.ext x6); have B8 := Lib.hid (h.out.ext X8.out); have R8 := Lib.hid r6
        obtain ⟨ev, hev⟩ : ∃ ev, (⟨v0, v1, v2, v3, 0, 0, 0, 0, 0, 0, 0⟩ : Ev) = ev := ⟨_, rfl⟩
        rw [hev] at hRr HE8 R8
        rw [hev]
        obtain ⟨M, hM⟩ : ∃ M, encE ev = M := ⟨_, rfl⟩
        rw [hM] at hRr R8
        rw [hM]
        clear x6 r6 h64 hE hf hM hev
        by_cases hle : M.length ≤ b.length
        · have d1 : decide ((b.length : Int) < (M.length : Int)) = false := decide_eq_false (by omega)
          have d1b : decide (b.length < M.length) = false := decide_eq_false (by omega)
          have hr1 := fun q => run_str (R8.out.drewN q) c6
          obtain ⟨A7, hA7, hs7⟩ := slice_hiS h.out hle hc.out
          have hr2 : ∀ q, (convert 29 9 (.slice A7 M.length c)).run Try.prog (w8.drewN q) = .ok (.string ⟨(b.take M.length).toArray⟩) (w8.drewN q) := fun q => by
            have := run_str (hs7 _ (B8.out.drewN q)) c
            rw [List.length_take, Nat.min_eq_left hle] at this
            exact this
          by_cases hp : b.take M.length = M
          · rw [if_pos hp] at hRr
            rw [hp] at hr2
            obtain ⟨A8, c8, n8, hn8, hc8, hr8, hs8⟩ := slice_loP 29 1 (enc := encB) elemB sizeB (A := A) (O := b) (n := b.length) (c := c) (j := M.length) rfl hle hc.out
            have B9 := hs8 _ B8.out
            obtain ⟨T, hT⟩ : ∃ T, b.drop M.length = T := ⟨_, rfl⟩
            rw [hT] at hRr B9 hn8
            have hT0 : Hid (b = [] → T = []) := fun e => by rw [← hT, e, List.drop_nil]
            have hRs := hRr.out
            subst hRs
            clear hT hRr hs8
            replace hr8 := Lib.hid hr8; replace B9 := Lib.hid B9; replace hn8 := Lib.hid hn8.out; replace hp := Lib.hid hp
            go_wp2_with fail
            go_quiet (fail)
            clear hr1 hr2 hA7 hs7
            go_wp2_with fail
            have HS0 := Lib.hid ((HE8.out.drewN nq).drewN 1); have HR9 := Lib.hid ((HR8.out.drewN nq).drewN 1); have X9 := Lib.hid ((X8.out.drewN nq).drewN 1); have B10 := Lib.hid ((B9.out.drewN nq).drewN 1)
            clear HE8 HR8 X8 B8 B9
            refine held_start (S := fun W => Bx W w1.heap.size (encV ev) 23) 8 rfl (by kernel_rfl) ?_
            refine held_boxV (i := 0) rfl (by kernel_rfl) (by kernel_rfl) (by kernel_rfl) rfl 23 _ rfl _ rfl (encV ev) 23 (fun w h => h) _ Try.underlying23 rfl sizeV HS0.out _ (by simp [Act.put]; rfl) ?_
            refine held_move (i := 1) rfl (by kernel_rfl) (by kernel_rfl) (by kernel_rfl) _ rfl rfl HS0.out _ (by simp [Act.put]; rfl) ?_
            refine held_move (i := 2) rfl (by kernel_rfl) (by kernel_rfl) (by kernel_rfl) _ rfl rfl HS0.out _ (by simp [Act.put]; rfl) ?_
            refine held_takeV (i := 3) rfl (by kernel_rfl) (by kernel_rfl) (by kernel_rfl) (.int .i64 M.length) rfl (fun w _ => by go_simp) HS0.out _ (by simp [Act.put]; rfl) ?_
            refine held_takeV (i := 4) rfl (by kernel_rfl) (by kernel_rfl) (by kernel_rfl) (.slice A8 n8 c8) rfl (fun w _ => by have := hr8.out w; go_simp) HS0.out _ (by simp [Act.put]; rfl) ?_
            refine held_all (i := 5) rfl (by kernel_rfl) rfl ?_
            refine wp_store_row 23 _ _ rfl w.heap.size (encV ev).toArray (by rfl) (by rfl) 23 (encV ev0).toArray HR9.out sizeV rfl (cells_ok ev) ?_
            have HS1 : Hid (Bx (((w8.drewN nq).drewN 1).setRow w.heap.size (encV ev).toArray) w1.heap.size (encV ev) 23) := bx_setRow_other HS0.out (by omega) _
            refine ⟨HS1.out, ?_⟩
            refine held_assign (i := 6) rfl (by kernel_rfl) (by kernel_rfl) (by kernel_rfl) _ rfl rfl HS1.out _ (by simp [Act.put]; rfl) ?_
            refine held_assign (i := 7) rfl (by kernel_rfl) (by kernel_rfl) (by kernel_rfl) _ rfl rfl HS1.out _ (by simp [Act.put]; rfl) ?_
            refine held_done (by kernel_rfl) ?_ _
            go_wp2
            refine bodyPost_ret (results_ev rfl _ _ w.heap.size ev (.slice A8 n8 c8) (.int .i64 0) rfl (bx_setRow HR9.out) rfl rfl) rfl ?_
            have hn := hn8.out
            subst hn
            refine ⟨below_setRow X9.out (Nat.le_refl _) _, A8, c8, rfl, ?_, hc8⟩
            by_cases hb0 : b = []
            · rw [hT0.out hb0]; exact Rw.nil
            · exact rw_setRow B10.out _ (fun blk off e => by
                obtain ⟨a, ha, hblk⟩ := hc8.2.2 _ e
                have := Rw.blk h.out hb0 ha
                simp only at hblk
                omega)
          · have d2 : (M == b.take M.length) = false := beq_eq_false_iff_ne.2 (Ne.symm hp)
            have hRn : R = none := by rw [hRr.out, if_neg hp]
            subst hRn
            clear hRr
            go_wp2_with fail
            go_quiet (fail)
            have HR9 := Lib.hid (HR8.out.drewN nq); have X9 := Lib.hid (X8.out.drewN nq)
            clear HR8 X8
            go_wp2_with (first | (refine wpList_store_row (by rfl) 23 _ _ (by rfl) (w.heap.size) (encV ev0).toArray (by rfl) (by rfl) 23 _ HR9.out sizeV rfl (cells_ok ev0) ?_))
            refine bodyPost_ret (results_ev rfl _ _ w.heap.size ev0 (.slice none 0 0) (.int .i64 80) rfl (bx_setRow HR9.out) rfl rfl) rfl ?_
            exact ⟨below_setRow X9.out (Nat.le_refl _) _, rfl⟩
        · have d1 : decide ((b.length : Int) < (M.length : Int)) = true := decide_eq_true (by omega)
          have d1b : decide (b.length < M.length) = true := decide_eq_true (by omega)
          have hRn : R = none := by
            rw [hRr.out, if_neg]
            intro e
            have := congrArg List.length e
            simp at this
            omega
          subst hRn
          clear hRr
          go_wp2_with fail
          go_quiet (fail)
          have HR9 := Lib.hid (HR8.out.drewN nq); have X9 := Lib.hid (X8.out.drewN nq)
          clear HR8 X8
          go_wp2_with (first | (refine wpList_store_row (by rfl) 23 _ _ (by rfl) (w.heap.size) (encV ev0).toArray (by rfl) (by rfl) 23 _ HR9.out sizeV rfl (cells_ok ev0) ?_))
          refine bodyPost_ret (results_ev rfl _ _ w.heap.size ev0 (.slice none 0 0) (.int .i64 80) rfl (bx_setRow HR9.out) rfl rfl) rfl ?_
          exact ⟨below_setRow X9.out (Nat.le_refl _) _, rfl⟩
end Go.Proofs.Ytmbjbbflhlndcaa
