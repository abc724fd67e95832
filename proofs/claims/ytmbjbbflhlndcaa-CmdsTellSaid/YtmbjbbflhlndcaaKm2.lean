/-
  lumperref24.Take.
-/
import Derived.Test.YtmbjbbflhlndcaaKl2
namespace Go.Proofs.Ytmbjbbflhlndcaa
open Go.RowKit BigFrame
set_option linter.unusedVariables false
set_option linter.unusedSimpArgs false

/-- What is no newer than a world, or nothing. -/
def Old (w : World) (A : Option Addr) (l : List UInt8) : Prop := l = [] ∨ ∀ a, A = some a → a.block < w.heap.size
theorem Old.of {w : World} {A : Option Addr} {l : List UInt8} (h : Rb w A l) : Old w A l := by
  by_cases h0 : l = []
  · exact .inl h0
  · exact .inr fun a ha => Rw.blk h h0 ha
theorem Old.num {w : World} {A B : Option Addr} {l : List UInt8} (h : Old w A l) (s : SameBlk A B) : Old w B (numR l) := by
  rcases h with rfl | h
  · exact .inl rfl
  · refine .inr fun b hb => ?_
    obtain ⟨a, ha, e⟩ := s b hb
    have := h a ha
    omega
theorem Old.ev {w : World} {A B : Option Addr} {l : List UInt8} (h : Old w A l) (s : SameBlk A B) : Old w B (evR l) := by
  rcases h with rfl | h
  · exact .inl rfl
  · refine .inr fun b hb => ?_
    obtain ⟨a, ha, e⟩ := s b hb
    have := h a ha
    omega
theorem Old.set {w W : World} {A : Option Addr} {l : List UInt8} (h : Old w A l) (r : Rb W A l) (p : Addr) (v : Value) (hp : w.heap.size ≤ p.block) : Rb (W.setCell p v) A l := by
  rcases h with rfl | h
  · exact Rw.nil
  · exact rw_setCell r v fun a ha => by have := h a ha; omega
theorem Old.sets {w W : World} {A : Option Addr} {l : List UInt8} (h : Old w A l) (r : Rb W A l) (g o : Nat) (vs : List Value) (hp : w.heap.size ≤ g) : Rb (W.setCells g o vs) A l := by
  rcases h with rfl | h
  · exact Rw.nil
  · exact rw_setCells r o vs fun b off ha => by have := h _ ha; simp only at this; omega
def RetEvN (w : World) (A0 : Option Addr) (ev : Ev) (r : List UInt8) (e : Ending) (w' : World) : Prop := ∃ A cap x, e = .returned (.tuple #[.agg (encV ev).toArray, .slice A r.length cap, .int .i64 x]) ∧ Rb w' A r ∧ r.length ≤ cap ∧ cap ≤ 9223372036854775807 ∧ Ext w w' ∧ SameBlk A0 A
theorem rETakeN {w : World} {A : Option Addr} {b : List UInt8} (h : Rb w A b) (hb : b.length ≤ 100000000) (c : Nat) (hc : b.length ≤ c) (hc2 : c ≤ 9223372036854775807) :
    Calls Try.prog 36 #[.slice A b.length c] w (RetEvN w A (evN b) (evR b)) := by
  refine (rETake h hb c hc hc2).mono fun e w' ⟨x, hr⟩ => ?_
  unfold evN evR
  cases hd : decE b with
  | none =>
    rw [hd] at hr
    exact ⟨none, 0, 80, hr, Rw.nil, Nat.le_refl _, by omega, x, fun a h => by cases h⟩
  | some q =>
    obtain ⟨ev, r⟩ := q
    rw [hd] at hr
    obtain ⟨A2, c2, he, h1, h2, h3, h4⟩ := hr
    exact ⟨A2, c2, 0, he, h1, h2, by omega, x, h4⟩
theorem rMPutNilN (w : World) (c : Cm) (h64 : Cm64 c) (hf : plainC c = false) : Calls Try.prog 20 #[.slice none 0 0, .agg (encC c).toArray] w (RetBE w [] 240) := by
  have := rMPutN (w := w) (A := none) (b := []) Rw.nil (by simp) 0 c h64 hf
  exact this
theorem rMPutNilY (w : World) (c : Cm) (h64 : Cm64 c) (hf : plainC c = true) : Calls Try.prog 20 #[.slice none 0 0, .agg (encC c).toArray] w (RetBE w (encM c) 0) := by
  have := rMPutY (w := w) (A := none) (b := []) Rw.nil (by simp) 0 c h64 hf
  exact this
/-- What a call leaves that takes a command: what is behind lies where it lay. -/
def RetCmP (w : World) (A0 : Option Addr) (c0 : Nat) (r : Option (Cm × List UInt8)) (err : Int) (e : Ending) (w' : World) : Prop := Ext w w' ∧ match r with
  | none => e = .returned (.tuple #[.agg (encC cm0).toArray, .slice none 0 0, .int .i64 err])
  | some (x, s) => ∃ A cap, e = .returned (.tuple #[.agg (encC x).toArray, .slice A s.length cap, .int .i64 0]) ∧ Rb w' A s ∧ s.length ≤ cap ∧ cap ≤ c0 ∧ SameBlk A0 A

set_option maxRecDepth 100000 in
set_option maxHeartbeats 4000000 in
theorem rTk1 {w : World} {A : Option Addr} {b : List UInt8} (h : Rb w A b) (hb : b.length ≤ 100000000) (c : Nat) (hc : b.length ≤ c) (hc2 : c ≤ 9223372036854775807) (hk : (numN b : Int) = 1) :
    Calls Try.prog 22 #[.slice A b.length c] w (RetCmP w A c (refT b) 240) := by
  obtain ⟨R, hR⟩ : ∃ R, refT b = R := ⟨_, rfl⟩
  rw [hR]
  have hRr : Hid (R = if plainC (cmT b) = true then if b.take (encM (cmT b)).length = encM (cmT b) then some (cmT b, b.drop (encM (cmT b)).length) else none else none) := hR.symm
  have c64 := Lib.hid (cmT_64 b)
  clear hR
  have HE0 : Hid (Bx ((w.alloc (.cells (encC cm0).toArray 27)).alloc (.cells (encC cm0).toArray 27)) (w.heap.size + 1) (encC cm0) 27) := by
    have := Bx.new (w.alloc (.cells (encC cm0).toArray 27)) (encC cm0) 27
    rw [show (w.alloc (.cells (encC cm0).toArray 27)).heap.size = w.heap.size + 1 from by simp] at this
    exact this
  have HR0 := Lib.hid ((Bx.new w (encC cm0) 27).alloc (.cells (encC cm0).toArray 27))
  have X0 := Lib.hid (((Ext.refl w).alloc (.cells (encC cm0).toArray 27)).alloc (.cells (encC cm0).toArray 27))
  have RB0 : Hid (Rb ((w.alloc (.cells (encC cm0).toArray 27)).alloc (.cells (encC cm0).toArray 27)) A b ∧ b.length ≤ 100000000 ∧ b.length ≤ c ∧ c ≤ 9223372036854775807 ∧ Old w A b) := ⟨h.ext X0.out, hb, hc, hc2, Old.of h⟩
  replace h := Lib.hid h; replace hb := Lib.hid hb; replace hc := Lib.hid hc; replace hc2 := Lib.hid hc2
  go_enter Try.func22, Try.ntmps22
  go_wp2_with fail
  have k1 := rNum RB0.out.1 RB0.out.2.1 c RB0.out.2.2.1 RB0.out.2.2.2.1
  obtain ⟨N1, hN1⟩ : ∃ N, numN b = N := ⟨_, rfl⟩
  have hO1 := fun B s => Old.num (B := B) RB0.out.2.2.2.2 s
  have hL1 := numR_le b
  obtain ⟨R1, hR1⟩ : ∃ R, numR b = R := ⟨_, rfl⟩
  rw [hR1] at k1 hL1
  rw [hN1] at k1
  simp only [hR1] at hO1
  replace k1 := Lib.hid k1; replace hN1 := Lib.hid hN1; replace hR1 := Lib.hid hR1
  refine k1.out.mono ?_
  rintro e1 v1 ⟨A1, p1, rfl, r1, hc1, hd1, x1, sb1⟩
  have HEa := Lib.hid (HE0.out.ext x1); have HRa := Lib.hid (HR0.out.ext x1); have Xa := Lib.hid (X0.out.trans x1)
  have eo := HEa.out.cell 0 _ rfl
  have fo := HEa.out.frozen 0
  have HE1 : Hid (Bx (v1.setCell ⟨w.heap.size + 1, 0, none⟩ (.int .i64 (N1 : Int))) (w.heap.size + 1) (encC ⟨(N1 : Int), 0, ev0, 0, 0, 0⟩) 27) := HEa.out.set_ 0 _
  have HR1 := Lib.hid (bx_setCell_other HRa.out (p := ⟨w.heap.size + 1, 0, none⟩) (.int .i64 (N1 : Int)) (by show w.heap.size ≠ w.heap.size + 1; omega))
  have X1 : Hid (Ext w (v1.setCell ⟨w.heap.size + 1, 0, none⟩ (.int .i64 (N1 : Int)))) := Below.setCell Xa.out (p := ⟨w.heap.size + 1, 0, none⟩) (by show w.heap.size ≤ w.heap.size + 1; omega) _
  have RB1 : Hid (Rb (v1.setCell ⟨w.heap.size + 1, 0, none⟩ (.int .i64 (N1 : Int))) A1 R1 ∧ R1.length ≤ 100000000 ∧ R1.length ≤ p1 ∧ p1 ≤ 9223372036854775807 ∧ Old w A1 R1) := ⟨(hO1 _ sb1).set r1 _ _ (by show w.heap.size ≤ w.heap.size + 1; omega), Nat.le_trans hL1 RB0.out.2.1, hc1, hd1, hO1 _ sb1⟩
  clear HEa HRa Xa HE0 HR0 X0 RB0 hO1 hL1 k1 r1 hc1 hd1 x1 sb1
  have hk9 := Lib.hid (hN1.out ▸ hk)
  have b1 : ((N1 : Int) == 1) = true := by rw [beq_iff_eq]; exact hk9.out
  have z1 : (N1 == 1) = true := by rw [beq_iff_eq]; have := hk9.out; omega
  have b2 : ((N1 : Int) == 2) = false := by rw [beq_eq_false_iff_ne]; have := hk9.out; omega
  have z2 : (N1 == 2) = false := by rw [beq_eq_false_iff_ne]; have := hk9.out; omega
  have b3 : ((N1 : Int) == 3) = false := by rw [beq_eq_false_iff_ne]; have := hk9.out; omega
  have z3 : (N1 == 3) = false := by rw [beq_eq_false_iff_ne]; have := hk9.out; omega
  have b4 : ((N1 : Int) == 4) = false := by rw [beq_eq_false_iff_ne]; have := hk9.out; omega
  have z4 : (N1 == 4) = false := by rw [beq_eq_false_iff_ne]; have := hk9.out; omega
  have b5 : ((N1 : Int) == 5) = false := by rw [beq_eq_false_iff_ne]; have := hk9.out; omega
  have z5 : (N1 == 5) = false := by rw [beq_eq_false_iff_ne]; have := hk9.out; omega
  have b6 : ((N1 : Int) == 6) = false := by rw [beq_eq_false_iff_ne]; have := hk9.out; omega
  have z6 : (N1 == 6) = false := by rw [beq_eq_false_iff_ne]; have := hk9.out; omega
  have b7 : ((N1 : Int) == 7) = false := by rw [beq_eq_false_iff_ne]; have := hk9.out; omega
  have z7 : (N1 == 7) = false := by rw [beq_eq_false_iff_ne]; have := hk9.out; omega
  clear hk
  go_wp2_with fail
  obtain ⟨w1, hw1⟩ : ∃ W, v1.setCell ⟨w.heap.size + 1, 0, none⟩ (.int .i64 (N1 : Int)) = W := ⟨_, rfl⟩
  rw [hw1] at HE1 HR1 X1 RB1
  rw [hw1]
  clear hw1 eo fo
  have k2 := rETakeN RB1.out.1 RB1.out.2.1 p1 RB1.out.2.2.1 RB1.out.2.2.2.1
  obtain ⟨E2, hN2⟩ : ∃ N, evN R1 = N := ⟨_, rfl⟩
  have hO2 := fun B s => Old.ev (B := B) RB1.out.2.2.2.2 s
  have hL2 := evR_le R1
  obtain ⟨R2, hR2⟩ : ∃ R, evR R1 = R := ⟨_, rfl⟩
  rw [hR2] at k2 hL2
  rw [hN2] at k2
  simp only [hR2] at hO2
  replace k2 := Lib.hid k2; replace hN2 := Lib.hid hN2; replace hR2 := Lib.hid hR2
  refine k2.out.mono ?_
  rintro e2 v2 ⟨A2, p2, y2, rfl, r2, hc2, hd2, x2, sb2⟩
  have HEa := Lib.hid (HE1.out.ext x2); have HRa := Lib.hid (HR1.out.ext x2); have Xa := Lib.hid (X1.out.trans x2)
  obtain ⟨EV, hEV⟩ : ∃ c, (encV E2).toArray = c := ⟨_, rfl⟩
  have hEl : encV E2 = EV.toList := by rw [← hEV]
  rw [hEV]
  have hth : Hid (v2.there (w.heap.size + 1) 2 EV.size) := by show World.there _ _ _ _; rw [← hEV]; exact bx_there HEa.out 2 11 (by exact (by decide : 2 + 11 ≤ 16))
  have sE : Hid ((Try.prog.info? 23).map (·.size) = some EV.size) := by show _ = _; rw [← hEV]; exact sizeV
  have oE : Hid (EV.all (·.oneCell') = true) := by show _ = _; rw [← hEV]; exact cells_ok E2
  have HE2 : Hid (Bx (v2.setCells (w.heap.size + 1) 2 EV.toList) (w.heap.size + 1) (encC ⟨(N1 : Int), 0, E2, 0, 0, 0⟩) 27) := by show Bx _ _ _ _; rw [← hEl]; exact bx_setCells HEa.out 2 (encV E2)
  have HR2 := Lib.hid (bx_setCells_other HRa.out (show w.heap.size ≠ w.heap.size + 1 by omega) 2 EV.toList)
  have X2 : Hid (Ext w (v2.setCells (w.heap.size + 1) 2 EV.toList)) := below_setCells (by omega) EV.toList 2 _ Xa.out
  have RB2 : Hid (Rb (v2.setCells (w.heap.size + 1) 2 EV.toList) A2 R2 ∧ R2.length ≤ 100000000 ∧ R2.length ≤ p2 ∧ p2 ≤ 9223372036854775807 ∧ Old w A2 R2) := ⟨(hO2 _ sb2).sets r2 _ _ _ (by omega), Nat.le_trans hL2 RB1.out.2.1, hc2, hd2, hO2 _ sb2⟩
  clear HEa HRa Xa HE1 HR1 X1 RB1 hO2 hL2 k2 r2 hc2 hd2 x2 sb2 hEV hEl
  go_wp2_with (first | (refine wpList_store_mid rfl 23 _ _ (by rfl) (w.heap.size + 1) 2 EV (by rfl) (by rfl) hth.out sE.out oE.out ?_))
  obtain ⟨w2, hw2⟩ : ∃ W, v2.setCells (w.heap.size + 1) 2 EV.toList = W := ⟨_, rfl⟩
  rw [hw2] at HE2 HR2 X2 RB2
  rw [hw2]
  clear hw2 hth sE oE
  have k3 := rNum RB2.out.1 RB2.out.2.1 p2 RB2.out.2.2.1 RB2.out.2.2.2.1
  obtain ⟨N3, hN3⟩ : ∃ N, numN R2 = N := ⟨_, rfl⟩
  have hO3 := fun B s => Old.num (B := B) RB2.out.2.2.2.2 s
  have hL3 := numR_le R2
  obtain ⟨R3, hR3⟩ : ∃ R, numR R2 = R := ⟨_, rfl⟩
  rw [hR3] at k3 hL3
  rw [hN3] at k3
  simp only [hR3] at hO3
  replace k3 := Lib.hid k3; replace hN3 := Lib.hid hN3; replace hR3 := Lib.hid hR3
  refine k3.out.mono ?_
  rintro e3 v3 ⟨A3, p3, rfl, r3, hc3, hd3, x3, sb3⟩
  have HEa := Lib.hid (HE2.out.ext x3); have HRa := Lib.hid (HR2.out.ext x3); have Xa := Lib.hid (X2.out.trans x3)
  have eo := HEa.out.cell 15 _ rfl
  have fo := HEa.out.frozen 15
  have HE3 : Hid (Bx (v3.setCell ⟨w.heap.size + 1, 15, none⟩ (.int .i64 (N3 : Int))) (w.heap.size + 1) (encC ⟨(N1 : Int), 0, E2, 0, 0, (N3 : Int)⟩) 27) := HEa.out.set_ 15 _
  have HR3 := Lib.hid (bx_setCell_other HRa.out (p := ⟨w.heap.size + 1, 15, none⟩) (.int .i64 (N3 : Int)) (by show w.heap.size ≠ w.heap.size + 1; omega))
  have X3 : Hid (Ext w (v3.setCell ⟨w.heap.size + 1, 15, none⟩ (.int .i64 (N3 : Int)))) := Below.setCell Xa.out (p := ⟨w.heap.size + 1, 15, none⟩) (by show w.heap.size ≤ w.heap.size + 1; omega) _
  have RB3 : Hid (Rb (v3.setCell ⟨w.heap.size + 1, 15, none⟩ (.int .i64 (N3 : Int))) A3 R3 ∧ R3.length ≤ 100000000 ∧ R3.length ≤ p3 ∧ p3 ≤ 9223372036854775807 ∧ Old w A3 R3) := ⟨(hO3 _ sb3).set r3 _ _ (by show w.heap.size ≤ w.heap.size + 1; omega), Nat.le_trans hL3 RB2.out.2.1, hc3, hd3, hO3 _ sb3⟩
  clear HEa HRa Xa HE2 HR2 X2 RB2 hO3 hL3 k3 r3 hc3 hd3 x3 sb3
  go_wp2_with (first | (refine load_box rfl 27 _ rfl _ rfl _ _ HE3.out _ Try.underlying27 rfl sizeC ?_))
  obtain ⟨w3, hw3⟩ : ∃ W, v3.setCell ⟨w.heap.size + 1, 15, none⟩ (.int .i64 (N3 : Int)) = W := ⟨_, rfl⟩
  rw [hw3] at HE3 HR3 X3 RB3
  rw [hw3]
  clear hw3 eo fo
  have hT : Hid (cmT b = ⟨(N1 : Int), 0, E2, 0, 0, (N3 : Int)⟩) := by
    show _ = _
    unfold cmT cmOf
    rw [hN1.out, hR1.out, if_pos (by have := hk9.out; omega), hN2.out, hR2.out, hN3.out]
    try rfl
  rw [hT.out] at hRr c64
  cases hf : plainC ⟨(N1 : Int), 0, E2, 0, 0, (N3 : Int)⟩
  · have hRn : R = none := by rw [hRr.out, hf]; rfl
    subst hRn
    refine (rMPutNilN _ _ c64.out hf).mono ?_
    rintro e w8 ⟨A6, c6, rfl, r6, x6, _⟩
    have HR8 := Lib.hid (HR3.out.ext x6); have X8 := Lib.hid (X3.out.trans x6)
    clear hf hRr x6 r6 c64 hT
    go_wp2_with fail
    go_quiet (fail)
    have HR9 := Lib.hid (HR8.out.drewN nq); have X9 := Lib.hid (X8.out.drewN nq)
    clear HR8 X8
    go_wp2_with (first | (refine wpList_store_row (by rfl) 27 _ _ (by rfl) (w.heap.size) (encC cm0).toArray (by rfl) (by rfl) 27 _ HR9.out sizeC rfl (cells_okC cm0) ?_))
    refine bodyPost_ret (results_cm rfl _ _ w.heap.size cm0 (.slice none 0 0) (.int .i64 240) rfl (bx_setRow HR9.out) rfl rfl) rfl ?_
    exact ⟨below_setRow X9.out (Nat.le_refl _) _, rfl⟩
  · refine (rMPutNilY _ _ c64.out hf).mono ?_
    rintro e w8 ⟨A6, c6, rfl, r6, x6, _⟩
    rw [if_pos hf] at hRr
    have HR8 := Lib.hid (HR3.out.ext x6); have X8 := Lib.hid (X3.out.trans x6); have HE8 := Lib.hid (HE3.out.ext x6); have B8 := Lib.hid (h.out.ext X8.out); have R8 := Lib.hid r6
    obtain ⟨cm, hcm⟩ : ∃ cm, (⟨(N1 : Int), 0, E2, 0, 0, (N3 : Int)⟩ : Cm) = cm := ⟨_, rfl⟩
    rw [hcm] at hRr HE8 R8
    rw [hcm]
    obtain ⟨M, hM⟩ : ∃ M, encM cm = M := ⟨_, rfl⟩
    rw [hM] at hRr R8
    rw [hM]
    clear x6 r6 c64 hT hf hM hcm
    by_cases hle : M.length ≤ b.length
    · have d1 : decide ((b.length : Int) < (M.length : Int)) = false := decide_eq_false (by omega)
      have d1b : decide (b.length < M.length) = false := decide_eq_false (by omega)
      have hr1 := fun q => run_str (R8.out.drewN q) c6
      obtain ⟨A7, hA7, hs7⟩ := slice_hiS h.out hle hc.out
      have hr2 : ∀ q, (convert 29 9 (.slice A7 M.length c)).run Try.prog (w8.drewN q) = .ok (.string ⟨(b.take M.length).toArray⟩) (w8.drewN q) := fun q => by
        have := run_str (hs7 _ (B8.out.drewN q)) c
        rw [List.length_take, Nat.min_eq_left hle] at this
        exact this
      by_cases hp : b.take M.length = M
      · rw [if_pos hp] at hRr
        rw [hp] at hr2
        obtain ⟨A8, c8, n8, hn8, hc8, hr8, hs8⟩ := slice_loP 29 1 (enc := encB) elemB sizeB (A := A) (O := b) (n := b.length) (c := c) (j := M.length) rfl hle hc.out
        have B9 := hs8 _ B8.out
        obtain ⟨T, hT⟩ : ∃ T, b.drop M.length = T := ⟨_, rfl⟩
        rw [hT] at hRr B9 hn8
        have hT0 : Hid (b = [] → T = []) := fun e => by rw [← hT, e, List.drop_nil]
        have hRs := hRr.out
        subst hRs
        clear hT hRr hs8
        replace hr8 := Lib.hid hr8; replace B9 := Lib.hid B9; replace hn8 := Lib.hid hn8.out; replace hp := Lib.hid hp
        go_wp2_with fail
        go_quiet (fail)
        clear hr1 hr2 hA7 hs7
        go_wp2_with fail
        have HS0 := Lib.hid ((HE8.out.drewN nq).drewN 1); have HR9 := Lib.hid ((HR8.out.drewN nq).drewN 1); have X9 := Lib.hid ((X8.out.drewN nq).drewN 1); have B10 := Lib.hid ((B9.out.drewN nq).drewN 1)
        clear HE8 HR8 X8 B8 B9
        refine held_start (S := fun W => Bx W (w.heap.size + 1) (encC cm) 27) 8 rfl (by kernel_rfl) ?_
        refine held_boxV (i := 0) rfl (by kernel_rfl) (by kernel_rfl) (by kernel_rfl) rfl 27 _ rfl _ rfl (encC cm) 27 (fun w h => h) _ Try.underlying27 rfl sizeC HS0.out _ (by simp [Act.put]; rfl) ?_
        refine held_move (i := 1) rfl (by kernel_rfl) (by kernel_rfl) (by kernel_rfl) _ rfl rfl HS0.out _ (by simp [Act.put]; rfl) ?_
        refine held_move (i := 2) rfl (by kernel_rfl) (by kernel_rfl) (by kernel_rfl) _ rfl rfl HS0.out _ (by simp [Act.put]; rfl) ?_
        refine held_takeV (i := 3) rfl (by kernel_rfl) (by kernel_rfl) (by kernel_rfl) (.int .i64 M.length) rfl (fun w _ => by go_simp) HS0.out _ (by simp [Act.put]; rfl) ?_
        refine held_takeV (i := 4) rfl (by kernel_rfl) (by kernel_rfl) (by kernel_rfl) (.slice A8 n8 c8) rfl (fun w _ => by have := hr8.out w; go_simp) HS0.out _ (by simp [Act.put]; rfl) ?_
        refine held_all (i := 5) rfl (by kernel_rfl) rfl ?_
        refine wp_store_row 27 _ _ rfl w.heap.size (encC cm).toArray (by rfl) (by rfl) 27 (encC cm0).toArray HR9.out sizeC rfl (cells_okC cm) ?_
        have HS1 : Hid (Bx (((w8.drewN nq).drewN 1).setRow w.heap.size (encC cm).toArray) (w.heap.size + 1) (encC cm) 27) := bx_setRow_other HS0.out (by omega) _
        refine ⟨HS1.out, ?_⟩
        refine held_assign (i := 6) rfl (by kernel_rfl) (by kernel_rfl) (by kernel_rfl) _ rfl rfl HS1.out _ (by simp [Act.put]; rfl) ?_
        refine held_assign (i := 7) rfl (by kernel_rfl) (by kernel_rfl) (by kernel_rfl) _ rfl rfl HS1.out _ (by simp [Act.put]; rfl) ?_
        refine held_done (by kernel_rfl) ?_ _
        go_wp2
        refine bodyPost_ret (results_cm rfl _ _ w.heap.size cm (.slice A8 n8 c8) (.int .i64 0) rfl (bx_setRow HR9.out) rfl rfl) rfl ?_
        have hn := hn8.out
        subst hn
        refine ⟨below_setRow X9.out (Nat.le_refl _) _, A8, c8, rfl, ?_, hc8⟩
        by_cases hb0 : b = []
        · rw [hT0.out hb0]; exact Rw.nil
        · exact rw_setRow B10.out _ (fun blk off e => by
            obtain ⟨a, ha, hblk⟩ := hc8.2.2 _ e
            have := Rw.blk h.out hb0 ha
            simp only at hblk
            omega)
      · have d2 : (M == b.take M.length) = false := beq_eq_false_iff_ne.2 (Ne.symm hp)
        have hRn : R = none := by rw [hRr.out, if_neg hp]
        subst hRn
        clear hRr
        go_wp2_with fail
        go_quiet (fail)
        have HR9 := Lib.hid (HR8.out.drewN nq); have X9 := Lib.hid (X8.out.drewN nq)
        clear HR8 X8
        go_wp2_with (first | (refine wpList_store_row (by rfl) 27 _ _ (by rfl) (w.heap.size) (encC cm0).toArray (by rfl) (by rfl) 27 _ HR9.out sizeC rfl (cells_okC cm0) ?_))
        refine bodyPost_ret (results_cm rfl _ _ w.heap.size cm0 (.slice none 0 0) (.int .i64 240) rfl (bx_setRow HR9.out) rfl rfl) rfl ?_
        exact ⟨below_setRow X9.out (Nat.le_refl _) _, rfl⟩
    · have d1 : decide ((b.length : Int) < (M.length : Int)) = true := decide_eq_true (by omega)
      have d1b : decide (b.length < M.length) = true := decide_eq_true (by omega)
      have hRn : R = none := by
        rw [hRr.out, if_neg]
        intro e
        have := congrArg List.length e
        simp at this
        omega
      subst hRn
      clear hRr
      go_wp2_with fail
      go_quiet (fail)
      have HR9 := Lib.hid (HR8.out.drewN nq); have X9 := Lib.hid (X8.out.drewN nq)
      clear HR8 X8
      go_wp2_with (first | (refine wpList_store_row (by rfl) 27 _ _ (by rfl) (w.heap.size) (encC cm0).toArray (by rfl) (by rfl) 27 _ HR9.out sizeC rfl (cells_okC cm0) ?_))
      refine bodyPost_ret (results_cm rfl _ _ w.heap.size cm0 (.slice none 0 0) (.int .i64 240) rfl (bx_setRow HR9.out) rfl rfl) rfl ?_
      exact ⟨below_setRow X9.out (Nat.le_refl _) _, rfl⟩

set_option maxRecDepth 100000 in
set_option maxHeartbeats 4000000 in
theorem rTk2v {w : World} {A : Option Addr} {b : List UInt8} (h : Rb w A b) (hb : b.length ≤ 100000000) (c : Nat) (hc : b.length ≤ c) (hc2 : c ≤ 9223372036854775807) (hk : (numN b : Int) = 2) (hf : (numN (numR b) : Int) = 2) :
    Calls Try.prog 22 #[.slice A b.length c] w (RetCmP w A c (refT b) 240) := by
  obtain ⟨R, hR⟩ : ∃ R, refT b = R := ⟨_, rfl⟩
  rw [hR]
  have hRr : Hid (R = if plainC (cmT b) = true then if b.take (encM (cmT b)).length = encM (cmT b) then some (cmT b, b.drop (encM (cmT b)).length) else none else none) := hR.symm
  have c64 := Lib.hid (cmT_64 b)
  clear hR
  have HE0 : Hid (Bx ((w.alloc (.cells (encC cm0).toArray 27)).alloc (.cells (encC cm0).toArray 27)) (w.heap.size + 1) (encC cm0) 27) := by
    have := Bx.new (w.alloc (.cells (encC cm0).toArray 27)) (encC cm0) 27
    rw [show (w.alloc (.cells (encC cm0).toArray 27)).heap.size = w.heap.size + 1 from by simp] at this
    exact this
  have HR0 := Lib.hid ((Bx.new w (encC cm0) 27).alloc (.cells (encC cm0).toArray 27))
  have X0 := Lib.hid (((Ext.refl w).alloc (.cells (encC cm0).toArray 27)).alloc (.cells (encC cm0).toArray 27))
  have RB0 : Hid (Rb ((w.alloc (.cells (encC cm0).toArray 27)).alloc (.cells (encC cm0).toArray 27)) A b ∧ b.length ≤ 100000000 ∧ b.length ≤ c ∧ c ≤ 9223372036854775807 ∧ Old w A b) := ⟨h.ext X0.out, hb, hc, hc2, Old.of h⟩
  replace h := Lib.hid h; replace hb := Lib.hid hb; replace hc := Lib.hid hc; replace hc2 := Lib.hid hc2
  go_enter Try.func22, Try.ntmps22
  go_wp2_with fail
  have k1 := rNum RB0.out.1 RB0.out.2.1 c RB0.out.2.2.1 RB0.out.2.2.2.1
  obtain ⟨N1, hN1⟩ : ∃ N, numN b = N := ⟨_, rfl⟩
  have hO1 := fun B s => Old.num (B := B) RB0.out.2.2.2.2 s
  have hL1 := numR_le b
  obtain ⟨R1, hR1⟩ : ∃ R, numR b = R := ⟨_, rfl⟩
  rw [hR1] at k1 hL1
  rw [hN1] at k1
  simp only [hR1] at hO1
  replace k1 := Lib.hid k1; replace hN1 := Lib.hid hN1; replace hR1 := Lib.hid hR1
  refine k1.out.mono ?_
  rintro e1 v1 ⟨A1, p1, rfl, r1, hc1, hd1, x1, sb1⟩
  have HEa := Lib.hid (HE0.out.ext x1); have HRa := Lib.hid (HR0.out.ext x1); have Xa := Lib.hid (X0.out.trans x1)
  have eo := HEa.out.cell 0 _ rfl
  have fo := HEa.out.frozen 0
  have HE1 : Hid (Bx (v1.setCell ⟨w.heap.size + 1, 0, none⟩ (.int .i64 (N1 : Int))) (w.heap.size + 1) (encC ⟨(N1 : Int), 0, ev0, 0, 0, 0⟩) 27) := HEa.out.set_ 0 _
  have HR1 := Lib.hid (bx_setCell_other HRa.out (p := ⟨w.heap.size + 1, 0, none⟩) (.int .i64 (N1 : Int)) (by show w.heap.size ≠ w.heap.size + 1; omega))
  have X1 : Hid (Ext w (v1.setCell ⟨w.heap.size + 1, 0, none⟩ (.int .i64 (N1 : Int)))) := Below.setCell Xa.out (p := ⟨w.heap.size + 1, 0, none⟩) (by show w.heap.size ≤ w.heap.size + 1; omega) _
  have RB1 : Hid (Rb (v1.setCell ⟨w.heap.size + 1, 0, none⟩ (.int .i64 (N1 : Int))) A1 R1 ∧ R1.length ≤ 100000000 ∧ R1.length ≤ p1 ∧ p1 ≤ 9223372036854775807 ∧ Old w A1 R1) := ⟨(hO1 _ sb1).set r1 _ _ (by show w.heap.size ≤ w.heap.size + 1; omega), Nat.le_trans hL1 RB0.out.2.1, hc1, hd1, hO1 _ sb1⟩
  clear HEa HRa Xa HE0 HR0 X0 RB0 hO1 hL1 k1 r1 hc1 hd1 x1 sb1
  have hk9 := Lib.hid (hN1.out ▸ hk)
  have b1 : ((N1 : Int) == 1) = false := by rw [beq_eq_false_iff_ne]; have := hk9.out; omega
  have z1 : (N1 == 1) = false := by rw [beq_eq_false_iff_ne]; have := hk9.out; omega
  have b2 : ((N1 : Int) == 2) = true := by rw [beq_iff_eq]; exact hk9.out
  have z2 : (N1 == 2) = true := by rw [beq_iff_eq]; have := hk9.out; omega
  have b3 : ((N1 : Int) == 3) = false := by rw [beq_eq_false_iff_ne]; have := hk9.out; omega
  have z3 : (N1 == 3) = false := by rw [beq_eq_false_iff_ne]; have := hk9.out; omega
  have b4 : ((N1 : Int) == 4) = false := by rw [beq_eq_false_iff_ne]; have := hk9.out; omega
  have z4 : (N1 == 4) = false := by rw [beq_eq_false_iff_ne]; have := hk9.out; omega
  have b5 : ((N1 : Int) == 5) = false := by rw [beq_eq_false_iff_ne]; have := hk9.out; omega
  have z5 : (N1 == 5) = false := by rw [beq_eq_false_iff_ne]; have := hk9.out; omega
  have b6 : ((N1 : Int) == 6) = false := by rw [beq_eq_false_iff_ne]; have := hk9.out; omega
  have z6 : (N1 == 6) = false := by rw [beq_eq_false_iff_ne]; have := hk9.out; omega
  have b7 : ((N1 : Int) == 7) = false := by rw [beq_eq_false_iff_ne]; have := hk9.out; omega
  have z7 : (N1 == 7) = false := by rw [beq_eq_false_iff_ne]; have := hk9.out; omega
  clear hk
  go_wp2_with fail
  obtain ⟨w1, hw1⟩ : ∃ W, v1.setCell ⟨w.heap.size + 1, 0, none⟩ (.int .i64 (N1 : Int)) = W := ⟨_, rfl⟩
  rw [hw1] at HE1 HR1 X1 RB1
  rw [hw1]
  clear hw1 eo fo
  have k2 := rNum RB1.out.1 RB1.out.2.1 p1 RB1.out.2.2.1 RB1.out.2.2.2.1
  obtain ⟨N2, hN2⟩ : ∃ N, numN R1 = N := ⟨_, rfl⟩
  have hO2 := fun B s => Old.num (B := B) RB1.out.2.2.2.2 s
  have hL2 := numR_le R1
  obtain ⟨R2, hR2⟩ : ∃ R, numR R1 = R := ⟨_, rfl⟩
  rw [hR2] at k2 hL2
  rw [hN2] at k2
  simp only [hR2] at hO2
  replace k2 := Lib.hid k2; replace hN2 := Lib.hid hN2; replace hR2 := Lib.hid hR2
  refine k2.out.mono ?_
  rintro e2 v2 ⟨A2, p2, rfl, r2, hc2, hd2, x2, sb2⟩
  have HEa := Lib.hid (HE1.out.ext x2); have HRa := Lib.hid (HR1.out.ext x2); have Xa := Lib.hid (X1.out.trans x2)
  have eo := HEa.out.cell 1 _ rfl
  have fo := HEa.out.frozen 1
  have HE2 : Hid (Bx (v2.setCell ⟨w.heap.size + 1, 1, none⟩ (.int .i64 (N2 : Int))) (w.heap.size + 1) (encC ⟨(N1 : Int), (N2 : Int), ev0, 0, 0, 0⟩) 27) := HEa.out.set_ 1 _
  have HR2 := Lib.hid (bx_setCell_other HRa.out (p := ⟨w.heap.size + 1, 1, none⟩) (.int .i64 (N2 : Int)) (by show w.heap.size ≠ w.heap.size + 1; omega))
  have X2 : Hid (Ext w (v2.setCell ⟨w.heap.size + 1, 1, none⟩ (.int .i64 (N2 : Int)))) := Below.setCell Xa.out (p := ⟨w.heap.size + 1, 1, none⟩) (by show w.heap.size ≤ w.heap.size + 1; omega) _
  have RB2 : Hid (Rb (v2.setCell ⟨w.heap.size + 1, 1, none⟩ (.int .i64 (N2 : Int))) A2 R2 ∧ R2.length ≤ 100000000 ∧ R2.length ≤ p2 ∧ p2 ≤ 9223372036854775807 ∧ Old w A2 R2) := ⟨(hO2 _ sb2).set r2 _ _ (by show w.heap.size ≤ w.heap.size + 1; omega), Nat.le_trans hL2 RB1.out.2.1, hc2, hd2, hO2 _ sb2⟩
  clear HEa HRa Xa HE1 HR1 X1 RB1 hO2 hL2 k2 r2 hc2 hd2 x2 sb2
  have hf9 := Lib.hid (hN2.out ▸ hR1.out ▸ hf)
  clear hf
  have f2 : ((N2 : Int) == 2) = true := by rw [beq_iff_eq]; exact hf9.out
  have f2b : (N2 == 2) = true := by rw [beq_iff_eq]; have := hf9.out; omega
  have z1 := HE2.out.cell 1 _ rfl
  go_wp2_with fail
  obtain ⟨w2, hw2⟩ : ∃ W, v2.setCell ⟨w.heap.size + 1, 1, none⟩ (.int .i64 (N2 : Int)) = W := ⟨_, rfl⟩
  rw [hw2] at HE2 HR2 X2 RB2
  rw [hw2]
  clear hw2 eo fo
  have k3 := rNum RB2.out.1 RB2.out.2.1 p2 RB2.out.2.2.1 RB2.out.2.2.2.1
  obtain ⟨N3, hN3⟩ : ∃ N, numN R2 = N := ⟨_, rfl⟩
  have hO3 := fun B s => Old.num (B := B) RB2.out.2.2.2.2 s
  have hL3 := numR_le R2
  obtain ⟨R3, hR3⟩ : ∃ R, numR R2 = R := ⟨_, rfl⟩
  rw [hR3] at k3 hL3
  rw [hN3] at k3
  simp only [hR3] at hO3
  replace k3 := Lib.hid k3; replace hN3 := Lib.hid hN3; replace hR3 := Lib.hid hR3
  refine k3.out.mono ?_
  rintro e3 v3 ⟨A3, p3, rfl, r3, hc3, hd3, x3, sb3⟩
  have HEa := Lib.hid (HE2.out.ext x3); have HRa := Lib.hid (HR2.out.ext x3); have Xa := Lib.hid (X2.out.trans x3)
  have eo := HEa.out.cell 2 _ rfl
  have fo := HEa.out.frozen 2
  have HE3 : Hid (Bx (v3.setCell ⟨w.heap.size + 1, 2, none⟩ (.int .i64 (N3 : Int))) (w.heap.size + 1) (encC ⟨(N1 : Int), (N2 : Int), ⟨(N3 : Int), 0, 0, 0, 0, 0, 0, 0, 0, 0, 0⟩, 0, 0, 0⟩) 27) := HEa.out.set_ 2 _
  have HR3 := Lib.hid (bx_setCell_other HRa.out (p := ⟨w.heap.size + 1, 2, none⟩) (.int .i64 (N3 : Int)) (by show w.heap.size ≠ w.heap.size + 1; omega))
  have X3 : Hid (Ext w (v3.setCell ⟨w.heap.size + 1, 2, none⟩ (.int .i64 (N3 : Int)))) := Below.setCell Xa.out (p := ⟨w.heap.size + 1, 2, none⟩) (by show w.heap.size ≤ w.heap.size + 1; omega) _
  have RB3 : Hid (Rb (v3.setCell ⟨w.heap.size + 1, 2, none⟩ (.int .i64 (N3 : Int))) A3 R3 ∧ R3.length ≤ 100000000 ∧ R3.length ≤ p3 ∧ p3 ≤ 9223372036854775807 ∧ Old w A3 R3) := ⟨(hO3 _ sb3).set r3 _ _ (by show w.heap.size ≤ w.heap.size + 1; omega), Nat.le_trans hL3 RB2.out.2.1, hc3, hd3, hO3 _ sb3⟩
  clear HEa HRa Xa HE2 HR2 X2 RB2 hO3 hL3 k3 r3 hc3 hd3 x3 sb3
  go_wp2_with fail
  obtain ⟨w3, hw3⟩ : ∃ W, v3.setCell ⟨w.heap.size + 1, 2, none⟩ (.int .i64 (N3 : Int)) = W := ⟨_, rfl⟩
  rw [hw3] at HE3 HR3 X3 RB3
  rw [hw3]
  clear hw3 eo fo
  have k4 := rNum RB3.out.1 RB3.out.2.1 p3 RB3.out.2.2.1 RB3.out.2.2.2.1
  obtain ⟨N4, hN4⟩ : ∃ N, numN R3 = N := ⟨_, rfl⟩
  have hO4 := fun B s => Old.num (B := B) RB3.out.2.2.2.2 s
  have hL4 := numR_le R3
  obtain ⟨R4, hR4⟩ : ∃ R, numR R3 = R := ⟨_, rfl⟩
  rw [hR4] at k4 hL4
  rw [hN4] at k4
  simp only [hR4] at hO4
  replace k4 := Lib.hid k4; replace hN4 := Lib.hid hN4; replace hR4 := Lib.hid hR4
  refine k4.out.mono ?_
  rintro e4 v4 ⟨A4, p4, rfl, r4, hc4, hd4, x4, sb4⟩
  have HEa := Lib.hid (HE3.out.ext x4); have HRa := Lib.hid (HR3.out.ext x4); have Xa := Lib.hid (X3.out.trans x4)
  have eo := HEa.out.cell 15 _ rfl
  have fo := HEa.out.frozen 15
  have HE4 : Hid (Bx (v4.setCell ⟨w.heap.size + 1, 15, none⟩ (.int .i64 (N4 : Int))) (w.heap.size + 1) (encC ⟨(N1 : Int), (N2 : Int), ⟨(N3 : Int), 0, 0, 0, 0, 0, 0, 0, 0, 0, 0⟩, 0, 0, (N4 : Int)⟩) 27) := HEa.out.set_ 15 _
  have HR4 := Lib.hid (bx_setCell_other HRa.out (p := ⟨w.heap.size + 1, 15, none⟩) (.int .i64 (N4 : Int)) (by show w.heap.size ≠ w.heap.size + 1; omega))
  have X4 : Hid (Ext w (v4.setCell ⟨w.heap.size + 1, 15, none⟩ (.int .i64 (N4 : Int)))) := Below.setCell Xa.out (p := ⟨w.heap.size + 1, 15, none⟩) (by show w.heap.size ≤ w.heap.size + 1; omega) _
  have RB4 : Hid (Rb (v4.setCell ⟨w.heap.size + 1, 15, none⟩ (.int .i64 (N4 : Int))) A4 R4 ∧ R4.length ≤ 100000000 ∧ R4.length ≤ p4 ∧ p4 ≤ 9223372036854775807 ∧ Old w A4 R4) := ⟨(hO4 _ sb4).set r4 _ _ (by show w.heap.size ≤ w.heap.size + 1; omega), Nat.le_trans hL4 RB3.out.2.1, hc4, hd4, hO4 _ sb4⟩
  clear HEa HRa Xa HE3 HR3 X3 RB3 hO4 hL4 k4 r4 hc4 hd4 x4 sb4
  go_wp2_with (first | (refine load_box rfl 27 _ rfl _ rfl _ _ HE4.out _ Try.underlying27 rfl sizeC ?_))
  obtain ⟨w4, hw4⟩ : ∃ W, v4.setCell ⟨w.heap.size + 1, 15, none⟩ (.int .i64 (N4 : Int)) = W := ⟨_, rfl⟩
  rw [hw4] at HE4 HR4 X4 RB4
  rw [hw4]
  clear hw4 eo fo
  have hT : Hid (cmT b = ⟨(N1 : Int), (N2 : Int), ⟨(N3 : Int), 0, 0, 0, 0, 0, 0, 0, 0, 0, 0⟩, 0, 0, (N4 : Int)⟩) := by
    show _ = _
    unfold cmT cmOf
    rw [hN1.out, hR1.out, if_neg (by have := hk9.out; omega), if_pos (by have := hk9.out; omega), hN2.out, if_pos hf9.out, hR2.out, hN3.out, hR3.out, hN4.out]
    try rfl
  rw [hT.out] at hRr c64
  cases hf : plainC ⟨(N1 : Int), (N2 : Int), ⟨(N3 : Int), 0, 0, 0, 0, 0, 0, 0, 0, 0, 0⟩, 0, 0, (N4 : Int)⟩
  · have hRn : R = none := by rw [hRr.out, hf]; rfl
    subst hRn
    refine (rMPutNilN _ _ c64.out hf).mono ?_
    rintro e w8 ⟨A6, c6, rfl, r6, x6, _⟩
    have HR8 := Lib.hid (HR4.out.ext x6); have X8 := Lib.hid (X4.out.trans x6)
    clear hf hRr x6 r6 c64 hT
    go_wp2_with fail
    go_quiet (fail)
    have HR9 := Lib.hid (HR8.out.drewN nq); have X9 := Lib.hid (X8.out.drewN nq)
    clear HR8 X8
    go_wp2_with (first | (refine wpList_store_row (by rfl) 27 _ _ (by rfl) (w.heap.size) (encC cm0).toArray (by rfl) (by rfl) 27 _ HR9.out sizeC rfl (cells_okC cm0) ?_))
    refine bodyPost_ret (results_cm rfl _ _ w.heap.size cm0 (.slice none 0 0) (.int .i64 240) rfl (bx_setRow HR9.out) rfl rfl) rfl ?_
    exact ⟨below_setRow X9.out (Nat.le_refl _) _, rfl⟩
  · refine (rMPutNilY _ _ c64.out hf).mono ?_
    rintro e w8 ⟨A6, c6, rfl, r6, x6, _⟩
    rw [if_pos hf] at hRr
    have HR8 := Lib.hid (HR4.out.ext x6); have X8 := Lib.hid (X4.out.trans x6); have HE8 := Lib.hid (HE4.out.ext x6); have B8 := Lib.hid (h.out.ext X8.out); have R8 := Lib.hid r6
    obtain ⟨cm, hcm⟩ : ∃ cm, (⟨(N1 : Int), (N2 : Int), ⟨(N3 : Int), 0, 0, 0, 0, 0, 0, 0, 0, 0, 0⟩, 0, 0, (N4 : Int)⟩ : Cm) = cm := ⟨_, rfl⟩
    rw [hcm] at hRr HE8 R8
    rw [hcm]
    obtain ⟨M, hM⟩ : ∃ M, encM cm = M := ⟨_, rfl⟩
    rw [hM] at hRr R8
    rw [hM]
    clear x6 r6 c64 hT hf hM hcm
    by_cases hle : M.length ≤ b.length
    · have d1 : decide ((b.length : Int) < (M.length : Int)) = false := decide_eq_false (by omega)
      have d1b : decide (b.length < M.length) = false := decide_eq_false (by omega)
      have hr1 := fun q => run_str (R8.out.drewN q) c6
      obtain ⟨A7, hA7, hs7⟩ := slice_hiS h.out hle hc.out
      have hr2 : ∀ q, (convert 29 9 (.slice A7 M.length c)).run Try.prog (w8.drewN q) = .ok (.string ⟨(b.take M.length).toArray⟩) (w8.drewN q) := fun q => by
        have := run_str (hs7 _ (B8.out.drewN q)) c
        rw [List.length_take, Nat.min_eq_left hle] at this
        exact this
      by_cases hp : b.take M.length = M
      · rw [if_pos hp] at hRr
        rw [hp] at hr2
        obtain ⟨A8, c8, n8, hn8, hc8, hr8, hs8⟩ := slice_loP 29 1 (enc := encB) elemB sizeB (A := A) (O := b) (n := b.length) (c := c) (j := M.length) rfl hle hc.out
        have B9 := hs8 _ B8.out
        obtain ⟨T, hT⟩ : ∃ T, b.drop M.length = T := ⟨_, rfl⟩
        rw [hT] at hRr B9 hn8
        have hT0 : Hid (b = [] → T = []) := fun e => by rw [← hT, e, List.drop_nil]
        have hRs := hRr.out
        subst hRs
        clear hT hRr hs8
        replace hr8 := Lib.hid hr8; replace B9 := Lib.hid B9; replace hn8 := Lib.hid hn8.out; replace hp := Lib.hid hp
        go_wp2_with fail
        go_quiet (fail)
        clear hr1 hr2 hA7 hs7
        go_wp2_with fail
        have HS0 := Lib.hid ((HE8.out.drewN nq).drewN 1); have HR9 := Lib.hid ((HR8.out.drewN nq).drewN 1); have X9 := Lib.hid ((X8.out.drewN nq).drewN 1); have B10 := Lib.hid ((B9.out.drewN nq).drewN 1)
        clear HE8 HR8 X8 B8 B9
        refine held_start (S := fun W => Bx W (w.heap.size + 1) (encC cm) 27) 8 rfl (by kernel_rfl) ?_
        refine held_boxV (i := 0) rfl (by kernel_rfl) (by kernel_rfl) (by kernel_rfl) rfl 27 _ rfl _ rfl (encC cm) 27 (fun w h => h) _ Try.underlying27 rfl sizeC HS0.out _ (by simp [Act.put]; rfl) ?_
        refine held_move (i := 1) rfl (by kernel_rfl) (by kernel_rfl) (by kernel_rfl) _ rfl rfl HS0.out _ (by simp [Act.put]; rfl) ?_
        refine held_move (i := 2) rfl (by kernel_rfl) (by kernel_rfl) (by kernel_rfl) _ rfl rfl HS0.out _ (by simp [Act.put]; rfl) ?_
        refine held_takeV (i := 3) rfl (by kernel_rfl) (by kernel_rfl) (by kernel_rfl) (.int .i64 M.length) rfl (fun w _ => by go_simp) HS0.out _ (by simp [Act.put]; rfl) ?_
        refine held_takeV (i := 4) rfl (by kernel_rfl) (by kernel_rfl) (by kernel_rfl) (.slice A8 n8 c8) rfl (fun w _ => by have := hr8.out w; go_simp) HS0.out _ (by simp [Act.put]; rfl) ?_
        refine held_all (i := 5) rfl (by kernel_rfl) rfl ?_
        refine wp_store_row 27 _ _ rfl w.heap.size (encC cm).toArray (by rfl) (by rfl) 27 (encC cm0).toArray HR9.out sizeC rfl (cells_okC cm) ?_
        have HS1 : Hid (Bx (((w8.drewN nq).drewN 1).setRow w.heap.size (encC cm).toArray) (w.heap.size + 1) (encC cm) 27) := bx_setRow_other HS0.out (by omega) _
        refine ⟨HS1.out, ?_⟩
        refine held_assign (i := 6) rfl (by kernel_rfl) (by kernel_rfl) (by kernel_rfl) _ rfl rfl HS1.out _ (by simp [Act.put]; rfl) ?_
        refine held_assign (i := 7) rfl (by kernel_rfl) (by kernel_rfl) (by kernel_rfl) _ rfl rfl HS1.out _ (by simp [Act.put]; rfl) ?_
        refine held_done (by kernel_rfl) ?_ _
        go_wp2
        refine bodyPost_ret (results_cm rfl _ _ w.heap.size cm (.slice A8 n8 c8) (.int .i64 0) rfl (bx_setRow HR9.out) rfl rfl) rfl ?_
        have hn := hn8.out
        subst hn
        refine ⟨below_setRow X9.out (Nat.le_refl _) _, A8, c8, rfl, ?_, hc8⟩
        by_cases hb0 : b = []
        · rw [hT0.out hb0]; exact Rw.nil
        · exact rw_setRow B10.out _ (fun blk off e => by
            obtain ⟨a, ha, hblk⟩ := hc8.2.2 _ e
            have := Rw.blk h.out hb0 ha
            simp only at hblk
            omega)
      · have d2 : (M == b.take M.length) = false := beq_eq_false_iff_ne.2 (Ne.symm hp)
        have hRn : R = none := by rw [hRr.out, if_neg hp]
        subst hRn
        clear hRr
        go_wp2_with fail
        go_quiet (fail)
        have HR9 := Lib.hid (HR8.out.drewN nq); have X9 := Lib.hid (X8.out.drewN nq)
        clear HR8 X8
        go_wp2_with (first | (refine wpList_store_row (by rfl) 27 _ _ (by rfl) (w.heap.size) (encC cm0).toArray (by rfl) (by rfl) 27 _ HR9.out sizeC rfl (cells_okC cm0) ?_))
        refine bodyPost_ret (results_cm rfl _ _ w.heap.size cm0 (.slice none 0 0) (.int .i64 240) rfl (bx_setRow HR9.out) rfl rfl) rfl ?_
        exact ⟨below_setRow X9.out (Nat.le_refl _) _, rfl⟩
    · have d1 : decide ((b.length : Int) < (M.length : Int)) = true := decide_eq_true (by omega)
      have d1b : decide (b.length < M.length) = true := decide_eq_true (by omega)
      have hRn : R = none := by
        rw [hRr.out, if_neg]
        intro e
        have := congrArg List.length e
        simp at this
        omega
      subst hRn
      clear hRr
      go_wp2_with fail
      go_quiet (fail)
      have HR9 := Lib.hid (HR8.out.drewN nq); have X9 := Lib.hid (X8.out.drewN nq)
      clear HR8 X8
      go_wp2_with (first | (refine wpList_store_row (by rfl) 27 _ _ (by rfl) (w.heap.size) (encC cm0).toArray (by rfl) (by rfl) 27 _ HR9.out sizeC rfl (cells_okC cm0) ?_))
      refine bodyPost_ret (results_cm rfl _ _ w.heap.size cm0 (.slice none 0 0) (.int .i64 240) rfl (bx_setRow HR9.out) rfl rfl) rfl ?_
      exact ⟨below_setRow X9.out (Nat.le_refl _) _, rfl⟩

set_option maxRecDepth 100000 in
set_option maxHeartbeats 4000000 in
theorem rTk2e {w : World} {A : Option Addr} {b : List UInt8} (h : Rb w A b) (hb : b.length ≤ 100000000) (c : Nat) (hc : b.length ≤ c) (hc2 : c ≤ 9223372036854775807) (hk : (numN b : Int) = 2) (hf : ¬ (numN (numR b) : Int) = 2) :
    Calls Try.prog 22 #[.slice A b.length c] w (RetCmP w A c (refT b) 240) := by
  obtain ⟨R, hR⟩ : ∃ R, refT b = R := ⟨_, rfl⟩
  rw [hR]
  have hRr : Hid (R = if plainC (cmT b) = true then if b.take (encM (cmT b)).length = encM (cmT b) then some (cmT b, b.drop (encM (cmT b)).length) else none else none) := hR.symm
  have c64 := Lib.hid (cmT_64 b)
  clear hR
  have HE0 : Hid (Bx ((w.alloc (.cells (encC cm0).toArray 27)).alloc (.cells (encC cm0).toArray 27)) (w.heap.size + 1) (encC cm0) 27) := by
    have := Bx.new (w.alloc (.cells (encC cm0).toArray 27)) (encC cm0) 27
    rw [show (w.alloc (.cells (encC cm0).toArray 27)).heap.size = w.heap.size + 1 from by simp] at this
    exact this
  have HR0 := Lib.hid ((Bx.new w (encC cm0) 27).alloc (.cells (encC cm0).toArray 27))
  have X0 := Lib.hid (((Ext.refl w).alloc (.cells (encC cm0).toArray 27)).alloc (.cells (encC cm0).toArray 27))
  have RB0 : Hid (Rb ((w.alloc (.cells (encC cm0).toArray 27)).alloc (.cells (encC cm0).toArray 27)) A b ∧ b.length ≤ 100000000 ∧ b.length ≤ c ∧ c ≤ 9223372036854775807 ∧ Old w A b) := ⟨h.ext X0.out, hb, hc, hc2, Old.of h⟩
  replace h := Lib.hid h; replace hb := Lib.hid hb; replace hc := Lib.hid hc; replace hc2 := Lib.hid hc2
  go_enter Try.func22, Try.ntmps22
  go_wp2_with fail
  have k1 := rNum RB0.out.1 RB0.out.2.1 c RB0.out.2.2.1 RB0.out.2.2.2.1
  obtain ⟨N1, hN1⟩ : ∃ N, numN b = N := ⟨_, rfl⟩
  have hO1 := fun B s => Old.num (B := B) RB0.out.2.2.2.2 s
  have hL1 := numR_le b
  obtain ⟨R1, hR1⟩ : ∃ R, numR b = R := ⟨_, rfl⟩
  rw [hR1] at k1 hL1
  rw [hN1] at k1
  simp only [hR1] at hO1
  replace k1 := Lib.hid k1; replace hN1 := Lib.hid hN1; replace hR1 := Lib.hid hR1
  refine k1.out.mono ?_
  rintro e1 v1 ⟨A1, p1, rfl, r1, hc1, hd1, x1, sb1⟩
  have HEa := Lib.hid (HE0.out.ext x1); have HRa := Lib.hid (HR0.out.ext x1); have Xa := Lib.hid (X0.out.trans x1)
  have eo := HEa.out.cell 0 _ rfl
  have fo := HEa.out.frozen 0
  have HE1 : Hid (Bx (v1.setCell ⟨w.heap.size + 1, 0, none⟩ (.int .i64 (N1 : Int))) (w.heap.size + 1) (encC ⟨(N1 : Int), 0, ev0, 0, 0, 0⟩) 27) := HEa.out.set_ 0 _
  have HR1 := Lib.hid (bx_setCell_other HRa.out (p := ⟨w.heap.size + 1, 0, none⟩) (.int .i64 (N1 : Int)) (by show w.heap.size ≠ w.heap.size + 1; omega))
  have X1 : Hid (Ext w (v1.setCell ⟨w.heap.size + 1, 0, none⟩ (.int .i64 (N1 : Int)))) := Below.setCell Xa.out (p := ⟨w.heap.size + 1, 0, none⟩) (by show w.heap.size ≤ w.heap.size + 1; omega) _
  have RB1 : Hid (Rb (v1.setCell ⟨w.heap.size + 1, 0, none⟩ (.int .i64 (N1 : Int))) A1 R1 ∧ R1.length ≤ 100000000 ∧ R1.length ≤ p1 ∧ p1 ≤ 9223372036854775807 ∧ Old w A1 R1) := ⟨(hO1 _ sb1).set r1 _ _ (by show w.heap.size ≤ w.heap.size + 1; omega), Nat.le_trans hL1 RB0.out.2.1, hc1, hd1, hO1 _ sb1⟩
  clear HEa HRa Xa HE0 HR0 X0 RB0 hO1 hL1 k1 r1 hc1 hd1 x1 sb1
  have hk9 := Lib.hid (hN1.out ▸ hk)
  have b1 : ((N1 : Int) == 1) = false := by rw [beq_eq_false_iff_ne]; have := hk9.out; omega
  have z1 : (N1 == 1) = false := by rw [beq_eq_false_iff_ne]; have := hk9.out; omega
  have b2 : ((N1 : Int) == 2) = true := by rw [beq_iff_eq]; exact hk9.out
  have z2 : (N1 == 2) = true := by rw [beq_iff_eq]; have := hk9.out; omega
  have b3 : ((N1 : Int) == 3) = false := by rw [beq_eq_false_iff_ne]; have := hk9.out; omega
  have z3 : (N1 == 3) = false := by rw [beq_eq_false_iff_ne]; have := hk9.out; omega
  have b4 : ((N1 : Int) == 4) = false := by rw [beq_eq_false_iff_ne]; have := hk9.out; omega
  have z4 : (N1 == 4) = false := by rw [beq_eq_false_iff_ne]; have := hk9.out; omega
  have b5 : ((N1 : Int) == 5) = false := by rw [beq_eq_false_iff_ne]; have := hk9.out; omega
  have z5 : (N1 == 5) = false := by rw [beq_eq_false_iff_ne]; have := hk9.out; omega
  have b6 : ((N1 : Int) == 6) = false := by rw [beq_eq_false_iff_ne]; have := hk9.out; omega
  have z6 : (N1 == 6) = false := by rw [beq_eq_false_iff_ne]; have := hk9.out; omega
  have b7 : ((N1 : Int) == 7) = false := by rw [beq_eq_false_iff_ne]; have := hk9.out; omega
  have z7 : (N1 == 7) = false := by rw [beq_eq_false_iff_ne]; have := hk9.out; omega
  clear hk
  go_wp2_with fail
  obtain ⟨w1, hw1⟩ : ∃ W, v1.setCell ⟨w.heap.size + 1, 0, none⟩ (.int .i64 (N1 : Int)) = W := ⟨_, rfl⟩
  rw [hw1] at HE1 HR1 X1 RB1
  rw [hw1]
  clear hw1 eo fo
  have k2 := rNum RB1.out.1 RB1.out.2.1 p1 RB1.out.2.2.1 RB1.out.2.2.2.1
  obtain ⟨N2, hN2⟩ : ∃ N, numN R1 = N := ⟨_, rfl⟩
  have hO2 := fun B s => Old.num (B := B) RB1.out.2.2.2.2 s
  have hL2 := numR_le R1
  obtain ⟨R2, hR2⟩ : ∃ R, numR R1 = R := ⟨_, rfl⟩
  rw [hR2] at k2 hL2
  rw [hN2] at k2
  simp only [hR2] at hO2
  replace k2 := Lib.hid k2; replace hN2 := Lib.hid hN2; replace hR2 := Lib.hid hR2
  refine k2.out.mono ?_
  rintro e2 v2 ⟨A2, p2, rfl, r2, hc2, hd2, x2, sb2⟩
  have HEa := Lib.hid (HE1.out.ext x2); have HRa := Lib.hid (HR1.out.ext x2); have Xa := Lib.hid (X1.out.trans x2)
  have eo := HEa.out.cell 1 _ rfl
  have fo := HEa.out.frozen 1
  have HE2 : Hid (Bx (v2.setCell ⟨w.heap.size + 1, 1, none⟩ (.int .i64 (N2 : Int))) (w.heap.size + 1) (encC ⟨(N1 : Int), (N2 : Int), ev0, 0, 0, 0⟩) 27) := HEa.out.set_ 1 _
  have HR2 := Lib.hid (bx_setCell_other HRa.out (p := ⟨w.heap.size + 1, 1, none⟩) (.int .i64 (N2 : Int)) (by show w.heap.size ≠ w.heap.size + 1; omega))
  have X2 : Hid (Ext w (v2.setCell ⟨w.heap.size + 1, 1, none⟩ (.int .i64 (N2 : Int)))) := Below.setCell Xa.out (p := ⟨w.heap.size + 1, 1, none⟩) (by show w.heap.size ≤ w.heap.size + 1; omega) _
  have RB2 : Hid (Rb (v2.setCell ⟨w.heap.size + 1, 1, none⟩ (.int .i64 (N2 : Int))) A2 R2 ∧ R2.length ≤ 100000000 ∧ R2.length ≤ p2 ∧ p2 ≤ 9223372036854775807 ∧ Old w A2 R2) := ⟨(hO2 _ sb2).set r2 _ _ (by show w.heap.size ≤ w.heap.size + 1; omega), Nat.le_trans hL2 RB1.out.2.1, hc2, hd2, hO2 _ sb2⟩
  clear HEa HRa Xa HE1 HR1 X1 RB1 hO2 hL2 k2 r2 hc2 hd2 x2 sb2
  have hf9 := Lib.hid (hN2.out ▸ hR1.out ▸ hf)
  clear hf
  have f2 : ((N2 : Int) == 2) = false := by rw [beq_eq_false_iff_ne]; exact hf9.out
  have f2b : (N2 == 2) = false := by rw [beq_eq_false_iff_ne]; have := hf9.out; omega
  have z1 := HE2.out.cell 1 _ rfl
  go_wp2_with fail
  obtain ⟨w2, hw2⟩ : ∃ W, v2.setCell ⟨w.heap.size + 1, 1, none⟩ (.int .i64 (N2 : Int)) = W := ⟨_, rfl⟩
  rw [hw2] at HE2 HR2 X2 RB2
  rw [hw2]
  clear hw2 eo fo
  have k3 := rETakeN RB2.out.1 RB2.out.2.1 p2 RB2.out.2.2.1 RB2.out.2.2.2.1
  obtain ⟨E3, hN3⟩ : ∃ N, evN R2 = N := ⟨_, rfl⟩
  have hO3 := fun B s => Old.ev (B := B) RB2.out.2.2.2.2 s
  have hL3 := evR_le R2
  obtain ⟨R3, hR3⟩ : ∃ R, evR R2 = R := ⟨_, rfl⟩
  rw [hR3] at k3 hL3
  rw [hN3] at k3
  simp only [hR3] at hO3
  replace k3 := Lib.hid k3; replace hN3 := Lib.hid hN3; replace hR3 := Lib.hid hR3
  refine k3.out.mono ?_
  rintro e3 v3 ⟨A3, p3, y3, rfl, r3, hc3, hd3, x3, sb3⟩
  have HEa := Lib.hid (HE2.out.ext x3); have HRa := Lib.hid (HR2.out.ext x3); have Xa := Lib.hid (X2.out.trans x3)
  obtain ⟨EV, hEV⟩ : ∃ c, (encV E3).toArray = c := ⟨_, rfl⟩
  have hEl : encV E3 = EV.toList := by rw [← hEV]
  rw [hEV]
  have hth : Hid (v3.there (w.heap.size + 1) 2 EV.size) := by show World.there _ _ _ _; rw [← hEV]; exact bx_there HEa.out 2 11 (by exact (by decide : 2 + 11 ≤ 16))
  have sE : Hid ((Try.prog.info? 23).map (·.size) = some EV.size) := by show _ = _; rw [← hEV]; exact sizeV
  have oE : Hid (EV.all (·.oneCell') = true) := by show _ = _; rw [← hEV]; exact cells_ok E3
  have HE3 : Hid (Bx (v3.setCells (w.heap.size + 1) 2 EV.toList) (w.heap.size + 1) (encC ⟨(N1 : Int), (N2 : Int), E3, 0, 0, 0⟩) 27) := by show Bx _ _ _ _; rw [← hEl]; exact bx_setCells HEa.out 2 (encV E3)
  have HR3 := Lib.hid (bx_setCells_other HRa.out (show w.heap.size ≠ w.heap.size + 1 by omega) 2 EV.toList)
  have X3 : Hid (Ext w (v3.setCells (w.heap.size + 1) 2 EV.toList)) := below_setCells (by omega) EV.toList 2 _ Xa.out
  have RB3 : Hid (Rb (v3.setCells (w.heap.size + 1) 2 EV.toList) A3 R3 ∧ R3.length ≤ 100000000 ∧ R3.length ≤ p3 ∧ p3 ≤ 9223372036854775807 ∧ Old w A3 R3) := ⟨(hO3 _ sb3).sets r3 _ _ _ (by omega), Nat.le_trans hL3 RB2.out.2.1, hc3, hd3, hO3 _ sb3⟩
  clear HEa HRa Xa HE2 HR2 X2 RB2 hO3 hL3 k3 r3 hc3 hd3 x3 sb3 hEV hEl
  go_wp2_with (first | (refine wpList_store_mid rfl 23 _ _ (by rfl) (w.heap.size + 1) 2 EV (by rfl) (by rfl) hth.out sE.out oE.out ?_))
  obtain ⟨w3, hw3⟩ : ∃ W, v3.setCells (w.heap.size + 1) 2 EV.toList = W := ⟨_, rfl⟩
  rw [hw3] at HE3 HR3 X3 RB3
  rw [hw3]
  clear hw3 hth sE oE
  have k4 := rNum RB3.out.1 RB3.out.2.1 p3 RB3.out.2.2.1 RB3.out.2.2.2.1
  obtain ⟨N4, hN4⟩ : ∃ N, numN R3 = N := ⟨_, rfl⟩
  have hO4 := fun B s => Old.num (B := B) RB3.out.2.2.2.2 s
  have hL4 := numR_le R3
  obtain ⟨R4, hR4⟩ : ∃ R, numR R3 = R := ⟨_, rfl⟩
  rw [hR4] at k4 hL4
  rw [hN4] at k4
  simp only [hR4] at hO4
  replace k4 := Lib.hid k4; replace hN4 := Lib.hid hN4; replace hR4 := Lib.hid hR4
  refine k4.out.mono ?_
  rintro e4 v4 ⟨A4, p4, rfl, r4, hc4, hd4, x4, sb4⟩
  have HEa := Lib.hid (HE3.out.ext x4); have HRa := Lib.hid (HR3.out.ext x4); have Xa := Lib.hid (X3.out.trans x4)
  have eo := HEa.out.cell 15 _ rfl
  have fo := HEa.out.frozen 15
  have HE4 : Hid (Bx (v4.setCell ⟨w.heap.size + 1, 15, none⟩ (.int .i64 (N4 : Int))) (w.heap.size + 1) (encC ⟨(N1 : Int), (N2 : Int), E3, 0, 0, (N4 : Int)⟩) 27) := HEa.out.set_ 15 _
  have HR4 := Lib.hid (bx_setCell_other HRa.out (p := ⟨w.heap.size + 1, 15, none⟩) (.int .i64 (N4 : Int)) (by show w.heap.size ≠ w.heap.size + 1; omega))
  have X4 : Hid (Ext w (v4.setCell ⟨w.heap.size + 1, 15, none⟩ (.int .i64 (N4 : Int)))) := Below.setCell Xa.out (p := ⟨w.heap.size + 1, 15, none⟩) (by show w.heap.size ≤ w.heap.size + 1; omega) _
  have RB4 : Hid (Rb (v4.setCell ⟨w.heap.size + 1, 15, none⟩ (.int .i64 (N4 : Int))) A4 R4 ∧ R4.length ≤ 100000000 ∧ R4.length ≤ p4 ∧ p4 ≤ 9223372036854775807 ∧ Old w A4 R4) := ⟨(hO4 _ sb4).set r4 _ _ (by show w.heap.size ≤ w.heap.size + 1; omega), Nat.le_trans hL4 RB3.out.2.1, hc4, hd4, hO4 _ sb4⟩
  clear HEa HRa Xa HE3 HR3 X3 RB3 hO4 hL4 k4 r4 hc4 hd4 x4 sb4
  go_wp2_with (first | (refine load_box rfl 27 _ rfl _ rfl _ _ HE4.out _ Try.underlying27 rfl sizeC ?_))
  obtain ⟨w4, hw4⟩ : ∃ W, v4.setCell ⟨w.heap.size + 1, 15, none⟩ (.int .i64 (N4 : Int)) = W := ⟨_, rfl⟩
  rw [hw4] at HE4 HR4 X4 RB4
  rw [hw4]
  clear hw4 eo fo
  have hT : Hid (cmT b = ⟨(N1 : Int), (N2 : Int), E3, 0, 0, (N4 : Int)⟩) := by
    show _ = _
    unfold cmT cmOf
    rw [hN1.out, hR1.out, if_neg (by have := hk9.out; omega), if_pos (by have := hk9.out; omega), hN2.out, if_neg hf9.out, hR2.out, hN3.out, hR3.out, hN4.out]
    try rfl
  rw [hT.out] at hRr c64
  cases hf : plainC ⟨(N1 : Int), (N2 : Int), E3, 0, 0, (N4 : Int)⟩
  · have hRn : R = none := by rw [hRr.out, hf]; rfl
    subst hRn
    refine (rMPutNilN _ _ c64.out hf).mono ?_
    rintro e w8 ⟨A6, c6, rfl, r6, x6, _⟩
    have HR8 := Lib.hid (HR4.out.ext x6); have X8 := Lib.hid (X4.out.trans x6)
    clear hf hRr x6 r6 c64 hT
    go_wp2_with fail
    go_quiet (fail)
    have HR9 := Lib.hid (HR8.out.drewN nq); have X9 := Lib.hid (X8.out.drewN nq)
    clear HR8 X8
    go_wp2_with (first | (refine wpList_store_row (by rfl) 27 _ _ (by rfl) (w.heap.size) (encC cm0).toArray (by rfl) (by rfl) 27 _ HR9.out sizeC rfl (cells_okC cm0) ?_))
    refine bodyPost_ret (results_cm rfl _ _ w.heap.size cm0 (.slice none 0 0) (.int .i64 240) rfl (bx_setRow HR9.out) rfl rfl) rfl ?_
    exact ⟨below_setRow X9.out (Nat.le_refl _) _, rfl⟩
  · refine (rMPutNilY _ _ c64.out hf).mono ?_
    rintro e w8 ⟨A6, c6, rfl, r6, x6, _⟩
    rw [if_pos hf] at hRr
    have HR8 := Lib.hid (HR4.out.ext x6); have X8 := Lib.hid (X4.out.trans x6); have HE8 := Lib.hid (HE4.out.ext x6); have B8 := Lib.hid (h.out.ext X8.out); have R8 := Lib.hid r6
    obtain ⟨cm, hcm⟩ : ∃ cm, (⟨(N1 : Int), (N2 : Int), E3, 0, 0, (N4 : Int)⟩ : Cm) = cm := ⟨_, rfl⟩
    rw [hcm] at hRr HE8 R8
    rw [hcm]
    obtain ⟨M, hM⟩ : ∃ M, encM cm = M := ⟨_, rfl⟩
    rw [hM] at hRr R8
    rw [hM]
    clear x6 r6 c64 hT hf hM hcm
    by_cases hle : M.length ≤ b.length
    · have d1 : decide ((b.length : Int) < (M.length : Int)) = false := decide_eq_false (by omega)
      have d1b : decide (b.length < M.length) = false := decide_eq_false (by omega)
      have hr1 := fun q => run_str (R8.out.drewN q) c6
      obtain ⟨A7, hA7, hs7⟩ := slice_hiS h.out hle hc.out
      have hr2 : ∀ q, (convert 29 9 (.slice A7 M.length c)).run Try.prog (w8.drewN q) = .ok (.string ⟨(b.take M.length).toArray⟩) (w8.drewN q) := fun q => by
        have := run_str (hs7 _ (B8.out.drewN q)) c
        rw [List.length_take, Nat.min_eq_left hle] at this
        exact this
      by_cases hp : b.take M.length = M
      · rw [if_pos hp] at hRr
        rw [hp] at hr2
        obtain ⟨A8, c8, n8, hn8, hc8, hr8, hs8⟩ := slice_loP 29 1 (enc := encB) elemB sizeB (A := A) (O := b) (n := b.length) (c := c) (j := M.length) rfl hle hc.out
        have B9 := hs8 _ B8.out
        obtain ⟨T, hT⟩ : ∃ T, b.drop M.length = T := ⟨_, rfl⟩
        rw [hT] at hRr B9 hn8
        have hT0 : Hid (b = [] → T = []) := fun e => by rw [← hT, e, List.drop_nil]
        have hRs := hRr.out
        subst hRs
        clear hT hRr hs8
        replace hr8 := Lib.hid hr8; replace B9 := Lib.hid B9; replace hn8 := Lib.hid hn8.out; replace hp := Lib.hid hp
        go_wp2_with fail
        go_quiet (fail)
        clear hr1 hr2 hA7 hs7
        go_wp2_with fail
        have HS0 := Lib.hid ((HE8.out.drewN nq).drewN 1); have HR9 := Lib.hid ((HR8.out.drewN nq).drewN 1); have X9 := Lib.hid ((X8.out.drewN nq).drewN 1); have B10 := Lib.hid ((B9.out.drewN nq).drewN 1)
        clear HE8 HR8 X8 B8 B9
        refine held_start (S := fun W => Bx W (w.heap.size + 1) (encC cm) 27) 8 rfl (by kernel_rfl) ?_
        refine held_boxV (i := 0) rfl (by kernel_rfl) (by kernel_rfl) (by kernel_rfl) rfl 27 _ rfl _ rfl (encC cm) 27 (fun w h => h) _ Try.underlying27 rfl sizeC HS0.out _ (by simp [Act.put]; rfl) ?_
        refine held_move (i := 1) rfl (by kernel_rfl) (by kernel_rfl) (by kernel_rfl) _ rfl rfl HS0.out _ (by simp [Act.put]; rfl) ?_
        refine held_move (i := 2) rfl (by kernel_rfl) (by kernel_rfl) (by kernel_rfl) _ rfl rfl HS0.out _ (by simp [Act.put]; rfl) ?_
        refine held_takeV (i := 3) rfl (by kernel_rfl) (by kernel_rfl) (by kernel_rfl) (.int .i64 M.length) rfl (fun w _ => by go_simp) HS0.out _ (by simp [Act.put]; rfl) ?_
        refine held_takeV (i := 4) rfl (by kernel_rfl) (by kernel_rfl) (by kernel_rfl) (.slice A8 n8 c8) rfl (fun w _ => by have := hr8.out w; go_simp) HS0.out _ (by simp [Act.put]; rfl) ?_
        refine held_all (i := 5) rfl (by kernel_rfl) rfl ?_
        refine wp_store_row 27 _ _ rfl w.heap.size (encC cm).toArray (by rfl) (by rfl) 27 (encC cm0).toArray HR9.out sizeC rfl (cells_okC cm) ?_
        have HS1 : Hid (Bx (((w8.drewN nq).drewN 1).setRow w.heap.size (encC cm).toArray) (w.heap.size + 1) (encC cm) 27) := bx_setRow_other HS0.out (by omega) _
        refine ⟨HS1.out, ?_⟩
        refine held_assign (i := 6) rfl (by kernel_rfl) (by kernel_rfl) (by kernel_rfl) _ rfl rfl HS1.out _ (by simp [Act.put]; rfl) ?_
        refine held_assign (i := 7) rfl (by kernel_rfl) (by kernel_rfl) (by kernel_rfl) _ rfl rfl HS1.out _ (by simp [Act.put]; rfl) ?_
        refine held_done (by kernel_rfl) ?_ _
        go_wp2
        refine bodyPost_ret (results_cm rfl _ _ w.heap.size cm (.slice A8 n8 c8) (.int .i64 0) rfl (bx_setRow HR9.out) rfl rfl) rfl ?_
        have hn := hn8.out
        subst hn
        refine ⟨below_setRow X9.out (Nat.le_refl _) _, A8, c8, rfl, ?_, hc8⟩
        by_cases hb0 : b = []
        · rw [hT0.out hb0]; exact Rw.nil
        · exact rw_setRow B10.out _ (fun blk off e => by
            obtain ⟨a, ha, hblk⟩ := hc8.2.2 _ e
            have := Rw.blk h.out hb0 ha
            simp only at hblk
            omega)
      · have d2 : (M == b.take M.length) = false := beq_eq_false_iff_ne.2 (Ne.symm hp)
        have hRn : R = none := by rw [hRr.out, if_neg hp]
        subst hRn
        clear hRr
        go_wp2_with fail
        go_quiet (fail)
        have HR9 := Lib.hid (HR8.out.drewN nq); have X9 := Lib.hid (X8.out.drewN nq)
        clear HR8 X8
        go_wp2_with (first | (refine wpList_store_row (by rfl) 27 _ _ (by rfl) (w.heap.size) (encC cm0).toArray (by rfl) (by rfl) 27 _ HR9.out sizeC rfl (cells_okC cm0) ?_))
        refine bodyPost_ret (results_cm rfl _ _ w.heap.size cm0 (.slice none 0 0) (.int .i64 240) rfl (bx_setRow HR9.out) rfl rfl) rfl ?_
        exact ⟨below_setRow X9.out (Nat.le_refl _) _, rfl⟩
    · have d1 : decide ((b.length : Int) < (M.length : Int)) = true := decide_eq_true (by omega)
      have d1b : decide (b.length < M.length) = true := decide_eq_true (by omega)
      have hRn : R = none := by
        rw [hRr.out, if_neg]
        intro e
        have := congrArg List.length e
        simp at this
        omega
      subst hRn
      clear hRr
      go_wp2_with fail
      go_quiet (fail)
      have HR9 := Lib.hid (HR8.out.drewN nq); have X9 := Lib.hid (X8.out.drewN nq)
      clear HR8 X8
      go_wp2_with (first | (refine wpList_store_row (by rfl) 27 _ _ (by rfl) (w.heap.size) (encC cm0).toArray (by rfl) (by rfl) 27 _ HR9.out sizeC rfl (cells_okC cm0) ?_))
      refine bodyPost_ret (results_cm rfl _ _ w.heap.size cm0 (.slice none 0 0) (.int .i64 240) rfl (bx_setRow HR9.out) rfl rfl) rfl ?_
      exact ⟨below_setRow X9.out (Nat.le_refl _) _, rfl⟩

set_option maxRecDepth 100000 in
set_option maxHeartbeats 4000000 in
theorem rTk3 {w : World} {A : Option Addr} {b : List UInt8} (h : Rb w A b) (hb : b.length ≤ 100000000) (c : Nat) (hc : b.length ≤ c) (hc2 : c ≤ 9223372036854775807) (hk : (numN b : Int) = 3) :
    Calls Try.prog 22 #[.slice A b.length c] w (RetCmP w A c (refT b) 240) := by
  obtain ⟨R, hR⟩ : ∃ R, refT b = R := ⟨_, rfl⟩
  rw [hR]
  have hRr : Hid (R = if plainC (cmT b) = true then if b.take (encM (cmT b)).length = encM (cmT b) then some (cmT b, b.drop (encM (cmT b)).length) else none else none) := hR.symm
  have c64 := Lib.hid (cmT_64 b)
  clear hR
  have HE0 : Hid (Bx ((w.alloc (.cells (encC cm0).toArray 27)).alloc (.cells (encC cm0).toArray 27)) (w.heap.size + 1) (encC cm0) 27) := by
    have := Bx.new (w.alloc (.cells (encC cm0).toArray 27)) (encC cm0) 27
    rw [show (w.alloc (.cells (encC cm0).toArray 27)).heap.size = w.heap.size + 1 from by simp] at this
    exact this
  have HR0 := Lib.hid ((Bx.new w (encC cm0) 27).alloc (.cells (encC cm0).toArray 27))
  have X0 := Lib.hid (((Ext.refl w).alloc (.cells (encC cm0).toArray 27)).alloc (.cells (encC cm0).toArray 27))
  have RB0 : Hid (Rb ((w.alloc (.cells (encC cm0).toArray 27)).alloc (.cells (encC cm0).toArray 27)) A b ∧ b.length ≤ 100000000 ∧ b.length ≤ c ∧ c ≤ 9223372036854775807 ∧ Old w A b) := ⟨h.ext X0.out, hb, hc, hc2, Old.of h⟩
  replace h := Lib.hid h; replace hb := Lib.hid hb; replace hc := Lib.hid hc; replace hc2 := Lib.hid hc2
  go_enter Try.func22, Try.ntmps22
  go_wp2_with fail
  have k1 := rNum RB0.out.1 RB0.out.2.1 c RB0.out.2.2.1 RB0.out.2.2.2.1
  obtain ⟨N1, hN1⟩ : ∃ N, numN b = N := ⟨_, rfl⟩
  have hO1 := fun B s => Old.num (B := B) RB0.out.2.2.2.2 s
  have hL1 := numR_le b
  obtain ⟨R1, hR1⟩ : ∃ R, numR b = R := ⟨_, rfl⟩
  rw [hR1] at k1 hL1
  rw [hN1] at k1
  simp only [hR1] at hO1
  replace k1 := Lib.hid k1; replace hN1 := Lib.hid hN1; replace hR1 := Lib.hid hR1
  refine k1.out.mono ?_
  rintro e1 v1 ⟨A1, p1, rfl, r1, hc1, hd1, x1, sb1⟩
  have HEa := Lib.hid (HE0.out.ext x1); have HRa := Lib.hid (HR0.out.ext x1); have Xa := Lib.hid (X0.out.trans x1)
  have eo := HEa.out.cell 0 _ rfl
  have fo := HEa.out.frozen 0
  have HE1 : Hid (Bx (v1.setCell ⟨w.heap.size + 1, 0, none⟩ (.int .i64 (N1 : Int))) (w.heap.size + 1) (encC ⟨(N1 : Int), 0, ev0, 0, 0, 0⟩) 27) := HEa.out.set_ 0 _
  have HR1 := Lib.hid (bx_setCell_other HRa.out (p := ⟨w.heap.size + 1, 0, none⟩) (.int .i64 (N1 : Int)) (by show w.heap.size ≠ w.heap.size + 1; omega))
  have X1 : Hid (Ext w (v1.setCell ⟨w.heap.size + 1, 0, none⟩ (.int .i64 (N1 : Int)))) := Below.setCell Xa.out (p := ⟨w.heap.size + 1, 0, none⟩) (by show w.heap.size ≤ w.heap.size + 1; omega) _
  have RB1 : Hid (Rb (v1.setCell ⟨w.heap.size + 1, 0, none⟩ (.int .i64 (N1 : Int))) A1 R1 ∧ R1.length ≤ 100000000 ∧ R1.length ≤ p1 ∧ p1 ≤ 9223372036854775807 ∧ Old w A1 R1) := ⟨(hO1 _ sb1).set r1 _ _ (by show w.heap.size ≤ w.heap.size + 1; omega), Nat.le_trans hL1 RB0.out.2.1, hc1, hd1, hO1 _ sb1⟩
  clear HEa HRa Xa HE0 HR0 X0 RB0 hO1 hL1 k1 r1 hc1 hd1 x1 sb1
  have hk9 := Lib.hid (hN1.out ▸ hk)
  have b1 : ((N1 : Int) == 1) = false := by rw [beq_eq_false_iff_ne]; have := hk9.out; omega
  have z1 : (N1 == 1) = false := by rw [beq_eq_false_iff_ne]; have := hk9.out; omega
  have b2 : ((N1 : Int) == 2) = false := by rw [beq_eq_false_iff_ne]; have := hk9.out; omega
  have z2 : (N1 == 2) = false := by rw [beq_eq_false_iff_ne]; have := hk9.out; omega
  have b3 : ((N1 : Int) == 3) = true := by rw [beq_iff_eq]; exact hk9.out
  have z3 : (N1 == 3) = true := by rw [beq_iff_eq]; have := hk9.out; omega
  have b4 : ((N1 : Int) == 4) = false := by rw [beq_eq_false_iff_ne]; have := hk9.out; omega
  have z4 : (N1 == 4) = false := by rw [beq_eq_false_iff_ne]; have := hk9.out; omega
  have b5 : ((N1 : Int) == 5) = false := by rw [beq_eq_false_iff_ne]; have := hk9.out; omega
  have z5 : (N1 == 5) = false := by rw [beq_eq_false_iff_ne]; have := hk9.out; omega
  have b6 : ((N1 : Int) == 6) = false := by rw [beq_eq_false_iff_ne]; have := hk9.out; omega
  have z6 : (N1 == 6) = false := by rw [beq_eq_false_iff_ne]; have := hk9.out; omega
  have b7 : ((N1 : Int) == 7) = false := by rw [beq_eq_false_iff_ne]; have := hk9.out; omega
  have z7 : (N1 == 7) = false := by rw [beq_eq_false_iff_ne]; have := hk9.out; omega
  clear hk
  go_wp2_with fail
  obtain ⟨w1, hw1⟩ : ∃ W, v1.setCell ⟨w.heap.size + 1, 0, none⟩ (.int .i64 (N1 : Int)) = W := ⟨_, rfl⟩
  rw [hw1] at HE1 HR1 X1 RB1
  rw [hw1]
  clear hw1 eo fo
  have k2 := rNum RB1.out.1 RB1.out.2.1 p1 RB1.out.2.2.1 RB1.out.2.2.2.1
  obtain ⟨N2, hN2⟩ : ∃ N, numN R1 = N := ⟨_, rfl⟩
  have hO2 := fun B s => Old.num (B := B) RB1.out.2.2.2.2 s
  have hL2 := numR_le R1
  obtain ⟨R2, hR2⟩ : ∃ R, numR R1 = R := ⟨_, rfl⟩
  rw [hR2] at k2 hL2
  rw [hN2] at k2
  simp only [hR2] at hO2
  replace k2 := Lib.hid k2; replace hN2 := Lib.hid hN2; replace hR2 := Lib.hid hR2
  refine k2.out.mono ?_
  rintro e2 v2 ⟨A2, p2, rfl, r2, hc2, hd2, x2, sb2⟩
  have HEa := Lib.hid (HE1.out.ext x2); have HRa := Lib.hid (HR1.out.ext x2); have Xa := Lib.hid (X1.out.trans x2)
  have eo := HEa.out.cell 13 _ rfl
  have fo := HEa.out.frozen 13
  have HE2 : Hid (Bx (v2.setCell ⟨w.heap.size + 1, 13, none⟩ (.int .i64 (N2 : Int))) (w.heap.size + 1) (encC ⟨(N1 : Int), 0, ev0, (N2 : Int), 0, 0⟩) 27) := HEa.out.set_ 13 _
  have HR2 := Lib.hid (bx_setCell_other HRa.out (p := ⟨w.heap.size + 1, 13, none⟩) (.int .i64 (N2 : Int)) (by show w.heap.size ≠ w.heap.size + 1; omega))
  have X2 : Hid (Ext w (v2.setCell ⟨w.heap.size + 1, 13, none⟩ (.int .i64 (N2 : Int)))) := Below.setCell Xa.out (p := ⟨w.heap.size + 1, 13, none⟩) (by show w.heap.size ≤ w.heap.size + 1; omega) _
  have RB2 : Hid (Rb (v2.setCell ⟨w.heap.size + 1, 13, none⟩ (.int .i64 (N2 : Int))) A2 R2 ∧ R2.length ≤ 100000000 ∧ R2.length ≤ p2 ∧ p2 ≤ 9223372036854775807 ∧ Old w A2 R2) := ⟨(hO2 _ sb2).set r2 _ _ (by show w.heap.size ≤ w.heap.size + 1; omega), Nat.le_trans hL2 RB1.out.2.1, hc2, hd2, hO2 _ sb2⟩
  clear HEa HRa Xa HE1 HR1 X1 RB1 hO2 hL2 k2 r2 hc2 hd2 x2 sb2
  go_wp2_with fail
  obtain ⟨w2, hw2⟩ : ∃ W, v2.setCell ⟨w.heap.size + 1, 13, none⟩ (.int .i64 (N2 : Int)) = W := ⟨_, rfl⟩
  rw [hw2] at HE2 HR2 X2 RB2
  rw [hw2]
  clear hw2 eo fo
  have k3 := rNum RB2.out.1 RB2.out.2.1 p2 RB2.out.2.2.1 RB2.out.2.2.2.1
  obtain ⟨N3, hN3⟩ : ∃ N, numN R2 = N := ⟨_, rfl⟩
  have hO3 := fun B s => Old.num (B := B) RB2.out.2.2.2.2 s
  have hL3 := numR_le R2
  obtain ⟨R3, hR3⟩ : ∃ R, numR R2 = R := ⟨_, rfl⟩
  rw [hR3] at k3 hL3
  rw [hN3] at k3
  simp only [hR3] at hO3
  replace k3 := Lib.hid k3; replace hN3 := Lib.hid hN3; replace hR3 := Lib.hid hR3
  refine k3.out.mono ?_
  rintro e3 v3 ⟨A3, p3, rfl, r3, hc3, hd3, x3, sb3⟩
  have HEa := Lib.hid (HE2.out.ext x3); have HRa := Lib.hid (HR2.out.ext x3); have Xa := Lib.hid (X2.out.trans x3)
  have eo := HEa.out.cell 14 _ rfl
  have fo := HEa.out.frozen 14
  have HE3 : Hid (Bx (v3.setCell ⟨w.heap.size + 1, 14, none⟩ (.int .i64 (N3 : Int))) (w.heap.size + 1) (encC ⟨(N1 : Int), 0, ev0, (N2 : Int), (N3 : Int), 0⟩) 27) := HEa.out.set_ 14 _
  have HR3 := Lib.hid (bx_setCell_other HRa.out (p := ⟨w.heap.size + 1, 14, none⟩) (.int .i64 (N3 : Int)) (by show w.heap.size ≠ w.heap.size + 1; omega))
  have X3 : Hid (Ext w (v3.setCell ⟨w.heap.size + 1, 14, none⟩ (.int .i64 (N3 : Int)))) := Below.setCell Xa.out (p := ⟨w.heap.size + 1, 14, none⟩) (by show w.heap.size ≤ w.heap.size + 1; omega) _
  have RB3 : Hid (Rb (v3.setCell ⟨w.heap.size + 1, 14, none⟩ (.int .i64 (N3 : Int))) A3 R3 ∧ R3.length ≤ 100000000 ∧ R3.length ≤ p3 ∧ p3 ≤ 9223372036854775807 ∧ Old w A3 R3) := ⟨(hO3 _ sb3).set r3 _ _ (by show w.heap.size ≤ w.heap.size + 1; omega), Nat.le_trans hL3 RB2.out.2.1, hc3, hd3, hO3 _ sb3⟩
  clear HEa HRa Xa HE2 HR2 X2 RB2 hO3 hL3 k3 r3 hc3 hd3 x3 sb3
  go_wp2_with fail
  obtain ⟨w3, hw3⟩ : ∃ W, v3.setCell ⟨w.heap.size + 1, 14, none⟩ (.int .i64 (N3 : Int)) = W := ⟨_, rfl⟩
  rw [hw3] at HE3 HR3 X3 RB3
  rw [hw3]
  clear hw3 eo fo
  have k4 := rNum RB3.out.1 RB3.out.2.1 p3 RB3.out.2.2.1 RB3.out.2.2.2.1
  obtain ⟨N4, hN4⟩ : ∃ N, numN R3 = N := ⟨_, rfl⟩
  have hO4 := fun B s => Old.num (B := B) RB3.out.2.2.2.2 s
  have hL4 := numR_le R3
  obtain ⟨R4, hR4⟩ : ∃ R, numR R3 = R := ⟨_, rfl⟩
  rw [hR4] at k4 hL4
  rw [hN4] at k4
  simp only [hR4] at hO4
  replace k4 := Lib.hid k4; replace hN4 := Lib.hid hN4; replace hR4 := Lib.hid hR4
  refine k4.out.mono ?_
  rintro e4 v4 ⟨A4, p4, rfl, r4, hc4, hd4, x4, sb4⟩
  have HEa := Lib.hid (HE3.out.ext x4); have HRa := Lib.hid (HR3.out.ext x4); have Xa := Lib.hid (X3.out.trans x4)
  have eo := HEa.out.cell 15 _ rfl
  have fo := HEa.out.frozen 15
  have HE4 : Hid (Bx (v4.setCell ⟨w.heap.size + 1, 15, none⟩ (.int .i64 (N4 : Int))) (w.heap.size + 1) (encC ⟨(N1 : Int), 0, ev0, (N2 : Int), (N3 : Int), (N4 : Int)⟩) 27) := HEa.out.set_ 15 _
  have HR4 := Lib.hid (bx_setCell_other HRa.out (p := ⟨w.heap.size + 1, 15, none⟩) (.int .i64 (N4 : Int)) (by show w.heap.size ≠ w.heap.size + 1; omega))
  have X4 : Hid (Ext w (v4.setCell ⟨w.heap.size + 1, 15, none⟩ (.int .i64 (N4 : Int)))) := Below.setCell Xa.out (p := ⟨w.heap.size + 1, 15, none⟩) (by show w.heap.size ≤ w.heap.size + 1; omega) _
  have RB4 : Hid (Rb (v4.setCell ⟨w.heap.size + 1, 15, none⟩ (.int .i64 (N4 : Int))) A4 R4 ∧ R4.length ≤ 100000000 ∧ R4.length ≤ p4 ∧ p4 ≤ 9223372036854775807 ∧ Old w A4 R4) := ⟨(hO4 _ sb4).set r4 _ _ (by show w.heap.size ≤ w.heap.size + 1; omega), Nat.le_trans hL4 RB3.out.2.1, hc4, hd4, hO4 _ sb4⟩
  clear HEa HRa Xa HE3 HR3 X3 RB3 hO4 hL4 k4 r4 hc4 hd4 x4 sb4
  go_wp2_with (first | (refine load_box rfl 27 _ rfl _ rfl _ _ HE4.out _ Try.underlying27 rfl sizeC ?_))
  obtain ⟨w4, hw4⟩ : ∃ W, v4.setCell ⟨w.heap.size + 1, 15, none⟩ (.int .i64 (N4 : Int)) = W := ⟨_, rfl⟩
  rw [hw4] at HE4 HR4 X4 RB4
  rw [hw4]
  clear hw4 eo fo
  have hT : Hid (cmT b = ⟨(N1 : Int), 0, ev0, (N2 : Int), (N3 : Int), (N4 : Int)⟩) := by
    show _ = _
    unfold cmT cmOf
    rw [hN1.out, hR1.out, if_neg (by have := hk9.out; omega), if_neg (by have := hk9.out; omega), if_pos (by have := hk9.out; omega), hN2.out, hR2.out, hN3.out, hR3.out, hN4.out]
    try rfl
  rw [hT.out] at hRr c64
  cases hf : plainC ⟨(N1 : Int), 0, ev0, (N2 : Int), (N3 : Int), (N4 : Int)⟩
  · have hRn : R = none := by rw [hRr.out, hf]; rfl
    subst hRn
    refine (rMPutNilN _ _ c64.out hf).mono ?_
    rintro e w8 ⟨A6, c6, rfl, r6, x6, _⟩
    have HR8 := Lib.hid (HR4.out.ext x6); have X8 := Lib.hid (X4.out.trans x6)
    clear hf hRr x6 r6 c64 hT
    go_wp2_with fail
    go_quiet (fail)
    have HR9 := Lib.hid (HR8.out.drewN nq); have X9 := Lib.hid (X8.out.drewN nq)
    clear HR8 X8
    go_wp2_with (first | (refine wpList_store_row (by rfl) 27 _ _ (by rfl) (w.heap.size) (encC cm0).toArray (by rfl) (by rfl) 27 _ HR9.out sizeC rfl (cells_okC cm0) ?_))
    refine bodyPost_ret (results_cm rfl _ _ w.heap.size cm0 (.slice none 0 0) (.int .i64 240) rfl (bx_setRow HR9.out) rfl rfl) rfl ?_
    exact ⟨below_setRow X9.out (Nat.le_refl _) _, rfl⟩
  · refine (rMPutNilY _ _ c64.out hf).mono ?_
    rintro e w8 ⟨A6, c6, rfl, r6, x6, _⟩
    rw [if_pos hf] at hRr
    have HR8 := Lib.hid (HR4.out.ext x6); have X8 := Lib.hid (X4.out.trans x6); have HE8 := Lib.hid (HE4.out.ext x6); have B8 := Lib.hid (h.out.ext X8.out); have R8 := Lib.hid r6
    obtain ⟨cm, hcm⟩ : ∃ cm, (⟨(N1 : Int), 0, ev0, (N2 : Int), (N3 : Int), (N4 : Int)⟩ : Cm) = cm := ⟨_, rfl⟩
    rw [hcm] at hRr HE8 R8
    rw [hcm]
    obtain ⟨M, hM⟩ : ∃ M, encM cm = M := ⟨_, rfl⟩
    rw [hM] at hRr R8
    rw [hM]
    clear x6 r6 c64 hT hf hM hcm
    by_cases hle : M.length ≤ b.length
    · have d1 : decide ((b.length : Int) < (M.length : Int)) = false := decide_eq_false (by omega)
      have d1b : decide (b.length < M.length) = false := decide_eq_false (by omega)
      have hr1 := fun q => run_str (R8.out.drewN q) c6
      obtain ⟨A7, hA7, hs7⟩ := slice_hiS h.out hle hc.out
      have hr2 : ∀ q, (convert 29 9 (.slice A7 M.length c)).run Try.prog (w8.drewN q) = .ok (.string ⟨(b.take M.length).toArray⟩) (w8.drewN q) := fun q => by
        have := run_str (hs7 _ (B8.out.drewN q)) c
        rw [List.length_take, Nat.min_eq_left hle] at this
        exact this
      by_cases hp : b.take M.length = M
      · rw [if_pos hp] at hRr
        rw [hp] at hr2
        obtain ⟨A8, c8, n8, hn8, hc8, hr8, hs8⟩ := slice_loP 29 1 (enc := encB) elemB sizeB (A := A) (O := b) (n := b.length) (c := c) (j := M.length) rfl hle hc.out
        have B9 := hs8 _ B8.out
        obtain ⟨T, hT⟩ : ∃ T, b.drop M.length = T := ⟨_, rfl⟩
        rw [hT] at hRr B9 hn8
        have hT0 : Hid (b = [] → T = []) := fun e => by rw [← hT, e, List.drop_nil]
        have hRs := hRr.out
        subst hRs
        clear hT hRr hs8
        replace hr8 := Lib.hid hr8; replace B9 := Lib.hid B9; replace hn8 := Lib.hid hn8.out; replace hp := Lib.hid hp
        go_wp2_with fail
        go_quiet (fail)
        clear hr1 hr2 hA7 hs7
        go_wp2_with fail
        have HS0 := Lib.hid ((HE8.out.drewN nq).drewN 1); have HR9 := Lib.hid ((HR8.out.drewN nq).drewN 1); have X9 := Lib.hid ((X8.out.drewN nq).drewN 1); have B10 := Lib.hid ((B9.out.drewN nq).drewN 1)
        clear HE8 HR8 X8 B8 B9
        refine held_start (S := fun W => Bx W (w.heap.size + 1) (encC cm) 27) 8 rfl (by kernel_rfl) ?_
        refine held_boxV (i := 0) rfl (by kernel_rfl) (by kernel_rfl) (by kernel_rfl) rfl 27 _ rfl _ rfl (encC cm) 27 (fun w h => h) _ Try.underlying27 rfl sizeC HS0.out _ (by simp [Act.put]; rfl) ?_
        refine held_move (i := 1) rfl (by kernel_rfl) (by kernel_rfl) (by kernel_rfl) _ rfl rfl HS0.out _ (by simp [Act.put]; rfl) ?_
        refine held_move (i := 2) rfl (by kernel_rfl) (by kernel_rfl) (by kernel_rfl) _ rfl rfl HS0.out _ (by simp [Act.put]; rfl) ?_
        refine held_takeV (i := 3) rfl (by kernel_rfl) (by kernel_rfl) (by kernel_rfl) (.int .i64 M.length) rfl (fun w _ => by go_simp) HS0.out _ (by simp [Act.put]; rfl) ?_
        refine held_takeV (i := 4) rfl (by kernel_rfl) (by kernel_rfl) (by kernel_rfl) (.slice A8 n8 c8) rfl (fun w _ => by have := hr8.out w; go_simp) HS0.out _ (by simp [Act.put]; rfl) ?_
        refine held_all (i := 5) rfl (by kernel_rfl) rfl ?_
        refine wp_store_row 27 _ _ rfl w.heap.size (encC cm).toArray (by rfl) (by rfl) 27 (encC cm0).toArray HR9.out sizeC rfl (cells_okC cm) ?_
        have HS1 : Hid (Bx (((w8.drewN nq).drewN 1).setRow w.heap.size (encC cm).toArray) (w.heap.size + 1) (encC cm) 27) := bx_setRow_other HS0.out (by omega) _
        refine ⟨HS1.out, ?_⟩
        refine held_assign (i := 6) rfl (by kernel_rfl) (by kernel_rfl) (by kernel_rfl) _ rfl rfl HS1.out _ (by simp [Act.put]; rfl) ?_
        refine held_assign (i := 7) rfl (by kernel_rfl) (by kernel_rfl) (by kernel_rfl) _ rfl rfl HS1.out _ (by simp [Act.put]; rfl) ?_
        refine held_done (by kernel_rfl) ?_ _
        go_wp2
        refine bodyPost_ret (results_cm rfl _ _ w.heap.size cm (.slice A8 n8 c8) (.int .i64 0) rfl (bx_setRow HR9.out) rfl rfl) rfl ?_
        have hn := hn8.out
        subst hn
        refine ⟨below_setRow X9.out (Nat.le_refl _) _, A8, c8, rfl, ?_, hc8⟩
        by_cases hb0 : b = []
        · rw [hT0.out hb0]; exact Rw.nil
        · exact rw_setRow B10.out _ (fun blk off e => by
            obtain ⟨a, ha, hblk⟩ := hc8.2.2 _ e
            have := Rw.blk h.out hb0 ha
            simp only at hblk
            omega)
      · have d2 : (M == b.take M.length) = false := beq_eq_false_iff_ne.2 (Ne.symm hp)
        have hRn : R = none := by rw [hRr.out, if_neg hp]
        subst hRn
        clear hRr
        go_wp2_with fail
        go_quiet (fail)
        have HR9 := Lib.hid (HR8.out.drewN nq); have X9 := Lib.hid (X8.out.drewN nq)
        clear HR8 X8
        go_wp2_with (first | (refine wpList_store_row (by rfl) 27 _ _ (by rfl) (w.heap.size) (encC cm0).toArray (by rfl) (by rfl) 27 _ HR9.out sizeC rfl (cells_okC cm0) ?_))
        refine bodyPost_ret (results_cm rfl _ _ w.heap.size cm0 (.slice none 0 0) (.int .i64 240) rfl (bx_setRow HR9.out) rfl rfl) rfl ?_
        exact ⟨below_setRow X9.out (Nat.le_refl _) _, rfl⟩
    · have d1 : decide ((b.length : Int) < (M.length : Int)) = true := decide_eq_true (by omega)
      have d1b : decide (b.length < M.length) = true := decide_eq_true (by omega)
      have hRn : R = none := by
        rw [hRr.out, if_neg]
        intro e
        have := congrArg List.length e
        simp at this
        omega
      subst hRn
      clear hRr
      go_wp2_with fail
      go_quiet (fail)
      have HR9 := Lib.hid (HR8.out.drewN nq); have X9 := Lib.hid (X8.out.drewN nq)
      clear HR8 X8
      go_wp2_with (first | (refine wpList_store_row (by rfl) 27 _ _ (by rfl) (w.heap.size) (encC cm0).toArray (by rfl) (by rfl) 27 _ HR9.out sizeC rfl (cells_okC cm0) ?_))
      refine bodyPost_ret (results_cm rfl _ _ w.heap.size cm0 (.slice none 0 0) (.int .i64 240) rfl (bx_setRow HR9.out) rfl rfl) rfl ?_
      exact ⟨below_setRow X9.out (Nat.le_refl _) _, rfl⟩

set_option maxRecDepth 100000 in
set_option maxHeartbeats 4000000 in
theorem rTk4 {w : World} {A : Option Addr} {b : List UInt8} (h : Rb w A b) (hb : b.length ≤ 100000000) (c : Nat) (hc : b.length ≤ c) (hc2 : c ≤ 9223372036854775807) (hk : (numN b : Int) = 4) :
    Calls Try.prog 22 #[.slice A b.length c] w (RetCmP w A c (refT b) 240) := by
  obtain ⟨R, hR⟩ : ∃ R, refT b = R := ⟨_, rfl⟩
  rw [hR]
  have hRr : Hid (R = if plainC (cmT b) = true then if b.take (encM (cmT b)).length = encM (cmT b) then some (cmT b, b.drop (encM (cmT b)).length) else none else none) := hR.symm
  have c64 := Lib.hid (cmT_64 b)
  clear hR
  have HE0 : Hid (Bx ((w.alloc (.cells (encC cm0).toArray 27)).alloc (.cells (encC cm0).toArray 27)) (w.heap.size + 1) (encC cm0) 27) := by
    have := Bx.new (w.alloc (.cells (encC cm0).toArray 27)) (encC cm0) 27
    rw [show (w.alloc (.cells (encC cm0).toArray 27)).heap.size = w.heap.size + 1 from by simp] at this
    exact this
  have HR0 := Lib.hid ((Bx.new w (encC cm0) 27).alloc (.cells (encC cm0).toArray 27))
  have X0 := Lib.hid (((Ext.refl w).alloc (.cells (encC cm0).toArray 27)).alloc (.cells (encC cm0).toArray 27))
  have RB0 : Hid (Rb ((w.alloc (.cells (encC cm0).toArray 27)).alloc (.cells (encC cm0).toArray 27)) A b ∧ b.length ≤ 100000000 ∧ b.length ≤ c ∧ c ≤ 9223372036854775807 ∧ Old w A b) := ⟨h.ext X0.out, hb, hc, hc2, Old.of h⟩
  replace h := Lib.hid h; replace hb := Lib.hid hb; replace hc := Lib.hid hc; replace hc2 := Lib.hid hc2
  go_enter Try.func22, Try.ntmps22
  go_wp2_with fail
  have k1 := rNum RB0.out.1 RB0.out.2.1 c RB0.out.2.2.1 RB0.out.2.2.2.1
  obtain ⟨N1, hN1⟩ : ∃ N, numN b = N := ⟨_, rfl⟩
  have hO1 := fun B s => Old.num (B := B) RB0.out.2.2.2.2 s
  have hL1 := numR_le b
  obtain ⟨R1, hR1⟩ : ∃ R, numR b = R := ⟨_, rfl⟩
  rw [hR1] at k1 hL1
  rw [hN1] at k1
  simp only [hR1] at hO1
  replace k1 := Lib.hid k1; replace hN1 := Lib.hid hN1; replace hR1 := Lib.hid hR1
  refine k1.out.mono ?_
  rintro e1 v1 ⟨A1, p1, rfl, r1, hc1, hd1, x1, sb1⟩
  have HEa := Lib.hid (HE0.out.ext x1); have HRa := Lib.hid (HR0.out.ext x1); have Xa := Lib.hid (X0.out.trans x1)
  have eo := HEa.out.cell 0 _ rfl
  have fo := HEa.out.frozen 0
  have HE1 : Hid (Bx (v1.setCell ⟨w.heap.size + 1, 0, none⟩ (.int .i64 (N1 : Int))) (w.heap.size + 1) (encC ⟨(N1 : Int), 0, ev0, 0, 0, 0⟩) 27) := HEa.out.set_ 0 _
  have HR1 := Lib.hid (bx_setCell_other HRa.out (p := ⟨w.heap.size + 1, 0, none⟩) (.int .i64 (N1 : Int)) (by show w.heap.size ≠ w.heap.size + 1; omega))
  have X1 : Hid (Ext w (v1.setCell ⟨w.heap.size + 1, 0, none⟩ (.int .i64 (N1 : Int)))) := Below.setCell Xa.out (p := ⟨w.heap.size + 1, 0, none⟩) (by show w.heap.size ≤ w.heap.size + 1; omega) _
  have RB1 : Hid (Rb (v1.setCell ⟨w.heap.size + 1, 0, none⟩ (.int .i64 (N1 : Int))) A1 R1 ∧ R1.length ≤ 100000000 ∧ R1.length ≤ p1 ∧ p1 ≤ 9223372036854775807 ∧ Old w A1 R1) := ⟨(hO1 _ sb1).set r1 _ _ (by show w.heap.size ≤ w.heap.size + 1; omega), Nat.le_trans hL1 RB0.out.2.1, hc1, hd1, hO1 _ sb1⟩
  clear HEa HRa Xa HE0 HR0 X0 RB0 hO1 hL1 k1 r1 hc1 hd1 x1 sb1
  have hk9 := Lib.hid (hN1.out ▸ hk)
  have b1 : ((N1 : Int) == 1) = false := by rw [beq_eq_false_iff_ne]; have := hk9.out; omega
  have z1 : (N1 == 1) = false := by rw [beq_eq_false_iff_ne]; have := hk9.out; omega
  have b2 : ((N1 : Int) == 2) = false := by rw [beq_eq_false_iff_ne]; have := hk9.out; omega
  have z2 : (N1 == 2) = false := by rw [beq_eq_false_iff_ne]; have := hk9.out; omega
  have b3 : ((N1 : Int) == 3) = false := by rw [beq_eq_false_iff_ne]; have := hk9.out; omega
  have z3 : (N1 == 3) = false := by rw [beq_eq_false_iff_ne]; have := hk9.out; omega
  have b4 : ((N1 : Int) == 4) = true := by rw [beq_iff_eq]; exact hk9.out
  have z4 : (N1 == 4) = true := by rw [beq_iff_eq]; have := hk9.out; omega
  have b5 : ((N1 : Int) == 5) = false := by rw [beq_eq_false_iff_ne]; have := hk9.out; omega
  have z5 : (N1 == 5) = false := by rw [beq_eq_false_iff_ne]; have := hk9.out; omega
  have b6 : ((N1 : Int) == 6) = false := by rw [beq_eq_false_iff_ne]; have := hk9.out; omega
  have z6 : (N1 == 6) = false := by rw [beq_eq_false_iff_ne]; have := hk9.out; omega
  have b7 : ((N1 : Int) == 7) = false := by rw [beq_eq_false_iff_ne]; have := hk9.out; omega
  have z7 : (N1 == 7) = false := by rw [beq_eq_false_iff_ne]; have := hk9.out; omega
  clear hk
  go_wp2_with fail
  obtain ⟨w1, hw1⟩ : ∃ W, v1.setCell ⟨w.heap.size + 1, 0, none⟩ (.int .i64 (N1 : Int)) = W := ⟨_, rfl⟩
  rw [hw1] at HE1 HR1 X1 RB1
  rw [hw1]
  clear hw1 eo fo
  have k2 := rNum RB1.out.1 RB1.out.2.1 p1 RB1.out.2.2.1 RB1.out.2.2.2.1
  obtain ⟨N2, hN2⟩ : ∃ N, numN R1 = N := ⟨_, rfl⟩
  have hO2 := fun B s => Old.num (B := B) RB1.out.2.2.2.2 s
  have hL2 := numR_le R1
  obtain ⟨R2, hR2⟩ : ∃ R, numR R1 = R := ⟨_, rfl⟩
  rw [hR2] at k2 hL2
  rw [hN2] at k2
  simp only [hR2] at hO2
  replace k2 := Lib.hid k2; replace hN2 := Lib.hid hN2; replace hR2 := Lib.hid hR2
  refine k2.out.mono ?_
  rintro e2 v2 ⟨A2, p2, rfl, r2, hc2, hd2, x2, sb2⟩
  have HEa := Lib.hid (HE1.out.ext x2); have HRa := Lib.hid (HR1.out.ext x2); have Xa := Lib.hid (X1.out.trans x2)
  have eo := HEa.out.cell 13 _ rfl
  have fo := HEa.out.frozen 13
  have HE2 : Hid (Bx (v2.setCell ⟨w.heap.size + 1, 13, none⟩ (.int .i64 (N2 : Int))) (w.heap.size + 1) (encC ⟨(N1 : Int), 0, ev0, (N2 : Int), 0, 0⟩) 27) := HEa.out.set_ 13 _
  have HR2 := Lib.hid (bx_setCell_other HRa.out (p := ⟨w.heap.size + 1, 13, none⟩) (.int .i64 (N2 : Int)) (by show w.heap.size ≠ w.heap.size + 1; omega))
  have X2 : Hid (Ext w (v2.setCell ⟨w.heap.size + 1, 13, none⟩ (.int .i64 (N2 : Int)))) := Below.setCell Xa.out (p := ⟨w.heap.size + 1, 13, none⟩) (by show w.heap.size ≤ w.heap.size + 1; omega) _
  have RB2 : Hid (Rb (v2.setCell ⟨w.heap.size + 1, 13, none⟩ (.int .i64 (N2 : Int))) A2 R2 ∧ R2.length ≤ 100000000 ∧ R2.length ≤ p2 ∧ p2 ≤ 9223372036854775807 ∧ Old w A2 R2) := ⟨(hO2 _ sb2).set r2 _ _ (by show w.heap.size ≤ w.heap.size + 1; omega), Nat.le_trans hL2 RB1.out.2.1, hc2, hd2, hO2 _ sb2⟩
  clear HEa HRa Xa HE1 HR1 X1 RB1 hO2 hL2 k2 r2 hc2 hd2 x2 sb2
  go_wp2_with fail
  obtain ⟨w2, hw2⟩ : ∃ W, v2.setCell ⟨w.heap.size + 1, 13, none⟩ (.int .i64 (N2 : Int)) = W := ⟨_, rfl⟩
  rw [hw2] at HE2 HR2 X2 RB2
  rw [hw2]
  clear hw2 eo fo
  have k3 := rNum RB2.out.1 RB2.out.2.1 p2 RB2.out.2.2.1 RB2.out.2.2.2.1
  obtain ⟨N3, hN3⟩ : ∃ N, numN R2 = N := ⟨_, rfl⟩
  have hO3 := fun B s => Old.num (B := B) RB2.out.2.2.2.2 s
  have hL3 := numR_le R2
  obtain ⟨R3, hR3⟩ : ∃ R, numR R2 = R := ⟨_, rfl⟩
  rw [hR3] at k3 hL3
  rw [hN3] at k3
  simp only [hR3] at hO3
  replace k3 := Lib.hid k3; replace hN3 := Lib.hid hN3; replace hR3 := Lib.hid hR3
  refine k3.out.mono ?_
  rintro e3 v3 ⟨A3, p3, rfl, r3, hc3, hd3, x3, sb3⟩
  have HEa := Lib.hid (HE2.out.ext x3); have HRa := Lib.hid (HR2.out.ext x3); have Xa := Lib.hid (X2.out.trans x3)
  have eo := HEa.out.cell 15 _ rfl
  have fo := HEa.out.frozen 15
  have HE3 : Hid (Bx (v3.setCell ⟨w.heap.size + 1, 15, none⟩ (.int .i64 (N3 : Int))) (w.heap.size + 1) (encC ⟨(N1 : Int), 0, ev0, (N2 : Int), 0, (N3 : Int)⟩) 27) := HEa.out.set_ 15 _
  have HR3 := Lib.hid (bx_setCell_other HRa.out (p := ⟨w.heap.size + 1, 15, none⟩) (.int .i64 (N3 : Int)) (by show w.heap.size ≠ w.heap.size + 1; omega))
  have X3 : Hid (Ext w (v3.setCell ⟨w.heap.size + 1, 15, none⟩ (.int .i64 (N3 : Int)))) := Below.setCell Xa.out (p := ⟨w.heap.size + 1, 15, none⟩) (by show w.heap.size ≤ w.heap.size + 1; omega) _
  have RB3 : Hid (Rb (v3.setCell ⟨w.heap.size + 1, 15, none⟩ (.int .i64 (N3 : Int))) A3 R3 ∧ R3.length ≤ 100000000 ∧ R3.length ≤ p3 ∧ p3 ≤ 9223372036854775807 ∧ Old w A3 R3) := ⟨(hO3 _ sb3).set r3 _ _ (by show w.heap.size ≤ w.heap.size + 1; omega), Nat.le_trans hL3 RB2.out.2.1, hc3, hd3, hO3 _ sb3⟩
  clear HEa HRa Xa HE2 HR2 X2 RB2 hO3 hL3 k3 r3 hc3 hd3 x3 sb3
  go_wp2_with (first | (refine load_box rfl 27 _ rfl _ rfl _ _ HE3.out _ Try.underlying27 rfl sizeC ?_))
  obtain ⟨w3, hw3⟩ : ∃ W, v3.setCell ⟨w.heap.size + 1, 15, none⟩ (.int .i64 (N3 : Int)) = W := ⟨_, rfl⟩
  rw [hw3] at HE3 HR3 X3 RB3
  rw [hw3]
  clear hw3 eo fo
  have hT : Hid (cmT b = ⟨(N1 : Int), 0, ev0, (N2 : Int), 0, (N3 : Int)⟩) := by
    show _ = _
    unfold cmT cmOf
    rw [hN1.out, hR1.out, if_neg (by have := hk9.out; omega), if_neg (by have := hk9.out; omega), if_neg (by have := hk9.out; omega), if_pos (by have := hk9.out; omega), hN2.out, hR2.out, hN3.out]
    try rfl
  rw [hT.out] at hRr c64
  cases hf : plainC ⟨(N1 : Int), 0, ev0, (N2 : Int), 0, (N3 : Int)⟩
  · have hRn : R = none := by rw [hRr.out, hf]; rfl
    subst hRn
    refine (rMPutNilN _ _ c64.out hf).mono ?_
    rintro e w8 ⟨A6, c6, rfl, r6, x6, _⟩
    have HR8 := Lib.hid (HR3.out.ext x6); have X8 := Lib.hid (X3.out.trans x6)
    clear hf hRr x6 r6 c64 hT
    go_wp2_with fail
    go_quiet (fail)
    have HR9 := Lib.hid (HR8.out.drewN nq); have X9 := Lib.hid (X8.out.drewN nq)
    clear HR8 X8
    go_wp2_with (first | (refine wpList_store_row (by rfl) 27 _ _ (by rfl) (w.heap.size) (encC cm0).toArray (by rfl) (by rfl) 27 _ HR9.out sizeC rfl (cells_okC cm0) ?_))
    refine bodyPost_ret (results_cm rfl _ _ w.heap.size cm0 (.slice none 0 0) (.int .i64 240) rfl (bx_setRow HR9.out) rfl rfl) rfl ?_
    exact ⟨below_setRow X9.out (Nat.le_refl _) _, rfl⟩
  · refine (rMPutNilY _ _ c64.out hf).mono ?_
    rintro e w8 ⟨A6, c6, rfl, r6, x6, _⟩
    rw [if_pos hf] at hRr
    have HR8 := Lib.hid (HR3.out.ext x6); have X8 := Lib.hid (X3.out.trans x6); have HE8 := Lib.hid (HE3.out.ext x6); have B8 := Lib.hid (h.out.ext X8.out); have R8 := Lib.hid r6
    obtain ⟨cm, hcm⟩ : ∃ cm, (⟨(N1 : Int), 0, ev0, (N2 : Int), 0, (N3 : Int)⟩ : Cm) = cm := ⟨_, rfl⟩
    rw [hcm] at hRr HE8 R8
    rw [hcm]
    obtain ⟨M, hM⟩ : ∃ M, encM cm = M := ⟨_, rfl⟩
    rw [hM] at hRr R8
    rw [hM]
    clear x6 r6 c64 hT hf hM hcm
    by_cases hle : M.length ≤ b.length
    · have d1 : decide ((b.length : Int) < (M.length : Int)) = false := decide_eq_false (by omega)
      have d1b : decide (b.length < M.length) = false := decide_eq_false (by omega)
      have hr1 := fun q => run_str (R8.out.drewN q) c6
      obtain ⟨A7, hA7, hs7⟩ := slice_hiS h.out hle hc.out
      have hr2 : ∀ q, (convert 29 9 (.slice A7 M.length c)).run Try.prog (w8.drewN q) = .ok (.string ⟨(b.take M.length).toArray⟩) (w8.drewN q) := fun q => by
        have := run_str (hs7 _ (B8.out.drewN q)) c
        rw [List.length_take, Nat.min_eq_left hle] at this
        exact this
      by_cases hp : b.take M.length = M
      · rw [if_pos hp] at hRr
        rw [hp] at hr2
        obtain ⟨A8, c8, n8, hn8, hc8, hr8, hs8⟩ := slice_loP 29 1 (enc := encB) elemB sizeB (A := A) (O := b) (n := b.length) (c := c) (j := M.length) rfl hle hc.out
        have B9 := hs8 _ B8.out
        obtain ⟨T, hT⟩ : ∃ T, b.drop M.length = T := ⟨_, rfl⟩
        rw [hT] at hRr B9 hn8
        have hT0 : Hid (b = [] → T = []) := fun e => by rw [← hT, e, List.drop_nil]
        have hRs := hRr.out
        subst hRs
        clear hT hRr hs8
        replace hr8 := Lib.hid hr8; replace B9 := Lib.hid B9; replace hn8 := Lib.hid hn8.out; replace hp := Lib.hid hp
        go_wp2_with fail
        go_quiet (fail)
        clear hr1 hr2 hA7 hs7
        go_wp2_with fail
        have HS0 := Lib.hid ((HE8.out.drewN nq).drewN 1); have HR9 := Lib.hid ((HR8.out.drewN nq).drewN 1); have X9 := Lib.hid ((X8.out.drewN nq).drewN 1); have B10 := Lib.hid ((B9.out.drewN nq).drewN 1)
        clear HE8 HR8 X8 B8 B9
        refine held_start (S := fun W => Bx W (w.heap.size + 1) (encC cm) 27) 8 rfl (by kernel_rfl) ?_
        refine held_boxV (i := 0) rfl (by kernel_rfl) (by kernel_rfl) (by kernel_rfl) rfl 27 _ rfl _ rfl (encC cm) 27 (fun w h => h) _ Try.underlying27 rfl sizeC HS0.out _ (by simp [Act.put]; rfl) ?_
        refine held_move (i := 1) rfl (by kernel_rfl) (by kernel_rfl) (by kernel_rfl) _ rfl rfl HS0.out _ (by simp [Act.put]; rfl) ?_
        refine held_move (i := 2) rfl (by kernel_rfl) (by kernel_rfl) (by kernel_rfl) _ rfl rfl HS0.out _ (by simp [Act.put]; rfl) ?_
        refine held_takeV (i := 3) rfl (by kernel_rfl) (by kernel_rfl) (by kernel_rfl) (.int .i64 M.length) rfl (fun w _ => by go_simp) HS0.out _ (by simp [Act.put]; rfl) ?_
        refine held_takeV (i := 4) rfl (by kernel_rfl) (by kernel_rfl) (by kernel_rfl) (.slice A8 n8 c8) rfl (fun w _ => by have := hr8.out w; go_simp) HS0.out _ (by simp [Act.put]; rfl) ?_
        refine held_all (i := 5) rfl (by kernel_rfl) rfl ?_
        refine wp_store_row 27 _ _ rfl w.heap.size (encC cm).toArray (by rfl) (by rfl) 27 (encC cm0).toArray HR9.out sizeC rfl (cells_okC cm) ?_
        have HS1 : Hid (Bx (((w8.drewN nq).drewN 1).setRow w.heap.size (encC cm).toArray) (w.heap.size + 1) (encC cm) 27) := bx_setRow_other HS0.out (by omega) _
        refine ⟨HS1.out, ?_⟩
        refine held_assign (i := 6) rfl (by kernel_rfl) (by kernel_rfl) (by kernel_rfl) _ rfl rfl HS1.out _ (by simp [Act.put]; rfl) ?_
        refine held_assign (i := 7) rfl (by kernel_rfl) (by kernel_rfl) (by kernel_rfl) _ rfl rfl HS1.out _ (by simp [Act.put]; rfl) ?_
        refine held_done (by kernel_rfl) ?_ _
        go_wp2
        refine bodyPost_ret (results_cm rfl _ _ w.heap.size cm (.slice A8 n8 c8) (.int .i64 0) rfl (bx_setRow HR9.out) rfl rfl) rfl ?_
        have hn := hn8.out
        subst hn
        refine ⟨below_setRow X9.out (Nat.le_refl _) _, A8, c8, rfl, ?_, hc8⟩
        by_cases hb0 : b = []
        · rw [hT0.out hb0]; exact Rw.nil
        · exact rw_setRow B10.out _ (fun blk off e => by
            obtain ⟨a, ha, hblk⟩ := hc8.2.2 _ e
            have := Rw.blk h.out hb0 ha
            simp only at hblk
            omega)
      · have d2 : (M == b.take M.length) = false := beq_eq_false_iff_ne.2 (Ne.symm hp)
        have hRn : R = none := by rw [hRr.out, if_neg hp]
        subst hRn
        clear hRr
        go_wp2_with fail
        go_quiet (fail)
        have HR9 := Lib.hid (HR8.out.drewN nq); have X9 := Lib.hid (X8.out.drewN nq)
        clear HR8 X8
        go_wp2_with (first | (refine wpList_store_row (by rfl) 27 _ _ (by rfl) (w.heap.size) (encC cm0).toArray (by rfl) (by rfl) 27 _ HR9.out sizeC rfl (cells_okC cm0) ?_))
        refine bodyPost_ret (results_cm rfl _ _ w.heap.size cm0 (.slice none 0 0) (.int .i64 240) rfl (bx_setRow HR9.out) rfl rfl) rfl ?_
        exact ⟨below_setRow X9.out (Nat.le_refl _) _, rfl⟩
    · have d1 : decide ((b.length : Int) < (M.length : Int)) = true := decide_eq_true (by omega)
      have d1b : decide (b.length < M.length) = true := decide_eq_true (by omega)
      have hRn : R = none := by
        rw [hRr.out, if_neg]
        intro e
        have := congrArg List.length e
        simp at this
        omega
      subst hRn
      clear hRr
      go_wp2_with fail
      go_quiet (fail)
      have HR9 := Lib.hid (HR8.out.drewN nq); have X9 := Lib.hid (X8.out.drewN nq)
      clear HR8 X8
      go_wp2_with (first | (refine wpList_store_row (by rfl) 27 _ _ (by rfl) (w.heap.size) (encC cm0).toArray (by rfl) (by rfl) 27 _ HR9.out sizeC rfl (cells_okC cm0) ?_))
      refine bodyPost_ret (results_cm rfl _ _ w.heap.size cm0 (.slice none 0 0) (.int .i64 240) rfl (bx_setRow HR9.out) rfl rfl) rfl ?_
      exact ⟨below_setRow X9.out (Nat.le_refl _) _, rfl⟩

set_option maxRecDepth 100000 in
set_option maxHeartbeats 4000000 in
theorem rTk5 {w : World} {A : Option Addr} {b : List UInt8} (h : Rb w A b) (hb : b.length ≤ 100000000) (c : Nat) (hc : b.length ≤ c) (hc2 : c ≤ 9223372036854775807) (hk : (numN b : Int) = 5) :
    Calls Try.prog 22 #[.slice A b.length c] w (RetCmP w A c (refT b) 240) := by
  obtain ⟨R, hR⟩ : ∃ R, refT b = R := ⟨_, rfl⟩
  rw [hR]
  have hRr : Hid (R = if plainC (cmT b) = true then if b.take (encM (cmT b)).length = encM (cmT b) then some (cmT b, b.drop (encM (cmT b)).length) else none else none) := hR.symm
  have c64 := Lib.hid (cmT_64 b)
  clear hR
  have HE0 : Hid (Bx ((w.alloc (.cells (encC cm0).toArray 27)).alloc (.cells (encC cm0).toArray 27)) (w.heap.size + 1) (encC cm0) 27) := by
    have := Bx.new (w.alloc (.cells (encC cm0).toArray 27)) (encC cm0) 27
    rw [show (w.alloc (.cells (encC cm0).toArray 27)).heap.size = w.heap.size + 1 from by simp] at this
    exact this
  have HR0 := Lib.hid ((Bx.new w (encC cm0) 27).alloc (.cells (encC cm0).toArray 27))
  have X0 := Lib.hid (((Ext.refl w).alloc (.cells (encC cm0).toArray 27)).alloc (.cells (encC cm0).toArray 27))
  have RB0 : Hid (Rb ((w.alloc (.cells (encC cm0).toArray 27)).alloc (.cells (encC cm0).toArray 27)) A b ∧ b.length ≤ 100000000 ∧ b.length ≤ c ∧ c ≤ 9223372036854775807 ∧ Old w A b) := ⟨h.ext X0.out, hb, hc, hc2, Old.of h⟩
  replace h := Lib.hid h; replace hb := Lib.hid hb; replace hc := Lib.hid hc; replace hc2 := Lib.hid hc2
  go_enter Try.func22, Try.ntmps22
  go_wp2_with fail
  have k1 := rNum RB0.out.1 RB0.out.2.1 c RB0.out.2.2.1 RB0.out.2.2.2.1
  obtain ⟨N1, hN1⟩ : ∃ N, numN b = N := ⟨_, rfl⟩
  have hO1 := fun B s => Old.num (B := B) RB0.out.2.2.2.2 s
  have hL1 := numR_le b
  obtain ⟨R1, hR1⟩ : ∃ R, numR b = R := ⟨_, rfl⟩
  rw [hR1] at k1 hL1
  rw [hN1] at k1
  simp only [hR1] at hO1
  replace k1 := Lib.hid k1; replace hN1 := Lib.hid hN1; replace hR1 := Lib.hid hR1
  refine k1.out.mono ?_
  rintro e1 v1 ⟨A1, p1, rfl, r1, hc1, hd1, x1, sb1⟩
  have HEa := Lib.hid (HE0.out.ext x1); have HRa := Lib.hid (HR0.out.ext x1); have Xa := Lib.hid (X0.out.trans x1)
  have eo := HEa.out.cell 0 _ rfl
  have fo := HEa.out.frozen 0
  have HE1 : Hid (Bx (v1.setCell ⟨w.heap.size + 1, 0, none⟩ (.int .i64 (N1 : Int))) (w.heap.size + 1) (encC ⟨(N1 : Int), 0, ev0, 0, 0, 0⟩) 27) := HEa.out.set_ 0 _
  have HR1 := Lib.hid (bx_setCell_other HRa.out (p := ⟨w.heap.size + 1, 0, none⟩) (.int .i64 (N1 : Int)) (by show w.heap.size ≠ w.heap.size + 1; omega))
  have X1 : Hid (Ext w (v1.setCell ⟨w.heap.size + 1, 0, none⟩ (.int .i64 (N1 : Int)))) := Below.setCell Xa.out (p := ⟨w.heap.size + 1, 0, none⟩) (by show w.heap.size ≤ w.heap.size + 1; omega) _
  have RB1 : Hid (Rb (v1.setCell ⟨w.heap.size + 1, 0, none⟩ (.int .i64 (N1 : Int))) A1 R1 ∧ R1.length ≤ 100000000 ∧ R1.length ≤ p1 ∧ p1 ≤ 9223372036854775807 ∧ Old w A1 R1) := ⟨(hO1 _ sb1).set r1 _ _ (by show w.heap.size ≤ w.heap.size + 1; omega), Nat.le_trans hL1 RB0.out.2.1, hc1, hd1, hO1 _ sb1⟩
  clear HEa HRa Xa HE0 HR0 X0 RB0 hO1 hL1 k1 r1 hc1 hd1 x1 sb1
  have hk9 := Lib.hid (hN1.out ▸ hk)
  have b1 : ((N1 : Int) == 1) = false := by rw [beq_eq_false_iff_ne]; have := hk9.out; omega
  have z1 : (N1 == 1) = false := by rw [beq_eq_false_iff_ne]; have := hk9.out; omega
  have b2 : ((N1 : Int) == 2) = false := by rw [beq_eq_false_iff_ne]; have := hk9.out; omega
  have z2 : (N1 == 2) = false := by rw [beq_eq_false_iff_ne]; have := hk9.out; omega
  have b3 : ((N1 : Int) == 3) = false := by rw [beq_eq_false_iff_ne]; have := hk9.out; omega
  have z3 : (N1 == 3) = false := by rw [beq_eq_false_iff_ne]; have := hk9.out; omega
  have b4 : ((N1 : Int) == 4) = false := by rw [beq_eq_false_iff_ne]; have := hk9.out; omega
  have z4 : (N1 == 4) = false := by rw [beq_eq_false_iff_ne]; have := hk9.out; omega
  have b5 : ((N1 : Int) == 5) = true := by rw [beq_iff_eq]; exact hk9.out
  have z5 : (N1 == 5) = true := by rw [beq_iff_eq]; have := hk9.out; omega
  have b6 : ((N1 : Int) == 6) = false := by rw [beq_eq_false_iff_ne]; have := hk9.out; omega
  have z6 : (N1 == 6) = false := by rw [beq_eq_false_iff_ne]; have := hk9.out; omega
  have b7 : ((N1 : Int) == 7) = false := by rw [beq_eq_false_iff_ne]; have := hk9.out; omega
  have z7 : (N1 == 7) = false := by rw [beq_eq_false_iff_ne]; have := hk9.out; omega
  clear hk
  go_wp2_with fail
  obtain ⟨w1, hw1⟩ : ∃ W, v1.setCell ⟨w.heap.size + 1, 0, none⟩ (.int .i64 (N1 : Int)) = W := ⟨_, rfl⟩
  rw [hw1] at HE1 HR1 X1 RB1
  rw [hw1]
  clear hw1 eo fo
  have k2 := rNum RB1.out.1 RB1.out.2.1 p1 RB1.out.2.2.1 RB1.out.2.2.2.1
  obtain ⟨N2, hN2⟩ : ∃ N, numN R1 = N := ⟨_, rfl⟩
  have hO2 := fun B s => Old.num (B := B) RB1.out.2.2.2.2 s
  have hL2 := numR_le R1
  obtain ⟨R2, hR2⟩ : ∃ R, numR R1 = R := ⟨_, rfl⟩
  rw [hR2] at k2 hL2
  rw [hN2] at k2
  simp only [hR2] at hO2
  replace k2 := Lib.hid k2; replace hN2 := Lib.hid hN2; replace hR2 := Lib.hid hR2
  refine k2.out.mono ?_
  rintro e2 v2 ⟨A2, p2, rfl, r2, hc2, hd2, x2, sb2⟩
  have HEa := Lib.hid (HE1.out.ext x2); have HRa := Lib.hid (HR1.out.ext x2); have Xa := Lib.hid (X1.out.trans x2)
  have eo := HEa.out.cell 14 _ rfl
  have fo := HEa.out.frozen 14
  have HE2 : Hid (Bx (v2.setCell ⟨w.heap.size + 1, 14, none⟩ (.int .i64 (N2 : Int))) (w.heap.size + 1) (encC ⟨(N1 : Int), 0, ev0, 0, (N2 : Int), 0⟩) 27) := HEa.out.set_ 14 _
  have HR2 := Lib.hid (bx_setCell_other HRa.out (p := ⟨w.heap.size + 1, 14, none⟩) (.int .i64 (N2 : Int)) (by show w.heap.size ≠ w.heap.size + 1; omega))
  have X2 : Hid (Ext w (v2.setCell ⟨w.heap.size + 1, 14, none⟩ (.int .i64 (N2 : Int)))) := Below.setCell Xa.out (p := ⟨w.heap.size + 1, 14, none⟩) (by show w.heap.size ≤ w.heap.size + 1; omega) _
  have RB2 : Hid (Rb (v2.setCell ⟨w.heap.size + 1, 14, none⟩ (.int .i64 (N2 : Int))) A2 R2 ∧ R2.length ≤ 100000000 ∧ R2.length ≤ p2 ∧ p2 ≤ 9223372036854775807 ∧ Old w A2 R2) := ⟨(hO2 _ sb2).set r2 _ _ (by show w.heap.size ≤ w.heap.size + 1; omega), Nat.le_trans hL2 RB1.out.2.1, hc2, hd2, hO2 _ sb2⟩
  clear HEa HRa Xa HE1 HR1 X1 RB1 hO2 hL2 k2 r2 hc2 hd2 x2 sb2
  go_wp2_with fail
  obtain ⟨w2, hw2⟩ : ∃ W, v2.setCell ⟨w.heap.size + 1, 14, none⟩ (.int .i64 (N2 : Int)) = W := ⟨_, rfl⟩
  rw [hw2] at HE2 HR2 X2 RB2
  rw [hw2]
  clear hw2 eo fo
  have k3 := rNum RB2.out.1 RB2.out.2.1 p2 RB2.out.2.2.1 RB2.out.2.2.2.1
  obtain ⟨N3, hN3⟩ : ∃ N, numN R2 = N := ⟨_, rfl⟩
  have hO3 := fun B s => Old.num (B := B) RB2.out.2.2.2.2 s
  have hL3 := numR_le R2
  obtain ⟨R3, hR3⟩ : ∃ R, numR R2 = R := ⟨_, rfl⟩
  rw [hR3] at k3 hL3
  rw [hN3] at k3
  simp only [hR3] at hO3
  replace k3 := Lib.hid k3; replace hN3 := Lib.hid hN3; replace hR3 := Lib.hid hR3
  refine k3.out.mono ?_
  rintro e3 v3 ⟨A3, p3, rfl, r3, hc3, hd3, x3, sb3⟩
  have HEa := Lib.hid (HE2.out.ext x3); have HRa := Lib.hid (HR2.out.ext x3); have Xa := Lib.hid (X2.out.trans x3)
  have eo := HEa.out.cell 15 _ rfl
  have fo := HEa.out.frozen 15
  have HE3 : Hid (Bx (v3.setCell ⟨w.heap.size + 1, 15, none⟩ (.int .i64 (N3 : Int))) (w.heap.size + 1) (encC ⟨(N1 : Int), 0, ev0, 0, (N2 : Int), (N3 : Int)⟩) 27) := HEa.out.set_ 15 _
  have HR3 := Lib.hid (bx_setCell_other HRa.out (p := ⟨w.heap.size + 1, 15, none⟩) (.int .i64 (N3 : Int)) (by show w.heap.size ≠ w.heap.size + 1; omega))
  have X3 : Hid (Ext w (v3.setCell ⟨w.heap.size + 1, 15, none⟩ (.int .i64 (N3 : Int)))) := Below.setCell Xa.out (p := ⟨w.heap.size + 1, 15, none⟩) (by show w.heap.size ≤ w.heap.size + 1; omega) _
  have RB3 : Hid (Rb (v3.setCell ⟨w.heap.size + 1, 15, none⟩ (.int .i64 (N3 : Int))) A3 R3 ∧ R3.length ≤ 100000000 ∧ R3.length ≤ p3 ∧ p3 ≤ 9223372036854775807 ∧ Old w A3 R3) := ⟨(hO3 _ sb3).set r3 _ _ (by show w.heap.size ≤ w.heap.size + 1; omega), Nat.le_trans hL3 RB2.out.2.1, hc3, hd3, hO3 _ sb3⟩
  clear HEa HRa Xa HE2 HR2 X2 RB2 hO3 hL3 k3 r3 hc3 hd3 x3 sb3
  go_wp2_with (first | (refine load_box rfl 27 _ rfl _ rfl _ _ HE3.out _ Try.underlying27 rfl sizeC ?_))
  obtain ⟨w3, hw3⟩ : ∃ W, v3.setCell ⟨w.heap.size + 1, 15, none⟩ (.int .i64 (N3 : Int)) = W := ⟨_, rfl⟩
  rw [hw3] at HE3 HR3 X3 RB3
  rw [hw3]
  clear hw3 eo fo
  have hT : Hid (cmT b = ⟨(N1 : Int), 0, ev0, 0, (N2 : Int), (N3 : Int)⟩) := by
    show _ = _
    unfold cmT cmOf
    rw [hN1.out, hR1.out, if_neg (by have := hk9.out; omega), if_neg (by have := hk9.out; omega), if_neg (by have := hk9.out; omega), if_neg (by have := hk9.out; omega), if_pos (by have := hk9.out; omega), hN2.out, hR2.out, hN3.out]
    try rfl
  rw [hT.out] at hRr c64
  cases hf : plainC ⟨(N1 : Int), 0, ev0, 0, (N2 : Int), (N3 : Int)⟩
  · have hRn : R = none := by rw [hRr.out, hf]; rfl
    subst hRn
    refine (rMPutNilN _ _ c64.out hf).mono ?_
    rintro e w8 ⟨A6, c6, rfl, r6, x6, _⟩
    have HR8 := Lib.hid (HR3.out.ext x6); have X8 := Lib.hid (X3.out.trans x6)
    clear hf hRr x6 r6 c64 hT
    go_wp2_with fail
    go_quiet (fail)
    have HR9 := Lib.hid (HR8.out.drewN nq); have X9 := Lib.hid (X8.out.drewN nq)
    clear HR8 X8
    go_wp2_with (first | (refine wpList_store_row (by rfl) 27 _ _ (by rfl) (w.heap.size) (encC cm0).toArray (by rfl) (by rfl) 27 _ HR9.out sizeC rfl (cells_okC cm0) ?_))
    refine bodyPost_ret (results_cm rfl _ _ w.heap.size cm0 (.slice none 0 0) (.int .i64 240) rfl (bx_setRow HR9.out) rfl rfl) rfl ?_
    exact ⟨below_setRow X9.out (Nat.le_refl _) _, rfl⟩
  · refine (rMPutNilY _ _ c64.out hf).mono ?_
    rintro e w8 ⟨A6, c6, rfl, r6, x6, _⟩
    rw [if_pos hf] at hRr
    have HR8 := Lib.hid (HR3.out.ext x6); have X8 := Lib.hid (X3.out.trans x6); have HE8 := Lib.hid (HE3.out.ext x6); have B8 := Lib.hid (h.out.ext X8.out); have R8 := Lib.hid r6
    obtain ⟨cm, hcm⟩ : ∃ cm, (⟨(N1 : Int), 0, ev0, 0, (N2 : Int), (N3 : Int)⟩ : Cm) = cm := ⟨_, rfl⟩
    rw [hcm] at hRr HE8 R8
    rw [hcm]
    obtain ⟨M, hM⟩ : ∃ M, encM cm = M := ⟨_, rfl⟩
    rw [hM] at hRr R8
    rw [hM]
    clear x6 r6 c64 hT hf hM hcm
    by_cases hle : M.length ≤ b.length
    · have d1 : decide ((b.length : Int) < (M.length : Int)) = false := decide_eq_false (by omega)
      have d1b : decide (b.length < M.length) = false := decide_eq_false (by omega)
      have hr1 := fun q => run_str (R8.out.drewN q) c6
      obtain ⟨A7, hA7, hs7⟩ := slice_hiS h.out hle hc.out
      have hr2 : ∀ q, (convert 29 9 (.slice A7 M.length c)).run Try.prog (w8.drewN q) = .ok (.string ⟨(b.take M.length).toArray⟩) (w8.drewN q) := fun q => by
        have := run_str (hs7 _ (B8.out.drewN q)) c
        rw [List.length_take, Nat.min_eq_left hle] at this
        exact this
      by_cases hp : b.take M.length = M
      · rw [if_pos hp] at hRr
        rw [hp] at hr2
        obtain ⟨A8, c8, n8, hn8, hc8, hr8, hs8⟩ := slice_loP 29 1 (enc := encB) elemB sizeB (A := A) (O := b) (n := b.length) (c := c) (j := M.length) rfl hle hc.out
        have B9 := hs8 _ B8.out
        obtain ⟨T, hT⟩ : ∃ T, b.drop M.length = T := ⟨_, rfl⟩
        rw [hT] at hRr B9 hn8
        have hT0 : Hid (b = [] → T = []) := fun e => by rw [← hT, e, List.drop_nil]
        have hRs := hRr.out
        subst hRs
        clear hT hRr hs8
        replace hr8 := Lib.hid hr8; replace B9 := Lib.hid B9; replace hn8 := Lib.hid hn8.out; replace hp := Lib.hid hp
        go_wp2_with fail
        go_quiet (fail)
        clear hr1 hr2 hA7 hs7
        go_wp2_with fail
        have HS0 := Lib.hid ((HE8.out.drewN nq).drewN 1); have HR9 := Lib.hid ((HR8.out.drewN nq).drewN 1); have X9 := Lib.hid ((X8.out.drewN nq).drewN 1); have B10 := Lib.hid ((B9.out.drewN nq).drewN 1)
        clear HE8 HR8 X8 B8 B9
        refine held_start (S := fun W => Bx W (w.heap.size + 1) (encC cm) 27) 8 rfl (by kernel_rfl) ?_
        refine held_boxV (i := 0) rfl (by kernel_rfl) (by kernel_rfl) (by kernel_rfl) rfl 27 _ rfl _ rfl (encC cm) 27 (fun w h => h) _ Try.underlying27 rfl sizeC HS0.out _ (by simp [Act.put]; rfl) ?_
        refine held_move (i := 1) rfl (by kernel_rfl) (by kernel_rfl) (by kernel_rfl) _ rfl rfl HS0.out _ (by simp [Act.put]; rfl) ?_
        refine held_move (i := 2) rfl (by kernel_rfl) (by kernel_rfl) (by kernel_rfl) _ rfl rfl HS0.out _ (by simp [Act.put]; rfl) ?_
        refine held_takeV (i := 3) rfl (by kernel_rfl) (by kernel_rfl) (by kernel_rfl) (.int .i64 M.length) rfl (fun w _ => by go_simp) HS0.out _ (by simp [Act.put]; rfl) ?_
        refine held_takeV (i := 4) rfl (by kernel_rfl) (by kernel_rfl) (by kernel_rfl) (.slice A8 n8 c8) rfl (fun w _ => by have := hr8.out w; go_simp) HS0.out _ (by simp [Act.put]; rfl) ?_
        refine held_all (i := 5) rfl (by kernel_rfl) rfl ?_
        refine wp_store_row 27 _ _ rfl w.heap.size (encC cm).toArray (by rfl) (by rfl) 27 (encC cm0).toArray HR9.out sizeC rfl (cells_okC cm) ?_
        have HS1 : Hid (Bx (((w8.drewN nq).drewN 1).setRow w.heap.size (encC cm).toArray) (w.heap.size + 1) (encC cm) 27) := bx_setRow_other HS0.out (by omega) _
        refine ⟨HS1.out, ?_⟩
        refine held_assign (i := 6) rfl (by kernel_rfl) (by kernel_rfl) (by kernel_rfl) _ rfl rfl HS1.out _ (by simp [Act.put]; rfl) ?_
        refine held_assign (i := 7) rfl (by kernel_rfl) (by kernel_rfl) (by kernel_rfl) _ rfl rfl HS1.out _ (by simp [Act.put]; rfl) ?_
        refine held_done (by kernel_rfl) ?_ _
        go_wp2
        refine bodyPost_ret (results_cm rfl _ _ w.heap.size cm (.slice A8 n8 c8) (.int .i64 0) rfl (bx_setRow HR9.out) rfl rfl) rfl ?_
        have hn := hn8.out
        subst hn
        refine ⟨below_setRow X9.out (Nat.le_refl _) _, A8, c8, rfl, ?_, hc8⟩
        by_cases hb0 : b = []
        · rw [hT0.out hb0]; exact Rw.nil
        · exact rw_setRow B10.out _ (fun blk off e => by
            obtain ⟨a, ha, hblk⟩ := hc8.2.2 _ e
            have := Rw.blk h.out hb0 ha
            simp only at hblk
            omega)
      · have d2 : (M == b.take M.length) = false := beq_eq_false_iff_ne.2 (Ne.symm hp)
        have hRn : R = none := by rw [hRr.out, if_neg hp]
        subst hRn
        clear hRr
        go_wp2_with fail
        go_quiet (fail)
        have HR9 := Lib.hid (HR8.out.drewN nq); have X9 := Lib.hid (X8.out.drewN nq)
        clear HR8 X8
        go_wp2_with (first | (refine wpList_store_row (by rfl) 27 _ _ (by rfl) (w.heap.size) (encC cm0).toArray (by rfl) (by rfl) 27 _ HR9.out sizeC rfl (cells_okC cm0) ?_))
        refine bodyPost_ret (results_cm rfl _ _ w.heap.size cm0 (.slice none 0 0) (.int .i64 240) rfl (bx_setRow HR9.out) rfl rfl) rfl ?_
        exact ⟨below_setRow X9.out (Nat.le_refl _) _, rfl⟩
    · have d1 : decide ((b.length : Int) < (M.length : Int)) = true := decide_eq_true (by omega)
      have d1b : decide (b.length < M.length) = true := decide_eq_true (by omega)
      have hRn : R = none := by
        rw [hRr.out, if_neg]
        intro e
        have := congrArg List.length e
        simp at this
        omega
      subst hRn
      clear hRr
      go_wp2_with fail
      go_quiet (fail)
      have HR9 := Lib.hid (HR8.out.drewN nq); have X9 := Lib.hid (X8.out.drewN nq)
      clear HR8 X8
      go_wp2_with (first | (refine wpList_store_row (by rfl) 27 _ _ (by rfl) (w.heap.size) (encC cm0).toArray (by rfl) (by rfl) 27 _ HR9.out sizeC rfl (cells_okC cm0) ?_))
      refine bodyPost_ret (results_cm rfl _ _ w.heap.size cm0 (.slice none 0 0) (.int .i64 240) rfl (bx_setRow HR9.out) rfl rfl) rfl ?_
      exact ⟨below_setRow X9.out (Nat.le_refl _) _, rfl⟩

set_option maxRecDepth 100000 in
set_option maxHeartbeats 4000000 in
theorem rTk6 {w : World} {A : Option Addr} {b : List UInt8} (h : Rb w A b) (hb : b.length ≤ 100000000) (c : Nat) (hc : b.length ≤ c) (hc2 : c ≤ 9223372036854775807) (hk : (numN b : Int) = 6) :
    Calls Try.prog 22 #[.slice A b.length c] w (RetCmP w A c (refT b) 240) := by
  obtain ⟨R, hR⟩ : ∃ R, refT b = R := ⟨_, rfl⟩
  rw [hR]
  have hRr : Hid (R = if plainC (cmT b) = true then if b.take (encM (cmT b)).length = encM (cmT b) then some (cmT b, b.drop (encM (cmT b)).length) else none else none) := hR.symm
  have c64 := Lib.hid (cmT_64 b)
  clear hR
  have HE0 : Hid (Bx ((w.alloc (.cells (encC cm0).toArray 27)).alloc (.cells (encC cm0).toArray 27)) (w.heap.size + 1) (encC cm0) 27) := by
    have := Bx.new (w.alloc (.cells (encC cm0).toArray 27)) (encC cm0) 27
    rw [show (w.alloc (.cells (encC cm0).toArray 27)).heap.size = w.heap.size + 1 from by simp] at this
    exact this
  have HR0 := Lib.hid ((Bx.new w (encC cm0) 27).alloc (.cells (encC cm0).toArray 27))
  have X0 := Lib.hid (((Ext.refl w).alloc (.cells (encC cm0).toArray 27)).alloc (.cells (encC cm0).toArray 27))
  have RB0 : Hid (Rb ((w.alloc (.cells (encC cm0).toArray 27)).alloc (.cells (encC cm0).toArray 27)) A b ∧ b.length ≤ 100000000 ∧ b.length ≤ c ∧ c ≤ 9223372036854775807 ∧ Old w A b) := ⟨h.ext X0.out, hb, hc, hc2, Old.of h⟩
  replace h := Lib.hid h; replace hb := Lib.hid hb; replace hc := Lib.hid hc; replace hc2 := Lib.hid hc2
  go_enter Try.func22, Try.ntmps22
  go_wp2_with fail
  have k1 := rNum RB0.out.1 RB0.out.2.1 c RB0.out.2.2.1 RB0.out.2.2.2.1
  obtain ⟨N1, hN1⟩ : ∃ N, numN b = N := ⟨_, rfl⟩
  have hO1 := fun B s => Old.num (B := B) RB0.out.2.2.2.2 s
  have hL1 := numR_le b
  obtain ⟨R1, hR1⟩ : ∃ R, numR b = R := ⟨_, rfl⟩
  rw [hR1] at k1 hL1
  rw [hN1] at k1
  simp only [hR1] at hO1
  replace k1 := Lib.hid k1; replace hN1 := Lib.hid hN1; replace hR1 := Lib.hid hR1
  refine k1.out.mono ?_
  rintro e1 v1 ⟨A1, p1, rfl, r1, hc1, hd1, x1, sb1⟩
  have HEa := Lib.hid (HE0.out.ext x1); have HRa := Lib.hid (HR0.out.ext x1); have Xa := Lib.hid (X0.out.trans x1)
  have eo := HEa.out.cell 0 _ rfl
  have fo := HEa.out.frozen 0
  have HE1 : Hid (Bx (v1.setCell ⟨w.heap.size + 1, 0, none⟩ (.int .i64 (N1 : Int))) (w.heap.size + 1) (encC ⟨(N1 : Int), 0, ev0, 0, 0, 0⟩) 27) := HEa.out.set_ 0 _
  have HR1 := Lib.hid (bx_setCell_other HRa.out (p := ⟨w.heap.size + 1, 0, none⟩) (.int .i64 (N1 : Int)) (by show w.heap.size ≠ w.heap.size + 1; omega))
  have X1 : Hid (Ext w (v1.setCell ⟨w.heap.size + 1, 0, none⟩ (.int .i64 (N1 : Int)))) := Below.setCell Xa.out (p := ⟨w.heap.size + 1, 0, none⟩) (by show w.heap.size ≤ w.heap.size + 1; omega) _
  have RB1 : Hid (Rb (v1.setCell ⟨w.heap.size + 1, 0, none⟩ (.int .i64 (N1 : Int))) A1 R1 ∧ R1.length ≤ 100000000 ∧ R1.length ≤ p1 ∧ p1 ≤ 9223372036854775807 ∧ Old w A1 R1) := ⟨(hO1 _ sb1).set r1 _ _ (by show w.heap.size ≤ w.heap.size + 1; omega), Nat.le_trans hL1 RB0.out.2.1, hc1, hd1, hO1 _ sb1⟩
  clear HEa HRa Xa HE0 HR0 X0 RB0 hO1 hL1 k1 r1 hc1 hd1 x1 sb1
  have hk9 := Lib.hid (hN1.out ▸ hk)
  have b1 : ((N1 : Int) == 1) = false := by rw [beq_eq_false_iff_ne]; have := hk9.out; omega
  have z1 : (N1 == 1) = false := by rw [beq_eq_false_iff_ne]; have := hk9.out; omega
  have b2 : ((N1 : Int) == 2) = false := by rw [beq_eq_false_iff_ne]; have := hk9.out; omega
  have z2 : (N1 == 2) = false := by rw [beq_eq_false_iff_ne]; have := hk9.out; omega
  have b3 : ((N1 : Int) == 3) = false := by rw [beq_eq_false_iff_ne]; have := hk9.out; omega
  have z3 : (N1 == 3) = false := by rw [beq_eq_false_iff_ne]; have := hk9.out; omega
  have b4 : ((N1 : Int) == 4) = false := by rw [beq_eq_false_iff_ne]; have := hk9.out; omega
  have z4 : (N1 == 4) = false := by rw [beq_eq_false_iff_ne]; have := hk9.out; omega
  have b5 : ((N1 : Int) == 5) = false := by rw [beq_eq_false_iff_ne]; have := hk9.out; omega
  have z5 : (N1 == 5) = false := by rw [beq_eq_false_iff_ne]; have := hk9.out; omega
  have b6 : ((N1 : Int) == 6) = true := by rw [beq_iff_eq]; exact hk9.out
  have z6 : (N1 == 6) = true := by rw [beq_iff_eq]; have := hk9.out; omega
  have b7 : ((N1 : Int) == 7) = false := by rw [beq_eq_false_iff_ne]; have := hk9.out; omega
  have z7 : (N1 == 7) = false := by rw [beq_eq_false_iff_ne]; have := hk9.out; omega
  clear hk
  go_wp2_with fail
  obtain ⟨w1, hw1⟩ : ∃ W, v1.setCell ⟨w.heap.size + 1, 0, none⟩ (.int .i64 (N1 : Int)) = W := ⟨_, rfl⟩
  rw [hw1] at HE1 HR1 X1 RB1
  rw [hw1]
  clear hw1 eo fo
  have k2 := rNum RB1.out.1 RB1.out.2.1 p1 RB1.out.2.2.1 RB1.out.2.2.2.1
  obtain ⟨N2, hN2⟩ : ∃ N, numN R1 = N := ⟨_, rfl⟩
  have hO2 := fun B s => Old.num (B := B) RB1.out.2.2.2.2 s
  have hL2 := numR_le R1
  obtain ⟨R2, hR2⟩ : ∃ R, numR R1 = R := ⟨_, rfl⟩
  rw [hR2] at k2 hL2
  rw [hN2] at k2
  simp only [hR2] at hO2
  replace k2 := Lib.hid k2; replace hN2 := Lib.hid hN2; replace hR2 := Lib.hid hR2
  refine k2.out.mono ?_
  rintro e2 v2 ⟨A2, p2, rfl, r2, hc2, hd2, x2, sb2⟩
  have HEa := Lib.hid (HE1.out.ext x2); have HRa := Lib.hid (HR1.out.ext x2); have Xa := Lib.hid (X1.out.trans x2)
  have eo := HEa.out.cell 14 _ rfl
  have fo := HEa.out.frozen 14
  have HE2 : Hid (Bx (v2.setCell ⟨w.heap.size + 1, 14, none⟩ (.int .i64 (N2 : Int))) (w.heap.size + 1) (encC ⟨(N1 : Int), 0, ev0, 0, (N2 : Int), 0⟩) 27) := HEa.out.set_ 14 _
  have HR2 := Lib.hid (bx_setCell_other HRa.out (p := ⟨w.heap.size + 1, 14, none⟩) (.int .i64 (N2 : Int)) (by show w.heap.size ≠ w.heap.size + 1; omega))
  have X2 : Hid (Ext w (v2.setCell ⟨w.heap.size + 1, 14, none⟩ (.int .i64 (N2 : Int)))) := Below.setCell Xa.out (p := ⟨w.heap.size + 1, 14, none⟩) (by show w.heap.size ≤ w.heap.size + 1; omega) _
  have RB2 : Hid (Rb (v2.setCell ⟨w.heap.size + 1, 14, none⟩ (.int .i64 (N2 : Int))) A2 R2 ∧ R2.length ≤ 100000000 ∧ R2.length ≤ p2 ∧ p2 ≤ 9223372036854775807 ∧ Old w A2 R2) := ⟨(hO2 _ sb2).set r2 _ _ (by show w.heap.size ≤ w.heap.size + 1; omega), Nat.le_trans hL2 RB1.out.2.1, hc2, hd2, hO2 _ sb2⟩
  clear HEa HRa Xa HE1 HR1 X1 RB1 hO2 hL2 k2 r2 hc2 hd2 x2 sb2
  go_wp2_with fail
  obtain ⟨w2, hw2⟩ : ∃ W, v2.setCell ⟨w.heap.size + 1, 14, none⟩ (.int .i64 (N2 : Int)) = W := ⟨_, rfl⟩
  rw [hw2] at HE2 HR2 X2 RB2
  rw [hw2]
  clear hw2 eo fo
  have k3 := rNum RB2.out.1 RB2.out.2.1 p2 RB2.out.2.2.1 RB2.out.2.2.2.1
  obtain ⟨N3, hN3⟩ : ∃ N, numN R2 = N := ⟨_, rfl⟩
  have hO3 := fun B s => Old.num (B := B) RB2.out.2.2.2.2 s
  have hL3 := numR_le R2
  obtain ⟨R3, hR3⟩ : ∃ R, numR R2 = R := ⟨_, rfl⟩
  rw [hR3] at k3 hL3
  rw [hN3] at k3
  simp only [hR3] at hO3
  replace k3 := Lib.hid k3; replace hN3 := Lib.hid hN3; replace hR3 := Lib.hid hR3
  refine k3.out.mono ?_
  rintro e3 v3 ⟨A3, p3, rfl, r3, hc3, hd3, x3, sb3⟩
  have HEa := Lib.hid (HE2.out.ext x3); have HRa := Lib.hid (HR2.out.ext x3); have Xa := Lib.hid (X2.out.trans x3)
  have eo := HEa.out.cell 15 _ rfl
  have fo := HEa.out.frozen 15
  have HE3 : Hid (Bx (v3.setCell ⟨w.heap.size + 1, 15, none⟩ (.int .i64 (N3 : Int))) (w.heap.size + 1) (encC ⟨(N1 : Int), 0, ev0, 0, (N2 : Int), (N3 : Int)⟩) 27) := HEa.out.set_ 15 _
  have HR3 := Lib.hid (bx_setCell_other HRa.out (p := ⟨w.heap.size + 1, 15, none⟩) (.int .i64 (N3 : Int)) (by show w.heap.size ≠ w.heap.size + 1; omega))
  have X3 : Hid (Ext w (v3.setCell ⟨w.heap.size + 1, 15, none⟩ (.int .i64 (N3 : Int)))) := Below.setCell Xa.out (p := ⟨w.heap.size + 1, 15, none⟩) (by show w.heap.size ≤ w.heap.size + 1; omega) _
  have RB3 : Hid (Rb (v3.setCell ⟨w.heap.size + 1, 15, none⟩ (.int .i64 (N3 : Int))) A3 R3 ∧ R3.length ≤ 100000000 ∧ R3.length ≤ p3 ∧ p3 ≤ 9223372036854775807 ∧ Old w A3 R3) := ⟨(hO3 _ sb3).set r3 _ _ (by show w.heap.size ≤ w.heap.size + 1; omega), Nat.le_trans hL3 RB2.out.2.1, hc3, hd3, hO3 _ sb3⟩
  clear HEa HRa Xa HE2 HR2 X2 RB2 hO3 hL3 k3 r3 hc3 hd3 x3 sb3
  go_wp2_with (first | (refine load_box rfl 27 _ rfl _ rfl _ _ HE3.out _ Try.underlying27 rfl sizeC ?_))
  obtain ⟨w3, hw3⟩ : ∃ W, v3.setCell ⟨w.heap.size + 1, 15, none⟩ (.int .i64 (N3 : Int)) = W := ⟨_, rfl⟩
  rw [hw3] at HE3 HR3 X3 RB3
  rw [hw3]
  clear hw3 eo fo
  have hT : Hid (cmT b = ⟨(N1 : Int), 0, ev0, 0, (N2 : Int), (N3 : Int)⟩) := by
    show _ = _
    unfold cmT cmOf
    rw [hN1.out, hR1.out, if_neg (by have := hk9.out; omega), if_neg (by have := hk9.out; omega), if_neg (by have := hk9.out; omega), if_neg (by have := hk9.out; omega), if_pos (by have := hk9.out; omega), hN2.out, hR2.out, hN3.out]
    try rfl
  rw [hT.out] at hRr c64
  cases hf : plainC ⟨(N1 : Int), 0, ev0, 0, (N2 : Int), (N3 : Int)⟩
  · have hRn : R = none := by rw [hRr.out, hf]; rfl
    subst hRn
    refine (rMPutNilN _ _ c64.out hf).mono ?_
    rintro e w8 ⟨A6, c6, rfl, r6, x6, _⟩
    have HR8 := Lib.hid (HR3.out.ext x6); have X8 := Lib.hid (X3.out.trans x6)
    clear hf hRr x6 r6 c64 hT
    go_wp2_with fail
    go_quiet (fail)
    have HR9 := Lib.hid (HR8.out.drewN nq); have X9 := Lib.hid (X8.out.drewN nq)
    clear HR8 X8
    go_wp2_with (first | (refine wpList_store_row (by rfl) 27 _ _ (by rfl) (w.heap.size) (encC cm0).toArray (by rfl) (by rfl) 27 _ HR9.out sizeC rfl (cells_okC cm0) ?_))
    refine bodyPost_ret (results_cm rfl _ _ w.heap.size cm0 (.slice none 0 0) (.int .i64 240) rfl (bx_setRow HR9.out) rfl rfl) rfl ?_
    exact ⟨below_setRow X9.out (Nat.le_refl _) _, rfl⟩
  · refine (rMPutNilY _ _ c64.out hf).mono ?_
    rintro e w8 ⟨A6, c6, rfl, r6, x6, _⟩
    rw [if_pos hf] at hRr
    have HR8 := Lib.hid (HR3.out.ext x6); have X8 := Lib.hid (X3.out.trans x6); have HE8 := Lib.hid (HE3.out.ext x6); have B8 := Lib.hid (h.out.ext X8.out); have R8 := Lib.hid r6
    obtain ⟨cm, hcm⟩ : ∃ cm, (⟨(N1 : Int), 0, ev0, 0, (N2 : Int), (N3 : Int)⟩ : Cm) = cm := ⟨_, rfl⟩
    rw [hcm] at hRr HE8 R8
    rw [hcm]
    obtain ⟨M, hM⟩ : ∃ M, encM cm = M := ⟨_, rfl⟩
    rw [hM] at hRr R8
    rw [hM]
    clear x6 r6 c64 hT hf hM hcm
    by_cases hle : M.length ≤ b.length
    · have d1 : decide ((b.length : Int) < (M.length : Int)) = false := decide_eq_false (by omega)
      have d1b : decide (b.length < M.length) = false := decide_eq_false (by omega)
      have hr1 := fun q => run_str (R8.out.drewN q) c6
      obtain ⟨A7, hA7, hs7⟩ := slice_hiS h.out hle hc.out
      have hr2 : ∀ q, (convert 29 9 (.slice A7 M.length c)).run Try.prog (w8.drewN q) = .ok (.string ⟨(b.take M.length).toArray⟩) (w8.drewN q) := fun q => by
        have := run_str (hs7 _ (B8.out.drewN q)) c
        rw [List.length_take, Nat.min_eq_left hle] at this
        exact this
      by_cases hp : b.take M.length = M
      · rw [if_pos hp] at hRr
        rw [hp] at hr2
        obtain ⟨A8, c8, n8, hn8, hc8, hr8, hs8⟩ := slice_loP 29 1 (enc := encB) elemB sizeB (A := A) (O := b) (n := b.length) (c := c) (j := M.length) rfl hle hc.out
        have B9 := hs8 _ B8.out
        obtain ⟨T, hT⟩ : ∃ T, b.drop M.length = T := ⟨_, rfl⟩
        rw [hT] at hRr B9 hn8
        have hT0 : Hid (b = [] → T = []) := fun e => by rw [← hT, e, List.drop_nil]
        have hRs := hRr.out
        subst hRs
        clear hT hRr hs8
        replace hr8 := Lib.hid hr8; replace B9 := Lib.hid B9; replace hn8 := Lib.hid hn8.out; replace hp := Lib.hid hp
        go_wp2_with fail
        go_quiet (fail)
        clear hr1 hr2 hA7 hs7
        go_wp2_with fail
        have HS0 := Lib.hid ((HE8.out.drewN nq).drewN 1); have HR9 := Lib.hid ((HR8.out.drewN nq).drewN 1); have X9 := Lib.hid ((X8.out.drewN nq).drewN 1); have B10 := Lib.hid ((B9.out.drewN nq).drewN 1)
        clear HE8 HR8 X8 B8 B9
        refine held_start (S := fun W => Bx W (w.heap.size + 1) (encC cm) 27) 8 rfl (by kernel_rfl) ?_
        refine held_boxV (i := 0) rfl (by kernel_rfl) (by kernel_rfl) (by kernel_rfl) rfl 27 _ rfl _ rfl (encC cm) 27 (fun w h => h) _ Try.underlying27 rfl sizeC HS0.out _ (by simp [Act.put]; rfl) ?_
        refine held_move (i := 1) rfl (by kernel_rfl) (by kernel_rfl) (by kernel_rfl) _ rfl rfl HS0.out _ (by simp [Act.put]; rfl) ?_
        refine held_move (i := 2) rfl (by kernel_rfl) (by kernel_rfl) (by kernel_rfl) _ rfl rfl HS0.out _ (by simp [Act.put]; rfl) ?_
        refine held_takeV (i := 3) rfl (by kernel_rfl) (by kernel_rfl) (by kernel_rfl) (.int .i64 M.length) rfl (fun w _ => by go_simp) HS0.out _ (by simp [Act.put]; rfl) ?_
        refine held_takeV (i := 4) rfl (by kernel_rfl) (by kernel_rfl) (by kernel_rfl) (.slice A8 n8 c8) rfl (fun w _ => by have := hr8.out w; go_simp) HS0.out _ (by simp [Act.put]; rfl) ?_
        refine held_all (i := 5) rfl (by kernel_rfl) rfl ?_
        refine wp_store_row 27 _ _ rfl w.heap.size (encC cm).toArray (by rfl) (by rfl) 27 (encC cm0).toArray HR9.out sizeC rfl (cells_okC cm) ?_
        have HS1 : Hid (Bx (((w8.drewN nq).drewN 1).setRow w.heap.size (encC cm).toArray) (w.heap.size + 1) (encC cm) 27) := bx_setRow_other HS0.out (by omega) _
        refine ⟨HS1.out, ?_⟩
        refine held_assign (i := 6) rfl (by kernel_rfl) (by kernel_rfl) (by kernel_rfl) _ rfl rfl HS1.out _ (by simp [Act.put]; rfl) ?_
        refine held_assign (i := 7) rfl (by kernel_rfl) (by kernel_rfl) (by kernel_rfl) _ rfl rfl HS1.out _ (by simp [Act.put]; rfl) ?_
        refine held_done (by kernel_rfl) ?_ _
        go_wp2
        refine bodyPost_ret (results_cm rfl _ _ w.heap.size cm (.slice A8 n8 c8) (.int .i64 0) rfl (bx_setRow HR9.out) rfl rfl) rfl ?_
        have hn := hn8.out
        subst hn
        refine ⟨below_setRow X9.out (Nat.le_refl _) _, A8, c8, rfl, ?_, hc8⟩
        by_cases hb0 : b = []
        · rw [hT0.out hb0]; exact Rw.nil
        · exact rw_setRow B10.out _ (fun blk off e => by
            obtain ⟨a, ha, hblk⟩ := hc8.2.2 _ e
            have := Rw.blk h.out hb0 ha
            simp only at hblk
            omega)
      · have d2 : (M == b.take M.length) = false := beq_eq_false_iff_ne.2 (Ne.symm hp)
        have hRn : R = none := by rw [hRr.out, if_neg hp]
        subst hRn
        clear hRr
        go_wp2_with fail
        go_quiet (fail)
        have HR9 := Lib.hid (HR8.out.drewN nq); have X9 := Lib.hid (X8.out.drewN nq)
        clear HR8 X8
        go_wp2_with (first | (refine wpList_store_row (by rfl) 27 _ _ (by rfl) (w.heap.size) (encC cm0).toArray (by rfl) (by rfl) 27 _ HR9.out sizeC rfl (cells_okC cm0) ?_))
        refine bodyPost_ret (results_cm rfl _ _ w.heap.size cm0 (.slice none 0 0) (.int .i64 240) rfl (bx_setRow HR9.out) rfl rfl) rfl ?_
        exact ⟨below_setRow X9.out (Nat.le_refl _) _, rfl⟩
    · have d1 : decide ((b.length : Int) < (M.length : Int)) = true := decide_eq_true (by omega)
      have d1b : decide (b.length < M.length) = true := decide_eq_true (by omega)
      have hRn : R = none := by
        rw [hRr.out, if_neg]
        intro e
        have := congrArg List.length e
        simp at this
        omega
      subst hRn
      clear hRr
      go_wp2_with fail
      go_quiet (fail)
      have HR9 := Lib.hid (HR8.out.drewN nq); have X9 := Lib.hid (X8.out.drewN nq)
      clear HR8 X8
      go_wp2_with (first | (refine wpList_store_row (by rfl) 27 _ _ (by rfl) (w.heap.size) (encC cm0).toArray (by rfl) (by rfl) 27 _ HR9.out sizeC rfl (cells_okC cm0) ?_))
      refine bodyPost_ret (results_cm rfl _ _ w.heap.size cm0 (.slice none 0 0) (.int .i64 240) rfl (bx_setRow HR9.out) rfl rfl) rfl ?_
      exact ⟨below_setRow X9.out (Nat.le_refl _) _, rfl⟩

set_option maxRecDepth 100000 in
set_option maxHeartbeats 4000000 in
theorem rTk7 {w : World} {A : Option Addr} {b : List UInt8} (h : Rb w A b) (hb : b.length ≤ 100000000) (c : Nat) (hc : b.length ≤ c) (hc2 : c ≤ 9223372036854775807) (hk : (numN b : Int) = 7) :
    Calls Try.prog 22 #[.slice A b.length c] w (RetCmP w A c (refT b) 240) := by
  obtain ⟨R, hR⟩ : ∃ R, refT b = R := ⟨_, rfl⟩
  rw [hR]
  have hRr : Hid (R = if plainC (cmT b) = true then if b.take (encM (cmT b)).length = encM (cmT b) then some (cmT b, b.drop (encM (cmT b)).length) else none else none) := hR.symm
  have c64 := Lib.hid (cmT_64 b)
  clear hR
  have HE0 : Hid (Bx ((w.alloc (.cells (encC cm0).toArray 27)).alloc (.cells (encC cm0).toArray 27)) (w.heap.size + 1) (encC cm0) 27) := by
    have := Bx.new (w.alloc (.cells (encC cm0).toArray 27)) (encC cm0) 27
    rw [show (w.alloc (.cells (encC cm0).toArray 27)).heap.size = w.heap.size + 1 from by simp] at this
    exact this
  have HR0 := Lib.hid ((Bx.new w (encC cm0) 27).alloc (.cells (encC cm0).toArray 27))
  have X0 := Lib.hid (((Ext.refl w).alloc (.cells (encC cm0).toArray 27)).alloc (.cells (encC cm0).toArray 27))
  have RB0 : Hid (Rb ((w.alloc (.cells (encC cm0).toArray 27)).alloc (.cells (encC cm0).toArray 27)) A b ∧ b.length ≤ 100000000 ∧ b.length ≤ c ∧ c ≤ 9223372036854775807 ∧ Old w A b) := ⟨h.ext X0.out, hb, hc, hc2, Old.of h⟩
  replace h := Lib.hid h; replace hb := Lib.hid hb; replace hc := Lib.hid hc; replace hc2 := Lib.hid hc2
  go_enter Try.func22, Try.ntmps22
  go_wp2_with fail
  have k1 := rNum RB0.out.1 RB0.out.2.1 c RB0.out.2.2.1 RB0.out.2.2.2.1
  obtain ⟨N1, hN1⟩ : ∃ N, numN b = N := ⟨_, rfl⟩
  have hO1 := fun B s => Old.num (B := B) RB0.out.2.2.2.2 s
  have hL1 := numR_le b
  obtain ⟨R1, hR1⟩ : ∃ R, numR b = R := ⟨_, rfl⟩
  rw [hR1] at k1 hL1
  rw [hN1] at k1
  simp only [hR1] at hO1
  replace k1 := Lib.hid k1; replace hN1 := Lib.hid hN1; replace hR1 := Lib.hid hR1
  refine k1.out.mono ?_
  rintro e1 v1 ⟨A1, p1, rfl, r1, hc1, hd1, x1, sb1⟩
  have HEa := Lib.hid (HE0.out.ext x1); have HRa := Lib.hid (HR0.out.ext x1); have Xa := Lib.hid (X0.out.trans x1)
  have eo := HEa.out.cell 0 _ rfl
  have fo := HEa.out.frozen 0
  have HE1 : Hid (Bx (v1.setCell ⟨w.heap.size + 1, 0, none⟩ (.int .i64 (N1 : Int))) (w.heap.size + 1) (encC ⟨(N1 : Int), 0, ev0, 0, 0, 0⟩) 27) := HEa.out.set_ 0 _
  have HR1 := Lib.hid (bx_setCell_other HRa.out (p := ⟨w.heap.size + 1, 0, none⟩) (.int .i64 (N1 : Int)) (by show w.heap.size ≠ w.heap.size + 1; omega))
  have X1 : Hid (Ext w (v1.setCell ⟨w.heap.size + 1, 0, none⟩ (.int .i64 (N1 : Int)))) := Below.setCell Xa.out (p := ⟨w.heap.size + 1, 0, none⟩) (by show w.heap.size ≤ w.heap.size + 1; omega) _
  have RB1 : Hid (Rb (v1.setCell ⟨w.heap.size + 1, 0, none⟩ (.int .i64 (N1 : Int))) A1 R1 ∧ R1.length ≤ 100000000 ∧ R1.length ≤ p1 ∧ p1 ≤ 9223372036854775807 ∧ Old w A1 R1) := ⟨(hO1 _ sb1).set r1 _ _ (by show w.heap.size ≤ w.heap.size + 1; omega), Nat.le_trans hL1 RB0.out.2.1, hc1, hd1, hO1 _ sb1⟩
  clear HEa HRa Xa HE0 HR0 X0 RB0 hO1 hL1 k1 r1 hc1 hd1 x1 sb1
  have hk9 := Lib.hid (hN1.out ▸ hk)
  have b1 : ((N1 : Int) == 1) = false := by rw [beq_eq_false_iff_ne]; have := hk9.out; omega
  have z1 : (N1 == 1) = false := by rw [beq_eq_false_iff_ne]; have := hk9.out; omega
  have b2 : ((N1 : Int) == 2) = false := by rw [beq_eq_false_iff_ne]; have := hk9.out; omega
  have z2 : (N1 == 2) = false := by rw [beq_eq_false_iff_ne]; have := hk9.out; omega
  have b3 : ((N1 : Int) == 3) = false := by rw [beq_eq_false_iff_ne]; have := hk9.out; omega
  have z3 : (N1 == 3) = false := by rw [beq_eq_false_iff_ne]; have := hk9.out; omega
  have b4 : ((N1 : Int) == 4) = false := by rw [beq_eq_false_iff_ne]; have := hk9.out; omega
  have z4 : (N1 == 4) = false := by rw [beq_eq_false_iff_ne]; have := hk9.out; omega
  have b5 : ((N1 : Int) == 5) = false := by rw [beq_eq_false_iff_ne]; have := hk9.out; omega
  have z5 : (N1 == 5) = false := by rw [beq_eq_false_iff_ne]; have := hk9.out; omega
  have b6 : ((N1 : Int) == 6) = false := by rw [beq_eq_false_iff_ne]; have := hk9.out; omega
  have z6 : (N1 == 6) = false := by rw [beq_eq_false_iff_ne]; have := hk9.out; omega
  have b7 : ((N1 : Int) == 7) = true := by rw [beq_iff_eq]; exact hk9.out
  have z7 : (N1 == 7) = true := by rw [beq_iff_eq]; have := hk9.out; omega
  clear hk
  go_wp2_with fail
  obtain ⟨w1, hw1⟩ : ∃ W, v1.setCell ⟨w.heap.size + 1, 0, none⟩ (.int .i64 (N1 : Int)) = W := ⟨_, rfl⟩
  rw [hw1] at HE1 HR1 X1 RB1
  rw [hw1]
  clear hw1 eo fo
  have k2 := rNum RB1.out.1 RB1.out.2.1 p1 RB1.out.2.2.1 RB1.out.2.2.2.1
  obtain ⟨N2, hN2⟩ : ∃ N, numN R1 = N := ⟨_, rfl⟩
  have hO2 := fun B s => Old.num (B := B) RB1.out.2.2.2.2 s
  have hL2 := numR_le R1
  obtain ⟨R2, hR2⟩ : ∃ R, numR R1 = R := ⟨_, rfl⟩
  rw [hR2] at k2 hL2
  rw [hN2] at k2
  simp only [hR2] at hO2
  replace k2 := Lib.hid k2; replace hN2 := Lib.hid hN2; replace hR2 := Lib.hid hR2
  refine k2.out.mono ?_
  rintro e2 v2 ⟨A2, p2, rfl, r2, hc2, hd2, x2, sb2⟩
  have HEa := Lib.hid (HE1.out.ext x2); have HRa := Lib.hid (HR1.out.ext x2); have Xa := Lib.hid (X1.out.trans x2)
  have eo := HEa.out.cell 14 _ rfl
  have fo := HEa.out.frozen 14
  have HE2 : Hid (Bx (v2.setCell ⟨w.heap.size + 1, 14, none⟩ (.int .i64 (N2 : Int))) (w.heap.size + 1) (encC ⟨(N1 : Int), 0, ev0, 0, (N2 : Int), 0⟩) 27) := HEa.out.set_ 14 _
  have HR2 := Lib.hid (bx_setCell_other HRa.out (p := ⟨w.heap.size + 1, 14, none⟩) (.int .i64 (N2 : Int)) (by show w.heap.size ≠ w.heap.size + 1; omega))
  have X2 : Hid (Ext w (v2.setCell ⟨w.heap.size + 1, 14, none⟩ (.int .i64 (N2 : Int)))) := Below.setCell Xa.out (p := ⟨w.heap.size + 1, 14, none⟩) (by show w.heap.size ≤ w.heap.size + 1; omega) _
  have RB2 : Hid (Rb (v2.setCell ⟨w.heap.size + 1, 14, none⟩ (.int .i64 (N2 : Int))) A2 R2 ∧ R2.length ≤ 100000000 ∧ R2.length ≤ p2 ∧ p2 ≤ 9223372036854775807 ∧ Old w A2 R2) := ⟨(hO2 _ sb2).set r2 _ _ (by show w.heap.size ≤ w.heap.size + 1; omega), Nat.le_trans hL2 RB1.out.2.1, hc2, hd2, hO2 _ sb2⟩
  clear HEa HRa Xa HE1 HR1 X1 RB1 hO2 hL2 k2 r2 hc2 hd2 x2 sb2
  go_wp2_with fail
  obtain ⟨w2, hw2⟩ : ∃ W, v2.setCell ⟨w.heap.size + 1, 14, none⟩ (.int .i64 (N2 : Int)) = W := ⟨_, rfl⟩
  rw [hw2] at HE2 HR2 X2 RB2
  rw [hw2]
  clear hw2 eo fo
  have k3 := rNum RB2.out.1 RB2.out.2.1 p2 RB2.out.2.2.1 RB2.out.2.2.2.1
  obtain ⟨N3, hN3⟩ : ∃ N, numN R2 = N := ⟨_, rfl⟩
  have hO3 := fun B s => Old.num (B := B) RB2.out.2.2.2.2 s
  have hL3 := numR_le R2
  obtain ⟨R3, hR3⟩ : ∃ R, numR R2 = R := ⟨_, rfl⟩
  rw [hR3] at k3 hL3
  rw [hN3] at k3
  simp only [hR3] at hO3
  replace k3 := Lib.hid k3; replace hN3 := Lib.hid hN3; replace hR3 := Lib.hid hR3
  refine k3.out.mono ?_
  rintro e3 v3 ⟨A3, p3, rfl, r3, hc3, hd3, x3, sb3⟩
  have HEa := Lib.hid (HE2.out.ext x3); have HRa := Lib.hid (HR2.out.ext x3); have Xa := Lib.hid (X2.out.trans x3)
  have eo := HEa.out.cell 15 _ rfl
  have fo := HEa.out.frozen 15
  have HE3 : Hid (Bx (v3.setCell ⟨w.heap.size + 1, 15, none⟩ (.int .i64 (N3 : Int))) (w.heap.size + 1) (encC ⟨(N1 : Int), 0, ev0, 0, (N2 : Int), (N3 : Int)⟩) 27) := HEa.out.set_ 15 _
  have HR3 := Lib.hid (bx_setCell_other HRa.out (p := ⟨w.heap.size + 1, 15, none⟩) (.int .i64 (N3 : Int)) (by show w.heap.size ≠ w.heap.size + 1; omega))
  have X3 : Hid (Ext w (v3.setCell ⟨w.heap.size + 1, 15, none⟩ (.int .i64 (N3 : Int)))) := Below.setCell Xa.out (p := ⟨w.heap.size + 1, 15, none⟩) (by show w.heap.size ≤ w.heap.size + 1; omega) _
  have RB3 : Hid (Rb (v3.setCell ⟨w.heap.size + 1, 15, none⟩ (.int .i64 (N3 : Int))) A3 R3 ∧ R3.length ≤ 100000000 ∧ R3.length ≤ p3 ∧ p3 ≤ 9223372036854775807 ∧ Old w A3 R3) := ⟨(hO3 _ sb3).set r3 _ _ (by show w.heap.size ≤ w.heap.size + 1; omega), Nat.le_trans hL3 RB2.out.2.1, hc3, hd3, hO3 _ sb3⟩
  clear HEa HRa Xa HE2 HR2 X2 RB2 hO3 hL3 k3 r3 hc3 hd3 x3 sb3
  go_wp2_with (first | (refine load_box rfl 27 _ rfl _ rfl _ _ HE3.out _ Try.underlying27 rfl sizeC ?_))
  obtain ⟨w3, hw3⟩ : ∃ W, v3.setCell ⟨w.heap.size + 1, 15, none⟩ (.int .i64 (N3 : Int)) = W := ⟨_, rfl⟩
  rw [hw3] at HE3 HR3 X3 RB3
  rw [hw3]
  clear hw3 eo fo
  have hT : Hid (cmT b = ⟨(N1 : Int), 0, ev0, 0, (N2 : Int), (N3 : Int)⟩) := by
    show _ = _
    unfold cmT cmOf
    rw [hN1.out, hR1.out, if_neg (by have := hk9.out; omega), if_neg (by have := hk9.out; omega), if_neg (by have := hk9.out; omega), if_neg (by have := hk9.out; omega), if_pos (by have := hk9.out; omega), hN2.out, hR2.out, hN3.out]
    try rfl
  rw [hT.out] at hRr c64
  cases hf : plainC ⟨(N1 : Int), 0, ev0, 0, (N2 : Int), (N3 : Int)⟩
  · have hRn : R = none := by rw [hRr.out, hf]; rfl
    subst hRn
    refine (rMPutNilN _ _ c64.out hf).mono ?_
    rintro e w8 ⟨A6, c6, rfl, r6, x6, _⟩
    have HR8 := Lib.hid (HR3.out.ext x6); have X8 := Lib.hid (X3.out.trans x6)
    clear hf hRr x6 r6 c64 hT
    go_wp2_with fail
    go_quiet (fail)
    have HR9 := Lib.hid (HR8.out.drewN nq); have X9 := Lib.hid (X8.out.drewN nq)
    clear HR8 X8
    go_wp2_with (first | (refine wpList_store_row (by rfl) 27 _ _ (by rfl) (w.heap.size) (encC cm0).toArray (by rfl) (by rfl) 27 _ HR9.out sizeC rfl (cells_okC cm0) ?_))
    refine bodyPost_ret (results_cm rfl _ _ w.heap.size cm0 (.slice none 0 0) (.int .i64 240) rfl (bx_setRow HR9.out) rfl rfl) rfl ?_
    exact ⟨below_setRow X9.out (Nat.le_refl _) _, rfl⟩
  · refine (rMPutNilY _ _ c64.out hf).mono ?_
    rintro e w8 ⟨A6, c6, rfl, r6, x6, _⟩
    rw [if_pos hf] at hRr
    have HR8 := Lib.hid (HR3.out.ext x6); have X8 := Lib.hid (X3.out.trans x6); have HE8 := Lib.hid (HE3.out.ext x6); have B8 := Lib.hid (h.out.ext X8.out); have R8 := Lib.hid r6
    obtain ⟨cm, hcm⟩ : ∃ cm, (⟨(N1 : Int), 0, ev0, 0, (N2 : Int), (N3 : Int)⟩ : Cm) = cm := ⟨_, rfl⟩
    rw [hcm] at hRr HE8 R8
    rw [hcm]
    obtain ⟨M, hM⟩ : ∃ M, encM cm = M := ⟨_, rfl⟩
    rw [hM] at hRr R8
    rw [hM]
    clear x6 r6 c64 hT hf hM hcm
    by_cases hle : M.length ≤ b.length
    · have d1 : decide ((b.length : Int) < (M.length : Int)) = false := decide_eq_false (by omega)
      have d1b : decide (b.length < M.length) = false := decide_eq_false (by omega)
      have hr1 := fun q => run_str (R8.out.drewN q) c6
      obtain ⟨A7, hA7, hs7⟩ := slice_hiS h.out hle hc.out
      have hr2 : ∀ q, (convert 29 9 (.slice A7 M.length c)).run Try.prog (w8.drewN q) = .ok (.string ⟨(b.take M.length).toArray⟩) (w8.drewN q) := fun q => by
        have := run_str (hs7 _ (B8.out.drewN q)) c
        rw [List.length_take, Nat.min_eq_left hle] at this
        exact this
      by_cases hp : b.take M.length = M
      · rw [if_pos hp] at hRr
        rw [hp] at hr2
        obtain ⟨A8, c8, n8, hn8, hc8, hr8, hs8⟩ := slice_loP 29 1 (enc := encB) elemB sizeB (A := A) (O := b) (n := b.length) (c := c) (j := M.length) rfl hle hc.out
        have B9 := hs8 _ B8.out
        obtain ⟨T, hT⟩ : ∃ T, b.drop M.length = T := ⟨_, rfl⟩
        rw [hT] at hRr B9 hn8
        have hT0 : Hid (b = [] → T = []) := fun e => by rw [← hT, e, List.drop_nil]
        have hRs := hRr.out
        subst hRs
        clear hT hRr hs8
        replace hr8 := Lib.hid hr8; replace B9 := Lib.hid B9; replace hn8 := Lib.hid hn8.out; replace hp := Lib.hid hp
        go_wp2_with fail
        go_quiet (fail)
        clear hr1 hr2 hA7 hs7
        go_wp2_with fail
        have HS0 := Lib.hid ((HE8.out.drewN nq).drewN 1); have HR9 := Lib.hid ((HR8.out.drewN nq).drewN 1); have X9 := Lib.hid ((X8.out.drewN nq).drewN 1); have B10 := Lib.hid ((B9.out.drewN nq).drewN 1)
        clear HE8 HR8 X8 B8 B9
        refine held_start (S := fun W => Bx W (w.heap.size + 1) (encC cm) 27) 8 rfl (by kernel_rfl) ?_
        refine held_boxV (i := 0) rfl (by kernel_rfl) (by kernel_rfl) (by kernel_rfl) rfl 27 _ rfl _ rfl (encC cm) 27 (fun w h => h) _ Try.underlying27 rfl sizeC HS0.out _ (by simp [Act.put]; rfl) ?_
        refine held_move (i := 1) rfl (by kernel_rfl) (by kernel_rfl) (by kernel_rfl) _ rfl rfl HS0.out _ (by simp [Act.put]; rfl) ?_
        refine held_move (i := 2) rfl (by kernel_rfl) (by kernel_rfl) (by kernel_rfl) _ rfl rfl HS0.out _ (by simp [Act.put]; rfl) ?_
        refine held_takeV (i := 3) rfl (by kernel_rfl) (by kernel_rfl) (by kernel_rfl) (.int .i64 M.length) rfl (fun w _ => by go_simp) HS0.out _ (by simp [Act.put]; rfl) ?_
        refine held_takeV (i := 4) rfl (by kernel_rfl) (by kernel_rfl) (by kernel_rfl) (.slice A8 n8 c8) rfl (fun w _ => by have := hr8.out w; go_simp) HS0.out _ (by simp [Act.put]; rfl) ?_
        refine held_all (i := 5) rfl (by kernel_rfl) rfl ?_
        refine wp_store_row 27 _ _ rfl w.heap.size (encC cm).toArray (by rfl) (by rfl) 27 (encC cm0).toArray HR9.out sizeC rfl (cells_okC cm) ?_
        have HS1 : Hid (Bx (((w8.drewN nq).drewN 1).setRow w.heap.size (encC cm).toArray) (w.heap.size + 1) (encC cm) 27) := bx_setRow_other HS0.out (by omega) _
        refine ⟨HS1.out, ?_⟩
        refine held_assign (i := 6) rfl (by kernel_rfl) (by kernel_rfl) (by kernel_rfl) _ rfl rfl HS1.out _ (by simp [Act.put]; rfl) ?_
        refine held_assign (i := 7) rfl (by kernel_rfl) (by kernel_rfl) (by kernel_rfl) _ rfl rfl HS1.out _ (by simp [Act.put]; rfl) ?_
        refine held_done (by kernel_rfl) ?_ _
        go_wp2
        refine bodyPost_ret (results_cm rfl _ _ w.heap.size cm (.slice A8 n8 c8) (.int .i64 0) rfl (bx_setRow HR9.out) rfl rfl) rfl ?_
        have hn := hn8.out
        subst hn
        refine ⟨below_setRow X9.out (Nat.le_refl _) _, A8, c8, rfl, ?_, hc8⟩
        by_cases hb0 : b = []
        · rw [hT0.out hb0]; exact Rw.nil
        · exact rw_setRow B10.out _ (fun blk off e => by
            obtain ⟨a, ha, hblk⟩ := hc8.2.2 _ e
            have := Rw.blk h.out hb0 ha
            simp only at hblk
            omega)
      · have d2 : (M == b.take M.length) = false := beq_eq_false_iff_ne.2 (Ne.symm hp)
        have hRn : R = none := by rw [hRr.out, if_neg hp]
        subst hRn
        clear hRr
        go_wp2_with fail
        go_quiet (fail)
        have HR9 := Lib.hid (HR8.out.drewN nq); have X9 := Lib.hid (X8.out.drewN nq)
        clear HR8 X8
        go_wp2_with (first | (refine wpList_store_row (by rfl) 27 _ _ (by rfl) (w.heap.size) (encC cm0).toArray (by rfl) (by rfl) 27 _ HR9.out sizeC rfl (cells_okC cm0) ?_))
        refine bodyPost_ret (results_cm rfl _ _ w.heap.size cm0 (.slice none 0 0) (.int .i64 240) rfl (bx_setRow HR9.out) rfl rfl) rfl ?_
        exact ⟨below_setRow X9.out (Nat.le_refl _) _, rfl⟩
    · have d1 : decide ((b.length : Int) < (M.length : Int)) = true := decide_eq_true (by omega)
      have d1b : decide (b.length < M.length) = true := decide_eq_true (by omega)
      have hRn : R = none := by
        rw [hRr.out, if_neg]
        intro e
        have := congrArg List.length e
        simp at this
        omega
      subst hRn
      clear hRr
      go_wp2_with fail
      go_quiet (fail)
      have HR9 := Lib.hid (HR8.out.drewN nq); have X9 := Lib.hid (X8.out.drewN nq)
      clear HR8 X8
      go_wp2_with (first | (refine wpList_store_row (by rfl) 27 _ _ (by rfl) (w.heap.size) (encC cm0).toArray (by rfl) (by rfl) 27 _ HR9.out sizeC rfl (cells_okC cm0) ?_))
      refine bodyPost_ret (results_cm rfl _ _ w.heap.size cm0 (.slice none 0 0) (.int .i64 240) rfl (bx_setRow HR9.out) rfl rfl) rfl ?_
      exact ⟨below_setRow X9.out (Nat.le_refl _) _, rfl⟩

set_option maxRecDepth 100000 in
set_option maxHeartbeats 4000000 in
theorem rTko {w : World} {A : Option Addr} {b : List UInt8} (h : Rb w A b) (hb : b.length ≤ 100000000) (c : Nat) (hc : b.length ≤ c) (hc2 : c ≤ 9223372036854775807) (hk : (numN b : Int) < 1 ∨ 7 < (numN b : Int)) :
    Calls Try.prog 22 #[.slice A b.length c] w (RetCmP w A c (refT b) 240) := by
  obtain ⟨R, hR⟩ : ∃ R, refT b = R := ⟨_, rfl⟩
  rw [hR]
  have hRr : Hid (R = if plainC (cmT b) = true then if b.take (encM (cmT b)).length = encM (cmT b) then some (cmT b, b.drop (encM (cmT b)).length) else none else none) := hR.symm
  have c64 := Lib.hid (cmT_64 b)
  clear hR
  have HE0 : Hid (Bx ((w.alloc (.cells (encC cm0).toArray 27)).alloc (.cells (encC cm0).toArray 27)) (w.heap.size + 1) (encC cm0) 27) := by
    have := Bx.new (w.alloc (.cells (encC cm0).toArray 27)) (encC cm0) 27
    rw [show (w.alloc (.cells (encC cm0).toArray 27)).heap.size = w.heap.size + 1 from by simp] at this
    exact this
  have HR0 := Lib.hid ((Bx.new w (encC cm0) 27).alloc (.cells (encC cm0).toArray 27))
  have X0 := Lib.hid (((Ext.refl w).alloc (.cells (encC cm0).toArray 27)).alloc (.cells (encC cm0).toArray 27))
  have RB0 : Hid (Rb ((w.alloc (.cells (encC cm0).toArray 27)).alloc (.cells (encC cm0).toArray 27)) A b ∧ b.length ≤ 100000000 ∧ b.length ≤ c ∧ c ≤ 9223372036854775807 ∧ Old w A b) := ⟨h.ext X0.out, hb, hc, hc2, Old.of h⟩
  replace h := Lib.hid h; replace hb := Lib.hid hb; replace hc := Lib.hid hc; replace hc2 := Lib.hid hc2
  go_enter Try.func22, Try.ntmps22
  go_wp2_with fail
  have k1 := rNum RB0.out.1 RB0.out.2.1 c RB0.out.2.2.1 RB0.out.2.2.2.1
  obtain ⟨N1, hN1⟩ : ∃ N, numN b = N := ⟨_, rfl⟩
  have hO1 := fun B s => Old.num (B := B) RB0.out.2.2.2.2 s
  have hL1 := numR_le b
  obtain ⟨R1, hR1⟩ : ∃ R, numR b = R := ⟨_, rfl⟩
  rw [hR1] at k1 hL1
  rw [hN1] at k1
  simp only [hR1] at hO1
  replace k1 := Lib.hid k1; replace hN1 := Lib.hid hN1; replace hR1 := Lib.hid hR1
  refine k1.out.mono ?_
  rintro e1 v1 ⟨A1, p1, rfl, r1, hc1, hd1, x1, sb1⟩
  have HEa := Lib.hid (HE0.out.ext x1); have HRa := Lib.hid (HR0.out.ext x1); have Xa := Lib.hid (X0.out.trans x1)
  have eo := HEa.out.cell 0 _ rfl
  have fo := HEa.out.frozen 0
  have HE1 : Hid (Bx (v1.setCell ⟨w.heap.size + 1, 0, none⟩ (.int .i64 (N1 : Int))) (w.heap.size + 1) (encC ⟨(N1 : Int), 0, ev0, 0, 0, 0⟩) 27) := HEa.out.set_ 0 _
  have HR1 := Lib.hid (bx_setCell_other HRa.out (p := ⟨w.heap.size + 1, 0, none⟩) (.int .i64 (N1 : Int)) (by show w.heap.size ≠ w.heap.size + 1; omega))
  have X1 : Hid (Ext w (v1.setCell ⟨w.heap.size + 1, 0, none⟩ (.int .i64 (N1 : Int)))) := Below.setCell Xa.out (p := ⟨w.heap.size + 1, 0, none⟩) (by show w.heap.size ≤ w.heap.size + 1; omega) _
  have RB1 : Hid (Rb (v1.setCell ⟨w.heap.size + 1, 0, none⟩ (.int .i64 (N1 : Int))) A1 R1 ∧ R1.length ≤ 100000000 ∧ R1.length ≤ p1 ∧ p1 ≤ 9223372036854775807 ∧ Old w A1 R1) := ⟨(hO1 _ sb1).set r1 _ _ (by show w.heap.size ≤ w.heap.size + 1; omega), Nat.le_trans hL1 RB0.out.2.1, hc1, hd1, hO1 _ sb1⟩
  clear HEa HRa Xa HE0 HR0 X0 RB0 hO1 hL1 k1 r1 hc1 hd1 x1 sb1
  have hk9 := Lib.hid (hN1.out ▸ hk)
  have b1 : ((N1 : Int) == 1) = false := by rw [beq_eq_false_iff_ne]; have := hk9.out; omega
  have z1 : (N1 == 1) = false := by rw [beq_eq_false_iff_ne]; have := hk9.out; omega
  have b2 : ((N1 : Int) == 2) = false := by rw [beq_eq_false_iff_ne]; have := hk9.out; omega
  have z2 : (N1 == 2) = false := by rw [beq_eq_false_iff_ne]; have := hk9.out; omega
  have b3 : ((N1 : Int) == 3) = false := by rw [beq_eq_false_iff_ne]; have := hk9.out; omega
  have z3 : (N1 == 3) = false := by rw [beq_eq_false_iff_ne]; have := hk9.out; omega
  have b4 : ((N1 : Int) == 4) = false := by rw [beq_eq_false_iff_ne]; have := hk9.out; omega
  have z4 : (N1 == 4) = false := by rw [beq_eq_false_iff_ne]; have := hk9.out; omega
  have b5 : ((N1 : Int) == 5) = false := by rw [beq_eq_false_iff_ne]; have := hk9.out; omega
  have z5 : (N1 == 5) = false := by rw [beq_eq_false_iff_ne]; have := hk9.out; omega
  have b6 : ((N1 : Int) == 6) = false := by rw [beq_eq_false_iff_ne]; have := hk9.out; omega
  have z6 : (N1 == 6) = false := by rw [beq_eq_false_iff_ne]; have := hk9.out; omega
  have b7 : ((N1 : Int) == 7) = false := by rw [beq_eq_false_iff_ne]; have := hk9.out; omega
  have z7 : (N1 == 7) = false := by rw [beq_eq_false_iff_ne]; have := hk9.out; omega
  clear hk
  go_wp2_with fail
  obtain ⟨w1, hw1⟩ : ∃ W, v1.setCell ⟨w.heap.size + 1, 0, none⟩ (.int .i64 (N1 : Int)) = W := ⟨_, rfl⟩
  rw [hw1] at HE1 HR1 X1 RB1
  rw [hw1]
  clear hw1 eo fo
  have k2 := rNum RB1.out.1 RB1.out.2.1 p1 RB1.out.2.2.1 RB1.out.2.2.2.1
  obtain ⟨N2, hN2⟩ : ∃ N, numN R1 = N := ⟨_, rfl⟩
  have hO2 := fun B s => Old.num (B := B) RB1.out.2.2.2.2 s
  have hL2 := numR_le R1
  obtain ⟨R2, hR2⟩ : ∃ R, numR R1 = R := ⟨_, rfl⟩
  rw [hR2] at k2 hL2
  rw [hN2] at k2
  simp only [hR2] at hO2
  replace k2 := Lib.hid k2; replace hN2 := Lib.hid hN2; replace hR2 := Lib.hid hR2
  refine k2.out.mono ?_
  rintro e2 v2 ⟨A2, p2, rfl, r2, hc2, hd2, x2, sb2⟩
  have HEa := Lib.hid (HE1.out.ext x2); have HRa := Lib.hid (HR1.out.ext x2); have Xa := Lib.hid (X1.out.trans x2)
  have eo := HEa.out.cell 15 _ rfl
  have fo := HEa.out.frozen 15
  have HE2 : Hid (Bx (v2.setCell ⟨w.heap.size + 1, 15, none⟩ (.int .i64 (N2 : Int))) (w.heap.size + 1) (encC ⟨(N1 : Int), 0, ev0, 0, 0, (N2 : Int)⟩) 27) := HEa.out.set_ 15 _
  have HR2 := Lib.hid (bx_setCell_other HRa.out (p := ⟨w.heap.size + 1, 15, none⟩) (.int .i64 (N2 : Int)) (by show w.heap.size ≠ w.heap.size + 1; omega))
  have X2 : Hid (Ext w (v2.setCell ⟨w.heap.size + 1, 15, none⟩ (.int .i64 (N2 : Int)))) := Below.setCell Xa.out (p := ⟨w.heap.size + 1, 15, none⟩) (by show w.heap.size ≤ w.heap.size + 1; omega) _
  have RB2 : Hid (Rb (v2.setCell ⟨w.heap.size + 1, 15, none⟩ (.int .i64 (N2 : Int))) A2 R2 ∧ R2.length ≤ 100000000 ∧ R2.length ≤ p2 ∧ p2 ≤ 9223372036854775807 ∧ Old w A2 R2) := ⟨(hO2 _ sb2).set r2 _ _ (by show w.heap.size ≤ w.heap.size + 1; omega), Nat.le_trans hL2 RB1.out.2.1, hc2, hd2, hO2 _ sb2⟩
  clear HEa HRa Xa HE1 HR1 X1 RB1 hO2 hL2 k2 r2 hc2 hd2 x2 sb2
  go_wp2_with (first | (refine load_box rfl 27 _ rfl _ rfl _ _ HE2.out _ Try.underlying27 rfl sizeC ?_))
  obtain ⟨w2, hw2⟩ : ∃ W, v2.setCell ⟨w.heap.size + 1, 15, none⟩ (.int .i64 (N2 : Int)) = W := ⟨_, rfl⟩
  rw [hw2] at HE2 HR2 X2 RB2
  rw [hw2]
  clear hw2 eo fo
  have hT : Hid (cmT b = ⟨(N1 : Int), 0, ev0, 0, 0, (N2 : Int)⟩) := by
    show _ = _
    unfold cmT cmOf
    rw [hN1.out, hR1.out, if_neg (by have := hk9.out; omega), if_neg (by have := hk9.out; omega), if_neg (by have := hk9.out; omega), if_neg (by have := hk9.out; omega), if_neg (by have := hk9.out; omega), hN2.out]
    try rfl
  rw [hT.out] at hRr c64
  cases hf : plainC ⟨(N1 : Int), 0, ev0, 0, 0, (N2 : Int)⟩
  · have hRn : R = none := by rw [hRr.out, hf]; rfl
    subst hRn
    refine (rMPutNilN _ _ c64.out hf).mono ?_
    rintro e w8 ⟨A6, c6, rfl, r6, x6, _⟩
    have HR8 := Lib.hid (HR2.out.ext x6); have X8 := Lib.hid (X2.out.trans x6)
    clear hf hRr x6 r6 c64 hT
    go_wp2_with fail
    go_quiet (fail)
    have HR9 := Lib.hid (HR8.out.drewN nq); have X9 := Lib.hid (X8.out.drewN nq)
    clear HR8 X8
    go_wp2_with (first | (refine wpList_store_row (by rfl) 27 _ _ (by rfl) (w.heap.size) (encC cm0).toArray (by rfl) (by rfl) 27 _ HR9.out sizeC rfl (cells_okC cm0) ?_))
    refine bodyPost_ret (results_cm rfl _ _ w.heap.size cm0 (.slice none 0 0) (.int .i64 240) rfl (bx_setRow HR9.out) rfl rfl) rfl ?_
    exact ⟨below_setRow X9.out (Nat.le_refl _) _, rfl⟩
  · refine (rMPutNilY _ _ c64.out hf).mono ?_
    rintro e w8 ⟨A6, c6, rfl, r6, x6, _⟩
    rw [if_pos hf] at hRr
    have HR8 := Lib.hid (HR2.out.ext x6); have X8 := Lib.hid (X2.out.trans x6); have HE8 := Lib.hid (HE2.out.ext x6); have B8 := Lib.hid (h.out.ext X8.out); have R8 := Lib.hid r6
    obtain ⟨cm, hcm⟩ : ∃ cm, (⟨(N1 : Int), 0, ev0, 0, 0, (N2 : Int)⟩ : Cm) = cm := ⟨_, rfl⟩
    rw [hcm] at hRr HE8 R8
    rw [hcm]
    obtain ⟨M, hM⟩ : ∃ M, encM cm = M := ⟨_, rfl⟩
    rw [hM] at hRr R8
    rw [hM]
    clear x6 r6 c64 hT hf hM hcm
    by_cases hle : M.length ≤ b.length
    · have d1 : decide ((b.length : Int) < (M.length : Int)) = false := decide_eq_false (by omega)
      have d1b : decide (b.length < M.length) = false := decide_eq_false (by omega)
      have hr1 := fun q => run_str (R8.out.drewN q) c6
      obtain ⟨A7, hA7, hs7⟩ := slice_hiS h.out hle hc.out
      have hr2 : ∀ q, (convert 29 9 (.slice A7 M.length c)).run Try.prog (w8.drewN q) = .ok (.string ⟨(b.take M.length).toArray⟩) (w8.drewN q) := fun q => by
        have := run_str (hs7 _ (B8.out.drewN q)) c
        rw [List.length_take, Nat.min_eq_left hle] at this
        exact this
      by_cases hp : b.take M.length = M
      · rw [if_pos hp] at hRr
        rw [hp] at hr2
        obtain ⟨A8, c8, n8, hn8, hc8, hr8, hs8⟩ := slice_loP 29 1 (enc := encB) elemB sizeB (A := A) (O := b) (n := b.length) (c := c) (j := M.length) rfl hle hc.out
        have B9 := hs8 _ B8.out
        obtain ⟨T, hT⟩ : ∃ T, b.drop M.length = T := ⟨_, rfl⟩
        rw [hT] at hRr B9 hn8
        have hT0 : Hid (b = [] → T = []) := fun e => by rw [← hT, e, List.drop_nil]
        have hRs := hRr.out
        subst hRs
        clear hT hRr hs8
        replace hr8 := Lib.hid hr8; replace B9 := Lib.hid B9; replace hn8 := Lib.hid hn8.out; replace hp := Lib.hid hp
        go_wp2_with fail
        go_quiet (fail)
        clear hr1 hr2 hA7 hs7
        go_wp2_with fail
        have HS0 := Lib.hid ((HE8.out.drewN nq).drewN 1); have HR9 := Lib.hid ((HR8.out.drewN nq).drewN 1); have X9 := Lib.hid ((X8.out.drewN nq).drewN 1); have B10 := Lib.hid ((B9.out.drewN nq).drewN 1)
        clear HE8 HR8 X8 B8 B9
        refine held_start (S := fun W => Bx W (w.heap.size + 1) (encC cm) 27) 8 rfl (by kernel_rfl) ?_
        refine held_boxV (i := 0) rfl (by kernel_rfl) (by kernel_rfl) (by kernel_rfl) rfl 27 _ rfl _ rfl (encC cm) 27 (fun w h => h) _ Try.underlying27 rfl sizeC HS0.out _ (by simp [Act.put]; rfl) ?_
        refine held_move (i := 1) rfl (by kernel_rfl) (by kernel_rfl) (by kernel_rfl) _ rfl rfl HS0.out _ (by simp [Act.put]; rfl) ?_
        refine held_move (i := 2) rfl (by kernel_rfl) (by kernel_rfl) (by kernel_rfl) _ rfl rfl HS0.out _ (by simp [Act.put]; rfl) ?_
        refine held_takeV (i := 3) rfl (by kernel_rfl) (by kernel_rfl) (by kernel_rfl) (.int .i64 M.length) rfl (fun w _ => by go_simp) HS0.out _ (by simp [Act.put]; rfl) ?_
        refine held_takeV (i := 4) rfl (by kernel_rfl) (by kernel_rfl) (by kernel_rfl) (.slice A8 n8 c8) rfl (fun w _ => by have := hr8.out w; go_simp) HS0.out _ (by simp [Act.put]; rfl) ?_
        refine held_all (i := 5) rfl (by kernel_rfl) rfl ?_
        refine wp_store_row 27 _ _ rfl w.heap.size (encC cm).toArray (by rfl) (by rfl) 27 (encC cm0).toArray HR9.out sizeC rfl (cells_okC cm) ?_
        have HS1 : Hid (Bx (((w8.drewN nq).drewN 1).setRow w.heap.size (encC cm).toArray) (w.heap.size + 1) (encC cm) 27) := bx_setRow_other HS0.out (by omega) _
        refine ⟨HS1.out, ?_⟩
        refine held_assign (i := 6) rfl (by kernel_rfl) (by kernel_rfl) (by kernel_rfl) _ rfl rfl HS1.out _ (by simp [Act.put]; rfl) ?_
        refine held_assign (i := 7) rfl (by kernel_rfl) (by kernel_rfl) (by kernel_rfl) _ rfl rfl HS1.out _ (by simp [Act.put]; rfl) ?_
        refine held_done (by kernel_rfl) ?_ _
        go_wp2
        refine bodyPost_ret (results_cm rfl _ _ w.heap.size cm (.slice A8 n8 c8) (.int .i64 0) rfl (bx_setRow HR9.out) rfl rfl) rfl ?_
        have hn := hn8.out
        subst hn
        refine ⟨below_setRow X9.out (Nat.le_refl _) _, A8, c8, rfl, ?_, hc8⟩
        by_cases hb0 : b = []
        · rw [hT0.out hb0]; exact Rw.nil
        · exact rw_setRow B10.out _ (fun blk off e => by
            obtain ⟨a, ha, hblk⟩ := hc8.2.2 _ e
            have := Rw.blk h.out hb0 ha
            simp only at hblk
            omega)
      · have d2 : (M == b.take M.length) = false := beq_eq_false_iff_ne.2 (Ne.symm hp)
        have hRn : R = none := by rw [hRr.out, if_neg hp]
        subst hRn
        clear hRr
        go_wp2_with fail
        go_quiet (fail)
        have HR9 := Lib.hid (HR8.out.drewN nq); have X9 := Lib.hid (X8.out.drewN nq)
        clear HR8 X8
        go_wp2_with (first | (refine wpList_store_row (by rfl) 27 _ _ (by rfl) (w.heap.size) (encC cm0).toArray (by rfl) (by rfl) 27 _ HR9.out sizeC rfl (cells_okC cm0) ?_))
        refine bodyPost_ret (results_cm rfl _ _ w.heap.size cm0 (.slice none 0 0) (.int .i64 240) rfl (bx_setRow HR9.out) rfl rfl) rfl ?_
        exact ⟨below_setRow X9.out (Nat.le_refl _) _, rfl⟩
    · have d1 : decide ((b.length : Int) < (M.length : Int)) = true := decide_eq_true (by omega)
      have d1b : decide (b.length < M.length) = true := decide_eq_true (by omega)
      have hRn : R = none := by
        rw [hRr.out, if_neg]
        intro e
        have := congrArg List.length e
        simp at this
        omega
      subst hRn
      clear hRr
      go_wp2_with fail
      go_quiet (fail)
      have HR9 := Lib.hid (HR8.out.drewN nq); have X9 := Lib.hid (X8.out.drewN nq)
      clear HR8 X8
      go_wp2_with (first | (refine wpList_store_row (by rfl) 27 _ _ (by rfl) (w.heap.size) (encC cm0).toArray (by rfl) (by rfl) 27 _ HR9.out sizeC rfl (cells_okC cm0) ?_))
      refine bodyPost_ret (results_cm rfl _ _ w.heap.size cm0 (.slice none 0 0) (.int .i64 240) rfl (bx_setRow HR9.out) rfl rfl) rfl ?_
      exact ⟨below_setRow X9.out (Nat.le_refl _) _, rfl⟩

theorem rMTake {w : World} {A : Option Addr} {b : List UInt8} (h : Rb w A b) (hb : b.length ≤ 100000000) (c : Nat) (hc : b.length ≤ c) (hc2 : c ≤ 9223372036854775807) :
    Calls Try.prog 22 #[.slice A b.length c] w (RetCmP w A c (decC b) 240) := by
  rw [← refT_eq]
  by_cases k1 : (numN b : Int) = 1
  · exact rTk1 h hb c hc hc2 k1
  by_cases k2 : (numN b : Int) = 2
  · by_cases f : (numN (numR b) : Int) = 2
    · exact rTk2v h hb c hc hc2 k2 f
    · exact rTk2e h hb c hc hc2 k2 f
  by_cases k3 : (numN b : Int) = 3
  · exact rTk3 h hb c hc hc2 k3
  by_cases k4 : (numN b : Int) = 4
  · exact rTk4 h hb c hc hc2 k4
  by_cases k5 : (numN b : Int) = 5
  · exact rTk5 h hb c hc hc2 k5
  by_cases k6 : (numN b : Int) = 6
  · exact rTk6 h hb c hc hc2 k6
  by_cases k7 : (numN b : Int) = 7
  · exact rTk7 h hb c hc hc2 k7
  exact rTko h hb c hc hc2 (by omega)
end Go.Proofs.Ytmbjbbflhlndcaa
