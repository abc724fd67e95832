/-
  lumperlaw08.EventTells: its walk.
-/
import Derived.Test.YtmbjbbflhlndcaaLu3
import Derived.Test.YtmbjbbflhlndcaaLw3
namespace Go.Proofs.Ytmbjbbflhlndcaa
open Go.RowKit BigFrame
set_option linter.unusedVariables false
set_option linter.unusedSimpArgs false

theorem pEPutB {w : World} {A : Option Addr} {b : List UInt8} (h : Rb w A b) (hb : b.length ≤ 100000000) (c : Nat) (e : Ev) (h64 : Ev64 e) : Calls Try.prog 32 #[.slice A b.length c, .agg (encV e).toArray] w (RetBE w (if fairB e then b ++ encE e else []) (if fairB e then 0 else 80)) := by
  cases hf : fairB e with
  | false => exact pEPutN h (by omega) c e h64 hf
  | true => exact pEPutY h (by omega) c e h64 hf
theorem rEPutB {w : World} {A : Option Addr} {b : List UInt8} (h : Rb w A b) (hb : b.length ≤ 100000000) (c : Nat) (e : Ev) (h64 : Ev64 e) : Calls Try.prog 35 #[.slice A b.length c, .agg (encV e).toArray] w (RetBE w (if fairB e then b ++ encE e else []) (if fairB e then 0 else 80)) := by
  cases hf : fairB e with
  | false => exact rEPutN h (by omega) c e h64 hf
  | true => exact rEPutY h (by omega) c e h64 hf
theorem rETakeAny {w : World} {A : Option Addr} {b : List UInt8} (h : Rb w A b) (hb : b.length ≤ 100000000) (c : Nat) (hc : b.length ≤ c) (hc2 : c ≤ maxLen) : Calls Try.prog 36 #[.slice A b.length c] w fun e w' => Ext w w' ∧ ∃ A' c', e = .returned (.tuple #[.agg (encV (evT b)).toArray, .slice A' (rsT b).length c', .int .i64 (erT b)]) ∧ Rb w' A' (rsT b) := by
  refine (rETake h hb c hc (by unfold maxLen at hc2; omega)).mono ?_
  rintro e w' ⟨x, h⟩
  refine ⟨x, ?_⟩
  unfold evT rsT erT
  cases hd : decE b with
  | none => rw [hd] at h; exact ⟨none, 0, h, Rw.nil⟩
  | some q =>
    obtain ⟨y, r⟩ := q
    rw [hd] at h
    obtain ⟨A', c', he, hr, _⟩ := h
    exact ⟨A', c', he, hr⟩

set_option maxRecDepth 100000 in
set_option maxHeartbeats 8000000 in
theorem tells08 {cs : List Value} {pl : Int} {ne nc ng nr : Nat} (hsE : SuE cs pl ne nc ng nr) {F : Bool} (kF : ∀ W, Calls Try.prog 61 #[.agg cs.toArray] W (RetB W F)) {w : World} {Al : Option Addr} {l : List Ev} (hl : Re w Al l) (cl : Nat) (a b : Ev) (h64 : Ev64 a) {A : Option Addr} {bs : List UInt8} (hb : Rb w A bs) (c : Nat) (hc : bs.length ≤ c ∧ c ≤ maxLen) :
    Calls Try.prog 10 #[.agg cs.toArray, .slice Al l.length cl, .agg (encV a).toArray, .agg (encV b).toArray, .slice A bs.length c] w (RetB w true) := by
  obtain ⟨W0, hW0⟩ : ∃ W0, ((w.alloc (.cells cs.toArray 55)).alloc (.cells (encV a).toArray 23)).alloc (.cells (encV b).toArray 23) = W0 := ⟨_, rfl⟩
  have F0_S : Hid (Bx W0 w.heap.size cs 55) := by rw [← hW0]; exact ((Bx.new w cs 55).alloc _).alloc _
  have F0_A : Hid (Bx W0 (w.heap.size + 1) (encV a) 23) := by
    rw [← hW0]
    have := (Bx.new (w.alloc (.cells cs.toArray 55)) (encV a) 23).alloc (.cells (encV b).toArray 23)
    rwa [show (w.alloc (.cells cs.toArray 55)).heap.size = w.heap.size + 1 from by simp] at this
  have F0_B : Hid (Bx W0 (w.heap.size + 2) (encV b) 23) := by
    rw [← hW0]
    have := Bx.new ((w.alloc (.cells cs.toArray 55)).alloc (.cells (encV a).toArray 23)) (encV b) 23
    rwa [show ((w.alloc (.cells cs.toArray 55)).alloc (.cells (encV a).toArray 23)).heap.size = w.heap.size + 2 from by simp] at this
  have F0_X : Hid (Ext w W0) := by rw [← hW0]; exact (((Ext.refl w).alloc _).alloc _).alloc _
  have F0_R := Lib.hid (hb.ext F0_X.out)
  have F0_L := Lib.hid (hl.ext F0_X.out)
  have hsz : (Try.prog.info? 55).map (·.size) = some cs.toArray.size := by rw [sizeS]; simp [hsE.len]
  replace hsz := Lib.hid hsz; replace kF := Lib.hid kF; replace hsE := Lib.hid hsE; replace hW0 := Lib.hid hW0; replace hc := Lib.hid hc
  clear hb hl
  go_enter Try.func10, Try.ntmps10
  go_wp2_with fail
  rw [hW0.out]
  refine (awake08 _).mono ?_
  rintro e1 w1 ⟨rfl, y1⟩
  have F1_S := Lib.hid (F0_S.out.ext y1)
  have F1_A := Lib.hid (F0_A.out.ext y1)
  have F1_B := Lib.hid (F0_B.out.ext y1)
  have F1_X := Lib.hid (F0_X.out.trans y1)
  have F1_R := Lib.hid (F0_R.out.ext y1)
  have F1_L := Lib.hid (F0_L.out.ext y1)
  clear F0_S F0_A F0_B F0_X F0_R F0_L y1
  go_wp2_with (first | (refine load_box (by rfl) 55 _ rfl (w.heap.size) rfl _ _ F1_S.out _ Try.underlying55 rfl hsz.out ?_))
  refine (pFew08 hsE.out.len kF.out _).mono ?_
  rintro e2 w2 ⟨rfl, y2⟩
  have F2_S := Lib.hid (F1_S.out.ext y2)
  have F2_A := Lib.hid (F1_A.out.ext y2)
  have F2_B := Lib.hid (F1_B.out.ext y2)
  have F2_X := Lib.hid (F1_X.out.trans y2)
  have F2_R := Lib.hid (F1_R.out.ext y2)
  have F2_L := Lib.hid (F1_L.out.ext y2)
  clear F1_S F1_A F1_B F1_X F1_R F1_L y2
  clear kF hW0
  cases F with
  | false =>
    go_wp2_with fail
    go_ret
    exact ⟨rfl, F2_X.out⟩
  | true =>
  by_cases hll : 100 < l.length
  · have d1 : decide ((100 : Int) < (l.length : Int)) = true := decide_eq_true (by omega)
    go_wp2_with fail
    go_ret
    exact ⟨rfl, F2_X.out⟩
  have d1 : decide ((100 : Int) < (l.length : Int)) = false := decide_eq_false (by omega)
  have ll : Hid (l.length ≤ 100) := by show _ ≤ _; omega
  by_cases hbl : 1000 < bs.length
  · have d2 : decide ((1000 : Int) < (bs.length : Int)) = true := decide_eq_true (by omega)
    go_wp2_with fail
    go_ret
    exact ⟨rfl, F2_X.out⟩
  have d2 : decide ((1000 : Int) < (bs.length : Int)) = false := decide_eq_false (by omega)
  have lb : Hid (bs.length ≤ 1000) := by show _ ≤ _; omega
  clear hll hbl
  have lbs := lb.out
  go_wp2_with (first | (refine load_box (by rfl) 23 _ rfl (w.heap.size + 1) rfl _ _ F2_A.out _ Try.underlying23 rfl sizeV ?_))
  obtain ⟨V, hV⟩ : ∃ V, (if fairB a then bs ++ encE a else []) = V := ⟨_, rfl⟩
  obtain ⟨r, hr⟩ : ∃ r : Int, (if fairB a then 0 else 80 : Int) = r := ⟨_, rfl⟩
  have k1 : Hid (∀ W, Rb W A bs → Calls Try.prog 32 #[.slice A bs.length c, .agg (encV a).toArray] W (RetBE W V r)) := fun W h => by rw [← hV, ← hr]; exact pEPutB h (by omega) c a h64
  have k2 : Hid (∀ W, Rb W A bs → Calls Try.prog 35 #[.slice A bs.length c, .agg (encV a).toArray] W (RetBE W V r)) := fun W h => by rw [← hV, ← hr]; exact rEPutB h (by omega) c a h64
  obtain ⟨E, hE⟩ : ∃ E, evT bs = E := ⟨_, rfl⟩
  obtain ⟨S, hS⟩ : ∃ E, rsT bs = E := ⟨_, rfl⟩
  obtain ⟨q, hq⟩ : ∃ E, erT bs = E := ⟨_, rfl⟩
  have k3 : Hid (∀ W, Rb W A bs → Calls Try.prog 33 #[.slice A bs.length c] W fun e w' => Ext W w' ∧ ∃ A' c', e = .returned (.tuple #[.agg (encV E).toArray, .slice A' S.length c', .int .i64 q]) ∧ Rb w' A' S) := fun W h => by rw [← hE, ← hS, ← hq]; exact pETakeAny h (by omega) c hc.out.1 hc.out.2
  have k4 : Hid (∀ W, Rb W A bs → Calls Try.prog 36 #[.slice A bs.length c] W fun e w' => Ext W w' ∧ ∃ A' c', e = .returned (.tuple #[.agg (encV E).toArray, .slice A' S.length c', .int .i64 q]) ∧ Rb w' A' S) := fun W h => by rw [← hE, ← hS, ← hq]; exact rETakeAny h (by omega) c hc.out.1 hc.out.2
  clear hV hr hE hS hq lbs
  refine (k1.out _ F2_R.out).mono ?_
  rintro e3 w3 ⟨A3, c3, rfl, r3, y3, _⟩
  have F3_S := Lib.hid (F2_S.out.ext y3)
  have F3_A := Lib.hid (F2_A.out.ext y3)
  have F3_B := Lib.hid (F2_B.out.ext y3)
  have F3_X := Lib.hid (F2_X.out.trans y3)
  have F3_R := Lib.hid (F2_R.out.ext y3)
  have F3_L := Lib.hid (F2_L.out.ext y3)
  have F3_P1 := Lib.hid (r3)
  clear F2_S F2_A F2_B F2_X F2_R F2_L y3
  clear r3 k1
  go_wp2_with (first | (refine load_box (by rfl) 23 _ rfl (w.heap.size + 1) rfl _ _ F3_A.out _ Try.underlying23 rfl sizeV ?_))
  refine (k2.out _ F3_R.out).mono ?_
  rintro e4 w4 ⟨A4, c4, rfl, r4, y4, _⟩
  have F4_S := Lib.hid (F3_S.out.ext y4)
  have F4_A := Lib.hid (F3_A.out.ext y4)
  have F4_B := Lib.hid (F3_B.out.ext y4)
  have F4_X := Lib.hid (F3_X.out.trans y4)
  have F4_R := Lib.hid (F3_R.out.ext y4)
  have F4_L := Lib.hid (F3_L.out.ext y4)
  have F4_P1 := Lib.hid (F3_P1.out.ext y4)
  have F4_P2 := Lib.hid (r4)
  clear F3_S F3_A F3_B F3_X F3_R F3_L F3_P1 y4
  clear r4 k2
  go_wp2_with fail
  refine (k3.out _ F4_R.out).mono ?_
  rintro e5 w5 ⟨y5, A5, c5, rfl, r5⟩
  have F5_S := Lib.hid ((F4_S.out.ext y5).alloc (.cells (encV E).toArray 23))
  have F5_A := Lib.hid ((F4_A.out.ext y5).alloc (.cells (encV E).toArray 23))
  have F5_B := Lib.hid ((F4_B.out.ext y5).alloc (.cells (encV E).toArray 23))
  have F5_X := Lib.hid ((F4_X.out.trans y5).alloc (.cells (encV E).toArray 23))
  have F5_R := Lib.hid ((F4_R.out.ext y5).alloc (.cells (encV E).toArray 23))
  have F5_L := Lib.hid ((F4_L.out.ext y5).alloc (.cells (encV E).toArray 23))
  have F5_P1 := Lib.hid ((F4_P1.out.ext y5).alloc (.cells (encV E).toArray 23))
  have F5_P2 := Lib.hid ((F4_P2.out.ext y5).alloc (.cells (encV E).toArray 23))
  have F5_S1 := Lib.hid (r5.alloc (.cells (encV E).toArray 23))
  have F5_C1 := Lib.hid (Bx.new w5 (encV E) 23)
  clear F4_S F4_A F4_B F4_X F4_R F4_L F4_P1 F4_P2 y5
  clear r5 k3
  go_wp2_with (first | (refine store_newE rfl 23 _ _ (by rfl) w5 w5.heap.size rfl (encV ev0).toArray (encV E).toArray 23 (by rfl) (by rfl) (by rfl) sizeV rfl (cells_ok E) ?_))
  obtain ⟨v5, hv5⟩ : ∃ W, w5.alloc (.cells (encV E).toArray 23) = W := ⟨_, rfl⟩
  obtain ⟨g5, hg5⟩ : ∃ g, w5.heap.size = g := ⟨_, rfl⟩
  rw [hv5] at F5_S F5_A F5_B F5_X F5_R F5_L F5_P1 F5_P2 F5_S1 F5_C1 ⊢
  rw [hg5] at F5_C1 ⊢
  clear hv5 hg5
  refine (k4.out _ F5_R.out).mono ?_
  rintro e6 w6 ⟨y6, A6, c6, rfl, r6⟩
  have F6_S := Lib.hid ((F5_S.out.ext y6).alloc (.cells (encV E).toArray 23))
  have F6_A := Lib.hid ((F5_A.out.ext y6).alloc (.cells (encV E).toArray 23))
  have F6_B := Lib.hid ((F5_B.out.ext y6).alloc (.cells (encV E).toArray 23))
  have F6_X := Lib.hid ((F5_X.out.trans y6).alloc (.cells (encV E).toArray 23))
  have F6_R := Lib.hid ((F5_R.out.ext y6).alloc (.cells (encV E).toArray 23))
  have F6_L := Lib.hid ((F5_L.out.ext y6).alloc (.cells (encV E).toArray 23))
  have F6_P1 := Lib.hid ((F5_P1.out.ext y6).alloc (.cells (encV E).toArray 23))
  have F6_P2 := Lib.hid ((F5_P2.out.ext y6).alloc (.cells (encV E).toArray 23))
  have F6_S1 := Lib.hid ((F5_S1.out.ext y6).alloc (.cells (encV E).toArray 23))
  have F6_C1 := Lib.hid ((F5_C1.out.ext y6).alloc (.cells (encV E).toArray 23))
  have F6_S2 := Lib.hid (r6.alloc (.cells (encV E).toArray 23))
  have F6_C2 := Lib.hid (Bx.new w6 (encV E) 23)
  clear F5_S F5_A F5_B F5_X F5_R F5_L F5_P1 F5_P2 F5_S1 F5_C1 y6
  clear r6 k4
  go_wp2_with (first | (refine store_newE rfl 23 _ _ (by rfl) w6 w6.heap.size rfl (encV ev0).toArray (encV E).toArray 23 (by rfl) (by rfl) (by rfl) sizeV rfl (cells_ok E) ?_))
  obtain ⟨v6, hv6⟩ : ∃ W, w6.alloc (.cells (encV E).toArray 23) = W := ⟨_, rfl⟩
  obtain ⟨g6, hg6⟩ : ∃ g, w6.heap.size = g := ⟨_, rfl⟩
  rw [hv6] at F6_S F6_A F6_B F6_X F6_R F6_L F6_P1 F6_P2 F6_S1 F6_C1 F6_S2 F6_C2 ⊢
  rw [hg6] at F6_C2 ⊢
  clear hv6 hg6
  obtain ⟨D, hD⟩ : ∃ D, checkE pl ne nc ng nr a = D := ⟨_, rfl⟩
  obtain ⟨LL, hLL⟩ : ∃ D, lessE a b = D := ⟨_, rfl⟩
  have kc1 := Lib.hid (fun W => pCheckE hsE.out a W); have kc2 := Lib.hid (fun W => rCheckE hsE.out a W)
  have kl1 := Lib.hid (fun W => pLess a b W); have kl2 := Lib.hid (fun W => rLess a b W)
  rw [hD] at kc1 kc2
  rw [hLL] at kl1 kl2
  clear hD hLL
  have HS0 : Hid ((Bx (v6.drewN 1) w.heap.size cs 55) ∧ (Bx (v6.drewN 1) (w.heap.size + 1) (encV a) 23) ∧ (Bx (v6.drewN 1) (w.heap.size + 2) (encV b) 23)) := ⟨F6_S.out.drewN 1, F6_A.out.drewN 1, F6_B.out.drewN 1⟩
  have hX0 : Hid (Ext v6 (v6.drewN 1)) := (Ext.refl v6).drewN 1
  go_wp2_with fail
  refine held_start (S := fun W => (Bx W w.heap.size cs 55) ∧ (Bx W (w.heap.size + 1) (encV a) 23) ∧ (Bx W (w.heap.size + 2) (encV b) 23)) 24 rfl (by kernel_rfl) ?_
  have hW9 : { v6 with drawn := v6.drawn + 1 } = v6.drewN 1 := rfl
  rw [hW9]
  clear hW9
  refine held_boxV (i := 0) rfl (by kernel_rfl) (by kernel_rfl) (by kernel_rfl) rfl 55 _ rfl w.heap.size rfl cs 55 (fun w h => h.1) _ Try.underlying55 rfl hsz.out HS0.out _ (by simp [Act.put]; rfl) ?_
  refine held_boxV (i := 1) rfl (by kernel_rfl) (by kernel_rfl) (by kernel_rfl) rfl 23 _ rfl (w.heap.size + 1) rfl (encV a) 23 (fun w h => h.2.1) _ Try.underlying23 rfl sizeV HS0.out _ (by simp [Act.put]; rfl) ?_
  refine held_boxV (i := 3) rfl (by kernel_rfl) (by kernel_rfl) (by kernel_rfl) rfl 55 _ rfl w.heap.size rfl cs 55 (fun w h => h.1) _ Try.underlying55 rfl hsz.out HS0.out _ (by simp [Act.put]; rfl) ?_
  refine held_boxV (i := 4) rfl (by kernel_rfl) (by kernel_rfl) (by kernel_rfl) rfl 23 _ rfl (w.heap.size + 1) rfl (encV a) 23 (fun w h => h.2.1) _ Try.underlying23 rfl sizeV HS0.out _ (by simp [Act.put]; rfl) ?_
  refine held_all (i := 2) rfl (by kernel_rfl) rfl ?_
  go_wp2_with fail
  refine (kc1.out _).mono ?_
  rintro ewa wa ⟨rfl, ywa⟩
  have HS1 : Hid ((Bx wa w.heap.size cs 55) ∧ (Bx wa (w.heap.size + 1) (encV a) 23) ∧ (Bx wa (w.heap.size + 2) (encV b) 23)) := ⟨HS0.out.1.ext ywa, HS0.out.2.1.ext ywa, HS0.out.2.2.ext ywa⟩
  have hX1 := Lib.hid (hX0.out.trans ywa)
  refine ⟨HS1.out, ?_⟩
  refine held_all (i := 5) rfl (by kernel_rfl) rfl ?_
  go_wp2_with fail
  refine (kc2.out _).mono ?_
  rintro ewb wb ⟨rfl, ywb⟩
  have HS2 : Hid ((Bx wb w.heap.size cs 55) ∧ (Bx wb (w.heap.size + 1) (encV a) 23) ∧ (Bx wb (w.heap.size + 2) (encV b) 23)) := ⟨HS1.out.1.ext ywb, HS1.out.2.1.ext ywb, HS1.out.2.2.ext ywb⟩
  have hX2 := Lib.hid (hX1.out.trans ywb)
  refine ⟨HS2.out, ?_⟩
  refine held_takeV (i := 6) rfl (by kernel_rfl) (by kernel_rfl) (by kernel_rfl) (.bool true) rfl (fun w _ => by go_simp) HS2.out _ (by simp [Act.put]; rfl) ?_
  refine held_move (i := 7) rfl (by kernel_rfl) (by kernel_rfl) (by kernel_rfl) _ rfl rfl HS2.out _ (by simp [Act.put]; rfl) ?_
  refine held_boxV (i := 8) rfl (by kernel_rfl) (by kernel_rfl) (by kernel_rfl) rfl 23 _ rfl (w.heap.size + 1) rfl (encV a) 23 (fun w h => h.2.1) _ Try.underlying23 rfl sizeV HS2.out _ (by simp [Act.put]; rfl) ?_
  refine held_boxV (i := 9) rfl (by kernel_rfl) (by kernel_rfl) (by kernel_rfl) rfl 23 _ rfl (w.heap.size + 2) rfl (encV b) 23 (fun w h => h.2.2) _ Try.underlying23 rfl sizeV HS2.out _ (by simp [Act.put]; rfl) ?_
  refine held_boxV (i := 11) rfl (by kernel_rfl) (by kernel_rfl) (by kernel_rfl) rfl 23 _ rfl (w.heap.size + 1) rfl (encV a) 23 (fun w h => h.2.1) _ Try.underlying23 rfl sizeV HS2.out _ (by simp [Act.put]; rfl) ?_
  refine held_boxV (i := 12) rfl (by kernel_rfl) (by kernel_rfl) (by kernel_rfl) rfl 23 _ rfl (w.heap.size + 2) rfl (encV b) 23 (fun w h => h.2.2) _ Try.underlying23 rfl sizeV HS2.out _ (by simp [Act.put]; rfl) ?_
  refine held_all (i := 10) rfl (by kernel_rfl) rfl ?_
  go_wp2_with fail
  refine (kl1.out _).mono ?_
  rintro ewc wc ⟨rfl, ywc⟩
  have HS3 : Hid ((Bx wc w.heap.size cs 55) ∧ (Bx wc (w.heap.size + 1) (encV a) 23) ∧ (Bx wc (w.heap.size + 2) (encV b) 23)) := ⟨HS2.out.1.ext ywc, HS2.out.2.1.ext ywc, HS2.out.2.2.ext ywc⟩
  have hX3 := Lib.hid (hX2.out.trans ywc)
  refine ⟨HS3.out, ?_⟩
  refine held_all (i := 13) rfl (by kernel_rfl) rfl ?_
  go_wp2_with fail
  refine (kl2.out _).mono ?_
  rintro ewd wd ⟨rfl, ywd⟩
  have HS4 : Hid ((Bx wd w.heap.size cs 55) ∧ (Bx wd (w.heap.size + 1) (encV a) 23) ∧ (Bx wd (w.heap.size + 2) (encV b) 23)) := ⟨HS3.out.1.ext ywd, HS3.out.2.1.ext ywd, HS3.out.2.2.ext ywd⟩
  have hX4 := Lib.hid (hX3.out.trans ywd)
  refine ⟨HS4.out, ?_⟩
  refine held_takeV (i := 14) rfl (by kernel_rfl) (by kernel_rfl) (by kernel_rfl) (.bool true) rfl (fun w _ => by go_simp) HS4.out _ (by simp [Act.put]; rfl) ?_
  refine held_takeV (i := 15) rfl (by kernel_rfl) (by kernel_rfl) (by kernel_rfl) (.bool true) rfl (fun w _ => by go_simp) HS4.out _ (by simp [Act.put]; rfl) ?_
  refine held_move (i := 16) rfl (by kernel_rfl) (by kernel_rfl) (by kernel_rfl) _ rfl rfl HS4.out _ (by simp [Act.put]; rfl) ?_
  refine held_move (i := 17) rfl (by kernel_rfl) (by kernel_rfl) (by kernel_rfl) _ rfl rfl HS4.out _ (by simp [Act.put]; rfl) ?_
  refine held_move (i := 19) rfl (by kernel_rfl) (by kernel_rfl) (by kernel_rfl) _ rfl rfl HS4.out _ (by simp [Act.put]; rfl) ?_
  have lll := ll.out
  obtain ⟨SL, hSL⟩ : ∃ M, sortE l = M := ⟨_, rfl⟩
  have lSL : Hid (SL.length ≤ 100) := by show _ ≤ _; rw [← hSL, sortE_len]; exact lll
  have ks1 : Hid (∀ W, Re W Al l → Calls Try.prog 41 #[.slice Al l.length cl] W (RetEs W SL)) := fun W h => by rw [← hSL]; exact pSort h (by omega) cl
  have ks2 : Hid (∀ W, Re W Al l → Calls Try.prog 42 #[.slice Al l.length cl] W (RetEs W SL)) := fun W h => by rw [← hSL]; exact rSort h (by omega) cl
  clear hSL lll
  refine held_all (i := 18) rfl (by kernel_rfl) rfl ?_
  go_wp2_with fail
  refine (ks1.out _ (F6_L.out.ext hX4.out)).mono ?_
  rintro ewe we ⟨A9, c9, rfl, rwe, ywe, _⟩
  have HS5 : Hid ((Bx we w.heap.size cs 55) ∧ (Bx we (w.heap.size + 1) (encV a) 23) ∧ (Bx we (w.heap.size + 2) (encV b) 23)) := ⟨HS4.out.1.ext ywe, HS4.out.2.1.ext ywe, HS4.out.2.2.ext ywe⟩
  have hX5 := Lib.hid (hX4.out.trans ywe)
  refine ⟨HS5.out, ?_⟩
  refine held_all (i := 20) rfl (by kernel_rfl) rfl ?_
  go_wp2_with fail
  refine (ks2.out _ (F6_L.out.ext hX5.out)).mono ?_
  rintro ewf wf ⟨A10, c10, rfl, rwf, ywf, _⟩
  have HS6 : Hid ((Bx wf w.heap.size cs 55) ∧ (Bx wf (w.heap.size + 1) (encV a) 23) ∧ (Bx wf (w.heap.size + 2) (encV b) 23)) := ⟨HS5.out.1.ext ywf, HS5.out.2.1.ext ywf, HS5.out.2.2.ext ywf⟩
  have hX6 := Lib.hid (hX5.out.trans ywf)
  refine ⟨HS6.out, ?_⟩
  have kSm := rSameE (rwe.ext ywf) rwf (by have := lSL.out; omega) c9 c10 (by have := lSL.out; omega)
  rw [decide_eq_true (rfl : SL = SL)] at kSm
  replace kSm := Lib.hid kSm
  refine held_all (i := 21) rfl (by kernel_rfl) rfl ?_
  go_wp2_with fail
  refine (kSm.out).mono ?_
  rintro ewg wg ⟨rfl, ywg⟩
  have HS7 : Hid ((Bx wg w.heap.size cs 55) ∧ (Bx wg (w.heap.size + 1) (encV a) 23) ∧ (Bx wg (w.heap.size + 2) (encV b) 23)) := ⟨HS6.out.1.ext ywg, HS6.out.2.1.ext ywg, HS6.out.2.2.ext ywg⟩
  have hX7 := Lib.hid (hX6.out.trans ywg)
  refine ⟨HS7.out, ?_⟩
  refine held_takeV (i := 22) rfl (by kernel_rfl) (by kernel_rfl) (by kernel_rfl) (.bool true) rfl (fun w _ => by go_simp) HS7.out _ (by simp [Act.put]; rfl) ?_
  refine held_assign (i := 23) rfl (by kernel_rfl) (by kernel_rfl) (by kernel_rfl) _ rfl rfl HS7.out _ (by simp [Act.put]; rfl) ?_
  refine held_done (by kernel_rfl) ?_ _
  have s1 := run_str (F6_P1.out.ext hX7.out) c3; have s2 := run_str (F6_P2.out.ext hX7.out) c4; have s3 := run_str (F6_S1.out.ext hX7.out) c5; have s4 := run_str (F6_S2.out.ext hX7.out) c6
  have G1 := Lib.hid (F6_C1.out.ext hX7.out); have G2 := Lib.hid (F6_C2.out.ext hX7.out)
  have hqE : ∀ w, (Op.equalIn 10000 23 (.agg (encV E).toArray) (.agg (encV E).toArray)).run Try.prog w = .ok true w := fun w => by
    have := eqInV E E w
    rwa [decide_eq_true (rfl : E = E)] at this
  have XF := Lib.hid (F6_X.out.trans hX7.out)
  clear kSm HS7 HS6 HS5 HS4 HS3 HS2 HS1 HS0
  go_wp2_with (first | (refine load_box (by rfl) 23 _ rfl g5 rfl _ _ G1.out _ Try.underlying23 rfl sizeV ?_) | (refine load_box (by rfl) 23 _ rfl g6 rfl _ _ G2.out _ Try.underlying23 rfl sizeV ?_))
  go_ret
  exact ⟨rfl, XF.out⟩
theorem tells08' (s : Su) (g : Sh) {w : World} {Al : Option Addr} {l : List Ev} (hl : Re w Al l) (cl : Nat) (a b : Ev) (h64 : Ev64 a) {A : Option Addr} {bs : List UInt8} (hb : Rb w A bs) (c : Nat) (hc : bs.length ≤ c ∧ c ≤ maxLen) :
    Calls Try.prog 10 #[.agg (s.cells g).toArray, .slice Al l.length cl, .agg (encV a).toArray, .agg (encV b).toArray, .slice A bs.length c] w (RetB w true) := by
  obtain ⟨F, _, kF⟩ := fewB s g
  exact tells08 (suE_of s g) kF hl cl a b h64 hb c hc
end Go.Proofs.Ytmbjbbflhlndcaa
