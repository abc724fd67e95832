/-
  CmdsTell: the walk.
-/
import Derived.Test.YtmbjbbflhlndcaaKt2
import Derived.Test.YtmbjbbflhlndcaaKs2
import Derived.Test.YtmbjbbflhlndcaaKo2
namespace Go.Proofs.Ytmbjbbflhlndcaa
open Go.RowKit BigFrame
set_option linter.unusedVariables false
set_option linter.unusedSimpArgs false

def putV (b : List UInt8) (c : Cm) : List UInt8 := if plainC c = true then b ++ encM c else []
def putN (c : Cm) : Int := if plainC c = true then 0 else 240
def takeX (b : List UInt8) : Cm := match decC b with | some (c, _) => c | none => cm0
def takeS (b : List UInt8) : List UInt8 := match decC b with | some (_, s) => s | none => []
def takeN (b : List UInt8) : Int := match decC b with | some _ => 0 | none => 240
def writeV (l : List Cm) : List UInt8 := if l.all plainC = true then encL l else []
def writeN (l : List Cm) : Int := if l.all plainC = true then 0 else 240
def readV (b : List UInt8) : List Cm := match decL b.length b with | some Y => Y | none => []
def readN (b : List UInt8) : Int := match decL b.length b with | some _ => 0 | none => 240
def RetV (w : World) (V : List UInt8) (r : Int) (e : Ending) (w' : World) : Prop := ∃ A cap, e = .returned (.tuple #[.slice A V.length cap, .int .i64 r]) ∧ Rb w' A V ∧ Ext w w'
def RetT (w : World) (x : Cm) (s : List UInt8) (r : Int) (e : Ending) (w' : World) : Prop := ∃ A cap, e = .returned (.tuple #[.agg (encC x).toArray, .slice A s.length cap, .int .i64 r]) ∧ Rb w' A s ∧ Ext w w'
def RetR (w : World) (Y : List Cm) (r : Int) (e : Ending) (w' : World) : Prop := ∃ A cap, e = .returned (.tuple #[.slice A Y.length cap, .int .i64 r]) ∧ Rc w' A Y ∧ Ext w w'
theorem retV_of {w : World} {V : List UInt8} {r : Int} {e : Ending} {w' : World} (h : RetBE w V r e w') : RetV w V r e w' := by
  obtain ⟨A, cap, he, hr, hx, _⟩ := h
  exact ⟨A, cap, he, hr, hx⟩
section
variable {w : World} {A : Option Addr} {b : List UInt8} {l : List Cm}
theorem pPutV (h : Rb w A b) (hb : b.length ≤ 100000000) (cb : Nat) (c : Cm) (h64 : Cm64 c) : Calls Try.prog 19 #[.slice A b.length cb, .agg (encC c).toArray] w (RetV w (putV b c) (putN c)) := by
  unfold putV putN
  cases hp : plainC c
  · exact (pMPutN h (by omega) cb c h64 hp).mono fun _ _ h => retV_of h
  · exact (pMPutY h (by omega) cb c h64 hp).mono fun _ _ h => retV_of h
theorem rPutV (h : Rb w A b) (hb : b.length ≤ 100000000) (cb : Nat) (c : Cm) (h64 : Cm64 c) : Calls Try.prog 20 #[.slice A b.length cb, .agg (encC c).toArray] w (RetV w (putV b c) (putN c)) := by
  unfold putV putN
  cases hp : plainC c
  · exact (rMPutN h hb cb c h64 hp).mono fun _ _ h => retV_of h
  · exact (rMPutY h hb cb c h64 hp).mono fun _ _ h => retV_of h
theorem pTakeV (h : Rb w A b) (hb : b.length ≤ 100000000) (c : Nat) (hc : b.length ≤ c) (hc2 : c ≤ maxLen) : Calls Try.prog 21 #[.slice A b.length c] w (RetT w (takeX b) (takeS b) (takeN b)) := by
  refine (pMTake h hb c hc hc2).mono fun e w' ⟨x, hr⟩ => ?_
  unfold takeX takeS takeN
  cases hd : decC b with
  | none => rw [hd] at hr; exact ⟨none, 0, hr, Rw.nil, x⟩
  | some q => obtain ⟨c, s⟩ := q; rw [hd] at hr; obtain ⟨A2, c2, he, h1, _⟩ := hr; exact ⟨A2, c2, he, h1, x⟩
theorem rTakeV (h : Rb w A b) (hb : b.length ≤ 100000000) (c : Nat) (hc : b.length ≤ c) (hc2 : c ≤ 9223372036854775807) : Calls Try.prog 22 #[.slice A b.length c] w (RetT w (takeX b) (takeS b) (takeN b)) := by
  refine (rMTake h hb c hc hc2).mono fun e w' ⟨x, hr⟩ => ?_
  unfold takeX takeS takeN
  cases hd : decC b with
  | none => rw [hd] at hr; exact ⟨none, 0, hr, Rw.nil, x⟩
  | some q => obtain ⟨c, s⟩ := q; rw [hd] at hr; obtain ⟨A2, c2, he, h1, _⟩ := hr; exact ⟨A2, c2, he, h1, x⟩
theorem pWriteV (h : Rc w A l) (h64 : ∀ c ∈ l, Cm64 c) (hl : l.length ≤ 100000) (cb : Nat) : Calls Try.prog 23 #[.slice A l.length cb] w (RetV w (writeV l) (writeN l)) := by
  have hb := encL_le h64
  unfold writeV writeN
  cases hp : l.all plainC
  · have hp2 : ∃ c ∈ l, plainC c = false := by
      rw [List.all_eq_false] at hp
      obtain ⟨c, hc, h⟩ := hp
      exact ⟨c, hc, by simpa using h⟩
    exact (pMWriteN h h64 (by omega) (by omega) cb hp2).mono fun _ _ h => retV_of h
  · have hp2 : ∀ c ∈ l, plainC c = true := by simpa [List.all_eq_true] using hp
    exact (pMWriteY h h64 (by omega) (by omega) cb hp2).mono fun _ _ h => retV_of h
theorem rWriteV (h : Rc w A l) (h64 : ∀ c ∈ l, Cm64 c) (hl : l.length ≤ 100000) (cb : Nat) : Calls Try.prog 24 #[.slice A l.length cb] w (RetV w (writeV l) (writeN l)) := by
  have hb := encL_le h64
  unfold writeV writeN
  cases hp : l.all plainC
  · have hp2 : ∃ c ∈ l, plainC c = false := by
      rw [List.all_eq_false] at hp
      obtain ⟨c, hc, h⟩ := hp
      exact ⟨c, hc, by simpa using h⟩
    exact (rMWriteN h h64 (by omega) (by omega) cb hp2).mono fun _ _ h => retV_of h
  · have hp2 : ∀ c ∈ l, plainC c = true := by simpa [List.all_eq_true] using hp
    exact (rMWriteY h h64 (by omega) (by omega) cb hp2).mono fun _ _ h => retV_of h
theorem retR_of {w' : World} {e : Ending} (h : RetRd w (decL b.length b) e w') : RetR w (readV b) (readN b) e w' := by
  obtain ⟨x, hr⟩ := h
  unfold readV readN
  cases hd : decL b.length b with
  | none => rw [hd] at hr; exact ⟨none, 0, hr, Rw.nil, x⟩
  | some Y => rw [hd] at hr; obtain ⟨A2, c2, he, h1, _⟩ := hr; exact ⟨A2, c2, he, h1, x⟩
theorem readV_len (b : List UInt8) : (readV b).length ≤ b.length := by
  unfold readV
  cases hd : decL b.length b with
  | none => exact Nat.zero_le _
  | some Y =>
    obtain ⟨q1, q2, q3⟩ := decL_some _ hd
    have := encL_ge q1 q2
    rw [q3] at this
    exact this
theorem pReadV (h : Rb w A b) (hb : b.length ≤ 1000000) (cb : Nat) (hc : b.length ≤ cb) (hc2 : cb ≤ maxLen) : Calls Try.prog 25 #[.slice A b.length cb] w (RetR w (readV b) (readN b)) :=
  (pMRead h hb cb hc hc2).mono fun _ _ h => retR_of h
theorem rReadV (h : Rb w A b) (hb : b.length ≤ 1000000) (cb : Nat) (hc : b.length ≤ cb) (hc2 : cb ≤ maxLen) : Calls Try.prog 26 #[.slice A b.length cb] w (RetR w (readV b) (readN b)) :=
  (rMRead h hb cb hc hc2).mono fun _ _ h => retR_of h
end

set_option maxRecDepth 100000 in
set_option maxHeartbeats 4000000 in
theorem tell24 {w : World} {A1 A2 : Option Addr} {l : List Cm} {b : List UInt8} (c : Cm) (hc64 : Cm64 c) (h1 : Rc w A1 l) (h2 : Rb w A2 b) (h64 : ∀ c ∈ l, Cm64 c) (c1 c2 : Nat) (hl : l.length ≤ c1 ∧ c1 ≤ maxLen) (hb : b.length ≤ c2 ∧ c2 ≤ maxLen) :
    Calls Try.prog 3 #[.agg (encC c).toArray, .slice A1 l.length c1, .slice A2 b.length c2] w (RetB w true) := by
  replace h1 := Lib.hid h1; replace h2 := Lib.hid h2; replace h64 := Lib.hid h64; replace hc64 := Lib.hid hc64
  have hml : l.length ≤ 9223372036854775807 := by unfold maxLen at hl; omega
  have hmb : b.length ≤ 9223372036854775807 := by unfold maxLen at hb; omega
  have hc9 : c2 ≤ 9223372036854775807 := by unfold maxLen at hb; omega
  have F0_HB := Lib.hid (Bx.new w (encC c) 27)
  have F0_X := Lib.hid ((Ext.refl w).alloc (.cells (encC c).toArray 27))
  have F0_L := Lib.hid (h1.out.alloc (.cells (encC c).toArray 27)); have F0_B := Lib.hid (h2.out.alloc (.cells (encC c).toArray 27))
  by_cases hbl : 100 < l.length
  · have d1 : decide ((100 : Int) < (l.length : Int)) = true := decide_eq_true (by omega)
    go_enter Try.func3, Try.ntmps3
    go_wp2_with fail
    refine (awake24 _).mono ?_
    rintro e1 w1 ⟨rfl, x1⟩
    go_wp2_with fail
    go_ret
    exact ⟨rfl, F0_X.out.trans x1⟩
  have d1 : decide ((100 : Int) < (l.length : Int)) = false := decide_eq_false (by omega)
  by_cases hbb : 3000 < b.length
  · have d2 : decide ((3000 : Int) < (b.length : Int)) = true := decide_eq_true (by omega)
    go_enter Try.func3, Try.ntmps3
    go_wp2_with fail
    refine (awake24 _).mono ?_
    rintro e1 w1 ⟨rfl, x1⟩
    go_wp2_with fail
    go_ret
    exact ⟨rfl, F0_X.out.trans x1⟩
  have d2 : decide ((3000 : Int) < (b.length : Int)) = false := decide_eq_false (by omega)
  have ll : l.length ≤ 100 := by omega
  have lb : b.length ≤ 3000 := by omega
  have lY := readV_len b
  obtain ⟨PV, hPV⟩ : ∃ V, putV b c = V := ⟨_, rfl⟩
  obtain ⟨PN, hPN⟩ : ∃ V, putN c = V := ⟨_, rfl⟩
  obtain ⟨TX, hTX⟩ : ∃ V, takeX b = V := ⟨_, rfl⟩
  obtain ⟨TS, hTS⟩ : ∃ V, takeS b = V := ⟨_, rfl⟩
  obtain ⟨TN, hTN⟩ : ∃ V, takeN b = V := ⟨_, rfl⟩
  obtain ⟨WV, hWV⟩ : ∃ V, writeV l = V := ⟨_, rfl⟩
  obtain ⟨WN, hWN⟩ : ∃ V, writeN l = V := ⟨_, rfl⟩
  obtain ⟨RV, hRV⟩ : ∃ V, readV b = V := ⟨_, rfl⟩
  obtain ⟨RN, hRN⟩ : ∃ V, readN b = V := ⟨_, rfl⟩
  obtain ⟨C, hC⟩ : ∃ C, (encC TX).toArray = C := ⟨_, rfl⟩
  rw [hRV] at lY
  have sC : Hid ((Try.prog.info? 27).map (·.size) = some C.size) := by show _ = _; rw [← hC]; exact sizeC
  have oC : Hid (C.all (·.oneCell') = true) := by show _ = _; rw [← hC]; exact cells_okC TX
  have zC : Hid ((encC cm0).toArray.size = C.size) := by show _ = _; rw [← hC]; rfl
  have hq : Hid (∀ w, (Op.equalIn 10000 27 (.agg C) (.agg C)).run Try.prog w = .ok true w) := by
    show ∀ w, _
    intro w; have := eqInC TX TX w; rw [decide_eq_true rfl, hC] at this; exact this
  have kPut1 := Lib.hid (fun (w : World) (h : Rb w A2 b) => hPN ▸ hPV ▸ pPutV h (by omega) c2 c hc64.out)
  have kPut2 := Lib.hid (fun (w : World) (h : Rb w A2 b) => hPN ▸ hPV ▸ rPutV h (by omega) c2 c hc64.out)
  have kTake1 : Hid (∀ w, Rb w A2 b → Calls Try.prog 21 #[.slice A2 b.length c2] w fun e w' => ∃ A cap, e = .returned (.tuple #[.agg C, .slice A TS.length cap, .int .i64 TN]) ∧ Rb w' A TS ∧ Ext w w') := by
    show ∀ w, _
    intro w h; have := pTakeV h (by omega) c2 hb.1 hb.2; unfold RetT at this; rw [hTX, hTS, hTN, hC] at this; exact this
  have kTake2 : Hid (∀ w, Rb w A2 b → Calls Try.prog 22 #[.slice A2 b.length c2] w fun e w' => ∃ A cap, e = .returned (.tuple #[.agg C, .slice A TS.length cap, .int .i64 TN]) ∧ Rb w' A TS ∧ Ext w w') := by
    show ∀ w, _
    intro w h; have := rTakeV h (by omega) c2 hb.1 hc9; unfold RetT at this; rw [hTX, hTS, hTN, hC] at this; exact this
  have kWr1 := Lib.hid (fun (w : World) (h : Rc w A1 l) => hWN ▸ hWV ▸ pWriteV h h64.out (by omega) c1)
  have kWr2 := Lib.hid (fun (w : World) (h : Rc w A1 l) => hWN ▸ hWV ▸ rWriteV h h64.out (by omega) c1)
  have kRd1 := Lib.hid (fun (w : World) (h : Rb w A2 b) => hRN ▸ hRV ▸ pReadV h (by omega) c2 hb.1 hb.2)
  have kRd2 := Lib.hid (fun (w : World) (h : Rb w A2 b) => hRN ▸ hRV ▸ rReadV h (by omega) c2 hb.1 hb.2)
  clear hbl hbb hPV hPN hTX hTS hTN hWV hWN hRV hRN
  have hCl : Hid (encC TX = C.toList) := by show _ = _; rw [← hC]
  clear hC h1 h2
  go_enter Try.func3, Try.ntmps3
  go_wp2_with fail
  refine (awake24 _).mono ?_
  rintro e1 w1 ⟨rfl, x1⟩
  have F1_HB := Lib.hid (F0_HB.out.ext x1)
  have F1_X := Lib.hid (F0_X.out.trans x1)
  have F1_L := Lib.hid (F0_L.out.ext x1)
  have F1_B := Lib.hid (F0_B.out.ext x1)
  clear F0_HB F0_X F0_L F0_B x1
  go_wp2_with (first | (refine load_box rfl 27 _ rfl _ rfl _ _ F1_HB.out _ Try.underlying27 rfl sizeC ?_))
  refine (kPut1.out _ F1_B.out).mono ?_
  rintro e2 w2 ⟨A3, c3, rfl, r3, x2⟩
  have F2_HB := Lib.hid (F1_HB.out.ext x2)
  have F2_X := Lib.hid (F1_X.out.trans x2)
  have F2_L := Lib.hid (F1_L.out.ext x2)
  have F2_B := Lib.hid (F1_B.out.ext x2)
  have F2_P1 := Lib.hid (r3)
  clear F1_HB F1_X F1_L F1_B x2
  go_wp2_with (first | (refine load_box rfl 27 _ rfl _ rfl _ _ F2_HB.out _ Try.underlying27 rfl sizeC ?_))
  refine (kPut2.out _ F2_B.out).mono ?_
  rintro e3 w3 ⟨A4, c4, rfl, r4, x3⟩
  have F3_HB := Lib.hid (F2_HB.out.ext x3)
  have F3_X := Lib.hid (F2_X.out.trans x3)
  have F3_L := Lib.hid (F2_L.out.ext x3)
  have F3_B := Lib.hid (F2_B.out.ext x3)
  have F3_P1 := Lib.hid (F2_P1.out.ext x3)
  have F3_P2 := Lib.hid (r4)
  clear F2_HB F2_X F2_L F2_B F2_P1 x3
  go_wp2_with fail
  refine (kTake1.out _ F3_B.out).mono ?_
  rintro e4 w4 ⟨A5, c5, rfl, r5, x4⟩
  have T1 : Hid (Bx (w4.alloc (.cells C 27)) w4.heap.size C.toList 27) := by
    have := Bx.new w4 C.toList 27
    exact this
  have F4_HB := Lib.hid ((F3_HB.out.ext x4).alloc (.cells C 27))
  have F4_X := Lib.hid ((F3_X.out.trans x4).alloc (.cells C 27))
  have F4_L := Lib.hid ((F3_L.out.ext x4).alloc (.cells C 27))
  have F4_B := Lib.hid ((F3_B.out.ext x4).alloc (.cells C 27))
  have F4_P1 := Lib.hid ((F3_P1.out.ext x4).alloc (.cells C 27))
  have F4_P2 := Lib.hid ((F3_P2.out.ext x4).alloc (.cells C 27))
  have F4_S1 := Lib.hid ((r5).alloc (.cells C 27))
  clear F3_HB F3_X F3_L F3_B F3_P1 F3_P2 x4
  go_wp2_with (first | (refine store_newE rfl 27 _ _ (by rfl) w4 w4.heap.size rfl (encC cm0).toArray C 27 (by rfl) (by rfl) (by rfl) sC.out zC.out oC.out ?_))
  obtain ⟨W4, hW4⟩ : ∃ W, w4.alloc (.cells C 27) = W := ⟨_, rfl⟩
  obtain ⟨g4, hg4⟩ : ∃ g, w4.heap.size = g := ⟨_, rfl⟩
  rw [hW4, hg4] at T1
  rw [hW4, hg4]
  rw [hW4] at F4_HB
  rw [hW4] at F4_X
  rw [hW4] at F4_L
  rw [hW4] at F4_B
  rw [hW4] at F4_P1
  rw [hW4] at F4_P2
  rw [hW4] at F4_S1
  clear hW4 hg4
  refine (kTake2.out _ F4_B.out).mono ?_
  rintro e5 w5 ⟨A6, c6, rfl, r6, x5⟩
  have T2 : Hid (Bx (w5.alloc (.cells C 27)) w5.heap.size C.toList 27) := by
    have := Bx.new w5 C.toList 27
    exact this
  have T1b := Lib.hid ((T1.out.ext x5).alloc (.cells C 27))
  clear T1
  have F5_HB := Lib.hid ((F4_HB.out.ext x5).alloc (.cells C 27))
  have F5_X := Lib.hid ((F4_X.out.trans x5).alloc (.cells C 27))
  have F5_L := Lib.hid ((F4_L.out.ext x5).alloc (.cells C 27))
  have F5_B := Lib.hid ((F4_B.out.ext x5).alloc (.cells C 27))
  have F5_P1 := Lib.hid ((F4_P1.out.ext x5).alloc (.cells C 27))
  have F5_P2 := Lib.hid ((F4_P2.out.ext x5).alloc (.cells C 27))
  have F5_S1 := Lib.hid ((F4_S1.out.ext x5).alloc (.cells C 27))
  have F5_S2 := Lib.hid ((r6).alloc (.cells C 27))
  clear F4_HB F4_X F4_L F4_B F4_P1 F4_P2 F4_S1 x5
  go_wp2_with (first | (refine store_newE rfl 27 _ _ (by rfl) w5 w5.heap.size rfl (encC cm0).toArray C 27 (by rfl) (by rfl) (by rfl) sC.out zC.out oC.out ?_))
  obtain ⟨W5, hW5⟩ : ∃ W, w5.alloc (.cells C 27) = W := ⟨_, rfl⟩
  obtain ⟨g5, hg5⟩ : ∃ g, w5.heap.size = g := ⟨_, rfl⟩
  rw [hW5, hg5] at T2
  rw [hW5] at T1b
  rw [hW5, hg5]
  rw [hW5] at F5_HB
  rw [hW5] at F5_X
  rw [hW5] at F5_L
  rw [hW5] at F5_B
  rw [hW5] at F5_P1
  rw [hW5] at F5_P2
  rw [hW5] at F5_S1
  rw [hW5] at F5_S2
  clear hW5 hg5
  have F5_T1 := T1b
  have F5_T2 := T2
  clear T1b T2
  refine (kWr1.out _ F5_L.out).mono ?_
  rintro e6 w6 ⟨A7, c7, rfl, r7, x6⟩
  have F6_HB := Lib.hid (F5_HB.out.ext x6)
  have F6_X := Lib.hid (F5_X.out.trans x6)
  have F6_L := Lib.hid (F5_L.out.ext x6)
  have F6_B := Lib.hid (F5_B.out.ext x6)
  have F6_P1 := Lib.hid (F5_P1.out.ext x6)
  have F6_P2 := Lib.hid (F5_P2.out.ext x6)
  have F6_S1 := Lib.hid (F5_S1.out.ext x6)
  have F6_S2 := Lib.hid (F5_S2.out.ext x6)
  have F6_T1 := Lib.hid (F5_T1.out.ext x6)
  have F6_T2 := Lib.hid (F5_T2.out.ext x6)
  have F6_W1 := Lib.hid (r7)
  clear F5_HB F5_X F5_L F5_B F5_P1 F5_P2 F5_S1 F5_S2 F5_T1 F5_T2 x6
  go_wp2_with fail
  refine (kWr2.out _ F6_L.out).mono ?_
  rintro e7 w7 ⟨A8, c8, rfl, r8, x7⟩
  have F7_HB := Lib.hid (F6_HB.out.ext x7)
  have F7_X := Lib.hid (F6_X.out.trans x7)
  have F7_L := Lib.hid (F6_L.out.ext x7)
  have F7_B := Lib.hid (F6_B.out.ext x7)
  have F7_P1 := Lib.hid (F6_P1.out.ext x7)
  have F7_P2 := Lib.hid (F6_P2.out.ext x7)
  have F7_S1 := Lib.hid (F6_S1.out.ext x7)
  have F7_S2 := Lib.hid (F6_S2.out.ext x7)
  have F7_T1 := Lib.hid (F6_T1.out.ext x7)
  have F7_T2 := Lib.hid (F6_T2.out.ext x7)
  have F7_W1 := Lib.hid (F6_W1.out.ext x7)
  have F7_W2 := Lib.hid (r8)
  clear F6_HB F6_X F6_L F6_B F6_P1 F6_P2 F6_S1 F6_S2 F6_T1 F6_T2 F6_W1 x7
  go_wp2_with fail
  refine (kRd1.out _ F7_B.out).mono ?_
  rintro e8 w8 ⟨A9, c9, rfl, r9, x8⟩
  have F8_HB := Lib.hid (F7_HB.out.ext x8)
  have F8_X := Lib.hid (F7_X.out.trans x8)
  have F8_L := Lib.hid (F7_L.out.ext x8)
  have F8_B := Lib.hid (F7_B.out.ext x8)
  have F8_P1 := Lib.hid (F7_P1.out.ext x8)
  have F8_P2 := Lib.hid (F7_P2.out.ext x8)
  have F8_S1 := Lib.hid (F7_S1.out.ext x8)
  have F8_S2 := Lib.hid (F7_S2.out.ext x8)
  have F8_T1 := Lib.hid (F7_T1.out.ext x8)
  have F8_T2 := Lib.hid (F7_T2.out.ext x8)
  have F8_W1 := Lib.hid (F7_W1.out.ext x8)
  have F8_W2 := Lib.hid (F7_W2.out.ext x8)
  have F8_R1 := Lib.hid (r9)
  clear F7_HB F7_X F7_L F7_B F7_P1 F7_P2 F7_S1 F7_S2 F7_T1 F7_T2 F7_W1 F7_W2 x8
  go_wp2_with fail
  refine (kRd2.out _ F8_B.out).mono ?_
  rintro e9 w9 ⟨A10, c10, rfl, r10, x9⟩
  have F9_HB := Lib.hid (F8_HB.out.ext x9)
  have F9_X := Lib.hid (F8_X.out.trans x9)
  have F9_L := Lib.hid (F8_L.out.ext x9)
  have F9_B := Lib.hid (F8_B.out.ext x9)
  have F9_P1 := Lib.hid (F8_P1.out.ext x9)
  have F9_P2 := Lib.hid (F8_P2.out.ext x9)
  have F9_S1 := Lib.hid (F8_S1.out.ext x9)
  have F9_S2 := Lib.hid (F8_S2.out.ext x9)
  have F9_T1 := Lib.hid (F8_T1.out.ext x9)
  have F9_T2 := Lib.hid (F8_T2.out.ext x9)
  have F9_W1 := Lib.hid (F8_W1.out.ext x9)
  have F9_W2 := Lib.hid (F8_W2.out.ext x9)
  have F9_R1 := Lib.hid (F8_R1.out.ext x9)
  have F9_R2 := Lib.hid (r10)
  clear F8_HB F8_X F8_L F8_B F8_P1 F8_P2 F8_S1 F8_S2 F8_T1 F8_T2 F8_W1 F8_W2 F8_R1 x9
  clear kPut1 kPut2 kTake1 kTake2 kWr1 kWr2 kRd1 kRd2
  go_wp2_with fail
  have HS0 : Hid ((Bx (w9.drewN 1) w.heap.size (encC c) 27) ∧ (Bx (w9.drewN 1) g4 C.toList 27) ∧ (Bx (w9.drewN 1) g5 C.toList 27) ∧ (Rb (w9.drewN 1) A3 PV) ∧ (Rb (w9.drewN 1) A4 PV) ∧ (Rb (w9.drewN 1) A5 TS) ∧ (Rb (w9.drewN 1) A6 TS)) := ⟨F9_HB.out.drewN 1, F9_T1.out.drewN 1, F9_T2.out.drewN 1, F9_P1.out.drewN 1, F9_P2.out.drewN 1, F9_S1.out.drewN 1, F9_S2.out.drewN 1⟩
  have hX0 : Hid (Ext w9 (w9.drewN 1)) := (Ext.refl w9).drewN 1
  have hgC := eqGuardC
  refine held_start (S := fun W => (Bx W w.heap.size (encC c) 27) ∧ (Bx W g4 C.toList 27) ∧ (Bx W g5 C.toList 27) ∧ (Rb W A3 PV) ∧ (Rb W A4 PV) ∧ (Rb W A5 TS) ∧ (Rb W A6 TS)) 35 rfl (by kernel_rfl) ?_
  have hW9 : { w9 with drawn := w9.drawn + 1 } = w9.drewN 1 := rfl
  rw [hW9]
  clear hW9
  refine held_boxV (i := 0) rfl (by kernel_rfl) (by kernel_rfl) (by kernel_rfl) rfl 27 _ rfl _ rfl (encC c) 27 (fun w h => h.1) _ Try.underlying27 rfl sizeC HS0.out _ (by simp [Act.put]; rfl) ?_
  refine held_boxV (i := 2) rfl (by kernel_rfl) (by kernel_rfl) (by kernel_rfl) rfl 27 _ rfl _ rfl (encC c) 27 (fun w h => h.1) _ Try.underlying27 rfl sizeC HS0.out _ (by simp [Act.put]; rfl) ?_
  refine held_all (i := 1) rfl (by kernel_rfl) rfl ?_
  go_wp2_with fail
  refine (pCheckC c hc64.out _).mono ?_
  rintro ewa wa ⟨rfl, ywa⟩
  have HS1 : Hid ((Bx wa w.heap.size (encC c) 27) ∧ (Bx wa g4 C.toList 27) ∧ (Bx wa g5 C.toList 27) ∧ (Rb wa A3 PV) ∧ (Rb wa A4 PV) ∧ (Rb wa A5 TS) ∧ (Rb wa A6 TS)) := ⟨HS0.out.1.ext ywa, HS0.out.2.1.ext ywa, HS0.out.2.2.1.ext ywa, HS0.out.2.2.2.1.ext ywa, HS0.out.2.2.2.2.1.ext ywa, HS0.out.2.2.2.2.2.1.ext ywa, HS0.out.2.2.2.2.2.2.ext ywa⟩
  refine ⟨HS1.out, ?_⟩
  refine held_all (i := 3) rfl (by kernel_rfl) rfl ?_
  go_wp2_with fail
  refine (rCheckC c hc64.out _).mono ?_
  rintro ewb wb ⟨rfl, ywb⟩
  have HS2 : Hid ((Bx wb w.heap.size (encC c) 27) ∧ (Bx wb g4 C.toList 27) ∧ (Bx wb g5 C.toList 27) ∧ (Rb wb A3 PV) ∧ (Rb wb A4 PV) ∧ (Rb wb A5 TS) ∧ (Rb wb A6 TS)) := ⟨HS1.out.1.ext ywb, HS1.out.2.1.ext ywb, HS1.out.2.2.1.ext ywb, HS1.out.2.2.2.1.ext ywb, HS1.out.2.2.2.2.1.ext ywb, HS1.out.2.2.2.2.2.1.ext ywb, HS1.out.2.2.2.2.2.2.ext ywb⟩
  refine ⟨HS2.out, ?_⟩
  refine held_takeV (i := 4) rfl (by kernel_rfl) (by kernel_rfl) (by kernel_rfl) (.bool true) rfl (fun w _ => by go_simp) HS2.out _ (by simp [Act.put]; rfl) ?_
  refine held_move (i := 5) rfl (by kernel_rfl) (by kernel_rfl) (by kernel_rfl) _ rfl rfl HS2.out _ (by simp [Act.put]; rfl) ?_
  refine held_move (i := 6) rfl (by kernel_rfl) (by kernel_rfl) (by kernel_rfl) _ rfl rfl HS2.out _ (by simp [Act.put]; rfl) ?_
  refine held_takeV (i := 7) rfl (by kernel_rfl) (by kernel_rfl) (by kernel_rfl) (.string ⟨PV.toArray⟩) rfl (fun w h => by have := run_str h.2.2.2.1 c3; go_simp) HS2.out _ (by simp [Act.put]; rfl) ?_
  refine held_move (i := 8) rfl (by kernel_rfl) (by kernel_rfl) (by kernel_rfl) _ rfl rfl HS2.out _ (by simp [Act.put]; rfl) ?_
  refine held_takeV (i := 9) rfl (by kernel_rfl) (by kernel_rfl) (by kernel_rfl) (.string ⟨PV.toArray⟩) rfl (fun w h => by have := run_str h.2.2.2.2.1 c4; go_simp) HS2.out _ (by simp [Act.put]; rfl) ?_
  refine held_takeV (i := 10) rfl (by kernel_rfl) (by kernel_rfl) (by kernel_rfl) (.bool true) rfl (fun w _ => by go_simp) HS2.out _ (by simp [Act.put]; rfl) ?_
  refine held_takeV (i := 11) rfl (by kernel_rfl) (by kernel_rfl) (by kernel_rfl) (.bool true) rfl (fun w _ => by go_simp) HS2.out _ (by simp [Act.put]; rfl) ?_
  refine held_move (i := 12) rfl (by kernel_rfl) (by kernel_rfl) (by kernel_rfl) _ rfl rfl HS2.out _ (by simp [Act.put]; rfl) ?_
  refine held_move (i := 13) rfl (by kernel_rfl) (by kernel_rfl) (by kernel_rfl) _ rfl rfl HS2.out _ (by simp [Act.put]; rfl) ?_
  refine held_move (i := 14) rfl (by kernel_rfl) (by kernel_rfl) (by kernel_rfl) _ rfl rfl HS2.out _ (by simp [Act.put]; rfl) ?_
  refine held_takeV (i := 15) rfl (by kernel_rfl) (by kernel_rfl) (by kernel_rfl) (.bool true) rfl (fun w _ => by go_simp) HS2.out _ (by simp [Act.put]; rfl) ?_
  refine held_takeV (i := 16) rfl (by kernel_rfl) (by kernel_rfl) (by kernel_rfl) (.bool true) rfl (fun w _ => by go_simp) HS2.out _ (by simp [Act.put]; rfl) ?_
  refine held_move (i := 17) rfl (by kernel_rfl) (by kernel_rfl) (by kernel_rfl) _ rfl rfl HS2.out _ (by simp [Act.put]; rfl) ?_
  refine held_boxV (i := 18) rfl (by kernel_rfl) (by kernel_rfl) (by kernel_rfl) rfl 27 _ rfl _ rfl (C.toList) 27 (fun w h => h.2.1) _ Try.underlying27 rfl sC.out HS2.out _ (by simp [Act.put]; rfl) ?_
  refine held_boxV (i := 19) rfl (by kernel_rfl) (by kernel_rfl) (by kernel_rfl) rfl 27 _ rfl _ rfl (C.toList) 27 (fun w h => h.2.2.1) _ Try.underlying27 rfl sC.out HS2.out _ (by simp [Act.put]; rfl) ?_
  refine held_takeV (i := 20) rfl (by kernel_rfl) (by kernel_rfl) (by kernel_rfl) (.bool true) rfl (fun w h => run_eql_op 27 _ _ _ rfl C C rfl rfl hgC _ hq.out) HS2.out _ (by simp [Act.put]; rfl) ?_
  refine held_takeV (i := 21) rfl (by kernel_rfl) (by kernel_rfl) (by kernel_rfl) (.bool true) rfl (fun w _ => by go_simp) HS2.out _ (by simp [Act.put]; rfl) ?_
  refine held_move (i := 22) rfl (by kernel_rfl) (by kernel_rfl) (by kernel_rfl) _ rfl rfl HS2.out _ (by simp [Act.put]; rfl) ?_
  refine held_move (i := 23) rfl (by kernel_rfl) (by kernel_rfl) (by kernel_rfl) _ rfl rfl HS2.out _ (by simp [Act.put]; rfl) ?_
  refine held_takeV (i := 24) rfl (by kernel_rfl) (by kernel_rfl) (by kernel_rfl) (.string ⟨TS.toArray⟩) rfl (fun w h => by have := run_str h.2.2.2.2.2.1 c5; go_simp) HS2.out _ (by simp [Act.put]; rfl) ?_
  refine held_move (i := 25) rfl (by kernel_rfl) (by kernel_rfl) (by kernel_rfl) _ rfl rfl HS2.out _ (by simp [Act.put]; rfl) ?_
  refine held_takeV (i := 26) rfl (by kernel_rfl) (by kernel_rfl) (by kernel_rfl) (.string ⟨TS.toArray⟩) rfl (fun w h => by have := run_str h.2.2.2.2.2.2 c6; go_simp) HS2.out _ (by simp [Act.put]; rfl) ?_
  refine held_takeV (i := 27) rfl (by kernel_rfl) (by kernel_rfl) (by kernel_rfl) (.bool true) rfl (fun w _ => by go_simp) HS2.out _ (by simp [Act.put]; rfl) ?_
  refine held_takeV (i := 28) rfl (by kernel_rfl) (by kernel_rfl) (by kernel_rfl) (.bool true) rfl (fun w _ => by go_simp) HS2.out _ (by simp [Act.put]; rfl) ?_
  refine held_move (i := 29) rfl (by kernel_rfl) (by kernel_rfl) (by kernel_rfl) _ rfl rfl HS2.out _ (by simp [Act.put]; rfl) ?_
  refine held_move (i := 30) rfl (by kernel_rfl) (by kernel_rfl) (by kernel_rfl) _ rfl rfl HS2.out _ (by simp [Act.put]; rfl) ?_
  refine held_move (i := 31) rfl (by kernel_rfl) (by kernel_rfl) (by kernel_rfl) _ rfl rfl HS2.out _ (by simp [Act.put]; rfl) ?_
  refine held_takeV (i := 32) rfl (by kernel_rfl) (by kernel_rfl) (by kernel_rfl) (.bool true) rfl (fun w _ => by go_simp) HS2.out _ (by simp [Act.put]; rfl) ?_
  refine held_takeV (i := 33) rfl (by kernel_rfl) (by kernel_rfl) (by kernel_rfl) (.bool true) rfl (fun w _ => by go_simp) HS2.out _ (by simp [Act.put]; rfl) ?_
  refine held_assign (i := 34) rfl (by kernel_rfl) (by kernel_rfl) (by kernel_rfl) _ rfl rfl HS2.out _ (by simp [Act.put]; rfl) ?_
  refine held_done (by kernel_rfl) ?_ _
  have Xb := Lib.hid ((hX0.out.trans ywa).trans ywb)
  have s1 := run_str (F9_W1.out.ext Xb.out) c7; have s2 := run_str (F9_W2.out.ext Xb.out) c8
  have kS0 := rSameC (F9_R1.out.ext Xb.out) (F9_R2.out.ext Xb.out) (by omega) c9 c10 (by omega)
  rw [decide_eq_true (rfl : RV = RV)] at kS0
  replace kS0 := Lib.hid kS0
  have X9 := Lib.hid (F9_X.out.trans Xb.out)
  clear HS0 HS1 HS2 hX0 ywa ywb Xb hgC F9_HB F9_X F9_L F9_B F9_P1 F9_P2 F9_S1 F9_S2 F9_T1 F9_T2 F9_W1 F9_W2 F9_R1 F9_R2
  go_wp2_with fail
  refine kS0.out.mono ?_
  rintro e10 wc ⟨rfl, yc⟩
  go_wp2_with fail
  go_ret
  exact ⟨rfl, X9.out.trans yc⟩
end Go.Proofs.Ytmbjbbflhlndcaa
