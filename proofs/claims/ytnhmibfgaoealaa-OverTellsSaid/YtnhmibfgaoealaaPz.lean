/-
  Words for layer 11: the weeks about a time.
-/
import Derived.Test.YtnhmibfgaoealaaMk
import Derived.Test.YtnhmibfgaoealaaMl
namespace Go.Proofs.Ytnhmibfgaoealaa
open Go.RowKit
set_option linter.unusedVariables false
set_option linter.unusedSimpArgs false

theorem Rs.drewN {w : World} {A : Option Addr} {l : List Sp.S} (h : Rs w A l) (n : Nat) : Rs (w.drewN n) A l := h.ext ((Ext.refl w).drewN n)
/-- What a call leaves that hands back a slice of numbers. -/
def RetN (w : World) (R : List Int) (e : Ending) (w' : World) : Prop := ∃ A cap, e = .returned (.slice A R.length cap) ∧ Rn w' A R ∧ Ext w w' ∧ True
theorem cDays {w : World} {A : Option Addr} {l : List Sp.S} (h : Rs w A l) (hl : l.length ≤ 900000) (cap : Nat) : Calls Try.prog 31 #[.slice A l.length cap] w (RetN w (daysL (Sp.norm l))) :=
  (pDays h hl cap).mono fun _ _ ⟨A', c, he, hr, hx⟩ => ⟨A', c, he, hr, hx, trivial⟩

theorem clampQ (n m : Int) (w : World) : Calls Try.prog 71 #[.int .i64 n, .int .i64 m] w fun e w' => e = .returned (.int .i64 (min (max n 0) m)) ∧ w' = w := by
  go_enter Try.func71, Try.ntmps71
  go_wp2
  go_ret
  exact ⟨rfl, rfl⟩

def touchBy (u c : Int) : Int := min (max u 0) 604800 + min (max c 0) 604800
def touchA (u c t : Int) : Int := weekOf (min (max t 0) 32054399 - touchBy u c)
def touchB (u c t : Int) : Int := weekOf (min (max t 0) 32054399 + touchBy u c)

set_option maxRecDepth 100000 in
theorem pTouch (v_pl v_wy v_p1 v_p2 v_el v_cl v_ge v_al v_pb v_aa v_ab v_dr v_do v_wr v_nf v_nt v_ra v_di v_le v_fa v_ti : Value) (u c t : Int) (w : World) : Calls Try.prog 30 #[.agg #[v_pl, v_wy, v_p1, v_p2, v_el, v_cl, v_ge, v_al, .int .i64 u, .int .i64 c, v_pb, v_aa, v_ab, v_dr, v_do, v_wr, v_nf, v_nt, v_ra, v_di, v_le, v_fa, v_ti], .int .i64 t] w (Ret2 w (touchA u c t) (touchB u c t)) := by
  obtain ⟨n, hn, n0, n1⟩ : ∃ b, min (max t 0) 32054399 = b ∧ 0 ≤ b ∧ b ≤ 32054399 := ⟨_, rfl, by omega, by omega⟩
  obtain ⟨a, ha, a0, a1⟩ : ∃ b, min (max u 0) 604800 = b ∧ 0 ≤ b ∧ b ≤ 604800 := ⟨_, rfl, by omega, by omega⟩
  obtain ⟨b, hb, b0, b1⟩ : ∃ b, min (max c 0) 604800 = b ∧ 0 ≤ b ∧ b ≤ 604800 := ⟨_, rfl, by omega, by omega⟩
  unfold touchA touchB touchBy
  rw [hn, ha, hb]
  have ka := fun w => clampQ u 604800 w
  have kb := fun w => clampQ c 604800 w
  have kn := fun w => pClamp t 32054399 w
  rw [ha] at ka; rw [hb] at kb; rw [hn] at kn
  replace ka := Lib.hid ka; replace kb := Lib.hid kb; replace kn := Lib.hid kn
  clear ha hb hn
  have q1 : IntKind.i64.wrap (a + b) = a + b := IntWalk.i64_in _ (by omega)
  go_enter Try.func30, Try.ntmps30
  go_wp2_with fail
  refine (kn.out _).mono ?_
  rintro e w1 ⟨rfl, x1⟩
  have e7 : w1.cell? ⟨w.heap.size, 8, none⟩ = some (.int .i64 u) := (x1.cell (p := ⟨w.heap.size, 8, none⟩) (by simp)).trans (cells_new w [v_pl, v_wy, v_p1, v_p2, v_el, v_cl, v_ge, v_al, .int .i64 u, .int .i64 c, v_pb, v_aa, v_ab, v_dr, v_do, v_wr, v_nf, v_nt, v_ra, v_di, v_le, v_fa, v_ti] 35 8 _ rfl)
  have e8 : w1.cell? ⟨w.heap.size, 9, none⟩ = some (.int .i64 c) := (x1.cell (p := ⟨w.heap.size, 9, none⟩) (by simp)).trans (cells_new w [v_pl, v_wy, v_p1, v_p2, v_el, v_cl, v_ge, v_al, .int .i64 u, .int .i64 c, v_pb, v_aa, v_ab, v_dr, v_do, v_wr, v_nf, v_nt, v_ra, v_di, v_le, v_fa, v_ti] 35 9 _ rfl)
  have X1 : Ext w w1 := ((Ext.refl w).alloc _).trans x1
  replace X1 := Lib.hid X1; clear x1
  go_wp2_with fail
  go_quiet ((go_at_call 71; first | with_reducible exact Calls.quiet_of_same (ka.out _) | with_reducible exact Calls.quiet_of_same (kb.out _)))
  clear q1
  go_wp2_with fail
  refine (pWeek _ _).mono ?_
  rintro e w2 ⟨rfl, x2⟩
  go_wp2_with fail
  refine (pWeek _ _).mono ?_
  rintro e w3 ⟨rfl, x3⟩
  go_wp2
  go_ret2
  exact ⟨rfl, ((X1.out.drewN _).trans x2).trans x3⟩

theorem nEq {f : Nat} {args : Array Value} {w : World} {R R' : List Int} (h : Calls Try.prog f args w (RetN w R)) (e : R = R') : Calls Try.prog f args w (RetN w R') := e ▸ h
theorem sEq {f : Nat} {args : Array Value} {w : World} {R R' : List Sp.S} (h : Calls Try.prog f args w (RetS w R)) (e : R = R') : Calls Try.prog f args w (RetS w R') := e ▸ h
theorem cSameN {w : World} {A1 A2 : Option Addr} {a b : List Int} (h1 : Rn w A1 a) (h2 : Rn w A2 b) (l1 : a.length ≤ 900000) (c1 c2 : Nat) : Calls Try.prog 70 #[.slice A1 a.length c1, .slice A2 b.length c2] w (RetB w (decide (a = b))) := same11 a b A1 A2 c1 c2 w h1 h2 l1

set_option maxRecDepth 100000 in
set_option maxHeartbeats 2000000 in
theorem awake11 (w : World) : Calls Try.prog 26 #[] w (RetB w true) := by
  have e1 : Hid (daysL (Sp.norm [(604700, 691300)]) = [6, 7, 8]) := by show _ = _; decide
  have e2 : Hid (partS [(604700, 691300)] 6 86400 = [(604700, 604800)]) := by show _ = _; decide
  have e3 : Hid (partS [(604700, 691300)] 1 604800 = [(604800, 691300)]) := by show _ = _; decide
  have e4 : Hid (roundOf 450 900 = 900) := by show _ = _; decide
  have e5 : Hid (roundOf 449 900 = 0) := by show _ = _; decide
  have e6 : Hid (roundOf 7 0 = 7) := by show _ = _; decide
  have e7 : Hid (dayOf 86400 = 1) := by show _ = _; decide
  have e8 : Hid (weekOf 604799 = 0) := by show _ = _; decide
  have e9 : Hid (touchA 100 60 604800 = 0 ∧ touchB 100 60 604800 = 1) := by show _ ∧ _; decide
  go_enter Try.func26, Try.ntmps26
  go_wp2_with fail
  refine (show Calls Try.prog _ _ _ (Ret2 _ 0 1) from e9.out.1 ▸ e9.out.2 ▸ pTouch _ _ _ _ _ _ _ _ _ _ _ _ _ _ _ _ _ _ _ _ _ 100 60 604800 _).mono ?_
  rintro e w0 ⟨rfl, x0⟩
  have hl0 := (Rs.new w [(604700, 691300)] 42).ext x0
  have X0 := ((Ext.refl w).alloc (.cells (flat encS [(604700, 691300)]).toArray 42)).trans x0
  go_wp2_with fail
  refine (nEq (cDays hl0 (by decide) 1) e1.out).mono ?_
  rintro e w1 ⟨A1, cap1, rfl, r1, x1, _⟩
  have hl1 := hl0.ext x1; clear hl0
  have X1 := X0.trans x1
  go_wp2_with fail
  refine (sEq (pOfDay hl1 (by decide) 1 6) e2.out).mono ?_
  rintro e w2 ⟨A2, cap2, rfl, r2, x2, _⟩
  have hl2 := hl1.ext x2; clear hl1
  have hd2 := r1.ext x2
  have X2 := X1.trans x2
  go_wp2_with fail
  refine (sEq (pOfWeek hl2 (by decide) 1 1) e3.out).mono ?_
  rintro e w3 ⟨A3, cap3, rfl, r3, x3, _⟩
  have hl3 := hl2.ext x3; clear hl2
  have hd3 := hd2.ext x3; clear hd2
  have hp3 := r2.ext x3
  have X3 := X2.trans x3
  go_wp2_with fail
  refine (iEq (pRound 450 900 (by decide) _) e4.out).mono ?_
  rintro e w4 ⟨rfl, x4⟩
  have hl4 := hl3.ext x4; clear hl3
  have hd4 := hd3.ext x4; clear hd3
  have hp4 := hp3.ext x4; clear hp3
  have hq4 := r3.ext x4
  have X4 := X3.trans x4
  go_wp2_with fail
  refine (iEq (pRound 449 900 (by decide) _) e5.out).mono ?_
  rintro e w5 ⟨rfl, x5⟩
  have hl5 := hl4.ext x5; clear hl4
  have hd5 := hd4.ext x5; clear hd4
  have hp5 := hp4.ext x5; clear hp4
  have hq5 := hq4.ext x5; clear hq4
  have X5 := X4.trans x5
  go_wp2_with fail
  refine (iEq (pRound 7 0 (by decide) _) e6.out).mono ?_
  rintro e w6 ⟨rfl, x6⟩
  have hl6 := hl5.ext x6; clear hl5
  have hd6 := hd5.ext x6; clear hd5
  have hp6 := hp5.ext x6; clear hp5
  have hq6 := hq5.ext x6; clear hq5
  have X6 := X5.trans x6
  go_wp2_with fail
  refine (iEq (pDay 86400 _) e7.out).mono ?_
  rintro e w7 ⟨rfl, x7⟩
  have hl7 := hl6.ext x7; clear hl6
  have hd7 := hd6.ext x7; clear hd6
  have hp7 := hp6.ext x7; clear hp6
  have hq7 := hq6.ext x7; clear hq6
  have X7 := X6.trans x7
  go_wp2_with fail
  refine (iEq (pWeek 604799 _) e8.out).mono ?_
  rintro e w8 ⟨rfl, x8⟩
  have hl8 := hl7.ext x8; clear hl7
  have hd8 := hd7.ext x8; clear hd7
  have hp8 := hp7.ext x8; clear hp7
  have hq8 := hq7.ext x8; clear hq7
  have X8 := X7.trans x8
  go_wp2_with fail
  refine (bEq (cSameN (hd8.alloc _) (Rn.new _ [6, 7, 8] _) (by decide) _ _) (b' := true) (decide_eq_true rfl)).mono ?_
  rintro e w9 ⟨rfl, x9⟩
  have hl9 := (hl8.alloc _).ext x9
  have hd9 := (hd8.alloc _).ext x9
  have hp9 := (hp8.alloc _).ext x9
  have hq9 := (hq8.alloc _).ext x9
  have X9 := (X8.alloc _).trans x9
  go_wp2_with fail
  refine (bEq (cSame (hp9.alloc _) (Rs.new _ [(604700, 604800)] _) (by decide) _ _) (b' := true) (decide_eq_true rfl)).mono ?_
  rintro e w10 ⟨rfl, x10⟩
  have hl10 := (hl9.alloc _).ext x10
  have hd10 := (hd9.alloc _).ext x10
  have hp10 := (hp9.alloc _).ext x10
  have hq10 := (hq9.alloc _).ext x10
  have X10 := (X9.alloc _).trans x10
  go_wp2_with fail
  refine (bEq (cSame (hq10.alloc _) (Rs.new _ [(604800, 691300)] _) (by decide) _ _) (b' := true) (decide_eq_true rfl)).mono ?_
  rintro e w11 ⟨rfl, x11⟩
  have hl11 := (hl10.alloc _).ext x11
  have hd11 := (hd10.alloc _).ext x11
  have hp11 := (hp10.alloc _).ext x11
  have hq11 := (hq10.alloc _).ext x11
  have X11 := (X10.alloc _).trans x11
  go_wp2
  go_ret
  exact ⟨rfl, X11⟩

end Go.Proofs.Ytnhmibfgaoealaa
