/-
  event.Check; lumperref08.Check.
-/
import Derived.Test.YtmbjbbflhlndcaaKy2
import Derived.Test.YtmbjbbflhlndcaaKn2
import Derived.Test.YtmbjbbflhlndcaaSm
namespace Go.Proofs.Ytmbjbbflhlndcaa
open Go.RowKit BigFrame
set_option linter.unusedVariables false
set_option linter.unusedSimpArgs false

/-- Each first number of two is below the second one. -/
def belowL : List Int → Bool
  | x :: y :: r => decide (x < y) && belowL r
  | _ => true
set_option maxRecDepth 100000 in
theorem pBelow {w : World} {A : Option Addr} {l : List Int} (h : Rn w A l) (n m c : Nat) (hn : n = l.length) (hm : n = 2 * m) (hl : n ≤ 100) :
    Calls Try.prog 65 #[.slice A n c] w (RetB w (belowL l)) := by
  have H := Lib.hid h
  replace hn := Lib.hid hn
  have hm' := Lib.hid hm
  clear h hm
  go_enter Try.func65, Try.ntmps65
  go_wp2_with fail
  go_loopw [3] (fun vi wr => ∃ (i k : Nat), vi = .int .i64 i ∧ Hid (i = 2 * k) ∧ i ≤ n ∧ Hid (belowL l = belowL (l.drop i)) ∧ Hid (Ext w wr)) (fun vi _ => n - (intOf vi).toNat)
  case atStart => exact ⟨0, 0, rfl, rfl, Nat.zero_le _, rfl, Ext.refl _⟩
  case round =>
    obtain ⟨i, k, rfl, hik, hin, HB, HX⟩ := hrel
    by_cases hlt : i < n
    · have h2 : i + 1 < n := by have := hik.out; have := hm'.out; omega
      obtain ⟨b, off, x, rfl, hbB, hx, c0⟩ := Rd.atN H.out HX.out (j := i) (by have := hn.out; omega)
      obtain ⟨b2, off2, y, hb2, _, hy, c1⟩ := Rd.atN H.out HX.out (j := i + 1) (by have := hn.out; omega)
      cases hb2
      have HD : Hid (belowL l = (decide (x < y) && belowL (l.drop (i + 2)))) := by
        show _ = _
        rw [HB.out]
        have hx' := hx.out
        have hy' := hy.out
        have l1 : i < l.length := (List.getElem?_eq_some_iff.1 hx').1
        have l2 : i + 1 < l.length := (List.getElem?_eq_some_iff.1 hy').1
        rw [List.getElem?_eq_getElem l1] at hx'
        rw [List.getElem?_eq_getElem l2] at hy'
        injection hx' with hx'
        injection hy' with hy'
        rw [List.drop_eq_getElem_cons l1, List.drop_eq_getElem_cons l2, hx', hy']
        rfl
      have q0 : (i : Int) < (n : Int) := by omega
      have q1 : (i : Int) + 1 < (n : Int) := by omega
      have p0 : (0 : Int) ≤ (i : Int) + 1 := by omega
      have p1 : ((i : Int) + 1).toNat = i + 1 := by omega
      by_cases hxy : y ≤ x
      · have d1 : decide (y ≤ x) = true := decide_eq_true hxy
        have HR : Hid (belowL l = false) := by show _ = _; rw [HD.out, decide_eq_false (by omega)]; rfl
        clear hxy HD
        go_wp2_with fail
        go_quiet (fail)
        have HX2 := Lib.hid (HX.out.drewN nq)
        go_wp2_with fail
        go_ret
        exact ⟨by rw [HR.out]; rfl, HX2.out⟩
      · have d1 : decide (y ≤ x) = false := decide_eq_false hxy
        have HR : Hid (belowL l = belowL (l.drop (i + 2))) := by show _ = _; rw [HD.out, decide_eq_true (by omega)]; rfl
        clear hxy HD
        go_wp2_with fail
        go_quiet (fail)
        have HX2 := Lib.hid (HX.out.drewN nq)
        go_wp2_with fail
        exact ⟨⟨i + 2, k + 1, by first | rfl | go_num | (congr 1; omega), by show _ = _; have := hik.out; omega, by omega, HR, HX2⟩, by simp [intOf]; omega⟩
    · have q0 : ¬ ((i : Int) < (n : Int)) := by omega
      have HR : Hid (belowL l = true) := by
        show _ = _
        rw [HB.out, List.drop_eq_nil_of_le (by have := hn.out; omega)]; rfl
      go_wp2_with fail
      go_ret
      exact ⟨by rw [HR.out]; rfl, HX.out⟩

/-- What a setup must have for an event. -/
structure SuE (cs : List Value) (pl : Int) (ne nc ng nr : Nat) : Prop where
  len : cs.length = 23
  pl : cs[0]? = some (.int .i64 pl)
  el : ∃ A c, cs[4]? = some (.slice A ne c)
  cl : ∃ A c, cs[5]? = some (.slice A nc c)
  ge : ∃ A c, cs[6]? = some (.slice A ng c)
  ra : ∃ A c, cs[18]? = some (.slice A nr c)
def checkE (pl : Int) (ne nc ng nr : Nat) (e : Ev) : Bool := fairB e && (decide (e.worker < nr) && (if e.kind = 3 then decide (e.fr < pl ∧ e.to < pl ∧ e.element < ne ∧ e.cls < nc ∧ e.gear < ng ∧ e.units < 10001) else if e.kind = 4 then decide (e.code ≤ 99) else true))
set_option maxRecDepth 100000 in
set_option maxHeartbeats 1000000 in
theorem pCheckE {cs : List Value} {pl : Int} {ne nc ng nr : Nat} (hs : SuE cs pl ne nc ng nr) (e : Ev) (w : World) : Calls Try.prog 34 #[.agg cs.toArray, .agg (encV e).toArray] w (RetB w (checkE pl ne nc ng nr e)) := by
  have HA := Lib.hid ((Bx.new w cs 55).alloc (.cells (encV e).toArray 23))
  have HB : Hid (Bx ((w.alloc (.cells cs.toArray 55)).alloc (.cells (encV e).toArray 23)) (w.heap.size + 1) (encV e) 23) := by
    have := Bx.new (w.alloc (.cells cs.toArray 55)) (encV e) 23
    rw [show (w.alloc (.cells cs.toArray 55)).heap.size = w.heap.size + 1 from by simp] at this
    exact this
  have X := Lib.hid (((Ext.refl w).alloc (.cells cs.toArray 55)).alloc (.cells (encV e).toArray 23))
  obtain ⟨R, hR⟩ : ∃ R, checkE pl ne nc ng nr e = R := ⟨_, rfl⟩
  rw [hR]
  unfold checkE at hR
  replace hR := Lib.hid hR
  replace hs := Lib.hid hs
  go_enter Try.func34, Try.ntmps34
  go_wp2_with (first | (refine load_box rfl 23 _ rfl (w.heap.size + 1) rfl _ _ HB.out _ Try.underlying23 rfl sizeV ?_))
  refine (pFair e _).mono ?_
  rintro e1 w1 ⟨rfl, x1⟩
  have HA1 := HA.out.ext x1
  have HB1 := HB.out.ext x1
  have X1 := Lib.hid (X.out.trans x1)
  clear HA HB X x1
  cases hf : fairB e with
  | false =>
    have : R = false := by rw [← hR.out, hf]; rfl
    subst this
    clear hf
    go_wp2_with fail
    go_ret
    exact ⟨rfl, X1.out⟩
  | true =>
    rw [hf, Bool.true_and] at hR
    clear hf
    obtain ⟨Ar, cr, hra⟩ := hs.out.ra
    have a18 := HA1.cell 18 _ hra
    have b1 := HB1.cell 1 _ rfl
    have HA1h := Lib.hid HA1; have HB1h := Lib.hid HB1
    clear HA1 HB1
    go_wp2_with fail
    have Rn2 : Rn (w1.alloc (.cells #[.int .i64 e.worker, .int .i64 (nr : Int)] 3)) (some ⟨w1.heap.size, 0, none⟩) [e.worker, (nr : Int)] := Rn.new w1 [e.worker, (nr : Int)] 3
    refine (pBelow Rn2 2 1 2 rfl rfl (by omega)).mono ?_
    rintro e2 w2 ⟨rfl, x2⟩
    have HA2 := HA1h.out.ext (((Ext.refl w1).alloc _).trans x2)
    have HB2 := HB1h.out.ext (((Ext.refl w1).alloc _).trans x2)
    have X2 := Lib.hid (X1.out.trans (((Ext.refl w1).alloc _).trans x2))
    have hb2 : belowL [e.worker, (nr : Int)] = decide (e.worker < nr) := by simp [belowL]
    rw [hb2]
    clear HA1h HB1h X1 x2 Rn2 hb2 a18 b1
    by_cases hw : e.worker < nr
    · have dw : decide (e.worker < (nr : Int)) = true := decide_eq_true hw
      rw [dw] at hR ⊢
      rw [Bool.true_and] at hR
      clear dw hw
      have b3 := HB2.cell 3 _ rfl
      by_cases h3 : e.kind = 3
      · rw [if_pos h3] at hR
        have a0 := HA2.cell 0 _ hs.out.pl
        obtain ⟨Ae, ce, hel⟩ := hs.out.el
        obtain ⟨Ac, cc, hcl⟩ := hs.out.cl
        obtain ⟨Ag, cg, hge⟩ := hs.out.ge
        have a4 := HA2.cell 4 _ hel
        have a5 := HA2.cell 5 _ hcl
        have a6 := HA2.cell 6 _ hge
        have b4 := HB2.cell 4 _ rfl; have b5 := HB2.cell 5 _ rfl; have b6 := HB2.cell 6 _ rfl; have b7 := HB2.cell 7 _ rfl; have b8 := HB2.cell 8 _ rfl; have b9 := HB2.cell 9 _ rfl
        clear HA2 HB2
        go_wp2_with fail
        have Rn3 : Rn (w2.alloc (.cells #[.int .i64 e.fr, .int .i64 pl, .int .i64 e.to, .int .i64 pl, .int .i64 e.element, .int .i64 (ne : Int), .int .i64 e.cls, .int .i64 (nc : Int), .int .i64 e.gear, .int .i64 (ng : Int), .int .i64 e.units, .int .i64 10001] 3)) (some ⟨w2.heap.size, 0, none⟩) [e.fr, pl, e.to, pl, e.element, (ne : Int), e.cls, (nc : Int), e.gear, (ng : Int), e.units, 10001] := Rn.new w2 [e.fr, pl, e.to, pl, e.element, (ne : Int), e.cls, (nc : Int), e.gear, (ng : Int), e.units, 10001] 3
        refine (pBelow Rn3 12 6 12 rfl rfl (by omega)).mono ?_
        rintro e3 w3 ⟨rfl, x3⟩
        have X3 := Lib.hid (X2.out.trans (((Ext.refl w2).alloc _).trans x3))
        have hb3 : belowL [e.fr, pl, e.to, pl, e.element, (ne : Int), e.cls, (nc : Int), e.gear, (ng : Int), e.units, 10001] = R := by
          rw [← hR.out]
          simp only [belowL, Bool.and_true, Bool.decide_and]
        rw [hb3]
        clear Rn3 x3 X2 hb3 a0 a4 a5 a6 b4 b5 b6 b7 b8 b9 b3
        go_wp2_with fail
        go_ret
        exact ⟨rfl, X3.out⟩
      · rw [if_neg h3] at hR
        have k3 : (e.kind == 3) = false := by rw [beq_eq_false_iff_ne]; exact h3
        by_cases h4 : e.kind = 4
        · rw [if_pos h4] at hR
          have k4 : (e.kind == 4) = true := by rw [beq_iff_eq]; exact h4
          have b10 := HB2.cell 10 _ rfl
          clear HA2 HB2 h3 h4
          go_wp2_with fail
          go_ret
          exact ⟨by rw [← hR.out]; rfl, X2.out⟩
        · rw [if_neg h4] at hR
          have k4 : (e.kind == 4) = false := by rw [beq_eq_false_iff_ne]; exact h4
          clear HA2 HB2 h3 h4
          go_wp2_with fail
          go_ret
          exact ⟨by rw [← hR.out]; rfl, X2.out⟩
    · have dw : decide (e.worker < (nr : Int)) = false := decide_eq_false hw
      rw [dw] at hR ⊢
      rw [Bool.false_and] at hR
      clear dw hw HA2 HB2
      go_wp2_with fail
      go_ret
      exact ⟨by rw [← hR.out]; rfl, X2.out⟩
set_option maxRecDepth 100000 in
set_option maxHeartbeats 1000000 in
theorem rCheckE {cs : List Value} {pl : Int} {ne nc ng nr : Nat} (hs : SuE cs pl ne nc ng nr) (e : Ev) (w : World) : Calls Try.prog 37 #[.agg cs.toArray, .agg (encV e).toArray] w (RetB w (checkE pl ne nc ng nr e)) := by
  have HA := Lib.hid ((Bx.new w cs 55).alloc (.cells (encV e).toArray 23))
  have HB : Hid (Bx ((w.alloc (.cells cs.toArray 55)).alloc (.cells (encV e).toArray 23)) (w.heap.size + 1) (encV e) 23) := by
    have := Bx.new (w.alloc (.cells cs.toArray 55)) (encV e) 23
    rw [show (w.alloc (.cells cs.toArray 55)).heap.size = w.heap.size + 1 from by simp] at this
    exact this
  have X := Lib.hid (((Ext.refl w).alloc (.cells cs.toArray 55)).alloc (.cells (encV e).toArray 23))
  obtain ⟨R, hR⟩ : ∃ R, checkE pl ne nc ng nr e = R := ⟨_, rfl⟩
  rw [hR]
  unfold checkE at hR
  replace hR := Lib.hid hR
  replace hs := Lib.hid hs
  go_enter Try.func37, Try.ntmps37
  go_wp2_with (first | (refine load_box rfl 23 _ rfl (w.heap.size + 1) rfl _ _ HB.out _ Try.underlying23 rfl sizeV ?_))
  refine (rFair e _).mono ?_
  rintro e1 w1 ⟨rfl, x1⟩
  have HA1 := HA.out.ext x1
  have HB1 := HB.out.ext x1
  have X1 := Lib.hid (X.out.trans x1)
  clear HA HB X x1
  cases hf : fairB e with
  | false =>
    have : R = false := by rw [← hR.out, hf]; rfl
    subst this
    clear hf HA1 HB1 hR
    go_wp2_with fail
    go_ret
    exact ⟨rfl, X1.out⟩
  | true =>
    rw [hf, Bool.true_and] at hR
    have hf' := Lib.hid hf
    clear hf
    obtain ⟨Ar, cr, hra⟩ := hs.out.ra
    have a18 := HA1.cell 18 _ hra
    have b1 := HB1.cell 1 _ rfl
    by_cases hw : e.worker < nr
    · have dw : decide (e.worker < (nr : Int)) = true := decide_eq_true hw
      have dw2 : decide ((nr : Int) ≤ e.worker) = false := decide_eq_false (by omega)
      rw [dw, Bool.true_and] at hR
      clear dw hw
      have b3 := HB1.cell 3 _ rfl
      by_cases h3 : e.kind = 3
      · rw [if_pos h3] at hR
        have k3 : (e.kind == 3) = true := by rw [beq_iff_eq]; exact h3
        have a0 := HA1.cell 0 _ hs.out.pl
        obtain ⟨Ae, ce, hel⟩ := hs.out.el
        obtain ⟨Ac, cc, hcl⟩ := hs.out.cl
        obtain ⟨Ag, cg, hge⟩ := hs.out.ge
        have a4 := HA1.cell 4 _ hel
        have a5 := HA1.cell 5 _ hcl
        have a6 := HA1.cell 6 _ hge
        have b4 := HB1.cell 4 _ rfl; have b5 := HB1.cell 5 _ rfl; have b6 := HB1.cell 6 _ rfl; have b7 := HB1.cell 7 _ rfl; have b8 := HB1.cell 8 _ rfl; have b9 := HB1.cell 9 _ rfl
        clear HA1 HB1 h3
        by_cases h1 : e.fr < pl
        · have d1 : decide (e.fr < pl) = true := decide_eq_true h1
          by_cases h2 : e.to < pl
          · have d2 : decide (e.to < pl) = true := decide_eq_true h2
            by_cases h3 : e.element < (ne : Int)
            · have d3 : decide (e.element < (ne : Int)) = true := decide_eq_true h3
              by_cases h4 : e.cls < (nc : Int)
              · have d4 : decide (e.cls < (nc : Int)) = true := decide_eq_true h4
                by_cases h5 : e.gear < (ng : Int)
                · have d5 : decide (e.gear < (ng : Int)) = true := decide_eq_true h5
                  by_cases h6 : e.units ≤ 10000
                  · have d6 : decide (e.units ≤ 10000) = true := decide_eq_true h6
                    have hE : R = true := by rw [← hR.out]; exact decide_eq_true ⟨h1, h2, h3, h4, h5, by omega⟩
                    subst hE
                    clear h1 h2 h3 h4 h5 h6 hR
                    go_wp2_with fail
                    go_ret
                    exact ⟨rfl, X1.out⟩
                  · have d6 : decide (e.units ≤ 10000) = false := decide_eq_false h6
                    have hE : R = false := by rw [← hR.out]; exact decide_eq_false fun h => h6 (by omega)
                    subst hE
                    clear h1 h2 h3 h4 h5 h6 hR
                    go_wp2_with fail
                    go_ret
                    exact ⟨rfl, X1.out⟩
                · have d5 : decide (e.gear < (ng : Int)) = false := decide_eq_false h5
                  have hE : R = false := by rw [← hR.out]; exact decide_eq_false fun h => h5 (by omega)
                  subst hE
                  clear h1 h2 h3 h4 h5 hR
                  go_wp2_with fail
                  go_ret
                  exact ⟨rfl, X1.out⟩
              · have d4 : decide (e.cls < (nc : Int)) = false := decide_eq_false h4
                have hE : R = false := by rw [← hR.out]; exact decide_eq_false fun h => h4 (by omega)
                subst hE
                clear h1 h2 h3 h4 hR
                go_wp2_with fail
                go_ret
                exact ⟨rfl, X1.out⟩
            · have d3 : decide (e.element < (ne : Int)) = false := decide_eq_false h3
              have hE : R = false := by rw [← hR.out]; exact decide_eq_false fun h => h3 (by omega)
              subst hE
              clear h1 h2 h3 hR
              go_wp2_with fail
              go_ret
              exact ⟨rfl, X1.out⟩
          · have d2 : decide (e.to < pl) = false := decide_eq_false h2
            have hE : R = false := by rw [← hR.out]; exact decide_eq_false fun h => h2 (by omega)
            subst hE
            clear h1 h2 hR
            go_wp2_with fail
            go_ret
            exact ⟨rfl, X1.out⟩
        · have d1 : decide (e.fr < pl) = false := decide_eq_false h1
          have hE : R = false := by rw [← hR.out]; exact decide_eq_false fun h => h1 (by omega)
          subst hE
          clear h1 hR
          go_wp2_with fail
          go_ret
          exact ⟨rfl, X1.out⟩
      · rw [if_neg h3] at hR
        have k3 : (e.kind == 3) = false := by rw [beq_eq_false_iff_ne]; exact h3
        have b10 := HB1.cell 10 _ rfl
        have hE : decide (e.code ≤ 99) = R := by
          rw [← hR.out]
          split
          · rfl
          · next h4 =>
            obtain ⟨_, _, _, _, _, _, h7⟩ := fairB_iff.1 hf'.out
            exact decide_eq_true (by have := h7 h4; omega)
        replace hE := Lib.hid hE
        clear HA1 HB1 h3
        go_wp2_with fail
        go_ret
        exact ⟨by rw [← hE.out]; rfl, X1.out⟩
    · have dw2 : decide ((nr : Int) ≤ e.worker) = true := decide_eq_true (by omega)
      have hE : R = false := by rw [← hR.out, decide_eq_false hw]; rfl
      subst hE
      clear hw HA1 HB1 hR
      go_wp2_with fail
      go_ret
      exact ⟨rfl, X1.out⟩
end Go.Proofs.Ytmbjbbflhlndcaa
