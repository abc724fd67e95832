/-
  Laws of layer 14: NightTurns.
-/
import Derived.Test.YtnhmibfgaoealaaNe
namespace Go.Proofs.Ytnhmibfgaoealaa
open Go.RowKit
set_option linter.unusedVariables false
set_option linter.unusedSimpArgs false


set_option maxRecDepth 100000 in
set_option maxHeartbeats 1000000 in
theorem nightTurns0 (cs : List Value) (hcs : cs.length = 23) (F T : Int) (cF : cs[16]? = some (.int .i64 F)) (cT : cs[17]? = some (.int .i64 T)) (l : List Sp.S) (A : Option Addr) (c : Nat) (p : Prop) (R R2 : List Sp.S) (w : World) (h : Rs w A l) (h30 : p → l.length ≤ 900000) (kF : ∀ W, Ext w W → ∀ A c, Rs W A l → Calls Try.prog 53 #[.agg cs.toArray, .slice A l.length c] W (RetP W p)) (kC : p → ∀ W, Ext w W → Calls Try.prog 59 #[.agg cs.toArray] W (RetB W false)) :
    Calls Try.prog 17 #[.agg cs.toArray, .slice A l.length c] w (RetB w true) := by
  replace kF := Lib.hid kF
  replace kC := Lib.hid kC
  replace h := Lib.hid h
  replace h30 := Lib.hid h30
  have hi := Lib.hid (su_size hcs)
  clear hcs
  have hs0 := Bx.new w cs 35
  have X0 := (Ext.refl w).alloc (.cells cs.toArray 35)
  have hl0 := h.out.alloc (.cells cs.toArray 35)
  go_enter Try.func17, Try.ntmps17
  go_wp2_with fail
  refine (awake14 _).mono ?_
  rintro e w1 ⟨rfl, x1⟩
  have hs1 := hs0.ext x1; clear hs0
  have hl1 := hl0.ext x1; clear hl0
  have X1 := X0.trans x1
  go_wp2_with (first | (refine load_box rfl 35 _ rfl _ rfl _ _ hs1 _ Try.underlying35 rfl hi.out ?_))
  refine (kF.out _ X1 _ _ hl1).mono ?_
  rintro e w2 ⟨⟨b, rfl, hb⟩, x2⟩
  have hs2 := hs1.ext x2; clear hs1
  have hl2 := hl1.ext x2; clear hl1
  have X2 := X1.trans x2
  cases b
  · clear hb
    go_wp2
    go_ret
    exact ⟨rfl, X2⟩
  · have hp := hb rfl
    clear hb
    go_wp2_with (first | (refine load_box rfl 35 _ rfl _ rfl _ _ hs2 _ Try.underlying35 rfl hi.out ?_))
    refine (kC.out hp _ X2).mono ?_
    rintro e w3 ⟨rfl, x3⟩
    have hs3 := hs2.ext x3; clear hs2
    have hl3 := hl2.ext x3; clear hl2
    have X3 := X2.trans x3
    go_wp2
    go_ret
    exact ⟨rfl, X3⟩

set_option maxRecDepth 100000 in
set_option maxHeartbeats 1000000 in
theorem nightTurns1 (cs : List Value) (hcs : cs.length = 23) (F T : Int) (cF : cs[16]? = some (.int .i64 F)) (cT : cs[17]? = some (.int .i64 T)) (l : List Sp.S) (A : Option Addr) (c : Nat) (p : Prop) (R R2 : List Sp.S) (w : World) (h : Rs w A l) (h30 : p → l.length ≤ 900000) (kF : ∀ W, Ext w W → ∀ A c, Rs W A l → Calls Try.prog 53 #[.agg cs.toArray, .slice A l.length c] W (RetP W p)) (kC : p → ∀ W, Ext w W → Calls Try.prog 59 #[.agg cs.toArray] W (RetB W true)) (kO : p → ∀ W, Ext w W → ∀ A c, Rs W A l → Calls Try.prog 54 #[.agg cs.toArray, .slice A l.length c] W (RetS W R)) (kP : p → ∀ W, Ext w W → ∀ A c, Rs W A l → Calls Try.prog 54 #[.agg (((cs.set 16 (.int .i64 T)).set 17 (.int .i64 F))).toArray, .slice A l.length c] W (RetS W R2)) (hone : cs.toArray.all (·.oneCell') = true) (hR : p → R.length ≤ 900000 ∧ R2.length ≤ 900000) (e1 : R = [] ∧ R2 = [] ∧ F = T) :
    Calls Try.prog 17 #[.agg cs.toArray, .slice A l.length c] w (RetB w true) := by
  obtain ⟨rfl, rfl, rfl⟩ := e1
  replace kF := Lib.hid kF
  replace kC := Lib.hid kC
  replace h := Lib.hid h
  replace h30 := Lib.hid h30
  replace hone := Lib.hid hone
  replace kO := Lib.hid kO
  replace kP := Lib.hid kP
  replace hR := Lib.hid hR
  have hi := Lib.hid (su_size hcs)
  have hs0 := Bx.new w cs 35
  have X0 := (Ext.refl w).alloc (.cells cs.toArray 35)
  have hl0 := h.out.alloc (.cells cs.toArray 35)
  go_enter Try.func17, Try.ntmps17
  go_wp2_with fail
  refine (awake14 _).mono ?_
  rintro e w1 ⟨rfl, x1⟩
  have hs1 := hs0.ext x1; clear hs0
  have hl1 := hl0.ext x1; clear hl0
  have X1 := X0.trans x1
  go_wp2_with (first | (refine load_box rfl 35 _ rfl _ rfl _ _ hs1 _ Try.underlying35 rfl hi.out ?_))
  refine (kF.out _ X1 _ _ hl1).mono ?_
  rintro e w2 ⟨⟨b, rfl, hb⟩, x2⟩
  have hs2 := hs1.ext x2; clear hs1
  have hl2 := hl1.ext x2; clear hl1
  have X2 := X1.trans x2
  cases b
  · clear hb
    go_wp2
    go_ret
    exact ⟨rfl, X2⟩
  · have hp := hb rfl
    clear hb
    go_wp2_with (first | (refine load_box rfl 35 _ rfl _ rfl _ _ hs2 _ Try.underlying35 rfl hi.out ?_))
    refine (kC.out hp _ X2).mono ?_
    rintro e w3 ⟨rfl, x3⟩
    have hs3 := hs2.ext x3; clear hs2
    have hl3 := hl2.ext x3; clear hl2
    have X3 := X2.trans x3
    have hB3 := hs3.lt
    have z16 := hs3.cell 16 _ cF
    have z17 := hs3.cell 17 _ cT
    have hi2 := Lib.hid (su_size (cs := ((cs.set 16 (.int .i64 F)).set 17 (.int .i64 F))) (by simpa using hcs))
    go_wp2_with (first | (refine store_new rfl 35 _ _ rfl w3 w3.heap.size rfl _ cs.toArray 35 rfl rfl rfl hi.out (by simpa using hcs.symm) hone.out ?_) | (refine load_box rfl 35 _ rfl _ rfl _ _ hs3 _ Try.underlying35 rfl hi.out ?_) | (refine load_box rfl 35 _ rfl _ rfl _ _ (hs3.alloc (.cells ((cs.set 16 (.int .i64 F)).set 17 (.int .i64 F)).toArray 35)) _ Try.underlying35 rfl hi.out ?_))
    refine (kO.out hp _ (X3.alloc _) _ _ (hl3.alloc _)).mono ?_
    rintro e w4 ⟨A4, cap4, rfl, r4, x4, _⟩
    have hs4 := (hs3.alloc _).ext x4
    have hl4 := (hl3.alloc _).ext x4
    have X4 := (X3.alloc _).trans x4
    have hd4 := (Bx.new w3 ((cs.set 16 (.int .i64 F)).set 17 (.int .i64 F)) 35).ext x4
    go_wp2_with (first | (refine load_box rfl 35 _ rfl _ rfl _ _ hd4 _ Try.underlying35 rfl hi2.out ?_))
    refine (kP.out hp _ X4 _ _ hl4).mono ?_
    rintro e w5 ⟨A5, cap5, rfl, r5, x5, _⟩
    have hs5 := hs4.ext x5; clear hs4
    have hl5 := hl4.ext x5; clear hl4
    have ha5 := r4.ext x5
    have hd5 := hd4.ext x5; clear hd4
    have X5 := X4.trans x5
    have y16 := hs5.cell 16 _ cF
    have y17 := hs5.cell 17 _ cT
    go_wp2
    go_ret
    exact ⟨rfl, X5⟩

set_option maxRecDepth 100000 in
set_option maxHeartbeats 1000000 in
theorem nightTurns2 (cs : List Value) (hcs : cs.length = 23) (F T : Int) (cF : cs[16]? = some (.int .i64 F)) (cT : cs[17]? = some (.int .i64 T)) (l : List Sp.S) (A : Option Addr) (c : Nat) (p : Prop) (R R2 : List Sp.S) (w : World) (h : Rs w A l) (h30 : p → l.length ≤ 900000) (kF : ∀ W, Ext w W → ∀ A c, Rs W A l → Calls Try.prog 53 #[.agg cs.toArray, .slice A l.length c] W (RetP W p)) (kC : p → ∀ W, Ext w W → Calls Try.prog 59 #[.agg cs.toArray] W (RetB W true)) (kO : p → ∀ W, Ext w W → ∀ A c, Rs W A l → Calls Try.prog 54 #[.agg cs.toArray, .slice A l.length c] W (RetS W R)) (kP : p → ∀ W, Ext w W → ∀ A c, Rs W A l → Calls Try.prog 54 #[.agg (((cs.set 16 (.int .i64 T)).set 17 (.int .i64 F))).toArray, .slice A l.length c] W (RetS W R2)) (hone : cs.toArray.all (·.oneCell') = true) (hR : p → R.length ≤ 900000 ∧ R2.length ≤ 900000) (e1 : F ≠ T ∧ R2 = Sp.minus l R) :
    Calls Try.prog 17 #[.agg cs.toArray, .slice A l.length c] w (RetB w true) := by
  replace kF := Lib.hid kF
  replace kC := Lib.hid kC
  replace h := Lib.hid h
  replace h30 := Lib.hid h30
  replace hone := Lib.hid hone
  replace kO := Lib.hid kO
  replace kP := Lib.hid kP
  replace hR := Lib.hid hR
  replace e1 := Lib.hid e1
  have hi := Lib.hid (su_size hcs)
  have hs0 := Bx.new w cs 35
  have X0 := (Ext.refl w).alloc (.cells cs.toArray 35)
  have hl0 := h.out.alloc (.cells cs.toArray 35)
  go_enter Try.func17, Try.ntmps17
  go_wp2_with fail
  refine (awake14 _).mono ?_
  rintro e w1 ⟨rfl, x1⟩
  have hs1 := hs0.ext x1; clear hs0
  have hl1 := hl0.ext x1; clear hl0
  have X1 := X0.trans x1
  go_wp2_with (first | (refine load_box rfl 35 _ rfl _ rfl _ _ hs1 _ Try.underlying35 rfl hi.out ?_))
  refine (kF.out _ X1 _ _ hl1).mono ?_
  rintro e w2 ⟨⟨b, rfl, hb⟩, x2⟩
  have hs2 := hs1.ext x2; clear hs1
  have hl2 := hl1.ext x2; clear hl1
  have X2 := X1.trans x2
  cases b
  · clear hb
    go_wp2
    go_ret
    exact ⟨rfl, X2⟩
  · have hp := hb rfl
    clear hb
    go_wp2_with (first | (refine load_box rfl 35 _ rfl _ rfl _ _ hs2 _ Try.underlying35 rfl hi.out ?_))
    refine (kC.out hp _ X2).mono ?_
    rintro e w3 ⟨rfl, x3⟩
    have hs3 := hs2.ext x3; clear hs2
    have hl3 := hl2.ext x3; clear hl2
    have X3 := X2.trans x3
    have hB3 := hs3.lt
    have z16 := hs3.cell 16 _ cF
    have z17 := hs3.cell 17 _ cT
    have hi2 := Lib.hid (su_size (cs := ((cs.set 16 (.int .i64 T)).set 17 (.int .i64 F))) (by simpa using hcs))
    go_wp2_with (first | (refine store_new rfl 35 _ _ rfl w3 w3.heap.size rfl _ cs.toArray 35 rfl rfl rfl hi.out (by simpa using hcs.symm) hone.out ?_) | (refine load_box rfl 35 _ rfl _ rfl _ _ hs3 _ Try.underlying35 rfl hi.out ?_) | (refine load_box rfl 35 _ rfl _ rfl _ _ (hs3.alloc (.cells ((cs.set 16 (.int .i64 T)).set 17 (.int .i64 F)).toArray 35)) _ Try.underlying35 rfl hi.out ?_))
    refine (kO.out hp _ (X3.alloc _) _ _ (hl3.alloc _)).mono ?_
    rintro e w4 ⟨A4, cap4, rfl, r4, x4, _⟩
    have hs4 := (hs3.alloc _).ext x4
    have hl4 := (hl3.alloc _).ext x4
    have X4 := (X3.alloc _).trans x4
    have hd4 := (Bx.new w3 ((cs.set 16 (.int .i64 T)).set 17 (.int .i64 F)) 35).ext x4
    go_wp2_with (first | (refine load_box rfl 35 _ rfl _ rfl _ _ hd4 _ Try.underlying35 rfl hi2.out ?_))
    refine (kP.out hp _ X4 _ _ hl4).mono ?_
    rintro e w5 ⟨A5, cap5, rfl, r5, x5, _⟩
    have hs5 := hs4.ext x5; clear hs4
    have hl5 := hl4.ext x5; clear hl4
    have ha5 := r4.ext x5
    have hd5 := hd4.ext x5; clear hd4
    have X5 := X4.trans x5
    have y16 := hs5.cell 16 _ cF
    have y17 := hs5.cell 17 _ cT
    have f1 : (F == T) = false := beq_false_of_ne e1.out.1
    go_wp2_with fail
    refine (cMinus hl5 ha5 (h30.out hp) (hR.out hp).1 _ _).mono ?_
    rintro e w6 ⟨A6, cap6, rfl, r6, x6, _⟩
    have hs6 := hs5.ext x6; clear hs5
    have hl6 := hl5.ext x6; clear hl5
    have ha6 := ha5.ext x6; clear ha5
    have hd6 := hd5.ext x6; clear hd5
    have hb6 := r5.ext x6
    have X6 := X5.trans x6
    go_wp2_with fail
    refine (bEq (cSame hb6 r6 (hR.out hp).2 _ _) (b' := true) (decide_eq_true e1.out.2)).mono ?_
    rintro e w7 ⟨rfl, x7⟩
    have hs7 := hs6.ext x7; clear hs6
    have hl7 := hl6.ext x7; clear hl6
    have ha7 := ha6.ext x7; clear ha6
    have hd7 := hd6.ext x7; clear hd6
    have hb7 := hb6.ext x7; clear hb6
    have hm7 := r6.ext x7
    have X7 := X6.trans x7
    go_wp2
    go_ret
    exact ⟨rfl, X7⟩

theorem all_one (s : Su) (g : Sh) : (s.cells g).toArray.all (·.oneCell') = true := by simp [Value.oneCell']
def swapS (s : Su) : Su := { s with nfrom := s.nto, nto := s.nfrom }
theorem swap_chk (s : Su) : chk (swapS s) = chk s := by
  have e : chTimes (swapS s) = chTimes s := by
    unfold chTimes swapS
    simp only [List.all_cons, List.all_nil, Bool.and_true]
    cases okIn 0 86400 s.nfrom <;> cases okIn 0 86400 s.nto <;> simp
  unfold chk
  rw [e]
  rfl
theorem turns14 (s : Su) (g : Sh) (ok : SuOk s) (l : List Sp.S) (A : Option Addr) (c : Nat) (hl : l.length ≤ maxLen) (w : World) (r : SuR w s g) (h : Rs w A l) :
    Calls Try.prog 17 #[.agg (s.cells g).toArray, .slice A l.length c] w (RetB w true) := by
  have a1 : Few14 s l → l.length ≤ 900000 := fun p => by have := p.2.1; omega
  have a3 : ∀ W, Ext w W → ∀ A c, Rs W A l → Calls Try.prog 53 #[.agg (s.cells g).toArray, .slice A l.length c] W (RetP W (Few14 s l)) := fun W X A c h => pFew14 s g h hl c
  have a6 : Few14 s l → ∀ W, Ext w W → Calls Try.prog 59 #[.agg (s.cells g).toArray] W (RetB W (chk s)) := fun p W X => pCheck ok p.1 (r.ext X)
  cases hc : chk s
  · rw [hc] at a6
    exact nightTurns0 (s.cells g) rfl s.nfrom s.nto rfl rfl l A c _ [] [] w h a1 a3 a6
  · rw [hc] at a6
    have hn := chk_nt hc
    have a4 : Few14 s l → ∀ W, Ext w W → ∀ A c, Rs W A l → Calls Try.prog 54 #[.agg (s.cells g).toArray, .slice A l.length c] W (RetS W (nightS s l)) := fun p W X A c h => pNightOf ok p.1 (r.ext X) h (a1 p) c
    have ok2 : SuOk (swapS s) := ⟨ok.places, ok.allow, ok.unit, ok.cap, ok.paid, ok.after, ok.auto, ok.dreg, ok.dover, ok.wreg, ok.nto, ok.nfrom, ok.diff, ok.least, ok.fault, ok.pace, ok.ways, ok.elements, ok.classes, ok.gears, ok.rates, ok.tiers⟩
    have a5 : Few14 s l → ∀ W, Ext w W → ∀ A c, Rs W A l → Calls Try.prog 54 #[.agg ((((s.cells g).set 16 (.int .i64 s.nto)).set 17 (.int .i64 s.nfrom))).toArray, .slice A l.length c] W (RetS W (nightS (swapS s) l)) := fun p W X A c h =>
      pNightOf (s := swapS s) (h := g) ok2 p.1 ⟨(r.ext X).ways, (r.ext X).elements, (r.ext X).classes, (r.ext X).gears, (r.ext X).rates, (r.ext X).tiers⟩ h (a1 p) c
    have e1 : nightS s l = nightOf s.nfrom s.nto l := if_pos hc
    have e2 : nightS (swapS s) l = nightOf s.nto s.nfrom l := if_pos (by rw [swap_chk, hc])
    have aR : Few14 s l → (nightS s l).length ≤ 900000 ∧ (nightS (swapS s) l).length ≤ 900000 := fun p => ⟨nightS_len s l (by have := p.2.1; omega), nightS_len (swapS s) l (by have := p.2.1; omega)⟩
    by_cases hFT : s.nfrom = s.nto
    · refine nightTurns1 (s.cells g) rfl s.nfrom s.nto rfl rfl l A c _ _ _ w h a1 a3 a6 a4 a5 (all_one s g) aR ⟨?_, ?_, hFT⟩
      · rw [e1, ← hFT]; rw [← hFT] at hn; exact night_none hn l
      · rw [e2, ← hFT]; rw [← hFT] at hn; exact night_none hn l
    · refine nightTurns2 (s.cells g) rfl s.nfrom s.nto rfl rfl l A c _ _ _ w h a1 a3 a6 a4 a5 (all_one s g) aR ⟨hFT, ?_⟩
      rw [e1, e2]; exact night_turns hn hFT l
end Go.Proofs.Ytnhmibfgaoealaa
