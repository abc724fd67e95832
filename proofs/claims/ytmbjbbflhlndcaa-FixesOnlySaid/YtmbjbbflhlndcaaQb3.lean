/-
  A correction; fixes.Apply.
  lumperref13.Apply.
-/
import Derived.Test.YtmbjbbflhlndcaaQa3
namespace Go.Proofs.Ytmbjbbflhlndcaa
open Go.RowKit BigFrame
set_option linter.unusedVariables false
set_option linter.unusedSimpArgs false

structure Fx where
  kind : Int
  ev : Ev
def encF (f : Fx) : List Value := .int .i64 f.kind :: encV f.ev
theorem sizeF : (Try.prog.info? 25).map (·.size) = some 12 := by kernel_rfl
theorem Bx.tail {w : World} {g : Nat} {x : Value} {cs : List Value} {t : TypeId} (h : Bx w g (x :: cs) t) : w.rangeAt g 1 cs := fun j v hv => by
  have := h.cell (1 + j) v (by rw [Nat.add_comm, List.getElem?_cons_succ]; exact hv)
  exact this
def delE (l : List Ev) (i : Nat) : List Ev := l.take i ++ l.drop (i + 1)
/-- Events behind a correction, and the error. -/
def applyE (chk : Bool) (l : List Ev) (f : Fx) : List Ev × Int :=
  if f.kind = 1 then (if chk then (match ixE l f.ev.id with | some _ => ([], 130) | none => (sortE (l ++ [f.ev]), 0)) else ([], 80))
  else if f.kind = 2 then (match ixE l f.ev.id with | some i => (sortE (delE l i), 0) | none => ([], 131))
  else if f.kind = 3 then (if chk then (match ixE l f.ev.id with | some i => (sortE (delE l i ++ [f.ev]), 0) | none => ([], 131)) else ([], 80))
  else ([], 80)
/-- What a call leaves that hands back events and an error. -/
def RetAp (w : World) (R : List Ev) (r : Int) (e : Ending) (w' : World) : Prop := ∃ A cap, e = .returned (.tuple #[.slice A R.length cap, .int .i64 r]) ∧ Re w' A R ∧ Ext w w'
theorem wpl_buildE {ops : Array Oper} {rest : List Oper} {o : Oper} {a : Act} {w : World} {Q : Exit → Act → World → Prop} (hgd : Region.wanted o (yielded ops a.tmps) = true) (y : Operand) (ho : o.op = .buildSlice 63 1 #[(0, y)]) (x : Ev) (hy : a.eval y = .agg (encV x).toArray)
    (h : wpList Try.prog ops Q rest (a.put o.dst (.slice (some ⟨w.heap.size, 0, none⟩) 1 1)) (w.alloc (.cells (encV x).toArray 23))) : wpList Try.prog ops Q (o :: rest) a w := by
  refine wpList_step fun K hK => ?_
  rw [if_pos hgd]
  exact wp_buildE y ho x hy (hK _ _ h)

set_option maxRecDepth 100000 in
theorem pPuts (f : Fx) (w : World) : Calls Try.prog 75 #[.agg (encF f).toArray] w (RetB w (decide (f.kind = 1 ∨ f.kind = 3))) := by
  have c0 := (Bx.new w (encF f) 108).cell 0 _ rfl
  have X := Lib.hid ((Ext.refl w).alloc (.cells (encF f).toArray 108))
  by_cases h1 : f.kind = 1
  · have d1 : (f.kind == 1) = true := by rw [beq_iff_eq]; exact h1
    rw [decide_eq_true (.inl h1)]
    clear h1
    go_enter Try.func75, Try.ntmps75
    go_wp2_with fail
    go_ret
    exact ⟨rfl, X.out⟩
  · have d1 : (f.kind == 1) = false := by rw [beq_eq_false_iff_ne]; exact h1
    have d3 : decide (f.kind = 1 ∨ f.kind = 3) = (f.kind == 3) := by
      by_cases h3 : f.kind = 3
      · rw [h3]; rfl
      · rw [decide_eq_false (by omega)]; symm; rw [beq_eq_false_iff_ne]; exact h3
    rw [d3]
    clear h1 d3
    go_enter Try.func75, Try.ntmps75
    go_wp2_with fail
    go_ret
    exact ⟨rfl, X.out⟩
set_option maxRecDepth 100000 in
theorem pTakes (f : Fx) (w : World) : Calls Try.prog 76 #[.agg (encF f).toArray] w (RetB w (decide (f.kind = 2 ∨ f.kind = 3))) := by
  have c0 := (Bx.new w (encF f) 108).cell 0 _ rfl
  have X := Lib.hid ((Ext.refl w).alloc (.cells (encF f).toArray 108))
  by_cases h1 : f.kind = 2
  · have d1 : (f.kind == 2) = true := by rw [beq_iff_eq]; exact h1
    rw [decide_eq_true (.inl h1)]
    clear h1
    go_enter Try.func76, Try.ntmps76
    go_wp2_with fail
    go_ret
    exact ⟨rfl, X.out⟩
  · have d1 : (f.kind == 2) = false := by rw [beq_eq_false_iff_ne]; exact h1
    have d3 : decide (f.kind = 2 ∨ f.kind = 3) = (f.kind == 3) := by
      by_cases h3 : f.kind = 3
      · rw [h3]; rfl
      · rw [decide_eq_false (by omega)]; symm; rw [beq_eq_false_iff_ne]; exact h3
    rw [d3]
    clear h1 d3
    go_enter Try.func76, Try.ntmps76
    go_wp2_with fail
    go_ret
    exact ⟨rfl, X.out⟩

set_option maxRecDepth 100000 in
set_option maxHeartbeats 4000000 in
theorem pApply {cs : List Value} {pl : Int} {ne nc ng nr : Nat} (hsE : SuE cs pl ne nc ng nr) {w : World} {A : Option Addr} {l : List Ev} (h : Re w A l) (c n : Nat) (hn : l.length = n) (hl : n ≤ 100000) (f : Fx) :
    Calls Try.prog 46 #[.agg cs.toArray, .slice A n c, .agg (encF f).toArray] w (RetAp w (applyE (checkE pl ne nc ng nr f.ev) l f).1 (applyE (checkE pl ne nc ng nr f.ev) l f).2) := by
  obtain ⟨W0, hW0⟩ : ∃ W0, (w.alloc (.cells cs.toArray 55)).alloc (.cells (encF f).toArray 25) = W0 := ⟨_, rfl⟩
  have BS : Hid (Bx W0 w.heap.size cs 55) := by rw [← hW0]; exact (Bx.new w cs 55).alloc _
  have BF : Hid (Bx W0 (w.heap.size + 1) (encF f) 25) := by
    rw [← hW0]
    have := Bx.new (w.alloc (.cells cs.toArray 55)) (encF f) 25
    rwa [show (w.alloc (.cells cs.toArray 55)).heap.size = w.heap.size + 1 from by simp] at this
  have X0 : Hid (Ext w W0) := by rw [← hW0]; exact ((Ext.refl w).alloc _).alloc _
  have L0 := Lib.hid (h.ext X0.out)
  have hsz : (Try.prog.info? 55).map (·.size) = some cs.toArray.size := by rw [sizeS]; simp [hsE.len]
  replace hsz := Lib.hid hsz; replace hsE := Lib.hid hsE; replace hW0 := Lib.hid hW0; replace hn := Lib.hid hn
  obtain ⟨R, hR⟩ : ∃ R, (applyE (checkE pl ne nc ng nr f.ev) l f).1 = R := ⟨_, rfl⟩
  obtain ⟨r, hr⟩ : ∃ r, (applyE (checkE pl ne nc ng nr f.ev) l f).2 = r := ⟨_, rfl⟩
  rw [hR, hr]
  unfold applyE at hR hr
  replace hR := Lib.hid hR; replace hr := Lib.hid hr
  have kP := Lib.hid (fun W => pPuts f W); have kT := Lib.hid (fun W => pTakes f W)
  have kC := Lib.hid (fun W => pCheckE hsE.out f.ev W)
  have kH : Hid (∀ W, Re W A l → Calls Try.prog 77 #[.slice A n c, .int .i64 f.ev.id] W (RetI W (ixI l f.ev.id))) := fun W hW => pHas hW f.ev.id c n hn.out (by omega)
  clear h
  have key : ∀ (P T : Bool), decide (f.kind = 1 ∨ f.kind = 3) = P → decide (f.kind = 2 ∨ f.kind = 3) = T → Calls Try.prog 46 #[.agg cs.toArray, .slice A n c, .agg (encF f).toArray] w (RetAp w R r) := by
    intro P T hP hT
    rw [hP] at kP
    rw [hT] at kT
    replace hP := Lib.hid hP; replace hT := Lib.hid hT
    go_enter Try.func46, Try.ntmps46
    go_wp2_with fail
    rw [hW0.out]
    refine wp_region_later W0 (Ext.refl _) (by kernel_rfl) (by kernel_rfl) ?_
    refine quiet_box (by rfl) 25 _ rfl (w.heap.size + 1) rfl (encF f) _ (fun W ⟨e, he⟩ => by subst he; exact BF.out.ext e.2) _ Try.underlying25 rfl sizeF _ (by simp [Act.put]; rfl) ?_
    go_big_quiet_step (exact later_bool (kP.out _))
    refine quiet_box (by rfl) 25 _ rfl (w.heap.size + 1) rfl (encF f) _ (fun W ⟨e, he⟩ => by subst he; exact BF.out.ext e.2) _ Try.underlying25 rfl sizeF _ (by simp [Act.put]; rfl) ?_
    go_big_quiet_step (exact later_bool (kT.out _))
    go_big_quiet_step (fail)
    go_big_quiet_step (fail)
    refine wpQuiet_nil ?_
    rintro _ ⟨u, rfl⟩
    have BS1 := Lib.hid (BS.out.ext u.2); have BF1 := Lib.hid (BF.out.ext u.2); have X1 := Lib.hid (X0.out.trans u.2); have L1 := Lib.hid (L0.out.ext u.2)
    obtain ⟨w1, hw1⟩ : ∃ W, u.1 = W := ⟨_, rfl⟩
    rw [hw1] at BS1 BF1 X1 L1 ⊢
    clear hw1 kP kT BS BF X0 L0
    have ci := BF1.out.cell 1 _ rfl
    go_wp2_with fail
    refine (kH.out _ L1.out).mono ?_
    rintro e2 w2 ⟨rfl, x2⟩
    have BS2 := Lib.hid (BS1.out.ext x2); have BF2 := Lib.hid (BF1.out.ext x2); have X2 := Lib.hid (X1.out.trans x2); have L2 := Lib.hid (L1.out.ext x2)
    have BV2 := Lib.hid BF2.out.tail
    clear x2 kH BS1 BF1 X1 L1 ci
    cases P with
    | false =>
      cases T with
      | false =>
        have k1 : ¬ f.kind = 1 := fun e => by have := hP.out; rw [decide_eq_false_iff_not] at this; omega
        have k3 : ¬ f.kind = 3 := fun e => by have := hP.out; rw [decide_eq_false_iff_not] at this; omega
        have k2 : ¬ f.kind = 2 := fun e => by have := hT.out; rw [decide_eq_false_iff_not] at this; omega
        obtain rfl : [] = R := by rw [← hR.out]; rw [if_neg k1, if_neg k2, if_neg k3]
        obtain rfl : 80 = r := by rw [← hr.out]; rw [if_neg k1, if_neg k2, if_neg k3]
        go_wp2_with fail
        go_ret2
        exact ⟨none, 0, rfl, Rw.nil, X2.out⟩
      | true =>
        have k1 : ¬ f.kind = 1 := fun e => by have := hP.out; rw [decide_eq_false_iff_not] at this; omega
        have k3 : ¬ f.kind = 3 := fun e => by have := hP.out; rw [decide_eq_false_iff_not] at this; omega
        have k2 : f.kind = 2 := by have := of_decide_eq_true hT.out; omega
        cases hx : ixE l f.ev.id with
        | none =>
          have hI : ixI l f.ev.id = -1 := by unfold ixI; rw [hx]
          rw [hI]
          obtain rfl : [] = R := by rw [← hR.out]; simp only [if_neg k1, if_pos k2, hx, delE]
          obtain rfl : 131 = r := by rw [← hr.out]; simp only [if_neg k1, if_pos k2, hx, delE]
          go_wp2_with fail
          go_ret2
          exact ⟨none, 0, rfl, Rw.nil, X2.out⟩
        | some i =>
          have hI : ixI l f.ev.id = (i : Int) := by unfold ixI; rw [hx]
          have hin : i < n := by obtain ⟨x, h1, _⟩ := ix_some hx; have := (List.getElem?_eq_some_iff.1 h1).1; rw [hn.out] at this; exact this
          have di : decide ((i : Int) < 0) = false := decide_eq_false (by omega)
          have di2 : decide ((0 : Int) ≤ (i : Int)) = true := decide_eq_true (by omega)
          rw [hI]
          have X3 := X2
          have L3 := L2
          have BF3 := BF2
          obtain ⟨w3, hw3⟩ : ∃ W, w2 = W := ⟨_, rfl⟩
          rw [hw3] at X3 L3 BF3 ⊢
          clear hw3 di2 hI
          go_wp2_with fail
          have kCl := pCloneE L3.out (by rw [hn.out]; omega) c
          rw [hn.out] at kCl
          refine kCl.mono ?_
          rintro e4 w4 ⟨A4, c4, rfl, r4, x4, o4⟩
          rw [hn.out] at o4 ⊢
          have BV4 := Lib.hid ((BF3.out.ext x4).tail)
          clear kCl r4
          obtain ⟨g4, rfl⟩ : ∃ g, A4 = some ⟨g, 0, none⟩ := by
            rcases o4.2 with ⟨h0, h1⟩ | ⟨g, cap, cur, hv, _⟩
            · exfalso; omega
            · cases hv; exact ⟨g, rfl⟩
          have O4 : Own w3 w4 g4 c4 l := ⟨by rw [hn.out]; exact o4, x4⟩
          have kD := Lib.hid (pDelete O4 i n hn.out hin (by omega))
          have wi : IntKind.i64.wrap ((i : Int) + 1) = (i : Int) + 1 := by rw [IntKind.wrap_i64]; omega
          clear o4 O4
          go_wp2_with fail
          refine kD.out.mono ?_
          rintro e5 w5 ⟨rfl, O5⟩
          have o5 := O5.1
          have x5 := O5.2
          have hdl : (l.take i ++ l.drop (i + 1)).length = n - 1 := by rw [List.length_append, List.length_take, List.length_drop, hn.out]; omega
          rw [hdl] at o5
          obtain ⟨m, hm⟩ : ∃ m, n - 1 = m := ⟨_, rfl⟩
          have hm2 : m ≤ 100000 := by omega
          rw [hm] at o5 hdl ⊢
          obtain ⟨D, hD⟩ : ∃ D, l.take i ++ l.drop (i + 1) = D := ⟨_, rfl⟩
          rw [hD] at o5 hdl
          have BV5 := Lib.hid ((BF3.out.ext x5).tail)
          obtain ⟨A5, hA5⟩ : ∃ A, (some ⟨g4, 0, none⟩ : Option Addr) = A := ⟨_, rfl⟩
          rw [hA5] at o5 ⊢
          replace x5 := Lib.hid x5; replace o5 := Lib.hid o5; replace hdl := Lib.hid hdl; replace hD := Lib.hid hD
          clear kD O5 x4 hA5 hm BV4 wi
          have r7 : Re w5 A5 D := Rw.own elV (by rw [hdl.out]; exact o5.out)
          have kS := pSort r7 (by rw [hdl.out]; omega) c4
          rw [hdl.out] at kS
          go_wp2_with fail
          refine kS.mono ?_
          rintro e8 w8 ⟨A8, c8, rfl, r8, x8, _⟩
          have X8 := Lib.hid ((X3.out.trans x5.out).trans x8)
          obtain ⟨S, hS⟩ : ∃ S, sortE D = S := ⟨_, rfl⟩
          rw [hS] at r8 ⊢
          obtain rfl : S = R := by rw [← hR.out, ← hS, ← hD.out]; simp only [if_neg k1, if_pos k2, hx, delE]
          obtain rfl : 0 = r := by rw [← hr.out]; simp only [if_neg k1, if_pos k2, hx, delE]
          replace r8 := Lib.hid r8
          clear hS x8 kS r7
          go_wp2_with fail
          go_ret2
          exact ⟨A8, c8, rfl, r8.out, X8.out⟩
    | true =>
      obtain ⟨chk, hchk⟩ : ∃ b, checkE pl ne nc ng nr f.ev = b := ⟨_, rfl⟩
      rw [hchk] at hR hr kC
      replace hchk := Lib.hid hchk
      cases T with
      | false =>
        have k1 : f.kind = 1 := by have := of_decide_eq_true hP.out; have h2 := hT.out; rw [decide_eq_false_iff_not] at h2; omega
        go_wp2_with (first | (refine load_box (by rfl) 55 _ rfl w.heap.size rfl _ _ BS2.out _ Try.underlying55 rfl hsz.out ?_) | (refine load_midG (by rfl) 23 _ rfl (w.heap.size + 1) 1 (by rfl) (encV f.ev) _ BV2.out Try.underlying23 rfl sizeE ?_))
        refine (kC.out _).mono ?_
        rintro e3 w3 ⟨rfl, x3⟩
        have X3 := Lib.hid (X2.out.trans x3); have L3 := Lib.hid (L2.out.ext x3); have BF3 := Lib.hid (BF2.out.ext x3)
        clear x3 X2 L2 BF2 BV2 BS2
        cases chk with
        | false =>
          obtain rfl : [] = R := by rw [← hR.out]; rw [if_pos k1]; rfl
          obtain rfl : 80 = r := by rw [← hr.out]; rw [if_pos k1]; rfl
          go_wp2_with fail
          go_ret2
          exact ⟨none, 0, rfl, Rw.nil, X3.out⟩
        | true =>
          cases hx : ixE l f.ev.id with
          | some i =>
            have hI : ixI l f.ev.id = (i : Int) := by unfold ixI; rw [hx]
            have di2 : decide ((0 : Int) ≤ (i : Int)) = true := decide_eq_true (by omega)
            rw [hI]
            obtain rfl : [] = R := by rw [← hR.out]; simp only [if_pos k1, hx, if_true]
            obtain rfl : 130 = r := by rw [← hr.out]; simp only [if_pos k1, hx, if_true]
            go_wp2_with fail
            go_ret2
            exact ⟨none, 0, rfl, Rw.nil, X3.out⟩
          | none =>
            have hI : ixI l f.ev.id = -1 := by unfold ixI; rw [hx]
            rw [hI]
            go_wp2_with fail
            have kCl := pCloneE L3.out (by rw [hn.out]; omega) c
            rw [hn.out] at kCl
            refine kCl.mono ?_
            rintro e4 w4 ⟨A4, c4, rfl, r4, x4, o4⟩
            rw [hn.out] at o4 ⊢
            have BV4 := Lib.hid ((BF3.out.ext x4).tail)
            clear kCl r4
            have hdl : Hid (l.length = n) := hn
            have x5 := Lib.hid x4
            have o5 := Lib.hid o4
            obtain ⟨m, hm⟩ : ∃ m, n = m := ⟨_, rfl⟩
            have hm2 : m ≤ 100000 := by omega
            rw [hm] at o5 hdl ⊢
            obtain ⟨D, hD⟩ : ∃ D, l = D := ⟨_, rfl⟩
            rw [hD] at o5 hdl
            obtain ⟨w5, hw5⟩ : ∃ W, w4 = W := ⟨_, rfl⟩
            rw [hw5] at x5 o5 BV4 ⊢
            have BV5 := BV4
            obtain ⟨A5, hA5⟩ : ∃ A, A4 = A := ⟨_, rfl⟩
            rw [hA5] at o5 ⊢
            replace hD := Lib.hid hD
            clear x4 o4 hA5 hm hw5 BV4
            have X6 := Lib.hid (x5.out.alloc (.cells (encV f.ev).toArray 23))
            have O6 := Lib.hid (own_below o5.out ((Ext.refl w5).alloc (.cells (encV f.ev).toArray 23)))
            have N6 := Lib.hid (Rw.new_at elV w5 [f.ev] 23 w5.heap.size rfl)
            go_wp2_with (first | (refine load_midG (by rfl) 23 _ rfl (w.heap.size + 1) 1 (by rfl) (encV f.ev) _ BV5.out Try.underlying23 rfl sizeE ?_) | (refine wpl_buildE (by rfl) _ rfl f.ev (by rfl) ?_) | (at_builtin; refine appG elV w3 _ X6.out _ _ (by rfl) (by rfl) m _ D [f.ev] (by rfl) O6.out hdl.out.symm (some ⟨w5.heap.size, 0, none⟩) 1 1 (by rfl) rfl N6.out (by rw [hdl.out]; simp; omega) ?_; intro A7 c7 w7 o7 x7))
            have r7 : Re w7 A7 (D ++ [f.ev]) := Rw.own elV (by rw [List.length_append, hdl.out]; exact o7)
            have kS := pSort r7 (by rw [List.length_append, hdl.out]; simp; omega) c7
            have e7 : (D ++ [f.ev]).length = m + 1 := by rw [List.length_append, hdl.out]; rfl
            rw [e7] at kS
            refine kS.mono ?_
            rintro e8 w8 ⟨A8, c8, rfl, r8, x8, _⟩
            have X8 := Lib.hid ((X3.out.trans x7).trans x8)
            obtain ⟨S, hS⟩ : ∃ S, sortE (D ++ [f.ev]) = S := ⟨_, rfl⟩
            rw [hS] at r8 ⊢
            obtain rfl : S = R := by rw [← hR.out, ← hS, ← hD.out]; simp only [if_pos k1, hx, if_true]
            obtain rfl : 0 = r := by rw [← hr.out]; simp only [if_pos k1, hx, if_true]
            replace r8 := Lib.hid r8
            clear hS x8 kS r7
            go_wp2_with fail
            go_ret2
            exact ⟨A8, c8, rfl, r8.out, X8.out⟩
      | true =>
        have k1 : ¬ f.kind = 1 := fun e => by have := of_decide_eq_true hT.out; omega
        have k3 : f.kind = 3 := by have h1 := of_decide_eq_true hP.out; have h2 := of_decide_eq_true hT.out; omega
        have k2 : ¬ f.kind = 2 := by omega
        go_wp2_with (first | (refine load_box (by rfl) 55 _ rfl w.heap.size rfl _ _ BS2.out _ Try.underlying55 rfl hsz.out ?_) | (refine load_midG (by rfl) 23 _ rfl (w.heap.size + 1) 1 (by rfl) (encV f.ev) _ BV2.out Try.underlying23 rfl sizeE ?_))
        refine (kC.out _).mono ?_
        rintro e3 w3 ⟨rfl, x3⟩
        have X3 := Lib.hid (X2.out.trans x3); have L3 := Lib.hid (L2.out.ext x3); have BF3 := Lib.hid (BF2.out.ext x3)
        clear x3 X2 L2 BF2 BV2 BS2
        cases chk with
        | false =>
          obtain rfl : [] = R := by rw [← hR.out]; rw [if_neg k1, if_neg k2, if_pos k3]; rfl
          obtain rfl : 80 = r := by rw [← hr.out]; rw [if_neg k1, if_neg k2, if_pos k3]; rfl
          go_wp2_with fail
          go_ret2
          exact ⟨none, 0, rfl, Rw.nil, X3.out⟩
        | true =>
          cases hx : ixE l f.ev.id with
          | none =>
            have hI : ixI l f.ev.id = -1 := by unfold ixI; rw [hx]
            rw [hI]
            obtain rfl : [] = R := by rw [← hR.out]; simp only [if_neg k1, if_neg k2, if_pos k3, hx, if_true, delE]
            obtain rfl : 131 = r := by rw [← hr.out]; simp only [if_neg k1, if_neg k2, if_pos k3, hx, if_true, delE]
            go_wp2_with fail
            go_ret2
            exact ⟨none, 0, rfl, Rw.nil, X3.out⟩
          | some i =>
            have hI : ixI l f.ev.id = (i : Int) := by unfold ixI; rw [hx]
            have hin : i < n := by obtain ⟨x, h1, _⟩ := ix_some hx; have := (List.getElem?_eq_some_iff.1 h1).1; rw [hn.out] at this; exact this
            have di : decide ((i : Int) < 0) = false := decide_eq_false (by omega)
            have di2 : decide ((0 : Int) ≤ (i : Int)) = true := decide_eq_true (by omega)
            rw [hI]
            clear hI
            go_wp2_with fail
            have kCl := pCloneE L3.out (by rw [hn.out]; omega) c
            rw [hn.out] at kCl
            refine kCl.mono ?_
            rintro e4 w4 ⟨A4, c4, rfl, r4, x4, o4⟩
            rw [hn.out] at o4 ⊢
            have BV4 := Lib.hid ((BF3.out.ext x4).tail)
            clear kCl r4
            obtain ⟨g4, rfl⟩ : ∃ g, A4 = some ⟨g, 0, none⟩ := by
              rcases o4.2 with ⟨h0, h1⟩ | ⟨g, cap, cur, hv, _⟩
              · exfalso; omega
              · cases hv; exact ⟨g, rfl⟩
            have O4 : Own w3 w4 g4 c4 l := ⟨by rw [hn.out]; exact o4, x4⟩
            have kD := Lib.hid (pDelete O4 i n hn.out hin (by omega))
            have wi : IntKind.i64.wrap ((i : Int) + 1) = (i : Int) + 1 := by rw [IntKind.wrap_i64]; omega
            clear o4 O4
            go_wp2_with fail
            refine kD.out.mono ?_
            rintro e5 w5 ⟨rfl, O5⟩
            have o5 := O5.1
            have x5 := O5.2
            have hdl : (l.take i ++ l.drop (i + 1)).length = n - 1 := by rw [List.length_append, List.length_take, List.length_drop, hn.out]; omega
            rw [hdl] at o5
            obtain ⟨m, hm⟩ : ∃ m, n - 1 = m := ⟨_, rfl⟩
            have hm2 : m ≤ 100000 := by omega
            rw [hm] at o5 hdl ⊢
            obtain ⟨D, hD⟩ : ∃ D, l.take i ++ l.drop (i + 1) = D := ⟨_, rfl⟩
            rw [hD] at o5 hdl
            have BV5 := Lib.hid ((BF3.out.ext x5).tail)
            obtain ⟨A5, hA5⟩ : ∃ A, (some ⟨g4, 0, none⟩ : Option Addr) = A := ⟨_, rfl⟩
            rw [hA5] at o5 ⊢
            replace x5 := Lib.hid x5; replace o5 := Lib.hid o5; replace hdl := Lib.hid hdl; replace hD := Lib.hid hD
            clear kD O5 x4 hA5 hm BV4 wi
            have X6 := Lib.hid (x5.out.alloc (.cells (encV f.ev).toArray 23))
            have O6 := Lib.hid (own_below o5.out ((Ext.refl w5).alloc (.cells (encV f.ev).toArray 23)))
            have N6 := Lib.hid (Rw.new_at elV w5 [f.ev] 23 w5.heap.size rfl)
            go_wp2_with (first | (refine load_midG (by rfl) 23 _ rfl (w.heap.size + 1) 1 (by rfl) (encV f.ev) _ BV5.out Try.underlying23 rfl sizeE ?_) | (refine wpl_buildE (by rfl) _ rfl f.ev (by rfl) ?_) | (at_builtin; refine appG elV w3 _ X6.out _ _ (by rfl) (by rfl) m _ D [f.ev] (by rfl) O6.out hdl.out.symm (some ⟨w5.heap.size, 0, none⟩) 1 1 (by rfl) rfl N6.out (by rw [hdl.out]; simp; omega) ?_; intro A7 c7 w7 o7 x7))
            have r7 : Re w7 A7 (D ++ [f.ev]) := Rw.own elV (by rw [List.length_append, hdl.out]; exact o7)
            have kS := pSort r7 (by rw [List.length_append, hdl.out]; simp; omega) c7
            have e7 : (D ++ [f.ev]).length = m + 1 := by rw [List.length_append, hdl.out]; rfl
            rw [e7] at kS
            refine kS.mono ?_
            rintro e8 w8 ⟨A8, c8, rfl, r8, x8, _⟩
            have X8 := Lib.hid ((X3.out.trans x7).trans x8)
            obtain ⟨S, hS⟩ : ∃ S, sortE (D ++ [f.ev]) = S := ⟨_, rfl⟩
            rw [hS] at r8 ⊢
            obtain rfl : S = R := by rw [← hR.out, ← hS, ← hD.out]; simp only [if_neg k1, if_neg k2, if_pos k3, hx, if_true, delE]
            obtain rfl : 0 = r := by rw [← hr.out]; simp only [if_neg k1, if_neg k2, if_pos k3, hx, if_true, delE]
            replace r8 := Lib.hid r8
            clear hS x8 kS r7
            go_wp2_with fail
            go_ret2
            exact ⟨A8, c8, rfl, r8.out, X8.out⟩
  have h1 := key (decide (f.kind = 1 ∨ f.kind = 3)) (decide (f.kind = 2 ∨ f.kind = 3)) rfl rfl
  exact h1
end Go.Proofs.Ytmbjbbflhlndcaa
namespace Go.Proofs.Ytmbjbbflhlndcaa
open Go.RowKit BigFrame
set_option linter.unusedVariables false
set_option linter.unusedSimpArgs false

set_option maxRecDepth 100000 in
set_option maxHeartbeats 4000000 in
theorem rApply {cs : List Value} {pl : Int} {ne nc ng nr : Nat} (hsE : SuE cs pl ne nc ng nr) {w : World} {A : Option Addr} {l : List Ev} (h : Re w A l) (c n : Nat) (hn : l.length = n) (hl : n ≤ 900) (hc : n ≤ c) (f : Fx) :
    Calls Try.prog 47 #[.agg cs.toArray, .slice A n c, .agg (encF f).toArray] w (RetAp w (applyE (checkE pl ne nc ng nr f.ev) l f).1 (applyE (checkE pl ne nc ng nr f.ev) l f).2) := by
  obtain ⟨W0, hW0⟩ : ∃ W0, (w.alloc (.cells cs.toArray 55)).alloc (.cells (encF f).toArray 25) = W0 := ⟨_, rfl⟩
  have BS : Hid (Bx W0 w.heap.size cs 55) := by rw [← hW0]; exact (Bx.new w cs 55).alloc _
  have BF : Hid (Bx W0 (w.heap.size + 1) (encF f) 25) := by
    rw [← hW0]
    have := Bx.new (w.alloc (.cells cs.toArray 55)) (encF f) 25
    rwa [show (w.alloc (.cells cs.toArray 55)).heap.size = w.heap.size + 1 from by simp] at this
  have X0 : Hid (Ext w W0) := by rw [← hW0]; exact ((Ext.refl w).alloc _).alloc _
  have L0 := Lib.hid (h.ext X0.out)
  have BV := Lib.hid BF.out.tail
  have hsz : (Try.prog.info? 55).map (·.size) = some cs.toArray.size := by rw [sizeS]; simp [hsE.len]
  replace hsz := Lib.hid hsz; replace hsE := Lib.hid hsE; replace hW0 := Lib.hid hW0; replace hn := Lib.hid hn
  obtain ⟨R, hR⟩ : ∃ R, (applyE (checkE pl ne nc ng nr f.ev) l f).1 = R := ⟨_, rfl⟩
  obtain ⟨r, hr⟩ : ∃ r, (applyE (checkE pl ne nc ng nr f.ev) l f).2 = r := ⟨_, rfl⟩
  rw [hR, hr]
  unfold applyE at hR hr
  replace hR := Lib.hid hR; replace hr := Lib.hid hr
  have kC := Lib.hid (fun W => rCheckE hsE.out f.ev W)
  have kH : Hid (∀ W, Re W A l → Calls Try.prog 79 #[.slice A n c, .int .i64 f.ev.id] W (RetI W (ixI l f.ev.id))) := fun W hW => rAt13 hW f.ev.id c n hn.out (by omega)
  obtain ⟨chk, hchk⟩ : ∃ b, checkE pl ne nc ng nr f.ev = b := ⟨_, rfl⟩
  rw [hchk] at hR hr kC
  replace hchk := Lib.hid hchk
  clear h
  go_enter Try.func47, Try.ntmps47
  go_upto_region 1 with fail
  rw [hW0.out]
  go_wp2_with (first | (refine load_box (by rfl) 55 _ rfl w.heap.size rfl _ _ BS.out _ Try.underlying55 rfl hsz.out ?_) | (refine load_midG (by rfl) 23 _ rfl (w.heap.size + 1) 1 (by rfl) (encV f.ev) _ BV.out Try.underlying23 rfl sizeE ?_))
  refine (kC.out _).mono ?_
  rintro e1 w1 ⟨rfl, x1⟩
  have X1 := Lib.hid (X0.out.trans x1); have L1 := Lib.hid (L0.out.ext x1); have BF1 := Lib.hid (BF.out.ext x1)
  have c0 := BF1.out.cell 0 _ rfl
  clear x1 kC BS BF X0 L0 BV hsz hW0
  by_cases h1 : f.kind = 1
  · have F1 := h1
    cases chk with
    | false =>
      obtain rfl : [] = R := by rw [← hR.out]; rw [if_pos h1]; rfl
      obtain rfl : 80 = r := by rw [← hr.out]; rw [if_pos h1]; rfl
      go_wp2_with fail
      go_ret2
      exact ⟨none, 0, rfl, Rw.nil, X1.out⟩
    | true =>
      have ci := BF1.out.cell 1 _ rfl
      go_wp2_with fail
      refine (kH.out _ L1.out).mono ?_
      rintro e2 w2 ⟨rfl, x2⟩
      have X2 := Lib.hid (X1.out.trans x2); have L2 := Lib.hid (L1.out.ext x2); have BF2 := Lib.hid (BF1.out.ext x2)
      clear x2 kH X1 L1 BF1 ci c0
      have c0 := BF2.out.cell 0 _ rfl
      have BV2 := Lib.hid BF2.out.tail
      cases hx : ixE l f.ev.id with
      | some i =>
        have hI : ixI l f.ev.id = (i : Int) := by unfold ixI; rw [hx]
        have di2 : decide ((0 : Int) ≤ (i : Int)) = true := decide_eq_true (by omega)
        rw [hI]
        obtain rfl : [] = R := by rw [← hR.out]; simp only [if_pos h1, hx, if_true]
        obtain rfl : 130 = r := by rw [← hr.out]; simp only [if_pos h1, hx, if_true]
        go_wp2_with fail
        go_ret2
        exact ⟨none, 0, rfl, Rw.nil, X2.out⟩
      | none =>
        have hI : ixI l f.ev.id = -1 := by unfold ixI; rw [hx]
        rw [hI]
        go_wp2_with fail
        obtain ⟨w8, hw8⟩ : ∃ W, w2.drewN 1 = W := ⟨_, rfl⟩
        have X28 : Ext w2 w8 := by rw [← hw8]; exact (Ext.refl w2).drewN 1
        have X8 := Lib.hid (X2.out.trans X28); have L8 := Lib.hid (L2.out.ext X28)
        have BV8 : Hid (∀ W, Ext w8 W → W.rangeAt (w.heap.size + 1) 1 (encV f.ev)) := fun W hW => (BF2.out.ext (X28.trans hW)).tail
        refine held_start (S := fun W => Ext w8 W) 10 rfl (by kernel_rfl) ?_
        have hW8 : { w2 with drawn := w2.drawn + 1 } = w8 := hw8
        rw [hW8]
        clear hW8 hw8
        refine held_move (i := 1) rfl (by kernel_rfl) (by kernel_rfl) (by kernel_rfl) _ rfl rfl (Ext.refl w8) _ (by simp [Act.put]; rfl) ?_
        refine held_takeV (i := 3) rfl (by kernel_rfl) (by kernel_rfl) (by kernel_rfl) (.pointer (some ⟨w.heap.size + 1, 1, none⟩)) rfl (fun w _ => by go_simp) (Ext.refl w8) _ (by simp [Act.put]; rfl) ?_
        refine held_takeV (i := 4) rfl (by kernel_rfl) (by kernel_rfl) (by kernel_rfl) (.agg (encV f.ev).toArray) rfl (fun W hW => run_load_mid 23 _ rfl (w.heap.size + 1) 1 rfl (encV f.ev) _ (BV8.out W hW) Try.underlying23 rfl sizeE) (Ext.refl w8) _ (by simp [Act.put]; rfl) ?_
        refine held_two (i := 0) (j := 5) rfl rfl (by kernel_rfl) rfl rfl ?_ ?_
        · go_wp2_with fail
          refine ⟨((Ext.refl w8).alloc _), ?_⟩
          refine held_two (i := 2) (j := 5) rfl rfl (by kernel_rfl) rfl rfl ?_ ?_
          · refine wp_appG elV w8 _ ((Ext.refl w8).alloc _) _ _ rfl 0 _ [] l (by rfl) (own_emptyG w8 _ (Nat.le_refl _)) rfl A c n (by rfl) hn.out.symm (L8.out.ext ((Ext.refl w8).alloc _)) (by rw [List.length_nil, hn.out]; omega) ?_
            intro A40 c40 w40 o40 x40 g40 _
            rw [Nat.zero_add, List.nil_append] at o40
            rw [Nat.zero_add]
            refine ⟨x40, ?_⟩
            refine held_all (i := 5) rfl (by kernel_rfl) rfl ?_
            refine wp_buildE _ rfl f.ev (by rfl) ?_
            refine ⟨x40.alloc _, ?_⟩
            refine held_all (i := 6) rfl (by kernel_rfl) rfl ?_
            refine wp_appG elV w8 _ (x40.alloc _) _ _ rfl n _ l [f.ev] (by rfl) (own_below o40 ((Ext.refl w40).alloc _)) hn.out.symm (some ⟨w40.heap.size, 0, none⟩) 1 1 (by rfl) rfl (Rw.new_at elV w40 [f.ev] 23 _ rfl) (by rw [hn.out]; simp; omega) ?_
            intro A46 c46 w46 o46 x46 _ _
            refine ⟨x46, ?_⟩
            refine held_all (i := 7) rfl (by kernel_rfl) rfl ?_
            have r46 : Re w46 A46 (l ++ [f.ev]) := Rw.own elV (by rw [List.length_append, hn.out]; exact o46)
            have kS := rSort r46 (by rw [List.length_append, hn.out]; simp; omega) c46
            rw [show (l ++ [f.ev]).length = n + 1 by rw [List.length_append, hn.out]; rfl] at kS
            go_wp2_with fail
            refine kS.mono ?_
            rintro e9 w9 ⟨A9, c9, rfl, r9, x9, _⟩
            refine ⟨x46.trans x9, ?_⟩
            refine held_assign (i := 8) rfl (by kernel_rfl) (by kernel_rfl) (by kernel_rfl) _ rfl rfl (x46.trans x9) _ (by simp [Act.put]; rfl) ?_
            refine held_assign (i := 9) rfl (by kernel_rfl) (by kernel_rfl) (by kernel_rfl) _ rfl rfl (x46.trans x9) _ (by simp [Act.put]; rfl) ?_
            refine held_done (by kernel_rfl) ?_ _
            obtain ⟨S, hS⟩ : ∃ S, sortE (l ++ [f.ev]) = S := ⟨_, rfl⟩
            rw [hS] at r9 ⊢
            obtain rfl : S = R := by rw [← hR.out, ← hS]; simp only [if_pos F1, hx, if_true]
            obtain rfl : 0 = r := by rw [← hr.out]; simp only [if_pos F1, hx, if_true]
            have X9 := Lib.hid ((X8.out.trans x46).trans x9)
            replace r9 := Lib.hid r9
            clear hS kS r46 o46 x46 x9 o40 x40 g40
            go_wp2_with fail
            go_ret2
            exact ⟨A9, c9, rfl, r9.out, X9.out⟩
          · refine wp_buildE _ rfl f.ev (by rfl) ?_
            refine ⟨(((Ext.refl w8).alloc _).alloc _), ?_⟩
            refine held_all (i := 2) rfl (by kernel_rfl) rfl ?_
            refine wp_appG elV w8 _ (((Ext.refl w8).alloc _).alloc _) _ _ rfl 0 _ [] l (by rfl) (own_below (own_emptyG w8 _ (Nat.le_refl _)) ((Ext.refl _).alloc _)) rfl A c n (by rfl) hn.out.symm (L8.out.ext (((Ext.refl w8).alloc _).alloc _)) (by rw [List.length_nil, hn.out]; omega) ?_
            intro A40 c40 w40 o40 x40 g40 _
            rw [Nat.zero_add, List.nil_append] at o40
            rw [Nat.zero_add]
            refine ⟨x40, ?_⟩
            refine held_all (i := 6) rfl (by kernel_rfl) rfl ?_
            refine wp_appG elV w8 _ x40 _ _ rfl n _ l [f.ev] (by rfl) o40 hn.out.symm (some ⟨(w8.alloc (.cells #[] 23)).heap.size, 0, none⟩) 1 1 (by rfl) rfl ((Rw.new_at elV (w8.alloc (.cells #[] 23)) [f.ev] 23 _ rfl).moved g40 (by rintro b0 o0 h0; cases h0; intro h1; simp [Value.ownBlock] at h1)) (by rw [hn.out]; simp; omega) ?_
            intro A46 c46 w46 o46 x46 _ _
            refine ⟨x46, ?_⟩
            refine held_all (i := 7) rfl (by kernel_rfl) rfl ?_
            have r46 : Re w46 A46 (l ++ [f.ev]) := Rw.own elV (by rw [List.length_append, hn.out]; exact o46)
            have kS := rSort r46 (by rw [List.length_append, hn.out]; simp; omega) c46
            rw [show (l ++ [f.ev]).length = n + 1 by rw [List.length_append, hn.out]; rfl] at kS
            go_wp2_with fail
            refine kS.mono ?_
            rintro e9 w9 ⟨A9, c9, rfl, r9, x9, _⟩
            refine ⟨x46.trans x9, ?_⟩
            refine held_assign (i := 8) rfl (by kernel_rfl) (by kernel_rfl) (by kernel_rfl) _ rfl rfl (x46.trans x9) _ (by simp [Act.put]; rfl) ?_
            refine held_assign (i := 9) rfl (by kernel_rfl) (by kernel_rfl) (by kernel_rfl) _ rfl rfl (x46.trans x9) _ (by simp [Act.put]; rfl) ?_
            refine held_done (by kernel_rfl) ?_ _
            obtain ⟨S, hS⟩ : ∃ S, sortE (l ++ [f.ev]) = S := ⟨_, rfl⟩
            rw [hS] at r9 ⊢
            obtain rfl : S = R := by rw [← hR.out, ← hS]; simp only [if_pos F1, hx, if_true]
            obtain rfl : 0 = r := by rw [← hr.out]; simp only [if_pos F1, hx, if_true]
            have X9 := Lib.hid ((X8.out.trans x46).trans x9)
            replace r9 := Lib.hid r9
            clear hS kS r46 o46 x46 x9 o40 x40 g40
            go_wp2_with fail
            go_ret2
            exact ⟨A9, c9, rfl, r9.out, X9.out⟩
        · refine wp_buildE _ rfl f.ev (by rfl) ?_
          refine ⟨((Ext.refl w8).alloc _), ?_⟩
          refine held_all (i := 0) rfl (by kernel_rfl) rfl ?_
          go_wp2_with fail
          refine ⟨(((Ext.refl w8).alloc _).alloc _), ?_⟩
          refine held_all (i := 2) rfl (by kernel_rfl) rfl ?_
          refine wp_appG elV w8 _ (((Ext.refl w8).alloc _).alloc _) _ _ rfl 0 _ [] l (by rfl) (own_e1 w8 f.ev) rfl A c n (by rfl) hn.out.symm (L8.out.ext (((Ext.refl w8).alloc _).alloc _)) (by rw [List.length_nil, hn.out]; omega) ?_
          intro A40 c40 w40 o40 x40 g40 _
          rw [Nat.zero_add, List.nil_append] at o40
          rw [Nat.zero_add]
          refine ⟨x40, ?_⟩
          refine held_all (i := 6) rfl (by kernel_rfl) rfl ?_
          refine wp_appG elV w8 _ x40 _ _ rfl n _ l [f.ev] (by rfl) o40 hn.out.symm (some ⟨w8.heap.size, 0, none⟩) 1 1 (by rfl) rfl ((Rw.new_at elV w8 [f.ev] 23 _ rfl).alloc _ |>.moved g40 (by rintro b0 o0 h0; cases h0; intro h1; simp [Value.ownBlock] at h1)) (by rw [hn.out]; simp; omega) ?_
          intro A46 c46 w46 o46 x46 _ _
          refine ⟨x46, ?_⟩
          refine held_all (i := 7) rfl (by kernel_rfl) rfl ?_
          have r46 : Re w46 A46 (l ++ [f.ev]) := Rw.own elV (by rw [List.length_append, hn.out]; exact o46)
          have kS := rSort r46 (by rw [List.length_append, hn.out]; simp; omega) c46
          rw [show (l ++ [f.ev]).length = n + 1 by rw [List.length_append, hn.out]; rfl] at kS
          go_wp2_with fail
          refine kS.mono ?_
          rintro e9 w9 ⟨A9, c9, rfl, r9, x9, _⟩
          refine ⟨x46.trans x9, ?_⟩
          refine held_assign (i := 8) rfl (by kernel_rfl) (by kernel_rfl) (by kernel_rfl) _ rfl rfl (x46.trans x9) _ (by simp [Act.put]; rfl) ?_
          refine held_assign (i := 9) rfl (by kernel_rfl) (by kernel_rfl) (by kernel_rfl) _ rfl rfl (x46.trans x9) _ (by simp [Act.put]; rfl) ?_
          refine held_done (by kernel_rfl) ?_ _
          obtain ⟨S, hS⟩ : ∃ S, sortE (l ++ [f.ev]) = S := ⟨_, rfl⟩
          rw [hS] at r9 ⊢
          obtain rfl : S = R := by rw [← hR.out, ← hS]; simp only [if_pos F1, hx, if_true]
          obtain rfl : 0 = r := by rw [← hr.out]; simp only [if_pos F1, hx, if_true]
          have X9 := Lib.hid ((X8.out.trans x46).trans x9)
          replace r9 := Lib.hid r9
          clear hS kS r46 o46 x46 x9 o40 x40 g40
          go_wp2_with fail
          go_ret2
          exact ⟨A9, c9, rfl, r9.out, X9.out⟩
  · by_cases h2 : f.kind = 2
    · have n1 : ¬ f.kind = 1 := h1
      have ci := BF1.out.cell 1 _ rfl
      go_wp2_with fail
      refine (kH.out _ L1.out).mono ?_
      rintro e2 w2 ⟨rfl, x2⟩
      have X2 := Lib.hid (X1.out.trans x2); have L2 := Lib.hid (L1.out.ext x2); have BF2 := Lib.hid (BF1.out.ext x2)
      clear x2 kH X1 L1 BF1 ci c0
      have c0 := BF2.out.cell 0 _ rfl
      have BV2 := Lib.hid BF2.out.tail
      have c08 : Hid (∀ W, Ext w2 W → W.cell? ⟨w.heap.size + 1, 0, none⟩ = some (.int .i64 f.kind)) := fun W hW => (BF2.out.ext hW).cell 0 _ rfl
      cases hx : ixE l f.ev.id with
      | none =>
        have hI : ixI l f.ev.id = -1 := by unfold ixI; rw [hx]
        rw [hI]
        obtain rfl : [] = R := by rw [← hR.out]; simp only [if_neg n1, if_pos h2, hx, delE]
        obtain rfl : 131 = r := by rw [← hr.out]; simp only [if_neg n1, if_pos h2, hx, delE]
        go_wp2_with fail
        go_ret2
        exact ⟨none, 0, rfl, Rw.nil, X2.out⟩
      | some i =>
        have hI : ixI l f.ev.id = (i : Int) := by unfold ixI; rw [hx]
        have hin : i < n := by obtain ⟨x, h1, _⟩ := ix_some hx; have := (List.getElem?_eq_some_iff.1 h1).1; rw [hn.out] at this; exact this
        have di : decide ((i : Int) < 0) = false := decide_eq_false (by omega)
        rw [hI]
        obtain ⟨At, hsl2, hrt⟩ := slice_hiE (A := A) (O := l) (n := n) (c := c) (j := i) hn.out.symm (Nat.le_of_lt hin) hc
        obtain ⟨Ad, cd, nD, hnD, hdc, hsl, hrd⟩ := slice_loP 63 11 (enc := encV) elemE sizeOfE (A := A) (O := l) (n := n) (c := c) (j := i + 1) hn.out.symm hin hc
        have ei : ((i + 1 : Nat) : Int) = (i : Int) + 1 := by omega
        simp only [ei] at hsl
        clear ei
        have lD : Hid (nD + i + 1 = n) := by show _ = _; rw [hnD.out, List.length_drop, hn.out]; omega
        have hTk : Hid ((l.take i).length = i) := by show _ = _; rw [List.length_take, hn.out]; omega
        have wi : IntKind.i64.wrap ((i : Int) + 1) = (i : Int) + 1 := by rw [IntKind.wrap_i64]; omega
        go_wp2_with fail
        obtain ⟨w8, hw8⟩ : ∃ W, w2.drewN 1 = W := ⟨_, rfl⟩
        have X28 : Ext w2 w8 := by rw [← hw8]; exact (Ext.refl w2).drewN 1
        have X8 := Lib.hid (X2.out.trans X28); have L8 := Lib.hid (L2.out.ext X28)
        have BV8 : Hid (∀ W, Ext w8 W → W.rangeAt (w.heap.size + 1) 1 (encV f.ev)) := fun W hW => (BF2.out.ext (X28.trans hW)).tail
        refine held_start (S := fun W => Ext w8 W) 11 rfl (by kernel_rfl) ?_
        have hW8 : { w2 with drawn := w2.drawn + 1 } = w8 := hw8
        rw [hW8]
        clear hW8 hw8
        have RT8 := Lib.hid (hrt _ L8.out); have RD8 := Lib.hid (hrd _ L8.out)
        refine held_move (i := 1) rfl (by kernel_rfl) (by kernel_rfl) (by kernel_rfl) _ rfl rfl (Ext.refl w8) _ (by simp [Act.put]; rfl) ?_
        refine held_move (i := 2) rfl (by kernel_rfl) (by kernel_rfl) (by kernel_rfl) _ rfl rfl (Ext.refl w8) _ (by simp [Act.put]; rfl) ?_
        refine held_takeV (i := 3) rfl (by kernel_rfl) (by kernel_rfl) (by kernel_rfl) (.slice At i c) rfl (fun w _ => by go_simp) (Ext.refl w8) _ (by simp [Act.put]; rfl) ?_
        refine held_move (i := 5) rfl (by kernel_rfl) (by kernel_rfl) (by kernel_rfl) _ rfl rfl (Ext.refl w8) _ (by simp [Act.put]; rfl) ?_
        refine held_move (i := 6) rfl (by kernel_rfl) (by kernel_rfl) (by kernel_rfl) _ rfl rfl (Ext.refl w8) _ (by simp [Act.put]; rfl) ?_
        refine held_takeV (i := 7) rfl (by kernel_rfl) (by kernel_rfl) (by kernel_rfl) (.int .i64 ((i : Int) + 1)) rfl (fun w _ => by go_simp) (Ext.refl w8) _ (by simp [Act.put]; rfl) ?_
        refine held_takeV (i := 8) rfl (by kernel_rfl) (by kernel_rfl) (by kernel_rfl) (.slice Ad nD cd) rfl (fun w _ => by go_simp) (Ext.refl w8) _ (by simp [Act.put]; rfl) ?_
        clear hsl hsl2 wi
        refine held_all (i := 0) rfl (by kernel_rfl) rfl ?_
        go_wp2_with fail
        refine ⟨((Ext.refl w8).alloc _), ?_⟩
        refine held_all (i := 4) rfl (by kernel_rfl) rfl ?_
        refine wp_appG elV w8 _ ((Ext.refl w8).alloc _) _ _ rfl 0 _ [] (l.take i) (by rfl) (own_emptyG w8 _ (Nat.le_refl _)) rfl At c i (by rfl) hTk.out.symm (RT8.out.ext ((Ext.refl w8).alloc _)) (by rw [List.length_nil, hTk.out]; omega) ?_
        intro A40 c40 w40 o40 x40 _ _
        rw [Nat.zero_add, List.nil_append] at o40
        rw [Nat.zero_add]
        refine ⟨x40, ?_⟩
        refine held_all (i := 9) rfl (by kernel_rfl) rfl ?_
        refine wp_appG elV w8 _ x40 _ _ rfl i _ (l.take i) (l.drop (i + 1)) (by rfl) o40 hTk.out.symm Ad cd nD (by rfl) hnD.out (RD8.out.ext x40) (by rw [hTk.out, ← hnD.out]; have := lD.out; omega) ?_
        intro A5 c5 w5 o5 x5 _ _
        refine ⟨x5, ?_⟩
        refine held_assign (i := 10) rfl (by kernel_rfl) (by kernel_rfl) (by kernel_rfl) _ rfl rfl x5 _ (by simp [Act.put]; rfl) ?_
        refine held_done (by kernel_rfl) ?_ _
        have hdl : (l.take i ++ l.drop (i + 1)).length = i + nD := by rw [List.length_append, hTk.out, ← hnD.out]
        obtain ⟨m, hm⟩ : ∃ m, i + nD = m := ⟨_, rfl⟩
        have hm2 : m ≤ 900 := by have := lD.out; omega
        rw [hm] at o5 hdl ⊢
        obtain ⟨D, hD⟩ : ∃ D, l.take i ++ l.drop (i + 1) = D := ⟨_, rfl⟩
        rw [hD] at o5 hdl
        have X5 := Lib.hid (X8.out.trans x5); have BF5 := Lib.hid BV8.out
        have BV5 := Lib.hid (BV8.out w5 x5)
        have c05 : w5.cell? ⟨w.heap.size + 1, 0, none⟩ = some (.int .i64 f.kind) := (c08.out w5 (X28.trans x5))
        replace o5 := Lib.hid o5; replace hdl := Lib.hid hdl; replace hD := Lib.hid hD; replace x5 := Lib.hid x5
        clear hm o40 x40 RT8 RD8 hnD hdc hrt hrd lD hTk
        simp [Act.eval, Act.put]
        have r7 : Re w5 A5 D := Rw.own elV (by rw [hdl.out]; exact o5.out)
        have kS := rSort r7 (by rw [hdl.out]; omega) c5
        rw [hdl.out] at kS
        go_wp2_with fail
        refine kS.mono ?_
        rintro e8 w9 ⟨A8, c8, rfl, r8, x8, _⟩
        have X9 := Lib.hid (X5.out.trans x8)
        obtain ⟨S, hS⟩ : ∃ S, sortE D = S := ⟨_, rfl⟩
        rw [hS] at r8 ⊢
        obtain rfl : S = R := by rw [← hR.out, ← hS, ← hD.out]; simp only [if_neg n1, if_pos h2, hx, delE]
        obtain rfl : 0 = r := by rw [← hr.out]; simp only [if_neg n1, if_pos h2, hx, delE]
        replace r8 := Lib.hid r8
        clear hS x8 kS r7
        go_wp2_with fail
        go_ret2
        exact ⟨A8, c8, rfl, r8.out, X9.out⟩
    · by_cases h3 : f.kind = 3
      · have n1 : ¬ f.kind = 1 := h1
        have n2 : ¬ f.kind = 2 := h2
        cases chk with
        | false =>
          obtain rfl : [] = R := by rw [← hR.out]; rw [if_neg n1, if_neg n2, if_pos h3]; rfl
          obtain rfl : 80 = r := by rw [← hr.out]; rw [if_neg n1, if_neg n2, if_pos h3]; rfl
          go_wp2_with fail
          go_ret2
          exact ⟨none, 0, rfl, Rw.nil, X1.out⟩
        | true =>
          have ci := BF1.out.cell 1 _ rfl
          go_wp2_with fail
          refine (kH.out _ L1.out).mono ?_
          rintro e2 w2 ⟨rfl, x2⟩
          have X2 := Lib.hid (X1.out.trans x2); have L2 := Lib.hid (L1.out.ext x2); have BF2 := Lib.hid (BF1.out.ext x2)
          clear x2 kH X1 L1 BF1 ci c0
          have c0 := BF2.out.cell 0 _ rfl
          have BV2 := Lib.hid BF2.out.tail
          have c08 : Hid (∀ W, Ext w2 W → W.cell? ⟨w.heap.size + 1, 0, none⟩ = some (.int .i64 f.kind)) := fun W hW => (BF2.out.ext hW).cell 0 _ rfl
          cases hx : ixE l f.ev.id with
          | none =>
            have hI : ixI l f.ev.id = -1 := by unfold ixI; rw [hx]
            rw [hI]
            obtain rfl : [] = R := by rw [← hR.out]; simp only [if_neg n1, if_neg n2, if_pos h3, hx, if_true, delE]
            obtain rfl : 131 = r := by rw [← hr.out]; simp only [if_neg n1, if_neg n2, if_pos h3, hx, if_true, delE]
            go_wp2_with fail
            go_ret2
            exact ⟨none, 0, rfl, Rw.nil, X2.out⟩
          | some i =>
            have hI : ixI l f.ev.id = (i : Int) := by unfold ixI; rw [hx]
            have hin : i < n := by obtain ⟨x, h1, _⟩ := ix_some hx; have := (List.getElem?_eq_some_iff.1 h1).1; rw [hn.out] at this; exact this
            have di : decide ((i : Int) < 0) = false := decide_eq_false (by omega)
            rw [hI]
            obtain ⟨At, hsl2, hrt⟩ := slice_hiE (A := A) (O := l) (n := n) (c := c) (j := i) hn.out.symm (Nat.le_of_lt hin) hc
            obtain ⟨Ad, cd, nD, hnD, hdc, hsl, hrd⟩ := slice_loP 63 11 (enc := encV) elemE sizeOfE (A := A) (O := l) (n := n) (c := c) (j := i + 1) hn.out.symm hin hc
            have ei : ((i + 1 : Nat) : Int) = (i : Int) + 1 := by omega
            simp only [ei] at hsl
            clear ei
            have lD : Hid (nD + i + 1 = n) := by show _ = _; rw [hnD.out, List.length_drop, hn.out]; omega
            have hTk : Hid ((l.take i).length = i) := by show _ = _; rw [List.length_take, hn.out]; omega
            have wi : IntKind.i64.wrap ((i : Int) + 1) = (i : Int) + 1 := by rw [IntKind.wrap_i64]; omega
            go_wp2_with fail
            obtain ⟨w8, hw8⟩ : ∃ W, w2.drewN 1 = W := ⟨_, rfl⟩
            have X28 : Ext w2 w8 := by rw [← hw8]; exact (Ext.refl w2).drewN 1
            have X8 := Lib.hid (X2.out.trans X28); have L8 := Lib.hid (L2.out.ext X28)
            have BV8 : Hid (∀ W, Ext w8 W → W.rangeAt (w.heap.size + 1) 1 (encV f.ev)) := fun W hW => (BF2.out.ext (X28.trans hW)).tail
            refine held_start (S := fun W => Ext w8 W) 11 rfl (by kernel_rfl) ?_
            have hW8 : { w2 with drawn := w2.drawn + 1 } = w8 := hw8
            rw [hW8]
            clear hW8 hw8
            have RT8 := Lib.hid (hrt _ L8.out); have RD8 := Lib.hid (hrd _ L8.out)
            refine held_move (i := 1) rfl (by kernel_rfl) (by kernel_rfl) (by kernel_rfl) _ rfl rfl (Ext.refl w8) _ (by simp [Act.put]; rfl) ?_
            refine held_move (i := 2) rfl (by kernel_rfl) (by kernel_rfl) (by kernel_rfl) _ rfl rfl (Ext.refl w8) _ (by simp [Act.put]; rfl) ?_
            refine held_takeV (i := 3) rfl (by kernel_rfl) (by kernel_rfl) (by kernel_rfl) (.slice At i c) rfl (fun w _ => by go_simp) (Ext.refl w8) _ (by simp [Act.put]; rfl) ?_
            refine held_move (i := 5) rfl (by kernel_rfl) (by kernel_rfl) (by kernel_rfl) _ rfl rfl (Ext.refl w8) _ (by simp [Act.put]; rfl) ?_
            refine held_move (i := 6) rfl (by kernel_rfl) (by kernel_rfl) (by kernel_rfl) _ rfl rfl (Ext.refl w8) _ (by simp [Act.put]; rfl) ?_
            refine held_takeV (i := 7) rfl (by kernel_rfl) (by kernel_rfl) (by kernel_rfl) (.int .i64 ((i : Int) + 1)) rfl (fun w _ => by go_simp) (Ext.refl w8) _ (by simp [Act.put]; rfl) ?_
            refine held_takeV (i := 8) rfl (by kernel_rfl) (by kernel_rfl) (by kernel_rfl) (.slice Ad nD cd) rfl (fun w _ => by go_simp) (Ext.refl w8) _ (by simp [Act.put]; rfl) ?_
            clear hsl hsl2 wi
            refine held_all (i := 0) rfl (by kernel_rfl) rfl ?_
            go_wp2_with fail
            refine ⟨((Ext.refl w8).alloc _), ?_⟩
            refine held_all (i := 4) rfl (by kernel_rfl) rfl ?_
            refine wp_appG elV w8 _ ((Ext.refl w8).alloc _) _ _ rfl 0 _ [] (l.take i) (by rfl) (own_emptyG w8 _ (Nat.le_refl _)) rfl At c i (by rfl) hTk.out.symm (RT8.out.ext ((Ext.refl w8).alloc _)) (by rw [List.length_nil, hTk.out]; omega) ?_
            intro A40 c40 w40 o40 x40 _ _
            rw [Nat.zero_add, List.nil_append] at o40
            rw [Nat.zero_add]
            refine ⟨x40, ?_⟩
            refine held_all (i := 9) rfl (by kernel_rfl) rfl ?_
            refine wp_appG elV w8 _ x40 _ _ rfl i _ (l.take i) (l.drop (i + 1)) (by rfl) o40 hTk.out.symm Ad cd nD (by rfl) hnD.out (RD8.out.ext x40) (by rw [hTk.out, ← hnD.out]; have := lD.out; omega) ?_
            intro A5 c5 w5 o5 x5 _ _
            refine ⟨x5, ?_⟩
            refine held_assign (i := 10) rfl (by kernel_rfl) (by kernel_rfl) (by kernel_rfl) _ rfl rfl x5 _ (by simp [Act.put]; rfl) ?_
            refine held_done (by kernel_rfl) ?_ _
            have hdl : (l.take i ++ l.drop (i + 1)).length = i + nD := by rw [List.length_append, hTk.out, ← hnD.out]
            obtain ⟨m, hm⟩ : ∃ m, i + nD = m := ⟨_, rfl⟩
            have hm2 : m ≤ 900 := by have := lD.out; omega
            rw [hm] at o5 hdl ⊢
            obtain ⟨D, hD⟩ : ∃ D, l.take i ++ l.drop (i + 1) = D := ⟨_, rfl⟩
            rw [hD] at o5 hdl
            have X5 := Lib.hid (X8.out.trans x5); have BF5 := Lib.hid BV8.out
            have BV5 := Lib.hid (BV8.out w5 x5)
            have c05 : w5.cell? ⟨w.heap.size + 1, 0, none⟩ = some (.int .i64 f.kind) := (c08.out w5 (X28.trans x5))
            replace o5 := Lib.hid o5; replace hdl := Lib.hid hdl; replace hD := Lib.hid hD; replace x5 := Lib.hid x5
            clear hm o40 x40 RT8 RD8 hnD hdc hrt hrd lD hTk
            simp [Act.eval, Act.put]
            have X6 := Lib.hid (x5.out.alloc (.cells (encV f.ev).toArray 23))
            have O6 := Lib.hid (own_below o5.out ((Ext.refl w5).alloc (.cells (encV f.ev).toArray 23)))
            have N6 := Lib.hid (Rw.new_at elV w5 [f.ev] 23 w5.heap.size rfl)
            go_wp2_with (first | (refine load_midG (by rfl) 23 _ rfl (w.heap.size + 1) 1 (by rfl) (encV f.ev) _ BV5.out Try.underlying23 rfl sizeE ?_) | (refine wpl_buildE (by rfl) _ rfl f.ev (by rfl) ?_) | (at_builtin; refine appG elV w8 _ X6.out _ _ (by rfl) (by rfl) m _ D [f.ev] (by rfl) O6.out hdl.out.symm (some ⟨w5.heap.size, 0, none⟩) 1 1 (by rfl) rfl N6.out (by rw [hdl.out]; simp; omega) ?_; intro A7 c7 w7 o7 x7))
            have r7 : Re w7 A7 (D ++ [f.ev]) := Rw.own elV (by rw [List.length_append, hdl.out]; exact o7)
            have kS := rSort r7 (by rw [List.length_append, hdl.out]; simp; omega) c7
            have e7 : (D ++ [f.ev]).length = m + 1 := by rw [List.length_append, hdl.out]; rfl
            rw [e7] at kS
            refine kS.mono ?_
            rintro e8 w9 ⟨A8, c8, rfl, r8, x8, _⟩
            have X9 := Lib.hid ((X8.out.trans x7).trans x8)
            obtain ⟨S, hS⟩ : ∃ S, sortE (D ++ [f.ev]) = S := ⟨_, rfl⟩
            rw [hS] at r8 ⊢
            obtain rfl : S = R := by rw [← hR.out, ← hS, ← hD.out]; simp only [if_neg n1, if_neg n2, if_pos h3, hx, if_true, delE]
            obtain rfl : 0 = r := by rw [← hr.out]; simp only [if_neg n1, if_neg n2, if_pos h3, hx, if_true, delE]
            replace r8 := Lib.hid r8
            clear hS x8 kS r7
            go_wp2_with fail
            go_ret2
            exact ⟨A8, c8, rfl, r8.out, X9.out⟩
      · have n1 : ¬ f.kind = 1 := h1
        have n2 : ¬ f.kind = 2 := h2
        obtain rfl : [] = R := by rw [← hR.out, if_neg n1, if_neg n2, if_neg h3]
        obtain rfl : 80 = r := by rw [← hr.out, if_neg n1, if_neg n2, if_neg h3]
        by_cases hlo : f.kind < 1
        · have d1 : decide (f.kind < 1) = true := decide_eq_true hlo
          clear h1 h2 h3 n1 n2 hlo
          go_wp2_with fail
          go_ret2
          exact ⟨none, 0, rfl, Rw.nil, X1.out⟩
        · have d1 : decide (f.kind < 1) = false := decide_eq_false hlo
          have d2 : decide (3 < f.kind) = true := decide_eq_true (by omega)
          clear h1 h2 h3 n1 n2 hlo
          go_wp2_with fail
          go_ret2
          exact ⟨none, 0, rfl, Rw.nil, X1.out⟩
end Go.Proofs.Ytmbjbbflhlndcaa
