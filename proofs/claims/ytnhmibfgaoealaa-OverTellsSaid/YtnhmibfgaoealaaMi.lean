/-
  Contracts of the functions of layer 3, in the words of a run of calls.
  Awk
-/
import Derived.Test.YtnhmibfgaoealaaMf
import Derived.Test.YtnhmibfgaoealaaMh
import Derived.Test.YtnhmibfgaoealaaMb
namespace Go.Proofs.Ytnhmibfgaoealaa
open Go.RowKit

theorem cNorm {w : World} {A : Option Addr} {l : List Sp.S} (h : Rs w A l) (hl : l.length ≤ 900000) (cap : Nat) : Calls Try.prog 34 #[.slice A l.length cap] w (RetS w (Sp.norm l)) :=
  (norm_all l A cap w h (by omega)).mono fun _ _ ⟨A', c, he, ho, hb⟩ => ⟨A', c, he, .own ho, hb, ho⟩
theorem cAnd {w : World} {A1 A2 : Option Addr} {a b : List Sp.S} (h1 : Rs w A1 a) (h2 : Rs w A2 b) (l1 : a.length ≤ 900000) (l2 : b.length ≤ 900000) (c1 c2 : Nat) : Calls Try.prog 39 #[.slice A1 a.length c1, .slice A2 b.length c2] w (RetS w (Sp.and_ a b)) :=
  (and_a a b A1 A2 c1 c2 w h1 h2 l1 l2).mono fun _ _ ⟨A', c, he, ho, hb⟩ => ⟨A', c, he, .own ho, hb, ho⟩
theorem cMinus {w : World} {A1 A2 : Option Addr} {a b : List Sp.S} (h1 : Rs w A1 a) (h2 : Rs w A2 b) (l1 : a.length ≤ 900000) (l2 : b.length ≤ 900000) (c1 c2 : Nat) : Calls Try.prog 41 #[.slice A1 a.length c1, .slice A2 b.length c2] w (RetS w (Sp.minus a b)) :=
  (minus_a a b A1 A2 c1 c2 w h1 h2 l1 l2).mono fun _ _ ⟨A', c, he, ho, hb⟩ => ⟨A', c, he, .own ho, hb, ho⟩
theorem cFirst {w : World} {A : Option Addr} {l : List Sp.S} (h : Rs w A l) (hl : l.length ≤ 900000) {n : Int} (hn : B64 n) (cap : Nat) : Calls Try.prog 43 #[.slice A l.length cap, .int .i64 n] w (RetS w (Sp.first l n)) :=
  (first_any l A cap n w h (by omega) hn).mono fun _ _ ⟨A', c, he, ho, hb⟩ => ⟨A', c, he, .own ho, hb, ho⟩
theorem cLast {w : World} {A : Option Addr} {l : List Sp.S} (h : Rs w A l) (hl : l.length ≤ 900000) {n : Int} (hn : B64 n) (cap : Nat) : Calls Try.prog 45 #[.slice A l.length cap, .int .i64 n] w (RetS w (Sp.last l n)) :=
  (last_any l A cap n w h hl hn).mono fun _ _ ⟨A', c, he, ho, hb⟩ => ⟨A', c, he, .own ho, hb, ho⟩
theorem cSize {w : World} {A : Option Addr} {l : List Sp.S} (h : Rs w A l) (hl : l.length ≤ 900000) (cap : Nat) : Calls Try.prog 47 #[.slice A l.length cap] w (RetI w (Sp.size l)) := size_any l A cap w h (by omega)
theorem cHas {w : World} {A : Option Addr} {l : List Sp.S} (h : Rs w A l) (hl : l.length ≤ 900000) (t : Int) (cap : Nat) : Calls Try.prog 49 #[.slice A l.length cap, .int .i64 t] w (RetB w (Sp.has l t)) := has_any l A cap t w h (by omega)
theorem cSame {w : World} {A1 A2 : Option Addr} {a b : List Sp.S} (h1 : Rs w A1 a) (h2 : Rs w A2 b) (l1 : a.length ≤ 900000) (c1 c2 : Nat) : Calls Try.prog 33 #[.slice A1 a.length c1, .slice A2 b.length c2] w (RetB w (decide (a = b))) := same_any a b A1 A2 c1 c2 w h1 h2 (by omega)
theorem rNorm {w : World} {A : Option Addr} {l : List Sp.S} (h : Rs w A l) (hl : l.length ≤ 900000) (cap : Nat) : Calls Try.prog 38 #[.slice A l.length cap] w (RetS w (Sp.norm l)) :=
  (rnorm_any l A cap w h (by omega)).mono fun _ _ ⟨A', c, he, ho, hb⟩ => ⟨A', c, he, .own ho, hb, ho⟩
theorem rAnd {w : World} {A1 A2 : Option Addr} {a b : List Sp.S} (h1 : Rs w A1 a) (h2 : Rs w A2 b) (l1 : a.length ≤ 900000) (l2 : b.length ≤ 900000) (c1 c2 : Nat) : Calls Try.prog 40 #[.slice A1 a.length c1, .slice A2 b.length c2] w (RetS w (Sp.and_ a b)) :=
  (rand_any a b A1 A2 c1 c2 w h1 h2 (by omega) (by omega)).mono fun _ _ ⟨A', c, he, ho, hb⟩ => ⟨A', c, he, .own ho, hb, ho⟩
theorem rMinus {w : World} {A1 A2 : Option Addr} {a b : List Sp.S} (h1 : Rs w A1 a) (h2 : Rs w A2 b) (l1 : a.length ≤ 900000) (l2 : b.length ≤ 900000) (c1 c2 : Nat) : Calls Try.prog 42 #[.slice A1 a.length c1, .slice A2 b.length c2] w (RetS w (Sp.minus a b)) :=
  (rminus_any a b A1 A2 c1 c2 w h1 h2 (by omega) (by omega)).mono fun _ _ ⟨A', c, he, ho, hb⟩ => ⟨A', c, he, .own ho, hb, ho⟩
theorem rFirst {w : World} {A : Option Addr} {l : List Sp.S} (h : Rs w A l) (hl : l.length ≤ 900000) {n : Int} (hn : B64 n) (cap : Nat) : Calls Try.prog 44 #[.slice A l.length cap, .int .i64 n] w (RetS w (Sp.first l n)) :=
  (rfirst_any l A cap n w h (by omega) hn).mono fun _ _ ⟨A', c, he, ho, hb⟩ => ⟨A', c, he, .own ho, hb, ho⟩
theorem rLast {w : World} {A : Option Addr} {l : List Sp.S} (h : Rs w A l) (hl : l.length ≤ 900000) {n : Int} (hn : B64 n) (cap : Nat) : Calls Try.prog 46 #[.slice A l.length cap, .int .i64 n] w (RetS w (Sp.last l n)) :=
  (rlast_any l A cap n w h (by omega) hn).mono fun _ _ ⟨A', c, he, ho, hb⟩ => ⟨A', c, he, .own ho, hb, ho⟩
theorem rSize {w : World} {A : Option Addr} {l : List Sp.S} (h : Rs w A l) (hl : l.length ≤ 900000) (cap : Nat) : Calls Try.prog 48 #[.slice A l.length cap] w (RetI w (Sp.size l)) := rsize_any l A cap w h (by omega)
theorem rHas {w : World} {A : Option Addr} {l : List Sp.S} (h : Rs w A l) (hl : l.length ≤ 900000) (t : Int) (cap : Nat) : Calls Try.prog 50 #[.slice A l.length cap, .int .i64 t] w (RetB w (Sp.okT t && Sp.hasB l t)) := has3_any l A cap t w h (by omega)

/-- A row of spans put behind a row of the call's own, whatever slice it is. -/
theorem run_append_none {P : Program} (w : World) (base : Nat) (t ty e : TypeId) (i : TypeInfo) (size : Nat) (ht : P.underlying t = some (.slice e)) (hi : P.info? e = some i)
    (v : Value) (n : Nat) (xs : List Value) (hown : w.ownsRow base e size v n xs) (c : Nat) : (Builtin.append_ #[t, t] ty #[v, .slice none 0 c]).run P w = .ok v w := by
  rcases hown.2 with ⟨rfl, rfl⟩ | ⟨g, cap, cur, rfl, _, _, hnc, _⟩
  · simp [Builtin.append_, run_underlying ht, sizeOf, typeInfo, hi, Builtin.lenOf, Builtin.firstCells]
  · simp [Builtin.append_, run_underlying ht, sizeOf, typeInfo, hi, Builtin.lenOf, Builtin.firstCells, hnc, storeCells]

theorem app_spans {ops : Array Oper} {rest : List Oper} {o : Oper} {a : Act} {Q : Exit → Act → World → Prop} (w : World) (s x : Operand) (hgd : o.guard = none)
    (ho : o.op = .call { callee := .builtin .append, args := #[s, x], argTypes := #[40, 40] })
    (base n : Nat) (v : Value) (l m : List Sp.S) (hs : a.eval s = v) (hown : w.ownsRow base 42 2 v n (flat encS l)) (A : Option Addr) (c : Nat)
    (hx : a.eval x = .slice A m.length c) (hm : Rs w A m) (hn : n + m.length ≤ 4000000000000) (hbase : base ≤ w.heap.size)
    (h : ∀ v' w', w'.ownsRow base 42 2 v' (n + m.length) (flat encS (l ++ m)) → w.grownBy w' v.ownBlock → (v'.ownBlock = v.ownBlock ∨ v'.ownBlock = some w.heap.size) → wpList Try.prog ops Q rest (a.put o.dst v') w') : wpList Try.prog ops Q (o :: rest) a w := by
  obtain ⟨i0, hi, hz0, hz1, hz2⟩ := info_parts info_span
  have one : ∀ u ∈ flat encS m, u.oneCell' = true := by
    intro u hu
    simp only [flat, List.mem_flatMap] at hu
    obtain ⟨y, _, hy⟩ := hu
    simp [encS] at hy
    rcases hy with rfl | rfl <;> rfl
  rcases A with _ | ad
  · have hm0 : m = [] := by
      cases m with
      | nil => rfl
      | cons y r => obtain ⟨b, off, h0, _⟩ := hm (by simp); cases h0
    subst hm0
    refine wpList_plain hgd fun K hK => ?_
    have hrun := run_append_none (P := Try.prog) w base 40 o.type 42 i0 2 Try.underlying40 hi v n (flat encS l) hown c
    unfold Oper.wp execOp
    simp only [ho, resolve, invoke, builtin, Sem.run_bind, Sem.run_pure, Result.andThen_ok, List.map_toArray, List.map_cons, List.map_nil, hs, hx, List.length_nil, hrun]
    exact hK _ _ (h v w (by rw [List.append_nil]; exact hown) (World.grownBy.refl w _) (.inl rfl))
  · refine wpList_append_at w hgd s x 40 ho base 42 i0 (.agg #[.int .i64 0, .int .i64 0]) 2 16 Try.underlying40 hi hz0 hz1 hz2 rfl (by decide) v n (flat encS l) hs hown ad m.length c (flat encS m) hx (flat_length encS_len m) ?_ one (by unfold maxLen; omega) (by omega) hbase ?_
    · intro j u hj
      have hjl : j < m.length * 2 := by rw [← flat_length encS_len]; exact (List.getElem?_eq_some_iff.1 hj).1
      have hd : j / 2 < m.length := by omega
      obtain ⟨b, off, hA, _, hc⟩ := hm (by rintro rfl; simp at hjl)
      cases hA
      have hf := flat_at encS_len m (j / 2) hd (j % 2) (by omega)
      rw [show j / 2 * 2 + j % 2 = j from by omega, hj] at hf
      have := hc (j / 2) hd (j % 2) u hf.symm
      rw [show off + j / 2 * 2 + j % 2 = off + j from by omega] at this
      by_cases h0 : j = 0
      · subst h0; simpa [Addr.add] using this
      · simpa [Addr.add, h0] using this
    · intro v' w' ho' hg hv
      exact h v' w' (by rw [flat_append]; exact ho') hg hv
end Go.Proofs.Ytnhmibfgaoealaa
namespace Go.Proofs.Ytnhmibfgaoealaa
open Go.RowKit

theorem bEq {f : Nat} {args : Array Value} {w : World} {b b' : Bool} (h : Calls Try.prog f args w (RetB w b)) (e : b = b') : Calls Try.prog f args w (RetB w b') := e ▸ h
theorem iEq {f : Nat} {args : Array Value} {w : World} {n n' : Int} (h : Calls Try.prog f args w (RetI w n)) (e : n = n') : Calls Try.prog f args w (RetI w n') := e ▸ h

set_option maxRecDepth 100000 in
set_option maxHeartbeats 2000000 in
theorem awake03 (w : World) : Calls Try.prog 36 #[] w (RetB w true) := by
  obtain ⟨L, hN, eL, hLl⟩ : ∃ L, Sp.norm [(5, 9), (1, 5), (20, 20)] = L ∧ Hid (L = [(1, 9)]) ∧ L.length ≤ 900000 := ⟨_, rfl, (by decide : _ = _), by decide⟩
  obtain ⟨A0, hA, eA, hAl⟩ : ∃ R, Sp.and_ L [(8, 30)] = R ∧ Hid (R = [(8, 9)]) ∧ R.length ≤ 900000 := ⟨_, rfl, (by rw [eL.out]; decide : _ = _), by rw [eL.out]; decide⟩
  obtain ⟨M, hM, eM, hMl⟩ : ∃ R, Sp.minus L [(3, 4)] = R ∧ Hid (R = [(1, 3), (4, 9)]) ∧ R.length ≤ 900000 := ⟨_, rfl, (by rw [eL.out]; decide : _ = _), by rw [eL.out]; decide⟩
  obtain ⟨D, hD, eD, hDl⟩ : ∃ R, Sp.norm [(-5, 1099511627776)] = R ∧ Hid (R = [(0, 32054400)]) ∧ R.length ≤ 900000 := ⟨_, rfl, (by decide : _ = _), by decide⟩
  obtain ⟨F, hF, eF, hFl⟩ : ∃ R, Sp.first M 3 = R ∧ Hid (R = [(1, 3), (4, 5)]) ∧ R.length ≤ 900000 := ⟨_, rfl, (by rw [eM.out]; decide : _ = _), by rw [eM.out]; decide⟩
  obtain ⟨K, hK, eK, hKl⟩ : ∃ R, Sp.last M 3 = R ∧ Hid (R = [(6, 9)]) ∧ R.length ≤ 900000 := ⟨_, rfl, (by rw [eM.out]; decide : _ = _), by rw [eM.out]; decide⟩
  have zS : Hid (Sp.size M = 7) := by show _ = _; rw [eM.out]; decide
  have zH : Hid (Sp.has M 4 = true) := by show _ = _; rw [eM.out]; decide
  have zG : Hid (Sp.has M 3 = false) := by show _ = _; rw [eM.out]; decide
  have hN := Lib.hid hN; have hA := Lib.hid hA; have hM := Lib.hid hM; have hD := Lib.hid hD; have hF := Lib.hid hF; have hK := Lib.hid hK
  go_enter Try.func36, Try.ntmps36
  go_wp2_with fail
  refine ((hN.out ▸ cNorm (Rs.new _ [(5, 9), (1, 5), (20, 20)] _) (by decide) 3 : Calls _ _ _ _ (RetS _ L))).mono ?_
  rintro e w1 ⟨A1, cap1, rfl, r1, x1, _⟩
  have X1 := ((Ext.refl _).alloc _).trans x1
  go_wp2_with fail
  refine ((hA.out ▸ cAnd (r1.alloc _) (Rs.new _ [(8, 30)] _) hLl (by decide) _ 1 : Calls _ _ _ _ (RetS _ A0))).mono ?_
  rintro e w2 ⟨A2, cap2, rfl, r2, x2, _⟩
  have hl2 := (r1.alloc _).ext x2
  have X2 := (X1.alloc _).trans x2
  go_wp2_with fail
  refine ((hM.out ▸ cMinus (hl2.alloc _) (Rs.new _ [(3, 4)] _) hLl (by decide) _ 1 : Calls _ _ _ _ (RetS _ M))).mono ?_
  rintro e w3 ⟨A3, cap3, rfl, r3, x3, _⟩
  have hl3 := (hl2.alloc _).ext x3
  have ha3 := (r2.alloc _).ext x3
  have X3 := (X2.alloc _).trans x3
  go_wp2_with fail
  refine ((hD.out ▸ cNorm (Rs.new _ [(-5, 1099511627776)] _) (by decide) 1 : Calls _ _ _ _ (RetS _ D))).mono ?_
  rintro e w4 ⟨A4, cap4, rfl, r4, x4, _⟩
  have hl4 := (hl3.alloc _).ext x4
  have ha4 := (ha3.alloc _).ext x4
  have hm4 := (r3.alloc _).ext x4
  have X4 := (X3.alloc _).trans x4
  go_wp2_with fail
  refine ((hF.out ▸ cFirst hm4 hMl (by unfold B64; decide) _ : Calls _ _ _ _ (RetS _ F))).mono ?_
  rintro e w5 ⟨A5, cap5, rfl, r5, x5, _⟩
  have hl5 := hl4.ext x5; clear hl4
  have ha5 := ha4.ext x5; clear ha4
  have hm5 := hm4.ext x5; clear hm4
  have hd5 := r4.ext x5
  have X5 := X4.trans x5
  go_wp2_with fail
  refine ((hK.out ▸ cLast hm5 hMl (by unfold B64; decide) _ : Calls _ _ _ _ (RetS _ K))).mono ?_
  rintro e w6 ⟨A6, cap6, rfl, r6, x6, _⟩
  have hl6 := hl5.ext x6; clear hl5
  have ha6 := ha5.ext x6; clear ha5
  have hm6 := hm5.ext x6; clear hm5
  have hd6 := hd5.ext x6; clear hd5
  have hf6 := r5.ext x6
  have X6 := X5.trans x6
  go_wp2_with fail
  refine (bEq (cSame (hl6.alloc _) (Rs.new _ [(1, 9)] _) hLl _ _) (decide_eq_true eL.out)).mono ?_
  rintro e w7 ⟨rfl, x7⟩
  have hl7 := (hl6.alloc _).ext x7
  have ha7 := (ha6.alloc _).ext x7
  have hm7 := (hm6.alloc _).ext x7
  have hd7 := (hd6.alloc _).ext x7
  have hf7 := (hf6.alloc _).ext x7
  have hk7 := (r6.alloc _).ext x7
  have X7 := (X6.alloc _).trans x7
  go_wp2_with fail
  refine (bEq (cSame (ha7.alloc _) (Rs.new _ [(8, 9)] _) hAl _ _) (decide_eq_true eA.out)).mono ?_
  rintro e w8 ⟨rfl, x8⟩
  have hl8 := (hl7.alloc _).ext x8
  have ha8 := (ha7.alloc _).ext x8
  have hm8 := (hm7.alloc _).ext x8
  have hd8 := (hd7.alloc _).ext x8
  have hf8 := (hf7.alloc _).ext x8
  have hk8 := (hk7.alloc _).ext x8
  have X8 := (X7.alloc _).trans x8
  go_wp2_with fail
  refine (bEq (cSame (hm8.alloc _) (Rs.new _ [(1, 3), (4, 9)] _) hMl _ _) (decide_eq_true eM.out)).mono ?_
  rintro e w9 ⟨rfl, x9⟩
  have hl9 := (hl8.alloc _).ext x9
  have ha9 := (ha8.alloc _).ext x9
  have hm9 := (hm8.alloc _).ext x9
  have hd9 := (hd8.alloc _).ext x9
  have hf9 := (hf8.alloc _).ext x9
  have hk9 := (hk8.alloc _).ext x9
  have X9 := (X8.alloc _).trans x9
  go_wp2_with fail
  refine (bEq (cSame (hd9.alloc _) (Rs.new _ [(0, 32054400)] _) hDl _ _) (decide_eq_true eD.out)).mono ?_
  rintro e w10 ⟨rfl, x10⟩
  have hl10 := (hl9.alloc _).ext x10
  have ha10 := (ha9.alloc _).ext x10
  have hm10 := (hm9.alloc _).ext x10
  have hd10 := (hd9.alloc _).ext x10
  have hf10 := (hf9.alloc _).ext x10
  have hk10 := (hk9.alloc _).ext x10
  have X10 := (X9.alloc _).trans x10
  go_wp2_with fail
  refine (bEq (cSame (hf10.alloc _) (Rs.new _ [(1, 3), (4, 5)] _) hFl _ _) (decide_eq_true eF.out)).mono ?_
  rintro e w11 ⟨rfl, x11⟩
  have hl11 := (hl10.alloc _).ext x11
  have ha11 := (ha10.alloc _).ext x11
  have hm11 := (hm10.alloc _).ext x11
  have hd11 := (hd10.alloc _).ext x11
  have hf11 := (hf10.alloc _).ext x11
  have hk11 := (hk10.alloc _).ext x11
  have X11 := (X10.alloc _).trans x11
  go_wp2_with fail
  refine (bEq (cSame (hk11.alloc _) (Rs.new _ [(6, 9)] _) hKl _ _) (decide_eq_true eK.out)).mono ?_
  rintro e w12 ⟨rfl, x12⟩
  have hl12 := (hl11.alloc _).ext x12
  have ha12 := (ha11.alloc _).ext x12
  have hm12 := (hm11.alloc _).ext x12
  have hd12 := (hd11.alloc _).ext x12
  have hf12 := (hf11.alloc _).ext x12
  have hk12 := (hk11.alloc _).ext x12
  have X12 := (X11.alloc _).trans x12
  go_wp2_with fail
  refine (iEq (cSize hm12 hMl _) (n' := 7) zS.out).mono ?_
  rintro e w13 ⟨rfl, x13⟩
  have hl13 := hl12.ext x13; clear hl12
  have ha13 := ha12.ext x13; clear ha12
  have hm13 := hm12.ext x13; clear hm12
  have hd13 := hd12.ext x13; clear hd12
  have hf13 := hf12.ext x13; clear hf12
  have hk13 := hk12.ext x13; clear hk12
  have X13 := X12.trans x13
  go_wp2_with fail
  refine (bEq (cHas hm13 hMl 4 _) zH.out).mono ?_
  rintro e w14 ⟨rfl, x14⟩
  have hl14 := hl13.ext x14; clear hl13
  have ha14 := ha13.ext x14; clear ha13
  have hm14 := hm13.ext x14; clear hm13
  have hd14 := hd13.ext x14; clear hd13
  have hf14 := hf13.ext x14; clear hf13
  have hk14 := hk13.ext x14; clear hk13
  have X14 := X13.trans x14
  go_wp2_with fail
  refine (bEq (cHas hm14 hMl 3 _) zG.out).mono ?_
  rintro e w15 ⟨rfl, x15⟩
  have hl15 := hl14.ext x15; clear hl14
  have ha15 := ha14.ext x15; clear ha14
  have hm15 := hm14.ext x15; clear hm14
  have hd15 := hd14.ext x15; clear hd14
  have hf15 := hf14.ext x15; clear hf14
  have hk15 := hk14.ext x15; clear hk14
  have X15 := X14.trans x15
  go_wp2
  go_ret
  exact ⟨rfl, X15⟩
end Go.Proofs.Ytnhmibfgaoealaa
