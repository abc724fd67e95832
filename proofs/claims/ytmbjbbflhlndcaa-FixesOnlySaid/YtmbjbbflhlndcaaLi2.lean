/-
  slices.insertionSortCmpFunc on a row of events.
-/
import Derived.Test.YtmbjbbflhlndcaaLh2
import Derived.Shelf.SlSortCmp.QuietGrown
namespace Go.Proofs.Ytmbjbbflhlndcaa
open Go.RowKit BigFrame Go.Sort
set_option linter.unusedVariables false
set_option linter.unusedSimpArgs false

open Stb in
/-- An element put into a sorted row, behind its equals. -/
theorem put_in {T1 T2 T0 : List Ev} {x : Ev} (h0 : T1 ++ T2 = T0) (hs : Sorted lessE T0) (h2 : ∀ t ∈ T2, lessE x t = true) (h1 : ∀ l, T1.getLast? = some l → lessE x l = false) : Sorted lessE (T1 ++ (x :: T2)) ∧ Stab lessE (T0 ++ [x]) (T1 ++ (x :: T2)) := by
  subst h0
  obtain ⟨s1, s2, s12⟩ := sorted_app.1 hs
  constructor
  · refine sorted_app.2 ⟨s1, List.pairwise_cons.2 ⟨fun t ht => ordE.asy _ _ (h2 t ht), s2⟩, fun t ht y hy => ?_⟩
    rcases List.mem_cons.1 hy with rfl | hy
    · rcases List.eq_nil_or_concat T1 with rfl | ⟨A, l, rfl⟩
      · cases ht
      · have hl := h1 l (by simp)
        simp only [List.concat_eq_append] at s1 ht
        rcases List.mem_append.1 ht with ht | ht
        · have := (sorted_app.1 s1).2.2 t ht l (by simp)
          exact ordE.ntr _ _ _ hl this
        · simp at ht; subst ht; exact hl
    · exact s12 t ht y hy
  · have e1 : T1 ++ T2 ++ [x] = T1 ++ (T2 ++ [x]) := by simp
    rw [e1]
    exact (Stab.refl T1).app (stab_swap ordE fun t ht y hy => by simp at hy; subst hy; exact h2 t ht)

theorem cmpE_neg {x y : Ev} : (cmpE x y < 0) = (lessE x y = true) := by
  have := cmpE_less x y
  rw [← this]; simp
theorem Own.ldc {w0 w : World} {g cap : Nat} {L : List Ev} (h : Own w0 w g cap L) {i : Nat} {x : Ev} (hx : L[i]? = some x) (n : Nat) (os : Array Obj) : Sem.run Try.prog (loadCellsFrom ⟨g, i * 11, none⟩ 0 11 #[]) (grow (w.drewN n) os) = .ok (encV x).toArray (grow (w.drewN n) os) := (h.ext (ext_grow w n os)).ld hx
theorem swap_at (A B : List Ev) (l x : Ev) : (((A ++ (l :: x :: B)).set (A.length + 1) l).set A.length x) = A ++ (x :: l :: B) := by
  induction A with
  | nil => rfl
  | cons a A ih => simp

set_option maxRecDepth 100000 in
set_option maxHeartbeats 4000000 in
/-- The inner loop's test and exchange, as one stretch: the walk of insertionSort. -/
theorem insertion0 (gc : Nat) (eg : ∀ args w, (callFunc gc args).run Try.prog w = .ok (.enter gc args) w) (kc : ∀ x l w, Calls Try.prog gc (#[.agg (encV x).toArray, .agg (encV l).toArray] ++ #[]) w fun e w' => e = .returned (.int .i64 (cmpE x l)) ∧ ∃ n os, w' = grow (w.drewN n) os) {w0 w : World} {g cap : Nat} {P U S : List Ev} (h : Own w0 w g cap (P ++ (U ++ S))) (a b N : Nat) (hN : (P ++ (U ++ S)).length = N) (hl : N ≤ 1000000) (ha : a = P.length) (hb : b = P.length + U.length) (hU : 1 ≤ U.length) :
    Calls Try.prog 103 #[.slice (some ⟨g, 0, none⟩) N cap, .int .i64 a, .int .i64 b, .func (.func gc) #[] #[]] w fun e w' => e = .returned (.tuple #[]) ∧ ∃ T, Own w0 w' g cap (P ++ (T ++ S)) ∧ T.length = U.length ∧ Stb.Sorted lessE T ∧ Stb.Stab lessE U T := by
  have hbN : b ≤ N := by rw [← hN]; simp only [List.length_append]; omega
  have hab : a < b := by omega
  have mixed : Try.prog.follows Departure.mixedOrders = true := by kernel_rfl
  replace h := Lib.hid h
  replace kc := Lib.hid kc
  replace hN := Lib.hid hN
  replace ha := Lib.hid ha
  replace hb := Lib.hid hb
  go_enter Try.func103, Try.ntmps103
  go_wp2_with fail
  go_loopw [8] (fun vi wr => ∃ (i k : Nat) (T : List Ev), vi = .int .i64 i ∧ Hid (i = a + k) ∧ a < i ∧ i ≤ b ∧ Hid (T.length = k) ∧ Hid (Stb.Sorted lessE T ∧ Stb.Stab lessE (U.take k) T) ∧ Hid (Own w0 wr g cap (P ++ (T ++ (U.drop k ++ S))))) (fun vi _ => b - (intOf vi).toNat)
  case atStart => exact ⟨a + 1, 1, U.take 1, by congr 1, rfl, by omega, by omega, by show _ = _; rw [List.length_take]; omega, ⟨by
      cases U with
      | nil => simp at hU
      | cons u U => simp [Stb.Sorted], Stb.Stab.refl _⟩, by show Own _ _ _ _ _; rw [← List.append_assoc (U.take 1), List.take_append_drop]; exact h.out⟩
  case round =>
    obtain ⟨i, k, T, rfl, hik, hai, hib, HT, HS, HO⟩ := hrel
    by_cases hlt : i < b
    · have q1 : (i : Int) < (b : Int) := by omega
      have hkU : k < U.length := by have := hik.out; have := hb.out; have := ha.out; omega
      obtain ⟨x, hx⟩ : ∃ x, U[k]? = some x := ⟨_, List.getElem?_eq_getElem hkU⟩
      obtain ⟨R, hR⟩ : ∃ R, U.drop (k + 1) ++ S = R := ⟨_, rfl⟩
      have hd : U.drop k ++ S = x :: R := by
        rw [List.drop_eq_getElem_cons hkU, ← hR]
        rw [List.getElem?_eq_getElem hkU] at hx
        injection hx with hx
        rw [hx]; rfl
      rw [hd] at HO
      have HTK : Hid (U.take (k + 1) = U.take k ++ [x]) := by
        show _ = _
        rw [List.take_add_one, hx]; rfl
      have hn : Hid (∀ A B : List Ev, A.length + B.length = k → ∀ z : Ev, (P ++ (A ++ (z :: (B ++ R)))).length = N) := fun A B hAB z => by
        have := congrArg List.length hd
        rw [← hN.out]
        simp only [List.length_append, List.length_cons, List.length_drop] at this ⊢
        omega
      replace hR := Lib.hid hR
      clear hd hx
      go_wp2_with fail
      go_loopw [9] (fun vj wr2 => ∃ (j : Nat) (T1 T2 : List Ev), vj = .int .i64 j ∧ a ≤ j ∧ j ≤ i ∧ Hid (j = a + T1.length) ∧ Hid (T1 ++ T2 = T) ∧ Hid (∀ t ∈ T2, lessE x t = true) ∧ Hid (Own w0 wr2 g cap (P ++ (T1 ++ (x :: (T2 ++ R)))))) (fun vj _ => (intOf vj).toNat)
      case atStart => exact ⟨i, T, [], rfl, by omega, Nat.le_refl _, by show _ = _; rw [HT.out]; exact hik.out, by show _ = _; simp, (by intro t ht; cases ht), HO.out⟩
      case round =>
        clear HO
        obtain ⟨j, T1, T2, rfl, haj, hji, HJ, HT1, HT2, HO⟩ := hrel
        have OUT : Hid (∀ w', Own w0 w' g cap (P ++ (T1 ++ (x :: (T2 ++ R)))) → (∀ l, T1.getLast? = some l → lessE x l = false) → ∃ (i' k' : Nat) (T' : List Ev), Value.int .i64 ((i : Int) + 1) = .int .i64 i' ∧ Hid (i' = a + k') ∧ a < i' ∧ i' ≤ b ∧ Hid (T'.length = k') ∧ Hid (Stb.Sorted lessE T' ∧ Stb.Stab lessE (U.take k') T') ∧ Hid (Own w0 w' g cap (P ++ (T' ++ (U.drop k' ++ S))))) := fun w' ho hl1 => by
          obtain ⟨p1, p2⟩ := put_in HT1.out HS.out.1 HT2.out hl1
          refine ⟨i + 1, k + 1, T1 ++ (x :: T2), by congr 1, by show _ = _; have := hik.out; omega, by omega, by omega, ?_, ⟨p1, ?_⟩, ?_⟩
          · show _ = _
            have := HT.out
            rw [← HT1.out] at this
            simp only [List.length_append, List.length_cons] at this ⊢
            omega
          · rw [HTK.out]
            exact ((HS.out.2).app (Stb.Stab.refl [x])).trans p2
          · show Own _ _ _ _ _
            rw [hR.out]
            simpa using ho
        by_cases hja : a < j
        · obtain ⟨jp, rfl⟩ : ∃ jp, j = jp + 1 := ⟨j - 1, by omega⟩
          have hT1 : T1 ≠ [] := by rintro rfl; have := HJ.out; simp at this; omega
          obtain ⟨A, l, rfl⟩ : ∃ A l, T1 = A ++ [l] := by
            rcases List.eq_nil_or_concat T1 with e | ⟨A, l, e⟩
            · exact absurd e hT1
            · exact ⟨A, l, by simpa using e⟩
          have hjp : jp = (P ++ A).length := by have := HJ.out; have := ha.out; simp at *; omega
          have HO2 : Own w0 wr g cap ((P ++ A) ++ (l :: x :: (T2 ++ R))) := by have := HO.out; simpa using this
          have hLN : ((P ++ A) ++ (l :: x :: (T2 ++ R))).length = N := by
            have e := hn.out (A ++ [l]) T2 (by have := congrArg List.length HT1.out; rw [List.length_append] at this; rw [this]; exact HT.out) x
            rw [← e]; simp
          obtain ⟨M, hM⟩ : ∃ M, (P ++ A) ++ (l :: x :: (T2 ++ R)) = M := ⟨_, rfl⟩
          have gl : M[jp]? = some l := by rw [← hM, hjp, List.getElem?_append_right (Nat.le_refl _)]; simp
          have gx : M[jp + 1]? = some x := by rw [← hM, hjp, List.getElem?_append_right (by omega)]; simp
          have hsw : (M.set (jp + 1) l).set jp x = (P ++ A) ++ (x :: l :: (T2 ++ R)) := by rw [← hM, hjp]; exact swap_at _ _ _ _
          rw [hM] at HO2 hLN
          replace HO2 := Lib.hid HO2
          have jl : jp + 1 < N := by have := (List.getElem?_eq_some_iff.1 gx).1; omega
          have q2 : (a : Int) < (jp : Int) + 1 := by omega
          have q3 : (jp : Int) + 1 < (N : Int) := by omega
          have q4 : (jp : Int) < (N : Int) := by omega
          have q5 : (0 : Int) ≤ (jp : Int) + 1 := by omega
          have q6 : ((jp : Int) + 1).toNat = jp + 1 := by omega
          have hwp : IntKind.i64.wrap (jp : Int) = (jp : Int) := by rw [IntKind.wrap_i64]; omega
          obtain ⟨K, hK⟩ : ∃ K, (11 : Nat) = K := ⟨_, rfl⟩
          replace hK := Lib.hid hK
          have lj := fun n os => HO2.out.ldc gx n os
          have lp := fun n os => HO2.out.ldc gl n os
          have hcg : ∀ n' os', Calls Try.prog gc (#[.agg (encV x).toArray, .agg (encV l).toArray] ++ #[]) (grow (wr.drewN n') os') fun e w' => e = .returned (.int .i64 (cmpE x l)) ∧ ∃ q os'', w' = grow ((grow (wr.drewN n') os').drewN q) os'' := fun n' os' => kc.out x l _
          rw [hK.out] at lj lp
          have aE := Try.isAgg23
          have zE := Try.sizeOf23
          rw [hK.out] at zE
          replace hM := Lib.hid hM; replace gl := Lib.hid gl; replace gx := Lib.hid gx; replace hsw := Lib.hid hsw; replace hjp := Lib.hid hjp
          have hlen : M.length = N := hLN
          replace hLN := Lib.hid hLN
          by_cases hlv : cmpE x l < 0
          · go_wp2_with fail
            go_quiet_grown (first | (go_at_fn gc; refine Calls.grown_of (hcg _ _)))
            have HO3 := HO2.out.ext (ext_grow wr nq osq)
            obtain ⟨wq, hwq⟩ : ∃ wq, grow (wr.drewN nq) osq = wq := ⟨_, rfl⟩
            rw [hwq] at HO3 ⊢
            clear hwq lj lp hcg
            have hlt' : Hid (lessE x l = true) := by have := hlv; rw [cmpE_neg] at this; exact this
            clear hlv
            have HMd : Own w0 wq.drew g cap M := HO3.drewN 1
            clear HO3
            have lx := HMd.ld gx.out
            have ly := HMd.ld gl.out
            have s1 := HMd.st (i := jp + 1) (by rw [hlen]; exact jl) l
            have HM2 := Lib.hid (HMd.set (i := jp + 1) (by rw [hlen]; exact jl) l)
            have s2 := HM2.out.st (i := jp) (by rw [List.length_set, hlen]; omega) x
            clear HMd
            have HM3 := Lib.hid (HM2.out.set (i := jp) (by rw [List.length_set, hlen]; omega) x)
            rw [hsw.out] at HM3
            obtain ⟨cx, hcx⟩ : ∃ c, encV x = c := ⟨_, rfl⟩
            obtain ⟨cy, hcy⟩ : ∃ c, encV l = c := ⟨_, rfl⟩
            have hlx : cx.length = 11 := by rw [← hcx]; rfl
            have hly : cy.length = 11 := by rw [← hcy]; rfl
            rw [hcx] at lx s2
            rw [hcy] at ly s1 s2
            rw [hcx, hcy] at HM3
            clear HM2
            obtain ⟨W1, hW1⟩ : ∃ W1, wq.drew.setCells g ((jp + 1) * 11) cy = W1 := ⟨_, rfl⟩
            rw [hW1] at s1 s2 HM3
            obtain ⟨W2, hW2⟩ : ∃ W2, W1.setCells g (jp * 11) cx = W2 := ⟨_, rfl⟩
            rw [hW2] at s2 HM3
            rw [hK.out] at lx ly s1 s2 hlx hly
            clear hW1 hW2 hcx hcy
            go_wp2_with fail
            go_big_region
            clear lx ly s1 s2
            go_wp2_with fail
            have HJ2 : Hid (jp = a + A.length) := by show _ = _; have := HJ.out; simp at this; omega
            exact ⟨⟨jp, A, l :: T2, by first | rfl | go_num | (congr 1; omega), by omega, by omega, HJ2, by show _ = _; rw [← HT1.out]; simp, (by
              intro t ht
              rcases List.mem_cons.1 ht with rfl | ht
              · exact hlt'.out
              · exact HT2.out t ht), by show Own _ _ _ _ _; simpa using HM3.out⟩, by simp [intOf] <;> omega⟩
          · have hlt' : Hid (lessE x l = false) := by
              have := hlv; rw [cmpE_neg] at this; show _ = _; simpa using this
            go_wp2_with fail
            go_quiet_grown (first | (go_at_fn gc; refine Calls.grown_of (hcg _ _)))
            have HO3 := Lib.hid (HO.out.ext (ext_grow wr nq osq))
            obtain ⟨wq, hwq⟩ : ∃ wq, grow (wr.drewN nq) osq = wq := ⟨_, rfl⟩
            rw [hwq] at HO3 ⊢
            clear hwq lj lp hcg
            have OUT2 := Lib.hid (OUT.out wq HO3.out (fun y hy => by simp at hy; subst hy; exact hlt'.out))
            go_wp2_with fail
            exact ⟨OUT2.out, by simp [intOf]; omega⟩
        · have q2 : ¬ ((a : Int) < (j : Int)) := by omega
          go_wp2_with fail
          go_big_region_o
          have OUT2 := Lib.hid (OUT.out wr.drew (HO.out.drewN 1) (fun y hy => by
            have : T1 = [] := by
              have := HJ.out
              exact List.eq_nil_of_length_eq_zero (by omega)
            subst this; cases hy))
          go_wp2_with fail
          exact ⟨OUT2.out, by simp [intOf]; omega⟩
    · have q1 : ¬ ((i : Int) < (b : Int)) := by omega
      go_wp2_with fail
      go_end0
      have hk := hik.out
      have hb' := hb.out
      have ha' := ha.out
      have e : k = U.length := by omega
      subst e
      refine ⟨rfl, T, by simpa using HO.out, HT.out, HS.out.1, by simpa using HS.out.2⟩
set_option maxRecDepth 100000 in
set_option maxHeartbeats 4000000 in
/-- Nothing to sort. -/
theorem insertion_nil (gc : Nat) (g cap a b N : Nat) (hl : b ≤ 1000000) (hab : b ≤ a) (ha : a ≤ 1000000) (w : World) :
    Calls Try.prog 103 #[.slice (some ⟨g, 0, none⟩) N cap, .int .i64 a, .int .i64 b, .func (.func gc) #[] #[]] w fun e w' => e = .returned (.tuple #[]) ∧ w' = w := by
  go_enter Try.func103, Try.ntmps103
  go_wp2_with fail
  go_loopw [8] (fun vi wr => vi = .int .i64 (a + 1 : Nat) ∧ wr = w) (fun vi _ => 0)
  case atStart => exact ⟨by congr 1, rfl⟩
  case round =>
    obtain ⟨rfl, rfl⟩ := hrel
    have q1 : ¬ ((a : Int) + 1 < (b : Int)) := by omega
    go_wp2_with fail
    go_end0
    exact ⟨rfl, rfl⟩
theorem pInsertion {w0 w : World} {g cap : Nat} {P U S : List Ev} (h : Own w0 w g cap (P ++ (U ++ S))) (a b N : Nat) (hN : (P ++ (U ++ S)).length = N) (hl : N ≤ 1000000) (ha : a = P.length) (hb : b = P.length + U.length) (hU : 1 ≤ U.length) :
    Calls Try.prog 103 #[.slice (some ⟨g, 0, none⟩) N cap, .int .i64 a, .int .i64 b, .func (.func 71) #[] #[]] w fun e w' => e = .returned (.tuple #[]) ∧ ∃ T, Own w0 w' g cap (P ++ (T ++ S)) ∧ T.length = U.length ∧ Stb.Sorted lessE T ∧ Stb.Stab lessE U T :=
  insertion0 71 (enters_of Try.func71 (by kernel_rfl) rfl) (fun x l w => pCompare x l w) h a b N hN hl ha hb hU
end Go.Proofs.Ytmbjbbflhlndcaa
