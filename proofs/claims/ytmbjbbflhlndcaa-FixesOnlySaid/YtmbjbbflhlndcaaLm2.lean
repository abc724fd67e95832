/-
  slices.symMergeCmpFunc on a row of events: one element on the right.
-/
import Derived.Test.YtmbjbbflhlndcaaLi2
import Derived.Test.YtmbjbbflhlndcaaLj2
namespace Go.Proofs.Ytmbjbbflhlndcaa
open Go.RowKit BigFrame Go.Sort
set_option linter.unusedVariables false
set_option linter.unusedSimpArgs false

theorem sorted_in {A V S : List Ev} (hs : Stb.Sorted lessE V) {t u : Nat} {y z : Ev} (h1 : A.length ≤ t) (h2 : t ≤ u) (h3 : u < A.length + V.length) (hy : (A ++ (V ++ S))[t]? = some y) (hz : (A ++ (V ++ S))[u]? = some z) : lessE z y = false := by
  rw [List.getElem?_append_right h1, List.getElem?_append_left (by omega)] at hy
  rw [List.getElem?_append_right (by omega), List.getElem?_append_left (by omega)] at hz
  rcases Nat.lt_or_ge t u with h | h
  · obtain ⟨p, rfl⟩ := List.getElem?_eq_some_iff.1 hy
    obtain ⟨q, rfl⟩ := List.getElem?_eq_some_iff.1 hz
    exact (List.pairwise_iff_getElem.1 hs) _ _ p q (by omega)
  · have : t = u := by omega
    subst this
    rw [hy] at hz; cases hz; exact ordE.irr _
set_option maxRecDepth 100000 in
set_option maxHeartbeats 4000000 in
/-- One element on the right. -/
theorem merge_right (gc : Nat) (eg : ∀ args w, (callFunc gc args).run Try.prog w = .ok (.enter gc args) w) (kc : ∀ x l w, Calls Try.prog gc (#[.agg (encV x).toArray, .agg (encV l).toArray] ++ #[]) w fun e w' => e = .returned (.int .i64 (cmpE x l)) ∧ ∃ n os, w' = grow (w.drewN n) os) {w0 w : World} {g cap : Nat} {P U S : List Ev} {y : Ev} (h : Own w0 w g cap (P ++ (U ++ (y :: S)))) (a m b N : Nat) (hN : (P ++ (U ++ (y :: S))).length = N) (hl : N ≤ 1000000) (ha : a = P.length) (hm : m = a + U.length) (hb : b = m + 1) (hU : 2 ≤ U.length) (hs : Stb.Sorted lessE U) :
    Calls Try.prog 104 #[.slice (some ⟨g, 0, none⟩) N cap, .int .i64 a, .int .i64 m, .int .i64 b, .func (.func gc) #[] #[]] w fun e w' => e = .returned (.tuple #[]) ∧ ∃ T, Own w0 w' g cap (P ++ (T ++ S)) ∧ T.length = U.length + 1 ∧ Stb.Sorted lessE T ∧ Stb.Stab lessE (U ++ [y]) T := by
  have hbN : b ≤ N := by rw [← hN]; simp only [List.length_append, List.length_cons]; omega
  have mixed : Try.prog.follows Departure.mixedOrders = true := by kernel_rfl
  replace h := Lib.hid h
  replace kc := Lib.hid kc
  replace hN := Lib.hid hN
  replace ha := Lib.hid ha
  replace hs := Lib.hid hs
  have hma : ((m : Int) - (a : Int) == 1) = false := by rw [beq_eq_false_iff_ne]; omega
  have hbm : (b : Int) - (m : Int) = 1 := by omega
  have ham : a < m := by omega
  have hmb : m < b := by omega
  have hsI : Hid (∀ t u p q, a ≤ t → t ≤ u → u < m → (P ++ (U ++ (y :: S)))[t]? = some p → (P ++ (U ++ (y :: S)))[u]? = some q → lessE q p = false) := fun t u p q h1 h2 h3 hy hz => sorted_in (A := P) (V := U) (S := y :: S) hs.out (by have := ha.out; omega) h2 (by have := ha.out; omega) hy hz
  replace hm := Lib.hid hm
  replace hb := Lib.hid hb
  obtain ⟨M, hM⟩ : ∃ M, P ++ (U ++ (y :: S)) = M := ⟨_, rfl⟩
  rw [hM] at h hN hsI
  replace hM := Lib.hid hM
  go_enter Try.func104, Try.ntmps104
  go_wp2_with fail
  go_loopw [14, 15] (fun vi vj wr => ∃ (i j : Nat), vi = .int .i64 i ∧ vj = .int .i64 j ∧ a ≤ i ∧ i ≤ j ∧ j ≤ m ∧ Hid (∀ t p, a ≤ t → t < i → M[t]? = some p → lessE y p = false) ∧ Hid (∀ t p, j ≤ t → t < m → M[t]? = some p → lessE y p = true) ∧ Hid (Own w0 wr g cap M)) (fun vi vj _ => (intOf vj).toNat - (intOf vi).toNat)
  case atStart => exact ⟨a, m, rfl, rfl, Nat.le_refl _, by omega, Nat.le_refl _, (by intro t y h1 h2; omega), (by intro t y h1 h2; omega), h.out⟩
  case round =>
    obtain ⟨i, j, rfl, rfl, hai, hij, hjm, HA, HB, HO⟩ := hrel
    by_cases hlt : i < j
    · have q1 : (i : Int) < (j : Int) := by omega
      obtain ⟨c, hc⟩ : ∃ c, (i + j) / 2 = c := ⟨_, rfl⟩
      have eh : ((i : Int) + (j : Int)) / 2 = (c : Int) := by omega
      have hic : i ≤ c := by omega
      have hcj : c < j := by omega
      clear hc
      go_wp2_with fail
      try simp only [eh]
      clear eh
      have hMN := hN.out
      obtain ⟨x, hx⟩ : ∃ x, M[c]? = some x := ⟨_, List.getElem?_eq_getElem (by omega)⟩
      have hy : M[m]? = some y := by rw [← hM.out, hm.out, ha.out, List.getElem?_append_right (by omega), List.getElem?_append_right (by omega)]; simp
      obtain ⟨K, hK⟩ : ∃ K, (11 : Nat) = K := ⟨_, rfl⟩
      replace hK := Lib.hid hK
      have lj := fun n os => HO.out.ldc hy n os
      have lp := fun n os => HO.out.ldc hx n os
      have hcg : ∀ n' os', Calls Try.prog gc (#[.agg (encV y).toArray, .agg (encV x).toArray] ++ #[]) (grow (wr.drewN n') os') fun e w' => e = .returned (.int .i64 (cmpE y x)) ∧ ∃ q os'', w' = grow ((grow (wr.drewN n') os').drewN q) os'' := fun n' os' => kc.out y x _
      rw [hK.out] at lj lp
      have aE := Try.isAgg23
      have zE := Try.sizeOf23
      rw [hK.out] at zE
      have q2 : (c : Int) < (N : Int) := by omega
      have q3 : (m : Int) < (N : Int) := by omega
      have q4 : c < N := by omega
      have q5 : m < N := by omega
      replace hy := Lib.hid hy; replace hx := Lib.hid hx
      by_cases hlv : cmpE y x < 0
      · have hlt' : Hid (lessE y x = true) := by have := hlv; rw [cmpE_neg] at this; exact this
        have hd : (!decide (cmpE y x < 0)) = false := by simp [hlv]
        clear hlv
        go_quiet_grown (first | (go_at_fn gc; refine Calls.grown_of (hcg _ _)))
        have HO3 := Lib.hid (HO.out.ext (ext_grow wr nq osq))
        obtain ⟨wq, hwq⟩ : ∃ wq, grow (wr.drewN nq) osq = wq := ⟨_, rfl⟩
        rw [hwq] at HO3 ⊢
        clear hwq lj lp hcg
        go_wp2_with fail
        go_roundw
        case rel => exact ⟨i, c, rfl, rfl, hai, hic, by omega, HA, (by
          intro t z h1 h2 h3
          have := hsI.out c t x z (by omega) h1 h2 hx.out h3
          cases hz : lessE y z with
          | true => rfl
          | false => have e := ordE.ntr _ _ _ hz this; rw [hlt'.out] at e; cases e), HO3⟩
        case measure => simp [intOf]; omega
      · have hlt' : Hid (lessE y x = false) := by
          have := hlv; rw [cmpE_neg] at this; show _ = _; simpa using this
        have hd : (!decide (cmpE y x < 0)) = true := by simp [hlv]
        clear hlv
        go_quiet_grown (first | (go_at_fn gc; refine Calls.grown_of (hcg _ _)))
        have HO3 := Lib.hid (HO.out.ext (ext_grow wr nq osq))
        obtain ⟨wq, hwq⟩ : ∃ wq, grow (wr.drewN nq) osq = wq := ⟨_, rfl⟩
        rw [hwq] at HO3 ⊢
        clear hwq lj lp hcg
        go_wp2_with fail
        go_roundw
        case rel => exact ⟨c + 1, j, by congr 1, rfl, by omega, by omega, hjm, (by
          intro t z h1 h2 h3
          have := hsI.out t c z x h1 (by omega) (by omega) h3 hx.out
          exact ordE.ntr _ _ _ hlt'.out this), HB, HO3⟩
        case measure => simp [intOf]; omega
    · obtain rfl : i = j := by omega
      have q1 : ¬ ((i : Int) < (i : Int)) := by omega
      have h0 : Hid (Own w0 wr g cap (P ++ (U.take U.length ++ (y :: (U.drop U.length ++ S))))) := by show Own _ _ _ _ _; simpa [hM.out] using HO.out
      go_wp2_with fail
      go_loopw [17] (fun vk wr2 => ∃ (k q : Nat), vk = .int .i64 k ∧ Hid (k = a + q) ∧ i ≤ k ∧ k ≤ m ∧ Hid (Own w0 wr2 g cap (P ++ (U.take q ++ (y :: (U.drop q ++ S)))))) (fun vk _ => (intOf vk).toNat)
      case atStart => exact ⟨m, U.length, rfl, hm.out, by omega, Nat.le_refl _, h0.out⟩
      case round =>
        obtain ⟨k, q, rfl, hkq, hik, hkm, HW⟩ := hrel
        by_cases hk : i < k
        · obtain ⟨jp, rfl⟩ : ∃ jp, k = jp + 1 := ⟨k - 1, by omega⟩
          obtain ⟨q, rfl⟩ : ∃ q', q = q' + 1 := ⟨q - 1, by have := hkq.out; omega⟩
          have q2 : (i : Int) < (jp : Int) + 1 := by omega
          have hqU : q < U.length := by have := hkq.out; have := hm.out; omega
          obtain ⟨x, hx⟩ : ∃ x, U[q]? = some x := ⟨_, List.getElem?_eq_getElem hqU⟩
          have hd : U.drop q = x :: U.drop (q + 1) := by
            rw [List.drop_eq_getElem_cons hqU]
            rw [List.getElem?_eq_getElem hqU] at hx
            injection hx with hx
            rw [hx]
          have htk : U.take (q + 1) = U.take q ++ [x] := by rw [List.take_add_one, hx]; rfl
          have hA : jp = (P ++ U.take q).length := by have := hkq.out; have := ha.out; rw [List.length_append, List.length_take]; omega
          have HX : Own w0 wr g cap ((P ++ U.take q) ++ (x :: y :: (U.drop (q + 1) ++ S))) := by have := HW.out; rw [htk] at this; simpa using this
          have hR : Hid (∀ W, Own w0 W g cap ((P ++ U.take q) ++ (y :: x :: (U.drop (q + 1) ++ S))) → Own w0 W g cap (P ++ (U.take q ++ (y :: (U.drop q ++ S))))) := fun W h => by rw [hd]; simpa using h
          have hLN : ((P ++ U.take q) ++ (x :: y :: (U.drop (q + 1) ++ S))).length = N := by
            have e : U = U.take q ++ (x :: U.drop (q + 1)) := by rw [← hd, List.take_append_drop]
            have e2 := congrArg List.length e
            have e3 := congrArg List.length hM.out
            rw [hN.out] at e3
            rw [← e3]
            simp only [List.length_append, List.length_cons] at e2 ⊢
            omega
          obtain ⟨M2, hM2⟩ : ∃ M2, (P ++ U.take q) ++ (x :: y :: (U.drop (q + 1) ++ S)) = M2 := ⟨_, rfl⟩
          have gl : M2[jp]? = some x := by rw [← hM2, hA, List.getElem?_append_right (Nat.le_refl _)]; simp
          have gx : M2[jp + 1]? = some y := by rw [← hM2, hA, List.getElem?_append_right (by omega)]; simp
          have hsw : (M2.set (jp + 1) x).set jp y = (P ++ U.take q) ++ (y :: x :: (U.drop (q + 1) ++ S)) := by rw [← hM2, hA]; exact swap_at _ _ _ _
          rw [hM2] at HX hLN
          have HMd : Own w0 wr.drew g cap M2 := HX.drewN 1
          have lx := HMd.ld gx
          have ly := HMd.ld gl
          have s1 := HMd.st (i := jp + 1) (by omega) x
          have HM2 := HMd.set (i := jp + 1) (by omega) x
          have s2 := HM2.st (i := jp) (by rw [List.length_set]; omega) y
          have HM3 := Lib.hid (HM2.set (i := jp) (by rw [List.length_set]; omega) y)
          rw [hsw] at HM3
          clear HM2 HMd HX
          obtain ⟨K, hK⟩ : ∃ K, (11 : Nat) = K := ⟨_, rfl⟩
          replace hK := Lib.hid hK
          have aE := Try.isAgg23
          have zE := Try.sizeOf23
          rw [hK.out] at zE
          obtain ⟨cx, hcx⟩ : ∃ c, encV x = c := ⟨_, rfl⟩
          obtain ⟨cy, hcy⟩ : ∃ c, encV y = c := ⟨_, rfl⟩
          have hlx : cx.length = 11 := by rw [← hcx]; rfl
          have hly : cy.length = 11 := by rw [← hcy]; rfl
          rw [hcx] at ly s1 s2 HM3
          rw [hcy] at lx s2 HM3
          obtain ⟨W1, hW1⟩ : ∃ W1, wr.drew.setCells g ((jp + 1) * 11) cx = W1 := ⟨_, rfl⟩
          rw [hW1] at s1 s2 HM3
          obtain ⟨W2, hW2⟩ : ∃ W2, W1.setCells g (jp * 11) cy = W2 := ⟨_, rfl⟩
          rw [hW2] at s2 HM3
          rw [hK.out] at lx ly s1 s2 hlx hly
          have w1 : IntKind.i64.wrap (jp : Int) = (jp : Int) := by rw [IntKind.wrap_i64]; omega
          have p0 : (0 : Int) ≤ (jp : Int) + 1 := by omega
          have p1 : ((jp : Int) + 1).toNat = jp + 1 := by omega
          have p2 : (jp : Int) + 1 < (N : Int) := by omega
          have p3 : (jp : Int) < (N : Int) := by omega
          have hk2 := Lib.hid hk
          have HM4 := Lib.hid (hR.out W2 HM3.out)
          clear hW1 hW2 hcx hcy hsw hd htk hA hM2 hR HM3 hx
          go_wp2_with fail
          go_big_region
          clear lx ly s1 s2
          go_wp2_with fail
          exact ⟨⟨jp, q, by first | rfl | go_num | (congr 1; omega), by show _ = _; have := hkq.out; omega, by have := hk2.out; omega, by omega, HM4⟩, by have := hk2.out; simp [intOf] <;> omega⟩
        · have q2 : ¬ ((i : Int) < (k : Int)) := by omega
          go_wp2_with fail
          refine bodyPost_ret (results_none rfl _ _ _) rfl ?_
          have e : k = i := by omega
          have hkq' := hkq.out
          have hm' := hm.out
          have hMe := hM.out
          have key : ∀ s p, U[s]? = some p → M[a + s]? = some p := fun s p hs' => by
            have : s < U.length := (List.getElem?_eq_some_iff.1 hs').1
            have hA := ha.out
            rw [← hMe, List.getElem?_append_right (by omega), show a + s - P.length = s by omega, List.getElem?_append_left this]
            exact hs'
          obtain ⟨p1, p2⟩ := put_in (x := y) (T1 := U.take q) (T2 := U.drop q) (T0 := U) (by rw [List.take_append_drop]) hs.out (fun z hz => by
            obtain ⟨s, hs1, rfl⟩ := List.mem_iff_getElem.1 hz
            rw [List.length_drop] at hs1
            exact HB.out (a + (q + s)) _ (by omega) (by omega) (key (q + s) _ (by rw [List.getElem_drop]; exact List.getElem?_eq_getElem _))) (fun z hz => by
            have hz := List.mem_of_getLast? hz
            obtain ⟨s, hs1, rfl⟩ := List.mem_iff_getElem.1 hz
            rw [List.length_take] at hs1
            exact HA.out (a + s) _ (by omega) (by omega) (key s _ (by rw [List.getElem_take]; exact List.getElem?_eq_getElem _)))
          refine ⟨rfl, U.take q ++ (y :: U.drop q), by simpa using HW.out, ?_, p1, p2⟩
          have := congrArg List.length (List.take_append_drop q U)
          simp only [List.length_append, List.length_cons] at this ⊢
          omega
end Go.Proofs.Ytmbjbbflhlndcaa
