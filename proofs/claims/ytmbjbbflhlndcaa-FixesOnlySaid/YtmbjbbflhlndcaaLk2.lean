/-
  slices.symMergeCmpFunc on a row of events.
-/
import Derived.Test.YtmbjbbflhlndcaaLi2
import Derived.Test.YtmbjbbflhlndcaaLj2
namespace Go.Proofs.Ytmbjbbflhlndcaa
open Go.RowKit BigFrame Go.Sort
set_option linter.unusedVariables false
set_option linter.unusedSimpArgs false

theorem swap_at2 (A B : List Ev) (l x : Ev) : (((A ++ (l :: x :: B)).set A.length x).set (A.length + 1) l) = A ++ (x :: l :: B) := by
  induction A with
  | nil => rfl
  | cons a A ih => simp
theorem sorted_at {A V S : List Ev} (hs : Stb.Sorted lessE V) {t u : Nat} {y z : Ev} (h1 : A.length ≤ t) (h2 : t ≤ u) (h3 : u < A.length + V.length) (hy : (A ++ (V ++ S))[t]? = some y) (hz : (A ++ (V ++ S))[u]? = some z) : lessE z y = false := by
  rw [List.getElem?_append_right h1, List.getElem?_append_left (by omega)] at hy
  rw [List.getElem?_append_right (by omega), List.getElem?_append_left (by omega)] at hz
  rcases Nat.lt_or_ge t u with h | h
  · obtain ⟨p, rfl⟩ := List.getElem?_eq_some_iff.1 hy
    obtain ⟨q, rfl⟩ := List.getElem?_eq_some_iff.1 hz
    exact (List.pairwise_iff_getElem.1 hs) _ _ p q (by omega)
  · have : t = u := by omega
    subst this
    rw [hy] at hz; cases hz; exact ordE.irr _
set_option maxRecDepth 100000 in
set_option maxHeartbeats 4000000 in
/-- One element on the left. -/
theorem merge_left (gc : Nat) (eg : ∀ args w, (callFunc gc args).run Try.prog w = .ok (.enter gc args) w) (kc : ∀ x l w, Calls Try.prog gc (#[.agg (encV x).toArray, .agg (encV l).toArray] ++ #[]) w fun e w' => e = .returned (.int .i64 (cmpE x l)) ∧ ∃ n os, w' = grow (w.drewN n) os) {w0 w : World} {g cap : Nat} {P V S : List Ev} {x : Ev} (h : Own w0 w g cap (P ++ (x :: (V ++ S)))) (a m b N : Nat) (hN : (P ++ (x :: (V ++ S))).length = N) (hl : N ≤ 1000000) (ha : a = P.length) (hm : m = a + 1) (hb : b = m + V.length) (hV : 1 ≤ V.length) (hs : Stb.Sorted lessE V) :
    Calls Try.prog 104 #[.slice (some ⟨g, 0, none⟩) N cap, .int .i64 a, .int .i64 m, .int .i64 b, .func (.func gc) #[] #[]] w fun e w' => e = .returned (.tuple #[]) ∧ ∃ T, Own w0 w' g cap (P ++ (T ++ S)) ∧ T.length = 1 + V.length ∧ Stb.Sorted lessE T ∧ Stb.Stab lessE (x :: V) T := by
  have hbN : b ≤ N := by rw [← hN]; simp only [List.length_append, List.length_cons]; omega
  have mixed : Try.prog.follows Departure.mixedOrders = true := by kernel_rfl
  replace h := Lib.hid h
  replace kc := Lib.hid kc
  replace hN := Lib.hid hN
  replace ha := Lib.hid ha
  replace hs := Lib.hid hs
  have hma : (m : Int) - (a : Int) = 1 := by omega
  have hmb : m < b := by omega
  have ham : a < m := by omega
  have hsI : Hid (∀ t u y z, m ≤ t → t ≤ u → u < b → (P ++ (x :: (V ++ S)))[t]? = some y → (P ++ (x :: (V ++ S)))[u]? = some z → lessE z y = false) := fun t u y z h1 h2 h3 hy hz => sorted_at (A := P ++ [x]) (V := V) (S := S) hs.out (by have := ha.out; simp; omega) h2 (by have := ha.out; simp; omega) (by simpa using hy) (by simpa using hz)
  replace hm := Lib.hid hm
  replace hb := Lib.hid hb
  obtain ⟨M, hM⟩ : ∃ M, P ++ (x :: (V ++ S)) = M := ⟨_, rfl⟩
  rw [hM] at h hN hsI
  replace hM := Lib.hid hM
  go_enter Try.func104, Try.ntmps104
  go_wp2_with fail
  go_loopw [10, 11] (fun vi vj wr => ∃ (i j : Nat), vi = .int .i64 i ∧ vj = .int .i64 j ∧ m ≤ i ∧ i ≤ j ∧ j ≤ b ∧ Hid (∀ t y, m ≤ t → t < i → M[t]? = some y → lessE y x = true) ∧ Hid (∀ t y, j ≤ t → t < b → M[t]? = some y → lessE y x = false) ∧ Hid (Own w0 wr g cap M)) (fun vi vj _ => (intOf vj).toNat - (intOf vi).toNat)
  case atStart => exact ⟨m, b, rfl, rfl, Nat.le_refl _, by omega, Nat.le_refl _, (by intro t y h1 h2; omega), (by intro t y h1 h2; omega), h.out⟩
  case round =>
    obtain ⟨i, j, rfl, rfl, hmi, hij, hjb, HA, HB, HO⟩ := hrel
    by_cases hlt : i < j
    · have q1 : (i : Int) < (j : Int) := by omega
      obtain ⟨c, hc⟩ : ∃ c, (i + j) / 2 = c := ⟨_, rfl⟩
      have eh : ((i : Int) + (j : Int)) / 2 = (c : Int) := by omega
      have hic : i ≤ c := by omega
      have hcj : c < j := by omega
      clear hc
      go_wp2_with fail
      try simp only [eh]
      clear eh
      have hMN := hN.out
      obtain ⟨y, hy⟩ : ∃ y, M[c]? = some y := ⟨_, List.getElem?_eq_getElem (by omega)⟩
      have hx : M[a]? = some x := by rw [← hM.out, ha.out, List.getElem?_append_right (Nat.le_refl _)]; simp
      obtain ⟨K, hK⟩ : ∃ K, (11 : Nat) = K := ⟨_, rfl⟩
      replace hK := Lib.hid hK
      have lj := fun n os => HO.out.ldc hy n os
      have lp := fun n os => HO.out.ldc hx n os
      have hcg : ∀ n' os', Calls Try.prog gc (#[.agg (encV y).toArray, .agg (encV x).toArray] ++ #[]) (grow (wr.drewN n') os') fun e w' => e = .returned (.int .i64 (cmpE y x)) ∧ ∃ q os'', w' = grow ((grow (wr.drewN n') os').drewN q) os'' := fun n' os' => kc.out y x _
      rw [hK.out] at lj lp
      have aE := Try.isAgg23
      have zE := Try.sizeOf23
      rw [hK.out] at zE
      have q2 : (c : Int) < (N : Int) := by omega
      have q3 : (a : Int) < (N : Int) := by omega
      have q4 : c < N := by omega
      have q5 : a < N := by omega
      replace hy := Lib.hid hy; replace hx := Lib.hid hx
      by_cases hlv : cmpE y x < 0
      · have hlt' : Hid (lessE y x = true) := by have := hlv; rw [cmpE_neg] at this; exact this
        go_quiet_grown (first | (go_at_fn gc; refine Calls.grown_of (hcg _ _)))
        have HO3 := Lib.hid (HO.out.ext (ext_grow wr nq osq))
        obtain ⟨wq, hwq⟩ : ∃ wq, grow (wr.drewN nq) osq = wq := ⟨_, rfl⟩
        rw [hwq] at HO3 ⊢
        clear hwq lj lp hcg
        go_wp2_with fail
        go_roundw
        case rel => exact ⟨c + 1, j, by congr 1, rfl, by omega, by omega, hjb, (by
          intro t z h1 h2 h3
          have := hsI.out t c z y h1 (by omega) (by omega) h3 hy.out
          cases hz : lessE z x with
          | true => rfl
          | false => have e := ordE.ntr _ _ _ this hz; rw [hlt'.out] at e; cases e), HB, HO3⟩
        case measure => simp [intOf]; omega
      · have hlt' : Hid (lessE y x = false) := by
          have := hlv; rw [cmpE_neg] at this; show _ = _; simpa using this
        go_quiet_grown (first | (go_at_fn gc; refine Calls.grown_of (hcg _ _)))
        have HO3 := Lib.hid (HO.out.ext (ext_grow wr nq osq))
        obtain ⟨wq, hwq⟩ : ∃ wq, grow (wr.drewN nq) osq = wq := ⟨_, rfl⟩
        rw [hwq] at HO3 ⊢
        clear hwq lj lp hcg
        go_wp2_with fail
        go_roundw
        case rel => exact ⟨i, c, rfl, rfl, hmi, hic, by omega, HA, (by
          intro t z h1 h2 h3
          have := hsI.out c t y z (by omega) h1 h2 hy.out h3
          exact ordE.ntr _ _ _ this hlt'.out), HO3⟩
        case measure => simp [intOf]; omega
    · obtain rfl : i = j := by omega
      have q1 : ¬ ((i : Int) < (i : Int)) := by omega
      have h0 : Hid (Own w0 wr g cap (P ++ (V.take 0 ++ (x :: (V.drop 0 ++ S))))) := by show Own _ _ _ _ _; simpa [hM.out] using HO.out
      go_wp2_with fail
      go_loopw [13] (fun vk wr2 => ∃ (k q : Nat), vk = .int .i64 k ∧ Hid (k = a + q) ∧ k + 1 ≤ i ∧ Hid (Own w0 wr2 g cap (P ++ (V.take q ++ (x :: (V.drop q ++ S)))))) (fun vk _ => i - (intOf vk).toNat)
      case atStart => exact ⟨a, 0, rfl, rfl, by omega, h0.out⟩
      case round =>
        obtain ⟨k, q, rfl, hkq, hki, HW⟩ := hrel
        by_cases hk : k + 1 < i
        · have q2 : (k : Int) < (i : Int) - 1 := by omega
          have hqV : q < V.length := by have := hkq.out; have := hm.out; have := hb.out; omega
          obtain ⟨y, hy⟩ : ∃ y, V[q]? = some y := ⟨_, List.getElem?_eq_getElem hqV⟩
          have hd : V.drop q = y :: V.drop (q + 1) := by
            rw [List.drop_eq_getElem_cons hqV]
            rw [List.getElem?_eq_getElem hqV] at hy
            injection hy with hy
            rw [hy]
          have htk : V.take (q + 1) = V.take q ++ [y] := by rw [List.take_add_one, hy]; rfl
          have hA : k = (P ++ V.take q).length := by have := hkq.out; have := ha.out; rw [List.length_append, List.length_take]; omega
          have HX : Own w0 wr g cap ((P ++ V.take q) ++ (x :: y :: (V.drop (q + 1) ++ S))) := by have := HW.out; rw [hd] at this; simpa using this
          have hR : Hid (∀ W, Own w0 W g cap ((P ++ V.take q) ++ (y :: x :: (V.drop (q + 1) ++ S))) → Own w0 W g cap (P ++ (V.take (q + 1) ++ (x :: (V.drop (q + 1) ++ S))))) := fun W h => by rw [htk]; simpa using h
          have hLN : ((P ++ V.take q) ++ (x :: y :: (V.drop (q + 1) ++ S))).length = N := by
            have e : V = V.take q ++ (y :: V.drop (q + 1)) := by rw [← hd, List.take_append_drop]
            have e2 := congrArg List.length e
            have e3 := congrArg List.length hM.out
            rw [hN.out] at e3
            rw [← e3]
            simp only [List.length_append, List.length_cons] at e2 ⊢
            omega
          obtain ⟨M2, hM2⟩ : ∃ M2, (P ++ V.take q) ++ (x :: y :: (V.drop (q + 1) ++ S)) = M2 := ⟨_, rfl⟩
          have gx : M2[k]? = some x := by rw [← hM2, hA, List.getElem?_append_right (Nat.le_refl _)]; simp
          have gl : M2[k + 1]? = some y := by rw [← hM2, hA, List.getElem?_append_right (by omega)]; simp
          have hsw : (M2.set k y).set (k + 1) x = (P ++ V.take q) ++ (y :: x :: (V.drop (q + 1) ++ S)) := by rw [← hM2, hA]; exact swap_at2 _ _ _ _
          rw [hM2] at HX hLN
          have HMd : Own w0 wr.drew g cap M2 := HX.drewN 1
          have lx := HMd.ld gx
          have ly := HMd.ld gl
          have s1 := HMd.st (i := k) (by omega) y
          have HM2 := HMd.set (i := k) (by omega) y
          have s2 := HM2.st (i := k + 1) (by rw [List.length_set]; omega) x
          have HM3 := Lib.hid (HM2.set (i := k + 1) (by rw [List.length_set]; omega) x)
          rw [hsw] at HM3
          clear HM2 HMd HX
          obtain ⟨K, hK⟩ : ∃ K, (11 : Nat) = K := ⟨_, rfl⟩
          replace hK := Lib.hid hK
          have aE := Try.isAgg23
          have zE := Try.sizeOf23
          rw [hK.out] at zE
          obtain ⟨cx, hcx⟩ : ∃ c, encV x = c := ⟨_, rfl⟩
          obtain ⟨cy, hcy⟩ : ∃ c, encV y = c := ⟨_, rfl⟩
          have hlx : cx.length = 11 := by rw [← hcx]; rfl
          have hly : cy.length = 11 := by rw [← hcy]; rfl
          rw [hcx] at lx s2 HM3
          rw [hcy] at ly s1 s2 HM3
          obtain ⟨W1, hW1⟩ : ∃ W1, wr.drew.setCells g (k * 11) cy = W1 := ⟨_, rfl⟩
          rw [hW1] at s1 s2 HM3
          obtain ⟨W2, hW2⟩ : ∃ W2, W1.setCells g ((k + 1) * 11) cx = W2 := ⟨_, rfl⟩
          rw [hW2] at s2 HM3
          rw [hK.out] at lx ly s1 s2 hlx hly
          have w1 : IntKind.i64.wrap ((k : Int) + 1) = (k : Int) + 1 := by rw [IntKind.wrap_i64]; omega
          have p0 : (0 : Int) ≤ (k : Int) + 1 := by omega
          have p1 : ((k : Int) + 1).toNat = k + 1 := by omega
          have p2 : (k : Int) + 1 < (N : Int) := by omega
          have p3 : (k : Int) < (N : Int) := by omega
          have hk2 := Lib.hid hk
          have HM4 := Lib.hid (hR.out W2 HM3.out)
          clear hW1 hW2 hcx hcy hsw hy hd htk hA hM2 hR HM3
          go_wp2_with fail
          go_big_region
          clear lx ly s1 s2
          go_wp2_with fail
          exact ⟨⟨k + 1, q + 1, by first | rfl | go_num | (congr 1; omega), by show _ = _; have := hkq.out; omega, by have := hk2.out; omega, HM4⟩, by have := hk2.out; simp [intOf]; omega⟩
        · have q2 : ¬ ((k : Int) < (i : Int) - 1) := by omega
          go_wp2_with fail
          refine bodyPost_ret (results_none rfl _ _ _) rfl ?_
          have e : k + 1 = i := by omega
          have hkq' := hkq.out
          have hm' := hm.out
          have hb' := hb.out
          have hMe := hM.out
          have key : ∀ s y, V[s]? = some y → M[m + s]? = some y := fun s y hs' => by
            have : s < V.length := (List.getElem?_eq_some_iff.1 hs').1
            have hA := ha.out
            rw [← hMe, show P ++ (x :: (V ++ S)) = (P ++ [x]) ++ (V ++ S) by simp, List.getElem?_append_right (by simp; omega), show m + s - (P ++ [x]).length = s by simp; omega, List.getElem?_append_left this]
            exact hs'
          obtain ⟨p1, p2⟩ := Stb.one_left (x := x) (V1 := V.take q) (V2 := V.drop q) ordE (by rw [List.take_append_drop]; exact hs.out) (fun y hy => by
            obtain ⟨s, hs1, rfl⟩ := List.mem_iff_getElem.1 hy
            rw [List.length_take] at hs1
            exact HA.out (m + s) _ (by omega) (by omega) (key s _ (by rw [List.getElem_take]; exact List.getElem?_eq_getElem _))) (fun y hy => by
            obtain ⟨s, hs1, rfl⟩ := List.mem_iff_getElem.1 hy
            rw [List.length_drop] at hs1
            exact HB.out (m + (q + s)) _ (by omega) (by omega) (key (q + s) _ (by rw [List.getElem_drop]; exact List.getElem?_eq_getElem _)))
          refine ⟨rfl, V.take q ++ (x :: V.drop q), by simpa using HW.out, ?_, p1, by rw [List.take_append_drop] at p2; exact p2⟩
          have := congrArg List.length (List.take_append_drop q V)
          simp only [List.length_append, List.length_cons] at this ⊢
          omega
end Go.Proofs.Ytmbjbbflhlndcaa
