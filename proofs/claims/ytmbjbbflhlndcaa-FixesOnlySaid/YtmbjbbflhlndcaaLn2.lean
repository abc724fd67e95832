/-
  slices.symMergeCmpFunc on a row of events.
-/
import Derived.Test.YtmbjbbflhlndcaaLk2
import Derived.Test.YtmbjbbflhlndcaaLm2
import Derived.Deep.Cut
namespace Go.Proofs.Ytmbjbbflhlndcaa
open Go.RowKit BigFrame Go.Sort
set_option linter.unusedVariables false
set_option linter.unusedSimpArgs false

/-- Where the search for the cut ends: plain facts. -/
theorem cut_facts {U V : List Ev} (sU : Stb.Sorted lessE U) (sV : Stb.Sorted lessE V) {s e : Nat} (hs : s ≤ U.length) (he : e ≤ V.length)
    (h1 : s = 0 ∨ e = V.length ∨ ∃ l f, U[s - 1]? = some l ∧ V[e]? = some f ∧ 0 < s ∧ lessE f l = false)
    (h2 : s = U.length ∨ e = 0 ∨ ∃ f l, U[s]? = some f ∧ V[e - 1]? = some l ∧ 0 < e ∧ lessE l f = true) :
    (∀ x ∈ U.take s, ∀ y ∈ V.drop e, lessE y x = false) ∧ (∀ x ∈ U.drop s, ∀ y ∈ V.take e, lessE y x = true) := by
  have sU' : Stb.Sorted lessE (U.take s ++ U.drop s) := by rw [List.take_append_drop]; exact sU
  have sV' : Stb.Sorted lessE (V.take e ++ V.drop e) := by rw [List.take_append_drop]; exact sV
  obtain ⟨u1, u2, _⟩ := Stb.sorted_app.1 sU'
  obtain ⟨v1, v2, _⟩ := Stb.sorted_app.1 sV'
  constructor
  · refine Stb.cut_one ordE u1 v2 ?_
    rcases h1 with rfl | rfl | ⟨l, f, hl, hf, h0, h⟩
    · exact .inl (by simp)
    · exact .inr (.inl (by simp))
    · refine .inr (.inr ⟨l, f, ?_, ?_, h⟩)
      · rw [List.getLast?_eq_getElem?, List.length_take, Nat.min_eq_left hs, List.getElem?_take_of_lt (by omega)]; exact hl
      · rw [List.head?_drop]; exact hf
  · refine Stb.cut_two ordE u2 v1 ?_
    rcases h2 with rfl | rfl | ⟨f, l, hf, hl, h0, h⟩
    · exact .inl (by simp)
    · exact .inr (.inl (by simp))
    · refine .inr (.inr ⟨f, l, ?_, ?_, h⟩)
      · rw [List.head?_drop]; exact hf
      · rw [List.getLast?_eq_getElem?, List.length_take, Nat.min_eq_left he, List.getElem?_take_of_lt (by omega)]; exact hl

/-- What symMerge does. -/
def Merges (gc : Nat) (w0 : World) (g cap : Nat) (w : World) (P U V S : List Ev) (a m b N : Nat) : Prop :=
  Calls Try.prog 104 #[.slice (some ⟨g, 0, none⟩) N cap, .int .i64 a, .int .i64 m, .int .i64 b, .func (.func gc) #[] #[]] w fun e w' => e = .returned (.tuple #[]) ∧ ∃ T, Own w0 w' g cap (P ++ (T ++ S)) ∧ T.length = U.length + V.length ∧ Stb.Sorted lessE T ∧ Stb.Stab lessE (U ++ V) T

set_option maxRecDepth 100000 in
set_option maxHeartbeats 8000000 in
theorem merge_step0 (gc : Nat) (eg : ∀ args w, (callFunc gc args).run Try.prog w = .ok (.enter gc args) w) (kc : ∀ x l w, Calls Try.prog gc (#[.agg (encV x).toArray, .agg (encV l).toArray] ++ #[]) w fun e w' => e = .returned (.int .i64 (cmpE x l)) ∧ ∃ n os, w' = grow (w.drewN n) os) {w0 : World} {g cap N : Nat} (hl : N ≤ 1000000) (k : Nat)
    (ih : ∀ (w : World) (P U V S : List Ev) (a m b : Nat), Own w0 w g cap (P ++ (U ++ (V ++ S))) → (P ++ (U ++ (V ++ S))).length = N → a = P.length → m = a + U.length → b = m + V.length → 1 ≤ U.length → 1 ≤ V.length → Stb.Sorted lessE U → Stb.Sorted lessE V → U.length + V.length ≤ k → Merges gc w0 g cap w P U V S a m b N)
    {w : World} {P U V S : List Ev} (h : Own w0 w g cap (P ++ (U ++ (V ++ S)))) (a m b : Nat) (hN : (P ++ (U ++ (V ++ S))).length = N) (ha : a = P.length) (hm : m = a + U.length) (hb : b = m + V.length) (hU : 2 ≤ U.length) (hV : 2 ≤ V.length) (sU : Stb.Sorted lessE U) (sV : Stb.Sorted lessE V) (hk : U.length + V.length ≤ k + 1) : Merges gc w0 g cap w P U V S a m b N := by
  unfold Merges
  have hbN : b ≤ N := by rw [← hN]; simp only [List.length_append]; omega
  have mixed : Try.prog.follows Departure.mixedOrders = true := by kernel_rfl
  have hma : ((m : Int) - (a : Int) == 1) = false := by rw [beq_eq_false_iff_ne]; omega
  have hbm : ((b : Int) - (m : Int) == 1) = false := by rw [beq_eq_false_iff_ne]; omega
  have ham : a < m := by omega
  have hmb : m < b := by omega
  obtain ⟨mid, hmid⟩ : ∃ c, (a + b) / 2 = c := ⟨_, rfl⟩
  have eh : Hid (((a : Int) + (b : Int)) / 2 = (mid : Int)) := by show _ = _; omega
  have am : a < mid := by omega
  have mb : mid < b := by omega
  have hm1 : 2 * mid ≤ a + b := by omega
  have hm2 : a + b ≤ 2 * mid + 1 := by omega
  replace hmid := Lib.hid hmid
  obtain ⟨p, hp⟩ : ∃ p, mid + m = p + 1 := ⟨mid + m - 1, by omega⟩
  -- from where the search goes, and how far
  obtain ⟨lo, hi, hlo⟩ : ∃ lo hi : Nat, (mid < m ∧ lo + b = mid + m ∧ hi = mid) ∨ (m ≤ mid ∧ lo = a ∧ hi = m) := by
    by_cases hc : mid < m
    · exact ⟨mid + m - b, mid, .inl ⟨hc, by omega, rfl⟩⟩
    · exact ⟨a, m, .inr ⟨by omega, rfl, rfl⟩⟩
  have l1 : a ≤ lo := by omega
  have l2 : lo ≤ hi := by omega
  have l3 : hi ≤ m := by omega
  have l4 : hi ≤ mid := by omega
  have l5 : p + 1 ≤ lo + b := by omega
  have l6 : m ≤ p + 1 - hi := by omega
  replace h := Lib.hid h
  replace kc := Lib.hid kc
  replace hN := Lib.hid hN
  replace ha := Lib.hid ha
  replace sU := Lib.hid sU
  replace sV := Lib.hid sV
  replace ih := Lib.hid ih
  replace hm := Lib.hid hm
  replace hb := Lib.hid hb
  replace hk := Lib.hid hk
  obtain ⟨M, hM⟩ : ∃ M, P ++ (U ++ (V ++ S)) = M := ⟨_, rfl⟩
  rw [hM] at h hN
  replace hM := Lib.hid hM
  go_enter Try.func104, Try.ntmps104
  go_upto_region 25 with fail
  simp only [eh.out]
  have hp2 : Hid ((mid : Int) + (m : Int) = (p : Int) + 1) := by show _ = _; omega
  go_upto_region 26 with fail
  simp only [hp2.out]
  go_upto_if 140 with fail
  go_cut [19, 20, 21] from 138 (fun vn vs vr wc => vn = .int .i64 ((p : Int) + 1) ∧ vs = .int .i64 lo ∧ vr = .int .i64 hi ∧ wc = w)
  case first =>
    by_cases hc : mid < m
    · have q1 : (mid : Int) < (m : Int) := by omega
      go_wp2_with fail
      go_meet
      case rel => exact ⟨rfl, by congr 1; omega, by congr 1; omega, rfl⟩
    · have q1 : ¬ ((mid : Int) < (m : Int)) := by omega
      go_wp2_with fail
      go_meet
      case rel => exact ⟨rfl, by congr 1; omega, by congr 1; omega, rfl⟩
  case rest =>
    obtain ⟨rfl, rfl, rfl, rfl⟩ := hcut
    have hwp : IntKind.i64.wrap (p : Int) = (p : Int) := by rw [IntKind.wrap_i64]; omega
    go_wp2_with fail
    go_loopw [20, 21] (fun vs vr wr => ∃ (s r : Nat), vs = .int .i64 s ∧ vr = .int .i64 r ∧ lo ≤ s ∧ s ≤ r ∧ r ≤ hi ∧ Hid (s = lo ∨ ∃ l f t q, lo < s ∧ s = t + 1 ∧ q + t = p ∧ M[t]? = some l ∧ M[q]? = some f ∧ lessE f l = false) ∧ Hid (r = hi ∨ ∃ f l q, r < hi ∧ q + r = p ∧ M[r]? = some f ∧ M[q]? = some l ∧ lessE l f = true) ∧ Hid (Own w0 wr g cap M)) (fun vs vr _ => (intOf vr).toNat - (intOf vs).toNat)
    case atStart => exact ⟨lo, hi, rfl, rfl, Nat.le_refl _, l2, Nat.le_refl _, .inl rfl, .inl rfl, h.out⟩
    case round =>
      obtain ⟨s, r, rfl, rfl, hls, hsr, hrh, HA, HB, HO⟩ := hrel
      by_cases hlt : s < r
      · have q1 : (s : Int) < (r : Int) := by omega
        obtain ⟨c, hc⟩ : ∃ c, (s + r) / 2 = c := ⟨_, rfl⟩
        have ec : Hid (((s : Int) + (r : Int)) / 2 = (c : Int)) := by show _ = _; omega
        have hsc : s ≤ c := by omega
        have hcr : c < r := by omega
        clear hc
        go_wp2_with fail
        try simp only [ec.out]
        obtain ⟨q, hq⟩ : ∃ q, q + c = p := ⟨p - c, by omega⟩
        have hMN := hN.out
        obtain ⟨z, hz⟩ : ∃ z, M[c]? = some z := ⟨_, List.getElem?_eq_getElem (by omega)⟩
        obtain ⟨x, hx⟩ : ∃ x, M[q]? = some x := ⟨_, List.getElem?_eq_getElem (by omega)⟩
        obtain ⟨K, hK⟩ : ∃ K, (11 : Nat) = K := ⟨_, rfl⟩
        replace hK := Lib.hid hK
        have lj := fun n os => HO.out.ldc hx n os
        have lp := fun n os => HO.out.ldc hz n os
        have hcg : ∀ n' os', Calls Try.prog gc (#[.agg (encV x).toArray, .agg (encV z).toArray] ++ #[]) (grow (wr.drewN n') os') fun e w' => e = .returned (.int .i64 (cmpE x z)) ∧ ∃ q os'', w' = grow ((grow (wr.drewN n') os').drewN q) os'' := fun n' os' => kc.out x z _
        rw [hK.out] at lj lp
        have aE := Try.isAgg23
        have zE := Try.sizeOf23
        rw [hK.out] at zE
        have hpc : (p : Int) - (c : Int) = (q : Int) := by omega
        have w1 : IntKind.i64.wrap (q : Int) = (q : Int) := by rw [IntKind.wrap_i64]; omega
        have p2 : (q : Int) < (N : Int) := by omega
        have q2 : (c : Int) < (N : Int) := by omega
        have q4 : c < N := by omega
        have q5 : q < N := by omega
        replace hz := Lib.hid hz; replace hx := Lib.hid hx
        replace hq := Lib.hid hq
        by_cases hlv : cmpE x z < 0
        · have hlt' : Hid (lessE x z = true) := by have := hlv; rw [cmpE_neg] at this; exact this
          have hd : (!decide (cmpE x z < 0)) = false := by simp [hlv]
          clear hlv
          go_quiet_grown (first | (go_at_fn gc; refine Calls.grown_of (hcg _ _)))
          have HO3 := Lib.hid (HO.out.ext (ext_grow wr nq osq))
          obtain ⟨wq, hwq⟩ : ∃ wq, grow (wr.drewN nq) osq = wq := ⟨_, rfl⟩
          rw [hwq] at HO3 ⊢
          clear hwq lj lp hcg hpc
          go_wp2_with fail
          go_roundw
          case rel => exact ⟨s, c, rfl, rfl, hls, hsc, by omega, HA, .inr ⟨z, x, q, by omega, hq.out, hz.out, hx.out, hlt'.out⟩, HO3⟩
          case measure => simp [intOf]; omega
        · have hlt' : Hid (lessE x z = false) := by
            have := hlv; rw [cmpE_neg] at this; show _ = _; simpa using this
          have hd : (!decide (cmpE x z < 0)) = true := by simp [hlv]
          clear hlv
          go_quiet_grown (first | (go_at_fn gc; refine Calls.grown_of (hcg _ _)))
          have HO3 := Lib.hid (HO.out.ext (ext_grow wr nq osq))
          obtain ⟨wq, hwq⟩ : ∃ wq, grow (wr.drewN nq) osq = wq := ⟨_, rfl⟩
          rw [hwq] at HO3 ⊢
          clear hwq lj lp hcg hpc
          go_wp2_with fail
          go_roundw
          case rel => exact ⟨c + 1, r, by congr 1, rfl, by omega, by omega, hrh, .inr ⟨z, x, c, q, by omega, rfl, hq.out, hz.out, hx.out, hlt'.out⟩, HB, HO3⟩
          case measure => simp [intOf]; omega
      · obtain rfl : s = r := by omega
        have q1 : ¬ ((s : Int) < (s : Int)) := by omega
        obtain ⟨en, hen⟩ : ∃ en, en + s = p + 1 := ⟨p + 1 - s, by omega⟩
        -- plain facts
        have hPl := ha.out
        have ham2 := hm.out
        have hbm2 := hb.out
        have keyU : ∀ t, t < U.length → M[a + t]? = U[t]? := fun t ht => by rw [← hM.out, List.getElem?_append_right (by omega), List.getElem?_append_left (by omega)]; congr 1; omega
        have keyV : ∀ t, t < V.length → M[m + t]? = V[t]? := fun t ht => by rw [← hM.out, List.getElem?_append_right (by omega), List.getElem?_append_right (by omega), List.getElem?_append_left (by omega)]; congr 1; omega
        obtain ⟨cf1, cf2⟩ := cut_facts sU.out sV.out (s := s - a) (e := en - m) (by omega) (by omega) (by
          rcases HA.out with e | ⟨l, f, t, q, e0, e1, e2, e3, e4, e5⟩
          · rcases hlo with ⟨c1, c2, c3⟩ | ⟨c1, c2, c3⟩
            · exact .inr (.inl (by omega))
            · exact .inl (by omega)
          · refine .inr (.inr ⟨l, f, ?_, ?_, by omega, e5⟩)
            · have := keyU (s - a - 1) (by omega)
              rw [← this, show a + (s - a - 1) = t by omega]; exact e3
            · have := keyV (en - m) (by omega)
              rw [← this, show m + (en - m) = q by omega]; exact e4) (by
          rcases HB.out with e | ⟨f, l, q, e0, e2, e3, e4, e5⟩
          · rcases hlo with ⟨c1, c2, c3⟩ | ⟨c1, c2, c3⟩
            · exact .inr (.inl (by omega))
            · exact .inl (by omega)
          · refine .inr (.inr ⟨f, l, ?_, ?_, by omega, e5⟩)
            · have := keyU (s - a) (by omega)
              rw [← this, show a + (s - a) = s by omega]; exact e3
            · have := keyV (en - m - 1) (by omega)
              rw [← this, show m + (en - m - 1) = q by omega]; exact e4)
        have HW : Hid (Own w0 wr g cap (P ++ (U.take (s - a) ++ (U.drop (s - a) ++ (V.take (en - m) ++ (V.drop (en - m) ++ S)))))) := by
          have := HO.out
          rw [← hM.out] at this
          show Own _ _ _ _ _
          rw [← List.append_assoc (U.take _), List.take_append_drop, ← List.append_assoc (V.take _), List.take_append_drop]
          exact this
        obtain ⟨U1, hU1⟩ : ∃ U1, U.take (s - a) = U1 := ⟨_, rfl⟩
        obtain ⟨U2, hU2⟩ : ∃ U2, U.drop (s - a) = U2 := ⟨_, rfl⟩
        obtain ⟨V1, hV1⟩ : ∃ V1, V.take (en - m) = V1 := ⟨_, rfl⟩
        obtain ⟨V2, hV2⟩ : ∃ V2, V.drop (en - m) = V2 := ⟨_, rfl⟩
        have eU : U = U1 ++ U2 := by rw [← hU1, ← hU2, List.take_append_drop]
        have eV : V = V1 ++ V2 := by rw [← hV1, ← hV2, List.take_append_drop]
        have lU1 : U1.length = s - a := by rw [← hU1, List.length_take]; omega
        have lU2 : U2.length = m - s := by rw [← hU2, List.length_drop]; omega
        have lV1 : V1.length = mid - s := by rw [← hV1, List.length_take]; omega
        have lV2 : V2.length = b - en := by rw [← hV2, List.length_drop]; omega
        rw [hU1, hU2, hV1, hV2] at HW
        rw [hU1, hV2] at cf1
        rw [hU2, hV1] at cf2
        have hsm : s ≤ m := by omega
        have hsmid : s ≤ mid := by omega
        have has : a ≤ s := by omega
        have hme : m ≤ en := by omega
        have hmide : mid ≤ en := by omega
        have heb : en ≤ b := by omega
        have hNN : Hid ((P ++ (U1 ++ (U2 ++ (V1 ++ (V2 ++ S))))).length = N) := by
          show _ = _
          rw [← hN.out, ← hM.out, eU, eV]; simp
        have sU' := sU.out
        have sV' := sV.out
        rw [eU] at sU'
        rw [eV] at sV'
        obtain ⟨su1, su2, _⟩ := Stb.sorted_app.1 sU'
        obtain ⟨sv1, sv2, _⟩ := Stb.sorted_app.1 sV'
        have FIN : Hid (∀ w' T1 T2, Own w0 w' g cap (P ++ (T1 ++ (T2 ++ S))) → T1.length = U1.length + V1.length → T2.length = U2.length + V2.length → Stb.Sorted lessE T1 → Stb.Stab lessE (U1 ++ V1) T1 → Stb.Sorted lessE T2 → Stb.Stab lessE (U2 ++ V2) T2 → ∃ T, Own w0 w' g cap (P ++ (T ++ S)) ∧ T.length = U.length + V.length ∧ Stb.Sorted lessE T ∧ Stb.Stab lessE (U ++ V) T) := fun w' T1 T2 ho h1 h2 a1 a2 b1 b2 => by
          obtain ⟨r1, r2⟩ := Stb.merge_step ordE sU' sV' cf1 cf2 a1 a2 b1 b2
          refine ⟨T1 ++ T2, by simpa using ho, ?_, r1, by rw [eU, eV]; exact r2⟩
          have e1 := congrArg List.length eU
          have e2 := congrArg List.length eV
          rw [List.length_append] at e1 e2 ⊢
          omega
        have R1 : Hid (s < m → m < en → Calls Try.prog 118 #[.slice (some ⟨g, 0, none⟩) N cap, .int .i64 s, .int .i64 m, .int .i64 en, .func (.func gc) #[] #[]] wr fun e w' => e = .returned (.tuple #[]) ∧ Own w0 w' g cap (P ++ (U1 ++ (V1 ++ (U2 ++ (V2 ++ S)))))) := fun h1 h2 => by
          have k := rotate0 (P := P ++ U1) (u := U2) (v := V1) (S := V2 ++ S) (w0 := w0) (w := wr) (g := g) (cap := cap) (by simpa using HW.out) (.func (.func gc) #[] #[]) s m en N (by rw [← hNN.out]; simp) hl (by rw [List.length_append]; omega) (by rw [List.length_append]; omega) (by rw [List.length_append]; omega) (by omega) (by omega)
          refine k.mono ?_
          rintro e w' ⟨rfl, ho⟩
          exact ⟨rfl, by simpa using ho⟩
        have R2 : Hid (∀ w', Own w0 w' g cap (P ++ (U1 ++ (V1 ++ (U2 ++ (V2 ++ S))))) → a < s → s < mid → Merges gc w0 g cap w' P U1 V1 (U2 ++ (V2 ++ S)) a s mid N) := fun w' ho h1 h2 => ih.out w' P U1 V1 (U2 ++ (V2 ++ S)) a s mid ho (by rw [← hNN.out]; simp; omega) hPl (by omega) (by omega) (by omega) (by omega) su1 sv1 (by have := hk.out; omega)
        have R3 : Hid (∀ w' T1, T1.length = U1.length + V1.length → Own w0 w' g cap (P ++ (T1 ++ (U2 ++ (V2 ++ S)))) → mid < en → en < b → Merges gc w0 g cap w' (P ++ T1) U2 V2 S mid en b N) := fun w' T1 hT ho h1 h2 => ih.out w' (P ++ T1) U2 V2 S mid en b (by simpa using ho) (by rw [← hNN.out]; simp only [List.length_append]; omega) (by rw [List.length_append]; omega) (by omega) (by omega) (by omega) (by omega) su2 sv2 (by have := hk.out; omega)
        have N1 : Hid (¬ (s < m ∧ m < en) → Own w0 wr g cap (P ++ (U1 ++ (V1 ++ (U2 ++ (V2 ++ S)))))) := fun h1 => by
          have : U2 = [] ∨ V1 = [] := by
            by_cases c1 : s < m
            · exact .inr (List.eq_nil_of_length_eq_zero (by omega))
            · exact .inl (List.eq_nil_of_length_eq_zero (by omega))
          rcases this with rfl | rfl
          · simpa using HW.out
          · simpa using HW.out
        have N2 : Hid (¬ (a < s ∧ s < mid) → Stb.Sorted lessE (U1 ++ V1)) := fun h1 => by
          have : U1 = [] ∨ V1 = [] := by
            by_cases c1 : a < s
            · exact .inr (List.eq_nil_of_length_eq_zero (by omega))
            · exact .inl (List.eq_nil_of_length_eq_zero (by omega))
          rcases this with rfl | rfl
          · simpa using sv1
          · simpa using su1
        have N3 : Hid (¬ (mid < en ∧ en < b) → Stb.Sorted lessE (U2 ++ V2)) := fun h1 => by
          have : U2 = [] ∨ V2 = [] := by
            by_cases c1 : mid < en
            · exact .inr (List.eq_nil_of_length_eq_zero (by omega))
            · exact .inl (List.eq_nil_of_length_eq_zero (by omega))
          rcases this with rfl | rfl
          · simpa using sv2
          · simpa using su2
        have hpe : (p : Int) + 1 - (s : Int) = (en : Int) := by omega
        have w1 : IntKind.i64.wrap (en : Int) = (en : Int) := by rw [IntKind.wrap_i64]; omega
        clear HW cf1 cf2 sU' sV' su1 su2 sv1 sv2 eU eV lU1 lU2 lV1 lV2 hU1 hU2 hV1 hV2 keyU keyV hPl ham2 hbm2 HA HB HO ih hk sU sV hM hN h
        go_upto_region 39 with fail
        obtain ⟨B1, hB1⟩ : ∃ B1, decide (s < m ∧ m < en) = B1 := ⟨_, rfl⟩
        replace hB1 := Lib.hid hB1
        go_cut [24, 185] from 178 (fun ve vc wc => ve = .int .i64 en ∧ vc = .bool B1 ∧ wc = wr)
        case first =>
          by_cases h1 : s < m
          · by_cases h2 : m < en
            · have q2 : (s : Int) < (m : Int) := by omega
              have q3 : (m : Int) < (en : Int) := by omega
              go_wp2_with fail
              go_meet
              case rel => exact ⟨rfl, by rw [← hB1.out]; simp [h1, h2], rfl⟩
            · have q2 : (s : Int) < (m : Int) := by omega
              have q3 : ¬ ((m : Int) < (en : Int)) := by omega
              go_wp2_with fail
              go_meet
              case rel => exact ⟨rfl, by rw [← hB1.out]; simp [h1, h2], rfl⟩
          · have q2 : ¬ ((s : Int) < (m : Int)) := by omega
            go_wp2_with fail
            go_meet
            case rel => exact ⟨rfl, by rw [← hB1.out]; simp [h1], rfl⟩
        case rest =>
          obtain ⟨rfl, rfl, rfl⟩ := hcut
          clear q1 hpe w1
          go_upto_if 185 with fail
          go_cut [] from 178 (fun wc' => Hid (Own w0 wc' g cap (P ++ (U1 ++ (V1 ++ (U2 ++ (V2 ++ S)))))))
          case first =>
            cases hbv : B1 with
            | true =>
              have hcd : s < m ∧ m < en := of_decide_eq_true (hB1.out.trans hbv)
              subst hbv
              go_wp2_with fail
              refine (R1.out hcd.1 hcd.2).mono ?_
              rintro e w' ⟨rfl, ho⟩
              replace ho := Lib.hid ho
              go_wp2_with fail
              go_meet
              case rel => exact ho.out
            | false =>
              have hcd : ¬ (s < m ∧ m < en) := of_decide_eq_false (hB1.out.trans hbv)
              replace hcd := Lib.hid hcd
              subst hbv
              go_wp2_with fail
              go_meet
              case rel => exact N1.out hcd.out
          case rest =>
            have HW2 := hcut
            clear hcut R1 N1 hB1
            obtain ⟨W2, hW2⟩ : ∃ W2, wc = W2 := ⟨_, rfl⟩
            rw [hW2] at HW2 ⊢
            clear hW2
            obtain ⟨B2, hB2⟩ : ∃ B2, decide (a < s ∧ s < mid) = B2 := ⟨_, rfl⟩
            replace hB2 := Lib.hid hB2
            have K2 := Lib.hid (R2.out W2 HW2.out)
            go_upto_region 41 with fail
            go_cut [199] from 192 (fun vc wc' => vc = .bool B2 ∧ wc' = W2)
            case first =>
              by_cases h1 : a < s
              · by_cases h2 : s < mid
                · have q2 : (a : Int) < (s : Int) := by omega
                  have q3 : (s : Int) < (mid : Int) := by omega
                  go_wp2_with fail
                  go_meet
                  case rel => exact ⟨by rw [← hB2.out]; simp [h1, h2], rfl⟩
                · have q2 : (a : Int) < (s : Int) := by omega
                  have q3 : ¬ ((s : Int) < (mid : Int)) := by omega
                  go_wp2_with fail
                  go_meet
                  case rel => exact ⟨by rw [← hB2.out]; simp [h1, h2], rfl⟩
              · have q2 : ¬ ((a : Int) < (s : Int)) := by omega
                go_wp2_with fail
                go_meet
                case rel => exact ⟨by rw [← hB2.out]; simp [h1], rfl⟩
            case rest =>
              obtain ⟨rfl, rfl⟩ := hcut
              go_upto_if 199 with fail
              go_cut [] from 192 (fun wc' => ∃ T1, Hid (Own w0 wc' g cap (P ++ (T1 ++ (U2 ++ (V2 ++ S))))) ∧ Hid (T1.length = U1.length + V1.length) ∧ Hid (Stb.Sorted lessE T1) ∧ Hid (Stb.Stab lessE (U1 ++ V1) T1))
              case first =>
                cases hbv : B2 with
                | true =>
                  have hcd : a < s ∧ s < mid := of_decide_eq_true (hB2.out.trans hbv)
                  subst hbv
                  go_wp2_with fail
                  refine (K2.out hcd.1 hcd.2).mono ?_
                  rintro e w' ⟨rfl, T1, ho, t1, t2, t3⟩
                  replace ho := Lib.hid ho; replace t1 := Lib.hid t1; replace t2 := Lib.hid t2; replace t3 := Lib.hid t3
                  go_wp2_with fail
                  go_meet
                  case rel => exact ⟨T1, ho, t1, t2, t3⟩
                | false =>
                  have hcd : ¬ (a < s ∧ s < mid) := of_decide_eq_false (hB2.out.trans hbv)
                  replace hcd := Lib.hid hcd
                  subst hbv
                  go_wp2_with fail
                  go_meet
                  case rel => exact ⟨U1 ++ V1, by show Own _ _ _ _ _; simpa using HW2.out, by show _ = _; simp, N2.out hcd.out, Stb.Stab.refl _⟩
              case rest =>
                obtain ⟨T1, HW3, t1, t2, t3⟩ := hcut
                clear HW2 K2 R2 N2 hB2
                obtain ⟨W3, hW3⟩ : ∃ W3, wc = W3 := ⟨_, rfl⟩
                rw [hW3] at HW3 ⊢
                clear hW3
                obtain ⟨B3, hB3⟩ : ∃ B3, decide (mid < en ∧ en < b) = B3 := ⟨_, rfl⟩
                replace hB3 := Lib.hid hB3
                have K3 := Lib.hid (R3.out W3 T1 t1.out HW3.out)
                go_upto_region 43 with fail
                go_cut [213] from 206 (fun vc wc' => vc = .bool B3 ∧ wc' = W3)
                case first =>
                  by_cases h1 : mid < en
                  · by_cases h2 : en < b
                    · have q2 : (mid : Int) < (en : Int) := by omega
                      have q3 : (en : Int) < (b : Int) := by omega
                      go_wp2_with fail
                      go_meet
                      case rel => exact ⟨by rw [← hB3.out]; simp [h1, h2], rfl⟩
                    · have q2 : (mid : Int) < (en : Int) := by omega
                      have q3 : ¬ ((en : Int) < (b : Int)) := by omega
                      go_wp2_with fail
                      go_meet
                      case rel => exact ⟨by rw [← hB3.out]; simp [h1, h2], rfl⟩
                  · have q2 : ¬ ((mid : Int) < (en : Int)) := by omega
                    go_wp2_with fail
                    go_meet
                    case rel => exact ⟨by rw [← hB3.out]; simp [h1], rfl⟩
                case rest =>
                  obtain ⟨rfl, rfl⟩ := hcut
                  cases hbv : B3 with
                  | true =>
                    have hcd : mid < en ∧ en < b := of_decide_eq_true (hB3.out.trans hbv)
                    subst hbv
                    go_wp2_with fail
                    refine (K3.out hcd.1 hcd.2).mono ?_
                    rintro e w' ⟨rfl, T2, ho, r1, r2, r3⟩
                    replace ho := Lib.hid ho; replace r1 := Lib.hid r1; replace r2 := Lib.hid r2; replace r3 := Lib.hid r3
                    clear K3
                    go_wp2_with fail
                    go_end0
                    exact ⟨rfl, FIN.out _ T1 T2 (by have := ho.out; simpa using this) t1.out r1.out t2.out t3.out r2.out r3.out⟩
                  | false =>
                    have hcd : ¬ (mid < en ∧ en < b) := of_decide_eq_false (hB3.out.trans hbv)
                    replace hcd := Lib.hid hcd
                    subst hbv
                    go_wp2_with fail
                    go_end0
                    exact ⟨rfl, FIN.out _ T1 (U2 ++ V2) (by have := HW3.out; simpa using this) t1.out (by simp) t2.out t3.out (N3.out hcd.out) (Stb.Stab.refl _)⟩
/-- symMerge. -/
theorem merge_all (gc : Nat) (eg : ∀ args w, (callFunc gc args).run Try.prog w = .ok (.enter gc args) w) (kc : ∀ x l w, Calls Try.prog gc (#[.agg (encV x).toArray, .agg (encV l).toArray] ++ #[]) w fun e w' => e = .returned (.int .i64 (cmpE x l)) ∧ ∃ n os, w' = grow (w.drewN n) os) {w0 : World} {g cap N : Nat} (hl : N ≤ 1000000) (k : Nat) : ∀ (w : World) (P U V S : List Ev) (a m b : Nat), Own w0 w g cap (P ++ (U ++ (V ++ S))) → (P ++ (U ++ (V ++ S))).length = N → a = P.length → m = a + U.length → b = m + V.length → 1 ≤ U.length → 1 ≤ V.length → Stb.Sorted lessE U → Stb.Sorted lessE V → U.length + V.length ≤ k → Merges gc w0 g cap w P U V S a m b N := by
  induction k with
  | zero => intro w P U V S a m b _ _ _ _ _ h1 h2 _ _ h3; omega
  | succ k ih =>
    intro w P U V S a m b h hN ha hm hb hU hV sU sV hk
    by_cases h1 : U.length = 1
    · obtain ⟨x, rfl⟩ : ∃ x, U = [x] := List.length_eq_one_iff.1 h1
      exact merge_left gc eg kc (P := P) (V := V) (S := S) (x := x) h a m b N hN hl ha (by simpa using hm) hb hV sV
    · by_cases h2 : V.length = 1
      · obtain ⟨y, rfl⟩ : ∃ y, V = [y] := List.length_eq_one_iff.1 h2
        exact merge_right gc eg kc (P := P) (U := U) (S := S) (y := y) h a m b N hN hl ha hm (by simpa using hb) (by omega) sU
      · exact merge_step0 gc eg kc hl k ih h a m b hN ha hm hb (by omega) (by omega) sU sV hk
theorem pMerge {w0 w : World} {g cap : Nat} {P U V S : List Ev} (h : Own w0 w g cap (P ++ (U ++ (V ++ S)))) (a m b N : Nat) (hN : (P ++ (U ++ (V ++ S))).length = N) (hl : N ≤ 1000000) (ha : a = P.length) (hm : m = a + U.length) (hb : b = m + V.length) (hU : 1 ≤ U.length) (hV : 1 ≤ V.length) (sU : Stb.Sorted lessE U) (sV : Stb.Sorted lessE V) : Merges 71 w0 g cap w P U V S a m b N :=
  merge_all 71 (enters_of Try.func71 (by kernel_rfl) rfl) (fun x l w => pCompare x l w) hl (U.length + V.length) w P U V S a m b h hN ha hm hb hU hV sU sV (Nat.le_refl _)
end Go.Proofs.Ytmbjbbflhlndcaa
