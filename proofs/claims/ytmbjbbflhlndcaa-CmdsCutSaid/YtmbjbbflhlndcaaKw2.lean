/-
  CmdsCut: the walk.
-/
import Derived.Test.YtmbjbbflhlndcaaKt2
import Derived.Test.YtmbjbbflhlndcaaKs2
namespace Go.Proofs.Ytmbjbbflhlndcaa
open Go.RowKit BigFrame
set_option linter.unusedVariables false
set_option linter.unusedSimpArgs false

theorem encL_mono (l : List Cm) {i j : Nat} (h : i ≤ j) : (encL (l.take i)).length ≤ (encL (l.take j)).length := by
  have e : l.take i = (l.take j).take i := by rw [List.take_take, Nat.min_eq_left h]
  rw [e]
  exact encL_take_le _ _
/-- What is read of commands' bytes that are cut. -/
theorem cut_read {l Y : List Cm} {K : Nat} (hp : ∀ c ∈ l, plainC c = true) (h64 : ∀ c ∈ l, Cm64 c) (hK : K ≤ (encL l).length) (h : decL ((encL l).take K).length ((encL l).take K) = some Y) : ∃ j, j ≤ l.length ∧ Y = l.take j ∧ (encL (l.take j)).length = K := by
  obtain ⟨q1, q2, q3⟩ := decL_some _ h
  have e : encL Y ++ (encL l).drop K = encL l := by rw [q3]; exact List.take_append_drop _ _
  have d1 := decL_app q1 q2 (encL l).length ((encL l).drop K) (by rw [e]; exact Nat.le_refl _)
  rw [e, decL_enc hp h64] at d1
  cases hd : decL ((encL l).length - Y.length) ((encL l).drop K) with
  | none => rw [hd] at d1; cases d1
  | some m =>
    rw [hd] at d1
    simp only [Option.map_some, Option.some.injEq] at d1
    refine ⟨Y.length, by rw [d1]; simp, by rw [d1]; simp, ?_⟩
    have : l.take Y.length = Y := by rw [d1]; simp
    rw [this, q3, List.length_take]
    omega
theorem cut_yes {l : List Cm} {i : Nat} (hp : ∀ c ∈ l, plainC c = true) (h64 : ∀ c ∈ l, Cm64 c) : decL ((encL l).take (encL (l.take i)).length).length ((encL l).take (encL (l.take i)).length) = some (l.take i) := by
  have e : (encL l).take (encL (l.take i)).length = encL (l.take i) := by
    have : encL l = encL (l.take i) ++ encL (l.drop i) := by rw [← encL_append, List.take_append_drop]
    rw [this]; exact List.take_left
  rw [e]
  exact decL_enc (fun c hc => hp c (List.mem_of_mem_take hc)) (fun c hc => h64 c (List.mem_of_mem_take hc))
theorem elemC : Try.prog.underlying 28 = some (.slice (Try.prog.elem 28)) := by kernel_rfl
theorem sizeOfC (w : World) : (sizeOf (Try.prog.elem 28)).run Try.prog w = .ok 16 w := by kernel_rfl
theorem slice_hiC {A : Option Addr} {O : List Cm} {c j : Nat} (hj : j ≤ O.length) (hc : O.length ≤ c) :
    ∃ A', (∀ w : World, (Instr.sliceAt 28 (.slice A O.length c) none (some (.int .i64 j)) none).run Try.prog w = .ok (.slice A' j c) w) ∧ ∀ w, Rc w A O → Rc w A' (O.take j) := by
  obtain ⟨A', nT, h1, h2, h3, h4⟩ := slice_hiG 28 16 (enc := encC) elemC sizeOfC (A := A) (O := O) (n := O.length) (c := c) (j := j) rfl hj hc
  have e : nT = j := by rw [h1.out, List.length_take]; omega
  subst e
  exact ⟨A', h3, h4⟩

set_option maxRecDepth 100000 in
set_option maxHeartbeats 4000000 in
theorem cut24 {w : World} {A1 : Option Addr} {l : List Cm} (h1 : Rc w A1 l) (h64 : ∀ c ∈ l, Cm64 c) (c1 : Nat) (hl : l.length ≤ c1 ∧ c1 ≤ maxLen) (hsz : l.length ≤ 1100000000000) (x : Int) (hx : 0 ≤ x ∧ x ≤ 65535) :
    Calls Try.prog 6 #[.slice A1 l.length c1, .int .u16 x] w (RetB w true) := by
  replace h1 := Lib.hid h1; replace h64 := Lib.hid h64
  have hml : l.length ≤ 9223372036854775807 := by omega
  obtain ⟨x0, x1⟩ := hx
  go_enter Try.func6, Try.ntmps6
  go_wp2_with fail
  refine (awake24 _).mono ?_
  rintro e1 w1 ⟨rfl, y1⟩
  have L1 := Lib.hid (h1.out.ext y1); have X1 := Lib.hid y1
  clear y1
  go_wp2_with fail
  refine (pWriteAny L1.out h64.out hsz c1).mono ?_
  rintro e2 w2 ⟨A3, c3, V, r3, rfl, R3, k3, y2, D3⟩
  have L2 := Lib.hid (L1.out.ext y2); have X2 := Lib.hid (X1.out.trans y2)
  replace R3 := Lib.hid R3; replace D3 := Lib.hid D3; replace k3 := Lib.hid k3
  clear y2 L1 X1
  by_cases hbl : 100 < l.length
  · have d1 : decide ((100 : Int) < (l.length : Int)) = true := decide_eq_true (by omega)
    go_wp2_with fail
    go_ret
    exact ⟨rfl, X2.out⟩
  have d1 : decide ((100 : Int) < (l.length : Int)) = false := decide_eq_false (by omega)
  rcases D3.out with ⟨p, hV, rfl⟩ | ⟨p, hV, rfl⟩
  case inr =>
    clear p hV D3
    go_wp2_with fail
    go_ret
    exact ⟨rfl, X2.out⟩
  have hp : Hid (∀ c ∈ l, plainC c = true) := by show ∀ c ∈ l, _; simpa [List.all_eq_true] using p
  have lV : V.length ≤ 12000 := by have := k3.out.2.2; omega
  have ll : l.length ≤ 100 := by omega
  obtain ⟨K, hK⟩ : ∃ K : Nat, x % ((V.length : Int) + 1) = K := ⟨(x % ((V.length : Int) + 1)).toNat, by have := Int.emod_nonneg x (show ((V.length : Int) + 1) ≠ 0 by omega); omega⟩
  have hKl : K ≤ V.length := by have := Int.emod_lt_of_pos x (show (0 : Int) < (V.length : Int) + 1 by omega); omega
  obtain ⟨A4, hA4, hs4⟩ := slice_hiS R3.out hKl k3.out.1
  have hKt : Hid ((V.take K).length = K) := by show _ = _; rw [List.length_take]; omega
  replace hV := Lib.hid hV
  clear p D3 hbl
  go_wp2_with fail
  have kR := pReadAny (hs4 w2 R3.out) (by rw [hKt.out]; omega) c3 (by rw [hKt.out]; have := k3.out.1; omega) k3.out.2.1
  rw [hKt.out] at kR
  refine kR.mono ?_
  rintro e4 w4 ⟨A5, c5, Y, r5, rfl, R5, y4, P5, D5⟩
  have L4 := Lib.hid (L2.out.ext y4); have X4 := Lib.hid (X2.out.trans y4)
  replace R5 := Lib.hid R5; replace P5 := Lib.hid P5
  have D5b : Hid (∀ i, i ≤ l.length → K ≤ (encL (l.take i)).length → (i = 0 ∨ (encL (l.take (i - 1))).length < K) → ((encL (l.take i)).length = K ∧ r5 = 0 ∧ Y = l.take i) ∨ ((encL (l.take i)).length ≠ K ∧ r5 = 240)) := by
    intro i hi hn hprev
    rw [hV.out] at D5 hKl
    rcases D5 with ⟨hd, _, h0⟩ | ⟨hd, _, h0⟩
    · obtain ⟨j, hj, hY, hjK⟩ := cut_read hp.out h64.out hKl hd
      by_cases he : (encL (l.take i)).length = K
      · left
        refine ⟨he, h0, ?_⟩
        have := cut_yes (i := i) hp.out h64.out
        rw [he, hd] at this
        exact Option.some.inj this
      · exfalso
        rcases hprev with h0 | hlt
        · subst h0; simp [encL] at hn he; omega
        · by_cases hji : j ≤ i - 1
          · have := encL_mono l hji; omega
          · have := encL_mono l (show i ≤ j by omega); omega
    · right
      refine ⟨fun he => ?_, h0⟩
      have := cut_yes (i := i) hp.out h64.out
      rw [he, hd] at this
      cases this
  have P5l : Y.length ≤ 100000 := by have := P5.out.2.2; rw [hKt.out] at this; omega
  rw [hK]
  replace hA4 := Lib.hid hA4
  replace hK := Lib.hid hK
  clear y4 L2 X2 R3 D5 kR hs4 x0 x1
  go_wp2_with fail
  go_loopw [11, 12] (fun v i wr => ∃ j : Nat, j ≤ l.length ∧ i = .int .i64 j ∧ v = .int .i64 ((encL (l.take j)).length : Nat) ∧ Hid (j = 0 ∨ (encL (l.take (j - 1))).length < K) ∧ Hid (Ext w4 wr)) (fun _ i _ => l.length - (intOf i).toNat)
  case atStart => exact ⟨0, Nat.zero_le _, rfl, rfl, .inl rfl, Ext.refl w4⟩
  case round =>
    obtain ⟨j, hj, rfl, rfl, HP, HX⟩ := hrel
    have lj : (encL (l.take j)).length ≤ 12000 := by
      have := encL_le (l := l.take j) (fun c hc => h64.out c (List.mem_of_mem_take hc))
      have h2 : (l.take j).length ≤ l.length := by rw [List.length_take]; omega
      omega
    by_cases hgo : j < l.length ∧ (encL (l.take j)).length < K
    · obtain ⟨hlt, hnk⟩ := hgo
      obtain ⟨b0, off, c, rfl, hc, hr⟩ := Rw.range L4.out HX.out hlt
      have hcm := List.mem_of_getElem? hc.out
      have q3 : (j : Int) < (l.length : Int) := by omega
      have q4 : (0 : Int) ≤ (j : Int) := by omega
      have E : Hid ((encL (l.take (j + 1))).length = (encL (l.take j)).length + (encM c).length) := by show _ = _; rw [take_snoc hc.out, encL_snoc, List.length_append]
      have hnk2 : Hid (j + 1 = 0 ∨ (encL (l.take (j + 1 - 1))).length < K) := .inr hnk
      have lM := (encM_len (hp.out c hcm) (h64.out c hcm)).1
      obtain ⟨n, hn⟩ : ∃ n, (encL (l.take j)).length = n := ⟨_, rfl⟩
      rw [hn] at E lj hnk ⊢
      have q5 : decide ((n : Int) < (K : Int)) = true := decide_eq_true (by omega)
      have hlt2 := Lib.hid hlt
      clear hn HP
      go_wp2_with (first | (refine load_midG (by rfl) 27 _ rfl b0 (off + j * 16) (by rfl) (encC c) _ hr.out Try.underlying27 rfl sizeC ?_))
      refine (pMPutNilY _ c (h64.out c hcm) (hp.out c hcm)).mono ?_
      rintro e7 w7 ⟨A7, c7, rfl, _, y7, _⟩
      obtain ⟨m, hm⟩ : ∃ m, (encM c).length = m := ⟨_, rfl⟩
      rw [hm] at E lM ⊢
      have HX7 := Lib.hid (HX.out.trans y7)
      clear hm y7 HX hr hc hcm
      go_wp2_with fail
      go_roundw
      case rel => exact ⟨j + 1, hlt2.out, by go_num, by rw [E.out]; go_num, hnk2, HX7.out⟩
      case measure => have := hlt2.out; simp [intOf]; omega
    · have hKn : K ≤ (encL (l.take j)).length := by
        by_cases hjl : j < l.length
        · omega
        · obtain rfl : j = l.length := by omega
          rw [List.take_length, ← hV.out]; exact hKl
      have D6 := D5b.out j hj hKn HP.out
      obtain ⟨A6, hA6, hs6⟩ := slice_hiC (A := A1) hj hl.1
      have L9 := Lib.hid (hs6 wr (L4.out.ext HX.out)); have R9 := Lib.hid (R5.out.ext HX.out); have X9 := Lib.hid (X4.out.trans HX.out)
      have htl : Hid ((l.take j).length = j) := by show _ = _; rw [List.length_take]; omega
      obtain ⟨n, hn⟩ : ∃ n, (encL (l.take j)).length = n := ⟨_, rfl⟩
      rw [hn] at D6 lj hKn hgo ⊢
      have q5 : decide ((n : Int) < (K : Int)) = false := decide_eq_false (by omega)
      have q5b : decide (n < K) = false := decide_eq_false (by omega)
      replace hn := Lib.hid hn
      have hfin : ∀ W, Ext wr W → Y = l.take j → Calls Try.prog 29 #[.slice A5 Y.length c5, .slice A6 j c1] W (RetB W true) := fun W hW hY => by
        have k := rSameC (R9.out.ext hW) (L9.out.ext hW) (by omega) c5 c1 (by rw [htl.out]; omega)
        rw [htl.out, decide_eq_true hY] at k
        exact k
      replace hfin := Lib.hid hfin
      clear HP HX L4 R5 X4 hs6 D5b
      by_cases hjl : j < l.length
      · have q6 : (j : Int) < (l.length : Int) := by omega
        rcases D6 with ⟨h1', rfl, hY⟩ | ⟨h1', rfl⟩
        · subst h1'
          replace hY := Lib.hid hY
          clear hgo hKn
          go_wp2_with fail
          refine (hfin.out wr (Ext.refl wr) hY.out).mono ?_
          rintro e8 w8 ⟨rfl, y8⟩
          go_wp2_with fail
          go_ret
          exact ⟨rfl, X9.out.trans y8⟩
        · have q7 : ((n : Int) == (K : Int)) = false := by rw [beq_eq_false_iff_ne]; omega
          have q7b : (n == K) = false := by rw [beq_eq_false_iff_ne]; omega
          clear hgo hKn
          go_wp2_with fail
          go_ret
          exact ⟨rfl, X9.out⟩
      · have q6 : decide ((j : Int) < (l.length : Int)) = false := decide_eq_false (by omega)
        have q6b : decide (j < l.length) = false := decide_eq_false hjl
        rcases D6 with ⟨h1', rfl, hY⟩ | ⟨h1', rfl⟩
        · subst h1'
          replace hY := Lib.hid hY
          clear hgo hKn
          go_wp2_with fail
          refine (hfin.out wr (Ext.refl wr) hY.out).mono ?_
          rintro e8 w8 ⟨rfl, y8⟩
          go_wp2_with fail
          go_ret
          exact ⟨rfl, X9.out.trans y8⟩
        · have q7 : ((n : Int) == (K : Int)) = false := by rw [beq_eq_false_iff_ne]; omega
          have q7b : (n == K) = false := by rw [beq_eq_false_iff_ne]; omega
          clear hgo hKn
          go_wp2_with fail
          go_ret
          exact ⟨rfl, X9.out⟩
end Go.Proofs.Ytmbjbbflhlndcaa
