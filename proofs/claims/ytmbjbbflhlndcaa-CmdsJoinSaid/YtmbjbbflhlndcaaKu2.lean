/-
  CmdsJoin: the walk.
-/
import Derived.Test.YtmbjbbflhlndcaaKt2
import Derived.Test.YtmbjbbflhlndcaaKs2
namespace Go.Proofs.Ytmbjbbflhlndcaa
open Go.RowKit BigFrame
set_option linter.unusedVariables false
set_option linter.unusedSimpArgs false

set_option maxRecDepth 100000 in
set_option maxHeartbeats 4000000 in
theorem join24 {w : World} {A1 A2 A3 : Option Addr} {k l : List Cm} {b : List UInt8} (h1 : Rc w A1 k) (h2 : Rc w A2 l) (h3 : Rb w A3 b) (hk64 : ∀ c ∈ k, Cm64 c) (hl64 : ∀ c ∈ l, Cm64 c) (c1 c2 c3 : Nat) (hk : k.length ≤ c1 ∧ c1 ≤ maxLen) (hl : l.length ≤ c2 ∧ c2 ≤ maxLen) (hb : b.length ≤ c3 ∧ c3 ≤ maxLen) :
    Calls Try.prog 5 #[.slice A1 k.length c1, .slice A2 l.length c2, .slice A3 b.length c3] w (RetB w true) := by
  replace h1 := Lib.hid h1; replace h2 := Lib.hid h2; replace h3 := Lib.hid h3; replace hk64 := Lib.hid hk64; replace hl64 := Lib.hid hl64
  have hmk : k.length ≤ 9223372036854775807 := by unfold maxLen at hk; omega
  have hml : l.length ≤ 9223372036854775807 := by unfold maxLen at hl; omega
  have hmb : b.length ≤ 9223372036854775807 := by unfold maxLen at hb; omega
  by_cases hbk : 100 < k.length
  · have d1 : decide ((100 : Int) < (k.length : Int)) = true := decide_eq_true (by omega)
    go_enter Try.func5, Try.ntmps5
    go_wp2_with fail
    refine (awake24 _).mono ?_
    rintro e1 w1 ⟨rfl, x1⟩
    go_wp2_with fail
    go_ret
    exact ⟨rfl, x1⟩
  have d1 : decide ((100 : Int) < (k.length : Int)) = false := decide_eq_false (by omega)
  by_cases hbl : 100 < l.length
  · have d2 : decide ((100 : Int) < (l.length : Int)) = true := decide_eq_true (by omega)
    go_enter Try.func5, Try.ntmps5
    go_wp2_with fail
    refine (awake24 _).mono ?_
    rintro e1 w1 ⟨rfl, x1⟩
    go_wp2_with fail
    go_ret
    exact ⟨rfl, x1⟩
  have d2 : decide ((100 : Int) < (l.length : Int)) = false := decide_eq_false (by omega)
  by_cases hbb : 3000 < b.length
  · have d3 : decide ((3000 : Int) < (b.length : Int)) = true := decide_eq_true (by omega)
    go_enter Try.func5, Try.ntmps5
    go_wp2_with fail
    refine (awake24 _).mono ?_
    rintro e1 w1 ⟨rfl, x1⟩
    go_wp2_with fail
    go_ret
    exact ⟨rfl, x1⟩
  have d3 : decide ((3000 : Int) < (b.length : Int)) = false := decide_eq_false (by omega)
  have lk : k.length ≤ 100 := by omega
  have ll : l.length ≤ 100 := by omega
  have lb : b.length ≤ 3000 := by omega
  clear hbk hbl hbb
  go_enter Try.func5, Try.ntmps5
  go_wp2_with fail
  refine (awake24 _).mono ?_
  rintro e1 w1 ⟨rfl, x1⟩
  have K1 := Lib.hid (h1.out.ext x1); have L1 := Lib.hid (h2.out.ext x1); have B1 := Lib.hid (h3.out.ext x1); have X1 := Lib.hid x1
  clear x1
  go_wp2_with fail
  refine (pWriteAny K1.out hk64.out (by omega) c1).mono ?_
  rintro e2 w2 ⟨A4, c4, U, r4, rfl, R4, k4, x2, D4⟩
  have K2 := Lib.hid (K1.out.ext x2); have L2 := Lib.hid (L1.out.ext x2); have B2 := Lib.hid (B1.out.ext x2); have X2 := Lib.hid (X1.out.trans x2)
  replace R4 := Lib.hid R4; replace D4 := Lib.hid D4; replace k4 := Lib.hid k4
  clear x2 K1 L1 B1 X1
  go_wp2_with fail
  refine (pWriteAny L2.out hl64.out (by omega) c2).mono ?_
  rintro e3 w3 ⟨A5, c5, V, r5, rfl, R5, k5, x3, D5⟩
  have K3 := Lib.hid (K2.out.ext x3); have L3 := Lib.hid (L2.out.ext x3); have B3 := Lib.hid (B2.out.ext x3); have X3 := Lib.hid (X2.out.trans x3); have U3 := Lib.hid (R4.out.ext x3)
  replace R5 := Lib.hid R5; replace D5 := Lib.hid D5; replace k5 := Lib.hid k5
  clear x3 K2 L2 B2 X2 R4
  go_wp2_with (first | (at_builtin; refine appG elC w3 _ ((Ext.refl w3).alloc (.cells #[] 27)) _ _ (by rfl) (by rfl) 0 _ [] k (by rfl) (own_emptyG w3 _ (Nat.le_refl _)) rfl A1 c1 k.length (by rfl) rfl (K3.out.alloc _) (by simp; omega) ?_; intro A6 c6 w6 o6 x6; rw [Nat.zero_add] at o6; rw [Nat.zero_add]; rw [List.nil_append] at o6) | (at_builtin; refine appG elC w3 _ x6 _ _ (by rfl) (by rfl) k.length _ k l (by rfl) o6 rfl A2 c2 l.length (by rfl) rfl (L3.out.ext x6) (by omega) ?_; intro A7 c7 w7 o7 x7))
  have ekl : k.length + l.length = (k ++ l).length := by rw [List.length_append]
  rw [ekl] at o7 ⊢
  have J7 := Lib.hid (Rw.own elC o7)
  have K7 := Lib.hid (K3.out.ext x7); have L7 := Lib.hid (L3.out.ext x7); have B7 := Lib.hid (B3.out.ext x7); have X7 := Lib.hid (X3.out.trans x7); have U7 := Lib.hid (U3.out.ext x7); have V7 := Lib.hid (R5.out.ext x7)
  clear o7 x6 x7 K3 L3 B3 X3 U3 R5
  have h64 : Hid (∀ c ∈ k ++ l, Cm64 c) := fun c hc => by
    rcases List.mem_append.1 hc with h | h
    · exact hk64.out c h
    · exact hl64.out c h
  refine (pWriteAny J7.out h64.out (by rw [List.length_append]; omega) c7).mono ?_
  rintro e8 w8 ⟨A8, c8, T, r8, rfl, R8, k8, x8, D8⟩
  have K8 := Lib.hid (K7.out.ext x8); have B8 := Lib.hid (B7.out.ext x8); have X8 := Lib.hid (X7.out.trans x8); have U8 := Lib.hid (U7.out.ext x8); have V8 := Lib.hid (V7.out.ext x8)
  replace R8 := Lib.hid R8; replace D8 := Lib.hid D8; replace k8 := Lib.hid k8
  clear x8 K7 L7 B7 X7 U7 V7 J7 ekl
  have hall : Hid ((k ++ l).all plainC = (k.all plainC && l.all plainC)) := List.all_append
  rcases D4.out with ⟨p4, hU, rfl⟩ | ⟨p4, hU, rfl⟩
  case inr =>
    have hT : T = [] ∧ r8 = 240 := by
      rcases D8.out with ⟨h, _⟩ | ⟨_, h, h'⟩
      · rw [hall.out, p4] at h; cases h
      · exact ⟨h, h'⟩
    obtain ⟨rfl, rfl⟩ := hT
    clear p4 hU D4 D5 D8 hall
    go_wp2_with fail
    go_ret
    exact ⟨rfl, X8.out⟩
  rcases D5.out with ⟨p5, hV, rfl⟩ | ⟨p5, hV, rfl⟩
  case inr =>
    have hT : T = [] ∧ r8 = 240 := by
      rcases D8.out with ⟨h, _⟩ | ⟨_, h, h'⟩
      · rw [hall.out, p4, p5] at h; cases h
      · exact ⟨h, h'⟩
    obtain ⟨rfl, rfl⟩ := hT
    clear p4 p5 hU hV D4 D5 D8 hall
    go_wp2_with fail
    go_ret
    exact ⟨rfl, X8.out⟩
  have hT : T = encL (k ++ l) ∧ r8 = 0 := by
    rcases D8.out with ⟨_, h, h'⟩ | ⟨h, _⟩
    · exact ⟨h, h'⟩
    · rw [hall.out, p4, p5] at h; cases h
  obtain ⟨hT, rfl⟩ := hT
  have hTT : Hid (T = U ++ V) := by show _ = _; rw [hT, hU, hV, encL_append]
  have lU : U.length ≤ 12000 := by have := k4.out.2.2; omega
  have lV : V.length ≤ 12000 := by have := k5.out.2.2; omega
  have pk : Hid (∀ c ∈ k, plainC c = true) := by show ∀ c ∈ k, _; simpa [List.all_eq_true] using p4
  clear hT hU hV p4 p5 D4 D5 D8 hall
  by_cases hk0 : 0 < k.length
  · have d4 : decide ((k.length : Int) > 0) = true := decide_eq_true (by omega)
    have d4b : decide (0 < k.length) = true := decide_eq_true hk0
    obtain ⟨b0, off, c, rfl, hc, hr⟩ := Rw.range K8.out (Ext.refl w8) hk0
    have hcm := List.mem_of_getElem? hc.out
    have hc64 := hk64.out c hcm
    have hcp := pk.out c hcm
    have hr0 : Hid (w8.rangeAt b0 off (encC c)) := by have := hr.out; rw [Nat.zero_mul, Nat.add_zero] at this; exact this
    have hb0 : b0 < w8.heap.size := Rw.blk K8.out (by intro e; subst e; simp at hk0) rfl
    have q0 : (0 : Int) < (k.length : Int) := by omega
    clear hr
    go_wp2_with (first | (refine load_midG (by rfl) 27 _ rfl b0 off (by rfl) (encC c) _ hr0.out Try.underlying27 rfl sizeC ?_))
    refine (pMPutNilY _ c hc64 hcp).mono ?_
    rintro e9 w9 ⟨A9, c9, rfl, _, x9, o9⟩
    have lM := (encM_len hcp hc64).1
    have hdc := decC_enc hcp hc64 b
    obtain ⟨M, hM⟩ : ∃ M, encM c = M := ⟨_, rfl⟩
    rw [hM] at o9 lM hdc ⊢
    have O9 := Lib.hid o9; have B9 := Lib.hid (B8.out.ext x9); have Y9 := Lib.hid x9
    clear hM o9 x9
    go_wp2_with (first | (at_builtin; refine appG elB w8 _ Y9.out _ _ (by rfl) (by rfl) M.length _ M b (by rfl) O9.out rfl A3 c3 b.length (by rfl) rfl B9.out (by omega) ?_; intro A10 c10 w10 o10 x10))
    have emb : M.length + b.length = (M ++ b).length := by rw [List.length_append]
    rw [emb] at o10 ⊢
    have hcap := own_cap o10
    refine (pMTake (Rw.own elB o10) (by rw [List.length_append]; omega) c10 hcap.1 hcap.2).mono ?_
    rintro e11 w11 ⟨x11, hr11⟩
    rw [hdc] at hr11
    obtain ⟨A12, c12, rfl, r12, _, _, _⟩ := hr11
    have Z11 := Lib.hid ((show Ext w8 w10 from x10).trans x11)
    obtain ⟨C, hC⟩ : ∃ C, encC c = C := ⟨_, rfl⟩
    have sC2 : Hid ((Try.prog.info? 27).map (·.size) = some C.toArray.size) := by show _ = _; rw [← hC]; exact sizeC
    have sC3 : Hid ((Try.prog.info? 27).map (·.size) = some C.length) := by show _ = _; rw [← hC]; exact sizeC
    have oC : Hid (C.toArray.all (·.oneCell') = true) := by show _ = _; rw [← hC]; exact cells_okC c
    have zC : Hid ((encC cm0).toArray.size = C.toArray.size) := by show _ = _; rw [← hC]; rfl
    have hq : Hid (∀ w, (Op.equalIn 10000 27 (.agg C.toArray) (.agg C.toArray)).run Try.prog w = .ok true w) := by
      show ∀ w, _
      intro w; have := eqInC c c w; rw [decide_eq_true rfl, hC] at this; exact this
    rw [hC] at hr0 ⊢
    have r12' := Lib.hid (r12.alloc (.cells C.toArray 27))
    clear hC hdc O9 B9 Y9 o10 x10 x11 hcap emb r12
    have q12 : Hid (((Bx (w11.alloc (.cells C.toArray 27)) w11.heap.size C 27 ∧ (w11.alloc (.cells C.toArray 27)).rangeAt b0 off C) ∧ Rb (w11.alloc (.cells C.toArray 27)) A12 b ∧ Rb (w11.alloc (.cells C.toArray 27)) A3 b) ∧ Ext w8 (w11.alloc (.cells C.toArray 27))) :=
      ⟨⟨⟨Bx.new _ _ _, fun j v hv => (World.cell?_of_block (w := w8) ((Z11.out.alloc (.cells C.toArray 27)).block b0 hb0)).trans (hr0.out j v hv)⟩, r12'.out, B8.out.ext (Z11.out.alloc _)⟩, Z11.out.alloc _⟩
    clear r12' Z11
    go_wp2_with (first | (refine store_newE rfl 27 _ _ (by rfl) w11 w11.heap.size rfl (encC cm0).toArray C.toArray 27 (by rfl) (by rfl) (by rfl) sC2.out zC.out oC.out ?_))
    obtain ⟨W, hW⟩ : ∃ W, w11.alloc (.cells C.toArray 27) = W := ⟨_, rfl⟩
    obtain ⟨g, hg⟩ : ∃ g, w11.heap.size = g := ⟨_, rfl⟩
    rw [hW, hg] at q12
    rw [hW, hg]
    clear hW hg
    have HS : Hid ((Bx (W.drewN 1) g C 27 ∧ (W.drewN 1).rangeAt b0 off C) ∧ Rb (W.drewN 1) A12 b ∧ Rb (W.drewN 1) A3 b) := ⟨⟨q12.out.1.1.1.drewN 1, fun j v hv => q12.out.1.1.2 j v hv⟩, q12.out.1.2.1.drewN 1, q12.out.1.2.2.drewN 1⟩
    have Y13 := Lib.hid (q12.out.2.drewN 1)
    have hgC := eqGuardC
    clear q12
    refine held_start (S := fun W => (Bx W g C 27 ∧ W.rangeAt b0 off C) ∧ Rb W A12 b ∧ Rb W A3 b) 21 rfl (by kernel_rfl) ?_
    have hW3 : { W with drawn := W.drawn + 1 } = W.drewN 1 := rfl
    rw [hW3]
    clear hW3
    refine held_move (i := 0) rfl (by kernel_rfl) (by kernel_rfl) (by kernel_rfl) _ rfl rfl HS.out _ (by simp [Act.put]; rfl) ?_
    refine held_takeV (i := 1) rfl (by kernel_rfl) (by kernel_rfl) (by kernel_rfl) (.bool true) rfl (fun w _ => by go_simp) HS.out _ (by simp [Act.put]; rfl) ?_
    refine held_move (i := 2) rfl (by kernel_rfl) (by kernel_rfl) (by kernel_rfl) _ rfl rfl HS.out _ (by simp [Act.put]; rfl) ?_
    refine held_move (i := 3) rfl (by kernel_rfl) (by kernel_rfl) (by kernel_rfl) _ rfl rfl HS.out _ (by simp [Act.put]; rfl) ?_
    refine held_takeV (i := 4) rfl (by kernel_rfl) (by kernel_rfl) (by kernel_rfl) (.bool true) rfl (fun w _ => by go_simp) HS.out _ (by simp [Act.put]; rfl) ?_
    refine held_takeV (i := 5) rfl (by kernel_rfl) (by kernel_rfl) (by kernel_rfl) (.bool true) rfl (fun w _ => by go_simp) HS.out _ (by simp [Act.put]; rfl) ?_
    refine held_move (i := 6) rfl (by kernel_rfl) (by kernel_rfl) (by kernel_rfl) _ rfl rfl HS.out _ (by simp [Act.put]; rfl) ?_
    refine held_boxV (i := 7) rfl (by kernel_rfl) (by kernel_rfl) (by kernel_rfl) rfl 27 _ rfl _ rfl C 27 (fun w h => h.1.1) _ Try.underlying27 rfl sC2.out HS.out _ (by simp [Act.put]; rfl) ?_
    refine held_move (i := 8) rfl (by kernel_rfl) (by kernel_rfl) (by kernel_rfl) _ rfl rfl HS.out _ (by simp [Act.put]; rfl) ?_
    refine held_takeV (i := 9) rfl (by kernel_rfl) (by kernel_rfl) (by kernel_rfl) (.pointer (some ⟨b0, off, none⟩)) rfl (fun w _ => by go_simp) HS.out _ (by simp [Act.put]; rfl) ?_
    refine held_takeV (i := 10) rfl (by kernel_rfl) (by kernel_rfl) (by kernel_rfl) (.agg C.toArray) rfl (fun w h => run_load_mid 27 _ rfl b0 off rfl C _ h.1.2 Try.underlying27 rfl sC3.out) HS.out _ (by simp [Act.put]; rfl) ?_
    refine held_takeV (i := 11) rfl (by kernel_rfl) (by kernel_rfl) (by kernel_rfl) (.bool true) rfl (fun w h => run_eql_op 27 _ _ _ rfl C.toArray C.toArray rfl rfl hgC _ hq.out) HS.out _ (by simp [Act.put]; rfl) ?_
    refine held_takeV (i := 12) rfl (by kernel_rfl) (by kernel_rfl) (by kernel_rfl) (.bool true) rfl (fun w _ => by go_simp) HS.out _ (by simp [Act.put]; rfl) ?_
    refine held_move (i := 13) rfl (by kernel_rfl) (by kernel_rfl) (by kernel_rfl) _ rfl rfl HS.out _ (by simp [Act.put]; rfl) ?_
    refine held_move (i := 14) rfl (by kernel_rfl) (by kernel_rfl) (by kernel_rfl) _ rfl rfl HS.out _ (by simp [Act.put]; rfl) ?_
    refine held_takeV (i := 15) rfl (by kernel_rfl) (by kernel_rfl) (by kernel_rfl) (.string ⟨b.toArray⟩) rfl (fun w h => by have := run_str h.2.1 c12; go_simp) HS.out _ (by simp [Act.put]; rfl) ?_
    refine held_move (i := 16) rfl (by kernel_rfl) (by kernel_rfl) (by kernel_rfl) _ rfl rfl HS.out _ (by simp [Act.put]; rfl) ?_
    refine held_takeV (i := 17) rfl (by kernel_rfl) (by kernel_rfl) (by kernel_rfl) (.string ⟨b.toArray⟩) rfl (fun w h => by have := run_str h.2.2 c3; go_simp) HS.out _ (by simp [Act.put]; rfl) ?_
    refine held_takeV (i := 18) rfl (by kernel_rfl) (by kernel_rfl) (by kernel_rfl) (.bool true) rfl (fun w _ => by go_simp) HS.out _ (by simp [Act.put]; rfl) ?_
    refine held_takeV (i := 19) rfl (by kernel_rfl) (by kernel_rfl) (by kernel_rfl) (.bool true) rfl (fun w _ => by go_simp) HS.out _ (by simp [Act.put]; rfl) ?_
    refine held_assign (i := 20) rfl (by kernel_rfl) (by kernel_rfl) (by kernel_rfl) _ rfl rfl HS.out _ (by simp [Act.put]; rfl) ?_
    refine held_done (by kernel_rfl) ?_ _
    have s1 := run_str (R8.out.ext Y13.out) c8; have s2 := run_str (U8.out.ext Y13.out) c4; have s3 := run_str (V8.out.ext Y13.out) c5
    have hadd := fun W => run_string_add_lists (P := Try.prog) (w := W) U V (by omega) (by omega)
    have hT : (T == U ++ V) = true := beq_iff_eq.2 hTT.out
    have X14 := Lib.hid (X8.out.trans Y13.out)
    clear HS Y13 sC2 sC3 oC zC hq hr0
    go_wp2
    go_ret
    exact ⟨rfl, X14.out⟩
  · have d4 : decide ((k.length : Int) > 0) = false := decide_eq_false (by omega)
    have d4b : decide (0 < k.length) = false := decide_eq_false hk0
    have s1 := run_str R8.out c8; have s2 := run_str U8.out c4; have s3 := run_str V8.out c5
    have hadd := fun W => run_string_add_lists (P := Try.prog) (w := W) U V (by omega) (by omega)
    have hT : (T == U ++ V) = true := beq_iff_eq.2 hTT.out
    go_wp2
    go_ret
    exact ⟨rfl, X8.out⟩
end Go.Proofs.Ytmbjbbflhlndcaa
