/-
  lumperlaw08.EventSizes: its walk.
-/
import Derived.Test.YtmbjbbflhlndcaaLs2
namespace Go.Proofs.Ytmbjbbflhlndcaa
open Go.RowKit BigFrame
set_option linter.unusedVariables false
set_option linter.unusedSimpArgs false

theorem later_int {P : Program} {f : FuncId} {args : Array Value} {w0 : World} {e : Later w0} {n : Int} (h : Calls P f args e.1 (RetI e.1 n)) : Calls P f args e.1 fun x w'' => x = .returned (.int .i64 n) ∧ ∃ e' : Later w0, w'' = e'.1 :=
  h.mono fun _ w'' ⟨he, hx⟩ => ⟨he, ⟨w'', e.2.trans hx⟩, rfl⟩
theorem pSizeI {n : Int} {k : Nat} (h0 : 0 ≤ n) (h64 : B64 n) (hk : (one n.toNat).length = k) (w : World) : Calls Try.prog 43 #[.int .i64 n] w (RetI w (k : Int)) := by
  subst hk
  refine (pSize n h0 h64.2 w).mono ?_
  rintro e w' ⟨rfl, rfl⟩
  exact ⟨rfl, Ext.refl _⟩
theorem encZ_sum (l : List Int) : (encZ l).length = (l.map fun n => (one n.toNat).length).sum := by
  unfold encZ
  induction l with
  | nil => rfl
  | cons n l ih =>
    simp only [List.map_cons, List.sum_cons]
    rw [← ih]
    simp [encNs]

set_option maxRecDepth 100000 in
set_option maxHeartbeats 4000000 in
theorem sizes08 (e : Ev) (h64 : Ev64 e) (w : World) : Calls Try.prog 13 #[.agg (encV e).toArray] w (RetB w true) := by
  have B0 := Lib.hid (Bx.new w (encV e) 23)
  have X0 := Lib.hid ((Ext.refl w).alloc (.cells (encV e).toArray 23))
  go_enter Try.func13, Try.ntmps13
  go_wp2_with fail
  refine (awake08 _).mono ?_
  rintro e1 w1 ⟨rfl, y1⟩
  have B1 := Lib.hid (B0.out.ext y1); have X1 := Lib.hid (X0.out.trans y1)
  clear y1 B0 X0
  go_wp2_with (first | (refine load_box (by rfl) 23 _ rfl w.heap.size rfl _ _ B1.out _ Try.underlying23 rfl sizeV ?_))
  cases hf : fairB e with
  | false =>
    refine (pEPutN (A := none) (b := []) Rw.nil (by simp) 0 e h64 hf).mono ?_
    rintro e2 w2 ⟨A2, c2, rfl, _, y2, _⟩
    have X2 := Lib.hid (X1.out.trans y2)
    clear y2 X1 B1 hf
    go_wp2_with fail
    go_ret
    exact ⟨rfl, X2.out⟩
  | true =>
    refine (pEPutY (A := none) (b := []) Rw.nil (by simp) 0 e h64 hf).mono ?_
    rintro e2 w2 ⟨A2, c2, rfl, r2, y2, o2⟩
    rw [List.nil_append] at r2 o2 ⊢
    have X2 := Lib.hid (X1.out.trans y2); have B2 := Lib.hid (B1.out.ext y2)
    obtain ⟨⟨f1, f2⟩, ⟨f3, f4⟩, f5, ⟨f6, f7⟩, ⟨f8, f9, f10, f11, f12, f13, f14⟩, f15, f16⟩ := fairB_iff.1 hf
    obtain ⟨s0, hs0⟩ : ∃ k, (one e.id.toNat).length = k := ⟨_, rfl⟩
    have b0 : s0 ≤ 9 := by rw [← hs0]; exact one_le9 (by omega) h64.id
    have k0 : Hid (∀ W, Calls Try.prog 43 #[.int .i64 e.id] W (RetI W (s0 : Int))) := pSizeI (by omega) h64.id hs0
    have c0 : ∀ q : Later w2, q.1.cell? ⟨w.heap.size, 0, none⟩ = some (.int .i64 e.id) := fun q => (B2.out.ext q.2).cell 0 _ rfl
    obtain ⟨s1, hs1⟩ : ∃ k, (one e.worker.toNat).length = k := ⟨_, rfl⟩
    have b1 : s1 ≤ 9 := by rw [← hs1]; exact one_le9 (by omega) h64.worker
    have k1 : Hid (∀ W, Calls Try.prog 43 #[.int .i64 e.worker] W (RetI W (s1 : Int))) := pSizeI (by omega) h64.worker hs1
    have c1 : ∀ q : Later w2, q.1.cell? ⟨w.heap.size, 1, none⟩ = some (.int .i64 e.worker) := fun q => (B2.out.ext q.2).cell 1 _ rfl
    obtain ⟨s2, hs2⟩ : ∃ k, (one e.at_.toNat).length = k := ⟨_, rfl⟩
    have b2 : s2 ≤ 9 := by rw [← hs2]; exact one_le9 (by omega) h64.at_
    have k2 : Hid (∀ W, Calls Try.prog 43 #[.int .i64 e.at_] W (RetI W (s2 : Int))) := pSizeI (by omega) h64.at_ hs2
    have c2 : ∀ q : Later w2, q.1.cell? ⟨w.heap.size, 2, none⟩ = some (.int .i64 e.at_) := fun q => (B2.out.ext q.2).cell 2 _ rfl
    obtain ⟨s3, hs3⟩ : ∃ k, (one e.kind.toNat).length = k := ⟨_, rfl⟩
    have b3 : s3 ≤ 9 := by rw [← hs3]; exact one_le9 (by omega) h64.kind
    have k3 : Hid (∀ W, Calls Try.prog 43 #[.int .i64 e.kind] W (RetI W (s3 : Int))) := pSizeI (by omega) h64.kind hs3
    have c3 : ∀ q : Later w2, q.1.cell? ⟨w.heap.size, 3, none⟩ = some (.int .i64 e.kind) := fun q => (B2.out.ext q.2).cell 3 _ rfl
    obtain ⟨s4, hs4⟩ : ∃ k, (one e.fr.toNat).length = k := ⟨_, rfl⟩
    have b4 : s4 ≤ 9 := by rw [← hs4]; exact one_le9 (by omega) h64.fr
    have k4 : Hid (∀ W, Calls Try.prog 43 #[.int .i64 e.fr] W (RetI W (s4 : Int))) := pSizeI (by omega) h64.fr hs4
    have c4 : ∀ q : Later w2, q.1.cell? ⟨w.heap.size, 4, none⟩ = some (.int .i64 e.fr) := fun q => (B2.out.ext q.2).cell 4 _ rfl
    obtain ⟨s5, hs5⟩ : ∃ k, (one e.to.toNat).length = k := ⟨_, rfl⟩
    have b5 : s5 ≤ 9 := by rw [← hs5]; exact one_le9 (by omega) h64.to
    have k5 : Hid (∀ W, Calls Try.prog 43 #[.int .i64 e.to] W (RetI W (s5 : Int))) := pSizeI (by omega) h64.to hs5
    have c5 : ∀ q : Later w2, q.1.cell? ⟨w.heap.size, 5, none⟩ = some (.int .i64 e.to) := fun q => (B2.out.ext q.2).cell 5 _ rfl
    obtain ⟨s6, hs6⟩ : ∃ k, (one e.element.toNat).length = k := ⟨_, rfl⟩
    have b6 : s6 ≤ 9 := by rw [← hs6]; exact one_le9 (by omega) h64.element
    have k6 : Hid (∀ W, Calls Try.prog 43 #[.int .i64 e.element] W (RetI W (s6 : Int))) := pSizeI (by omega) h64.element hs6
    have c6 : ∀ q : Later w2, q.1.cell? ⟨w.heap.size, 6, none⟩ = some (.int .i64 e.element) := fun q => (B2.out.ext q.2).cell 6 _ rfl
    obtain ⟨s7, hs7⟩ : ∃ k, (one e.units.toNat).length = k := ⟨_, rfl⟩
    have b7 : s7 ≤ 9 := by rw [← hs7]; exact one_le9 (by omega) h64.units
    have k7 : Hid (∀ W, Calls Try.prog 43 #[.int .i64 e.units] W (RetI W (s7 : Int))) := pSizeI (by omega) h64.units hs7
    have c7 : ∀ q : Later w2, q.1.cell? ⟨w.heap.size, 7, none⟩ = some (.int .i64 e.units) := fun q => (B2.out.ext q.2).cell 7 _ rfl
    obtain ⟨s8, hs8⟩ : ∃ k, (one e.cls.toNat).length = k := ⟨_, rfl⟩
    have b8 : s8 ≤ 9 := by rw [← hs8]; exact one_le9 (by omega) h64.cls
    have k8 : Hid (∀ W, Calls Try.prog 43 #[.int .i64 e.cls] W (RetI W (s8 : Int))) := pSizeI (by omega) h64.cls hs8
    have c8 : ∀ q : Later w2, q.1.cell? ⟨w.heap.size, 8, none⟩ = some (.int .i64 e.cls) := fun q => (B2.out.ext q.2).cell 8 _ rfl
    obtain ⟨s9, hs9⟩ : ∃ k, (one e.gear.toNat).length = k := ⟨_, rfl⟩
    have b9 : s9 ≤ 9 := by rw [← hs9]; exact one_le9 (by omega) h64.gear
    have k9 : Hid (∀ W, Calls Try.prog 43 #[.int .i64 e.gear] W (RetI W (s9 : Int))) := pSizeI (by omega) h64.gear hs9
    have c9 : ∀ q : Later w2, q.1.cell? ⟨w.heap.size, 9, none⟩ = some (.int .i64 e.gear) := fun q => (B2.out.ext q.2).cell 9 _ rfl
    obtain ⟨s10, hs10⟩ : ∃ k, (one e.code.toNat).length = k := ⟨_, rfl⟩
    have b10 : s10 ≤ 9 := by rw [← hs10]; exact one_le9 (by omega) h64.code
    have k10 : Hid (∀ W, Calls Try.prog 43 #[.int .i64 e.code] W (RetI W (s10 : Int))) := pSizeI (by omega) h64.code hs10
    have c10 : ∀ q : Later w2, q.1.cell? ⟨w.heap.size, 10, none⟩ = some (.int .i64 e.code) := fun q => (B2.out.ext q.2).cell 10 _ rfl
    have hL : Hid ((encE e).length = if e.kind = 3 then s0 + s1 + s2 + s3 + (s4 + s5 + s6 + s7 + s8 + s9) else if e.kind = 4 then s0 + s1 + s2 + s3 + s10 else s0 + s1 + s2 + s3) := by
      show _ = _
      unfold encE numsE ownE
      rw [encZ_sum]
      split
      · simp only [List.map_append, List.map_cons, List.map_nil, List.sum_append, List.sum_cons, List.sum_nil, hs0, hs1, hs2, hs3, hs4, hs5, hs6, hs7, hs8, hs9]; omega
      · split
        · simp only [List.map_append, List.map_cons, List.map_nil, List.sum_append, List.sum_cons, List.sum_nil, hs0, hs1, hs2, hs3, hs10]; omega
        · simp only [List.map_append, List.map_cons, List.map_nil, List.sum_append, List.sum_cons, List.sum_nil, hs0, hs1, hs2, hs3]; omega
    clear hs0 hs1 hs2 hs3 hs4 hs5 hs6 hs7 hs8 hs9 hs10 hf f1 f2 f3 f4 f5 f6 f7 f8 f9 f10 f11 f12 f13 f14 f15 f16 y2 r2 o2 X1 B1 h64
    obtain ⟨N, hN⟩ : ∃ N, (encE e).length = N := ⟨_, rfl⟩
    rw [hN] at hL ⊢
    clear hN
    have w1 : IntKind.i64.wrap ((s0 : Int) + (s1 : Int)) = (s0 : Int) + (s1 : Int) := by rw [IntKind.wrap_i64]; omega
    have w2' : IntKind.i64.wrap ((s0 : Int) + (s1 : Int) + (s2 : Int)) = (s0 : Int) + (s1 : Int) + (s2 : Int) := by rw [IntKind.wrap_i64]; omega
    have w3 : IntKind.i64.wrap ((s0 : Int) + (s1 : Int) + (s2 : Int) + (s3 : Int)) = (s0 : Int) + (s1 : Int) + (s2 : Int) + (s3 : Int) := by rw [IntKind.wrap_i64]; omega
    go_wp2_with fail
    refine wp_region_later w2 (Ext.refl _) (by kernel_rfl) (by kernel_rfl) ?_
    go_big_quiet_step (fail)
    go_big_quiet_step (fail)
    go_big_quiet_step (exact later_int (k0.out _))
    go_big_quiet_step (fail)
    go_big_quiet_step (fail)
    go_big_quiet_step (exact later_int (k1.out _))
    go_big_quiet_step (fail)
    go_big_quiet_step (fail)
    go_big_quiet_step (fail)
    go_big_quiet_step (exact later_int (k2.out _))
    go_big_quiet_step (fail)
    go_big_quiet_step (fail)
    go_big_quiet_step (fail)
    go_big_quiet_step (exact later_int (k3.out _))
    go_big_quiet_step (fail)
    go_big_quiet_step (fail)
    refine wpQuiet_nil ?_
    rintro _ ⟨u, rfl⟩
    obtain ⟨T, hT⟩ : ∃ T : Nat, T = s0 + s1 + s2 + s3 := ⟨_, rfl⟩
    have eT : (s0 : Int) + (s1 : Int) + (s2 : Int) + (s3 : Int) = (T : Int) := by omega
    rw [eT]
    have bT : T ≤ 36 := by omega
    have hL2 : Hid (N = if e.kind = 3 then T + (s4 + s5 + s6 + s7 + s8 + s9) else if e.kind = 4 then T + s10 else T) := by show _ = _; rw [hT]; exact hL.out
    have X3 := Lib.hid (X2.out.trans u.2)
    clear hL eT hT w1 w2' w3 b0 b1 b2 b3 k0 k1 k2 k3 c0 c1 c2
    by_cases h3 : e.kind = 3
    · have d3 : (e.kind == 3) = true := by rw [beq_iff_eq]; exact h3
      have hN : Hid (N = T + (s4 + s5 + s6 + s7 + s8 + s9)) := by have := hL2.out; rw [if_pos h3] at this; exact this
      have d4 : (e.kind == 4) = false := by rw [h3]; rfl
      clear hL2 h3
      have v4 : IntKind.i64.wrap ((T : Int) + (s4 : Int)) = (T : Int) + (s4 : Int) := by rw [IntKind.wrap_i64]; omega
      have v5 : IntKind.i64.wrap ((T : Int) + (s4 : Int) + (s5 : Int)) = (T : Int) + (s4 : Int) + (s5 : Int) := by rw [IntKind.wrap_i64]; omega
      have v6 : IntKind.i64.wrap ((T : Int) + (s4 : Int) + (s5 : Int) + (s6 : Int)) = (T : Int) + (s4 : Int) + (s5 : Int) + (s6 : Int) := by rw [IntKind.wrap_i64]; omega
      have v7 : IntKind.i64.wrap ((T : Int) + (s4 : Int) + (s5 : Int) + (s6 : Int) + (s7 : Int)) = (T : Int) + (s4 : Int) + (s5 : Int) + (s6 : Int) + (s7 : Int) := by rw [IntKind.wrap_i64]; omega
      have v8 : IntKind.i64.wrap ((T : Int) + (s4 : Int) + (s5 : Int) + (s6 : Int) + (s7 : Int) + (s8 : Int)) = (T : Int) + (s4 : Int) + (s5 : Int) + (s6 : Int) + (s7 : Int) + (s8 : Int) := by rw [IntKind.wrap_i64]; omega
      have v9 : IntKind.i64.wrap ((T : Int) + (s4 : Int) + (s5 : Int) + (s6 : Int) + (s7 : Int) + (s8 : Int) + (s9 : Int)) = (T : Int) + (s4 : Int) + (s5 : Int) + (s6 : Int) + (s7 : Int) + (s8 : Int) + (s9 : Int) := by rw [IntKind.wrap_i64]; omega
      go_wp2_with fail
      refine wp_region_later w2 u.2 (by kernel_rfl) (by kernel_rfl) ?_
      go_big_quiet_step (fail)
      go_big_quiet_step (fail)
      go_big_quiet_step (fail)
      go_big_quiet_step (exact later_int (k4.out _))
      go_big_quiet_step (fail)
      go_big_quiet_step (fail)
      go_big_quiet_step (fail)
      go_big_quiet_step (exact later_int (k5.out _))
      go_big_quiet_step (fail)
      go_big_quiet_step (fail)
      go_big_quiet_step (fail)
      go_big_quiet_step (exact later_int (k6.out _))
      go_big_quiet_step (fail)
      go_big_quiet_step (fail)
      go_big_quiet_step (fail)
      go_big_quiet_step (exact later_int (k7.out _))
      go_big_quiet_step (fail)
      go_big_quiet_step (fail)
      go_big_quiet_step (fail)
      go_big_quiet_step (exact later_int (k8.out _))
      go_big_quiet_step (fail)
      go_big_quiet_step (fail)
      go_big_quiet_step (fail)
      go_big_quiet_step (exact later_int (k9.out _))
      go_big_quiet_step (fail)
      go_big_quiet_step (fail)
      refine wpQuiet_nil ?_
      rintro _ ⟨u3, rfl⟩
      have X4 := Lib.hid (X2.out.trans u3.2)
      have hz : ((N : Int) == (T : Int) + (s4 : Int) + (s5 : Int) + (s6 : Int) + (s7 : Int) + (s8 : Int) + (s9 : Int)) = true := by rw [beq_iff_eq]; have := hN.out; omega
      clear v4 v5 v6 v7 v8 v9
      go_wp2_with fail
      go_ret
      exact ⟨rfl, X4.out⟩
    · have d3 : (e.kind == 3) = false := by rw [beq_eq_false_iff_ne]; exact h3
      by_cases h4 : e.kind = 4
      · have d4 : (e.kind == 4) = true := by rw [beq_iff_eq]; exact h4
        have hN : Hid (N = T + s10) := by have := hL2.out; rw [if_neg h3, if_pos h4] at this; exact this
        have v10 : IntKind.i64.wrap ((T : Int) + (s10 : Int)) = (T : Int) + (s10 : Int) := by rw [IntKind.wrap_i64]; omega
        clear hL2 h3 h4
        go_wp2_with fail
        refine (k10.out _).mono ?_
        rintro e4 w4 ⟨rfl, y4⟩
        have X4 := Lib.hid (X3.out.trans y4)
        have hz : ((N : Int) == (T : Int) + (s10 : Int)) = true := by rw [beq_iff_eq]; have := hN.out; omega
        clear y4
        go_wp2_with fail
        go_ret
        exact ⟨rfl, X4.out⟩
      · have d4 : (e.kind == 4) = false := by rw [beq_eq_false_iff_ne]; exact h4
        have hN : Hid (N = T) := by have := hL2.out; rw [if_neg h3, if_neg h4] at this; exact this
        have hz : ((N : Int) == (T : Int)) = true := by rw [beq_iff_eq]; have := hN.out; omega
        clear hL2 h3 h4
        go_wp2_with fail
        go_ret
        exact ⟨rfl, X3.out⟩
end Go.Proofs.Ytmbjbbflhlndcaa
