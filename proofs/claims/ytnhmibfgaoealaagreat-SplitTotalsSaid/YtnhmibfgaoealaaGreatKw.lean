/-
  The law SpanTells of lumperlaw03 answers true.
  breaks.unpaid by contract.
-/
import Derived.Test.YtnhmibfgaoealaaGreatMi
import Derived.Deep.RegionHeld3
import Derived.Test.YtnhmibfgaoealaaGreatKx
import Derived.Test.YtnhmibfgaoealaaGreatLy
namespace Go.Proofs.YtnhmibfgaoealaaGreat
open Go.RowKit

theorem and_len (a b : List Sp.S) : (Sp.and_ a b).length ≤ a.length + b.length := Nat.le_trans (Sp.and_length a b) (Nat.add_le_add (Sp.norm_length a) (Sp.norm_length b))
theorem minus_len (a b : List Sp.S) : (Sp.minus a b).length ≤ a.length + b.length + 1 := by
  have := and_len a (Sp.othersFrom 0 (Sp.norm b))
  have h2 := others_length (Sp.norm b) 0 (Sp.norm_plain b)
  have h3 := Sp.norm_length b
  unfold Sp.minus; omega
theorem last_len (l : List Sp.S) (n : Int) : (Sp.last l n).length ≤ 2 * l.length + 1 := by
  unfold Sp.last
  split
  · simp
  · have := minus_len l (Sp.first l (Sp.size l - min n Sp.MT))
    have h2 := first_length l (Sp.size l - min n Sp.MT)
    omega

end Go.Proofs.YtnhmibfgaoealaaGreat
namespace Go.Proofs.YtnhmibfgaoealaaGreat
open Go.RowKit
set_option linter.unusedVariables false
set_option linter.unusedSimpArgs false


theorem minus_le (a b : List Sp.S) : (Sp.minus a b).length ≤ a.length + b.length + 1 := minus_len a b
theorem last_le (a : List Sp.S) (n : Int) : (Sp.last a n).length ≤ 2 * a.length + 1 := by
  unfold Sp.last
  split
  · simp
  · refine Nat.le_trans (minus_le _ _) ?_
    have := first_length a (Sp.size a - min n Sp.MT)
    omega

theorem nNormApp {w : World} {A : Option Addr} {a b : List Sp.S} (h : Rs w A (a ++ b)) (hl : (a ++ b).length ≤ 900000) (cap : Nat) : Calls Tryz.prog 23 #[.slice A (a.length + b.length) cap] w (RetS w (Sp.norm (a ++ b))) := by
  have := cNorm h hl cap
  rwa [List.length_append] at this
set_option maxRecDepth 100000 in
set_option maxHeartbeats 4000000 in
theorem unpaid0 (v_pl v_wy v_p1 v_p2 v_el v_cl v_ge v_al v_un v_ca v_dr v_do v_wr v_nf v_nt v_ra v_di v_le v_fa v_ti : Value) (P AA AB : Int) (hP : 0 ≤ P ∧ P ≤ 86400) (hA : 0 ≤ AA ∧ AA ≤ 86400) (hB : 0 ≤ AB ∧ AB ≤ 86400) (ck rs : List Sp.S) (l1 : ck.length ≤ 100000) (l2 : rs.length ≤ 100000) (Ac Ar : Option Addr) (c1 c2 : Nat) (w : World) (h1 : Rs w Ac ck) (h2 : Rs w Ar rs) (hg : ¬ AA ≤ Sp.size ck) :
    Calls Tryz.prog 37 #[.agg #[v_pl, v_wy, v_p1, v_p2, v_el, v_cl, v_ge, v_al, v_un, v_ca, .int .i64 P, .int .i64 AA, .int .i64 AB, v_dr, v_do, v_wr, v_nf, v_nt, v_ra, v_di, v_le, v_fa, v_ti], .slice Ac ck.length c1, .slice Ar rs.length c2] w (RetS w (unpaidL P AA AB ck rs)) := by
  replace h1 := Lib.hid h1
  replace h2 := Lib.hid h2
  have s1 := Sp.size_nonneg ck
  have s2 := Sp.size_le ck
  have s3 := Sp.size_nonneg rs
  have s4 := Sp.size_le rs
  have kC := fun (w : World) (h : Rs w Ac ck) => cSize h (by omega) c1
  have kH := fun (w : World) (h : Rs w Ar rs) => cSize h (by omega) c2
  obtain ⟨R, hR⟩ : ∃ R, unpaidL P AA AB ck rs = R := ⟨_, rfl⟩
  rw [hR]
  have hR2 : R = Sp.norm (Sp.minus rs (Sp.first rs P)) := by rw [← hR]; unfold unpaidL; rw [if_neg (by omega), List.append_nil]
  clear hR
  obtain ⟨C, hC⟩ : ∃ C, Sp.size ck = C := ⟨_, rfl⟩
  obtain ⟨D, hD⟩ : ∃ D, Sp.size rs = D := ⟨_, rfl⟩
  rw [hC] at s1 s2 kC hg; rw [hD] at s3 s4 kH; try rw [hD] at hg
  try rw [hD] at hR2
  replace kC := Lib.hid kC; replace kH := Lib.hid kH; replace hC := Lib.hid hC; replace hD := Lib.hid hD; replace hR2 := Lib.hid hR2
  have hs0 := Bx.new w [v_pl, v_wy, v_p1, v_p2, v_el, v_cl, v_ge, v_al, v_un, v_ca, .int .i64 P, .int .i64 AA, .int .i64 AB, v_dr, v_do, v_wr, v_nf, v_nt, v_ra, v_di, v_le, v_fa, v_ti] 30
  have X0 := (Ext.refl w).alloc (.cells #[v_pl, v_wy, v_p1, v_p2, v_el, v_cl, v_ge, v_al, v_un, v_ca, .int .i64 P, .int .i64 AA, .int .i64 AB, v_dr, v_do, v_wr, v_nf, v_nt, v_ra, v_di, v_le, v_fa, v_ti] 30)
  have hc0 := h1.out.ext X0
  have hr0 := h2.out.ext X0
  go_enter Tryz.func37, Tryz.ntmps37
  go_wp2_with fail
  refine (cFirst hr0 (by omega) (show B64 P from by unfold B64; omega) _).mono ?_
  rintro e w1 ⟨A1, cap1, rfl, r1, x1, _⟩
  have hs1 := hs0.ext x1; clear hs0
  have hc1 := hc0.ext x1; clear hc0
  have hr1 := hr0.ext x1; clear hr0
  have X1 := X0.trans x1
  go_wp2_with fail
  refine (cMinus hr1 r1 (by omega) (Nat.le_trans (first_length _ _) (by omega)) _ _).mono ?_
  rintro e w2 ⟨A2, cap2, rfl, r2, x2, _⟩
  have hs2 := hs1.ext x2; clear hs1
  have hc2 := hc1.ext x2; clear hc1
  have hr2 := hr1.ext x2; clear hr1
  have hf2 := r1.ext x2
  have X2 := X1.trans x2
  go_wp2_with fail
  refine (kH.out _ hr2).mono ?_
  rintro e w3 ⟨rfl, x3⟩
  have hs3 := hs2.ext x3; clear hs2
  have hc3 := hc2.ext x3; clear hc2
  have hr3 := hr2.ext x3; clear hr2
  have hf3 := hf2.ext x3; clear hf2
  have ho3 := r2.ext x3
  have X3 := X2.trans x3
  have z11 := hs3.cell 11 _ rfl
  have z12 := hs3.cell 12 _ rfl
  have hB3 := hs3.lt
  have f1 : decide (AA ≤ C) = false := decide_eq_false (by omega)
  go_wp2_with fail
  have y11 : ∀ e : Later w3, e.1.cell? ⟨w.heap.size, 11, none⟩ = some (.int .i64 AA) := fun e => (e.2.cell (p := ⟨w.heap.size, 11, none⟩) hB3).trans z11
  have y12 : ∀ e : Later w3, e.1.cell? ⟨w.heap.size, 12, none⟩ = some (.int .i64 AB) := fun e => (e.2.cell (p := ⟨w.heap.size, 12, none⟩) hB3).trans z12
  refine wp_region_later w3 (Ext.refl w3) (by kernel_rfl) (by kernel_rfl) ?_
  repeat (go_big_quiet_step (exact later_int (kC.out _ (hc3.ext (Subtype.property _)))))
  refine wpQuiet_nil ?_
  rintro w4 ⟨e4, he4⟩
  have x4 : Ext w3 w4 := he4 ▸ e4.2
  clear he4 e4 y11 y12
  have hs4 := hs3.ext x4; clear hs3
  have hc4 := hc3.ext x4; clear hc3
  have hr4 := hr3.ext x4; clear hr3
  have hf4 := hf3.ext x4; clear hf3
  have ho4 := ho3.ext x4; clear ho3
  have X4 := X3.trans x4
  go_wp2_with fail
  refine (sEq (cNorm ho4 (by have := minus_le rs (Sp.first rs P); have := first_length rs P; omega) _) hR2.out.symm).mono ?_
  rintro e w5 ⟨A5, cap5, rfl, r5, x5, o5⟩
  go_wp2
  go_ret
  exact ⟨A5, cap5, rfl, r5, X4.trans x5, own_base o5 X4.size⟩

set_option maxRecDepth 100000 in
set_option maxHeartbeats 4000000 in
theorem unpaid1 (v_pl v_wy v_p1 v_p2 v_el v_cl v_ge v_al v_un v_ca v_dr v_do v_wr v_nf v_nt v_ra v_di v_le v_fa v_ti : Value) (P AA AB : Int) (hP : 0 ≤ P ∧ P ≤ 86400) (hA : 0 ≤ AA ∧ AA ≤ 86400) (hB : 0 ≤ AB ∧ AB ≤ 86400) (ck rs : List Sp.S) (l1 : ck.length ≤ 100000) (l2 : rs.length ≤ 100000) (Ac Ar : Option Addr) (c1 c2 : Nat) (w : World) (h1 : Rs w Ac ck) (h2 : Rs w Ar rs) (hg : AA ≤ Sp.size ck ∧ ¬ Sp.size rs < AB) :
    Calls Tryz.prog 37 #[.agg #[v_pl, v_wy, v_p1, v_p2, v_el, v_cl, v_ge, v_al, v_un, v_ca, .int .i64 P, .int .i64 AA, .int .i64 AB, v_dr, v_do, v_wr, v_nf, v_nt, v_ra, v_di, v_le, v_fa, v_ti], .slice Ac ck.length c1, .slice Ar rs.length c2] w (RetS w (unpaidL P AA AB ck rs)) := by
  replace h1 := Lib.hid h1
  replace h2 := Lib.hid h2
  have s1 := Sp.size_nonneg ck
  have s2 := Sp.size_le ck
  have s3 := Sp.size_nonneg rs
  have s4 := Sp.size_le rs
  have kC := fun (w : World) (h : Rs w Ac ck) => cSize h (by omega) c1
  have kH := fun (w : World) (h : Rs w Ar rs) => cSize h (by omega) c2
  obtain ⟨R, hR⟩ : ∃ R, unpaidL P AA AB ck rs = R := ⟨_, rfl⟩
  rw [hR]
  have hR2 : R = Sp.norm (Sp.minus rs (Sp.first rs P)) := by rw [← hR]; unfold unpaidL; rw [if_neg (by omega), List.append_nil]
  clear hR
  obtain ⟨C, hC⟩ : ∃ C, Sp.size ck = C := ⟨_, rfl⟩
  obtain ⟨D, hD⟩ : ∃ D, Sp.size rs = D := ⟨_, rfl⟩
  rw [hC] at s1 s2 kC hg; rw [hD] at s3 s4 kH; try rw [hD] at hg
  try rw [hD] at hR2
  replace kC := Lib.hid kC; replace kH := Lib.hid kH; replace hC := Lib.hid hC; replace hD := Lib.hid hD; replace hR2 := Lib.hid hR2
  have hs0 := Bx.new w [v_pl, v_wy, v_p1, v_p2, v_el, v_cl, v_ge, v_al, v_un, v_ca, .int .i64 P, .int .i64 AA, .int .i64 AB, v_dr, v_do, v_wr, v_nf, v_nt, v_ra, v_di, v_le, v_fa, v_ti] 30
  have X0 := (Ext.refl w).alloc (.cells #[v_pl, v_wy, v_p1, v_p2, v_el, v_cl, v_ge, v_al, v_un, v_ca, .int .i64 P, .int .i64 AA, .int .i64 AB, v_dr, v_do, v_wr, v_nf, v_nt, v_ra, v_di, v_le, v_fa, v_ti] 30)
  have hc0 := h1.out.ext X0
  have hr0 := h2.out.ext X0
  go_enter Tryz.func37, Tryz.ntmps37
  go_wp2_with fail
  refine (cFirst hr0 (by omega) (show B64 P from by unfold B64; omega) _).mono ?_
  rintro e w1 ⟨A1, cap1, rfl, r1, x1, _⟩
  have hs1 := hs0.ext x1; clear hs0
  have hc1 := hc0.ext x1; clear hc0
  have hr1 := hr0.ext x1; clear hr0
  have X1 := X0.trans x1
  go_wp2_with fail
  refine (cMinus hr1 r1 (by omega) (Nat.le_trans (first_length _ _) (by omega)) _ _).mono ?_
  rintro e w2 ⟨A2, cap2, rfl, r2, x2, _⟩
  have hs2 := hs1.ext x2; clear hs1
  have hc2 := hc1.ext x2; clear hc1
  have hr2 := hr1.ext x2; clear hr1
  have hf2 := r1.ext x2
  have X2 := X1.trans x2
  go_wp2_with fail
  refine (kH.out _ hr2).mono ?_
  rintro e w3 ⟨rfl, x3⟩
  have hs3 := hs2.ext x3; clear hs2
  have hc3 := hc2.ext x3; clear hc2
  have hr3 := hr2.ext x3; clear hr2
  have hf3 := hf2.ext x3; clear hf2
  have ho3 := r2.ext x3
  have X3 := X2.trans x3
  have z11 := hs3.cell 11 _ rfl
  have z12 := hs3.cell 12 _ rfl
  have hB3 := hs3.lt
  have f1 : decide (AA ≤ C) = true := decide_eq_true (by omega)
  have f2 : decide (D < AB) = false := decide_eq_false (by omega)
  go_wp2_with fail
  have y11 : ∀ e : Later w3, e.1.cell? ⟨w.heap.size, 11, none⟩ = some (.int .i64 AA) := fun e => (e.2.cell (p := ⟨w.heap.size, 11, none⟩) hB3).trans z11
  have y12 : ∀ e : Later w3, e.1.cell? ⟨w.heap.size, 12, none⟩ = some (.int .i64 AB) := fun e => (e.2.cell (p := ⟨w.heap.size, 12, none⟩) hB3).trans z12
  refine wp_region_later w3 (Ext.refl w3) (by kernel_rfl) (by kernel_rfl) ?_
  repeat (go_big_quiet_step (exact later_int (kC.out _ (hc3.ext (Subtype.property _)))))
  refine wpQuiet_nil ?_
  rintro w4 ⟨e4, he4⟩
  have x4 : Ext w3 w4 := he4 ▸ e4.2
  clear he4 e4 y11 y12
  have hs4 := hs3.ext x4; clear hs3
  have hc4 := hc3.ext x4; clear hc3
  have hr4 := hr3.ext x4; clear hr3
  have hf4 := hf3.ext x4; clear hf3
  have ho4 := ho3.ext x4; clear ho3
  have X4 := X3.trans x4
  go_wp2_with fail
  refine (sEq (cNorm ho4 (by have := minus_le rs (Sp.first rs P); have := first_length rs P; omega) _) hR2.out.symm).mono ?_
  rintro e w5 ⟨A5, cap5, rfl, r5, x5, o5⟩
  go_wp2
  go_ret
  exact ⟨A5, cap5, rfl, r5, X4.trans x5, own_base o5 X4.size⟩

set_option maxRecDepth 100000 in
set_option maxHeartbeats 4000000 in
theorem unpaid2 (v_pl v_wy v_p1 v_p2 v_el v_cl v_ge v_al v_un v_ca v_dr v_do v_wr v_nf v_nt v_ra v_di v_le v_fa v_ti : Value) (P AA AB : Int) (hP : 0 ≤ P ∧ P ≤ 86400) (hA : 0 ≤ AA ∧ AA ≤ 86400) (hB : 0 ≤ AB ∧ AB ≤ 86400) (ck rs : List Sp.S) (l1 : ck.length ≤ 100000) (l2 : rs.length ≤ 100000) (Ac Ar : Option Addr) (c1 c2 : Nat) (w : World) (h1 : Rs w Ac ck) (h2 : Rs w Ar rs) (hg : AA ≤ Sp.size ck ∧ Sp.size rs < AB) :
    Calls Tryz.prog 37 #[.agg #[v_pl, v_wy, v_p1, v_p2, v_el, v_cl, v_ge, v_al, v_un, v_ca, .int .i64 P, .int .i64 AA, .int .i64 AB, v_dr, v_do, v_wr, v_nf, v_nt, v_ra, v_di, v_le, v_fa, v_ti], .slice Ac ck.length c1, .slice Ar rs.length c2] w (RetS w (unpaidL P AA AB ck rs)) := by
  replace h1 := Lib.hid h1
  replace h2 := Lib.hid h2
  have s1 := Sp.size_nonneg ck
  have s2 := Sp.size_le ck
  have s3 := Sp.size_nonneg rs
  have s4 := Sp.size_le rs
  have kC := fun (w : World) (h : Rs w Ac ck) => cSize h (by omega) c1
  have kH := fun (w : World) (h : Rs w Ar rs) => cSize h (by omega) c2
  obtain ⟨R, hR⟩ : ∃ R, unpaidL P AA AB ck rs = R := ⟨_, rfl⟩
  rw [hR]
  have hR2 : R = Sp.norm (Sp.minus rs (Sp.first rs P) ++ Sp.last (Sp.minus ck rs) (AB - Sp.size rs)) := by rw [← hR]; unfold unpaidL; rw [if_pos hg]
  clear hR
  obtain ⟨C, hC⟩ : ∃ C, Sp.size ck = C := ⟨_, rfl⟩
  obtain ⟨D, hD⟩ : ∃ D, Sp.size rs = D := ⟨_, rfl⟩
  rw [hC] at s1 s2 kC hg; rw [hD] at s3 s4 kH; try rw [hD] at hg
  try rw [hD] at hR2
  replace kC := Lib.hid kC; replace kH := Lib.hid kH; replace hC := Lib.hid hC; replace hD := Lib.hid hD; replace hR2 := Lib.hid hR2
  have hs0 := Bx.new w [v_pl, v_wy, v_p1, v_p2, v_el, v_cl, v_ge, v_al, v_un, v_ca, .int .i64 P, .int .i64 AA, .int .i64 AB, v_dr, v_do, v_wr, v_nf, v_nt, v_ra, v_di, v_le, v_fa, v_ti] 30
  have X0 := (Ext.refl w).alloc (.cells #[v_pl, v_wy, v_p1, v_p2, v_el, v_cl, v_ge, v_al, v_un, v_ca, .int .i64 P, .int .i64 AA, .int .i64 AB, v_dr, v_do, v_wr, v_nf, v_nt, v_ra, v_di, v_le, v_fa, v_ti] 30)
  have hc0 := h1.out.ext X0
  have hr0 := h2.out.ext X0
  go_enter Tryz.func37, Tryz.ntmps37
  go_wp2_with fail
  refine (cFirst hr0 (by omega) (show B64 P from by unfold B64; omega) _).mono ?_
  rintro e w1 ⟨A1, cap1, rfl, r1, x1, _⟩
  have hs1 := hs0.ext x1; clear hs0
  have hc1 := hc0.ext x1; clear hc0
  have hr1 := hr0.ext x1; clear hr0
  have X1 := X0.trans x1
  go_wp2_with fail
  refine (cMinus hr1 r1 (by omega) (Nat.le_trans (first_length _ _) (by omega)) _ _).mono ?_
  rintro e w2 ⟨A2, cap2, rfl, r2, x2, _⟩
  have hs2 := hs1.ext x2; clear hs1
  have hc2 := hc1.ext x2; clear hc1
  have hr2 := hr1.ext x2; clear hr1
  have hf2 := r1.ext x2
  have X2 := X1.trans x2
  go_wp2_with fail
  refine (kH.out _ hr2).mono ?_
  rintro e w3 ⟨rfl, x3⟩
  have hs3 := hs2.ext x3; clear hs2
  have hc3 := hc2.ext x3; clear hc2
  have hr3 := hr2.ext x3; clear hr2
  have hf3 := hf2.ext x3; clear hf2
  have ho3 := r2.ext x3
  have X3 := X2.trans x3
  have z11 := hs3.cell 11 _ rfl
  have z12 := hs3.cell 12 _ rfl
  have hB3 := hs3.lt
  have f1 : decide (AA ≤ C) = true := decide_eq_true (by omega)
  have f2 : decide (D < AB) = true := decide_eq_true (by omega)
  go_wp2_with fail
  have y11 : ∀ e : Later w3, e.1.cell? ⟨w.heap.size, 11, none⟩ = some (.int .i64 AA) := fun e => (e.2.cell (p := ⟨w.heap.size, 11, none⟩) hB3).trans z11
  have y12 : ∀ e : Later w3, e.1.cell? ⟨w.heap.size, 12, none⟩ = some (.int .i64 AB) := fun e => (e.2.cell (p := ⟨w.heap.size, 12, none⟩) hB3).trans z12
  refine wp_region_later w3 (Ext.refl w3) (by kernel_rfl) (by kernel_rfl) ?_
  repeat (go_big_quiet_step (exact later_int (kC.out _ (hc3.ext (Subtype.property _)))))
  refine wpQuiet_nil ?_
  rintro w4 ⟨e4, he4⟩
  have x4 : Ext w3 w4 := he4 ▸ e4.2
  clear he4 e4 y11 y12
  have hs4 := hs3.ext x4; clear hs3
  have hc4 := hc3.ext x4; clear hc3
  have hr4 := hr3.ext x4; clear hr3
  have hf4 := hf3.ext x4; clear hf3
  have ho4 := ho3.ext x4; clear ho3
  have X4 := X3.trans x4
  replace s4 : D ≤ 32054400 := s4
  have q1 : IntKind.i64.wrap (AB - D) = AB - D := IntWalk.i64_in _ (by omega)
  have y12 := hs4.cell 12 _ rfl
  have hB4 := hs4.lt
  have m1 := minus_le rs (Sp.first rs P)
  have m2 := first_length rs P
  have m3 := minus_le ck rs
  have m4 := last_le (Sp.minus ck rs) (AB - D)
  have mB : B64 (AB - D) := by
    have : Sp.MT = 32054400 := rfl
    unfold B64; omega
  have l5 : (Sp.minus ck rs).length ≤ 900000 := by omega
  have l6 : (Sp.minus rs (Sp.first rs P)).length ≤ 1000000 := by omega
  have l7 : (Sp.last (Sp.minus ck rs) (AB - D)).length ≤ 1000000 := by omega
  have l8 : ck.length ≤ 900000 := by omega
  have l9 : rs.length ≤ 900000 := by omega
  go_wp2_with fail
  go_region_with (first
      | (go_at_call 39; go_loud (refine (cMinus (Rs.drewN hc4 1) (Rs.drewN hr4 1) l8 l9 _ _).mono ?_); rintro e w5 ⟨A5, cap5, rfl, r5, x5, _⟩; have q12 : w5.cell? ⟨w.heap.size, 12, none⟩ = some (.int .i64 AB) := (x5.cell (p := ⟨w.heap.size, 12, none⟩) hB4).trans y12; have xs5 : Ext w4 w5 := ((Ext.refl w4).drewN 1).trans x5)
      | (go_at_call 76; go_loud (refine (cLast r5 l5 mB _).mono ?_); rintro e w6 ⟨A6, cap6, rfl, r6, x6, _⟩; have xs6 : Ext w4 w6 := xs5.trans x6)
      | (go_at_call 71; refine (pConcat (l1 := Sp.minus rs (Sp.first rs P)) (l2 := Sp.last (Sp.minus ck rs) (AB - D)) w6.heap.size cap2 cap6 (Bx.new w6 [.slice A2 (Sp.minus rs (Sp.first rs P)).length cap2, .slice A6 (Sp.last (Sp.minus ck rs) (AB - D)).length cap6] 34) ((ho4.ext xs6).alloc _) (r6.alloc _) l6 l7).mono ?_; rintro e w8 ⟨A8, cap8, rfl, r8, x8, _⟩; have xs8 : Ext w4 w8 := (xs6.alloc _).trans x8))
  all_goals clear q1
  all_goals go_wp2_with fail
  all_goals refine (sEq (nNormApp r8 (by rw [List.length_append]; omega) _) hR2.out.symm).mono ?_
  all_goals rintro e w9 ⟨A9, cap9, rfl, r9, x9, o9⟩
  all_goals go_wp2
  all_goals go_ret
  all_goals exact ⟨A9, cap9, rfl, r9, (X4.trans xs8).trans x9, own_base o9 (X4.trans xs8).size⟩

theorem pUnpaid (s : Su) (g : Sh) (hc : chk s = true) {w : World} {A1 A2 : Option Addr} {ck rs : List Sp.S} (h1 : Rs w A1 ck) (h2 : Rs w A2 rs) (l1 : ck.length ≤ 100000) (l2 : rs.length ≤ 100000) (c1 c2 : Nat) :
    Calls Tryz.prog 37 #[.agg (s.cells g).toArray, .slice A1 ck.length c1, .slice A2 rs.length c2] w (RetS w (unpaidL s.paid s.after s.auto ck rs)) := by
  have hb := chk_times hc
  have hP : 0 ≤ s.paid ∧ s.paid ≤ 86400 := by omega
  have hA : 0 ≤ s.after ∧ s.after ≤ 86400 := by omega
  have hB : 0 ≤ s.auto ∧ s.auto ≤ 86400 := by omega
  by_cases h : s.after ≤ Sp.size ck
  · by_cases h3 : Sp.size rs < s.auto
    · exact unpaid2 _ _ _ _ _ _ _ _ _ _ _ _ _ _ _ _ _ _ _ _ s.paid s.after s.auto hP hA hB ck rs l1 l2 A1 A2 c1 c2 w h1 h2 ⟨h, h3⟩
    · exact unpaid1 _ _ _ _ _ _ _ _ _ _ _ _ _ _ _ _ _ _ _ _ s.paid s.after s.auto hP hA hB ck rs l1 l2 A1 A2 c1 c2 w h1 h2 ⟨h, h3⟩
  · exact unpaid0 _ _ _ _ _ _ _ _ _ _ _ _ _ _ _ _ _ _ _ _ s.paid s.after s.auto hP hA hB ck rs l1 l2 A1 A2 c1 c2 w h1 h2 h

end Go.Proofs.YtnhmibfgaoealaaGreat
