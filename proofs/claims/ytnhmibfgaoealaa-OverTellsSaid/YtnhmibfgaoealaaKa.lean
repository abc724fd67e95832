/-
  slices.Clip, slices.Grow (of nil), slices.Concat (of two), at spans.
-/
import Derived.Lib.AppendZerosOnto
import Derived.Lib.SliceRun
import Derived.LoopN
import Derived.Test.YtnhmibfgaoealaaTw
namespace Go.Proofs.Ytnhmibfgaoealaa
open Go.RowKit
set_option linter.unusedVariables false
set_option linter.unusedSimpArgs false

theorem pClip (A : Option Addr) (n cap : Nat) (h : n ≤ cap) (hm : cap ≤ 9223372036854775807) (w : World) : Calls Try.prog 129 #[.slice A n cap] w fun e w' => e = .returned (.slice A n n) ∧ Ext w w' := by
  cases A with
  | none =>
    go_enter Try.func129, Try.ntmps129
    go_wp2
    go_ret
    exact ⟨rfl, Ext.refl _⟩
  | some a =>
    obtain ⟨b, off, sp⟩ := a
    go_enter Try.func129, Try.ntmps129
    go_wp2
    go_ret
    exact ⟨rfl, Ext.refl _⟩

theorem grow_zeros (w : World) (n : Nat) (n0 : 0 < n) (hn : n ≤ 4000000) (ty : TypeId) :
    (Builtin.append_ #[40, 3] ty #[.slice none 0 0, .int .i64 (n : Int)]).run Try.prog w =
      .ok (.slice (some ⟨w.heap.size, 0, none⟩) n (grownCap w n 0 42))
        (w.drew.alloc (.cells (#[] ++ Builtin.zeroCells #[.int .i64 0, .int .i64 0] n ++ Builtin.zeroCells #[.int .i64 0, .int .i64 0] (grownCap w n 0 42 - n)) 42)) := by
  obtain ⟨i0, hi, hz0, hz1, hz2⟩ := info_parts info_span
  have h := Lib.run_append_grow_zeros (P := Try.prog) w 40 3 ty 42 i0 _ .i64 .i64 Try.underlying40 Try.underlying3 hi hz0 none 0 0 []
    (run_firstCells_none w.drew i0.size 0 0 0) n n0 (by omega) (by omega) (by omega) (by rw [hz2]; omega) (by rw [hz2]; simp only [Nat.zero_add]; exact growslice_fits (need := n) (old := 0) (bytes := 16) (by omega) (by omega))
  simpa [Value.cells] using h

set_option maxRecDepth 100000 in
theorem pGrow (n : Nat) (hn : n ≤ 4000000) (m : Int) (hm : m = n) (w : World) : Calls Try.prog 127 #[.slice none 0 0, .int .i64 m] w fun e w' => ∃ A cap, e = .returned (.slice A 0 cap) ∧ w'.ownsRow w.heap.size 42 2 (.slice A 0 cap) 0 (flat encS []) ∧ Ext w w' := by
  subst hm
  by_cases h0 : n = 0
  · subst h0
    go_enter Try.func127, Try.ntmps127
    go_wp2
    go_ret
    exact ⟨none, 0, rfl, own_nil _ _, Ext.refl _⟩
  · have hz := grow_zeros w n (by omega) hn
    have hG : n ≤ grownCap w n 0 42 := grownCap_ge w _ _ _
    have hG2 := grownCap_le_maxLen w n 0 42 (by unfold maxLen; omega)
    obtain ⟨G, hGG⟩ : ∃ G, G = grownCap w n 0 42 := ⟨_, rfl⟩
    rw [← hGG] at hz hG hG2
    have hG3 : G ≤ 9223372036854775807 := by unfold maxLen at hG2; omega
    have h1 : ¬ ((n : Int) < 0) := by omega
    have h2 : (0 : Int) < (n : Int) := by omega
    have hfin : Hid (((w.alloc (.cells (Builtin.zeroCells #[.int .i64 0, .int .i64 0] n ++ Builtin.zeroCells #[.int .i64 0, .int .i64 0] (G - n)) 42)).drew).ownsRow w.heap.size 42 2 (.slice (some ⟨w.heap.size, 0, none⟩) 0 G) 0 (flat encS [])) := by
      refine ⟨rfl, .inr ⟨w.heap.size, G, _, rfl, Nat.le_refl _, heap_alloc_new w _, by omega, hG2, ?_, by simp [flat]⟩⟩
      rw [Array.size_append, size_zeroCells, size_zeroCells]
      show n * 2 + (G - n) * 2 = G * 2
      omega
    replace hz := Lib.hid hz
    replace hG2 := Lib.hid hG2
    clear hGG
    go_enter Try.func127, Try.ntmps127
    go_wp2_with (at_builtin; refine Lib.wpList_append_run _ rfl _ _ _ _ rfl _ _ rfl rfl _ _ (hz.out _) ?_)
    all_goals (go_ret; exact ⟨_, G, rfl, hfin.out, ((Ext.refl w).alloc _).drewN 1⟩)

set_option maxRecDepth 100000 in
set_option maxHeartbeats 1000000 in
theorem pConcat {w : World} {A1 A2 : Option Addr} {l1 l2 : List Sp.S} (g c1 c2 : Nat) (hb : Bx w g [.slice A1 l1.length c1, .slice A2 l2.length c2] 40) (h1 : Rs w A1 l1) (h2 : Rs w A2 l2) (b1 : l1.length ≤ 1000000) (b2 : l2.length ≤ 1000000) :
    Calls Try.prog 94 #[.slice (some ⟨g, 0, none⟩) 2 2] w (RetS w (l1 ++ l2)) := by
  have y0 := hb.cell 0 _ rfl
  have y1 := hb.cell 1 _ rfl
  replace h1 := Lib.hid h1; replace h2 := Lib.hid h2
  go_enter Try.func94, Try.ntmps94
  go_wp2_with fail
  refine wp_loop_rounds 3 ?_
  rw [rounds_succ]
  go_wp2_with fail
  rw [rounds_succ]
  go_wp2_with fail
  rw [rounds_succ]
  go_wp2_with fail
  refine (pGrow (l1.length + l2.length) (by omega) _ (by simp) _).mono ?_
  rintro e w1 ⟨A3, c3, rfl, o3, x1⟩
  have hb1 := hb.ext x1
  have z0 := hb1.cell 0 _ rfl
  have z1 := hb1.cell 1 _ rfl
  replace o3 := Lib.hid o3
  clear y0 y1
  go_wp2_with fail
  refine wp_loop_rounds 3 ?_
  rw [rounds_succ]
  go_wp2_with (at_builtin; refine app_row w w1 x1 _ _ rfl rfl 0 _ [] l1 rfl o3.out rfl A1 c1 rfl (h1.out.ext x1) (by simp; omega) ?_; intro A4 c4 w2 o4 x2)
  have hb2 := hb.ext x2
  have u0 := hb2.cell 0 _ rfl
  have u1 := hb2.cell 1 _ rfl
  replace o4 := Lib.hid o4
  clear z0 z1
  rw [rounds_succ]
  go_wp2_with (at_builtin; refine app_row w w2 x2 _ _ rfl rfl l1.length _ l1 l2 rfl o4.out rfl A2 c2 rfl (h2.out.ext x2) (by omega) ?_; intro A5 c5 w3 o5 x3)
  replace o5 := Lib.hid o5
  rw [rounds_succ]
  go_wp2
  go_ret
  exact ⟨A5, c5, by rw [List.length_append]; rfl, Rs.own o5.out, x3, o5.out⟩
end Go.Proofs.Ytnhmibfgaoealaa
