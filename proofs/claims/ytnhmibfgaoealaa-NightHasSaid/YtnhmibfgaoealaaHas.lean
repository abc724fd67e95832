import Derived.Test.YtnhmibfgaoealaaAnd
import Derived.Test.YtnhmibfgaoealaaLay
import Derived.Lib.SliceRun
namespace Go.Proofs.Ytnhmibfgaoealaa
open Go.RowKit Go.Shelf Go.Proofs

theorem has_pred (t : Int) (B : Nat) (w : World) (hB : B < w.heap.size) (hcell : w.cell? ⟨B, 0, none⟩ = some (.int .i64 t)) :
    PredBelow Try.prog 82 #[.pointer (some ⟨B, 0, none⟩)] (fun x => .agg (encS x).toArray) (fun x => Sp.inB x t) w := fun W x hb => by
  have hc : W.cell? ⟨B, 0, none⟩ = some (.int .i64 t) := (hb.cell (p := ⟨B, 0, none⟩) hB).trans hcell
  have hBW : B < W.heap.size := Nat.lt_of_lt_of_le hB hb.size
  have hne : B ≠ W.heap.size := by omega
  have FIN := Lib.hid (fun n => below_drewN (hb.alloc hb.size (.cells #[.int .i64 x.1, .int .i64 x.2] 42)) n)
  clear hb
  show Calls Try.prog 82 #[.agg #[.int .i64 x.1, .int .i64 x.2], .pointer (some ⟨B, 0, none⟩)] W fun e w' => e = .returned (.bool (Sp.inB x t)) ∧ Below w.heap.size w w'
  by_cases h1 : x.1 ≤ t
  · have e : Sp.inB x t = decide (t < x.2) := by simp [Sp.inB, h1]
    rw [e]; clear e
    go_enter Try.func82, Try.ntmps82
    go_wp2
    go_ret
    exact ⟨rfl, FIN.out 0⟩
  · have e : Sp.inB x t = false := by simp [Sp.inB, h1]
    have h2 : decide (x.1 ≤ t) = false := by simpa using h1
    rw [e]; clear e
    go_enter Try.func82, Try.ntmps82
    go_wp2
    go_ret
    exact ⟨rfl, FIN.out 0⟩

theorem index_empty (a : Option Addr) (c : Nat) (fv : Value) (w : World) : Calls Try.prog 111 #[.slice a 0 c, fv] w fun e w' => e = .returned (.int .i64 (-1)) ∧ w = w' := by
  go_enter Try.func111, Try.ntmps111
  go_wp2
  refine wp_loop_rounds 1 ?_
  rw [rounds_succ]
  go_wp2
  go_ret
  exact ⟨rfl, rfl⟩
theorem contains_empty (a : Option Addr) (c : Nat) (fv : Value) (w : World) : Calls Try.prog 83 #[.slice a 0 c, fv] w fun e w' => e = .returned (.bool false) ∧ w = w' := by
  go_enter Try.func83, Try.ntmps83
  go_wp2_with (go_at_call 111; refine (index_empty _ _ _ _).mono ?_; rintro e w' ⟨rfl, rfl⟩)
  go_ret
  exact ⟨rfl, rfl⟩

theorem contains_any (N : List Sp.S) (A : Option Addr) (cap : Nat) (t : Int) (B : Nat) (w : World) (hR : Rd encS 2 w w.heap.size A N) (hL : N.length ≤ 1000000000000) (hB : B < w.heap.size) (hcell : w.cell? ⟨B, 0, none⟩ = some (.int .i64 t)) :
    Calls Try.prog 83 #[.slice A N.length cap, .func (.func 82) #[] #[.pointer (some ⟨B, 0, none⟩)]] w fun e w' => e = .returned (.bool (Sp.hasB N t)) ∧ Below w.heap.size w w' := by
  by_cases hne : N = []
  · subst hne
    refine (contains_empty A cap _ w).mono ?_
    rintro e w' ⟨rfl, rfl⟩
    exact ⟨rfl, Below.refl _ _⟩
  · obtain ⟨b, off, rfl, hb, hc⟩ := hR hne
    have eg : ∀ args w, (callFunc 82 args).run Try.prog w = .ok (.enter 82 args) w := enters_of Try.func82 (by kernel_rfl) rfl
    have hcon := AnyQ.slices_ContainsFunc Try.hasSpan 2 Try.isAgg42 Try.sizeOf42 encS (fun _ => rfl) (fun x => Sp.inB x t) 82 #[.pointer (some ⟨B, 0, none⟩)] eg b off N.length cap N w
      (has_pred t B w hB hcell) (Nat.le_refl _) (by omega) hb (fun j hj i v hi => by
        rw [getElem!_pos N j hj] at hi
        exact hc j hj i v hi)
    rw [List.take_length] at hcon
    exact hcon

set_option maxHeartbeats 400000 in
theorem has_any (l : List Sp.S) (A : Option Addr) (cap : Nat) (t : Int) (w : World) (h : Rd encS 2 w w.heap.size A l) (hl : l.length ≤ 1000000000000) :
    Calls Try.prog 49 #[.slice A l.length cap, .int .i64 t] w fun e w' => e = .returned (.bool (Sp.has l t)) ∧ Below w.heap.size w w' := by
  have hL : (Sp.norm l).length ≤ 1000000000000 := Nat.le_trans (Sp.norm_length l) hl
  have hcall := fun W hb hB => norm_at (B := w.heap.size) (w := w) (wr := W) hb hB l A cap
  have HC := Lib.hid hcall; clear hcall
  obtain ⟨R, hR⟩ : ∃ R, R = Sp.has l t := ⟨_, rfl⟩
  rw [← hR]
  have HR : Hid (R = Sp.hasB (Sp.norm l) t) := hR
  obtain ⟨N, hN⟩ : ∃ N, N = Sp.norm l := ⟨_, rfl⟩
  rw [← hN] at hL HR
  have HN := Lib.hid hN; clear hN hR
  have H := Lib.hid h; clear h
  go_enter Try.func49, Try.ntmps49
  go_wp2_with (first | (go_at_call 34; refine (HC.out _ ((Below.refl _ _).alloc (Nat.le_refl _) _) (by simp) (H.out.below ((Below.refl _ _).alloc (Nat.le_refl _) _) |>.more (by simp)) hl).mono ?_; rw [← HN.out]; rintro e w1 ⟨A1, cap1, rfl, hR1, _, hb1, hb2⟩; have hlt : w.heap.size < w1.heap.size := Nat.lt_of_lt_of_le (by simp) hb2.out.size; have hc1 : w1.cell? ⟨w.heap.size, 0, none⟩ = some (.int .i64 t) := (hb2.out.cell (p := ⟨w.heap.size, 0, none⟩) (by simp)).trans (by simp)) | (go_at_call 83; refine (contains_any N _ _ t w.heap.size _ hR1.out hL hlt hc1).mono ?_; rw [← HR.out]; rintro e w2 ⟨rfl, hb3⟩))
  go_ret
  exact ⟨rfl, hb1.out.trans (hb3.mono (Nat.le_of_lt hlt))⟩
end Go.Proofs.Ytnhmibfgaoealaa
