/-
  event.compare, Less; lumperref08.Less.
-/
import Derived.Test.YtmbjbbflhlndcaaJp
import Derived.Test.YtmbjbbflhlndcaaJn
import Derived.Test.YtmbjbbflhlndcaaJt
import Derived.Shelf.SlSortCmp.InsertionK
namespace Go.Proofs.Ytmbjbbflhlndcaa
open Go.RowKit BigFrame Go.Sort
set_option linter.unusedVariables false
set_option linter.unusedSimpArgs false

def orI (x y : Int) : Int := if x ≠ 0 then x else y
set_option maxRecDepth 100000 in
theorem or_two {w : World} {A : Option Addr} {x y : Int} (h : Rn w A [x, y]) (c : Nat) : Calls Try.prog 89 #[.slice A 2 c] w fun e w' => e = .returned (.int .i64 (orI x y)) ∧ w = w' := by
  obtain ⟨b, off, rfl, hb, hc⟩ := h (by simp)
  have c0 := hc 0 (by simp) 0 (.int .i64 x) rfl
  have c1 := hc 1 (by simp) 0 (.int .i64 y) rfl
  simp only [Nat.zero_mul, Nat.one_mul, Nat.add_zero] at c0 c1
  by_cases hx : x = 0
  · have e : orI x y = y := by unfold orI; rw [if_neg (by simpa using hx)]
    rw [e]
    by_cases hy : y = 0
    · subst hx hy
      clear e hc h
      go_enter Try.func89, Try.ntmps89
      go_wp2_with fail
      go_loop [8] (fun i => ∃ k : Nat, k ≤ 2 ∧ i = .int .i64 k) (fun i => 2 - (intOf i).toNat)
      case atStart => exact ⟨0, by omega, rfl⟩
      case round =>
        obtain ⟨k, hk, rfl⟩ := hrel
        by_cases k0 : k = 0
        · subst k0
          go_wp2
          go_round
          case rel => exact ⟨1, by omega, by go_num⟩
          case measure => simp [intOf]
        · by_cases k1 : k = 1
          · subst k1
            go_wp2
            go_round
            case rel => exact ⟨2, by omega, by go_num⟩
            case measure => simp [intOf]
          · obtain rfl : k = 2 := by omega
            go_wp2
            go_ret
            exact ⟨rfl, rfl⟩
    · have hy1 : (y != 0) = true := by rw [bne_iff_ne]; exact hy
      have hy2 : (y == 0) = false := by rw [beq_eq_false_iff_ne]; exact hy
      subst hx
      clear e hc h hy
      go_enter Try.func89, Try.ntmps89
      go_wp2_with fail
      go_loop [8] (fun i => ∃ k : Nat, k ≤ 1 ∧ i = .int .i64 k) (fun i => 2 - (intOf i).toNat)
      case atStart => exact ⟨0, by omega, rfl⟩
      case round =>
        obtain ⟨k, hk, rfl⟩ := hrel
        by_cases k0 : k = 0
        · subst k0
          go_wp2
          go_round
          case rel => exact ⟨1, by omega, by go_num⟩
          case measure => simp [intOf]
        · obtain rfl : k = 1 := by omega
          go_wp2
          go_ret
          exact ⟨rfl, rfl⟩
  · have e : orI x y = x := by unfold orI; rw [if_pos hx]
    rw [e]
    have hy1 : (x != 0) = true := by rw [bne_iff_ne]; exact hx
    have hy2 : (x == 0) = false := by rw [beq_eq_false_iff_ne]; exact hx
    clear e hc h hx
    go_enter Try.func89, Try.ntmps89
    go_wp2_with fail
    go_loop [8] (fun i => i = .int .i64 (0 : Nat)) (fun i => 2 - (intOf i).toNat)
    case atStart => rfl
    case round =>
      subst hrel
      go_wp2
      go_ret
      exact ⟨rfl, rfl⟩
/-- How two events lie. -/
def cmpE (a b : Ev) : Int := orI (cmpI a.at_ b.at_) (cmpI a.id b.id)
def lessE (a b : Ev) : Bool := decide (a.at_ < b.at_ ∨ a.at_ = b.at_ ∧ a.id < b.id)
theorem cmpE_less (a b : Ev) : decide (cmpE a b < 0) = lessE a b := by
  unfold lessE cmpE orI cmpI
  by_cases h1 : a.at_ < b.at_
  · simp [h1]
  · by_cases h2 : b.at_ < a.at_
    · have : ¬ a.at_ = b.at_ := by omega
      simp [h1, h2, this]
    · have : a.at_ = b.at_ := by omega
      by_cases h3 : a.id < b.id
      · simp [this, h3]
      · by_cases h4 : b.id < a.id <;> simp [this, h3, h4]

set_option maxRecDepth 100000 in
set_option maxHeartbeats 1000000 in
theorem pCompare (a b : Ev) (w : World) : Calls Try.prog 71 #[.agg (encV a).toArray, .agg (encV b).toArray] w fun e w' => e = .returned (.int .i64 (cmpE a b)) ∧ ∃ n os, w' = grow (w.drewN n) os := by
  have HA := Lib.hid ((Bx.new w (encV a) 23).alloc (.cells (encV b).toArray 23))
  have HB : Hid (Bx ((w.alloc (.cells (encV a).toArray 23)).alloc (.cells (encV b).toArray 23)) (w.heap.size + 1) (encV b) 23) := by
    have := Bx.new (w.alloc (.cells (encV a).toArray 23)) (encV b) 23
    rw [show (w.alloc (.cells (encV a).toArray 23)).heap.size = w.heap.size + 1 from by simp] at this
    exact this
  have k1 := Lib.hid (compare_any a.at_ b.at_)
  have k2 := Lib.hid (compare_any a.id b.id)
  have hE : Hid (cmpE a b = orI (cmpI a.at_ b.at_) (cmpI a.id b.id)) := rfl
  obtain ⟨r1, hr1⟩ : ∃ r, cmpI a.at_ b.at_ = r := ⟨_, rfl⟩
  obtain ⟨r2, hr2⟩ : ∃ r, cmpI a.id b.id = r := ⟨_, rfl⟩
  rw [hr1] at k1 hE
  rw [hr2] at k2 hE
  rw [hE.out]
  clear hr1 hr2 hE
  go_enter Try.func71, Try.ntmps71
  go_wp2_with fail
  have hg2 : ∃ os, (w.alloc (.cells (encV a).toArray 23)).alloc (.cells (encV b).toArray 23) = grow w os := ⟨_, by rw [alloc_eq_grow, alloc_eq_grow, grow_grow]⟩
  obtain ⟨W, hW⟩ : ∃ W, (w.alloc (.cells (encV a).toArray 23)).alloc (.cells (encV b).toArray 23) = W := ⟨_, rfl⟩
  rw [hW] at HA HB hg2 ⊢
  clear hW
  have HS : Hid (Bx (W.drewN 1) w.heap.size (encV a) 23 ∧ Bx (W.drewN 1) (w.heap.size + 1) (encV b) 23) := ⟨HA.out.drewN 1, HB.out.drewN 1⟩
  refine held_start (S := fun W => Bx W w.heap.size (encV a) 23 ∧ Bx W (w.heap.size + 1) (encV b) 23) 13 rfl (by kernel_rfl) ?_
  have hW3 : { W with drawn := W.drawn + 1 } = W.drewN 1 := rfl
  rw [hW3]
  clear hW3
  refine held_takeV (i := 0) rfl (by kernel_rfl) (by kernel_rfl) (by kernel_rfl) (.pointer (some ⟨w.heap.size, 2, none⟩)) rfl (fun w _ => by go_simp) HS.out _ (by simp [Act.put]; rfl) ?_
  refine held_takeV (i := 1) rfl (by kernel_rfl) (by kernel_rfl) (by kernel_rfl) (.int .i64 a.at_) rfl (fun w h => by have cc := h.1.cell 2 _ rfl; go_simp) HS.out _ (by simp [Act.put]; rfl) ?_
  refine held_takeV (i := 2) rfl (by kernel_rfl) (by kernel_rfl) (by kernel_rfl) (.pointer (some ⟨w.heap.size + 1, 2, none⟩)) rfl (fun w _ => by go_simp) HS.out _ (by simp [Act.put]; rfl) ?_
  refine held_takeV (i := 3) rfl (by kernel_rfl) (by kernel_rfl) (by kernel_rfl) (.int .i64 b.at_) rfl (fun w h => by have cc := h.2.cell 2 _ rfl; go_simp) HS.out _ (by simp [Act.put]; rfl) ?_
  refine held_takeV (i := 5) rfl (by kernel_rfl) (by kernel_rfl) (by kernel_rfl) (.pointer (some ⟨w.heap.size, 0, none⟩)) rfl (fun w _ => by go_simp) HS.out _ (by simp [Act.put]; rfl) ?_
  refine held_takeV (i := 6) rfl (by kernel_rfl) (by kernel_rfl) (by kernel_rfl) (.int .i64 a.id) rfl (fun w h => by have cc := h.1.cell 0 _ rfl; go_simp) HS.out _ (by simp [Act.put]; rfl) ?_
  refine held_takeV (i := 7) rfl (by kernel_rfl) (by kernel_rfl) (by kernel_rfl) (.pointer (some ⟨w.heap.size + 1, 0, none⟩)) rfl (fun w _ => by go_simp) HS.out _ (by simp [Act.put]; rfl) ?_
  refine held_takeV (i := 8) rfl (by kernel_rfl) (by kernel_rfl) (by kernel_rfl) (.int .i64 b.id) rfl (fun w h => by have cc := h.2.cell 0 _ rfl; go_simp) HS.out _ (by simp [Act.put]; rfl) ?_
  refine held_all (i := 4) rfl (by kernel_rfl) rfl ?_
  go_wp2_with fail
  refine (k1.out _).mono ?_
  rintro e1 w1 ⟨rfl, rfl⟩
  refine ⟨HS.out, ?_⟩
  refine held_all (i := 9) rfl (by kernel_rfl) rfl ?_
  go_wp2_with fail
  refine (k2.out _).mono ?_
  rintro e1 w1 ⟨rfl, rfl⟩
  refine ⟨HS.out, ?_⟩
  refine held_all (i := 10) rfl (by kernel_rfl) rfl ?_
  go_wp2_with fail
  have HS2 : Hid (Bx ((W.drewN 1).alloc (.cells #[.int .i64 r1, .int .i64 r2] 3)) w.heap.size (encV a) 23 ∧ Bx ((W.drewN 1).alloc (.cells #[.int .i64 r1, .int .i64 r2] 3)) (w.heap.size + 1) (encV b) 23) := ⟨HS.out.1.alloc _, HS.out.2.alloc _⟩
  refine ⟨HS2.out, ?_⟩
  refine held_all (i := 11) rfl (by kernel_rfl) rfl ?_
  go_wp2_with fail
  refine (or_two (Rw.new_at elN (W.drewN 1) [r1, r2] 3 _ rfl) 2).mono ?_
  rintro e1 w1 ⟨rfl, rfl⟩
  refine ⟨HS2.out, ?_⟩
  refine held_assign (i := 12) rfl (by kernel_rfl) (by kernel_rfl) (by kernel_rfl) _ rfl rfl HS2.out _ (by simp [Act.put]; rfl) ?_
  refine held_done (by kernel_rfl) ?_ _
  go_wp2
  go_ret
  obtain ⟨os, rfl⟩ := hg2
  refine ⟨rfl, 1, os ++ #[.cells #[.int .i64 r1, .int .i64 r2] 3], ?_⟩
  rw [alloc_eq_grow]
  show grow (grow w os).drew _ = _
  rw [drew_grow, grow_grow]
  rfl

theorem ext_grow (w : World) (n : Nat) (os : Array Obj) : Ext w (grow (w.drewN n) os) := by
  refine ⟨rfl, rfl, rfl, ?_, fun i hi => ?_⟩
  · show w.heap.size ≤ (w.heap ++ os).size; simp
  · show (w.heap ++ os)[i]? = _
    rw [Array.getElem?_append_left hi]
set_option maxRecDepth 100000 in
theorem pLess (a b : Ev) (w : World) : Calls Try.prog 38 #[.agg (encV a).toArray, .agg (encV b).toArray] w (RetB w (lessE a b)) := by
  have HA := Lib.hid ((Bx.new w (encV a) 23).alloc (.cells (encV b).toArray 23))
  have HB : Hid (Bx ((w.alloc (.cells (encV a).toArray 23)).alloc (.cells (encV b).toArray 23)) (w.heap.size + 1) (encV b) 23) := by
    have := Bx.new (w.alloc (.cells (encV a).toArray 23)) (encV b) 23
    rw [show (w.alloc (.cells (encV a).toArray 23)).heap.size = w.heap.size + 1 from by simp] at this
    exact this
  have X := Lib.hid (((Ext.refl w).alloc (.cells (encV a).toArray 23)).alloc (.cells (encV b).toArray 23))
  have hL := Lib.hid (cmpE_less a b)
  obtain ⟨L, hLL⟩ : ∃ L, lessE a b = L := ⟨_, rfl⟩
  rw [hLL] at hL ⊢
  clear hLL
  go_enter Try.func38, Try.ntmps38
  go_wp2_with (first | (refine load_box rfl 23 _ rfl w.heap.size rfl _ _ HA.out _ Try.underlying23 rfl sizeV ?_) | (refine load_box rfl 23 _ rfl (w.heap.size + 1) rfl _ _ HB.out _ Try.underlying23 rfl sizeV ?_))
  refine (pCompare a b _).mono ?_
  rintro e w' ⟨rfl, n, os, rfl⟩
  have X2 := Lib.hid (X.out.trans (ext_grow _ n os))
  obtain ⟨W, hW⟩ : ∃ W, grow (((w.alloc (.cells (encV a).toArray 23)).alloc (.cells (encV b).toArray 23)).drewN n) os = W := ⟨_, rfl⟩
  rw [hW] at X2 ⊢
  obtain ⟨r, hr⟩ : ∃ r, cmpE a b = r := ⟨_, rfl⟩
  rw [hr] at hL ⊢
  clear hW hr
  have hl := hL.out
  go_wp2
  go_ret
  exact ⟨by rw [← hL.out]; rfl, X2.out⟩
theorem lessE_or (a b : Ev) : lessE a b = (decide (a.at_ < b.at_) || (a.at_ == b.at_ && decide (a.id < b.id))) := by
  unfold lessE
  by_cases h1 : a.at_ < b.at_ <;> by_cases h2 : a.at_ = b.at_ <;> by_cases h3 : a.id < b.id <;> simp [h1, h2, h3]
set_option maxRecDepth 100000 in
theorem rLess (a b : Ev) (w : World) : Calls Try.prog 39 #[.agg (encV a).toArray, .agg (encV b).toArray] w (RetB w (lessE a b)) := by
  have HA := (Bx.new w (encV a) 23).alloc (.cells (encV b).toArray 23)
  have HB : Bx ((w.alloc (.cells (encV a).toArray 23)).alloc (.cells (encV b).toArray 23)) (w.heap.size + 1) (encV b) 23 := by
    have := Bx.new (w.alloc (.cells (encV a).toArray 23)) (encV b) 23
    rw [show (w.alloc (.cells (encV a).toArray 23)).heap.size = w.heap.size + 1 from by simp] at this
    exact this
  have X := Lib.hid (((Ext.refl w).alloc (.cells (encV a).toArray 23)).alloc (.cells (encV b).toArray 23))
  have a0 := HA.cell 0 _ rfl; have a2 := HA.cell 2 _ rfl; have b0 := HB.cell 0 _ rfl; have b2 := HB.cell 2 _ rfl
  obtain ⟨L, hL⟩ : ∃ L, lessE a b = L := ⟨_, rfl⟩
  rw [hL]
  have hL2 := Lib.hid ((lessE_or a b).symm.trans hL)
  clear HA HB hL
  by_cases h1 : a.at_ < b.at_
  · have q1 : decide (a.at_ < b.at_) = true := decide_eq_true h1
    have hLt : L = true := by rw [← hL2.out]; simp [h1]
    subst hLt
    clear hL2 h1
    go_enter Try.func39, Try.ntmps39
    go_wp2
    go_ret
    exact ⟨rfl, X.out⟩
  · have q1 : decide (a.at_ < b.at_) = false := decide_eq_false h1
    by_cases h2 : (a.at_ == b.at_) = true
    · have hLt : L = decide (a.id < b.id) := by rw [← hL2.out, h2, q1]; simp
      subst hLt
      clear hL2 h1
      go_enter Try.func39, Try.ntmps39
      go_wp2
      go_ret
      exact ⟨rfl, X.out⟩
    · replace h2 : (a.at_ == b.at_) = false := by simpa using h2
      have hLt : L = false := by rw [← hL2.out, h2, q1]; simp
      subst hLt
      clear hL2 h1
      go_enter Try.func39, Try.ntmps39
      go_wp2
      go_ret
      exact ⟨rfl, X.out⟩
end Go.Proofs.Ytmbjbbflhlndcaa
