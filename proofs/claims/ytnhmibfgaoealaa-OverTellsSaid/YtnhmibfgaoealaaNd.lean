/-
  awake of lumperlaw14.
-/
import Derived.Test.YtnhmibfgaoealaaMo
import Derived.Test.YtnhmibfgaoealaaLb
namespace Go.Proofs.Ytnhmibfgaoealaa
open Go.RowKit
set_option linter.unusedVariables false
set_option linter.unusedSimpArgs false

/-- The setup of the laws' calls whose answers are fixed. -/
def awS : Su := ⟨1, 0, 1, 60, 0, 0, 0, 0, 0, 0, 0, 0, 0, 0, 0, (1, 1), [], [], [], [], [1], []⟩
def zS : Su := ⟨0, 0, 0, 0, 0, 0, 0, 0, 0, 0, 0, 0, 0, 0, 0, (0, 0), [], [], [], [], [], []⟩
def awH (g : Nat) : Sh := ⟨none, none, none, none, some ⟨g, 0, none⟩, none, 0, 0, 0, 0, 1, 0⟩
def zH : Sh := ⟨none, none, none, none, none, none, 0, 0, 0, 0, 0, 0⟩
theorem zR (w : World) : SuR w zS zH := ⟨.nil, .nil, .nil, .nil, .nil, .nil⟩
theorem b64_small {n : Int} (h : 0 ≤ n ∧ n ≤ 1000000) : B64 n := by unfold B64; omega
theorem zOk : SuOk zS := by
  have b : B64 0 := b64_small (by omega)
  exact ⟨b, b, b, b, b, b, b, b, b, b, b, b, b, b, b, ⟨b, b⟩, ⟨by decide, by simp [zS]⟩, ⟨by decide, by simp [zS]⟩, ⟨by decide, by simp [zS]⟩, ⟨by decide, by simp [zS]⟩, ⟨by decide, by simp [zS]⟩, ⟨by decide, by simp [zS]⟩⟩
theorem zFew : SuFew zS := by unfold SuFew zS; decide
theorem awR (w : World) (s : Su) (hw : s.ways = []) (he : s.elements = []) (hc : s.classes = []) (hg : s.gears = []) (hr : s.rates = [1]) (ht : s.tiers = []) : SuR (w.alloc (.cells #[.int .i64 1] 3)) s (awH w.heap.size) := by
  refine ⟨?_, ?_, ?_, ?_, ?_, ?_⟩
  · rw [hw]; exact .nil
  · rw [he]; exact .nil
  · rw [hc]; exact .nil
  · rw [hg]; exact .nil
  · rw [hr]; exact Rn.new w [1] 3
  · rw [ht]; exact .nil

def s14 : Su := { awS with nfrom := 79200, nto := 21600 }
theorem ok14 : SuOk s14 := by
  have b : ∀ n : Int, 0 ≤ n ∧ n ≤ 1000000 → B64 n := fun _ h => b64_small h
  refine ⟨b _ ?_, b _ ?_, b _ ?_, b _ ?_, b _ ?_, b _ ?_, b _ ?_, b _ ?_, b _ ?_, b _ ?_, b _ ?_, b _ ?_, b _ ?_, b _ ?_, b _ ?_, ⟨b _ ?_, b _ ?_⟩, ⟨by decide, by simp [awS, s14]⟩, ⟨by decide, by simp [awS, s14]⟩, ⟨by decide, by simp [awS, s14]⟩, ⟨by decide, by simp [awS, s14]⟩, ⟨by decide, by simp [awS, s14]; exact b64_small (by omega)⟩, ⟨by decide, by simp [awS, s14]⟩⟩ <;> decide
theorem few14' : SuFew s14 := by unfold SuFew; decide
theorem n14 : nightS s14 [(70000, 120000)] = [(79200, 108000)] := by decide
theorem n14z (l : List Sp.S) : nightS zS l = [] := if_neg (by decide)
theorem o14 {g : Nat} {w : World} {A : Option Addr} (r : SuR w s14 (awH g)) (h : Rs w A [(70000, 120000)]) : Calls Try.prog 54 #[.agg (s14.cells (awH g)).toArray, .slice A 1 1] w (RetS w [(79200, 108000)]) := sEq (pNightOf ok14 few14' r h (by decide) 1) n14
theorem o14z {w : World} {A : Option Addr} {l : List Sp.S} (h : Rs w A l) (hl : l.length ≤ 900000) (n : Nat) (hn : n = l.length) (c : Nat) : Calls Try.prog 54 #[.agg (zS.cells zH).toArray, .slice A n c] w (RetS w []) := by subst hn; exact sEq (pNightOf zOk zFew (zR w) h hl c) (n14z l)
theorem j14 {g : Nat} {w : World} (r : SuR w s14 (awH g)) (t : Int) {b : Bool} (e : nightIsS s14 t = b) : Calls Try.prog 56 #[.agg (s14.cells (awH g)).toArray, .int .i64 t] w (RetB w b) := bEq (pNightIs ok14 few14' r t) e
theorem i14 : nightIsS s14 0 = true ∧ nightIsS s14 21600 = false ∧ nightIsS s14 165600 = true ∧ nightIsS s14 (-1) = false := by decide

set_option maxRecDepth 100000 in
set_option maxHeartbeats 1000000 in
theorem awake14 (w : World) : Calls Try.prog 52 #[] w (RetB w true) := by
  have hu0 := (awR w s14 rfl rfl rfl rfl rfl rfl).alloc (.cells #[.int .i64 1, .slice none 0 0, .int .i64 1, .int .i64 1, .slice none 0 0, .slice none 0 0, .slice none 0 0, .int .i64 0, .int .i64 1, .int .i64 60, .int .i64 0, .int .i64 0, .int .i64 0, .int .i64 0, .int .i64 0, .int .i64 0, .int .i64 79200, .int .i64 21600, .slice (some ⟨w.heap.size, 0, none⟩) 1 1, .int .i64 0, .int .i64 0, .int .i64 0, .slice none 0 0] 35)
  have hs0 := Bx.new_at (w.alloc (.cells #[.int .i64 1] 3)) [.int .i64 1, .slice none 0 0, .int .i64 1, .int .i64 1, .slice none 0 0, .slice none 0 0, .slice none 0 0, .int .i64 0, .int .i64 1, .int .i64 60, .int .i64 0, .int .i64 0, .int .i64 0, .int .i64 0, .int .i64 0, .int .i64 0, .int .i64 79200, .int .i64 21600, .slice (some ⟨w.heap.size, 0, none⟩) 1 1, .int .i64 0, .int .i64 0, .int .i64 0, .slice none 0 0] 35 (w.heap.size + 1) (by simp)
  have X0 := ((Ext.refl w).alloc (.cells #[.int .i64 1] 3)).alloc (.cells #[.int .i64 1, .slice none 0 0, .int .i64 1, .int .i64 1, .slice none 0 0, .slice none 0 0, .slice none 0 0, .int .i64 0, .int .i64 1, .int .i64 60, .int .i64 0, .int .i64 0, .int .i64 0, .int .i64 0, .int .i64 0, .int .i64 0, .int .i64 79200, .int .i64 21600, .slice (some ⟨w.heap.size, 0, none⟩) 1 1, .int .i64 0, .int .i64 0, .int .i64 0, .slice none 0 0] 35)
  have i1 := Lib.hid i14.1; have i2 := Lib.hid i14.2.1; have i3 := Lib.hid i14.2.2.1; have i4 := Lib.hid i14.2.2.2
  go_enter Try.func52, Try.ntmps52
  go_wp2_with (first | (refine build_at rfl 35 _ rfl #[.int .i64 1, .slice none 0 0, .int .i64 1, .int .i64 1, .slice none 0 0, .slice none 0 0, .slice none 0 0, .int .i64 0, .int .i64 1, .int .i64 60, .int .i64 0, .int .i64 0, .int .i64 0, .int .i64 0, .int .i64 0, .int .i64 0, .int .i64 79200, .int .i64 21600, .slice (some ⟨w.heap.size, 0, none⟩) 1 1, .int .i64 0, .int .i64 0, .int .i64 0, .slice none 0 0] (by kernel_rfl) ?_) | (refine store_new rfl 35 _ _ rfl (w.alloc (.cells #[.int .i64 1] 3)) (w.heap.size + 1) (by simp) _ #[.int .i64 1, .slice none 0 0, .int .i64 1, .int .i64 1, .slice none 0 0, .slice none 0 0, .slice none 0 0, .int .i64 0, .int .i64 1, .int .i64 60, .int .i64 0, .int .i64 0, .int .i64 0, .int .i64 0, .int .i64 0, .int .i64 0, .int .i64 79200, .int .i64 21600, .slice (some ⟨w.heap.size, 0, none⟩) 1 1, .int .i64 0, .int .i64 0, .int .i64 0, .slice none 0 0] 35 rfl rfl rfl su_size0 rfl (by simp [Value.oneCell']) ?_) | (refine load_box rfl 35 _ rfl _ rfl _ _ hs0 _ Try.underlying35 rfl su_size0 ?_))
  refine (o14 (hu0.alloc _) (Rs.new_g _ [(70000, 120000)] _ _ (by simp))).mono ?_
  rintro e w1 ⟨A1, cap1, rfl, r1, x1, _⟩
  have hu1 := (hu0.alloc _).ext x1
  have hs1 := (hs0.alloc _).ext x1
  have X1 := (X0.alloc _).trans x1
  go_wp2_with fail
  refine (bEq (cSame (r1.alloc _) (Rs.new_g _ [(79200, 108000)] _ _ (by simp)) (by decide) _ _) (b' := true) (decide_eq_true rfl)).mono ?_
  rintro e w2 ⟨rfl, x2⟩
  have hu2 := (hu1.alloc _).ext x2
  have hs2 := (hs1.alloc _).ext x2
  have hl2 := (r1.alloc _).ext x2
  have X2 := (X1.alloc _).trans x2
  go_wp2_with (first | (refine load_box rfl 35 _ rfl _ rfl _ _ hs2 _ Try.underlying35 rfl su_size0 ?_))
  refine (j14 hu2 0 i1.out).mono ?_
  rintro e w3 ⟨rfl, x3⟩
  have hu3 := hu2.ext x3; clear hu2
  have hs3 := hs2.ext x3; clear hs2
  have hl3 := hl2.ext x3; clear hl2
  have X3 := X2.trans x3
  go_wp2_with (first | (refine load_box rfl 35 _ rfl _ rfl _ _ hs3 _ Try.underlying35 rfl su_size0 ?_))
  refine (j14 hu3 21600 i2.out).mono ?_
  rintro e w4 ⟨rfl, x4⟩
  have hu4 := hu3.ext x4; clear hu3
  have hs4 := hs3.ext x4; clear hs3
  have hl4 := hl3.ext x4; clear hl3
  have X4 := X3.trans x4
  go_wp2_with (first | (refine load_box rfl 35 _ rfl _ rfl _ _ hs4 _ Try.underlying35 rfl su_size0 ?_))
  refine (j14 hu4 165600 i3.out).mono ?_
  rintro e w5 ⟨rfl, x5⟩
  have hu5 := hu4.ext x5; clear hu4
  have hs5 := hs4.ext x5; clear hs4
  have hl5 := hl4.ext x5; clear hl4
  have X5 := X4.trans x5
  go_wp2_with (first | (refine load_box rfl 35 _ rfl _ rfl _ _ hs5 _ Try.underlying35 rfl su_size0 ?_))
  refine (j14 hu5 (-1) i4.out).mono ?_
  rintro e w6 ⟨rfl, x6⟩
  have hu6 := hu5.ext x6; clear hu5
  have hs6 := hs5.ext x6; clear hs5
  have hl6 := hl5.ext x6; clear hl5
  have X6 := X5.trans x6
  go_wp2_with fail
  refine (o14z hl6 (by decide) _ rfl _).mono ?_
  rintro e w7 ⟨A7, cap7, rfl, r7, x7, _⟩
  have hu7 := hu6.ext x7; clear hu6
  have hs7 := hs6.ext x7; clear hs6
  have hl7 := hl6.ext x7; clear hl6
  have X7 := X6.trans x7
  go_wp2
  go_ret
  exact ⟨rfl, X7⟩

end Go.Proofs.Ytnhmibfgaoealaa
