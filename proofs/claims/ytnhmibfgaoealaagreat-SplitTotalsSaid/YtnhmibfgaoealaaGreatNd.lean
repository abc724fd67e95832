/-
  awake of lumperlaw14.
-/
import Derived.Test.YtnhmibfgaoealaaGreatMo
import Derived.Test.YtnhmibfgaoealaaGreatLb
namespace Go.Proofs.YtnhmibfgaoealaaGreat
open Go.RowKit
set_option linter.unusedVariables false
set_option linter.unusedSimpArgs false

/-- The setup of the laws' calls whose answers are fixed. -/
def awS : Su := ⟨1, 0, 1, 60, 0, 0, 0, 0, 0, 0, 0, 0, 0, 0, 0, (1, 1), [], [], [], [], [1], []⟩
def zS : Su := ⟨0, 0, 0, 0, 0, 0, 0, 0, 0, 0, 0, 0, 0, 0, 0, (0, 0), [], [], [], [], [], []⟩
def awH (g : Nat) : Sh := ⟨none, none, none, none, some ⟨g, 0, none⟩, none, 0, 0, 0, 0, 1, 0⟩
def zH : Sh := ⟨none, none, none, none, none, none, 0, 0, 0, 0, 0, 0⟩
theorem zR (w : World) : SuR w zS zH := ⟨.nil, .nil, .nil, .nil, .nil, .nil⟩
theorem b64_small {n : Int} (h : 0 ≤ n ∧ n ≤ 1000000) : B64 n := by unfold B64; omega
theorem zOk : SuOk zS := by
  have b : B64 0 := b64_small (by omega)
  exact ⟨b, b, b, b, b, b, b, b, b, b, b, b, b, b, b, ⟨b, b⟩, ⟨by decide, by simp [zS]⟩, ⟨by decide, by simp [zS]⟩, ⟨by decide, by simp [zS]⟩, ⟨by decide, by simp [zS]⟩, ⟨by decide, by simp [zS]⟩, ⟨by decide, by simp [zS]⟩⟩
theorem zFew : SuFew zS := by unfold SuFew zS; decide
theorem awR (w : World) (s : Su) (hw : s.ways = []) (he : s.elements = []) (hc : s.classes = []) (hg : s.gears = []) (hr : s.rates = [1]) (ht : s.tiers = []) : SuR (w.alloc (.cells #[.int .i64 1] 3)) s (awH w.heap.size) := by
  refine ⟨?_, ?_, ?_, ?_, ?_, ?_⟩
  · rw [hw]; exact .nil
  · rw [he]; exact .nil
  · rw [hc]; exact .nil
  · rw [hg]; exact .nil
  · rw [hr]; exact Rn.new w [1] 3
  · rw [ht]; exact .nil

def s14 : Su := { awS with nfrom := 79200, nto := 21600 }
theorem ok14 : SuOk s14 := by
  have b : ∀ n : Int, 0 ≤ n ∧ n ≤ 1000000 → B64 n := fun _ h => b64_small h
  refine ⟨b _ ?_, b _ ?_, b _ ?_, b _ ?_, b _ ?_, b _ ?_, b _ ?_, b _ ?_, b _ ?_, b _ ?_, b _ ?_, b _ ?_, b _ ?_, b _ ?_, b _ ?_, ⟨b _ ?_, b _ ?_⟩, ⟨by decide, by simp [awS, s14]⟩, ⟨by decide, by simp [awS, s14]⟩, ⟨by decide, by simp [awS, s14]⟩, ⟨by decide, by simp [awS, s14]⟩, ⟨by decide, by simp [awS, s14]; exact b64_small (by omega)⟩, ⟨by decide, by simp [awS, s14]⟩⟩ <;> decide
theorem few14' : SuFew s14 := by unfold SuFew; decide
theorem n14 : nightS s14 [(70000, 120000)] = [(79200, 108000)] := by decide
theorem n14z (l : List Sp.S) : nightS zS l = [] := if_neg (by decide)
theorem o14 {g : Nat} {w : World} {A : Option Addr} (r : SuR w s14 (awH g)) (h : Rs w A [(70000, 120000)]) : Calls Tryz.prog 27 #[.agg (s14.cells (awH g)).toArray, .slice A 1 1] w (RetS w [(79200, 108000)]) := sEq (pNightOf ok14 few14' r h (by decide) 1) n14
theorem o14z {w : World} {A : Option Addr} {l : List Sp.S} (h : Rs w A l) (hl : l.length ≤ 900000) (n : Nat) (hn : n = l.length) (c : Nat) : Calls Tryz.prog 27 #[.agg (zS.cells zH).toArray, .slice A n c] w (RetS w []) := by subst hn; exact sEq (pNightOf zOk zFew (zR w) h hl c) (n14z l)
theorem i14 : nightIsS s14 0 = true ∧ nightIsS s14 21600 = false ∧ nightIsS s14 165600 = true ∧ nightIsS s14 (-1) = false := by decide

end Go.Proofs.YtnhmibfgaoealaaGreat
