import Derived.Test.YtnhmibfgaoealaaRof
import Derived.Laws.StructEq
namespace Go.Proofs.Ytnhmibfgaoealaa
open Go.RowKit

theorem neqS (p q p' q' : Int) (w : World) : (binOp .neq 42 (.agg #[.int .i64 p, .int .i64 q]) (.agg #[.int .i64 p', .int .i64 q'])).run Try.prog w = .ok (.bool (!(p == p' && q == q'))) w := by
  have u3 := Try.underlying3
  have a3 := Try.isAgg3
  have z3 := Try.sizeOf3
  have hS : Try.prog.underlying 42 = some (.struct (Try.prog.fieldsOf 42)) := by kernel_rfl
  have hp : Try.prog.stoodInHeld 42 = false := by kernel_rfl
  rw [run_neq_struct, show (10000 : Nat) = 9999 + 1 from rfl, run_equalIn_agg w 9999 42 _ _ hS hp]
  simp only [Program.fieldsOf, Try.underlying42]
  go_simp
  by_cases h1 : p = p' <;> by_cases h2 : q = q' <;> simp [h1, h2]

theorem eqGuardS : Try.prog.eqGuardType Try.prog.depth 42 = false := by kernel_rfl

set_option maxRecDepth 100000 in
set_option maxHeartbeats 400000 in
theorem same_any (l m : List Sp.S) (A1 A2 : Option Addr) (c1 c2 : Nat) (w : World) (h1 : Rd encS 2 w w.heap.size A1 l) (h2 : Rd encS 2 w w.heap.size A2 m) (l1 : l.length ≤ 4000000000000) :
    Calls Try.prog 33 #[.slice A1 l.length c1, .slice A2 m.length c2] w fun e w' => e = .returned (.bool (decide (l = m))) ∧ Below w.heap.size w w' := by
  by_cases hlen : l.length = m.length
  · obtain ⟨R, hR⟩ : ∃ R, R = decide (l = m) := ⟨_, rfl⟩
    rw [← hR]
    have HR := Lib.hid hR; clear hR
    have hl0 : ((l.length : Int) == (m.length : Int)) = true := by simp [hlen]
    have hl1 : ((l.length : Int) != (m.length : Int)) = false := by simp [hlen]
    have HL := Lib.hid hlen
    have H1 := Lib.hid h1; have H2 := Lib.hid h2; clear h1 h2 hlen
    go_enter Try.func33, Try.ntmps33
    go_wp2
    clear hl0 hl1
    go_loopw [5] (fun i wr => ∃ k : Nat, k ≤ l.length ∧ i = .int .i64 k ∧ Hid (l.take k = m.take k) ∧ Below w.heap.size w wr) (fun i _ => l.length - (intOf i).toNat)
    case atStart => exact ⟨0, Nat.zero_le _, rfl, (rfl : _ = _), Below.refl _ _⟩
    case round =>
      obtain ⟨k, hk, rfl, hsame, hb⟩ := hrel
      have HB := Lib.hid hb
      by_cases hlt : k < l.length
      · have hlt2 : k < m.length := by rw [← HL.out]; exact hlt
        obtain ⟨b, off, p, q, rfl, hbB, hx, c0, c1⟩ := H1.out.atS hb hlt
        obtain ⟨b', off', p', q', rfl, hbB', hx', c0', c1'⟩ := H2.out.atS hb hlt2
        clear hb
        have hg := eqGuardS
        by_cases he : p = p' ∧ q = q'
        · have hq : (!(p == p' && q == q')) = false := by simp [he.1, he.2]
          have hrun := fun w => neqS p q p' q' w
          rw [hq] at hrun
          have hs2 : Hid (l.take (k + 1) = m.take (k + 1)) := by show _ = _; rw [take_snoc hx.out, take_snoc hx'.out, hsame.out, he.1, he.2]
          clear he
          go_wp2_with fail
          go_quiet (fail)
          go_wp2
          go_roundw
          case rel => exact ⟨k + 1, by omega, by go_num, hs2.out, below_drewN HB.out _⟩
          case measure => simp [intOf]; omega
        · have hq : (!(p == p' && q == q')) = true := by
            cases h1 : (p == p' && q == q')
            · rfl
            · simp at h1; exact absurd h1 he
          have hrun := fun w => neqS p q p' q' w
          rw [hq] at hrun
          have hRf : R = false := by
            rw [HR.out]
            refine decide_eq_false fun h => he ?_
            rw [h, hx'.out] at hx
            have := hx.out
            injection this with this
            injection this with e1 e2
            exact ⟨e1.symm, e2.symm⟩
          subst hRf
          clear he HR
          go_wp2_with fail
          go_quiet (fail)
          go_wp2
          go_ret
          exact ⟨rfl, below_drewN HB.out _⟩
      · obtain rfl : k = l.length := by omega
        have hRt : R = true := by
          rw [HR.out]
          refine decide_eq_true ?_
          have := hsame.out
          rw [List.take_length, HL.out, List.take_length] at this
          exact this
        subst hRt
        clear HR hb
        go_wp2
        go_ret
        exact ⟨rfl, HB.out⟩
  · have hR : decide (l = m) = false := decide_eq_false fun h => hlen (by rw [h])
    rw [hR]
    have hl0 : ((l.length : Int) == (m.length : Int)) = false := by simp; omega
    have hl1 : ((l.length : Int) != (m.length : Int)) = true := by simp; omega
    clear h1 h2 hlen hR
    go_enter Try.func33, Try.ntmps33
    go_wp2
    go_ret
    exact ⟨rfl, Below.refl _ _⟩
end Go.Proofs.Ytnhmibfgaoealaa
