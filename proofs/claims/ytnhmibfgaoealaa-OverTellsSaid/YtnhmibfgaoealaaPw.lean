/-
  Words for layer 11: two lists of numbers that are the same.
-/
import Derived.Test.YtnhmibfgaoealaaMj
import Derived.Test.YtnhmibfgaoealaaCk0
namespace Go.Proofs.Ytnhmibfgaoealaa
open Go.RowKit

set_option maxRecDepth 100000 in
set_option maxHeartbeats 400000 in
theorem same11 (l m : List Int) (A1 A2 : Option Addr) (c1 c2 : Nat) (w : World) (h1 : Rn w A1 l) (h2 : Rn w A2 m) (l1 : l.length ≤ 900000) :
    Calls Try.prog 70 #[.slice A1 l.length c1, .slice A2 m.length c2] w (RetB w (decide (l = m))) := by
  by_cases hlen : l.length = m.length
  · obtain ⟨R, hR⟩ : ∃ R, R = decide (l = m) := ⟨_, rfl⟩
    rw [← hR]
    have HR := Lib.hid hR; clear hR
    have hl0 : ((l.length : Int) == (m.length : Int)) = true := by simp [hlen]
    have hl1 : ((l.length : Int) != (m.length : Int)) = false := by simp [hlen]
    have HL := Lib.hid hlen
    have H1 := Lib.hid h1; have H2 := Lib.hid h2; clear h1 h2 hlen
    go_enter Try.func70, Try.ntmps70
    go_wp2
    clear hl0 hl1
    go_loopw [5] (fun i wr => ∃ k : Nat, k ≤ l.length ∧ i = .int .i64 k ∧ Hid (l.take k = m.take k) ∧ Below w.heap.size w wr) (fun i _ => l.length - (intOf i).toNat)
    case atStart => exact ⟨0, Nat.zero_le _, rfl, (rfl : _ = _), Below.refl _ _⟩
    case round =>
      obtain ⟨k, hk, rfl, hsame, hb⟩ := hrel
      have HB := Lib.hid hb
      by_cases hlt : k < l.length
      · have hlt2 : k < m.length := by rw [← HL.out]; exact hlt
        have q1 : (k : Int) < (l.length : Int) := by omega
        have q2 : (k : Int) < (m.length : Int) := by omega
        have q3 : (0 : Int) ≤ (k : Int) := by omega
        obtain ⟨b, off, p, rfl, hbB, hx, c0⟩ := H1.out.atN hb hlt
        obtain ⟨b', off', p', rfl, hbB', hx', c0'⟩ := H2.out.atN hb hlt2
        clear hb
        by_cases he : p = p'
        · have hs2 : Hid (l.take (k + 1) = m.take (k + 1)) := by show _ = _; rw [take_snoc hx.out, take_snoc hx'.out, hsame.out, he]
          subst he
          go_wp2_with fail
          go_quiet (fail)
          go_wp2
          go_roundw
          case rel => exact ⟨k + 1, by omega, by go_num, hs2.out, below_drewN HB.out _⟩
          case measure => simp [intOf]; omega
        · have hq : (p == p') = false := beq_false_of_ne he
          have hq2 : (p != p') = true := by simp [he]
          have hRf : R = false := by
            rw [HR.out]
            refine decide_eq_false fun h => he ?_
            rw [h, hx'.out] at hx
            have := hx.out
            injection this with this
            exact this.symm
          subst hRf
          clear HR
          go_wp2_with fail
          go_quiet (fail)
          go_wp2
          go_ret
          exact ⟨rfl, below_drewN HB.out _⟩
      · obtain rfl : k = l.length := by omega
        have hRt : R = true := by
          rw [HR.out]
          refine decide_eq_true ?_
          have := hsame.out
          rw [List.take_length, HL.out, List.take_length] at this
          exact this
        subst hRt
        clear HR hb
        go_wp2
        go_ret
        exact ⟨rfl, HB.out⟩
  · have hR : decide (l = m) = false := decide_eq_false fun h => hlen (by rw [h])
    rw [hR]
    have hl0 : ((l.length : Int) == (m.length : Int)) = false := by simp; omega
    have hl1 : ((l.length : Int) != (m.length : Int)) = true := by simp; omega
    clear h1 h2 hlen hR
    go_enter Try.func70, Try.ntmps70
    go_wp2
    go_ret
    exact ⟨rfl, Below.refl _ _⟩
end Go.Proofs.Ytnhmibfgaoealaa
