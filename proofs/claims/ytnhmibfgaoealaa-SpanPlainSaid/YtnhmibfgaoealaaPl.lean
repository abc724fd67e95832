/-
  'plain' of lumperlaw03: true just where the spans are plain.
-/
import Derived.Test.YtnhmibfgaoealaaWt
namespace Go.Proofs.Ytnhmibfgaoealaa
open Go.RowKit

theorem plainFrom_pre {lo : Int} {o r : List Sp.S} (h : Sp.PlainFrom lo (o ++ r)) : Sp.PlainFrom lo o := by
  induction o generalizing lo with
  | nil => trivial
  | cons s t ih => exact ⟨h.1, h.2.1, h.2.2.1, ih h.2.2.2⟩

theorem plain_take_succ {l : List Sp.S} {k : Nat} {p q : Int} (hx : l[k]? = some (p, q)) : Sp.Plain (l.take (k + 1)) ↔ Sp.Plain (l.take k) ∧ 0 ≤ p ∧ p < q ∧ q ≤ 32054400 ∧ ∀ y ∈ l.take k, y.2 + 1 ≤ p := by
  rw [take_snoc hx]; exact Sp.plainFrom_snoc

theorem plain_last {l : List Sp.S} {k : Nat} {p' q' : Int} (hy : l[k]? = some (p', q')) (h : Sp.Plain (l.take (k + 1))) : ∀ y ∈ l.take (k + 1), y.2 ≤ q' := by
  obtain ⟨_, _, h3, _, h5⟩ := (plain_take_succ hy).1 h
  rw [take_snoc hy]
  intro y hm
  rcases List.mem_append.1 hm with hm | hm
  · have := h5 y hm; omega
  · simp at hm; subst hm; exact Int.le_refl _

theorem plain_all {l : List Sp.S} (h : Sp.Plain l) (k : Nat) : Sp.Plain (l.take k) := by
  have : l = l.take k ++ l.drop k := (List.take_append_drop k l).symm
  rw [this] at h
  exact plainFrom_pre h

set_option maxRecDepth 100000 in
set_option maxHeartbeats 1000000 in
theorem plain03 (l : List Sp.S) (A : Option Addr) (cap : Nat) (R : Bool) (hR : R = true ↔ Sp.Plain l) (w : World) (h : Rs w A l) (hl : l.length ≤ 900000) : Calls Try.prog 51 #[.slice A l.length cap] w (RetB w R) := by
  have HR := Lib.hid hR
  have H := Lib.hid h
  clear hR h
  go_enter Try.func51, Try.ntmps51
  go_wp2
  go_loopw [3] (fun i wr => ∃ k : Nat, k ≤ l.length ∧ i = .int .i64 k ∧ Hid (Sp.Plain (l.take k)) ∧ Below w.heap.size w wr) (fun i _ => l.length - (intOf i).toNat)
  case atStart => exact ⟨0, Nat.zero_le _, rfl, (trivial : Sp.Plain []), Below.refl _ _⟩
  case round =>
    obtain ⟨k, hk, rfl, hpl, hb⟩ := hrel
    have HB := Lib.hid hb
    by_cases hlt : k < l.length
    · obtain ⟨b, off, p, q, rfl, hbB, hx, c0, c1⟩ := H.out.atS hb hlt
      have q3 : (k : Int) < (l.length : Int) := by omega
      have q4 : (0 : Int) ≤ (k : Int) := by omega
      have hno : ∀ (P : Prop), (Sp.Plain l → P) → ¬ P → R = false := fun P f g => by
        cases hRR : R with
        | false => rfl
        | true => exact absurd (f (HR.out.1 hRR)) g
      have hgo : Sp.Plain l → 0 ≤ p ∧ p < q ∧ q ≤ 32054400 ∧ ∀ y ∈ l.take k, y.2 + 1 ≤ p := fun hP => ((plain_take_succ hx.out).1 (plain_all hP (k + 1))).2
      have hno := Lib.hid hno; have hgo := Lib.hid hgo
      by_cases g1 : p < 0
      · obtain rfl : R = false := hno.out _ (fun hP => (hgo.out hP).1) (by omega)
        clear hb hno hgo
        go_wp2_with fail
        go_quiet (fail)
        go_wp2
        go_ret
        exact ⟨rfl, below_drewN HB.out _⟩
      · have f1 : decide (p < 0) = false := decide_eq_false g1
        by_cases g2 : q ≤ p
        · obtain rfl : R = false := hno.out _ (fun hP => (hgo.out hP).2.1) (by omega)
          clear hb hno hgo
          go_wp2_with fail
          go_quiet (fail)
          go_wp2
          go_ret
          exact ⟨rfl, below_drewN HB.out _⟩
        · have f2 : decide (q ≤ p) = false := decide_eq_false g2
          by_cases g3 : 32054400 < q
          · obtain rfl : R = false := hno.out _ (fun hP => (hgo.out hP).2.2.1) (by omega)
            clear hb hno hgo
            go_wp2_with fail
            go_quiet (fail)
            go_wp2
            go_ret
            exact ⟨rfl, below_drewN HB.out _⟩
          · have f3 : decide (32054400 < q) = false := decide_eq_false g3
            rcases Nat.eq_zero_or_pos k with rfl | hkp
            · have hn : Hid (Sp.Plain (l.take (0 + 1))) := (plain_take_succ hx.out).2 ⟨hpl.out, by omega, by omega, by omega, by simp⟩
              have f4 : decide ((0 : Int) < ((0 : Nat) : Int)) = false := by decide
              rw [Nat.zero_mul, Nat.add_zero] at c0 c1
              have f5 : decide ((0 : Int) < (0 : Int)) = false := by decide
              clear hb hno hgo
              go_wp2_with fail
              go_quiet (fail)
              go_wp2
              go_roundw
              case rel => exact ⟨0 + 1, by omega, by go_num, hn.out, below_drewN HB.out _⟩
              case measure => simp [intOf]; omega
            · obtain ⟨j, rfl⟩ : ∃ j, k = j + 1 := ⟨k - 1, by omega⟩
              obtain ⟨b', off', p', q', hA, hbB', hy, d0, d1⟩ := H.out.atS hb (show j < l.length by omega)
              obtain ⟨rfl, rfl⟩ : b = b' ∧ off = off' := by cases hA; exact ⟨rfl, rfl⟩
              have hlast := Lib.hid (plain_last hy.out hpl.out)
              have hjm : Hid ((p', q') ∈ l.take (j + 1)) := by show _ ∈ _; rw [take_snoc hy.out]; simp
              have q1 : IntKind.i64.wrap (((j + 1 : Nat) : Int) - 1) = (j : Int) := by rw [IntWalk.i64_in _ (by omega)]; omega
              have q5 : (j : Int) < (l.length : Int) := by omega
              have q6 : (0 : Int) ≤ (j : Int) := by omega
              have q7 : (0 : Int) < (((j + 1 : Nat)) : Int) := by omega
              clear hA hbB' hb
              by_cases g4 : p ≤ q'
              · obtain rfl : R = false := hno.out _ (fun hP => (hgo.out hP).2.2.2 _ hjm.out) (by simp; omega)
                clear hno hgo
                go_wp2_with fail
                go_quiet (fail)
                clear q1
                go_wp2
                go_ret
                exact ⟨rfl, below_drewN HB.out _⟩
              · have f4 : decide (p ≤ q') = false := decide_eq_false g4
                have hn : Hid (Sp.Plain (l.take (j + 1 + 1))) := (plain_take_succ hx.out).2 ⟨hpl.out, by omega, by omega, by omega, fun y hm => by have := hlast.out y hm; omega⟩
                clear hno hgo
                go_wp2_with fail
                go_quiet (fail)
                clear q1
                go_wp2
                go_roundw
                case rel => exact ⟨j + 1 + 1, by omega, by go_num, hn.out, below_drewN HB.out _⟩
                case measure => simp [intOf]; omega
    · obtain rfl : k = l.length := by omega
      obtain rfl : R = true := HR.out.2 (by have := hpl.out; rwa [List.take_length] at this)
      clear hb
      go_wp2
      go_ret
      exact ⟨rfl, HB.out⟩
end Go.Proofs.Ytnhmibfgaoealaa
