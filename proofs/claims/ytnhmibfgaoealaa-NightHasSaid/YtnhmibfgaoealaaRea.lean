import Derived.Test.YtnhmibfgaoealaaBas
namespace Go.Proofs.Ytnhmibfgaoealaa
open Go.RowKit

def inT (p q t : Int) : Bool := Sp.okT t && Sp.inB (p, q) t
theorem inT_iff {p q t : Int} : inT p q t = true ↔ (0 ≤ t ∧ t < 32054400) ∧ p ≤ t ∧ t < q := by rw [inT, Bool.and_eq_true, Sp.okT_iff, Sp.inB_iff]; rfl

set_option maxHeartbeats 400000 in
theorem in_any (p q t : Int) (w : World) : Calls Try.prog 84 #[.agg #[.int .i64 p, .int .i64 q], .int .i64 t] w fun e w' => e = .returned (.bool (inT p q t)) ∧ Below w.heap.size w w' := by
  have fin : ∀ (n : Nat), Below w.heap.size w ((w.alloc (.cells #[.int .i64 p, .int .i64 q] 42)).drewN n) := fun n => below_drewN ((Below.refl _ _).alloc (Nat.le_refl _) _) n
  have FIN := Lib.hid fin; clear fin
  by_cases h1 : 0 ≤ t
  · by_cases h2 : t < 32054400
    · by_cases h3 : p ≤ t
      · have e : inT p q t = decide (t < q) := by rw [Bool.eq_iff_iff, inT_iff]; simp; omega
        rw [e]; clear e
        go_enter Try.func84, Try.ntmps84
        go_wp2
        go_ret
        exact ⟨rfl, FIN.out 0⟩
      · have e : inT p q t = false := by rw [Bool.eq_false_iff, ne_eq, inT_iff]; omega
        rw [e]; clear e
        have h3 : decide (p ≤ t) = false := by simpa using h3
        go_enter Try.func84, Try.ntmps84
        go_wp2
        go_ret
        exact ⟨rfl, FIN.out 0⟩
    · have e : inT p q t = false := by rw [Bool.eq_false_iff, ne_eq, inT_iff]; omega
      rw [e]; clear e
      have h2 : decide (t < 32054400) = false := by simpa using h2
      go_enter Try.func84, Try.ntmps84
      go_wp2
      go_ret
      exact ⟨rfl, FIN.out 0⟩
  · have e : inT p q t = false := by rw [Bool.eq_false_iff, ne_eq, inT_iff]; omega
    rw [e]; clear e
    have h1 : decide (0 ≤ t) = false := by simpa using h1
    go_enter Try.func84, Try.ntmps84
    go_wp2
    go_ret
    exact ⟨rfl, FIN.out 0⟩

theorem hasT_snoc {l : List Sp.S} {k : Nat} {p q : Int} (h : l[k]? = some (p, q)) (t : Int) : (Sp.okT t && Sp.hasB (l.take (k + 1)) t) = ((Sp.okT t && Sp.hasB (l.take k) t) || inT p q t) := by
  rw [take_snoc h, Sp.hasB_append, inT]
  cases Sp.okT t <;> simp [Sp.hasB]

set_option maxRecDepth 100000 in
set_option maxHeartbeats 400000 in
theorem has3_any (l : List Sp.S) (A : Option Addr) (cap : Nat) (t : Int) (w : World) (h : Rd encS 2 w w.heap.size A l) (hl : l.length ≤ 4000000000000) :
    Calls Try.prog 50 #[.slice A l.length cap, .int .i64 t] w fun e w' => e = .returned (.bool (Sp.okT t && Sp.hasB l t)) ∧ Below w.heap.size w w' := by
  obtain ⟨R, hR⟩ : ∃ R, R = (Sp.okT t && Sp.hasB l t) := ⟨_, rfl⟩
  rw [← hR]
  have HR := Lib.hid hR; clear hR
  go_enter Try.func50, Try.ntmps50
  go_wp2
  go_loopw [5] (fun i wr => ∃ k : Nat, k ≤ l.length ∧ i = .int .i64 k ∧ Hid ((Sp.okT t && Sp.hasB (l.take k) t) = false) ∧ Below w.heap.size w wr) (fun i _ => l.length - (intOf i).toNat)
  case atStart => exact ⟨0, Nat.zero_le _, rfl, (by simp [Sp.hasB] : _ = false), Below.refl _ _⟩
  case round =>
    obtain ⟨k, hk, rfl, hno, hb⟩ := hrel
    by_cases hlt : k < l.length
    · obtain ⟨b, off, p, q, rfl, hbB, hx, c0, c1⟩ := h.atS hb hlt
      have HB := Lib.hid hb; clear hb
      have HH := Lib.hid h; clear h
      have hs := Lib.hid (hasT_snoc hx.out t)
      cases hin : inT p q t
      · have hc := fun w' => in_any p q t w'
        rw [hin] at hc
        go_wp2_with (go_at_call 84; refine (hc _).mono ?_; rintro e w1 ⟨rfl, hb1⟩)
        go_roundw
        case rel => exact ⟨k + 1, by omega, by go_num, (by rw [hs.out, hno.out, hin]; rfl : _ = false), HB.out.trans (hb1.mono HB.out.size)⟩
        case measure => simp [intOf]; omega
      · have hc := fun w' => in_any p q t w'
        rw [hin] at hc
        have hRt : R = true := by
          rw [HR.out, ← List.take_append_drop (k + 1) l, Sp.hasB_append]
          have := hs.out
          rw [hin, Bool.or_true, Bool.and_eq_true] at this
          rw [this.1, this.2]; rfl
        subst hRt
        clear HR
        go_wp2_with (go_at_call 84; refine (hc _).mono ?_; rintro e w1 ⟨rfl, hb1⟩)
        go_ret
        exact ⟨rfl, HB.out.trans (hb1.mono HB.out.size)⟩
    · obtain rfl : k = l.length := by omega
      rw [List.take_length] at hno
      obtain rfl : R = false := by rw [HR.out]; exact hno.out
      clear HR
      go_wp2
      go_ret
      exact ⟨rfl, hb⟩
end Go.Proofs.Ytnhmibfgaoealaa
