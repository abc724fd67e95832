/-
  pack: need, Size, and slices.Clone of bytes.
-/
import Derived.Test.YtmbjbbflhlndcaaJb
import Derived.Test.YtmbjbbflhlndcaaJc
import Derived.Test.YtmbjbbflhlndcaaLay
namespace Go.Proofs.Ytmbjbbflhlndcaa
open Go.RowKit BigFrame
set_option linter.unusedVariables false
set_option linter.unusedSimpArgs false

theorem need_bits (n : Nat) (h : n < 18446744073709551616) : needN n = (Lib.bitLen n + 7) / 8 := by
  induction n using Nat.strongRecOn with
  | ind n ih =>
    rcases Nat.eq_zero_or_pos n with h0 | h0
    · subst h0; rw [needN_zero]; decide
    · rw [needN_pos h0]
      by_cases h1 : n < 256
      · have e : n / 256 = 0 := by omega
        rw [e, needN_zero]
        have h8 := Lib.bitLen_le8 ⟨n, h1⟩
        have hh := Lib.bitLen_half n (by omega) (by omega)
        simp only at h8
        omega
      · rw [ih _ (by omega) (by omega), Lib.bitLen_shift8 n (by omega) h]
        omega
theorem need_big (n : Nat) (h : n < 18446744073709551616) : needN n ≤ 8 := needN_le (by rw [show (256 : Nat) ^ 8 = 18446744073709551616 from by decide]; omega)

theorem pNeed (n : Int) (h0 : 0 ≤ n) (h1 : n ≤ 9223372036854775807) (w : World) : Calls Try.prog 74 #[.int .i64 n] w fun e w' => e = .returned (.int .i64 (needN n.toNat : Nat)) ∧ w = w' := by
  have hb := need_bits n.toNat (by omega)
  have hl : Lib.bitLen n.toNat ≤ 64 := Lib.bitLen_le _ 64 (by omega) (by rw [show (2 : Nat) ^ 64 = 18446744073709551616 from by decide]; omega)
  have k := Any.bits_Len64 Try.lenLay n
  obtain ⟨B, hB⟩ : ∃ B, Lib.bitLen n.toNat = B := ⟨_, rfl⟩
  rw [hB] at hb hl
  rw [hb]
  simp only [hB] at k
  clear hB hb
  replace k := Lib.hid k
  go_enter Try.func74, Try.ntmps74
  go_wp2_with fail
  refine (k.out _ (by omega) (by omega)).mono ?_
  rintro e w' ⟨rfl, rfl⟩
  go_wp2
  go_ret
  exact ⟨by simp, rfl⟩

theorem pSize (n : Int) (h0 : 0 ≤ n) (h1 : n ≤ 9223372036854775807) (w : World) : Calls Try.prog 43 #[.int .i64 n] w fun e w' => e = .returned (.int .i64 ((one n.toNat).length : Nat)) ∧ w = w' := by
  have hb := need_big n.toNat (by omega)
  rw [one_len]
  have k := Lib.hid (pNeed n h0 h1)
  obtain ⟨B, hB⟩ : ∃ B, needN n.toNat = B := ⟨_, rfl⟩
  rw [hB] at k hb ⊢
  clear hB
  have d1 : decide (n < 0) = false := decide_eq_false (by omega)
  go_enter Try.func43, Try.ntmps43
  go_wp2_with fail
  refine (k.out _).mono ?_
  rintro e w' ⟨rfl, rfl⟩
  go_wp2
  go_ret
  exact ⟨by simp, rfl⟩

set_option maxRecDepth 100000 in
/-- slices.Clone of bytes. -/
theorem pCloneB {w : World} {A : Option Addr} {l : List UInt8} (h : Rb w A l) (hl : l.length ≤ 140000090000000) (c : Nat) : Calls Try.prog 85 #[.slice A l.length c] w (RetBy w l) := by
  rcases A with _ | ad
  · have h0 := h.none_nil
    subst h0
    have hr := fun W => Lib.run_eql_slice_nil (P := Try.prog) W 29 5 none 0 c 0 0 Try.underlying29
    go_enter Try.func85, Try.ntmps85
    go_wp2
    go_ret
    exact ⟨none, 0, rfl, Rw.nil, Ext.refl _, own_nilG _ _⟩
  · have H := Lib.hid h
    have hr := fun W => Lib.run_eql_slice_nil (P := Try.prog) W 29 5 (some ad) l.length c 0 0 Try.underlying29
    go_enter Try.func85, Try.ntmps85
    clear h
    go_wp2_with (at_builtin; refine appG elB w _ ((Ext.refl w).alloc _) _ _ (by rfl) (by rfl) 0 _ [] l (by rfl) (own_emptyG w _ (Nat.le_refl _)) rfl (some ad) c l.length (by rfl) rfl (H.out.alloc _) (by simp; omega) ?_; intro A' c' w' o' x')
    rw [Nat.zero_add] at o'
    go_ret
    exact ⟨A', c', rfl, Rw.own elB o', x', o'⟩
end Go.Proofs.Ytmbjbbflhlndcaa
