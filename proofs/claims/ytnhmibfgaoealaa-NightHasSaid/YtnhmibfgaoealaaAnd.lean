import Derived.Test.YtnhmibfgaoealaaSor
namespace Go.Proofs.Ytnhmibfgaoealaa
open Go.RowKit

/-- A norm's call, in a world that keeps what lay below a number. -/
theorem norm_at {B : Nat} {w wr : World} (hb : Below B w wr) (hB : B ≤ wr.heap.size) (l : List Sp.S) (A : Option Addr) (cap : Nat) (h : Rd encS 2 wr wr.heap.size A l) (hl : l.length ≤ 1000000000000) :
    Calls Try.prog 34 #[.slice A l.length cap] wr fun e w' => ∃ A' cap', e = .returned (.slice A' (Sp.norm l).length cap') ∧
      Hid (Rd encS 2 w' w'.heap.size A' (Sp.norm l)) ∧ Hid (w'.ownsRow wr.heap.size 42 2 (.slice A' (Sp.norm l).length cap') (Sp.norm l).length (flat encS (Sp.norm l))) ∧ Hid (Below B w w') ∧ Hid (Below wr.heap.size wr w') := by
  refine (norm_all l A cap wr h hl).mono ?_
  rintro e w' ⟨A', cap', rfl, ho, hbw⟩
  exact ⟨A', cap', rfl, Rd.of_own encS_len ho, ho, hb.trans (hbw.mono hB), hbw⟩

theorem sumLen_snoc (l : List Sp.S) (s : Sp.S) : Sp.sumLen (l ++ [s]) = Sp.sumLen l + (s.2 - s.1) := by simp [Sp.sumLen]

theorem sumLen_take_le {l : List Sp.S} (h : Sp.Plain l) (k : Nat) : 0 ≤ Sp.sumLen (l.take k) ∧ Sp.sumLen (l.take k) ≤ 32054400 := by
  have hp : ∀ (lo : Int) (l : List Sp.S) (k : Nat), Sp.PlainFrom lo l → Sp.PlainFrom lo (l.take k) := by
    intro lo l
    induction l generalizing lo with
    | nil => intro k _; simp [Sp.PlainFrom]
    | cons s r ih =>
      intro k hk
      cases k with
      | zero => trivial
      | succ k => exact ⟨hk.1, hk.2.1, hk.2.2.1, ih _ k hk.2.2.2⟩
  have h1 := hp 0 l k h
  have h2 := Sp.sumLen_le h1 (by decide)
  exact ⟨Sp.sumLen_nonneg h1, by simpa [Sp.MT] using h2⟩

set_option maxRecDepth 100000 in
set_option maxHeartbeats 400000 in
theorem size_any (l : List Sp.S) (A : Option Addr) (cap : Nat) (w : World) (h : Rd encS 2 w w.heap.size A l) (hl : l.length ≤ 1000000000000) :
    Calls Try.prog 47 #[.slice A l.length cap] w fun e w' => e = .returned (.int .i64 (Sp.size l)) ∧ Below w.heap.size w w' := by
  have hP := Lib.hid (Sp.norm_plain l)
  have hL : (Sp.norm l).length ≤ 1000000000000 := Nat.le_trans (Sp.norm_length l) hl
  obtain ⟨R, hR⟩ : ∃ R, R = Sp.size l := ⟨_, rfl⟩
  rw [← hR]
  have hcall := fun W hb hB => norm_at (B := w.heap.size) (w := w) (wr := W) hb hB l A cap
  have HC := Lib.hid hcall; clear hcall
  obtain ⟨N, hN⟩ : ∃ N, N = Sp.norm l := ⟨_, rfl⟩
  rw [← hN] at hP hL
  have HR : Hid (R = Sp.sumLen N) := by rw [hR, hN]; rfl
  have HN := Lib.hid hN; clear hN hR
  go_enter Try.func47, Try.ntmps47
  go_wp2_with (go_at_call 34; refine (HC.out w (Below.refl _ _) (Nat.le_refl _) h hl).mono ?_; rw [← HN.out]; rintro e w1 ⟨A1, cap1, rfl, hR1, _, hb1, _⟩)
  go_loopw [2, 8] (fun v i wr => ∃ k : Nat, k ≤ N.length ∧ i = .int .i64 k ∧ v = .int .i64 (Sp.sumLen (N.take k)) ∧ Below w1.heap.size w1 wr) (fun _ i _ => N.length - (intOf i).toNat)
  case atStart => exact ⟨0, Nat.zero_le _, rfl, rfl, Below.refl _ _⟩
  case round =>
    obtain ⟨k, hk, rfl, rfl, hb⟩ := hrel
    by_cases hlt : k < N.length
    · obtain ⟨b, off, p, q, rfl, hbB, hx, c0, c1⟩ := hR1.out.atS hb hlt
      have HB := Lib.hid hb; clear hb
      obtain ⟨s0, s1⟩ := sumLen_take_le hP.out k
      obtain ⟨t0, t1⟩ := sumLen_take_le hP.out (k + 1)
      have hbd := Sp.PlainFrom.bd hP.out (p, q) (List.mem_of_getElem? hx.out)
      simp only [Sp.MT] at hbd
      rw [take_snoc hx.out, sumLen_snoc] at t0 t1
      have hs : Sp.sumLen (N.take (k + 1)) = Sp.sumLen (N.take k) + (q - p) := by rw [take_snoc hx.out, sumLen_snoc]
      have HS := Lib.hid hs; clear hs
      obtain ⟨Z, hZ⟩ : ∃ Z, Z = Sp.sumLen (N.take k) := ⟨_, rfl⟩
      rw [← hZ] at s0 s1 t0 t1 HS ⊢
      clear hZ
      simp only at hbd t0 t1
      obtain ⟨g1, g2, g3⟩ := hbd
      go_wp2
      go_roundw
      case rel => exact ⟨k + 1, by omega, by go_num, by rw [HS.out], HB.out.alloc HB.out.size _⟩
      case measure => simp [intOf]; omega
    · obtain rfl : k = N.length := by omega
      have hfin : Hid (Below w.heap.size w wr) := hb1.out.trans (hb.mono hb1.out.size)
      rw [List.take_length, ← HR.out]
      clear hb h
      go_wp2
      go_ret
      exact ⟨rfl, hfin.out⟩
end Go.Proofs.Ytnhmibfgaoealaa
