import Derived.Test.YtnhmibfgaoealaaRg
import Derived.Test.YtnhmibfgaoealaaFst
namespace Go.Proofs.Ytnhmibfgaoealaa
open Go.RowKit

theorem Rd.none_ {α : Type} (enc : α → List Value) (k : Nat) (w : World) (B : Nat) (A : Option Addr) : Rd enc k w B A [] := Rd.nil

theorem rnorm_any (l : List Sp.S) (A : Option Addr) (cap : Nat) (w : World) (h : Rd encS 2 w w.heap.size A l) (hl : l.length ≤ 4000000000000) :
    Calls Try.prog 38 #[.slice A l.length cap] w fun e w' => ∃ A' cap', e = .returned (.slice A' (Sp.norm l).length cap') ∧
      w'.ownsRow w.heap.size 42 2 (.slice A' (Sp.norm l).length cap') (Sp.norm l).length (flat encS (Sp.norm l)) ∧ Below w.heap.size w w' := by
  have hc := of_any l [] A none cap 0 false w h Rd.nil hl (by simp)
  have HC := Lib.hid hc; clear hc h
  go_enter Try.func38, Try.ntmps38
  go_wp2_with fail
  refine HC.out.mono ?_
  rintro e w' ⟨A', cap', R, rfl, hP, hh, ho, hb⟩
  have e : R = Sp.norm l := Sp.eq_norm hP fun t => by rw [hh]; simp [ask, Sp.hasB]
  subst e
  have HO := Lib.hid ho; have HB := Lib.hid hb; clear ho hb hh hP
  go_wp2
  go_ret
  exact ⟨A', cap', rfl, HO.out, HB.out⟩

theorem rand_any (a b : List Sp.S) (A1 A2 : Option Addr) (c1 c2 : Nat) (w : World) (h1 : Rd encS 2 w w.heap.size A1 a) (h2 : Rd encS 2 w w.heap.size A2 b) (l1 : a.length ≤ 4000000000000) (l2 : b.length ≤ 4000000000000) :
    Calls Try.prog 40 #[.slice A1 a.length c1, .slice A2 b.length c2] w fun e w' => ∃ A' cap', e = .returned (.slice A' (Sp.and_ a b).length cap') ∧
      w'.ownsRow w.heap.size 42 2 (.slice A' (Sp.and_ a b).length cap') (Sp.and_ a b).length (flat encS (Sp.and_ a b)) ∧ Below w.heap.size w w' := by
  have hc := of_any a b A1 A2 c1 c2 true w h1 h2 l1 l2
  have HC := Lib.hid hc; clear hc h1 h2
  go_enter Try.func40, Try.ntmps40
  go_wp2_with fail
  refine HC.out.mono ?_
  rintro e w' ⟨A', cap', R, rfl, hP, hh, ho, hb⟩
  have e : R = Sp.and_ a b := hP.uniq (Sp.and_plain a b) fun t => by rw [hh, Sp.and_has]; simp [ask]
  subst e
  have HO := Lib.hid ho; have HB := Lib.hid hb; clear ho hb hh hP
  go_wp2
  go_ret
  exact ⟨A', cap', rfl, HO.out, HB.out⟩

theorem rminus_any (a b : List Sp.S) (A1 A2 : Option Addr) (c1 c2 : Nat) (w : World) (h1 : Rd encS 2 w w.heap.size A1 a) (h2 : Rd encS 2 w w.heap.size A2 b) (l1 : a.length ≤ 4000000000000) (l2 : b.length ≤ 4000000000000) :
    Calls Try.prog 42 #[.slice A1 a.length c1, .slice A2 b.length c2] w fun e w' => ∃ A' cap', e = .returned (.slice A' (Sp.minus a b).length cap') ∧
      w'.ownsRow w.heap.size 42 2 (.slice A' (Sp.minus a b).length cap') (Sp.minus a b).length (flat encS (Sp.minus a b)) ∧ Below w.heap.size w w' := by
  have hc := of_any a b A1 A2 c1 c2 false w h1 h2 l1 l2
  have HC := Lib.hid hc; clear hc h1 h2
  go_enter Try.func42, Try.ntmps42
  go_wp2_with fail
  refine HC.out.mono ?_
  rintro e w' ⟨A', cap', R, rfl, hP, hh, ho, hb⟩
  have e : R = Sp.minus a b := hP.uniq (Sp.minus_plain a b) fun t => by rw [hh, Sp.minus_has]; simp [ask]
  subst e
  have HO := Lib.hid ho; have HB := Lib.hid hb; clear ho hb hh hP
  go_wp2
  go_ret
  exact ⟨A', cap', rfl, HO.out, HB.out⟩

theorem rsumLen_snoc (l : List Sp.S) (s : Sp.S) : Sp.sumLen (l ++ [s]) = Sp.sumLen l + (s.2 - s.1) := by simp [Sp.sumLen]
theorem plain_take {lo : Int} {l : List Sp.S} (h : Sp.PlainFrom lo l) (k : Nat) : Sp.PlainFrom lo (l.take k) := by
  induction l generalizing lo k with
  | nil => simp [Sp.PlainFrom]
  | cons s r ih =>
    cases k with
    | zero => trivial
    | succ k => exact ⟨h.1, h.2.1, h.2.2.1, ih h.2.2.2 k⟩
theorem rsum_take {l : List Sp.S} (h : Sp.Plain l) (k : Nat) : 0 ≤ Sp.sumLen (l.take k) ∧ Sp.sumLen (l.take k) ≤ 32054400 := by
  have h1 := plain_take h k
  have h2 := Sp.sumLen_le h1 (by decide)
  exact ⟨Sp.sumLen_nonneg h1, by simpa [Sp.MT] using h2⟩

set_option maxRecDepth 100000 in
set_option maxHeartbeats 400000 in
theorem rsize_any (l : List Sp.S) (A : Option Addr) (cap : Nat) (w : World) (h : Rd encS 2 w w.heap.size A l) (hl : l.length ≤ 4000000000000) :
    Calls Try.prog 48 #[.slice A l.length cap] w fun e w' => e = .returned (.int .i64 (Sp.size l)) ∧ Below w.heap.size w w' := by
  have hP := Lib.hid (Sp.norm_plain l)
  have hL : (Sp.norm l).length ≤ 4000000000000 := Nat.le_trans (Sp.norm_length l) hl
  obtain ⟨R, hR⟩ : ∃ R, R = Sp.size l := ⟨_, rfl⟩
  rw [← hR]
  have hcall := rnorm_any l A cap w h hl
  obtain ⟨N, hN⟩ : ∃ N, N = Sp.norm l := ⟨_, rfl⟩
  rw [← hN] at hP hL hcall
  have HC := Lib.hid hcall; clear hcall h
  have HR : Hid (R = Sp.sumLen N) := by show _ = _; rw [hR, hN]; rfl
  clear hN hR
  go_enter Try.func48, Try.ntmps48
  go_wp2_with fail
  refine HC.out.mono ?_
  rintro e w1 ⟨A1, cap1, rfl, ho1, hb1⟩
  have HO1 := Lib.hid ho1; have HB1 := Lib.hid hb1; clear ho1 hb1
  go_wp2
  go_loopw [4, 5] (fun v i wr => ∃ k : Nat, k ≤ N.length ∧ i = .int .i64 k ∧ v = .int .i64 (Sp.sumLen (N.take k)) ∧ Below w1.heap.size w1 wr) (fun _ i _ => N.length - (intOf i).toNat)
  case atStart => exact ⟨0, Nat.zero_le _, rfl, rfl, Below.refl _ _⟩
  case round =>
    obtain ⟨k, hk, rfl, rfl, hb⟩ := hrel
    by_cases hlt : k < N.length
    · obtain ⟨b, off, p, q, rfl, hbB, hx, c0, c1⟩ := (Rd.of_own encS_len HO1.out).atS hb hlt
      have HB := Lib.hid hb; clear hb
      obtain ⟨s0, s1⟩ := rsum_take hP.out k
      obtain ⟨t0, t1⟩ := rsum_take hP.out (k + 1)
      have hbd := Sp.PlainFrom.bd hP.out (p, q) (List.mem_of_getElem? hx.out)
      simp only [Sp.MT] at hbd
      rw [take_snoc hx.out, rsumLen_snoc] at t0 t1
      have hs : Hid (Sp.sumLen (N.take (k + 1)) = Sp.sumLen (N.take k) + (q - p)) := by show _ = _; rw [take_snoc hx.out, rsumLen_snoc]
      obtain ⟨Z, hZ⟩ : ∃ Z, Z = Sp.sumLen (N.take k) := ⟨_, rfl⟩
      rw [← hZ] at s0 s1 t0 t1 hs ⊢
      clear hZ
      simp only at hbd t0 t1
      obtain ⟨g1, g2, g3⟩ := hbd
      have q1 : IntKind.i64.wrap (Z + q) = Z + q := IntWalk.i64_in _ (by omega)
      have q2 : IntKind.i64.wrap (Z + q - p) = Z + q - p := IntWalk.i64_in _ (by omega)
      have q3 : (k : Int) < (N.length : Int) := by omega
      have q4 : (0 : Int) ≤ (k : Int) := by omega
      go_wp2_with fail
      go_quiet (fail)
      clear q1 q2
      go_wp2
      go_roundw
      case rel => exact ⟨k + 1, by omega, by go_num, by rw [hs.out]; go_num, below_drewN HB.out _⟩
      case measure => simp [intOf]; omega
    · obtain rfl : k = N.length := by omega
      have hfin : Hid (Below w.heap.size w wr) := HB1.out.trans (hb.mono HB1.out.size)
      rw [List.take_length, ← HR.out]
      clear hb
      go_wp2
      go_ret
      exact ⟨rfl, hfin.out⟩
end Go.Proofs.Ytnhmibfgaoealaa
