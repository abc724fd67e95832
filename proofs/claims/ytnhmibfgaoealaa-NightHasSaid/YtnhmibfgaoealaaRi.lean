import Derived.Test.YtnhmibfgaoealaaRh
namespace Go.Proofs.Ytnhmibfgaoealaa
open Go.RowKit

theorem upTo_snoc (l : List Sp.S) (s : Sp.S) (t : Int) : Sp.upTo (l ++ [s]) t = Sp.upTo l t + max 0 (min s.2 t - s.1) := by simp [Sp.upTo]
theorem upTo_at {lo : Int} {l : List Sp.S} (h : Sp.PlainFrom lo l) {k : Nat} {p q : Int} (hx : l[k]? = some (p, q)) : Sp.upTo l p = Sp.sumLen (l.take k) := by
  induction l generalizing lo k with
  | nil => simp at hx
  | cons s r ih =>
    obtain ⟨h1, h2, h3, h4⟩ := h
    cases k with
    | zero =>
      simp at hx; subst hx
      rw [Sp.upTo_cons, Sp.upTo_zero h4 (by simp only; simp only at h2; omega)]
      simp only [List.take_zero, Sp.sumLen, List.map_nil, List.sum_nil]; simp only at h2; omega
    | succ k =>
      have hx' : r[k]? = some (p, q) := by simpa using hx
      have hb := (Sp.PlainFrom.bd h4 (p, q) (List.mem_of_getElem? hx')).1
      simp only at hb
      rw [Sp.upTo_cons, ih h4 hx', List.take_succ_cons, Sp.sumLen_cons]
      omega

set_option maxRecDepth 100000 in
set_option maxHeartbeats 400000 in
theorem upTo_any (N : List Sp.S) (A : Option Addr) (cap : Nat) (t : Int) (w : World) (hPl : Sp.Plain N) (h : Rd encS 2 w w.heap.size A N) (hL : N.length ≤ 4000000000000) (ht : 0 ≤ t ∧ t ≤ 32054400) :
    Calls Try.prog 110 #[.slice A N.length cap, .int .i64 t] w fun e w' => e = .returned (.int .i64 (Sp.upTo N t)) ∧ Below w.heap.size w w' := by
  obtain ⟨R, hR⟩ : ∃ R, R = Sp.upTo N t := ⟨_, rfl⟩
  rw [← hR]
  have HR := Lib.hid hR; have hP := Lib.hid hPl; have H := Lib.hid h; clear hR hPl h
  obtain ⟨ht0, ht1⟩ := ht
  go_enter Try.func110, Try.ntmps110
  go_wp2
  go_loopw [5, 6] (fun v i wr => ∃ k : Nat, k ≤ N.length ∧ i = .int .i64 k ∧ v = .int .i64 (Sp.upTo (N.take k) t) ∧ Below w.heap.size w wr) (fun _ i _ => N.length - (intOf i).toNat)
  case atStart => exact ⟨0, Nat.zero_le _, rfl, rfl, Below.refl _ _⟩
  case round =>
    obtain ⟨k, hk, rfl, rfl, hb⟩ := hrel
    by_cases hlt : k < N.length
    · obtain ⟨b, off, p, q, rfl, hbB, hx, c0, c1⟩ := H.out.atS hb hlt
      have HB := Lib.hid hb; clear hb
      have s0 := Sp.upTo_nonneg (N.take k) t
      have s1 := Sp.upTo_le (plain_take hP.out k) t
      have s2 := (rsum_take hP.out k).2
      have hbd := Sp.PlainFrom.bd hP.out (p, q) (List.mem_of_getElem? hx.out)
      simp only [Sp.MT] at hbd
      have hs : Hid (Sp.upTo (N.take (k + 1)) t = Sp.upTo (N.take k) t + max 0 (min q t - p)) := by show _ = _; rw [take_snoc hx.out, upTo_snoc]
      obtain ⟨Z, hZ⟩ : ∃ Z, Z = Sp.upTo (N.take k) t := ⟨_, rfl⟩
      rw [← hZ] at s0 s1 hs ⊢
      clear hZ
      obtain ⟨g1, g2, g3⟩ := hbd
      obtain ⟨m, hm⟩ : ∃ m, m = min q t := ⟨_, rfl⟩
      obtain ⟨M, hM⟩ : ∃ M, M = max 0 (m - p) := ⟨_, rfl⟩
      rw [← hm, ← hM] at hs
      have m1 : -32054400 ≤ m - p ∧ m - p ≤ 32054400 := by omega
      have m2 : 0 ≤ M ∧ M ≤ 32054400 := by omega
      have e1 : (if t < q then t else q) = m := by rw [← min_ite]; exact hm.symm
      have e2 : min q t = m := hm.symm
      have e3 : (if 0 < m - p then m - p else 0) = M := by rw [← max_ite]; exact hM.symm
      have e4 : max 0 (m - p) = M := hM.symm
      have q1 : IntKind.i64.wrap (m - p) = m - p := IntWalk.i64_in _ (by omega)
      have q2 : IntKind.i64.wrap (Z + M) = Z + M := IntWalk.i64_in _ (by omega)
      have q3 : (k : Int) < (N.length : Int) := by omega
      have q4 : (0 : Int) ≤ (k : Int) := by omega
      clear hm hM
      go_wp2_with fail
      go_quiet (fail)
      clear q1 q2 e1 e2 e3 e4
      go_wp2
      go_roundw
      case rel => exact ⟨k + 1, by omega, by go_num, by rw [hs.out], below_drewN HB.out _⟩
      case measure => simp [intOf]; omega
    · obtain rfl : k = N.length := by omega
      have HB := Lib.hid hb; clear hb
      rw [List.take_length, ← HR.out]
      go_wp2
      go_ret
      exact ⟨rfl, HB.out⟩

theorem atP_drop {l : List Sp.S} {k : Nat} {p q n : Int} (hx : l[k]? = some (p, q)) : Sp.atP (l.drop k) n = if n ≤ q - p then p + n else Sp.atP (l.drop (k + 1)) (n - (q - p)) := by
  rw [drop_cons hx, Sp.atP]

set_option maxRecDepth 100000 in
set_option maxHeartbeats 400000 in
theorem at_any (N : List Sp.S) (A : Option Addr) (cap : Nat) (n : Int) (w : World) (hPl : Sp.Plain N) (h : Rd encS 2 w w.heap.size A N) (hL : N.length ≤ 4000000000000) (hn : -9223372036854775808 ≤ n ∧ n ≤ 9223372036854775807) :
    Calls Try.prog 81 #[.slice A N.length cap, .int .i64 n] w fun e w' => e = .returned (.int .i64 (Sp.at_ N n)) ∧ Below w.heap.size w w' := by
  by_cases h1 : n < 1
  · have e : Sp.at_ N n = 0 := by unfold Sp.at_; rw [if_pos h1]
    rw [e]
    clear h hPl e
    go_enter Try.func81, Try.ntmps81
    go_wp2
    go_ret
    exact ⟨rfl, Below.refl _ _⟩
  · obtain ⟨R, hR⟩ : ∃ R, R = Sp.at_ N n := ⟨_, rfl⟩
    rw [← hR]
    have HR : Hid (R = Sp.atP N n) := by show _ = _; rw [hR]; unfold Sp.at_; rw [if_neg h1]
    have hP := Lib.hid hPl; have H := Lib.hid h
    have hcall := fun W (hb : Below w.heap.size w W) t => upTo_any N A cap t W hPl ((h.below hb).more hb.size) hL
    have HC := Lib.hid hcall
    clear hR hPl h hcall
    obtain ⟨hn0, hn1⟩ := hn
    go_enter Try.func81, Try.ntmps81
    go_wp2
    go_loopw [5] (fun i wr => ∃ k : Nat, k ≤ N.length ∧ i = .int .i64 k ∧ Hid (Sp.atP N n = Sp.atP (N.drop k) (n - Sp.sumLen (N.take k))) ∧ 1 ≤ n - Sp.sumLen (N.take k) ∧ Below w.heap.size w wr) (fun i _ => N.length - (intOf i).toNat)
    case atStart => exact ⟨0, Nat.zero_le _, rfl, (by simp [Sp.sumLen] : _ = _), by simp [Sp.sumLen]; omega, Below.refl _ _⟩
    case round =>
      obtain ⟨k, hk, rfl, hat, hge, hb⟩ := hrel
      by_cases hlt : k < N.length
      · have hA := H.out.atS hb hlt
        obtain ⟨b, off, p, q, hAe, hbB, hx, c0, c1⟩ := hA
        subst hAe
        have HB := Lib.hid hb; clear hb
        obtain ⟨s0, s1⟩ := rsum_take hP.out k
        have hbd := Sp.PlainFrom.bd hP.out (p, q) (List.mem_of_getElem? hx.out)
        simp only [Sp.MT] at hbd
        obtain ⟨g1, g2, g3⟩ := hbd
        have hup := upTo_at hP.out hx.out
        have hcall := HC.out _ HB.out p
        rw [hup] at hcall
        have HC1 := Lib.hid hcall; clear hcall hup
        have hd := atP_drop (n := n - Sp.sumLen (N.take k)) hx.out
        have hs : Sp.sumLen (N.take (k + 1)) = Sp.sumLen (N.take k) + (q - p) := by rw [take_snoc hx.out, rsumLen_snoc]
        have HD := Lib.hid hd; have HS := Lib.hid hs; clear hd hs
        obtain ⟨Z, hZ⟩ : ∃ Z, Z = Sp.sumLen (N.take k) := ⟨_, rfl⟩
        rw [← hZ] at s0 s1 hat hge HC1 HD HS
        clear hZ
        by_cases ht : n - Z ≤ q - p
        · have hRv : Hid (R = p + n - Z) := by show _ = _; rw [HR.out, hat.out, HD.out, if_pos ht]; omega
          have q1 : IntKind.i64.wrap (n - Z) = n - Z := IntWalk.i64_in _ (by omega)
          have q2 : IntKind.i64.wrap (q - p) = q - p := IntWalk.i64_in _ (by omega)
          have q3 : (k : Int) < (N.length : Int) := by omega
          have q4 : (0 : Int) ≤ (k : Int) := by omega
          go_wp2_with fail
          refine (HC1.out ⟨g1, by omega⟩).mono ?_
          rintro e w1 ⟨rfl, hb1⟩
          have d0 := (hb1.cell (p := ⟨b, off + k * 2, none⟩) (by have := HB.out.size; simp; omega)).trans c0
          have d1 := (hb1.cell (p := ⟨b, off + k * 2 + 1, none⟩) (by have := HB.out.size; simp; omega)).trans c1
          have HB1 := Lib.hid (HB.out.trans (hb1.mono HB.out.size)); clear hb1 c0 c1
          go_wp2_with fail
          go_quiet (fail)
          clear q1 q2
          go_wp2
          go_ret
          exact ⟨by rw [hRv.out]; rfl, below_drewN HB1.out _⟩
        · have hd2 : decide (n - Z ≤ q - p) = false := by simpa using ht
          have ht2 : 1 ≤ n - (Z + (q - p)) := by omega
          have hat2 : Hid (Sp.atP N n = Sp.atP (N.drop (k + 1)) (n - (Z + (q - p)))) := by show _ = _; rw [hat.out, HD.out, if_neg ht]; congr 1; omega
          have q1 : IntKind.i64.wrap (n - Z) = n - Z := IntWalk.i64_in _ (by omega)
          have q2 : IntKind.i64.wrap (q - p) = q - p := IntWalk.i64_in _ (by omega)
          have q3 : (k : Int) < (N.length : Int) := by omega
          have q4 : (0 : Int) ≤ (k : Int) := by omega
          go_wp2_with fail
          refine (HC1.out ⟨g1, by omega⟩).mono ?_
          rintro e w1 ⟨rfl, hb1⟩
          have d0 := (hb1.cell (p := ⟨b, off + k * 2, none⟩) (by have := HB.out.size; simp; omega)).trans c0
          have d1 := (hb1.cell (p := ⟨b, off + k * 2 + 1, none⟩) (by have := HB.out.size; simp; omega)).trans c1
          have HB1 := Lib.hid (HB.out.trans (hb1.mono HB.out.size)); clear hb1 c0 c1
          go_wp2_with fail
          go_quiet (fail)
          clear q1 q2
          go_wp2
          go_roundw
          case rel => exact ⟨k + 1, by omega, by go_num, by rw [HS.out]; exact hat2.out, by rw [HS.out]; exact ht2, below_drewN HB1.out _⟩
          case measure => simp [intOf]; omega
      · obtain rfl : k = N.length := by omega
        have HB := Lib.hid hb; clear hb
        have hRv : Hid (R = 32054400) := by show _ = _; rw [HR.out, hat.out, List.drop_length]; rfl
        clear hat hge
        go_wp2
        go_ret
        exact ⟨by rw [hRv.out]; rfl, HB.out⟩
end Go.Proofs.Ytnhmibfgaoealaa
