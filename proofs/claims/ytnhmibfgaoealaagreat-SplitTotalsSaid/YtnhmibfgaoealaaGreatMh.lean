/-
  Rg
  Rh
  Ri
  Rj
-/
import Derived.Test.YtnhmibfgaoealaaGreatMg
import Derived.Laws.StructEq
import Derived.Test.YtnhmibfgaoealaaGreatMe
namespace Go.Proofs.YtnhmibfgaoealaaGreat
open Go.RowKit

theorem neqS (p q p' q' : Int) (w : World) : (binOp .neq 49 (.agg #[.int .i64 p, .int .i64 q]) (.agg #[.int .i64 p', .int .i64 q'])).run Tryz.prog w = .ok (.bool (!(p == p' && q == q'))) w := by
  have u3 := Tryz.underlying3
  have a3 := Tryz.isAgg3
  have z3 := Tryz.sizeOf3
  have hS : Tryz.prog.underlying 49 = some (.struct (Tryz.prog.fieldsOf 49)) := by kernel_rfl
  have hp : Tryz.prog.stoodInHeld 49 = false := by kernel_rfl
  rw [run_neq_struct, show (10000 : Nat) = 9999 + 1 from rfl, run_equalIn_agg w 9999 49 _ _ hS hp]
  simp only [Program.fieldsOf, Tryz.underlying49]
  go_simp
  by_cases h1 : p = p' <;> by_cases h2 : q = q' <;> simp [h1, h2]

theorem eqGuardS : Tryz.prog.eqGuardType Tryz.prog.depth 49 = false := by kernel_rfl

set_option maxRecDepth 100000 in
set_option maxHeartbeats 400000 in
theorem same_any (l m : List Sp.S) (A1 A2 : Option Addr) (c1 c2 : Nat) (w : World) (h1 : Rd encS 2 w w.heap.size A1 l) (h2 : Rd encS 2 w w.heap.size A2 m) (l1 : l.length ≤ 4000000000000) :
    Calls Tryz.prog 15 #[.slice A1 l.length c1, .slice A2 m.length c2] w fun e w' => e = .returned (.bool (decide (l = m))) ∧ Below w.heap.size w w' := by
  by_cases hlen : l.length = m.length
  · obtain ⟨R, hR⟩ : ∃ R, R = decide (l = m) := ⟨_, rfl⟩
    rw [← hR]
    have HR := Lib.hid hR; clear hR
    have hl0 : ((l.length : Int) == (m.length : Int)) = true := by simp [hlen]
    have hl1 : ((l.length : Int) != (m.length : Int)) = false := by simp [hlen]
    have HL := Lib.hid hlen
    have H1 := Lib.hid h1; have H2 := Lib.hid h2; clear h1 h2 hlen
    go_enter Tryz.func15, Tryz.ntmps15
    go_wp2
    clear hl0 hl1
    go_loopw [5] (fun i wr => ∃ k : Nat, k ≤ l.length ∧ i = .int .i64 k ∧ Hid (l.take k = m.take k) ∧ Below w.heap.size w wr) (fun i _ => l.length - (intOf i).toNat)
    case atStart => exact ⟨0, Nat.zero_le _, rfl, (rfl : _ = _), Below.refl _ _⟩
    case round =>
      obtain ⟨k, hk, rfl, hsame, hb⟩ := hrel
      have HB := Lib.hid hb
      by_cases hlt : k < l.length
      · have hlt2 : k < m.length := by rw [← HL.out]; exact hlt
        obtain ⟨b, off, p, q, rfl, hbB, hx, c0, c1⟩ := H1.out.atS hb hlt
        obtain ⟨b', off', p', q', rfl, hbB', hx', c0', c1'⟩ := H2.out.atS hb hlt2
        clear hb
        have hg := eqGuardS
        by_cases he : p = p' ∧ q = q'
        · have hq : (!(p == p' && q == q')) = false := by simp [he.1, he.2]
          have hrun := fun w => neqS p q p' q' w
          rw [hq] at hrun
          have hs2 : Hid (l.take (k + 1) = m.take (k + 1)) := by show _ = _; rw [take_snoc hx.out, take_snoc hx'.out, hsame.out, he.1, he.2]
          clear he
          go_wp2_with fail
          go_quiet (fail)
          go_wp2
          go_roundw
          case rel => exact ⟨k + 1, by omega, by go_num, hs2.out, below_drewN HB.out _⟩
          case measure => simp [intOf]; omega
        · have hq : (!(p == p' && q == q')) = true := by
            cases h1 : (p == p' && q == q')
            · rfl
            · simp at h1; exact absurd h1 he
          have hrun := fun w => neqS p q p' q' w
          rw [hq] at hrun
          have hRf : R = false := by
            rw [HR.out]
            refine decide_eq_false fun h => he ?_
            rw [h, hx'.out] at hx
            have := hx.out
            injection this with this
            injection this with e1 e2
            exact ⟨e1.symm, e2.symm⟩
          subst hRf
          clear he HR
          go_wp2_with fail
          go_quiet (fail)
          go_wp2
          go_ret
          exact ⟨rfl, below_drewN HB.out _⟩
      · obtain rfl : k = l.length := by omega
        have hRt : R = true := by
          rw [HR.out]
          refine decide_eq_true ?_
          have := hsame.out
          rw [List.take_length, HL.out, List.take_length] at this
          exact this
        subst hRt
        clear HR hb
        go_wp2
        go_ret
        exact ⟨rfl, HB.out⟩
  · have hR : decide (l = m) = false := decide_eq_false fun h => hlen (by rw [h])
    rw [hR]
    have hl0 : ((l.length : Int) == (m.length : Int)) = false := by simp; omega
    have hl1 : ((l.length : Int) != (m.length : Int)) = true := by simp; omega
    clear h1 h2 hlen hR
    go_enter Tryz.func15, Tryz.ntmps15
    go_wp2
    go_ret
    exact ⟨rfl, Below.refl _ _⟩
end Go.Proofs.YtnhmibfgaoealaaGreat
namespace Go.Proofs.YtnhmibfgaoealaaGreat
open Go.RowKit

theorem Rd.none_ {α : Type} (enc : α → List Value) (k : Nat) (w : World) (B : Nat) (A : Option Addr) : Rd enc k w B A [] := Rd.nil

theorem rnorm_any (l : List Sp.S) (A : Option Addr) (cap : Nat) (w : World) (h : Rd encS 2 w w.heap.size A l) (hl : l.length ≤ 4000000000000) :
    Calls Tryz.prog 35 #[.slice A l.length cap] w fun e w' => ∃ A' cap', e = .returned (.slice A' (Sp.norm l).length cap') ∧
      w'.ownsRow w.heap.size 49 2 (.slice A' (Sp.norm l).length cap') (Sp.norm l).length (flat encS (Sp.norm l)) ∧ Below w.heap.size w w' := by
  have hc := of_any l [] A none cap 0 false w h Rd.nil hl (by simp)
  have HC := Lib.hid hc; clear hc h
  go_enter Tryz.func35, Tryz.ntmps35
  go_wp2_with fail
  refine HC.out.mono ?_
  rintro e w' ⟨A', cap', R, rfl, hP, hh, ho, hb⟩
  have e : R = Sp.norm l := Sp.eq_norm hP fun t => by rw [hh]; simp [ask, Sp.hasB]
  subst e
  have HO := Lib.hid ho; have HB := Lib.hid hb; clear ho hb hh hP
  go_wp2
  go_ret
  exact ⟨A', cap', rfl, HO.out, HB.out⟩

theorem rand_any (a b : List Sp.S) (A1 A2 : Option Addr) (c1 c2 : Nat) (w : World) (h1 : Rd encS 2 w w.heap.size A1 a) (h2 : Rd encS 2 w w.heap.size A2 b) (l1 : a.length ≤ 4000000000000) (l2 : b.length ≤ 4000000000000) :
    Calls Tryz.prog 55 #[.slice A1 a.length c1, .slice A2 b.length c2] w fun e w' => ∃ A' cap', e = .returned (.slice A' (Sp.and_ a b).length cap') ∧
      w'.ownsRow w.heap.size 49 2 (.slice A' (Sp.and_ a b).length cap') (Sp.and_ a b).length (flat encS (Sp.and_ a b)) ∧ Below w.heap.size w w' := by
  have hc := of_any a b A1 A2 c1 c2 true w h1 h2 l1 l2
  have HC := Lib.hid hc; clear hc h1 h2
  go_enter Tryz.func55, Tryz.ntmps55
  go_wp2_with fail
  refine HC.out.mono ?_
  rintro e w' ⟨A', cap', R, rfl, hP, hh, ho, hb⟩
  have e : R = Sp.and_ a b := hP.uniq (Sp.and_plain a b) fun t => by rw [hh, Sp.and_has]; simp [ask]
  subst e
  have HO := Lib.hid ho; have HB := Lib.hid hb; clear ho hb hh hP
  go_wp2
  go_ret
  exact ⟨A', cap', rfl, HO.out, HB.out⟩

theorem rminus_any (a b : List Sp.S) (A1 A2 : Option Addr) (c1 c2 : Nat) (w : World) (h1 : Rd encS 2 w w.heap.size A1 a) (h2 : Rd encS 2 w w.heap.size A2 b) (l1 : a.length ≤ 4000000000000) (l2 : b.length ≤ 4000000000000) :
    Calls Tryz.prog 46 #[.slice A1 a.length c1, .slice A2 b.length c2] w fun e w' => ∃ A' cap', e = .returned (.slice A' (Sp.minus a b).length cap') ∧
      w'.ownsRow w.heap.size 49 2 (.slice A' (Sp.minus a b).length cap') (Sp.minus a b).length (flat encS (Sp.minus a b)) ∧ Below w.heap.size w w' := by
  have hc := of_any a b A1 A2 c1 c2 false w h1 h2 l1 l2
  have HC := Lib.hid hc; clear hc h1 h2
  go_enter Tryz.func46, Tryz.ntmps46
  go_wp2_with fail
  refine HC.out.mono ?_
  rintro e w' ⟨A', cap', R, rfl, hP, hh, ho, hb⟩
  have e : R = Sp.minus a b := hP.uniq (Sp.minus_plain a b) fun t => by rw [hh, Sp.minus_has]; simp [ask]
  subst e
  have HO := Lib.hid ho; have HB := Lib.hid hb; clear ho hb hh hP
  go_wp2
  go_ret
  exact ⟨A', cap', rfl, HO.out, HB.out⟩

theorem rsumLen_snoc (l : List Sp.S) (s : Sp.S) : Sp.sumLen (l ++ [s]) = Sp.sumLen l + (s.2 - s.1) := by simp [Sp.sumLen]
theorem plain_take {lo : Int} {l : List Sp.S} (h : Sp.PlainFrom lo l) (k : Nat) : Sp.PlainFrom lo (l.take k) := by
  induction l generalizing lo k with
  | nil => simp [Sp.PlainFrom]
  | cons s r ih =>
    cases k with
    | zero => trivial
    | succ k => exact ⟨h.1, h.2.1, h.2.2.1, ih h.2.2.2 k⟩
theorem rsum_take {l : List Sp.S} (h : Sp.Plain l) (k : Nat) : 0 ≤ Sp.sumLen (l.take k) ∧ Sp.sumLen (l.take k) ≤ 32054400 := by
  have h1 := plain_take h k
  have h2 := Sp.sumLen_le h1 (by decide)
  exact ⟨Sp.sumLen_nonneg h1, by simpa [Sp.MT] using h2⟩

set_option maxRecDepth 100000 in
set_option maxHeartbeats 400000 in
theorem rsize_any (l : List Sp.S) (A : Option Addr) (cap : Nat) (w : World) (h : Rd encS 2 w w.heap.size A l) (hl : l.length ≤ 4000000000000) :
    Calls Tryz.prog 44 #[.slice A l.length cap] w fun e w' => e = .returned (.int .i64 (Sp.size l)) ∧ Below w.heap.size w w' := by
  have hP := Lib.hid (Sp.norm_plain l)
  have hL : (Sp.norm l).length ≤ 4000000000000 := Nat.le_trans (Sp.norm_length l) hl
  obtain ⟨R, hR⟩ : ∃ R, R = Sp.size l := ⟨_, rfl⟩
  rw [← hR]
  have hcall := rnorm_any l A cap w h hl
  obtain ⟨N, hN⟩ : ∃ N, N = Sp.norm l := ⟨_, rfl⟩
  rw [← hN] at hP hL hcall
  have HC := Lib.hid hcall; clear hcall h
  have HR : Hid (R = Sp.sumLen N) := by show _ = _; rw [hR, hN]; rfl
  clear hN hR
  go_enter Tryz.func44, Tryz.ntmps44
  go_wp2_with fail
  refine HC.out.mono ?_
  rintro e w1 ⟨A1, cap1, rfl, ho1, hb1⟩
  have HO1 := Lib.hid ho1; have HB1 := Lib.hid hb1; clear ho1 hb1
  go_wp2
  go_loopw [4, 5] (fun v i wr => ∃ k : Nat, k ≤ N.length ∧ i = .int .i64 k ∧ v = .int .i64 (Sp.sumLen (N.take k)) ∧ Below w1.heap.size w1 wr) (fun _ i _ => N.length - (intOf i).toNat)
  case atStart => exact ⟨0, Nat.zero_le _, rfl, rfl, Below.refl _ _⟩
  case round =>
    obtain ⟨k, hk, rfl, rfl, hb⟩ := hrel
    by_cases hlt : k < N.length
    · obtain ⟨b, off, p, q, rfl, hbB, hx, c0, c1⟩ := (Rd.of_own encS_len HO1.out).atS hb hlt
      have HB := Lib.hid hb; clear hb
      obtain ⟨s0, s1⟩ := rsum_take hP.out k
      obtain ⟨t0, t1⟩ := rsum_take hP.out (k + 1)
      have hbd := Sp.PlainFrom.bd hP.out (p, q) (List.mem_of_getElem? hx.out)
      simp only [Sp.MT] at hbd
      rw [take_snoc hx.out, rsumLen_snoc] at t0 t1
      have hs : Hid (Sp.sumLen (N.take (k + 1)) = Sp.sumLen (N.take k) + (q - p)) := by show _ = _; rw [take_snoc hx.out, rsumLen_snoc]
      obtain ⟨Z, hZ⟩ : ∃ Z, Z = Sp.sumLen (N.take k) := ⟨_, rfl⟩
      rw [← hZ] at s0 s1 t0 t1 hs ⊢
      clear hZ
      simp only at hbd t0 t1
      obtain ⟨g1, g2, g3⟩ := hbd
      have q1 : IntKind.i64.wrap (Z + q) = Z + q := IntWalk.i64_in _ (by omega)
      have q2 : IntKind.i64.wrap (Z + q - p) = Z + q - p := IntWalk.i64_in _ (by omega)
      have q3 : (k : Int) < (N.length : Int) := by omega
      have q4 : (0 : Int) ≤ (k : Int) := by omega
      go_wp2_with fail
      go_quiet (fail)
      clear q1 q2
      go_wp2
      go_roundw
      case rel => exact ⟨k + 1, by omega, by go_num, by rw [hs.out]; go_num, below_drewN HB.out _⟩
      case measure => simp [intOf]; omega
    · obtain rfl : k = N.length := by omega
      have hfin : Hid (Below w.heap.size w wr) := HB1.out.trans (hb.mono HB1.out.size)
      rw [List.take_length, ← HR.out]
      clear hb
      go_wp2
      go_ret
      exact ⟨rfl, hfin.out⟩
end Go.Proofs.YtnhmibfgaoealaaGreat
namespace Go.Proofs.YtnhmibfgaoealaaGreat
open Go.RowKit

theorem upTo_snoc (l : List Sp.S) (s : Sp.S) (t : Int) : Sp.upTo (l ++ [s]) t = Sp.upTo l t + max 0 (min s.2 t - s.1) := by simp [Sp.upTo]
theorem upTo_at {lo : Int} {l : List Sp.S} (h : Sp.PlainFrom lo l) {k : Nat} {p q : Int} (hx : l[k]? = some (p, q)) : Sp.upTo l p = Sp.sumLen (l.take k) := by
  induction l generalizing lo k with
  | nil => simp at hx
  | cons s r ih =>
    obtain ⟨h1, h2, h3, h4⟩ := h
    cases k with
    | zero =>
      simp at hx; subst hx
      rw [Sp.upTo_cons, Sp.upTo_zero h4 (by simp only; simp only at h2; omega)]
      simp only [List.take_zero, Sp.sumLen, List.map_nil, List.sum_nil]; simp only at h2; omega
    | succ k =>
      have hx' : r[k]? = some (p, q) := by simpa using hx
      have hb := (Sp.PlainFrom.bd h4 (p, q) (List.mem_of_getElem? hx')).1
      simp only at hb
      rw [Sp.upTo_cons, ih h4 hx', List.take_succ_cons, Sp.sumLen_cons]
      omega

set_option maxRecDepth 100000 in
set_option maxHeartbeats 400000 in
theorem upTo_any (N : List Sp.S) (A : Option Addr) (cap : Nat) (t : Int) (w : World) (hPl : Sp.Plain N) (h : Rd encS 2 w w.heap.size A N) (hL : N.length ≤ 4000000000000) (ht : 0 ≤ t ∧ t ≤ 32054400) :
    Calls Tryz.prog 110 #[.slice A N.length cap, .int .i64 t] w fun e w' => e = .returned (.int .i64 (Sp.upTo N t)) ∧ Below w.heap.size w w' := by
  obtain ⟨R, hR⟩ : ∃ R, R = Sp.upTo N t := ⟨_, rfl⟩
  rw [← hR]
  have HR := Lib.hid hR; have hP := Lib.hid hPl; have H := Lib.hid h; clear hR hPl h
  obtain ⟨ht0, ht1⟩ := ht
  go_enter Tryz.func110, Tryz.ntmps110
  go_wp2
  go_loopw [5, 6] (fun v i wr => ∃ k : Nat, k ≤ N.length ∧ i = .int .i64 k ∧ v = .int .i64 (Sp.upTo (N.take k) t) ∧ Below w.heap.size w wr) (fun _ i _ => N.length - (intOf i).toNat)
  case atStart => exact ⟨0, Nat.zero_le _, rfl, rfl, Below.refl _ _⟩
  case round =>
    obtain ⟨k, hk, rfl, rfl, hb⟩ := hrel
    by_cases hlt : k < N.length
    · obtain ⟨b, off, p, q, rfl, hbB, hx, c0, c1⟩ := H.out.atS hb hlt
      have HB := Lib.hid hb; clear hb
      have s0 := Sp.upTo_nonneg (N.take k) t
      have s1 := Sp.upTo_le (plain_take hP.out k) t
      have s2 := (rsum_take hP.out k).2
      have hbd := Sp.PlainFrom.bd hP.out (p, q) (List.mem_of_getElem? hx.out)
      simp only [Sp.MT] at hbd
      have hs : Hid (Sp.upTo (N.take (k + 1)) t = Sp.upTo (N.take k) t + max 0 (min q t - p)) := by show _ = _; rw [take_snoc hx.out, upTo_snoc]
      obtain ⟨Z, hZ⟩ : ∃ Z, Z = Sp.upTo (N.take k) t := ⟨_, rfl⟩
      rw [← hZ] at s0 s1 hs ⊢
      clear hZ
      obtain ⟨g1, g2, g3⟩ := hbd
      obtain ⟨m, hm⟩ : ∃ m, m = min q t := ⟨_, rfl⟩
      obtain ⟨M, hM⟩ : ∃ M, M = max 0 (m - p) := ⟨_, rfl⟩
      rw [← hm, ← hM] at hs
      have m1 : -32054400 ≤ m - p ∧ m - p ≤ 32054400 := by omega
      have m2 : 0 ≤ M ∧ M ≤ 32054400 := by omega
      have e1 : (if t < q then t else q) = m := by rw [← min_ite]; exact hm.symm
      have e2 : min q t = m := hm.symm
      have e3 : (if 0 < m - p then m - p else 0) = M := by rw [← max_ite]; exact hM.symm
      have e4 : max 0 (m - p) = M := hM.symm
      have q1 : IntKind.i64.wrap (m - p) = m - p := IntWalk.i64_in _ (by omega)
      have q2 : IntKind.i64.wrap (Z + M) = Z + M := IntWalk.i64_in _ (by omega)
      have q3 : (k : Int) < (N.length : Int) := by omega
      have q4 : (0 : Int) ≤ (k : Int) := by omega
      clear hm hM
      go_wp2_with fail
      go_quiet (fail)
      clear q1 q2 e1 e2 e3 e4
      go_wp2
      go_roundw
      case rel => exact ⟨k + 1, by omega, by go_num, by rw [hs.out], below_drewN HB.out _⟩
      case measure => simp [intOf]; omega
    · obtain rfl : k = N.length := by omega
      have HB := Lib.hid hb; clear hb
      rw [List.take_length, ← HR.out]
      go_wp2
      go_ret
      exact ⟨rfl, HB.out⟩

theorem atP_drop {l : List Sp.S} {k : Nat} {p q n : Int} (hx : l[k]? = some (p, q)) : Sp.atP (l.drop k) n = if n ≤ q - p then p + n else Sp.atP (l.drop (k + 1)) (n - (q - p)) := by
  rw [drop_cons hx, Sp.atP]

set_option maxRecDepth 100000 in
set_option maxHeartbeats 400000 in
theorem at_any (N : List Sp.S) (A : Option Addr) (cap : Nat) (n : Int) (w : World) (hPl : Sp.Plain N) (h : Rd encS 2 w w.heap.size A N) (hL : N.length ≤ 4000000000000) (hn : -9223372036854775808 ≤ n ∧ n ≤ 9223372036854775807) :
    Calls Tryz.prog 85 #[.slice A N.length cap, .int .i64 n] w fun e w' => e = .returned (.int .i64 (Sp.at_ N n)) ∧ Below w.heap.size w w' := by
  by_cases h1 : n < 1
  · have e : Sp.at_ N n = 0 := by unfold Sp.at_; rw [if_pos h1]
    rw [e]
    clear h hPl e
    go_enter Tryz.func85, Tryz.ntmps85
    go_wp2
    go_ret
    exact ⟨rfl, Below.refl _ _⟩
  · obtain ⟨R, hR⟩ : ∃ R, R = Sp.at_ N n := ⟨_, rfl⟩
    rw [← hR]
    have HR : Hid (R = Sp.atP N n) := by show _ = _; rw [hR]; unfold Sp.at_; rw [if_neg h1]
    have hP := Lib.hid hPl; have H := Lib.hid h
    have hcall := fun W (hb : Below w.heap.size w W) t => upTo_any N A cap t W hPl ((h.below hb).more hb.size) hL
    have HC := Lib.hid hcall
    clear hR hPl h hcall
    obtain ⟨hn0, hn1⟩ := hn
    go_enter Tryz.func85, Tryz.ntmps85
    go_wp2
    go_loopw [5] (fun i wr => ∃ k : Nat, k ≤ N.length ∧ i = .int .i64 k ∧ Hid (Sp.atP N n = Sp.atP (N.drop k) (n - Sp.sumLen (N.take k))) ∧ 1 ≤ n - Sp.sumLen (N.take k) ∧ Below w.heap.size w wr) (fun i _ => N.length - (intOf i).toNat)
    case atStart => exact ⟨0, Nat.zero_le _, rfl, (by simp [Sp.sumLen] : _ = _), by simp [Sp.sumLen]; omega, Below.refl _ _⟩
    case round =>
      obtain ⟨k, hk, rfl, hat, hge, hb⟩ := hrel
      by_cases hlt : k < N.length
      · have hA := H.out.atS hb hlt
        obtain ⟨b, off, p, q, hAe, hbB, hx, c0, c1⟩ := hA
        subst hAe
        have HB := Lib.hid hb; clear hb
        obtain ⟨s0, s1⟩ := rsum_take hP.out k
        have hbd := Sp.PlainFrom.bd hP.out (p, q) (List.mem_of_getElem? hx.out)
        simp only [Sp.MT] at hbd
        obtain ⟨g1, g2, g3⟩ := hbd
        have hup := upTo_at hP.out hx.out
        have hcall := HC.out _ HB.out p
        rw [hup] at hcall
        have HC1 := Lib.hid hcall; clear hcall hup
        have hd := atP_drop (n := n - Sp.sumLen (N.take k)) hx.out
        have hs : Sp.sumLen (N.take (k + 1)) = Sp.sumLen (N.take k) + (q - p) := by rw [take_snoc hx.out, rsumLen_snoc]
        have HD := Lib.hid hd; have HS := Lib.hid hs; clear hd hs
        obtain ⟨Z, hZ⟩ : ∃ Z, Z = Sp.sumLen (N.take k) := ⟨_, rfl⟩
        rw [← hZ] at s0 s1 hat hge HC1 HD HS
        clear hZ
        by_cases ht : n - Z ≤ q - p
        · have hRv : Hid (R = p + n - Z) := by show _ = _; rw [HR.out, hat.out, HD.out, if_pos ht]; omega
          have q1 : IntKind.i64.wrap (n - Z) = n - Z := IntWalk.i64_in _ (by omega)
          have q2 : IntKind.i64.wrap (q - p) = q - p := IntWalk.i64_in _ (by omega)
          have q3 : (k : Int) < (N.length : Int) := by omega
          have q4 : (0 : Int) ≤ (k : Int) := by omega
          go_wp2_with fail
          refine (HC1.out ⟨g1, by omega⟩).mono ?_
          rintro e w1 ⟨rfl, hb1⟩
          have d0 := (hb1.cell (p := ⟨b, off + k * 2, none⟩) (by have := HB.out.size; simp; omega)).trans c0
          have d1 := (hb1.cell (p := ⟨b, off + k * 2 + 1, none⟩) (by have := HB.out.size; simp; omega)).trans c1
          have HB1 := Lib.hid (HB.out.trans (hb1.mono HB.out.size)); clear hb1 c0 c1
          go_wp2_with fail
          go_quiet (fail)
          clear q1 q2
          go_wp2
          go_ret
          exact ⟨by rw [hRv.out]; rfl, below_drewN HB1.out _⟩
        · have hd2 : decide (n - Z ≤ q - p) = false := by simpa using ht
          have ht2 : 1 ≤ n - (Z + (q - p)) := by omega
          have hat2 : Hid (Sp.atP N n = Sp.atP (N.drop (k + 1)) (n - (Z + (q - p)))) := by show _ = _; rw [hat.out, HD.out, if_neg ht]; congr 1; omega
          have q1 : IntKind.i64.wrap (n - Z) = n - Z := IntWalk.i64_in _ (by omega)
          have q2 : IntKind.i64.wrap (q - p) = q - p := IntWalk.i64_in _ (by omega)
          have q3 : (k : Int) < (N.length : Int) := by omega
          have q4 : (0 : Int) ≤ (k : Int) := by omega
          go_wp2_with fail
          refine (HC1.out ⟨g1, by omega⟩).mono ?_
          rintro e w1 ⟨rfl, hb1⟩
          have d0 := (hb1.cell (p := ⟨b, off + k * 2, none⟩) (by have := HB.out.size; simp; omega)).trans c0
          have d1 := (hb1.cell (p := ⟨b, off + k * 2 + 1, none⟩) (by have := HB.out.size; simp; omega)).trans c1
          have HB1 := Lib.hid (HB.out.trans (hb1.mono HB.out.size)); clear hb1 c0 c1
          go_wp2_with fail
          go_quiet (fail)
          clear q1 q2
          go_wp2
          go_roundw
          case rel => exact ⟨k + 1, by omega, by go_num, by rw [HS.out]; exact hat2.out, by rw [HS.out]; exact ht2, below_drewN HB1.out _⟩
          case measure => simp [intOf]; omega
      · obtain rfl : k = N.length := by omega
        have HB := Lib.hid hb; clear hb
        have hRv : Hid (R = 32054400) := by show _ = _; rw [HR.out, hat.out, List.drop_length]; rfl
        clear hat hge
        go_wp2
        go_ret
        exact ⟨by rw [hRv.out]; rfl, HB.out⟩
end Go.Proofs.YtnhmibfgaoealaaGreat
namespace Go.Proofs.YtnhmibfgaoealaaGreat
open Go.RowKit

theorem rd_new1 (w : World) (p q : Int) (t : TypeId) : Rd encS 2 (w.alloc (.cells #[.int .i64 p, .int .i64 q] t)) (w.alloc (.cells #[.int .i64 p, .int .i64 q] t)).heap.size (some ⟨w.heap.size, 0, none⟩) [(p, q)] := fun _ =>
  ⟨w.heap.size, 0, rfl, by simp, fun j hj i u hu => by
    simp at hj; subst hj
    match i, hu with
    | 0, hu => simp [encS] at hu; subst hu; simp
    | 1, hu => simp [encS] at hu; subst hu; simp
    | i + 2, hu => simp [encS] at hu⟩

set_option maxHeartbeats 400000 in
theorem rfirst_any (l : List Sp.S) (A : Option Addr) (cap : Nat) (n : Int) (w : World) (h : Rd encS 2 w w.heap.size A l) (hl : l.length ≤ 4000000000000) (hn : -9223372036854775808 ≤ n ∧ n ≤ 9223372036854775807) :
    Calls Tryz.prog 43 #[.slice A l.length cap, .int .i64 n] w fun e w' => ∃ A' cap', e = .returned (.slice A' (Sp.first l n).length cap') ∧
      w'.ownsRow w.heap.size 49 2 (.slice A' (Sp.first l n).length cap') (Sp.first l n).length (flat encS (Sp.first l n)) ∧ Below w.heap.size w w' := by
  have hF := Sp.first_at l n
  rw [← hF]
  have c1 := rnorm_any l A cap w h hl
  have hP := Lib.hid (Sp.norm_plain l)
  have hL := Nat.le_trans (Sp.norm_length l) hl
  have c3 := fun W (hb : Below w.heap.size w W) x A2 h2 => rand_any l [(0, x)] A A2 cap 1 W ((h.below hb).more hb.size) h2 hl (by simp)
  obtain ⟨N, hN⟩ : ∃ N, N = Sp.norm l := ⟨_, rfl⟩
  rw [← hN] at c1 hP hL ⊢
  have C1 := Lib.hid c1; have C3 := Lib.hid c3; clear c1 c3 hN hF h
  have c2 := fun W A1 cap1 h1 => at_any N A1 cap1 n W hP.out h1 hL hn
  have C2 := Lib.hid c2; clear c2
  obtain ⟨x, hx⟩ : ∃ x, x = Sp.at_ N n := ⟨_, rfl⟩
  rw [← hx] at C2 ⊢
  clear hx
  go_enter Tryz.func43, Tryz.ntmps43
  go_wp2_with fail
  refine C1.out.mono ?_
  rintro e w1 ⟨A1, cap1, rfl, ho1, hb1⟩
  have HO1 := Lib.hid ho1; have HB1 := Lib.hid hb1; clear ho1 hb1
  go_wp2_with fail
  refine (C2.out _ A1 cap1 (Rd.of_own encS_len HO1.out)).mono ?_
  rintro e w2 ⟨rfl, hb2⟩
  have HB2 := Lib.hid (HB1.out.trans (hb2.mono HB1.out.size)); clear hb2
  have HB3 := Lib.hid (HB2.out.alloc HB2.out.size (.cells #[.int .i64 0, .int .i64 x] 49))
  go_wp2_with fail
  refine (C3.out _ HB3.out x (some ⟨w2.heap.size, 0, none⟩) (rd_new1 w2 0 x 49)).mono ?_
  rintro e w3 ⟨A3, cap3, rfl, ho3, hb3⟩
  have HB4 := Lib.hid (HB3.out.trans (hb3.mono HB3.out.size)); have HO3 := Lib.hid (own_base ho3 HB3.out.size); clear hb3 ho3
  go_wp2
  go_ret
  exact ⟨A3, cap3, rfl, HO3.out, HB4.out⟩

set_option maxHeartbeats 400000 in
theorem rlast_any (l : List Sp.S) (A : Option Addr) (cap : Nat) (n : Int) (w : World) (h : Rd encS 2 w w.heap.size A l) (hl : l.length ≤ 4000000000000) (hn : -9223372036854775808 ≤ n ∧ n ≤ 9223372036854775807) :
    Calls Tryz.prog 45 #[.slice A l.length cap, .int .i64 n] w fun e w' => ∃ A' cap', e = .returned (.slice A' (Sp.last l n).length cap') ∧
      w'.ownsRow w.heap.size 49 2 (.slice A' (Sp.last l n).length cap') (Sp.last l n).length (flat encS (Sp.last l n)) ∧ Below w.heap.size w w' := by
  by_cases h1 : n < 1
  · have e : Sp.last l n = [] := by unfold Sp.last; rw [if_pos (by omega)]
    rw [e]
    clear h e
    go_enter Tryz.func45, Tryz.ntmps45
    go_wp2
    go_ret
    exact ⟨none, 0, rfl, World.ownsRow_nil _ _ _ _, Below.refl _ _⟩
  · have c0 := rsize_any l A cap w h hl
    have c1 := fun W (hb : Below w.heap.size w W) => rnorm_any l A cap W ((h.below hb).more hb.size) hl
    have hP := Lib.hid (Sp.norm_plain l)
    have hL := Nat.le_trans (Sp.norm_length l) hl
    have s1 := Sp.size_nonneg l
    have s2 := Sp.size_le l
    simp only [Sp.MT] at s2
    have c3 := fun W (hb : Below w.heap.size w W) x A2 h2 => rminus_any l [(0, x)] A A2 cap 1 W ((h.below hb).more hb.size) h2 hl (by simp)
    have C3 := Lib.hid c3; clear c3 h
    have hall := fun h2 => Sp.last_all l n h2 (by omega)
    have hlast := fun h2 => Sp.last_at l n (by omega) h2
    obtain ⟨Z, hZ⟩ : ∃ Z, Z = Sp.size l := ⟨_, rfl⟩
    rw [← hZ] at c0 s1 s2 hall hlast
    clear hZ
    by_cases h2 : Z ≤ n
    · have he := hall h2
      rw [← he]
      have C0 := Lib.hid c0; have C1 := Lib.hid c1; clear c0 c1 hall hlast he C3
      go_enter Tryz.func45, Tryz.ntmps45
      go_wp2_with fail
      refine C0.out.mono ?_
      rintro e w1 ⟨rfl, hb1⟩
      have HB1 := Lib.hid hb1; clear hb1
      go_wp2_with fail
      refine (C1.out _ HB1.out).mono ?_
      rintro e w2 ⟨A2, cap2, rfl, ho2, hb2⟩
      have HB2 := Lib.hid (HB1.out.trans (hb2.mono HB1.out.size)); have HO2 := Lib.hid (own_base ho2 HB1.out.size); clear hb2 ho2
      go_wp2
      go_ret
      exact ⟨A2, cap2, rfl, HO2.out, HB2.out⟩
    · have he := hlast (by omega)
      rw [← he]
      obtain ⟨N, hN⟩ : ∃ N, N = Sp.norm l := ⟨_, rfl⟩
      rw [← hN] at c1 hP hL ⊢
      clear hall hlast he hN
      have c2 := fun W A1 cap1 h1 => at_any N A1 cap1 (Z - n) W hP.out h1 hL (by omega)
      obtain ⟨x, hx⟩ : ∃ x, x = Sp.at_ N (Z - n) := ⟨_, rfl⟩
      rw [← hx] at c2 ⊢
      have C0 := Lib.hid c0; have C1 := Lib.hid c1; have C2 := Lib.hid c2; clear c0 c1 c2 hx
      have h3 : n < Z := by omega
      go_enter Tryz.func45, Tryz.ntmps45
      go_wp2_with fail
      refine C0.out.mono ?_
      rintro e w0 ⟨rfl, hb0⟩
      have HB0 := Lib.hid hb0; clear hb0
      go_wp2_with fail
      refine (C1.out _ HB0.out).mono ?_
      rintro e w1 ⟨A1, cap1, rfl, ho1, hb1⟩
      have HO1 := Lib.hid ho1; have HB1 := Lib.hid (HB0.out.trans (hb1.mono HB0.out.size)); clear ho1 hb1
      go_wp2_with fail
      refine (C2.out _ A1 cap1 (Rd.of_own encS_len HO1.out)).mono ?_
      rintro e w2 ⟨rfl, hb2⟩
      have HB2 := Lib.hid (HB1.out.trans (hb2.mono HB1.out.size)); clear hb2
      have HB3 := Lib.hid (HB2.out.alloc HB2.out.size (.cells #[.int .i64 0, .int .i64 x] 49))
      go_wp2_with fail
      refine (C3.out _ HB3.out x (some ⟨w2.heap.size, 0, none⟩) (rd_new1 w2 0 x 49)).mono ?_
      rintro e w3 ⟨A3, cap3, rfl, ho3, hb3⟩
      have HB4 := Lib.hid (HB3.out.trans (hb3.mono HB3.out.size)); have HO3 := Lib.hid (own_base ho3 HB3.out.size); clear hb3 ho3
      go_wp2
      go_ret
      exact ⟨A3, cap3, rfl, HO3.out, HB4.out⟩
end Go.Proofs.YtnhmibfgaoealaaGreat
