/-
  lumperref07.Check: the ratios.
  lumperref07.Check: lists of ratios, elements, ways.
  lumperref07.Check: times.
  lumperref07.Check: money.
  lumperref07.Check.
-/
import Derived.Test.YtnhmibfgaoealaaGreatMn
import Derived.Test.YtnhmibfgaoealaaGreatMo
import Derived.Test.YtnhmibfgaoealaaGreatLy
namespace Go.Proofs.YtnhmibfgaoealaaGreat
open Go.RowKit
set_option linter.unusedVariables false
set_option linter.unusedSimpArgs false

set_option maxRecDepth 100000 in
set_option maxHeartbeats 1000000 in
theorem rGcd : ∀ (m : Nat) (a b : Int), b.natAbs ≤ m → -9223372036854775807 ≤ a → a ≤ 9223372036854775807 → -9223372036854775807 ≤ b → b ≤ 9223372036854775807 → ∀ w : World,
    Calls Tryz.prog 139 #[.int .i64 a, .int .i64 b] w (RetI w ((Nat.gcd a.natAbs b.natAbs : Nat) : Int)) := by
  intro m
  induction m with
  | zero =>
    intro a b hm a0 a1 b0 b1 w
    obtain rfl : b = 0 := by omega
    have f1 : (a == -9223372036854775808) = false := by simp; omega
    have e1 : IntKind.i64.wrap (-a) = -a := IntWalk.i64_in _ (by omega)
    have e2 : max a (-a) = (a.natAbs : Int) := by omega
    have e3 : Nat.gcd a.natAbs (0 : Int).natAbs = a.natAbs := Nat.gcd_zero_right _
    rw [e3]
    go_enter Tryz.func139, Tryz.ntmps139
    go_wp2
    go_ret
    exact ⟨rfl, Ext.refl _⟩
  | succ m ih =>
    intro a b hm a0 a1 b0 b1 w
    have f1 : (a == -9223372036854775808) = false := by simp; omega
    have f2 : (b == -9223372036854775808) = false := by simp; omega
    have e1 : IntKind.i64.wrap (-a) = -a := IntWalk.i64_in _ (by omega)
    have e2 : IntKind.i64.wrap (-b) = -b := IntWalk.i64_in _ (by omega)
    obtain ⟨x, hx⟩ : ∃ x, a.natAbs = x := ⟨_, rfl⟩
    obtain ⟨y, hy⟩ : ∃ y, b.natAbs = y := ⟨_, rfl⟩
    have e3 : max a (-a) = (x : Int) := by omega
    have e4 : max b (-b) = (y : Int) := by omega
    have hxb : (x : Int) ≤ 9223372036854775807 := by omega
    have hyb : (y : Int) ≤ 9223372036854775807 := by omega
    rw [hx, hy]
    rw [hy] at hm
    clear hx hy a0 a1 b0 b1
    by_cases h0 : y = 0
    · subst h0
      rw [Nat.gcd_zero_right]
      have f3 : (((0 : Nat) : Int) == 0) = true := by decide
      clear ih hm
      go_enter Tryz.func139, Tryz.ntmps139
      go_wp2
      go_ret
      exact ⟨rfl, Ext.refl _⟩
    · have f3 : ((y : Int) == 0) = false := by simp; omega
      have f4 : ((0 : Int) == (y : Int)) = false := by simp; omega
      have hyz : (y : Int) ≠ 0 := by omega
      have ht : (x : Int).tmod (y : Int) = ((x % y : Nat) : Int) := by rw [Int.tmod_eq_emod_of_nonneg (by omega)]; rfl
      have hlt : x % y < y := Nat.mod_lt _ (by omega)
      have k := ih (y : Int) ((x % y : Nat) : Int) (by simp; omega) (by omega) hyb (by omega) (by omega) w
      rw [show Nat.gcd (y : Int).natAbs ((x % y : Nat) : Int).natAbs = Nat.gcd x y by rw [Int.natAbs_natCast, Int.natAbs_natCast, gcd_step]] at k
      replace k := Lib.hid k
      obtain ⟨z, hz⟩ : ∃ z, x % y = z := ⟨_, rfl⟩
      rw [hz] at k ht
      clear ih hm hlt hz
      go_enter Tryz.func139, Tryz.ntmps139
      go_wp2_with fail
      refine k.out.mono ?_
      rintro e w1 ⟨rfl, x1⟩
      go_wp2
      go_ret
      exact ⟨rfl, x1⟩

def rRatio (r : Int × Int) : Bool := decide (-2147483647 ≤ r.1 ∧ r.1 ≤ 2147483647 ∧ 1 ≤ r.2 ∧ r.2 ≤ 2147483647 ∧ Nat.gcd r.1.natAbs r.2.natAbs = 1)

set_option maxRecDepth 100000 in
set_option maxHeartbeats 1000000 in
theorem pRef02 (n d : Int) (w : World) : Calls Tryz.prog 109 #[.agg #[.int .i64 n, .int .i64 d]] w (RetB w (rRatio (n, d))) := by
  by_cases h1 : -2147483647 ≤ n
  · have f1 : decide (-2147483647 ≤ n) = true := decide_eq_true h1
    by_cases h2 : n ≤ 2147483647
    · have f2 : decide (n ≤ 2147483647) = true := decide_eq_true h2
      by_cases h3 : 1 ≤ d
      · have f3 : decide (1 ≤ d) = true := decide_eq_true h3
        by_cases h4 : d ≤ 2147483647
        · have f4 : decide (d ≤ 2147483647) = true := decide_eq_true h4
          have k := fun w => rGcd _ n d (Nat.le_refl _) (by omega) (by omega) (by omega) (by omega) w
          obtain ⟨G, hG⟩ : ∃ G, Nat.gcd n.natAbs d.natAbs = G := ⟨_, rfl⟩
          rw [hG] at k
          rw [show rRatio (n, d) = (((G : Nat) : Int) == 1) by
            unfold rRatio; rw [Bool.eq_iff_iff]; simp [hG]; omega]
          replace k := Lib.hid k
          clear hG h1 h2 h3 h4
          go_enter Tryz.func109, Tryz.ntmps109
          go_wp2_with fail
          refine (k.out _).mono ?_
          rintro e w1 ⟨rfl, x1⟩
          go_wp2
          go_ret
          exact ⟨rfl, ((Ext.refl w).alloc _).trans x1⟩
        · have f4 : decide (d ≤ 2147483647) = false := decide_eq_false h4
          rw [show rRatio (n, d) = false from decide_eq_false fun h => h4 (by simp at h; omega)]
          clear h1 h2 h3 h4
          go_enter Tryz.func109, Tryz.ntmps109
          go_wp2
          go_ret
          exact ⟨rfl, (Ext.refl _).alloc _⟩
      · have f3 : decide (1 ≤ d) = false := decide_eq_false h3
        rw [show rRatio (n, d) = false from decide_eq_false fun h => h3 (by simp at h; omega)]
        clear h1 h2 h3
        go_enter Tryz.func109, Tryz.ntmps109
        go_wp2
        go_ret
        exact ⟨rfl, (Ext.refl _).alloc _⟩
    · have f2 : decide (n ≤ 2147483647) = false := decide_eq_false h2
      rw [show rRatio (n, d) = false from decide_eq_false fun h => h2 (by simp at h; omega)]
      clear h1 h2
      go_enter Tryz.func109, Tryz.ntmps109
      go_wp2
      go_ret
      exact ⟨rfl, (Ext.refl _).alloc _⟩
  · have f1 : decide (-2147483647 ≤ n) = false := decide_eq_false h1
    rw [show rRatio (n, d) = false from decide_eq_false fun h => h1 (by simp at h; omega)]
    clear h1
    go_enter Tryz.func109, Tryz.ntmps109
    go_wp2
    go_ret
    exact ⟨rfl, (Ext.refl _).alloc _⟩

theorem share_ok (n d : Int) : (rRatio (n, d) && decide (0 ≤ n)) = okShare (n, d) := by
  unfold rRatio okShare
  rw [Bool.eq_iff_iff]
  simp only [Bool.and_eq_true, decide_eq_true_eq]
  constructor
  · rintro ⟨⟨a, b, c, e, f⟩, g⟩
    refine ⟨g, b, c, e, ?_⟩
    rw [show n.toNat = n.natAbs by omega, show d.toNat = d.natAbs by omega]; exact f
  · rintro ⟨a, b, c, e, f⟩
    refine ⟨⟨by omega, b, c, e, ?_⟩, a⟩
    rw [show n.natAbs = n.toNat by omega, show d.natAbs = d.toNat by omega]; exact f
set_option maxRecDepth 100000 in
set_option maxHeartbeats 1000000 in
theorem pRShare (n d : Int) (w : World) : Calls Tryz.prog 80 #[.agg #[.int .i64 n, .int .i64 d]] w (RetB w (okShare (n, d))) := by
  have k := fun w => pRef02 n d w
  rw [← share_ok]
  generalize rRatio (n, d) = b at k ⊢
  replace k := Lib.hid k
  go_enter Tryz.func80, Tryz.ntmps80
  go_wp2_with fail
  refine (k.out _).mono ?_
  rintro e w1 ⟨rfl, x1⟩
  have c0 : w1.cell? ⟨w.heap.size, 0, none⟩ = some (.int .i64 n) := by rw [x1.cell (p := ⟨w.heap.size, 0, none⟩) (by simp)]; simp
  cases b
  · go_wp2
    go_ret
    exact ⟨rfl, ((Ext.refl w).alloc _).trans x1⟩
  · go_wp2
    go_ret
    exact ⟨rfl, ((Ext.refl w).alloc _).trans x1⟩
theorem pRWithin (n lo hi : Int) (w : World) : Calls Tryz.prog 108 #[.int .i64 n, .int .i64 lo, .int .i64 hi] w (RetB w (okIn lo hi n)) := by
  by_cases h1 : lo ≤ n
  · have f1 : decide (lo ≤ n) = true := decide_eq_true h1
    rw [show okIn lo hi n = decide (n ≤ hi) by unfold okIn; simp [h1]]
    clear h1
    go_enter Tryz.func108, Tryz.ntmps108
    go_wp2
    go_ret
    exact ⟨rfl, Ext.refl _⟩
  · have f1 : decide (lo ≤ n) = false := decide_eq_false h1
    rw [show okIn lo hi n = false by unfold okIn; simp; omega]
    clear h1
    go_enter Tryz.func108, Tryz.ntmps108
    go_wp2
    go_ret
    exact ⟨rfl, Ext.refl _⟩
end Go.Proofs.YtnhmibfgaoealaaGreat
namespace Go.Proofs.YtnhmibfgaoealaaGreat
open Go.RowKit
set_option linter.unusedVariables false
set_option linter.unusedSimpArgs false

theorem all_bad {α : Type} {q : α → Bool} {l : List α} {k : Nat} {x : α} (hx : l[k]? = some x) (h : q x = false) : l.all q = false := by
  cases ha : l.all q with
  | false => rfl
  | true => rw [List.all_eq_true] at ha; rw [ha x (List.mem_of_getElem? hx)] at h; cases h
theorem all_next {α : Type} {q : α → Bool} {l : List α} {k : Nat} {x : α} (hx : l[k]? = some x) (h : (l.take k).all q = true) (h2 : q x = true) : (l.take (k + 1)).all q = true := by
  rw [take_snoc hx, List.all_append, h]; simp [h2]
theorem Rd.at2 {w w' : World} {A : Option Addr} {l : List (Int × Int)} (h : Rd encS 2 w w.heap.size A l) (X : Ext w w') {j : Nat} (hj : j < l.length) :
    ∃ b off p q, A = some ⟨b, off, none⟩ ∧ b < w.heap.size ∧ Hid (l[j]? = some (p, q)) ∧ w'.cell? ⟨b, off + j * 2, none⟩ = some (.int .i64 p) ∧ w'.cell? ⟨b, off + j * 2 + 1, none⟩ = some (.int .i64 q) := by
  obtain ⟨b, off, x, hA, hb, hx, hc⟩ := (h.below X).at_ hj
  exact ⟨b, off, x.1, x.2, hA, hb, hx, hc 0 _ rfl, hc 1 _ rfl⟩
theorem Rd.at3 {w w' : World} {A : Option Addr} {l : List (Int × Int × Int)} (h : Rd enc3 3 w w.heap.size A l) (X : Ext w w') {j : Nat} (hj : j < l.length) :
    ∃ b off p q r, A = some ⟨b, off, none⟩ ∧ b < w.heap.size ∧ Hid (l[j]? = some (p, q, r)) ∧ w'.cell? ⟨b, off + j * 3, none⟩ = some (.int .i64 p) ∧ w'.cell? ⟨b, off + j * 3 + 1, none⟩ = some (.int .i64 q) ∧ w'.cell? ⟨b, off + j * 3 + 2, none⟩ = some (.int .i64 r) := by
  obtain ⟨b, off, x, hA, hb, hx, hc⟩ := (h.below X).at_ hj
  exact ⟨b, off, x.1, x.2.1, x.2.2, hA, hb, hx, hc 0 _ rfl, hc 1 _ rfl, hc 2 _ rfl⟩
theorem Rd.at4 {w w' : World} {A : Option Addr} {l : List ((Int × Int) × (Int × Int))} (h : Rd enc4 4 w w.heap.size A l) (X : Ext w w') {j : Nat} (hj : j < l.length) :
    ∃ b off p q r t, A = some ⟨b, off, none⟩ ∧ b < w.heap.size ∧ Hid (l[j]? = some ((p, q), (r, t))) ∧ w'.cell? ⟨b, off + j * 4, none⟩ = some (.int .i64 p) ∧ w'.cell? ⟨b, off + j * 4 + 1, none⟩ = some (.int .i64 q) ∧ w'.cell? ⟨b, off + j * 4 + 2, none⟩ = some (.int .i64 r) ∧ w'.cell? ⟨b, off + j * 4 + 3, none⟩ = some (.int .i64 t) := by
  obtain ⟨b, off, x, hA, hb, hx, hc⟩ := (h.below X).at_ hj
  exact ⟨b, off, x.1.1, x.1.2, x.2.1, x.2.2, hA, hb, hx, hc 0 _ rfl, hc 1 _ rfl, hc 2 _ rfl, hc 3 _ rfl⟩

set_option maxRecDepth 100000 in
set_option maxHeartbeats 1000000 in
theorem pRShares (l : List (Int × Int)) (A : Option Addr) (c : Nat) (hl : l.length ≤ maxLen) (w : World) (h : Rd encS 2 w w.heap.size A l) :
    Calls Tryz.prog 82 #[.slice A l.length c] w (RetB w (l.all okShare && decide ((l.length : Int) ≤ 8))) := by
  replace h := Lib.hid h
  have hl2 : l.length ≤ 9223372036854775807 := hl
  clear hl
  go_enter Tryz.func82, Tryz.ntmps82
  go_wp2_with fail
  go_loopw [3] (fun i wr => ∃ k : Nat, k ≤ l.length ∧ i = .int .i64 k ∧ Hid ((l.take k).all okShare = true) ∧ Hid (Ext w wr)) (fun i _ => l.length - (intOf i).toNat)
  case atStart => exact ⟨0, Nat.zero_le _, rfl, (rfl : _ = _), Ext.refl _⟩
  case round =>
    obtain ⟨k, hk, rfl, HP, HX⟩ := hrel
    by_cases hlt : k < l.length
    · obtain ⟨b, off, p, q, rfl, hbB, hx, c0, c1⟩ := h.out.at2 HX.out hlt
      have q3 : (k : Int) < (l.length : Int) := by omega
      have q4 : (0 : Int) ≤ (k : Int) := by omega
      have kS := fun w => pRShare p q w
      obtain ⟨v, hv⟩ : ∃ v, okShare (p, q) = v := ⟨_, rfl⟩
      rw [hv] at kS
      replace kS := Lib.hid kS; replace hv := Lib.hid hv
      go_wp2_with fail
      refine (kS.out _).mono ?_
      rintro e w1 ⟨rfl, x1⟩
      have X1 := Lib.hid (HX.out.trans x1)
      clear x1 HX c0 c1 h
      cases v
      · have hA := Lib.hid (all_bad hx.out hv.out)
        clear hx hv HP
        go_wp2
        go_ret
        exact ⟨by rw [hA.out]; rfl, X1.out⟩
      · have HP2 := Lib.hid (all_next hx.out HP.out hv.out)
        clear hx hv HP
        go_wp2
        go_roundw
        case rel => exact ⟨k + 1, by omega, by go_num, HP2, X1⟩
        case measure => simp [intOf]; omega
    · obtain rfl : k = l.length := by omega
      have HP2 := HP.out
      rw [List.take_length] at HP2
      replace HP2 := Lib.hid HP2
      clear HP
      go_wp2
      go_ret
      exact ⟨by rw [HP2.out, Bool.true_and]; rfl, HX.out⟩

set_option maxRecDepth 100000 in
set_option maxHeartbeats 1000000 in
theorem pRElements (l : List ((Int × Int) × (Int × Int))) (A : Option Addr) (c : Nat) (hl : l.length ≤ maxLen) (w : World) (h : Rd enc4 4 w w.heap.size A l) :
    Calls Tryz.prog 81 #[.slice A l.length c] w (RetB w (l.all okEl && decide ((l.length : Int) ≤ 8))) := by
  replace h := Lib.hid h
  have hl2 : l.length ≤ 9223372036854775807 := hl
  clear hl
  go_enter Tryz.func81, Tryz.ntmps81
  go_wp2_with fail
  go_loopw [3] (fun i wr => ∃ k : Nat, k ≤ l.length ∧ i = .int .i64 k ∧ Hid ((l.take k).all okEl = true) ∧ Hid (Ext w wr)) (fun i _ => l.length - (intOf i).toNat)
  case atStart => exact ⟨0, Nat.zero_le _, rfl, (rfl : _ = _), Ext.refl _⟩
  case round =>
    obtain ⟨k, hk, rfl, HP, HX⟩ := hrel
    by_cases hlt : k < l.length
    · obtain ⟨b, off, p, q, r, t, rfl, hbB, hx, c0, c1, c2, c3⟩ := h.out.at4 HX.out hlt
      have q3 : (k : Int) < (l.length : Int) := by omega
      have q4 : (0 : Int) ≤ (k : Int) := by omega
      have kS := fun w => pRShare p q w
      have kT := fun w => pRShare r t w
      obtain ⟨v, hv⟩ : ∃ v, okShare (p, q) = v := ⟨_, rfl⟩
      obtain ⟨u, hu⟩ : ∃ v, okShare (r, t) = v := ⟨_, rfl⟩
      have hE : okEl ((p, q), (r, t)) = (v && u) := by unfold okEl; rw [hv, hu]
      rw [hv] at kS
      rw [hu] at kT
      replace kS := Lib.hid kS; replace kT := Lib.hid kT; replace hE := Lib.hid hE
      clear hv hu
      go_wp2_with fail
      refine (kS.out _).mono ?_
      rintro e w1 ⟨rfl, x1⟩
      have hB1 : b < wr.heap.size := Nat.lt_of_lt_of_le hbB HX.out.size
      have d2 := (x1.cell (p := ⟨b, off + k * 4 + 2, none⟩) hB1).trans c2
      have d3 := (x1.cell (p := ⟨b, off + k * 4 + 3, none⟩) hB1).trans c3
      clear c0 c1 c2 c3
      go_wp2_with fail
      refine (kT.out _).mono ?_
      rintro e w2 ⟨rfl, x2⟩
      have X1 := Lib.hid ((HX.out.trans x1).trans x2)
      clear x1 x2 HX d2 d3 h
      cases v
      · have hA := Lib.hid (all_bad hx.out hE.out)
        clear hx hE HP
        go_wp2
        go_ret
        exact ⟨by rw [hA.out]; rfl, X1.out⟩
      · cases u
        · have hA := Lib.hid (all_bad hx.out hE.out)
          clear hx hE HP
          go_wp2
          go_ret
          exact ⟨by rw [hA.out]; rfl, X1.out⟩
        · have HP2 := Lib.hid (all_next hx.out HP.out hE.out)
          clear hx hE HP
          go_wp2
          go_roundw
          case rel => exact ⟨k + 1, by omega, by go_num, HP2, X1⟩
          case measure => simp [intOf]; omega
    · obtain rfl : k = l.length := by omega
      have HP2 := HP.out
      rw [List.take_length] at HP2
      replace HP2 := Lib.hid HP2
      clear HP
      go_wp2
      go_ret
      exact ⟨by rw [HP2.out, Bool.true_and]; rfl, HX.out⟩

set_option maxRecDepth 100000 in
set_option maxHeartbeats 2000000 in
theorem pRWays (cs : List Value) (hcs : cs.length = 23) (P : Int) (l : List (Int × Int × Int)) (A : Option Addr) (c : Nat) (c0 : cs[0]? = some (.int .i64 P)) (c1 : cs[1]? = some (.slice A l.length c)) (hl : l.length ≤ maxLen) (w : World) (h : Rd enc3 3 w w.heap.size A l) :
    Calls Tryz.prog 79 #[.agg cs.toArray] w (RetB w (l.all (okWay P) && decide ((l.length : Int) ≤ 64) && okIn 1 16 P)) := by
  replace h := Lib.hid h
  have hl2 : l.length ≤ 9223372036854775807 := hl
  have hs0 := Bx.new w cs 30
  have X0 := (Ext.refl w).alloc (.cells cs.toArray 30)
  have hS : Hid (∀ W, Ext (w.alloc (.cells cs.toArray 30)) W → W.cell? ⟨w.heap.size, 0, none⟩ = some (.int .i64 P) ∧ W.cell? ⟨w.heap.size, 1, none⟩ = some (.slice A l.length c)) := fun W X => ⟨(hs0.ext X).cell 0 _ c0, (hs0.ext X).cell 1 _ c1⟩
  replace X0 := Lib.hid X0
  have kW := Lib.hid fun w => pRWithin P 1 16 w
  clear hl hs0 c0 c1 hcs
  go_enter Tryz.func79, Tryz.ntmps79
  go_wp2_with fail
  go_loopw [3] (fun i wr => ∃ k : Nat, k ≤ l.length ∧ i = .int .i64 k ∧ Hid ((l.take k).all (okWay P) = true) ∧ Hid (Ext (w.alloc (.cells cs.toArray 30)) wr)) (fun i _ => l.length - (intOf i).toNat)
  case atStart => exact ⟨0, Nat.zero_le _, rfl, (rfl : _ = _), Ext.refl _⟩
  case round =>
    obtain ⟨k, hk, rfl, HP, HX⟩ := hrel
    obtain ⟨s0, s1⟩ := hS.out _ HX.out
    have hwl : w.heap.size < wr.heap.size := Nat.lt_of_lt_of_le (by simp) HX.out.size
    by_cases hlt : k < l.length
    · obtain ⟨b, off, p, q, r, rfl, hbB, hx, c0, c1, c2⟩ := h.out.at3 (X0.out.trans HX.out) hlt
      have q3 : (k : Int) < (l.length : Int) := by omega
      have q4 : (0 : Int) ≤ (k : Int) := by omega
      have hne : w.heap.size ≠ wr.heap.size := by omega
      have hne2 : b ≠ wr.heap.size := by omega
      have XW := Lib.hid (X0.out.trans HX.out)
      by_cases g0 : p < 0
      · have f0 : decide (p < 0) = true := decide_eq_true g0
        have hE : okWay P (p, q, r) = false := by unfold okWay okIn; simp; omega
        have hA := Lib.hid (all_bad hx.out hE)
        clear hx hE HP g0 h
        go_wp2
        go_ret
        exact ⟨by rw [hA.out, Bool.false_and, Bool.false_and]; rfl, XW.out.alloc _⟩
      · have f0 : decide (p < 0) = false := decide_eq_false g0
        by_cases g1 : q < 0
        · have f1 : decide (q < 0) = true := decide_eq_true g1
          have hE : okWay P (p, q, r) = false := by unfold okWay okIn; simp; omega
          have hA := Lib.hid (all_bad hx.out hE)
          clear hx hE HP g0 g1 h
          go_wp2
          go_ret
          exact ⟨by rw [hA.out, Bool.false_and, Bool.false_and]; rfl, XW.out.alloc _⟩
        · have f1 : decide (q < 0) = false := decide_eq_false g1
          by_cases g2 : P ≤ p
          · have f2 : decide (P ≤ p) = true := decide_eq_true g2
            have hE : okWay P (p, q, r) = false := by unfold okWay okIn; simp; omega
            have hA := Lib.hid (all_bad hx.out hE)
            clear hx hE HP g0 g1 g2 h
            go_wp2
            go_ret
            exact ⟨by rw [hA.out, Bool.false_and, Bool.false_and]; rfl, XW.out.alloc _⟩
          · have f2 : decide (P ≤ p) = false := decide_eq_false g2
            by_cases g3 : P ≤ q
            · have f3 : decide (P ≤ q) = true := decide_eq_true g3
              have hE : okWay P (p, q, r) = false := by unfold okWay okIn; simp; omega
              have hA := Lib.hid (all_bad hx.out hE)
              clear hx hE HP g0 g1 g2 g3 h
              go_wp2
              go_ret
              exact ⟨by rw [hA.out, Bool.false_and, Bool.false_and]; rfl, XW.out.alloc _⟩
            · have f3 : decide (P ≤ q) = false := decide_eq_false g3
              by_cases g4 : p = q
              · have f4 : (p == q) = true := by simp [g4]
                have hE : okWay P (p, q, r) = false := by unfold okWay okIn; simp; omega
                have hA := Lib.hid (all_bad hx.out hE)
                clear hx hE HP g0 g1 g2 g3 g4 h
                go_wp2
                go_ret
                exact ⟨by rw [hA.out, Bool.false_and, Bool.false_and]; rfl, XW.out.alloc _⟩
              · have f4 : (p == q) = false := by simp [g4]
                by_cases g5 : r < 1
                · have f5 : decide (r < 1) = true := decide_eq_true g5
                  have hE : okWay P (p, q, r) = false := by unfold okWay okIn; simp; omega
                  have hA := Lib.hid (all_bad hx.out hE)
                  clear hx hE HP g0 g1 g2 g3 g4 g5 h
                  go_wp2
                  go_ret
                  exact ⟨by rw [hA.out, Bool.false_and, Bool.false_and]; rfl, XW.out.alloc _⟩
                · have f5 : decide (r < 1) = false := decide_eq_false g5
                  by_cases g6 : 10000 < r
                  · have f6 : decide (10000 < r) = true := decide_eq_true g6
                    have hE : okWay P (p, q, r) = false := by unfold okWay okIn; simp; omega
                    have hA := Lib.hid (all_bad hx.out hE)
                    clear hx hE HP g0 g1 g2 g3 g4 g5 g6 h
                    go_wp2
                    go_ret
                    exact ⟨by rw [hA.out, Bool.false_and, Bool.false_and]; rfl, XW.out.alloc _⟩
                  · have f6 : decide (10000 < r) = false := decide_eq_false g6
                    have hE : okWay P (p, q, r) = true := by unfold okWay okIn; simp; omega
                    have HP2 := Lib.hid (all_next hx.out HP.out hE)
                    have HX2 := Lib.hid (HX.out.alloc (.cells #[.int .i64 p, .int .i64 q, .int .i64 r] 104))
                    clear hx hE HP g0 g1 g2 g3 g4 g5 g6 h
                    go_wp2
                    go_roundw
                    case rel => exact ⟨k + 1, by omega, by go_num, HP2, HX2⟩
                    case measure => simp [intOf]; omega
    · obtain rfl : k = l.length := by omega
      have HP2 := HP.out
      rw [List.take_length] at HP2
      replace HP2 := Lib.hid HP2
      have X1 := X0.out.trans HX.out
      clear HP h hS
      by_cases g : (l.length : Int) ≤ 64
      · have f1 : decide ((l.length : Int) ≤ 64) = true := decide_eq_true g
        go_wp2_with fail
        refine (kW.out _).mono ?_
        rintro e w2 ⟨rfl, x2⟩
        go_wp2
        go_ret
        exact ⟨by first | rfl | (rw [HP2.out, f1, Bool.true_and, Bool.true_and]; rfl) | (rw [HP2.out, Bool.true_and]; rfl), X1.trans x2⟩
      · have f1 : decide ((l.length : Int) ≤ 64) = false := decide_eq_false g
        go_wp2
        go_ret
        exact ⟨by first | rfl | (rw [HP2.out, f1, Bool.true_and, Bool.false_and]; rfl), X1⟩
end Go.Proofs.YtnhmibfgaoealaaGreat
namespace Go.Proofs.YtnhmibfgaoealaaGreat
open Go.RowKit
set_option linter.unusedVariables false
set_option linter.unusedSimpArgs false

set_option maxRecDepth 100000 in
set_option maxHeartbeats 4000000 in
theorem rTimesA (cs : List Value) (al un ca pb aa ab nf nt fa dr do_ wr : Int) (c_al : cs[7]? = some (.int .i64 al)) (c_un : cs[8]? = some (.int .i64 un)) (c_ca : cs[9]? = some (.int .i64 ca)) (c_pb : cs[10]? = some (.int .i64 pb)) (c_aa : cs[11]? = some (.int .i64 aa)) (c_ab : cs[12]? = some (.int .i64 ab)) (c_nf : cs[16]? = some (.int .i64 nf)) (c_nt : cs[17]? = some (.int .i64 nt)) (c_fa : cs[21]? = some (.int .i64 fa)) (c_dr : cs[13]? = some (.int .i64 dr)) (c_do_ : cs[14]? = some (.int .i64 do_)) (c_wr : cs[15]? = some (.int .i64 wr)) (b1 b2 b3 b4 b5 b6 b7 b8 b9 b10 b11 b12 : Bool) (k1 : ∀ w, Calls Tryz.prog 108 #[.int .i64 al, .int .i64 0, .int .i64 100] w (RetB w b1)) (k2 : ∀ w, Calls Tryz.prog 108 #[.int .i64 un, .int .i64 1, .int .i64 3600] w (RetB w b2)) (k3 : ∀ w, Calls Tryz.prog 108 #[.int .i64 ca, .int .i64 60, .int .i64 57600] w (RetB w b3)) (k4 : ∀ w, Calls Tryz.prog 108 #[.int .i64 pb, .int .i64 0, .int .i64 86400] w (RetB w b4)) (k5 : ∀ w, Calls Tryz.prog 108 #[.int .i64 aa, .int .i64 0, .int .i64 86400] w (RetB w b5)) (k6 : ∀ w, Calls Tryz.prog 108 #[.int .i64 ab, .int .i64 0, .int .i64 86400] w (RetB w b6)) (k7 : ∀ w, Calls Tryz.prog 108 #[.int .i64 nf, .int .i64 0, .int .i64 86400] w (RetB w b7)) (k8 : ∀ w, Calls Tryz.prog 108 #[.int .i64 nt, .int .i64 0, .int .i64 86400] w (RetB w b8)) (k9 : ∀ w, Calls Tryz.prog 108 #[.int .i64 fa, .int .i64 0, .int .i64 86400] w (RetB w b9)) (k10 : ∀ w, Calls Tryz.prog 108 #[.int .i64 dr, .int .i64 0, .int .i64 do_] w (RetB w b10)) (k12 : ∀ w, Calls Tryz.prog 108 #[.int .i64 wr, .int .i64 0, .int .i64 604800] w (RetB w b12)) (fD : decide (do_ ≤ 86400) = b11) (w : World) :
    Calls Tryz.prog 83 #[.agg cs.toArray] w (RetB w (b1 && b2 && b3 && (b4 && b5 && b6 && (b7 && b8 && b9) && b10 && b11 && b12))) := by
  have hs0 := Bx.new w cs 30
  have X0 := (Ext.refl w).alloc (.cells cs.toArray 30)
  replace k1 := Lib.hid k1
  replace k2 := Lib.hid k2
  replace k3 := Lib.hid k3
  replace k4 := Lib.hid k4
  replace k5 := Lib.hid k5
  replace k6 := Lib.hid k6
  replace k7 := Lib.hid k7
  replace k8 := Lib.hid k8
  replace k9 := Lib.hid k9
  replace k10 := Lib.hid k10
  replace k12 := Lib.hid k12
  go_enter Tryz.func83, Tryz.ntmps83
  have z1_7 := hs0.cell 7 _ c_al
  go_wp2_with fail
  refine (k1.out _).mono ?_
  rintro e w1 ⟨rfl, x1⟩
  have hs1 := hs0.ext x1; have X1 := X0.trans x1
  clear z1_7 x1
  cases b1
  · skip
    go_wp2
    go_ret
    exact ⟨rfl, X1⟩
  · skip
    have z2_8 := hs1.cell 8 _ c_un
    go_wp2_with fail
    refine (k2.out _).mono ?_
    rintro e w2 ⟨rfl, x2⟩
    have hs2 := hs1.ext x2; have X2 := X1.trans x2
    clear z2_8 x2 hs1
    cases b2
    · skip
      go_wp2
      go_ret
      exact ⟨rfl, X2⟩
    · skip
      have z3_9 := hs2.cell 9 _ c_ca
      go_wp2_with fail
      refine (k3.out _).mono ?_
      rintro e w3 ⟨rfl, x3⟩
      have hs3 := hs2.ext x3; have X3 := X2.trans x3
      clear z3_9 x3 hs2
      cases b3
      · skip
        go_wp2
        go_ret
        exact ⟨rfl, X3⟩
      · skip
        have z4_10 := hs3.cell 10 _ c_pb
        go_wp2_with fail
        refine (k4.out _).mono ?_
        rintro e w4 ⟨rfl, x4⟩
        have hs4 := hs3.ext x4; have X4 := X3.trans x4
        clear z4_10 x4 hs3
        cases b4
        · skip
          have z5_16 := hs4.cell 16 _ c_nf
          go_wp2_with fail
          refine (k7.out _).mono ?_
          rintro e w5 ⟨rfl, x5⟩
          have hs5 := hs4.ext x5; have X5 := X4.trans x5
          clear z5_16 x5 hs4
          cases b7
          · skip
            go_wp2
            go_ret
            exact ⟨rfl, X5⟩
          · skip
            have z6_17 := hs5.cell 17 _ c_nt
            go_wp2_with fail
            refine (k8.out _).mono ?_
            rintro e w6 ⟨rfl, x6⟩
            have hs6 := hs5.ext x6; have X6 := X5.trans x6
            clear z6_17 x6 hs5
            cases b8
            · skip
              go_wp2
              go_ret
              exact ⟨rfl, X6⟩
            · skip
              have z7_21 := hs6.cell 21 _ c_fa
              go_wp2_with fail
              refine (k9.out _).mono ?_
              rintro e w7 ⟨rfl, x7⟩
              have hs7 := hs6.ext x7; have X7 := X6.trans x7
              clear z7_21 x7 hs6
              cases b9
              · skip
                go_wp2
                go_ret
                exact ⟨rfl, X7⟩
              · skip
                go_wp2
                go_ret
                exact ⟨rfl, X7⟩
        · skip
          have z8_11 := hs4.cell 11 _ c_aa
          go_wp2_with fail
          refine (k5.out _).mono ?_
          rintro e w8 ⟨rfl, x8⟩
          have hs8 := hs4.ext x8; have X8 := X4.trans x8
          clear z8_11 x8 hs4
          cases b5
          · skip
            have z9_16 := hs8.cell 16 _ c_nf
            go_wp2_with fail
            refine (k7.out _).mono ?_
            rintro e w9 ⟨rfl, x9⟩
            have hs9 := hs8.ext x9; have X9 := X8.trans x9
            clear z9_16 x9 hs8
            cases b7
            · skip
              go_wp2
              go_ret
              exact ⟨rfl, X9⟩
            · skip
              have z10_17 := hs9.cell 17 _ c_nt
              go_wp2_with fail
              refine (k8.out _).mono ?_
              rintro e w10 ⟨rfl, x10⟩
              have hs10 := hs9.ext x10; have X10 := X9.trans x10
              clear z10_17 x10 hs9
              cases b8
              · skip
                go_wp2
                go_ret
                exact ⟨rfl, X10⟩
              · skip
                have z11_21 := hs10.cell 21 _ c_fa
                go_wp2_with fail
                refine (k9.out _).mono ?_
                rintro e w11 ⟨rfl, x11⟩
                have hs11 := hs10.ext x11; have X11 := X10.trans x11
                clear z11_21 x11 hs10
                cases b9
                · skip
                  go_wp2
                  go_ret
                  exact ⟨rfl, X11⟩
                · skip
                  go_wp2
                  go_ret
                  exact ⟨rfl, X11⟩
          · skip
            have z12_12 := hs8.cell 12 _ c_ab
            go_wp2_with fail
            refine (k6.out _).mono ?_
            rintro e w12 ⟨rfl, x12⟩
            have hs12 := hs8.ext x12; have X12 := X8.trans x12
            clear z12_12 x12 hs8
            cases b6
            · skip
              have z13_16 := hs12.cell 16 _ c_nf
              go_wp2_with fail
              refine (k7.out _).mono ?_
              rintro e w13 ⟨rfl, x13⟩
              have hs13 := hs12.ext x13; have X13 := X12.trans x13
              clear z13_16 x13 hs12
              cases b7
              · skip
                go_wp2
                go_ret
                exact ⟨rfl, X13⟩
              · skip
                have z14_17 := hs13.cell 17 _ c_nt
                go_wp2_with fail
                refine (k8.out _).mono ?_
                rintro e w14 ⟨rfl, x14⟩
                have hs14 := hs13.ext x14; have X14 := X13.trans x14
                clear z14_17 x14 hs13
                cases b8
                · skip
                  go_wp2
                  go_ret
                  exact ⟨rfl, X14⟩
                · skip
                  have z15_21 := hs14.cell 21 _ c_fa
                  go_wp2_with fail
                  refine (k9.out _).mono ?_
                  rintro e w15 ⟨rfl, x15⟩
                  have hs15 := hs14.ext x15; have X15 := X14.trans x15
                  clear z15_21 x15 hs14
                  cases b9
                  · skip
                    go_wp2
                    go_ret
                    exact ⟨rfl, X15⟩
                  · skip
                    go_wp2
                    go_ret
                    exact ⟨rfl, X15⟩
            · skip
              have z16_16 := hs12.cell 16 _ c_nf
              go_wp2_with fail
              refine (k7.out _).mono ?_
              rintro e w16 ⟨rfl, x16⟩
              have hs16 := hs12.ext x16; have X16 := X12.trans x16
              clear z16_16 x16 hs12
              cases b7
              · skip
                go_wp2
                go_ret
                exact ⟨rfl, X16⟩
              · skip
                have z17_17 := hs16.cell 17 _ c_nt
                go_wp2_with fail
                refine (k8.out _).mono ?_
                rintro e w17 ⟨rfl, x17⟩
                have hs17 := hs16.ext x17; have X17 := X16.trans x17
                clear z17_17 x17 hs16
                cases b8
                · skip
                  go_wp2
                  go_ret
                  exact ⟨rfl, X17⟩
                · skip
                  have z18_21 := hs17.cell 21 _ c_fa
                  go_wp2_with fail
                  refine (k9.out _).mono ?_
                  rintro e w18 ⟨rfl, x18⟩
                  have hs18 := hs17.ext x18; have X18 := X17.trans x18
                  clear z18_21 x18 hs17
                  cases b9
                  · skip
                    go_wp2
                    go_ret
                    exact ⟨rfl, X18⟩
                  · skip
                    have z19_13 := hs18.cell 13 _ c_dr
                    have z19_14 := hs18.cell 14 _ c_do_
                    go_wp2_with fail
                    refine (k10.out _).mono ?_
                    rintro e w19 ⟨rfl, x19⟩
                    have hs19 := hs18.ext x19; have X19 := X18.trans x19
                    clear z19_13 x19 z19_14 hs18
                    cases b10
                    · skip
                      go_wp2
                      go_ret
                      exact ⟨rfl, X19⟩
                    · skip
                      have y14 := hs19.cell 14 _ c_do_
                      cases b11
                      · skip
                        go_wp2
                        go_ret
                        exact ⟨rfl, X19⟩
                      · skip
                        have z20_15 := hs19.cell 15 _ c_wr
                        go_wp2_with fail
                        refine (k12.out _).mono ?_
                        rintro e w20 ⟨rfl, x20⟩
                        have hs20 := hs19.ext x20; have X20 := X19.trans x20
                        clear z20_15 x20 hs19
                        cases b12
                        · skip
                          go_wp2
                          go_ret
                          exact ⟨rfl, X20⟩
                        · skip
                          go_wp2
                          go_ret
                          exact ⟨rfl, X20⟩
theorem pRTimes (s : Su) (h : Sh) (w : World) : Calls Tryz.prog 83 #[.agg (s.cells h).toArray] w (RetB w (chTimes s)) := by
  have k := rTimesA (s.cells h) s.allow s.unit s.cap s.paid s.after s.auto s.nfrom s.nto s.fault s.dreg s.dover s.wreg rfl rfl rfl rfl rfl rfl rfl rfl rfl rfl rfl rfl _ _ _ _ _ _ _ _ _ _ _ _ (pRWithin _ _ _) (pRWithin _ _ _) (pRWithin _ _ _) (pRWithin _ _ _) (pRWithin _ _ _) (pRWithin _ _ _) (pRWithin _ _ _) (pRWithin _ _ _) (pRWithin _ _ _) (pRWithin _ _ _) (pRWithin _ _ _) rfl w
  refine bEq k ?_
  unfold chTimes okIn
  rw [Bool.eq_iff_iff]
  simp only [Bool.and_eq_true, List.all_cons, List.all_nil, decide_eq_true_eq, and_true]
  trace_state
  constructor
  · rintro ⟨⟨⟨h1, h2⟩, h3⟩, ⟨⟨⟨⟨⟨h4, h5⟩, h6⟩, ⟨h7, h8⟩, h9⟩, h10⟩, h11⟩, h12⟩
    exact ⟨⟨⟨⟨⟨h1, h2⟩, h3⟩, h4, h5, h6, h7, h8, h9, by omega, h11⟩, h10⟩, h12⟩
  · rintro ⟨⟨⟨⟨⟨h1, h2⟩, h3⟩, h4, h5, h6, h7, h8, h9, _, h11⟩, h10⟩, h12⟩
    exact ⟨⟨⟨h1, h2⟩, h3⟩, ⟨⟨⟨⟨⟨h4, h5⟩, h6⟩, ⟨h7, h8⟩, h9⟩, h10⟩, h11⟩, h12⟩
end Go.Proofs.YtnhmibfgaoealaaGreat
namespace Go.Proofs.YtnhmibfgaoealaaGreat
open Go.RowKit BigFrame
set_option linter.unusedVariables false
set_option linter.unusedSimpArgs false

def tierAt (t : List (Int × Int)) (j : Nat) : Bool := match t[j]? with
  | some x => okIn 0 1000 x.1 && okIn 0 100000 x.2 && (match j with | 0 => true | i + 1 => match t[i]? with | some u => decide (u.1 < x.1) | none => true)
  | none => true
def refTiers (t : List (Int × Int)) : Bool := (List.range t.length).all (tierAt t)
theorem refTiers_bad {t : List (Int × Int)} {k : Nat} (h : k < t.length) (h2 : tierAt t k = false) : refTiers t = false := by
  cases ha : refTiers t with
  | false => rfl
  | true => unfold refTiers at ha; rw [List.all_eq_true] at ha; rw [ha k (List.mem_range.2 h)] at h2; cases h2
theorem range_next {q : Nat → Bool} {k : Nat} (h : (List.range k).all q = true) (h2 : q k = true) : (List.range (k + 1)).all q = true := by
  rw [List.range_succ, List.all_append, h]; simp [h2]
theorem refTiers_eq (t : List (Int × Int)) : refTiers t = okTiers (-1) t := by
  rw [Bool.eq_iff_iff, tiers_aux]
  unfold refTiers
  rw [List.all_eq_true]
  constructor
  · intro h j x hx
    have hj := h j (List.mem_range.2 (List.getElem?_eq_some_iff.1 hx).1)
    unfold tierAt at hj
    rw [hx] at hj
    simp only [Bool.and_eq_true, okIn_iff] at hj
    unfold okTier
    rw [Bool.and_eq_true, decide_eq_true_eq, okIn_iff]
    obtain ⟨⟨⟨h1, h2⟩, h3⟩, h4⟩ := hj
    match j, h4 with
    | 0, _ => exact ⟨⟨by show (-1 : Int) < x.1; omega, h2⟩, h3⟩
    | i + 1, h4 =>
      cases hu : t[i]? with
      | none =>
        have := (List.getElem?_eq_some_iff.1 hx).1
        rw [List.getElem?_eq_none_iff] at hu; omega
      | some u =>
        have h5 : (match t[i]? with | some u => decide (u.1 < x.1) | none => true) = true := h4
        rw [hu] at h5
        simp only [decide_eq_true_eq] at h5
        refine ⟨⟨?_, h2⟩, h3⟩
        show (match t[i]? with | some u => u.1 | none => -1) < x.1
        rw [hu]; exact h5
  · intro h
    have pos : ∀ (j : Nat) (x : Int × Int), t[j]? = some x → 0 ≤ x.1 := by
      intro j
      induction j with
      | zero =>
        intro x hx
        have := h 0 x hx
        unfold okTier at this
        rw [Bool.and_eq_true, decide_eq_true_eq] at this
        have h1 : (-1 : Int) < x.1 := this.1.1
        omega
      | succ i ih =>
        intro x hx
        have hk := h (i + 1) x hx
        unfold okTier at hk
        rw [Bool.and_eq_true, decide_eq_true_eq] at hk
        have h1 : (match t[i]? with | some u => u.1 | none => -1) < x.1 := hk.1.1
        cases hu : t[i]? with
        | none => rw [hu] at h1; simp only at h1; omega
        | some u => rw [hu] at h1; have := ih u hu; simp only at h1; omega
    intro j hj
    obtain ⟨x, hx⟩ : ∃ x, t[j]? = some x := ⟨_, List.getElem?_eq_getElem (List.mem_range.1 hj)⟩
    have hk := h j x hx
    unfold tierAt
    rw [hx]
    unfold okTier at hk
    rw [Bool.and_eq_true, decide_eq_true_eq] at hk
    simp only [Bool.and_eq_true, okIn_iff]
    refine ⟨⟨⟨pos j x hx, hk.1.2⟩, okIn_iff.1 hk.2⟩, ?_⟩
    match j, hk with
    | 0, _ => rfl
    | i + 1, hk =>
      have h1 : (match t[i]? with | some u => u.1 | none => -1) < x.1 := hk.1.1
      show (match t[i]? with | some u => decide (u.1 < x.1) | none => true) = true
      cases hu : t[i]? with
      | none => rfl
      | some u => rw [hu] at h1; exact decide_eq_true h1

set_option maxRecDepth 100000 in
set_option maxHeartbeats 4000000 in
theorem rMoneyA (cs : List Value) (df le : Int) (r : List Int) (t : List (Int × Int)) (Ar At : Option Addr) (cr ct : Nat) (c18 : cs[18]? = some (.slice Ar r.length cr)) (c19 : cs[19]? = some (.int .i64 df)) (c20 : cs[20]? = some (.int .i64 le)) (c22 : cs[22]? = some (.slice At t.length ct)) (hr : r.length ≤ maxLen) (ht : t.length ≤ maxLen) (w : World) (h1 : Rd encN 1 w w.heap.size Ar r) (h2 : Rd encS 2 w w.heap.size At t) :
    Calls Tryz.prog 84 #[.agg cs.toArray] w (RetB w (r.all (okIn 0 100000) && (refTiers t && (okIn 1 16 r.length && decide ((t.length : Int) ≤ 8) && okIn 0 100000 df && okIn 0 100000 le)))) := by
  replace h1 := Lib.hid h1; replace h2 := Lib.hid h2
  have hl1 : r.length ≤ 9223372036854775807 := hr
  have hl2 : t.length ≤ 9223372036854775807 := ht
  clear hr ht
  have hs0 := Lib.hid (Bx.new w cs 30)
  have X0 := Lib.hid ((Ext.refl w).alloc (.cells cs.toArray 30))
  go_enter Tryz.func84, Tryz.ntmps84
  go_wp2_with fail
  go_loopw [3] (fun i wr => ∃ k : Nat, k ≤ r.length ∧ i = .int .i64 k ∧ Hid ((r.take k).all (okIn 0 100000) = true) ∧ Hid (Ext (w.alloc (.cells cs.toArray 30)) wr)) (fun i _ => r.length - (intOf i).toNat)
  case atStart => exact ⟨0, Nat.zero_le _, rfl, (rfl : _ = _), Ext.refl _⟩
  case round =>
    obtain ⟨k, hk, rfl, HP, HX⟩ := hrel
    have hs1 := hs0.out.ext HX.out
    have z18 := hs1.cell 18 _ c18
    by_cases hlt : k < r.length
    · obtain ⟨b, off, p, rfl, hbB, hx, d0⟩ := Rd.atN h1.out (X0.out.trans HX.out) hlt
      have q3 : (k : Int) < (r.length : Int) := by omega
      have q4 : (0 : Int) ≤ (k : Int) := by omega
      have kW := fun w => pRWithin p 0 100000 w
      obtain ⟨v, hv⟩ : ∃ v, okIn 0 100000 p = v := ⟨_, rfl⟩
      rw [hv] at kW
      replace kW := Lib.hid kW; replace hv := Lib.hid hv
      go_wp2_with fail
      refine (kW.out _).mono ?_
      rintro e w1 ⟨rfl, x1⟩
      have X1 := Lib.hid (HX.out.trans x1)
      clear x1 HX d0 h1 hs1 z18
      cases v
      · have hA := Lib.hid (all_bad hx.out hv.out)
        clear hx hv HP
        go_wp2
        go_ret
        exact ⟨by rw [hA.out]; rfl, X0.out.trans X1.out⟩
      · have HP2 := Lib.hid (all_next hx.out HP.out hv.out)
        clear hx hv HP
        go_wp2
        go_roundw
        case rel => exact ⟨k + 1, by omega, by go_num, HP2, X1⟩
        case measure => simp [intOf]; omega
    · obtain rfl : k = r.length := by omega
      have HPr := HP.out
      rw [List.take_length] at HPr
      replace HPr := Lib.hid HPr
      have XR := Lib.hid (X0.out.trans HX.out)
      have hs2 := Lib.hid hs1
      clear HP h1 hs1 hs0
      go_wp2_with fail
      go_loopw [4] (fun i wx => ∃ k : Nat, k ≤ t.length ∧ i = .int .i64 k ∧ Hid ((List.range k).all (tierAt t) = true) ∧ Hid (Ext wr wx)) (fun i _ => t.length - (intOf i).toNat)
      case atStart => exact ⟨0, Nat.zero_le _, rfl, (rfl : _ = _), Ext.refl _⟩
      case round =>
        obtain ⟨k, hk, rfl, HP, HY⟩ := hrel
        have hs3 := hs2.out.ext HY.out
        have z22 := hs3.cell 22 _ c22
        by_cases hlt : k < t.length
        · obtain ⟨b, off, p, q, rfl, hbB, hx, d0, d1⟩ := h2.out.at2 (XR.out.trans HY.out) hlt
          have q3 : (k : Int) < (t.length : Int) := by omega
          have q4 : (0 : Int) ≤ (k : Int) := by omega
          have kW := fun w => pRWithin p 0 1000 w
          have kV := fun w => pRWithin q 0 100000 w
          obtain ⟨v, hv⟩ : ∃ v, okIn 0 1000 p = v := ⟨_, rfl⟩
          obtain ⟨u, hu⟩ : ∃ v, okIn 0 100000 q = v := ⟨_, rfl⟩
          have hT : ∀ B, (match (generalizing := false) k with | 0 => true | i + 1 => match t[i]? with | some u => decide (u.1 < p) | none => true) = B → tierAt t k = (v && u && B) := fun B hB => by
            unfold tierAt; rw [hx.out]; show (okIn 0 1000 p && okIn 0 100000 q && _) = _; rw [hv, hu, hB]
          rw [hv] at kW
          rw [hu] at kV
          have X1 := Lib.hid (HY.out.alloc (.cells #[.int .i64 p, .int .i64 q] 114))
          have y0 : ∀ e : Later (wr.alloc (.cells #[.int .i64 p, .int .i64 q] 114)), e.1.cell? ⟨wr.heap.size, 0, none⟩ = some (.int .i64 p) := fun e => (e.2.cell (p := ⟨wr.heap.size, 0, none⟩) (by simp)).trans (by simp)
          have y1 : ∀ e : Later (wr.alloc (.cells #[.int .i64 p, .int .i64 q] 114)), e.1.cell? ⟨wr.heap.size, 1, none⟩ = some (.int .i64 q) := fun e => (e.2.cell (p := ⟨wr.heap.size, 1, none⟩) (by simp)).trans (by simp)
          have y22 : ∀ e : Later (wr.alloc (.cells #[.int .i64 p, .int .i64 q] 114)), e.1.cell? ⟨w.heap.size, 22, none⟩ = some (.slice (some ⟨b, off, none⟩) t.length ct) := fun e => ((hs3.alloc _).ext e.2).cell 22 _ c22
          have J : Hid ((k = 0 ∧ True) ∨ ∃ j p2, k = j + 1 ∧ t[j]? = some p2 ∧ ∀ e : Later (wr.alloc (.cells #[.int .i64 p, .int .i64 q] 114)), e.1.cell? ⟨b, off + j * 2, none⟩ = some (.int .i64 p2.1)) := by
            rcases Nat.eq_zero_or_pos k with h0 | h0
            · exact .inl ⟨h0, trivial⟩
            · refine .inr ⟨k - 1, t[k - 1], by omega, List.getElem?_eq_getElem _, fun e => ?_⟩
              obtain ⟨b', off', p', q', hA, _, hy, cy, _⟩ := h2.out.at2 (((XR.out.trans HY.out).alloc (.cells #[.int .i64 p, .int .i64 q] 114)).trans e.2) (show k - 1 < t.length by omega)
              cases hA
              rw [List.getElem?_eq_getElem (by omega)] at hy
              have := Option.some.inj hy.out
              rw [this]; exact cy
          replace kW := Lib.hid kW; replace kV := Lib.hid kV; replace hT := Lib.hid hT
          clear hv hu hs3 hbB h2
          cases v
          · have hA := Lib.hid (refTiers_bad hlt (hT.out _ rfl))
            clear J hx hT HP
            go_wp2_with fail
            refine wp_region_later (wr.alloc (.cells #[.int .i64 p, .int .i64 q] 114)) (Ext.refl _) (by kernel_rfl) (by kernel_rfl) ?_
            go_big_quiet_step (fail)
            go_big_quiet_step (fail)
            go_big_quiet_step (exact later_bool (kW.out _))
            repeat (go_big_quiet_step (exact later_bool (kV.out _)))
            refine wpQuiet_nil ?_
            rintro w4 ⟨e4, he4⟩
            have x4 : Ext (wr.alloc (.cells #[.int .i64 p, .int .i64 q] 114)) w4 := he4 ▸ e4.2
            clear he4 e4
            go_wp2
            go_ret
            exact ⟨by rw [hA.out, Bool.false_and, Bool.and_false]; rfl, (XR.out.trans X1.out).trans x4⟩
          · cases u
            · have hA := Lib.hid (refTiers_bad hlt (hT.out _ rfl))
              clear J hx hT HP
              go_wp2_with fail
              refine wp_region_later (wr.alloc (.cells #[.int .i64 p, .int .i64 q] 114)) (Ext.refl _) (by kernel_rfl) (by kernel_rfl) ?_
              go_big_quiet_step (fail)
              go_big_quiet_step (fail)
              go_big_quiet_step (exact later_bool (kW.out _))
              repeat (go_big_quiet_step (exact later_bool (kV.out _)))
              refine wpQuiet_nil ?_
              rintro w4 ⟨e4, he4⟩
              have x4 : Ext (wr.alloc (.cells #[.int .i64 p, .int .i64 q] 114)) w4 := he4 ▸ e4.2
              clear he4 e4
              go_wp2
              go_ret
              exact ⟨by rw [hA.out, Bool.false_and, Bool.and_false]; rfl, (XR.out.trans X1.out).trans x4⟩
            · rcases J.out with ⟨rfl, _⟩ | ⟨j, p2, rfl, hj, hc⟩
              · simp only [Nat.zero_mul, Nat.add_zero] at d0 d1
                have f0 : decide ((0 : Int) < ((0 : Nat) : Int)) = false := by decide
                have f00 : decide ((0 : Int) < (0 : Int)) = false := by decide
                have HP2 := Lib.hid (range_next HP.out (hT.out true rfl))
                clear J hx hT HP
                go_wp2_with fail
                refine wp_region_later (wr.alloc (.cells #[.int .i64 p, .int .i64 q] 114)) (Ext.refl _) (by kernel_rfl) (by kernel_rfl) ?_
                go_big_quiet_step (fail)
                go_big_quiet_step (fail)
                go_big_quiet_step (exact later_bool (kW.out _))
                repeat (go_big_quiet_step (exact later_bool (kV.out _)))
                refine wpQuiet_nil ?_
                rintro w4 ⟨e4, he4⟩
                have x4 : Ext (wr.alloc (.cells #[.int .i64 p, .int .i64 q] 114)) w4 := he4 ▸ e4.2
                clear he4 e4
                go_wp2
                go_roundw
                case rel => exact ⟨0 + 1, by omega, by go_num, HP2, X1.out.trans x4⟩
                case measure => simp [intOf]; omega
              · have q1 : IntKind.i64.wrap (((j + 1 : Nat) : Int) - 1) = (j : Int) := by rw [IntWalk.i64_in _ (by omega)]; omega
                have q1b : IntKind.i64.wrap ((j : Int) + 1 - 1) = (j : Int) := by rw [IntWalk.i64_in _ (by omega)]; omega
                have q5 : (j : Int) < (t.length : Int) := by omega
                have q6 : (0 : Int) ≤ (j : Int) := by omega
                have f9 : decide ((0 : Int) < (((j + 1 : Nat)) : Int)) = true := decide_eq_true (by omega)
                have f10 : decide ((0 : Int) < (j : Int) + 1) = true := decide_eq_true (by omega)
                obtain ⟨g, hg⟩ : ∃ g, g = p2.1 := ⟨_, rfl⟩
                rw [← hg] at hc
                by_cases hb : g < p
                · have f11 : decide (p ≤ g) = false := decide_eq_false (by omega)
                  have hB : (match t[j]? with | some u => decide (u.1 < p) | none => true) = true := by rw [hj]; show decide (p2.1 < p) = true; rw [← hg]; exact decide_eq_true hb
                  have HP2 := Lib.hid (range_next HP.out (hT.out true hB))
                  clear J hx hT HP
                  go_wp2_with fail
                  refine wp_region_later (wr.alloc (.cells #[.int .i64 p, .int .i64 q] 114)) (Ext.refl _) (by kernel_rfl) (by kernel_rfl) ?_
                  go_big_quiet_step (fail)
                  go_big_quiet_step (fail)
                  go_big_quiet_step (exact later_bool (kW.out _))
                  repeat (go_big_quiet_step (exact later_bool (kV.out _)))
                  refine wpQuiet_nil ?_
                  rintro w4 ⟨e4, he4⟩
                  have x4 : Ext (wr.alloc (.cells #[.int .i64 p, .int .i64 q] 114)) w4 := he4 ▸ e4.2
                  clear he4 e4
                  go_wp2
                  go_roundw
                  case rel => exact ⟨(j + 1) + 1, by omega, by go_num, HP2, X1.out.trans x4⟩
                  case measure => simp [intOf]; omega
                · have f11 : decide (p ≤ g) = true := decide_eq_true (by omega)
                  have hB : (match t[j]? with | some u => decide (u.1 < p) | none => true) = false := by rw [hj]; show decide (p2.1 < p) = false; rw [← hg]; exact decide_eq_false hb
                  have hA := Lib.hid (refTiers_bad hlt (hT.out false hB))
                  clear J hx hT HP
                  go_wp2_with fail
                  refine wp_region_later (wr.alloc (.cells #[.int .i64 p, .int .i64 q] 114)) (Ext.refl _) (by kernel_rfl) (by kernel_rfl) ?_
                  go_big_quiet_step (fail)
                  go_big_quiet_step (fail)
                  go_big_quiet_step (exact later_bool (kW.out _))
                  repeat (go_big_quiet_step (exact later_bool (kV.out _)))
                  refine wpQuiet_nil ?_
                  rintro w4 ⟨e4, he4⟩
                  have x4 : Ext (wr.alloc (.cells #[.int .i64 p, .int .i64 q] 114)) w4 := he4 ▸ e4.2
                  clear he4 e4
                  go_wp2
                  go_ret
                  exact ⟨by rw [hA.out, Bool.false_and, Bool.and_false]; rfl, (XR.out.trans X1.out).trans x4⟩
        · obtain rfl : k = t.length := by omega
          have HP2 : Hid (refTiers t = true) := HP.out
          have X1 := XR.out.trans HY.out
          have kA := Lib.hid (fun w => pRWithin (r.length : Int) 1 16 w)
          have kB := Lib.hid (fun w => pRWithin df 0 100000 w)
          have kC := Lib.hid (fun w => pRWithin le 0 100000 w)
          have x18 := hs3.cell 18 _ c18
          have hE : Hid (∀ B, (r.all (okIn 0 100000) && (refTiers t && B)) = B) := fun B => by rw [HPr.out, HP2.out]; rfl
          obtain ⟨v1, hv1⟩ : ∃ v, okIn 1 16 (r.length : Int) = v := ⟨_, rfl⟩
          obtain ⟨v2, hv2⟩ : ∃ v, okIn 0 100000 df = v := ⟨_, rfl⟩
          obtain ⟨v3, hv3⟩ : ∃ v, okIn 0 100000 le = v := ⟨_, rfl⟩
          obtain ⟨v4, hv4⟩ : ∃ v, decide ((t.length : Int) ≤ 8) = v := ⟨_, rfl⟩
          rw [hv1] at kA
          rw [hv2] at kB
          rw [hv3] at kC
          have HV := Lib.hid (show (okIn 1 16 (r.length : Int) && decide ((t.length : Int) ≤ 8) && okIn 0 100000 df && okIn 0 100000 le) = (v1 && v4 && v2 && v3) by rw [hv1, hv2, hv3, hv4])
          clear hv1 hv2 hv3 HP HPr HP2 h2
          replace hs3 := Lib.hid hs3
          go_wp2_with fail
          refine (kA.out _).mono ?_
          rintro e w3 ⟨rfl, x3⟩
          have x22 := (hs3.out.ext x3).cell 22 _ c22
          have x19 := (hs3.out.ext x3).cell 19 _ c19
          cases v1
          · go_wp2
            go_ret
            exact ⟨by rw [hE.out, HV.out]; rfl, X1.trans x3⟩
          · cases v4
            · go_wp2
              go_ret
              exact ⟨by rw [hE.out, HV.out]; rfl, X1.trans x3⟩
            · go_wp2_with fail
              refine (kB.out _).mono ?_
              rintro e w4 ⟨rfl, x4⟩
              have x20 := ((hs3.out.ext x3).ext x4).cell 20 _ c20
              cases v2
              · go_wp2
                go_ret
                exact ⟨by rw [hE.out, HV.out]; rfl, (X1.trans x3).trans x4⟩
              · go_wp2_with fail
                refine (kC.out _).mono ?_
                rintro e w5 ⟨rfl, x5⟩
                go_wp2
                go_ret
                exact ⟨by rw [hE.out, HV.out]; rfl, ((X1.trans x3).trans x4).trans x5⟩

theorem pRMoney {s : Su} {h : Sh} (ok : SuOk s) {w : World} (r : SuR w s h) : Calls Tryz.prog 84 #[.agg (s.cells h).toArray] w (RetB w (chMoney s)) := by
  have k := rMoneyA (s.cells h) s.diff s.least s.rates s.tiers h.rA h.tA h.rC h.tC rfl rfl rfl rfl ok.rates.1 ok.tiers.1 w r.rates r.tiers
  refine bEq k ?_
  rw [refTiers_eq]
  unfold chMoney okIn
  rw [Bool.eq_iff_iff]
  simp only [Bool.and_eq_true, List.all_cons, List.all_nil, decide_eq_true_eq, and_true]
  constructor
  · rintro ⟨h1, h2, ⟨⟨⟨h3, h4⟩, h5⟩, h6⟩, h7⟩
    exact ⟨⟨⟨⟨⟨by omega, h4⟩, h1⟩, h6, h7⟩, h5⟩, h2⟩
  · rintro ⟨⟨⟨⟨⟨h3, h4⟩, h1⟩, h6, h7⟩, h5⟩, h2⟩
    exact ⟨h1, h2, ⟨⟨⟨by omega, h4⟩, h5⟩, h6⟩, h7⟩
end Go.Proofs.YtnhmibfgaoealaaGreat
namespace Go.Proofs.YtnhmibfgaoealaaGreat
open Go.RowKit
set_option linter.unusedVariables false
set_option linter.unusedSimpArgs false

set_option maxRecDepth 100000 in
set_option maxHeartbeats 2000000 in
theorem rChkA (cs : List Value) (hcs : cs.length = 23) (n d : Int) (A4 A5 A6 : Option Addr) (m4 m5 m6 k4 k5 k6 : Nat) (c2 : cs[2]? = some (.int .i64 n)) (c3 : cs[3]? = some (.int .i64 d)) (c4 : cs[4]? = some (.slice A4 m4 k4)) (c5 : cs[5]? = some (.slice A5 m5 k5)) (c6 : cs[6]? = some (.slice A6 m6 k6))
    (b1 b2 b3 b4 b5 b6 b7 : Bool) (w : World)
    (k1 : ∀ W, Ext w W → Calls Tryz.prog 79 #[.agg cs.toArray] W (RetB W b1)) (k2 : ∀ W, Ext w W → Calls Tryz.prog 80 #[.agg #[.int .i64 n, .int .i64 d]] W (RetB W b2))
    (kk3 : ∀ W, Ext w W → Calls Tryz.prog 81 #[.slice A4 m4 k4] W (RetB W b3)) (kk4 : ∀ W, Ext w W → Calls Tryz.prog 82 #[.slice A5 m5 k5] W (RetB W b4)) (kk5 : ∀ W, Ext w W → Calls Tryz.prog 82 #[.slice A6 m6 k6] W (RetB W b5))
    (kk6 : ∀ W, Ext w W → Calls Tryz.prog 83 #[.agg cs.toArray] W (RetB W b6)) (kk7 : ∀ W, Ext w W → Calls Tryz.prog 84 #[.agg cs.toArray] W (RetB W b7)) :
    Calls Tryz.prog 40 #[.agg cs.toArray] w (RetB w (b1 && b2 && b3 && b4 && b5 && b6 && b7)) := by
  replace k1 := Lib.hid k1; replace k2 := Lib.hid k2; replace kk3 := Lib.hid kk3; replace kk4 := Lib.hid kk4; replace kk5 := Lib.hid kk5; replace kk6 := Lib.hid kk6; replace kk7 := Lib.hid kk7
  have hi := Lib.hid (su_size hcs)
  have hs0 := Bx.new w cs 30
  have X0 := (Ext.refl w).alloc (.cells cs.toArray 30)
  clear hcs
  go_enter Tryz.func40, Tryz.ntmps40
  go_wp2_with (first | (refine load_box rfl 30 _ rfl _ rfl _ _ hs0 _ Tryz.underlying30 rfl hi.out ?_))

  refine (k1.out _ X0).mono ?_
  rintro e w1 ⟨rfl, x1⟩
  have hs1 := hs0.ext x1; have X1 := X0.trans x1; clear hs0 x1
  have z1_2 := hs1.cell 2 _ c2
  have z1_3 := hs1.cell 3 _ c3
  go_wp2_with fail
  clear z1_2 z1_3
  refine (k2.out _ X1).mono ?_
  rintro e w2 ⟨rfl, x2⟩
  have hs2 := hs1.ext x2; have X2 := X1.trans x2; clear hs1 x2
  have z2_4 := hs2.cell 4 _ c4
  go_wp2_with fail
  clear z2_4
  refine (kk3.out _ X2).mono ?_
  rintro e w3 ⟨rfl, x3⟩
  have hs3 := hs2.ext x3; have X3 := X2.trans x3; clear hs2 x3
  have z3_5 := hs3.cell 5 _ c5
  go_wp2_with fail
  clear z3_5
  refine (kk4.out _ X3).mono ?_
  rintro e w4 ⟨rfl, x4⟩
  have hs4 := hs3.ext x4; have X4 := X3.trans x4; clear hs3 x4
  have z4_6 := hs4.cell 6 _ c6
  go_wp2_with fail
  clear z4_6
  refine (kk5.out _ X4).mono ?_
  rintro e w5 ⟨rfl, x5⟩
  have hs5 := hs4.ext x5; have X5 := X4.trans x5; clear hs4 x5
  go_wp2_with (first | (refine load_box rfl 30 _ rfl _ rfl _ _ hs5 _ Tryz.underlying30 rfl hi.out ?_))
  refine (kk6.out _ X5).mono ?_
  rintro e w6 ⟨rfl, x6⟩
  have hs6 := hs5.ext x6; have X6 := X5.trans x6; clear hs5 x6
  go_wp2_with (first | (refine load_box rfl 30 _ rfl _ rfl _ _ hs6 _ Tryz.underlying30 rfl hi.out ?_))
  refine (kk7.out _ X6).mono ?_
  rintro e w7 ⟨rfl, x7⟩
  have hs7 := hs6.ext x7; have X7 := X6.trans x7; clear hs6 x7
  clear hs7 k1 k2 kk3 kk4 kk5 kk6 kk7 hi
  cases b1
  · go_wp2
    go_ret
    exact ⟨rfl, X7⟩
  · skip
    cases b2
    · go_wp2
      go_ret
      exact ⟨rfl, X7⟩
    · skip
      cases b3
      · go_wp2
        go_ret
        exact ⟨rfl, X7⟩
      · skip
        cases b4
        · go_wp2
          go_ret
          exact ⟨rfl, X7⟩
        · skip
          cases b5
          · go_wp2
            go_ret
            exact ⟨rfl, X7⟩
          · skip
            cases b6
            · go_wp2
              go_ret
              exact ⟨rfl, X7⟩
            · skip
              cases b7
              · go_wp2
                go_ret
                exact ⟨rfl, X7⟩
              · go_wp2
                go_ret
                exact ⟨rfl, X7⟩

theorem pRChk {s : Su} {h : Sh} (ok : SuOk s) {w : World} (r : SuR w s h) : Calls Tryz.prog 40 #[.agg (s.cells h).toArray] w (RetB w (chk s)) := by
  have k := rChkA (s.cells h) rfl s.pace.1 s.pace.2 h.eA h.cA h.gA _ _ _ _ _ _ rfl rfl rfl rfl rfl _ _ _ _ _ _ _ w
    (fun W X => pRWays (s.cells h) rfl s.places s.ways h.wA h.wC rfl rfl ok.ways.1 W (r.ext X).ways) (fun W X => pRShare s.pace.1 s.pace.2 W)
    (fun W X => pRElements s.elements h.eA h.eC ok.elements.1 W (r.ext X).elements) (fun W X => pRShares s.classes h.cA h.cC ok.classes.1 W (r.ext X).classes) (fun W X => pRShares s.gears h.gA h.gC ok.gears.1 W (r.ext X).gears)
    (fun W X => pRTimes s h W) (fun W X => pRMoney ok (r.ext X))
  refine bEq k ?_
  unfold chk chPlaces chTables
  cases chTimes s <;> cases chMoney s <;> simp only [Bool.and_false, Bool.and_true, Bool.false_and]
  rw [Bool.eq_iff_iff]
  simp only [Bool.and_eq_true, List.all_cons, List.all_nil, decide_eq_true_eq, and_true]
  constructor
  · rintro ⟨⟨⟨⟨⟨⟨h1, h2⟩, h3⟩, h4⟩, h5, h6⟩, h7, h8⟩, h9, h10⟩
    exact ⟨⟨⟨h3, h2⟩, h1⟩, ⟨⟨⟨h4, h7⟩, h9⟩, h5⟩, by omega⟩
  · rintro ⟨⟨⟨h3, h2⟩, h1⟩, ⟨⟨⟨h4, h7⟩, h9⟩, h5⟩, hm⟩
    exact ⟨⟨⟨⟨⟨⟨h1, h2⟩, h3⟩, h4⟩, h5, by omega⟩, h7, by omega⟩, h9, by omega⟩
end Go.Proofs.YtnhmibfgaoealaaGreat
