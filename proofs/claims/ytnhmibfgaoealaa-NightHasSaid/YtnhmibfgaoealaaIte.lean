import Derived.RangeFuncNested
import Derived.RangeFuncBound
import Derived.RangeFuncCalls
import Derived.RangeFuncLeaves
import Derived.RangeFuncBox
import Derived.Shelf.Abstract
import Derived.Shelf.RegionOpen
import Derived.WalkKit
import Derived.OwnWalkIn
import Derived.TacticsInMore
import Derived.LoopNIn
import Derived.LoopIn
import Derived.Maps.AppendAt
import Derived.Test.YtnhmibfgaoealaaAnb
import Derived.Test.YtnhmibfgaoealaaFst
namespace Go.Proofs.Ytnhmibfgaoealaa
open Go.RowKit Go.Shelf

attribute [local go_sem] Oper.semAt_some

theorem wpListIn_append_at {F : Fence} {n : Nat} {P : Program} (w : World) {ops : Array Oper} {rest : List Oper} {o : Oper} {a : Act} {Q : Exit → Act → World → Prop}
    (hg : o.guard = none) (s x : Operand) (t : TypeId) (hop : o.op = Op.call { callee := Callee.builtin Builtin.append, args := #[s, x], argTypes := #[t, t] })
    (base : Nat) (e : TypeId) (i : TypeInfo) (z : Value) (size bytes : Nat) (h1 : P.underlying t = some (.slice e)) (h2 : P.info? e = some i) (h3 : i.zero = some z) (h4 : i.size = size) (h5 : i.bytes = bytes) (h6 : z.cells.size = size) (h7 : 0 < size)
    (v : Value) (k : Nat) (xs : List Value) (hs : a.eval s = v) (hown : w.ownsRow base e size v k xs) (ad : Addr) (m c : Nat) (news : List Value) (hx : a.eval x = .slice (some ad) m c) (hn : news.length = m * size)
    (hc : ∀ j u, news[j]? = some u → w.cell? (ad.add j) = some u) (h1c : ∀ u ∈ news, u.oneCell' = true) (b1 : k + m ≤ maxLen) (b2 : (k + m) * bytes ≤ 140737488355328) (b3 : base ≤ w.heap.size)
    (hK : ∀ v' w', w'.ownsRow base e size v' (k + m) (xs ++ news) → w.grownBy w' v.ownBlock → (v'.ownBlock = v.ownBlock ∨ v'.ownBlock = some w.heap.size) → wpListIn F n P ops Q rest (a.put o.dst v') w') :
    wpListIn F n P ops Q (o :: rest) a w := by
  refine wpListIn_plain hg fun K hK' => ?_
  obtain ⟨v', w', hrun, r1, r2, _, r3⟩ := run_append_own_at (P := P) w base t o.type e i z size bytes h1 h2 h3 h4 h5 h6 h7 v k xs hown ad m c news hn hc h1c b1 b2 b3
  unfold Oper.wpIn
  refine ⟨?_, ?_⟩
  · simp [Oper.about, hop, resolve, Target.leads, Sem.run_pure]
  · rw [Oper.semAt_plain F _ _ (by rw [hop]; intro c hc'; cases hc')]
    simp [execOp, hop, resolve, invoke, builtin, hs, hx, hrun, Result.andThen]
    exact hK' _ _ (hK v' w' r1 r2 r3)

/-- The slice in box B begins in block k. -/
def RowOf (B k : Nat) (W : World) : Prop := ∃ o n c, W.cell? ⟨B, 0, none⟩ = some (.slice (some ⟨k, o, none⟩) n c)
def BoxGood (B : Nat) (W : World) : Prop := B < W.heap.size ∧ ∀ k, RowOf B k W → k < W.heap.size

/-- Only box B, and the row of the slice in it, are written. -/
structure KpB (B : Nat) (W W' : World) : Prop where
  size : W.heap.size ≤ W'.heap.size
  good : BoxGood B W → BoxGood B W'
  keep : ∀ k c t fr, k ≠ B → W.heap[k]? = some (.cells c t fr) → ¬ RowOf B k W → W'.heap[k]? = some (.cells c t fr) ∧ ¬ RowOf B k W'

theorem KpB.refl (B : Nat) (W : World) : KpB B W W := ⟨Nat.le_refl _, id, fun _ _ _ _ _ h k => ⟨h, k⟩⟩
theorem KpB.trans {B : Nat} {X Y Z : World} (h : KpB B X Y) (k : KpB B Y Z) : KpB B X Z :=
  ⟨Nat.le_trans h.size k.size, fun g => k.good (h.good g), fun j c t fr hj hc hr => by
    obtain ⟨h1, h2⟩ := h.keep j c t fr hj hc hr
    exact k.keep j c t fr hj h1 h2⟩
theorem KpB.rowEq {B : Nat} {W W' : World} (h : W'.cell? ⟨B, 0, none⟩ = W.cell? ⟨B, 0, none⟩) (k : Nat) : RowOf B k W' ↔ RowOf B k W := by unfold RowOf; rw [h]
theorem KpB.alloc {B : Nat} {X W : World} (h : KpB B X W) (hB : B < W.heap.size) (o : Obj) : KpB B X (W.alloc o) := by
  have e := World.cell?_alloc_lt W o ⟨B, 0, none⟩ hB
  refine h.trans ⟨by simp, fun g => ⟨by simp; omega, fun k hk => by have := g.2 k ((KpB.rowEq e k).1 hk); simp; omega⟩, fun k c t fr _ hc hr => ⟨?_, fun hk => hr ((KpB.rowEq e k).1 hk)⟩⟩
  exact (Below.heap_alloc W o k (Array.getElem?_eq_some_iff.1 hc).1).trans hc
theorem KpB.putObj {B : Nat} {w : World} (hB : B < w.heap.size) (W : World) (l : Nat) (o o' : Obj) (hl : w.heap.size ≤ l) (hW : W.heap[l]? = some o) (ho : o.isCells = false) (_ : o.isWalk = false) : KpB B W (W.putObj l o') := by
  have hg := grownBy_putObj' W l o'
  have hlt := (Array.getElem?_eq_some_iff.1 hW).1
  have e : (W.putObj l o').cell? ⟨B, 0, none⟩ = W.cell? ⟨B, 0, none⟩ := World.cell?_of_block (w := W) (hg.block B (by omega) (fun e => by cases e; omega))
  refine ⟨hg.size, fun g => ⟨by have := hg.size; omega, fun k hk => by have := g.2 k ((KpB.rowEq e k).1 hk); have := hg.size; omega⟩, fun k c t fr _ hc hr => ⟨?_, fun hk => hr ((KpB.rowEq e k).1 hk)⟩⟩
  refine (hg.block k (Array.getElem?_eq_some_iff.1 hc).1 (fun e => ?_)).trans hc
  cases e
  rw [hW] at hc; cases hc; cases ho
theorem KpB.cell {B : Nat} {W W' : World} (h : KpB B W W') {k : Nat} {c : Array Value} {t : TypeId} {fr : Nat × Nat} (hk : k ≠ B) (hc : W.heap[k]? = some (.cells c t fr)) (hr : ¬ RowOf B k W) (i : Nat) : W'.cell? ⟨k, i, none⟩ = W.cell? ⟨k, i, none⟩ :=
  World.cell?_of_block (w := W) ((h.keep k c t fr hk hc hr).1.trans hc.symm)

/-- Spans that an iterator reads: their row is no row of box B's. -/
def RdB (B : Nat) (A : Option Addr) (N : List Sp.S) (W : World) : Prop :=
  BoxGood B W ∧ (N ≠ [] → ∃ b c t fr, A = some ⟨b, 0, none⟩ ∧ b ≠ B ∧ W.heap[b]? = some (.cells c t fr) ∧ ¬ RowOf B b W ∧ ∀ j (h : j < N.length), c[j * 2]? = some (.int .i64 N[j].1) ∧ c[j * 2 + 1]? = some (.int .i64 N[j].2))
theorem RdB.keep {B : Nat} {A : Option Addr} {N : List Sp.S} {W W' : World} (h : RdB B A N W) (hk : KpB B W W') : RdB B A N W' :=
  ⟨hk.good h.1, fun hne => by
    obtain ⟨b, c, t, fr, hA, hb, hc, hr, hcs⟩ := h.2 hne
    obtain ⟨h1, h2⟩ := hk.keep b c t fr hb hc hr
    exact ⟨b, c, t, fr, hA, hb, h1, h2, hcs⟩⟩
theorem RdB.at_ {B : Nat} {A : Option Addr} {N : List Sp.S} {W : World} (h : RdB B A N W) {j : Nat} (hj : j < N.length) :
    ∃ b p q, A = some ⟨b, 0, none⟩ ∧ Hid (N[j]? = some (p, q)) ∧ W.cell? ⟨b, j * 2, none⟩ = some (.int .i64 p) ∧ W.cell? ⟨b, j * 2 + 1, none⟩ = some (.int .i64 q) := by
  obtain ⟨b, c, t, fr, hA, hb, hc, hr, hcs⟩ := h.2 (by rintro rfl; simp at hj)
  obtain ⟨h0, h1⟩ := hcs j hj
  exact ⟨b, N[j].1, N[j].2, hA, List.getElem?_eq_getElem hj, by simp [World.cell?, hc, h0], by simp [World.cell?, hc, h1]⟩
theorem RdB.of_own {B base n cap : Nat} {A : Option Addr} {N : List Sp.S} {W : World} (h : W.ownsRow base 42 2 (.slice A n cap) n (flat encS N)) (hn : n = N.length) (hg : BoxGood B W) (hB : B < base) (hnone : ∀ k, ¬ RowOf B k W) : RdB B A N W := by
  refine ⟨hg, fun hne => ?_⟩
  subst hn
  rcases h.2 with ⟨_, h0⟩ | ⟨g, cap', cur, hv, hg', hh, _, _, _, h4⟩
  · exact absurd (List.eq_nil_of_length_eq_zero h0) hne
  · injection hv with hA _ _
    refine ⟨g, cur, _, _, hA, by omega, hh, hnone g, fun j hj => ?_⟩
    have e0 := flat_at encS_len N j hj 0 (by omega)
    have e1 := flat_at encS_len N j hj 1 (by omega)
    rw [← h4, List.getElem?_take_of_lt (by omega), Array.getElem?_toList] at e0 e1
    exact ⟨e0, e1⟩

theorem others_nil (f : Int) : Sp.othersFrom f [] = if f < 32054400 then [(f, 32054400)] else [] := rfl
theorem others_cons (f p q : Int) (r : List Sp.S) : Sp.othersFrom f ((p, q) :: r) = if f < p then (f, p) :: Sp.othersFrom q r else Sp.othersFrom q r := rfl

set_option maxRecDepth 100000 in
set_option maxHeartbeats 2000000 in
theorem others1_in (F : Fence) (n : Nat) (hf : F.fn 109) (hro : F.round = none) (hn : 1 ≤ n) (l Bs B M : Nat) (A : Option Addr) (cap : Nat) (N : List Sp.S) (hL : N.length ≤ 1000000000000)
    (J Jx : List Sp.S → World → Prop) (W : World) (hJa : AbidesFrom W.heap.size J) (hM : (Sp.othersFrom 0 N).length ≤ M)
    (hY : ∀ pre x W1, J pre W1 → pre.length < M → YieldAt F (n - 1) Try.prog l #[.agg #[.int .i64 x.1, .int .i64 x.2]] W1 fun e W' =>
      (e = .returned (.bool true) ∧ J (pre ++ [x]) W' ∧ KpB B W1 W') ∨ (e = .returned (.bool false) ∧ Jx (pre ++ [x]) W'))
    (hBs : W.cell? ⟨Bs, 0, none⟩ = some (.slice A N.length cap))
    (hR : RdB B A N W) (h0 : J [] W) :
    CallsIn F n Try.prog 109 #[.func (.yield l) #[] #[], .pointer (some ⟨Bs, 0, none⟩)] W fun e W' => (∃ v, e = .returned v) ∧
      ((∃ ys, ys = Sp.othersFrom 0 N ∧ J ys W') ∨ (∃ pre, pre <+: Sp.othersFrom 0 N ∧ Jx pre W')) := by
  have HR := Lib.hid hR; have HY := Lib.hid hY; have HJ := Lib.hid hJa; have HM := Lib.hid hM; clear hR hY hJa hM
  refine callsIn_of_wp Try.func109 rfl hf ?_ hro
  simp only [Try.ntmps109, List.size_toArray, List.length_cons, List.length_nil, Nat.reduceAdd, Nat.reduceSub, Array.replicate_succ, Array.replicate_zero, List.push_toArray, List.append_toArray, List.nil_append, List.cons_append]
  gi_wp2
  gi_loopw [3, 8] (fun fv i wr => ∃ (k : Nat) (f : Int) (pre : List Sp.S), k ≤ N.length ∧ i = .int .i64 k ∧ fv = .int .i64 f ∧ Hid (Sp.othersFrom 0 N = pre ++ Sp.othersFrom f (N.drop k)) ∧ J pre wr ∧ KpB B W wr)
    (fun _ i _ => N.length - (intOf i).toNat)
  case atStart => exact ⟨0, 0, [], Nat.zero_le _, rfl, rfl, (rfl : _ = _), h0, KpB.refl _ _⟩
  case round =>
    obtain ⟨k, f, pre, hk, rfl, rfl, hpre, hJs, hmid⟩ := hrel
    have HRr := Lib.hid (HR.out.keep hmid)
    have HMd := Lib.hid hmid; have HJs := Lib.hid hJs; clear hmid hJs
    by_cases hlt : k < N.length
    · obtain ⟨b, p, q, rfl, hx, c0, c1⟩ := HRr.out.at_ hlt
      have hBw : B < wr.heap.size := HRr.out.1.1
      have HA : Hid (KpB B W (wr.alloc (.cells #[.int .i64 p, .int .i64 q] 42))) := HMd.out.alloc hBw _
      have hJb : J pre (wr.alloc (.cells #[.int .i64 p, .int .i64 q] 42)) := HJ.out pre wr _ none HJs.out (World.grownBy_alloc wr _ none) (fun r e => by cases e)
      have HJb := Lib.hid hJb; clear hJb
      by_cases hfp : f < p
      · have hpl : Hid (pre.length < M) := by
          have h1 := HM.out
          rw [hpre.out, drop_cons hx.out, others_cons, if_pos hfp] at h1
          simp at h1
          show pre.length < M
          omega
        obtain ⟨fn, tmps, assign, body, hy, hRd⟩ := HY.out pre (f, p) _ HJb.out hpl.out
        have HRd := Lib.hid hRd; clear hRd
        dsimp only at hy
        have hpre' : Hid (Sp.othersFrom 0 N = (pre ++ [(f, p)]) ++ Sp.othersFrom q (N.drop (k + 1))) := by
          show _ = _
          rw [hpre.out, drop_cons hx.out, others_cons, if_pos hfp, List.append_assoc]; rfl
        have hbox : Hid (∀ W3, KpB B (wr.alloc (.cells #[.int .i64 p, .int .i64 q] 42)) W3 → W3.cell? ⟨wr.heap.size, 1, none⟩ = some (.int .i64 q)) := by
          intro W3 h3
          have hgood := HRr.out.1
          rw [h3.cell (k := wr.heap.size) (by omega) (heap_alloc_new wr _) (fun hk => by
            have e := World.cell?_alloc_lt wr (.cells #[.int .i64 p, .int .i64 q] 42) ⟨B, 0, none⟩ hBw
            have := hgood.2 _ ((KpB.rowEq e _).1 hk)
            omega) 1]
          simp
        have HPx : Hid (pre ++ [(f, p)] <+: Sp.othersFrom 0 N) := ⟨_, hpre'.out.symm⟩
        clear HRr
        gi_wp2
        refine HRd.out.mono ?_
        rintro e W3 (⟨rfl, hJ3, hk3⟩ | ⟨rfl, hJx3⟩)
        · have d1 := hbox.out W3 hk3
          have H3 := Lib.hid (HA.out.trans hk3); clear hk3
          have HJ3 := Lib.hid hJ3; clear hJ3
          gi_wp2
          go_roundw
          case rel => exact ⟨k + 1, q, _, by omega, by go_num, rfl, hpre'.out, HJ3.out, H3.out⟩
          case measure => simp [intOf]; omega
        · gi_wp2
          refine bodyPost_ret (results_none rfl _ _ _) rfl ?_
          exact ⟨⟨_, rfl⟩, .inr ⟨_, HPx.out, hJx3⟩⟩
      · have hpre' : Hid (Sp.othersFrom 0 N = pre ++ Sp.othersFrom q (N.drop (k + 1))) := by
          show _ = _
          rw [hpre.out, drop_cons hx.out, others_cons, if_neg hfp]
        have hfp2 : decide (f < p) = false := by simpa using hfp
        gi_wp2
        refine ⟨(fun f h => by cases h), ?_⟩
        gi_wp2
        go_roundw
        case rel => exact ⟨k + 1, q, pre, by omega, by go_num, rfl, hpre'.out, HJb.out, HA.out⟩
        case measure => simp [intOf]; omega
    · obtain rfl : k = N.length := by omega
      have hp1 : Hid (Sp.othersFrom 0 N = pre ++ if f < 32054400 then [(f, 32054400)] else []) := by
        show _ = _
        rw [hpre.out, List.drop_length, others_nil]
      by_cases hfm : f < 32054400
      · rw [if_pos hfm] at hp1
        have hpl : Hid (pre.length < M) := by
          have h1 := HM.out
          rw [hp1.out] at h1
          simp at h1
          show pre.length < M
          omega
        obtain ⟨fn, tmps, assign, body, hy, hRd⟩ := HY.out pre (f, 32054400) _ HJs.out hpl.out
        have HRd := Lib.hid hRd; clear hRd
        dsimp only at hy
        gi_wp2
        refine HRd.out.mono ?_
        rintro e W3 (⟨rfl, hJ3, hk3⟩ | ⟨rfl, hJx3⟩)
        · have HJ3 := Lib.hid hJ3; clear hJ3 hk3
          gi_wp2
          go_end0
          exact ⟨⟨_, rfl⟩, .inl ⟨_, hp1.out.symm, HJ3.out⟩⟩
        · have HJ3 := Lib.hid hJx3; clear hJx3
          gi_wp2
          go_end0
          exact ⟨⟨_, rfl⟩, .inr ⟨_, ⟨[], by rw [List.append_nil]; exact hp1.out.symm⟩, HJ3.out⟩⟩
      · rw [if_neg hfm, List.append_nil] at hp1
        gi_wp2
        go_end0
        exact ⟨⟨_, rfl⟩, .inl (by rw [hp1.out]; exact HJs.out)⟩

theorem others_in (F : Fence) (n : Nat) (hf : F.fn 80) (hro : F.round = none) (a : Option Addr) (len cap : Nat) (w : World) :
    CallsIn F n Try.prog 80 #[.slice a len cap] w fun e w' => e = .returned (.func (.func 109) #[] #[.pointer (some ⟨w.heap.size, 0, none⟩)]) ∧ w' = w.alloc (.cells #[.slice a len cap] 40) := by
  refine callsIn_of_wp Try.func80 rfl hf ?_ hro
  simp only [Try.ntmps80, List.size_toArray, List.length_cons, List.length_nil, Nat.reduceAdd, Nat.reduceSub, Array.replicate_succ, Array.replicate_zero, List.push_toArray, List.append_toArray, List.nil_append, List.cons_append]
  gi_wp2
  go_ret
  exact ⟨rfl, rfl⟩

theorem others_stops (F : Fence) (n : Nat) (hf : F.fn 109) (hro : F.round = none) (hn : 1 ≤ n) (Bs B : Nat) (A : Option Addr) (cap : Nat) (N : List Sp.S) (hL : N.length ≤ 1000000000000) (w : World) (hB : Bs < w.heap.size)
    (hc : w.cell? ⟨Bs, 0, none⟩ = some (.slice A N.length cap)) (hR : ∀ W, Below w.heap.size w W → RdB B A N W) :
    SeqStopsK F n Try.prog 109 #[.pointer (some ⟨Bs, 0, none⟩)] (fun x : Sp.S => #[.agg #[.int .i64 x.1, .int .i64 x.2]]) (KpB B) (fun ys => ys = Sp.othersFrom 0 N) (fun pre => pre <+: Sp.othersFrom 0 N) (Sp.othersFrom 0 N).length w := fun l J Jx W hW hJ _ hY h0 =>
  others1_in F n hf hro hn l Bs B _ A cap N hL J Jx W hJ (Nat.le_refl _) hY ((hW.cell (p := ⟨Bs, 0, none⟩) hB).trans hc) (hR W hW) h0
end Go.Proofs.Ytnhmibfgaoealaa
