/-
  Ite
  Min
  Lst
-/
import Derived.RangeFuncNested
import Derived.RangeFuncBound
import Derived.RangeFuncCalls
import Derived.RangeFuncLeaves
import Derived.RangeFuncBox
import Derived.Shelf.Abstract
import Derived.Shelf.RegionOpen
import Derived.WalkKit
import Derived.OwnWalkIn
import Derived.TacticsInMore
import Derived.LoopNIn
import Derived.LoopIn
import Derived.Maps.AppendAt
import Derived.Test.YtnhmibfgaoealaaGreatMd
import Derived.Test.YtnhmibfgaoealaaGreatMe
namespace Go.Proofs.YtnhmibfgaoealaaGreat
open Go.RowKit Go.Shelf

attribute [local go_sem] Oper.semAt_some

theorem wpListIn_append_at {F : Fence} {n : Nat} {P : Program} (w : World) {ops : Array Oper} {rest : List Oper} {o : Oper} {a : Act} {Q : Exit → Act → World → Prop}
    (hg : o.guard = none) (s x : Operand) (t : TypeId) (hop : o.op = Op.call { callee := Callee.builtin Builtin.append, args := #[s, x], argTypes := #[t, t] })
    (base : Nat) (e : TypeId) (i : TypeInfo) (z : Value) (size bytes : Nat) (h1 : P.underlying t = some (.slice e)) (h2 : P.info? e = some i) (h3 : i.zero = some z) (h4 : i.size = size) (h5 : i.bytes = bytes) (h6 : z.cells.size = size) (h7 : 0 < size)
    (v : Value) (k : Nat) (xs : List Value) (hs : a.eval s = v) (hown : w.ownsRow base e size v k xs) (ad : Addr) (m c : Nat) (news : List Value) (hx : a.eval x = .slice (some ad) m c) (hn : news.length = m * size)
    (hc : ∀ j u, news[j]? = some u → w.cell? (ad.add j) = some u) (h1c : ∀ u ∈ news, u.oneCell' = true) (b1 : k + m ≤ maxLen) (b2 : (k + m) * bytes ≤ 140737488355328) (b3 : base ≤ w.heap.size)
    (hK : ∀ v' w', w'.ownsRow base e size v' (k + m) (xs ++ news) → w.grownBy w' v.ownBlock → (v'.ownBlock = v.ownBlock ∨ v'.ownBlock = some w.heap.size) → wpListIn F n P ops Q rest (a.put o.dst v') w') :
    wpListIn F n P ops Q (o :: rest) a w := by
  refine wpListIn_plain hg fun K hK' => ?_
  obtain ⟨v', w', hrun, r1, r2, _, r3⟩ := run_append_own_at (P := P) w base t o.type e i z size bytes h1 h2 h3 h4 h5 h6 h7 v k xs hown ad m c news hn hc h1c b1 b2 b3
  unfold Oper.wpIn
  refine ⟨?_, ?_⟩
  · simp [Oper.about, hop, resolve, Target.leads, Sem.run_pure]
  · rw [Oper.semAt_plain F _ _ (by rw [hop]; intro c hc'; cases hc')]
    simp [execOp, hop, resolve, invoke, builtin, hs, hx, hrun, Result.andThen]
    exact hK' _ _ (hK v' w' r1 r2 r3)

/-- The slice in box B begins in block k. -/
def RowOf (B k : Nat) (W : World) : Prop := ∃ o n c, W.cell? ⟨B, 0, none⟩ = some (.slice (some ⟨k, o, none⟩) n c)
def BoxGood (B : Nat) (W : World) : Prop := B < W.heap.size ∧ ∀ k, RowOf B k W → k < W.heap.size

/-- Only box B, and the row of the slice in it, are written. -/
structure KpB (B : Nat) (W W' : World) : Prop where
  size : W.heap.size ≤ W'.heap.size
  good : BoxGood B W → BoxGood B W'
  keep : ∀ k c t fr, k ≠ B → W.heap[k]? = some (.cells c t fr) → ¬ RowOf B k W → W'.heap[k]? = some (.cells c t fr) ∧ ¬ RowOf B k W'

theorem KpB.refl (B : Nat) (W : World) : KpB B W W := ⟨Nat.le_refl _, id, fun _ _ _ _ _ h k => ⟨h, k⟩⟩
theorem KpB.trans {B : Nat} {X Y Z : World} (h : KpB B X Y) (k : KpB B Y Z) : KpB B X Z :=
  ⟨Nat.le_trans h.size k.size, fun g => k.good (h.good g), fun j c t fr hj hc hr => by
    obtain ⟨h1, h2⟩ := h.keep j c t fr hj hc hr
    exact k.keep j c t fr hj h1 h2⟩
theorem KpB.rowEq {B : Nat} {W W' : World} (h : W'.cell? ⟨B, 0, none⟩ = W.cell? ⟨B, 0, none⟩) (k : Nat) : RowOf B k W' ↔ RowOf B k W := by unfold RowOf; rw [h]
theorem KpB.alloc {B : Nat} {X W : World} (h : KpB B X W) (hB : B < W.heap.size) (o : Obj) : KpB B X (W.alloc o) := by
  have e := World.cell?_alloc_lt W o ⟨B, 0, none⟩ hB
  refine h.trans ⟨by simp, fun g => ⟨by simp; omega, fun k hk => by have := g.2 k ((KpB.rowEq e k).1 hk); simp; omega⟩, fun k c t fr _ hc hr => ⟨?_, fun hk => hr ((KpB.rowEq e k).1 hk)⟩⟩
  exact (Below.heap_alloc W o k (Array.getElem?_eq_some_iff.1 hc).1).trans hc
theorem KpB.putObj {B : Nat} {w : World} (hB : B < w.heap.size) (W : World) (l : Nat) (o o' : Obj) (hl : w.heap.size ≤ l) (hW : W.heap[l]? = some o) (ho : o.isCells = false) (_ : o.isWalk = false) : KpB B W (W.putObj l o') := by
  have hg := grownBy_putObj' W l o'
  have hlt := (Array.getElem?_eq_some_iff.1 hW).1
  have e : (W.putObj l o').cell? ⟨B, 0, none⟩ = W.cell? ⟨B, 0, none⟩ := World.cell?_of_block (w := W) (hg.block B (by omega) (fun e => by cases e; omega))
  refine ⟨hg.size, fun g => ⟨by have := hg.size; omega, fun k hk => by have := g.2 k ((KpB.rowEq e k).1 hk); have := hg.size; omega⟩, fun k c t fr _ hc hr => ⟨?_, fun hk => hr ((KpB.rowEq e k).1 hk)⟩⟩
  refine (hg.block k (Array.getElem?_eq_some_iff.1 hc).1 (fun e => ?_)).trans hc
  cases e
  rw [hW] at hc; cases hc; cases ho
theorem KpB.cell {B : Nat} {W W' : World} (h : KpB B W W') {k : Nat} {c : Array Value} {t : TypeId} {fr : Nat × Nat} (hk : k ≠ B) (hc : W.heap[k]? = some (.cells c t fr)) (hr : ¬ RowOf B k W) (i : Nat) : W'.cell? ⟨k, i, none⟩ = W.cell? ⟨k, i, none⟩ :=
  World.cell?_of_block (w := W) ((h.keep k c t fr hk hc hr).1.trans hc.symm)

/-- Spans that an iterator reads: their row is no row of box B's. -/
def RdB (B : Nat) (A : Option Addr) (N : List Sp.S) (W : World) : Prop :=
  BoxGood B W ∧ (N ≠ [] → ∃ b c t fr, A = some ⟨b, 0, none⟩ ∧ b ≠ B ∧ W.heap[b]? = some (.cells c t fr) ∧ ¬ RowOf B b W ∧ ∀ j (h : j < N.length), c[j * 2]? = some (.int .i64 N[j].1) ∧ c[j * 2 + 1]? = some (.int .i64 N[j].2))
theorem RdB.keep {B : Nat} {A : Option Addr} {N : List Sp.S} {W W' : World} (h : RdB B A N W) (hk : KpB B W W') : RdB B A N W' :=
  ⟨hk.good h.1, fun hne => by
    obtain ⟨b, c, t, fr, hA, hb, hc, hr, hcs⟩ := h.2 hne
    obtain ⟨h1, h2⟩ := hk.keep b c t fr hb hc hr
    exact ⟨b, c, t, fr, hA, hb, h1, h2, hcs⟩⟩
theorem RdB.at_ {B : Nat} {A : Option Addr} {N : List Sp.S} {W : World} (h : RdB B A N W) {j : Nat} (hj : j < N.length) :
    ∃ b p q, A = some ⟨b, 0, none⟩ ∧ Hid (N[j]? = some (p, q)) ∧ W.cell? ⟨b, j * 2, none⟩ = some (.int .i64 p) ∧ W.cell? ⟨b, j * 2 + 1, none⟩ = some (.int .i64 q) := by
  obtain ⟨b, c, t, fr, hA, hb, hc, hr, hcs⟩ := h.2 (by rintro rfl; simp at hj)
  obtain ⟨h0, h1⟩ := hcs j hj
  exact ⟨b, N[j].1, N[j].2, hA, List.getElem?_eq_getElem hj, by simp [World.cell?, hc, h0], by simp [World.cell?, hc, h1]⟩
theorem RdB.of_own {B base n cap : Nat} {A : Option Addr} {N : List Sp.S} {W : World} (h : W.ownsRow base 49 2 (.slice A n cap) n (flat encS N)) (hn : n = N.length) (hg : BoxGood B W) (hB : B < base) (hnone : ∀ k, ¬ RowOf B k W) : RdB B A N W := by
  refine ⟨hg, fun hne => ?_⟩
  subst hn
  rcases h.2 with ⟨_, h0⟩ | ⟨g, cap', cur, hv, hg', hh, _, _, _, h4⟩
  · exact absurd (List.eq_nil_of_length_eq_zero h0) hne
  · injection hv with hA _ _
    refine ⟨g, cur, _, _, hA, by omega, hh, hnone g, fun j hj => ?_⟩
    have e0 := flat_at encS_len N j hj 0 (by omega)
    have e1 := flat_at encS_len N j hj 1 (by omega)
    rw [← h4, List.getElem?_take_of_lt (by omega), Array.getElem?_toList] at e0 e1
    exact ⟨e0, e1⟩

theorem others_nil (f : Int) : Sp.othersFrom f [] = if f < 32054400 then [(f, 32054400)] else [] := rfl
theorem others_cons (f p q : Int) (r : List Sp.S) : Sp.othersFrom f ((p, q) :: r) = if f < p then (f, p) :: Sp.othersFrom q r else Sp.othersFrom q r := rfl

set_option maxRecDepth 100000 in
set_option maxHeartbeats 2000000 in
theorem others1_in (F : Fence) (n : Nat) (hf : F.fn 107) (hro : F.round = none) (hn : 1 ≤ n) (l Bs B M : Nat) (A : Option Addr) (cap : Nat) (N : List Sp.S) (hL : N.length ≤ 1000000000000)
    (J Jx : List Sp.S → World → Prop) (W : World) (hJa : AbidesFrom W.heap.size J) (hM : (Sp.othersFrom 0 N).length ≤ M)
    (hY : ∀ pre x W1, J pre W1 → pre.length < M → YieldAt F (n - 1) Tryz.prog l #[.agg #[.int .i64 x.1, .int .i64 x.2]] W1 fun e W' =>
      (e = .returned (.bool true) ∧ J (pre ++ [x]) W' ∧ KpB B W1 W') ∨ (e = .returned (.bool false) ∧ Jx (pre ++ [x]) W'))
    (hBs : W.cell? ⟨Bs, 0, none⟩ = some (.slice A N.length cap))
    (hR : RdB B A N W) (h0 : J [] W) :
    CallsIn F n Tryz.prog 107 #[.func (.yield l) #[] #[], .pointer (some ⟨Bs, 0, none⟩)] W fun e W' => (∃ v, e = .returned v) ∧
      ((∃ ys, ys = Sp.othersFrom 0 N ∧ J ys W') ∨ (∃ pre, pre <+: Sp.othersFrom 0 N ∧ Jx pre W')) := by
  have HR := Lib.hid hR; have HY := Lib.hid hY; have HJ := Lib.hid hJa; have HM := Lib.hid hM; clear hR hY hJa hM
  refine callsIn_of_wp Tryz.func107 rfl hf ?_ hro
  simp only [Tryz.ntmps107, List.size_toArray, List.length_cons, List.length_nil, Nat.reduceAdd, Nat.reduceSub, Array.replicate_succ, Array.replicate_zero, List.push_toArray, List.append_toArray, List.nil_append, List.cons_append]
  gi_wp2
  gi_loopw [3, 8] (fun fv i wr => ∃ (k : Nat) (f : Int) (pre : List Sp.S), k ≤ N.length ∧ i = .int .i64 k ∧ fv = .int .i64 f ∧ Hid (Sp.othersFrom 0 N = pre ++ Sp.othersFrom f (N.drop k)) ∧ J pre wr ∧ KpB B W wr)
    (fun _ i _ => N.length - (intOf i).toNat)
  case atStart => exact ⟨0, 0, [], Nat.zero_le _, rfl, rfl, (rfl : _ = _), h0, KpB.refl _ _⟩
  case round =>
    obtain ⟨k, f, pre, hk, rfl, rfl, hpre, hJs, hmid⟩ := hrel
    have HRr := Lib.hid (HR.out.keep hmid)
    have HMd := Lib.hid hmid; have HJs := Lib.hid hJs; clear hmid hJs
    by_cases hlt : k < N.length
    · obtain ⟨b, p, q, rfl, hx, c0, c1⟩ := HRr.out.at_ hlt
      have hBw : B < wr.heap.size := HRr.out.1.1
      have HA : Hid (KpB B W (wr.alloc (.cells #[.int .i64 p, .int .i64 q] 49))) := HMd.out.alloc hBw _
      have hJb : J pre (wr.alloc (.cells #[.int .i64 p, .int .i64 q] 49)) := HJ.out pre wr _ none HJs.out (World.grownBy_alloc wr _ none) (fun r e => by cases e)
      have HJb := Lib.hid hJb; clear hJb
      by_cases hfp : f < p
      · have hpl : Hid (pre.length < M) := by
          have h1 := HM.out
          rw [hpre.out, drop_cons hx.out, others_cons, if_pos hfp] at h1
          simp at h1
          show pre.length < M
          omega
        obtain ⟨fn, tmps, assign, body, hy, hRd⟩ := HY.out pre (f, p) _ HJb.out hpl.out
        have HRd := Lib.hid hRd; clear hRd
        dsimp only at hy
        have hpre' : Hid (Sp.othersFrom 0 N = (pre ++ [(f, p)]) ++ Sp.othersFrom q (N.drop (k + 1))) := by
          show _ = _
          rw [hpre.out, drop_cons hx.out, others_cons, if_pos hfp, List.append_assoc]; rfl
        have hbox : Hid (∀ W3, KpB B (wr.alloc (.cells #[.int .i64 p, .int .i64 q] 49)) W3 → W3.cell? ⟨wr.heap.size, 1, none⟩ = some (.int .i64 q)) := by
          intro W3 h3
          have hgood := HRr.out.1
          rw [h3.cell (k := wr.heap.size) (by omega) (heap_alloc_new wr _) (fun hk => by
            have e := World.cell?_alloc_lt wr (.cells #[.int .i64 p, .int .i64 q] 49) ⟨B, 0, none⟩ hBw
            have := hgood.2 _ ((KpB.rowEq e _).1 hk)
            omega) 1]
          simp
        have HPx : Hid (pre ++ [(f, p)] <+: Sp.othersFrom 0 N) := ⟨_, hpre'.out.symm⟩
        clear HRr
        gi_wp2
        refine HRd.out.mono ?_
        rintro e W3 (⟨rfl, hJ3, hk3⟩ | ⟨rfl, hJx3⟩)
        · have d1 := hbox.out W3 hk3
          have H3 := Lib.hid (HA.out.trans hk3); clear hk3
          have HJ3 := Lib.hid hJ3; clear hJ3
          gi_wp2
          go_roundw
          case rel => exact ⟨k + 1, q, _, by omega, by go_num, rfl, hpre'.out, HJ3.out, H3.out⟩
          case measure => simp [intOf]; omega
        · gi_wp2
          refine bodyPost_ret (results_none rfl _ _ _) rfl ?_
          exact ⟨⟨_, rfl⟩, .inr ⟨_, HPx.out, hJx3⟩⟩
      · have hpre' : Hid (Sp.othersFrom 0 N = pre ++ Sp.othersFrom q (N.drop (k + 1))) := by
          show _ = _
          rw [hpre.out, drop_cons hx.out, others_cons, if_neg hfp]
        have hfp2 : decide (f < p) = false := by simpa using hfp
        gi_wp2
        refine ⟨(fun f h => by cases h), ?_⟩
        gi_wp2
        go_roundw
        case rel => exact ⟨k + 1, q, pre, by omega, by go_num, rfl, hpre'.out, HJb.out, HA.out⟩
        case measure => simp [intOf]; omega
    · obtain rfl : k = N.length := by omega
      have hp1 : Hid (Sp.othersFrom 0 N = pre ++ if f < 32054400 then [(f, 32054400)] else []) := by
        show _ = _
        rw [hpre.out, List.drop_length, others_nil]
      by_cases hfm : f < 32054400
      · rw [if_pos hfm] at hp1
        have hpl : Hid (pre.length < M) := by
          have h1 := HM.out
          rw [hp1.out] at h1
          simp at h1
          show pre.length < M
          omega
        obtain ⟨fn, tmps, assign, body, hy, hRd⟩ := HY.out pre (f, 32054400) _ HJs.out hpl.out
        have HRd := Lib.hid hRd; clear hRd
        dsimp only at hy
        gi_wp2
        refine HRd.out.mono ?_
        rintro e W3 (⟨rfl, hJ3, hk3⟩ | ⟨rfl, hJx3⟩)
        · have HJ3 := Lib.hid hJ3; clear hJ3 hk3
          gi_wp2
          go_end0
          exact ⟨⟨_, rfl⟩, .inl ⟨_, hp1.out.symm, HJ3.out⟩⟩
        · have HJ3 := Lib.hid hJx3; clear hJx3
          gi_wp2
          go_end0
          exact ⟨⟨_, rfl⟩, .inr ⟨_, ⟨[], by rw [List.append_nil]; exact hp1.out.symm⟩, HJ3.out⟩⟩
      · rw [if_neg hfm, List.append_nil] at hp1
        gi_wp2
        go_end0
        exact ⟨⟨_, rfl⟩, .inl (by rw [hp1.out]; exact HJs.out)⟩

theorem others_in (F : Fence) (n : Nat) (hf : F.fn 78) (hro : F.round = none) (a : Option Addr) (len cap : Nat) (w : World) :
    CallsIn F n Tryz.prog 78 #[.slice a len cap] w fun e w' => e = .returned (.func (.func 107) #[] #[.pointer (some ⟨w.heap.size, 0, none⟩)]) ∧ w' = w.alloc (.cells #[.slice a len cap] 34) := by
  refine callsIn_of_wp Tryz.func78 rfl hf ?_ hro
  simp only [Tryz.ntmps78, List.size_toArray, List.length_cons, List.length_nil, Nat.reduceAdd, Nat.reduceSub, Array.replicate_succ, Array.replicate_zero, List.push_toArray, List.append_toArray, List.nil_append, List.cons_append]
  gi_wp2
  go_ret
  exact ⟨rfl, rfl⟩

theorem others_stops (F : Fence) (n : Nat) (hf : F.fn 107) (hro : F.round = none) (hn : 1 ≤ n) (Bs B : Nat) (A : Option Addr) (cap : Nat) (N : List Sp.S) (hL : N.length ≤ 1000000000000) (w : World) (hB : Bs < w.heap.size)
    (hc : w.cell? ⟨Bs, 0, none⟩ = some (.slice A N.length cap)) (hR : ∀ W, Below w.heap.size w W → RdB B A N W) :
    SeqStopsK F n Tryz.prog 107 #[.pointer (some ⟨Bs, 0, none⟩)] (fun x : Sp.S => #[.agg #[.int .i64 x.1, .int .i64 x.2]]) (KpB B) (fun ys => ys = Sp.othersFrom 0 N) (fun pre => pre <+: Sp.othersFrom 0 N) (Sp.othersFrom 0 N).length w := fun l J Jx W hW hJ _ hY h0 =>
  others1_in F n hf hro hn l Bs B _ A cap N hL J Jx W hJ (Nat.le_refl _) hY ((hW.cell (p := ⟨Bs, 0, none⟩) hB).trans hc) (hR W hW) h0
end Go.Proofs.YtnhmibfgaoealaaGreat
namespace Go.Proofs.YtnhmibfgaoealaaGreat
open Go.RowKit Go.Shelf

attribute [local go_sem] Oper.semAt_some

theorem others_length {lo : Int} (N : List Sp.S) (f : Int) (_h : Sp.PlainFrom lo N) : (Sp.othersFrom f N).length ≤ N.length + 1 := by
  induction N generalizing lo f with
  | nil => unfold Sp.othersFrom; split <;> simp
  | cons s r ih =>
    unfold Sp.othersFrom
    have := ih s.2 _h.2.2.2
    split <;> simp <;> omega

/-- A round that puts something behind the row in box B. -/
theorem kp_appended {W wA : World} {n₀ B g' cap' : Nat} {t e : TypeId} {size n m : Nat} {v : Value} {xs ys : List Value} {tmp : Obj} (hv : Boxed W B t v) (hte : t ≠ e) (hrow : W.ownsRow n₀ e size v n xs) (hn₀ : n₀ ≤ W.heap.size) (hBn : B < n₀)
    (hown' : wA.ownsRow n₀ e size (.slice (some ⟨g', 0, none⟩) m cap') m ys) (hgrow : (W.alloc tmp).grownBy wA v.ownBlock) (hv' : (Value.slice (some ⟨g', 0, none⟩) m cap').ownBlock = v.ownBlock ∨ (Value.slice (some ⟨g', 0, none⟩) m cap').ownBlock = some (W.alloc tmp).heap.size) :
    Boxed wA B t v ∧ KeepsOthers W (wA.setCell ⟨B, 0, none⟩ (.slice (some ⟨g', 0, none⟩) m cap')) ∧ KpB B W (wA.setCell ⟨B, 0, none⟩ (.slice (some ⟨g', 0, none⟩) m cap')) ∧
      Boxed (wA.setCell ⟨B, 0, none⟩ (.slice (some ⟨g', 0, none⟩) m cap')) B t (.slice (some ⟨g', 0, none⟩) m cap') ∧ (wA.setCell ⟨B, 0, none⟩ (.slice (some ⟨g', 0, none⟩) m cap')).ownsRow n₀ e size (.slice (some ⟨g', 0, none⟩) m cap') m ys ∧ Below B W wA := by
  have hb : Below B W wA := ((Below.refl B W).alloc (by omega) tmp).grown hgrow (by simp; omega) (fun k hk => by have := (hrow.lt k hk).1; omega)
  have hv1 : Boxed wA B t v := (hv.alloc tmp).kept hgrow (hv.not_row hte hrow)
  have hg' := (hown'.lt g' rfl)
  have hne : B ≠ g' := by omega
  have hcell : (wA.setCell ⟨B, 0, none⟩ (.slice (some ⟨g', 0, none⟩) m cap')).cell? ⟨B, 0, none⟩ = some (.slice (some ⟨g', 0, none⟩) m cap') := (hv1.set _).cell
  have hsz : (wA.setCell ⟨B, 0, none⟩ (.slice (some ⟨g', 0, none⟩) m cap')).heap.size = wA.heap.size := by simp [World.setCell]
  refine ⟨hv1, ?_, ⟨by rw [hsz]; exact hb.size, fun hg => ⟨by rw [hsz]; exact hv1.lt, fun k hk => ?_⟩, fun k c ty fr hkB hc hr => ?_⟩, hv1.set _, own_set_other hown' _ (fun h => hne (by cases h; rfl)), hb⟩
  · refine ((KeepsOthers.alloc W tmp).trans (KeepsOthers.of_grownBy hgrow fun j o hj ho => ?_)).trans (KeepsOthers.setCell _ _ _)
    rcases hrow.2 with ⟨rfl, _⟩ | ⟨g, cap, cur, rfl, _, hh, _⟩
    · simp [Value.ownBlock] at hj
    · simp [Value.ownBlock] at hj
      subst hj
      rw [Below.heap_alloc W tmp g (Array.getElem?_eq_some_iff.1 hh).1, hh] at ho
      cases ho; rfl
  · obtain ⟨o, n', c, h⟩ := hk
    rw [hcell] at h; cases h
    rw [hsz]; exact hg'.2
  · have hlt := (Array.getElem?_eq_some_iff.1 hc).1
    have hnr : some k ≠ v.ownBlock := by
      intro h
      rcases hrow.2 with ⟨rfl, _⟩ | ⟨g, cap, cur, rfl, _⟩
      · simp [Value.ownBlock] at h
      · simp [Value.ownBlock] at h
        exact hr ⟨0, n, cap, by rw [hv.cell, h]⟩
    refine ⟨?_, ?_⟩
    · rw [Below.heap_setCell wA _ _ k (by simpa using hkB), hgrow.block k (by simp; omega) hnr, Below.heap_alloc W tmp k hlt]
      exact hc
    · rintro ⟨o, n', c', h⟩
      rw [hcell] at h; cases h
      rcases hv' with h | h
      · exact hnr h
      · simp [Value.ownBlock] at h; omega

set_option maxRecDepth 100000 in
set_option maxHeartbeats 2000000 in
theorem minus_any (a b : List Sp.S) (A1 A2 : Option Addr) (c1 c2 : Nat) (w : World) (h1 : Rd encS 2 w w.heap.size A1 a) (h2 : Rd encS 2 w w.heap.size A2 b) (l1 : a.length ≤ 1000000000000) (l2 : b.length ≤ 900000000000) (hl : (Sp.norm a).length * ((Sp.norm b).length + 1) ≤ 1000000000000) :
    Calls Tryz.prog 39 #[.slice A1 a.length c1, .slice A2 b.length c2] w fun e w' => ∃ A' cap', e = .returned (.slice A' (Sp.minus a b).length cap') ∧
      w'.ownsRow w.heap.size 49 2 (.slice A' (Sp.minus a b).length cap') (Sp.minus a b).length (flat encS (Sp.minus a b)) ∧ Below w.heap.size w w' := by
  have hc2 := fun W hb hB => norm_at (B := w.heap.size) (w := w) (wr := W) hb hB b A2 c2
  obtain ⟨R, hR⟩ : ∃ R, R = Sp.minus a b := ⟨_, rfl⟩
  rw [← hR]
  obtain ⟨Nb, hNb⟩ : ∃ N, N = Sp.norm b := ⟨_, rfl⟩
  rw [← hNb] at hc2 hl
  have hP : Hid (Sp.Plain Nb) := by rw [hNb]; exact Sp.norm_plain b
  have hNl : Nb.length ≤ 900000000000 := by rw [hNb]; exact Nat.le_trans (Sp.norm_length b) l2
  obtain ⟨O, hO⟩ : ∃ O, O = Sp.othersFrom 0 Nb := ⟨_, rfl⟩
  have hOl : O.length ≤ Nb.length + 1 := by rw [hO]; exact others_length Nb 0 hP.out
  have HR : Hid (R = Sp.and_ a O) := by rw [hR, hO, hNb]; rfl
  have hOn : (Sp.norm O).length ≤ Nb.length + 1 := Nat.le_trans (Sp.norm_length O) hOl
  have hl2 : (Sp.norm a).length * (Sp.norm O).length ≤ 1000000000000 := Nat.le_trans (Nat.mul_le_mul_left _ hOn) hl
  have HC2 := Lib.hid hc2; have HO := Lib.hid hO; clear hc2 hNb hR hO
  have H1 := Lib.hid h1; have H2 := Lib.hid h2; clear h1 h2
  have HL2 := Lib.hid hl2; clear hl2 hl hOn
  refine (callsIn_wide (n := 6)).1 ?_
  refine callsIn_of_wp_marks Tryz.func39 rfl trivial ?_ rfl
  simp only [Tryz.ntmps39, List.size_toArray, List.length_cons, List.length_nil, Nat.reduceAdd, Nat.reduceSub, Array.replicate_succ, Array.replicate_zero, List.push_toArray, List.append_toArray, List.nil_append, List.cons_append]
  have hB0 : Below w.heap.size w (w.alloc (.cells #[.slice none 0 0] 34)) := (Below.refl _ _).alloc (Nat.le_refl _) _
  have HB0 := Lib.hid hB0; clear hB0
  gi_wp2_with (first | (refine ⟨trivial, ?_⟩; gi_at_call 23; refine (callsIn_wide.2 (HC2.out _ HB0.out (by simp) ((H2.out.below HB0.out).more (by simp)) (by omega))).mono ?_; rintro e w1 ⟨A3, cap3, rfl, _, ho3, hb3, hb4⟩) | (refine ⟨trivial, ?_⟩; gi_at_call 78; refine (others_in Fence.wide _ trivial rfl _ _ _ _).mono ?_; rintro e w' ⟨rfl, rfl⟩))
  have hlt1 : w.heap.size < w1.heap.size := Nat.lt_of_lt_of_le (by simp) hb4.out.size
  obtain ⟨W0, hW0⟩ : ∃ W0, W0 = w1.alloc (.cells #[.slice A3 Nb.length cap3] 34) := ⟨_, rfl⟩
  have hs0 : W0.heap.size = w1.heap.size + 1 := by rw [hW0]; simp
  have hB1 : Below w.heap.size w W0 := by rw [hW0]; exact hb3.out.alloc hb3.out.size _
  have hBs : W0.cell? ⟨w1.heap.size, 0, none⟩ = some (.slice A3 Nb.length cap3) := by rw [hW0]; simp
  have hBx : Boxed W0 w.heap.size 34 (.slice none 0 0) := by
    rw [hW0]
    exact Boxed.alloc ((hb4.out.block w.heap.size (by simp)).trans (heap_alloc_new w _)) _
  have ho4 : W0.ownsRow (w.heap.size + 1) 49 2 (.slice A3 Nb.length cap3) Nb.length (flat encS Nb) := by
    rw [hW0]; have := ho3.out.alloc (.cells #[.slice A3 Nb.length cap3] 34); rw [World.size_alloc] at this; exact this
  have hRd : ∀ W, Below W0.heap.size W0 W → RdB w.heap.size A3 Nb W := by
    intro W hW
    have hx : Boxed W w.heap.size 34 (.slice none 0 0) := (hW.block w.heap.size (by omega)).trans hBx
    have hno : ∀ k, ¬ RowOf w.heap.size k W := by
      rintro k ⟨o, n, c, hc⟩
      rw [hx.cell] at hc
      cases hc
    exact RdB.of_own (own_below ho4 hW) rfl ⟨hx.lt, fun k hk => absurd hk (hno k)⟩ (by omega) hno
  rw [← hW0]
  clear hW0
  refine wpIn_rangeFunc_ownH rfl (by omega) (gf := 107) (lb := #[.pointer (some ⟨w1.heap.size, 0, none⟩)]) rfl trivial (enters_of Tryz.func107 (by kernel_rfl) rfl)
    (others_stops Fence.wide _ trivial rfl (by omega) w1.heap.size w.heap.size A3 cap3 Nb (by omega) W0 (by omega) hBs hRd) KpB.trans (KpB.putObj (by omega)) (Below.refl _ _) (fun _ => rfl)
    (fun pre W => (∃ v, Boxed W w.heap.size 34 v ∧ W.ownsRow W0.heap.size 49 2 v pre.length (flat encS pre) ∧ True) ∧ Below w.heap.size w W)
    (fun _ _ _ => False)
    (OwnFrom.and (Own.from (holdsRow_own W0.heap.size w.heap.size 34 49 2 (fun pre : List Sp.S => pre.length) (fun pre => flat encS pre) (fun _ _ => True)) _) (ownFrom_below (Nat.le_refl _) (by omega)))
    (fun _ _ _ _ _ hs _ _ => hs)
    ⟨⟨_, hBx, World.ownsRow_nil _ _ _ _, trivial⟩, hB1⟩
    (fun x a' W => ∃ Bx, W.heap[Bx]? = some (.cells #[.int .i64 x.1, .int .i64 x.2] 49 (0, 0)) ∧ a' = { tmps := #[.slice A1 a.length c1, .slice A2 b.length c2, undef, undef, .slice none 0 0, .pointer (some ⟨w.heap.size, 0, none⟩), .pointer (some ⟨Bx, 0, none⟩), .slice A2 b.length c2, .slice A3 Nb.length cap3, .func (.func 107) #[] #[.pointer (some ⟨w1.heap.size, 0, none⟩)], .agg #[.int .i64 x.1, .int .i64 x.2], undef, undef, undef, undef, undef, undef, undef], defers := [] })
    (fun x a' _ X Y row hs hg hr => by
      obtain ⟨Bx, hh, he⟩ := hs
      refine ⟨Bx, (hg.block Bx (Array.getElem?_eq_some_iff.1 hh).1 (fun e => ?_)).trans hh, he⟩
      obtain ⟨_, o, ho, hc⟩ := hr Bx e.symm
      rw [hh] at ho; cases ho; cases hc)
    ?assign ?body ?done ?stop
  case assign =>
    rintro l pre x W K ⟨⟨v, hv, hrow, _⟩, hB⟩ hK
    have HV := Lib.hid hv; have HRow := Lib.hid hrow; have HB := Lib.hid hB; have HK := Lib.hid hK; clear hv hrow hB hK
    gi_wp2
    exact HK.out _ _ ((KeepsOthers.alloc _ _).from _) ((KpB.refl _ _).alloc HV.out.lt _) ⟨⟨v, HV.out.alloc _, HRow.out.alloc _, trivial⟩, HB.out.alloc HB.out.size _⟩ ⟨W.heap.size, heap_alloc_new W _, rfl⟩
  case body =>
    rintro l pre x a' W hl ⟨r, hr⟩ ⟨⟨v, hv, hrow, _⟩, hB⟩ ⟨Bx, hX, rfl⟩ hlt
    have hc := hv.cell
    have x0 : W.cell? ⟨Bx, 0, none⟩ = some (.int .i64 x.1) := by simp [World.cell?, hX]
    have x1 : W.cell? ⟨Bx, 1, none⟩ = some (.int .i64 x.2) := by simp [World.cell?, hX]
    obtain ⟨i0, hi, hz0, hz1, hz2⟩ := info_parts info_span
    have hsW := hB.size
    have hWl : W0.heap.size ≤ W.heap.size := Nat.le_trans hl (Nat.le_of_lt (Array.getElem?_eq_some_iff.1 hr).1)
    clear hr
    have HRow := Lib.hid hrow; have HV := Lib.hid hv; have HB := Lib.hid hB; clear hrow hv hB hX
    have hn1 : pre.length ≤ 1000000000000 := by
      have := HO.out
      rw [← this] at hlt
      omega
    gi_wp2_with (gi_at_builtin; refine wpListIn_append_at _ rfl _ _ 34 rfl W0.heap.size 49 i0 (.agg #[.int .i64 0, .int .i64 0]) 2 16 Tryz.underlying34 hi hz0 hz1 hz2 rfl (by decide) _ _ _ rfl (HRow.out.alloc _) ⟨W.heap.size, 0, none⟩ 1 1 [.int .i64 x.1, .int .i64 x.2] rfl rfl (cells_new_at _ _ _ _ rfl) (by simp [Value.oneCell']) (by unfold maxLen; omega) (by omega) (by simp; omega) ?_; intro v' wA hown' hgrow hv'; obtain ⟨g', cap', rfl⟩ := ownsRow_succ hown'; obtain ⟨hv1, hk1, hk2, hk3, hk4, hk5⟩ := kp_appended HV.out (by decide) HRow.out hWl (by omega) hown' hgrow hv'; have hc1 := hv1.cell; have hf1 := hv1.frozen)
    exact ⟨hk1.from _, hk2, ⟨_, hk3, by rw [flat_snoc, List.length_append]; exact hk4, trivial⟩, (HB.out.trans hk5).setCell (by simp) _⟩
  case done =>
    rintro D ys W hD rfl ⟨⟨v, hv, hrow, _⟩, hB⟩ hK
    rw [← HO.out] at hrow
    obtain ⟨A5, cap5, rfl, _, _⟩ := own_form hrow
    have hc := hv.cell
    have HRow := Lib.hid hrow; have HB := Lib.hid hB; have HK := Lib.hid hK; clear hrow hB hK
    have hsW : w.heap.size ≤ W.heap.size := HB.out.size
    gi_wp2_with (refine ⟨trivial, ?_⟩; gi_at_call 67; refine (callsIn_wide.2 (and_any a O A1 A5 c1 cap5 _ ((H1.out.below HB.out).more hsW) (Rd.of_own encS_len HRow.out) l1 (by omega) HL2.out)).mono ?_; rw [← HR.out]; rintro e w5 ⟨A6, cap6, rfl, ho6, hb6⟩)
    have hK5 : w5.heap[D]? = some (.deferred (some [])) := (hb6.block D (Array.getElem?_eq_some_iff.1 HK.out).1).trans HK.out
    refine ⟨by simp, .inl ⟨_, _, rfl, run_takeDeferred hK5, ?_⟩⟩
    exact ⟨_, results_tmp rfl _ _ _, A6, cap6, rfl, ownsRow_putObj (own_base ho6 hsW) _ hK5 rfl, (HB.out.trans (hb6.mono hsW)).trans (belowK_b (w := w) (Nat.le_refl _) w5 D _ _ (by omega) hK5 rfl rfl)⟩
  case stop =>
    rintro D c pre W _ _ h _
    exact h.elim
end Go.Proofs.YtnhmibfgaoealaaGreat
namespace Go.Proofs.YtnhmibfgaoealaaGreat
open Go.RowKit

theorem mul_small {x y : Nat} (hx : x ≤ 900000) (hy : y ≤ 900001) : x * y ≤ 1000000000000 := Nat.le_trans (Nat.mul_le_mul hx hy) (by decide)

theorem and_a (a b : List Sp.S) (A1 A2 : Option Addr) (c1 c2 : Nat) (w : World) (h1 : Rd encS 2 w w.heap.size A1 a) (h2 : Rd encS 2 w w.heap.size A2 b) (l1 : a.length ≤ 900000) (l2 : b.length ≤ 900000) :
    Calls Tryz.prog 67 #[.slice A1 a.length c1, .slice A2 b.length c2] w fun e w' => ∃ A' cap', e = .returned (.slice A' (Sp.and_ a b).length cap') ∧
      w'.ownsRow w.heap.size 49 2 (.slice A' (Sp.and_ a b).length cap') (Sp.and_ a b).length (flat encS (Sp.and_ a b)) ∧ Below w.heap.size w w' :=
  and_any a b A1 A2 c1 c2 w h1 h2 (by omega) (by omega) (mul_small (Nat.le_trans (Sp.norm_length a) l1) (by have := Sp.norm_length b; omega))

theorem minus_a (a b : List Sp.S) (A1 A2 : Option Addr) (c1 c2 : Nat) (w : World) (h1 : Rd encS 2 w w.heap.size A1 a) (h2 : Rd encS 2 w w.heap.size A2 b) (l1 : a.length ≤ 900000) (l2 : b.length ≤ 900000) :
    Calls Tryz.prog 39 #[.slice A1 a.length c1, .slice A2 b.length c2] w fun e w' => ∃ A' cap', e = .returned (.slice A' (Sp.minus a b).length cap') ∧
      w'.ownsRow w.heap.size 49 2 (.slice A' (Sp.minus a b).length cap') (Sp.minus a b).length (flat encS (Sp.minus a b)) ∧ Below w.heap.size w w' :=
  minus_any a b A1 A2 c1 c2 w h1 h2 (by omega) (by omega) (mul_small (Nat.le_trans (Sp.norm_length a) l1) (by have := Sp.norm_length b; omega))

theorem first_length (l : List Sp.S) (n : Int) : (Sp.first l n).length ≤ l.length := Nat.le_trans (firstP_length _ _) (Sp.norm_length l)

set_option maxHeartbeats 400000 in
theorem last_any (l : List Sp.S) (A : Option Addr) (cap : Nat) (n : Int) (w : World) (h : Rd encS 2 w w.heap.size A l) (hl : l.length ≤ 900000) (hn : -9223372036854775808 ≤ n ∧ n ≤ 9223372036854775807) :
    Calls Tryz.prog 76 #[.slice A l.length cap, .int .i64 n] w fun e w' => ∃ A' cap', e = .returned (.slice A' (Sp.last l n).length cap') ∧
      w'.ownsRow w.heap.size 49 2 (.slice A' (Sp.last l n).length cap') (Sp.last l n).length (flat encS (Sp.last l n)) ∧ Below w.heap.size w w' := by
  by_cases h0 : n ≤ 0
  · have e : Sp.last l n = [] := by unfold Sp.last; rw [if_pos h0]
    rw [e]
    clear h e
    go_enter Tryz.func76, Tryz.ntmps76
    go_wp2
    go_ret
    exact ⟨none, 0, rfl, World.ownsRow_nil _ _ _ _, Below.refl _ _⟩
  · obtain ⟨R, hR⟩ : ∃ R, R = Sp.last l n := ⟨_, rfl⟩
    rw [← hR]
    have s1 := Sp.size_nonneg l
    have s2 := Sp.size_le l
    simp only [Sp.MT] at s2
    obtain ⟨m, hm⟩ : ∃ m, m = Sp.size l - min n 32054400 := ⟨_, rfl⟩
    have HR : Hid (R = Sp.minus l (Sp.first l m)) := by
      show _ = _
      rw [hR, hm]; unfold Sp.last; rw [if_neg h0]; simp only [Sp.MT]
    obtain ⟨Z, hZ⟩ : ∃ Z, Z = Sp.size l := ⟨_, rfl⟩
    have c1 := fun W (hb : Below w.heap.size w W) => size_any l A cap W ((h.below hb).more hb.size) (by omega)
    rw [← hZ] at c1 hm s1 s2
    have c2 := fun W (hb : Below w.heap.size w W) => first_any l A cap m W ((h.below hb).more hb.size) (by omega) (by omega)
    have hF := first_length l m
    obtain ⟨Fl, hFl⟩ : ∃ F, F = Sp.first l m := ⟨_, rfl⟩
    rw [← hFl] at c2 HR hF
    have c3 := fun W (hb : Below w.heap.size w W) A2 cap2 h2 => minus_a l Fl A A2 cap cap2 W ((h.below hb).more hb.size) h2 hl (by omega)
    rw [← HR] at c3
    have C1 := Lib.hid c1; have C2 := Lib.hid c2; have C3 := Lib.hid c3; have HM := Lib.hid hm.symm; clear c1 c2 c3 hR hZ hFl h HR
    have hwr : -9223372036854775808 ≤ Z - min n 32054400 ∧ Z - min n 32054400 ≤ 9223372036854775807 := by omega
    clear hm hF
    go_enter Tryz.func76, Tryz.ntmps76
    go_wp2_with fail
    refine (C1.out _ (Below.refl _ _)).mono ?_
    rintro e w1 ⟨rfl, hb1⟩
    have HB1 := Lib.hid hb1; clear hb1
    go_wp2_with fail
    rw [HM.out]
    refine (C2.out _ HB1.out).mono ?_
    rintro e w2 ⟨A2, cap2, rfl, ho2, hb2⟩
    have HB2 := Lib.hid (HB1.out.trans (hb2.mono HB1.out.size)); have HO2 := Lib.hid ho2; clear hb2 ho2
    go_wp2_with fail
    refine (C3.out _ HB2.out A2 cap2 (Rd.of_own encS_len HO2.out)).mono ?_
    rintro e w3 ⟨A3, cap3, rfl, ho3, hb3⟩
    have HB3 := Lib.hid (HB2.out.trans (hb3.mono HB2.out.size)); have HO3 := Lib.hid (own_base ho3 HB2.out.size); clear hb3 ho3
    go_wp2
    go_ret
    exact ⟨A3, cap3, rfl, HO3.out, HB3.out⟩
end Go.Proofs.YtnhmibfgaoealaaGreat
