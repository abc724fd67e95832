/-
  over.days: each day's part, one by one, lying in memory.
-/
import Derived.Shelf.Abstract
import Derived.Shelf.RegionOpen
import Derived.WalkKit
import Derived.OwnWalkIn
import Derived.TacticsInMore
import Derived.LoopNIn
import Derived.LoopIn
import Derived.Maps.AppendAt
import Derived.Test.YtnhmibfgaoealaaOl
import Derived.Test.YtnhmibfgaoealaaUm
import Derived.Test.YtnhmibfgaoealaaCk0
import Derived.Test.YtnhmibfgaoealaaMm
namespace Go.Proofs.Ytnhmibfgaoealaa
open Go.RowKit
set_option linter.unusedVariables false
set_option linter.unusedSimpArgs false

attribute [local go_sem] Oper.semAt_some

/-- A region that draws its order, within a round, by the moves of Um. -/
theorem region_until_round {P : Program} {id : Nat} {ops : Array Oper} {Q : Act → World → Prop} {Q' : Exit → Act → World → Prop} {T : World → Prop} {z : Nat} {a : Act} {w : World} (l n k : Nat) (hk : ops.size = k) (hm : P.follows .mixedOrders = true) (hd : NoDefer ops = true) (hQ : ∀ a w, Q a w → Q' .normal a w)
    (h : Un P ops (fun e a w => e = .normal ∧ Q a w) T z k (Array.replicate k false) a { w with drawn := w.drawn + 1 }) : (Code.region id ops true).wpIn (Fence.wide.inRound l) n P Q' a w := by
  subst hk
  exact wpIn_region_any hm (any_round l n hd (fun _ _ _ h => h) (fun _ _ h => by cases h.1) (fun a w h => hQ a w h.2) _ _ _ _ (wpAny_of_until _ _ _ _ (h (Down.start _ rfl))))

/-- Only the cells of blocks x and y are written. -/
structure Kp2 (x y : Nat) (W W' : World) : Prop where
  size : W.heap.size ≤ W'.heap.size
  keep : ∀ k c t fr, k ≠ x → k ≠ y → W.heap[k]? = some (.cells c t fr) → W'.heap[k]? = some (.cells c t fr)
theorem Kp2.refl (x y : Nat) (W : World) : Kp2 x y W W := ⟨Nat.le_refl _, fun _ _ _ _ _ _ h => h⟩
theorem Kp2.trans {x y : Nat} {X Y Z : World} (h : Kp2 x y X Y) (k : Kp2 x y Y Z) : Kp2 x y X Z :=
  ⟨Nat.le_trans h.size k.size, fun j c t fr a b e => k.keep j c t fr a b (h.keep j c t fr a b e)⟩
theorem Kp2.grown {x y : Nat} {W W' : World} {row : Option Nat} (h : W.grownBy W' row) (hr : ∀ r, row = some r → r = x ∨ r = y) : Kp2 x y W W' :=
  ⟨h.size, fun k c t fr a b e => (h.block k (Array.getElem?_eq_some_iff.1 e).1 (fun e' => (hr k e'.symm).elim a b)).trans e⟩
theorem Kp2.putObj {x y : Nat} (W : World) (l : Nat) (o o' : Obj) (hW : W.heap[l]? = some o) (ho : o.isCells = false) : Kp2 x y W (W.putObj l o') :=
  ⟨(grownBy_putObj' W l o').size, fun k c t fr _ _ e => ((grownBy_putObj' W l o').block k (Array.getElem?_eq_some_iff.1 e).1 (fun e' => by cases e'; rw [hW] at e; cases e; cases ho)).trans e⟩
theorem Ext.grown0 {w w' : World} (h : Ext w w') : w.grownBy w' none := ⟨h.os, h.tape, h.output, h.size, fun k hk _ => h.block k hk⟩
theorem Kp2.ext {x y : Nat} {W W' : World} (h : Ext W W') : Kp2 x y W W' := Kp2.grown h.grown0 fun _ e => by cases e
theorem Kp2.cell {x y : Nat} {W W' : World} (h : Kp2 x y W W') {k i : Nat} {u : Value} (a : k ≠ x) (b : k ≠ y) (e : W.cell? ⟨k, i, none⟩ = some u) : W'.cell? ⟨k, i, none⟩ = some u := by
  unfold World.cell? at *
  simp only at *
  cases ho : W.heap[k]? with
  | none => rw [ho] at e; cases e
  | some o =>
    cases o with
    | cells c t fr => rw [h.keep k c t fr a b ho]; rw [ho] at e; exact e
    | _ => rw [ho] at e; cases e
theorem Kp2.boxed {x y : Nat} {W W' : World} (h : Kp2 x y W W') {k : Nat} {t : TypeId} {v : Value} (a : k ≠ x) (b : k ≠ y) (e : Boxed W k t v) : Boxed W' k t v := h.keep k _ _ _ a b e
theorem Rd.kp2 {α : Type} {enc : α → List Value} {k : Nat} {x y : Nat} {W W' : World} {A : Option Addr} {l : List α} (h : Rd enc k W W.heap.size A l) (hk : Kp2 x y W W') (hne : l ≠ [] → ∀ b off, A = some ⟨b, off, none⟩ → b ≠ x ∧ b ≠ y) : Rd enc k W' W'.heap.size A l := fun hl => by
  obtain ⟨b, off, hA, hb, hc⟩ := h hl
  exact ⟨b, off, hA, Nat.lt_of_lt_of_le hb hk.size, fun j hj i u hu => hk.cell (hne hl b off hA).1 (hne hl b off hA).2 (hc j hj i u hu)⟩
/-- A row of ints lies in no box of a slice. -/
theorem Rd.not_box {α : Type} {enc : α → List Value} {k : Nat} {W : World} {A : Option Addr} {l : List α} {x : Nat} {t : TypeId} {v : Value} (h : Rd enc k W W.heap.size A l) (he : ∀ z, ∃ n, (enc z)[0]? = some (.int .i64 n)) (hx : Boxed W x t v) (hv : ∀ k n, v ≠ .int k n) : l ≠ [] → ∀ b off, A = some ⟨b, off, none⟩ → b ≠ x := fun hl b off hA hb => by
  obtain ⟨b', off', hA', hb', hc⟩ := h hl
  rw [hA] at hA'; cases hA'
  subst hb
  have hl0 : 0 < l.length := List.length_pos_iff.2 hl
  obtain ⟨n, hn⟩ := he l[0]
  have := hc 0 hl0 0 _ hn
  have hx' : W.heap[b]? = some (.cells #[v] t (0, 0)) := hx
  simp only [World.cell?, hx'] at this
  cases off with
  | zero => simp at this; exact hv _ _ this
  | succ m => simp at this

/-- What a round is handed: a slice (its address, its room) and the spans in it. -/
abbrev Dy : Type := Option Addr × Nat × List Sp.S
def Dy.enc (z : Dy) : Array Value := #[.slice z.1 z.2.2.length z.2.1]
def Dy.lies (n₀ K : Nat) (z : Dy) (W : World) : Prop := W.ownsRow n₀ 42 2 (.slice z.1 z.2.2.length z.2.1) z.2.2.length (flat encS z.2.2) ∧ z.2.2.length ≤ K

set_option maxRecDepth 100000 in
set_option maxHeartbeats 2000000 in
theorem days1_in (n : Nat) (hn : 1 ≤ n) (l Bs x y M K n₀ : Nat) (A : Option Addr) (cap : Nat) (L : List Sp.S) (D : List Int) (pt : Int → List Sp.S) (hK : ∀ d, (pt d).length ≤ K) (J : List Dy → World → Prop) (W : World) (hJa : AbidesFrom W.heap.size J) (hDl : D.length ≤ 371) (hM : D.length ≤ M)
    (hY : ∀ pre (z : Dy) W1, J pre W1 → z.lies n₀ K W1 → pre.length < M → YieldAt Fence.wide (n - 1) Try.prog l z.enc W1 fun e W' => e = .returned (.bool true) ∧ J (pre ++ [z]) W' ∧ Kp2 x y W1 W')
    (vx vy : Value) (hx : Boxed W x 40 vx) (hy : Boxed W y 40 vy) (hvx : ∀ k n, vx ≠ .int k n) (hvy : ∀ k n, vy ≠ .int k n)
    (hB : Boxed W Bs 40 (.slice A L.length cap)) (hb1 : Bs ≠ x) (hb2 : Bs ≠ y) (hR : Rs W A L) (hn0 : n₀ ≤ W.heap.size) (h0 : J [] W)
    (kD : Calls Try.prog 31 #[.slice A L.length cap] W fun e w' => ∃ A' cap', e = .returned (.slice A' D.length cap') ∧ Rn w' A' D ∧ Ext W w')
    (kP : ∀ w, Rs w A L → ∀ d, Calls Try.prog 32 #[.slice A L.length cap, .int .i64 d] w (RetS w (pt d))) :
    CallsIn Fence.wide n Try.prog 126 #[.func (.yield l) #[] #[], .pointer (some ⟨Bs, 0, none⟩)] W fun e W' => (∃ v, e = .returned v) ∧ ∃ xs : List Dy, xs.map (·.2.2) = D.map pt ∧ J xs W' := by
  have HY := Lib.hid hY; have HJ := Lib.hid hJa; clear hY hJa
  have hAx : Hid (L ≠ [] → ∀ b off, A = some ⟨b, off, none⟩ → b ≠ x ∧ b ≠ y) := fun hl b off hA => ⟨hR.not_box (fun z => ⟨z.1, rfl⟩) hx hvx hl b off hA, hR.not_box (fun z => ⟨z.1, rfl⟩) hy hvy hl b off hA⟩
  have cB := hB.cell
  have HB := Lib.hid hB; have HR := Lib.hid hR; have Hx := Lib.hid hx; have Hy := Lib.hid hy; have H0 := Lib.hid h0; have KD := Lib.hid kD; have HVX := Lib.hid hvx; have HVY := Lib.hid hvy; have KP := Lib.hid kP
  clear hB hR hx hy h0 kD hvx hvy kP
  refine callsIn_of_wp Try.func126 rfl trivial ?_ rfl
  simp only [Try.ntmps126, List.size_toArray, List.length_cons, List.length_nil, Nat.reduceAdd, Nat.reduceSub, Array.replicate_succ, Array.replicate_zero, List.push_toArray, List.append_toArray, List.nil_append, List.cons_append]
  gi_wp2_with (refine ⟨trivial, ?_⟩; gi_at_call 31; refine (callsIn_wide.2 KD.out).mono ?_; rintro e w1 ⟨A1, c1, rfl, r1, x1⟩)
  have hD1 : Hid (D ≠ [] → ∀ b off, A1 = some ⟨b, off, none⟩ → b ≠ x ∧ b ≠ y) := fun hl b off hA => ⟨r1.not_box (fun z => ⟨z, rfl⟩) ((x1.block x Hx.out.lt).trans Hx.out) HVX.out hl b off hA, r1.not_box (fun z => ⟨z, rfl⟩) ((x1.block y Hy.out.lt).trans Hy.out) HVY.out hl b off hA⟩
  have HB1 : Hid (Boxed w1 Bs 40 (.slice A L.length cap)) := (x1.block Bs HB.out.lt).trans HB.out
  have HR1 := Lib.hid (HR.out.ext x1)
  have HJ1 : Hid (J [] w1) := HJ.out _ _ _ none H0.out x1.grown0 (fun r e => by cases e)
  have hs1 : n₀ ≤ w1.heap.size := Nat.le_trans hn0 x1.size
  have hs2 : W.heap.size ≤ w1.heap.size := x1.size
  have HN1 := Lib.hid r1
  clear r1 x1 cB HB HR H0 KD Hx Hy
  gi_loopw [8] (fun i wr => ∃ (k : Nat) (pre : List Dy), k ≤ D.length ∧ i = .int .i64 k ∧ Hid (pre.map (·.2.2) = (D.take k).map pt) ∧ Hid (J pre wr) ∧ Hid (Kp2 x y w1 wr)) (fun i _ => D.length - (intOf i).toNat)
  case atStart => exact ⟨0, [], Nat.zero_le _, rfl, (rfl : _ = _), HJ1.out, Kp2.refl _ _ _⟩
  case round =>
    obtain ⟨k, pre, hk, rfl, hpre, HJr, HK⟩ := hrel
    have HBr := Lib.hid (HK.out.boxed hb1 hb2 HB1.out)
    have HRr : Hid (Rs wr A L) := Rd.kp2 HR1.out HK.out hAx.out
    have HNr : Hid (Rn wr A1 D) := Rd.kp2 HN1.out HK.out hD1.out
    have hsr : n₀ ≤ wr.heap.size := Nat.le_trans hs1 HK.out.size
    have hsr2 : W.heap.size ≤ wr.heap.size := Nat.le_trans hs2 HK.out.size
    by_cases hlt : k < D.length
    · obtain ⟨b, off, d, rfl, hbB, hx, c0⟩ := Rd.atN HNr.out (Below.refl _ _) hlt
      have q3 : (k : Int) < (D.length : Int) := by omega
      have q4 : (0 : Int) ≤ (k : Int) := by omega
      have cB := HBr.out.cell
      have hpl : Hid (pre.length < M) := by
        have := congrArg List.length hpre.out
        simp at this
        show pre.length < M
        omega
      have hpre' : ∀ z : Dy, z.2.2 = pt d → Hid ((pre ++ [z]).map (·.2.2) = (D.take (k + 1)).map pt) := fun z hz => by
        show _ = _
        rw [List.map_append, hpre.out, take_snoc hx.out, List.map_append, List.map_singleton, List.map_singleton, hz]
      have HPP := Lib.hid hpre'; clear hpre'
      gi_wp2_with (refine ⟨trivial, ?_⟩; gi_at_call 32; refine (callsIn_wide.2 (KP.out _ HRr.out d)).mono ?_; rintro e w3 ⟨A3, c3, rfl, r3, x3, o3⟩; have HO3 := Lib.hid o3; have HX3 := Lib.hid x3; clear r3 x3 o3; obtain ⟨fn, tmps, assign, body, hy, hRd⟩ := HY.out pre (A3, c3, pt d) w3 (HJ.out _ _ _ none HJr.out HX3.out.grown0 (fun r e => by cases e)) ⟨own_base HO3.out hsr, hK d⟩ hpl.out; have HRd := Lib.hid hRd; clear hRd; simp only [Dy.enc] at hy)
      have hpre2 := HPP.out (A3, c3, pt d) rfl
      have HKx := Lib.hid (HK.out.trans (Kp2.ext (x := x) (y := y) HX3.out))
      clear HPP HK HO3 hD1 HN1 HNr c0 cB hy
      refine HRd.out.mono ?_
      rintro e W3 ⟨rfl, hJ3, hk3⟩
      have HJ3 := Lib.hid hJ3; have H3 := Lib.hid (HKx.out.trans hk3); clear hJ3 hk3
      gi_wp2
      go_roundw
      case rel => exact ⟨k + 1, _, by omega, by go_num, hpre2, HJ3, H3⟩
      case measure => simp [intOf]; omega
    · obtain rfl : k = D.length := by omega
      rw [List.take_length] at hpre
      gi_wp2
      go_end0
      exact ⟨⟨_, rfl⟩, pre, hpre.out, HJr.out⟩
end Go.Proofs.Ytnhmibfgaoealaa
