/-
  A range over a function whose rounds are handed what lies in memory; and a region that draws its order, within a round.
  A region that draws its order, where what the loads read holds until one operation comes up, behind which they all lie.
  over.days: each day's part, one by one, lying in memory.
  over.Of: what its loop holds.
  over.Of: its walk.
-/
import Derived.RangeFuncNested
import Derived.RangeFuncBound
import Derived.RangeFuncCalls
import Derived.RangeFuncLeaves
import Derived.RangeFuncBox
import Derived.OrdersIn
import Derived.TacticsIn
import Derived.Test.YtnhmibfgaoealaaGreatLy
import Derived.Shelf.Abstract
import Derived.Shelf.RegionOpen
import Derived.WalkKit
import Derived.OwnWalkIn
import Derived.TacticsInMore
import Derived.LoopNIn
import Derived.LoopIn
import Derived.Maps.AppendAt
import Derived.Test.YtnhmibfgaoealaaGreatCk0
import Derived.Test.YtnhmibfgaoealaaGreatMm
import Derived.Test.YtnhmibfgaoealaaGreatKh
import Derived.Test.YtnhmibfgaoealaaGreatDe
import Derived.Test.YtnhmibfgaoealaaGreatKx
namespace Go.Proofs.YtnhmibfgaoealaaGreat
open Go.RowKit
set_option linter.unusedVariables false

/-- One operation, outside a round and in one: the same, if it defers nothing and lets nothing out. -/
theorem op_round {P : Program} {o : Oper} {a : Act} {w : World} {K K' : Act → World → Prop} {Q Q' : Exit → Act → World → Prop} (l n : Nat) (hd : ∀ c, o.op ≠ .defer c) (hQ : ∀ c a w, Q (.panic c) a w → False) (hQ2 : ∀ a w, Q .outgrown a w → False)
    (hK : ∀ a w, K a w → K' a w) (h : o.wp P a w K Q) : o.wpIn (Fence.wide.inRound l) n P a w K' Q' := by
  unfold Oper.wp at h
  refine ⟨fun _ _ => trivial, ?_⟩
  rw [show (Fence.wide.inRound l).round = some l from rfl, Oper.semAt_some l _ _ hd]
  generalize (execOp a.eval o).run P w = r at *
  cases r with
  | ok x w' =>
    cases x <;> first | exact hK _ _ h | exact (h : False).elim | skip
    · refine ⟨fun h => (by cases h), CallsIn.inRound (F := Fence.wide) l (callsIn_wide.2 (Calls.mono h ?_))⟩
      intro e w'' he
      cases e with
      | returned v => exact hK _ _ he
      | panicked c => exact (hQ _ _ _ he).elim
      | outgrown => obtain ⟨a0, w0, hq⟩ := he; exact (hQ2 _ _ hq).elim
    · refine ⟨fun h => (by cases h), fun c cs _ => ?_⟩
      obtain ⟨v, w'', r, s⟩ := h c cs
      exact ⟨v, w'', hK _ _ r, stepsIn_wide.2 s⟩
  | halt x w' =>
    cases x <;> first | exact (hQ _ _ _ h).elim | exact (h : False).elim
def NoDefer (ops : Array Oper) : Bool := ops.all fun o => match o.op with | .defer _ => false | _ => true
theorem NoDefer.at_ {ops : Array Oper} (h : NoDefer ops = true) {i : Nat} {o : Oper} (hi : ops[i]? = some o) (c : Call) : o.op ≠ .defer c := fun e => by
  have := Array.all_eq_true_iff_forall_mem.1 h o (Array.mem_of_getElem? hi)
  rw [e] at this
  cases this
/-- Whatever order is drawn: outside a round and in one. -/
theorem any_round {P : Program} {ops : Array Oper} {md : Region.Mode} {Q Q' : Exit → Act → World → Prop} (l n : Nat) (hd : NoDefer ops = true) (hQ : ∀ c a w, Q (.panic c) a w → False) (hQ2 : ∀ a w, Q .outgrown a w → False) (hQ3 : ∀ a w, Q .normal a w → Q' .normal a w) :
    ∀ (fuel : Nat) (listed : Array Bool) (a : Act) (w : World), wpAny P md ops Q fuel listed a w → wpAnyIn (Fence.wide.inRound l) n P md ops Q' fuel listed a w
  | 0, _, _, _, h => ⟨h.1, hQ3 _ _ h.2⟩
  | fuel + 1, listed, a, w, h => ⟨fun h0 => hQ3 _ _ (h.1 h0), fun i hi => by
      have h1 := h.2 i hi
      unfold wpOp at h1
      unfold wpOpIn
      cases ho : ops[i]? with
      | none => rw [ho] at h1; exact any_round l n hd hQ hQ2 hQ3 fuel _ _ _ h1
      | some o =>
        rw [ho] at h1
        simp only at h1 ⊢
        split
        · rename_i hw
          rw [if_pos hw] at h1
          rcases h1 with h1 | ⟨_, a0, w0, h1⟩
          · exact op_round l n (NoDefer.at_ hd ho) hQ hQ2 (fun a w => any_round l n hd hQ hQ2 hQ3 fuel _ a w) h1
          · exact (hQ2 _ _ h1).elim
        · rename_i hw
          rw [if_neg hw] at h1
          exact ⟨fun _ _ => trivial, any_round l n hd hQ hQ2 hQ3 fuel _ _ _ h1⟩⟩
/-- A region that draws its order, within a round: by the moves of a walk outside one. -/
theorem region_round {P : Program} {id : Nat} {ops : Array Oper} {Q : Act → World → Prop} {Q' : Exit → Act → World → Prop} {S : World → Prop} {a : Act} {w : World} (l n k : Nat) (hk : ops.size = k) (hm : P.follows .mixedOrders = true) (hd : NoDefer ops = true) (hQ : ∀ a w, Q a w → Q' .normal a w)
    (h : wpAnyH P .any ops (NoPanic fun e a w => e = .normal ∧ Q a w) S k (Array.replicate k false) a { w with drawn := w.drawn + 1 }) : (Code.region id ops true).wpIn (Fence.wide.inRound l) n P Q' a w := by
  subst hk
  exact wpIn_region_any hm (any_round l n hd (fun _ _ _ h => h) (fun _ _ h => by cases h.1) (fun a w h => hQ a w h.2) _ _ _ _ (wpAny_of_held _ _ _ _ h))

/-- The statement 'for x := range f { .. }' whose body is never left: the rounds are told, by M, what lies in memory at what they are handed. -/
theorem wp_range_mem {α : Type} {P : Program} {n : Nat} {g : Operand} {ps : Array Tmp} {assign body : Code} {Q : Exit → Act → World → Prop} {a : Act} {w : World} (h1 : 1 ≤ n)
    {gf : Nat} {lb : Array Value} (hg : a.eval g = .func (.func gf) #[] lb) (eg : ∀ args w, (callFunc gf args).run P w = .ok (.enter gf args) w)
    (encs : α → Array Value) (hps : ∀ x, (encs x).size = ps.size) (M : List α → α → World → Prop) (Kp : World → World → Prop) (S : List α → Prop) (N : Nat)
    (hseq : ∀ (l : Nat) (J : List α → World → Prop) (W : World), Below w.heap.size w W → AbidesFrom W.heap.size J →
      (∀ pre x W1, J pre W1 → M pre x W1 → pre.length < N → YieldAt Fence.wide (n - 1 - 1) P l (encs x) W1 fun e W' => e = .returned (.bool true) ∧ J (pre ++ [x]) W' ∧ Kp W1 W') → J [] W →
      CallsIn Fence.wide (n - 1) P gf (#[.func (.yield l) #[] #[]] ++ lb) W fun e W' => (∃ v, e = .returned v) ∧ ∃ xs, S xs ∧ J xs W')
    (hKt : ∀ {A B C : World}, Kp A B → Kp B C → Kp A C) (hKb : ∀ (W : World) (l : Nat) (o o' : Obj), w.heap.size ≤ l → W.heap[l]? = some o → o.isCells = false → Kp W (W.putObj l o'))
    (I : List α → World → Prop) (hI : OwnFrom w.heap.size I) (h0 : I [] w) (Ax : List α → α → Act → World → Prop) (hAx : ∀ pre x a', OwnFrom w.heap.size (fun (_ : Unit) W => Ax pre x a' W))
    (hassign : ∀ (l : Nat) (pre : List α) (x : α) (W : World) (K : Act → World → Prop), I pre W → M pre x W → (∀ a' W', KeepsFrom w.heap.size W W' → Kp W W' → I pre W' → Ax pre x a' W' → K a' W') →
      assign.wpIn (Fence.wide.inRound l) (n - 1 - 1) P (Exit.then K (fun _ _ _ => False)) { tmps := (ps.zip (encs x)).foldl (fun t (p, v) => t.setIfInBounds p v) a.tmps, defers := [] } W)
    (hbody : ∀ (l : Nat) (pre : List α) (x : α) (a' : Act) (W : World), w.heap.size ≤ l → l < W.heap.size → I pre W → Ax pre x a' W → pre.length < N →
      body.wpIn (Fence.wide.inRound l) (n - 1 - 1) P (fun e _ W' => e = .normal ∧ KeepsFrom w.heap.size W W' ∧ Kp W W' ∧ I (pre ++ [x]) W') a' W)
    (hdone : ∀ (D : Nat) (xs : List α) (W : World), w.heap.size ≤ D → S xs → I xs W → W.heap[D]? = some (.deferred (some [])) → Q .normal { a with defers := { target := .collected D, args := #[] } :: a.defers } W) :
    (Code.rangeFunc g ps assign body).wpIn Fence.wide n P Q a w := by
  refine wpIn_rangeFunc fun fn _ => ?_
  -- the two blocks of book-keeping: D holds the rounds' deferred calls, D + 1 the loop's record
  generalize hD : w.heap.size = D at *
  let rec_ : LoopState → Option Code → Loop := fun st pe => { state := st, pending := pe, fn, tmps := a.tmps, params := ps, assign, body, defers := D }
  let Bk : LoopState → World → Prop := fun st W => W.heap[D + 1]? = some (.loop (rec_ st none)) ∧ W.heap[D]? = some (.deferred (some []))
  have kept : ∀ {st : LoopState} {W W' : World}, Bk st W → KeepsFrom D W W' → Bk st W' := fun h k => ⟨k.same _ _ (by omega) h.1 rfl, k.same _ _ (Nat.le_refl _) h.2 rfl⟩
  have turn : ∀ {st st' : LoopState} {W : World}, Bk st W → Bk st' (W.putObj (D + 1) (.loop (rec_ st' none))) := fun h =>
    ⟨World.putObj_heap_same (Array.getElem?_eq_some_iff.1 h.1).1, (World.putObj_heap_other (by omega)).trans h.2⟩
  have abide : ∀ {W : World} {row : Option Nat} {B : Nat}, (∀ r, row = some r → B ≤ r ∧ ∃ o : Obj, W.heap[r]? = some o ∧ o.isWalk = true) → D ≤ B → ∀ r, row = some r → D ≤ r ∧ ∃ o : Obj, W.heap[r]? = some o ∧ o.isCells = false :=
    fun hr hB r e => by obtain ⟨h1, o, h2, h3⟩ := hr r e; exact ⟨by omega, o, h2, Obj.not_cells_of_walk h3⟩
  let W0 := (w.alloc (.deferred (some []))).alloc (.loop (rec_ .ready none))
  have hW0 : Bk .ready W0 := by
    have e1 := World.alloc_heap_new (w.alloc (.deferred (some []))) (.loop (rec_ .ready none))
    have e2 := (Below.heap_alloc (w.alloc (.deferred (some []))) (.loop (rec_ .ready none)) w.heap.size (by simp)).trans (World.alloc_heap_new w (.deferred (some [])))
    rw [World.size_alloc, hD] at e1
    rw [hD] at e2
    exact ⟨e1, e2⟩
  have hs0 : W0.heap.size = D + 2 := by show ((w.alloc _).alloc _).heap.size = _; simp; omega
  have hI0 : I [] W0 := hI.alloc _ (hI.alloc _ h0)
  have hb0 : Below D w W0 := ((Below.refl D w).alloc (by omega) _).alloc (by simp; omega) _
  refine ⟨D + 1, [{ target := .collected D, args := #[] }], W0, { target := .fn (.func gf) lb, args := #[.func (.yield (D + 1)) #[] #[]] }, W0, gf, #[.func (.yield (D + 1)) #[] #[]] ++ lb, W0, ?_, ?_, fun _ _ => trivial, ?_, fun h => (by cases h), ?_⟩
  · have := run_enterLoop_outer (P := P) (w := w) fn a.tmps ps assign body
    rw [hD] at this
    exact this
  · simp only [resolve, hg]
    simp [go_sem]
  · simp [invoke, go_sem, eg]
  refine (hseq (D + 1) (fun pre W => I pre W ∧ Bk .ready W) W0 hb0 (fun s A B row hs hg' hr => ⟨hI s A B row hs.1 hg' (abide hr (by omega)), ?_⟩) ?_ ⟨hI0, hW0⟩).mono ?_
  · exact ⟨(grownBy_keeps hg' (fun r e => (hr r e).2) hs.2.1 rfl).trans hs.2.1, (grownBy_keeps hg' (fun r e => (hr r e).2) hs.2.2 rfl).trans hs.2.2⟩
  · rintro pre x W ⟨hi, hb⟩ hm hlen
    refine ⟨fn, _, assign, body, run_yield hb.1 (hps x), roundIn_of_wpIn trivial (hassign _ pre x W _ hi hm fun a' W1 k1 p1 i1 x1 => ?_)⟩
    have b1 := kept hb k1
    have lt1 : D + 1 < W1.heap.size := (Array.getElem?_eq_some_iff.1 b1.1).1
    have b2 : Bk .busy (W1.putObj (D + 1) (.loop (rec_ .busy none))) := turn b1
    refine ⟨_, run_beginRound b1.1 rfl, wpIn_mono (hbody _ pre x a' _ (by omega) (by simpa using lt1) (hI.putObj _ i1 (by omega) b1.1 rfl) ((hAx pre x a').putObj (s := ()) _ x1 (by omega) b1.1 rfl) hlen) ?_⟩
    rintro e a3 W3 ⟨rfl, k3, p3, i3⟩
    have b3 := kept b2 k3
    exact ⟨_, _, run_endRound none b3.1, rfl, ⟨hI.putObj _ i3 (by omega) b3.1 rfl, turn b3⟩, hKt p1 (hKt (hKt (hKb _ _ _ _ (by omega) b1.1 rfl) p3) (hKb _ _ _ _ (by omega) b3.1 rfl))⟩
  · rintro e W2 ⟨⟨v, rfl⟩, xs, hS, hi, hb⟩
    exact ⟨none, _, run_endLoop hb.1 (by intro h; cases h), hdone D xs _ (Nat.le_refl _) hS (hI.putObj _ hi (by omega) hb.1 rfl) ((World.putObj_heap_other (by omega)).trans hb.2)⟩
end Go.Proofs.YtnhmibfgaoealaaGreat
namespace Go.Proofs.YtnhmibfgaoealaaGreat
open Go.RowKit BigFrame

section
variable {P : Program} {ops : Array Oper} {Q : Exit → Act → World → Prop} {T : World → Prop} {z : Nat}

/-- Whatever order is drawn from here on, and T holds behind every operation that comes up ahead of number z. -/
def wpUntil (P : Program) (ops : Array Oper) (Q : Exit → Act → World → Prop) (T : World → Prop) (z : Nat) : Nat → Array Bool → Act → World → Prop
  | 0, listed, a, w => Region.ready .any ops listed = [] ∧ Q .normal a w
  | fuel + 1, listed, a, w =>
    (Region.ready .any ops listed = [] → Q .normal a w) ∧
    ∀ i ∈ Region.ready .any ops listed, wpOp P ops Q i (fun a' w' => ((listed.setIfInBounds i true).getD z true = false → T w') ∧ wpUntil P ops Q T z fuel (listed.setIfInBounds i true) a' w') a w

theorem wpAny_of_until : ∀ (fuel : Nat) (listed : Array Bool) (a : Act) (w : World), wpUntil P ops Q T z fuel listed a w → wpAny P .any ops Q fuel listed a w
  | 0, _, _, _, h => h
  | fuel + 1, _, _, _, h => ⟨h.1, fun i hi => wpOp_mono (fun a' w' h' => wpAny_of_until fuel _ a' w' h'.2) (h.2 i hi)⟩

/-- Whatever has come up, what it waits for has come up. -/
def Down (ops : Array Oper) (listed : Array Bool) : Prop := ∀ (k : Nat) (o : Oper), ops[k]? = some o → listed.getD k true = true → ∀ e ∈ o.after, Region.binds .any e = true → listed.getD e.on true = true
theorem Down.start (n : Nat) (hn : ops.size = n) : Down ops (Array.replicate n false) := fun k o ho hk => by
  have hlt : k < ops.size := (Array.getElem?_eq_some_iff.1 ho).1
  simp [hn ▸ hlt] at hk
theorem Down.step {listed : Array Bool} {j : Nat} (h : Down ops listed) (hj : j ∈ Region.ready .any ops listed) : Down ops (listed.setIfInBounds j true) := fun k o ho hk e he hb => by
  have up : ∀ {x : Nat}, listed.getD x true = true → (listed.setIfInBounds j true).getD x true = true := fun {x} hx => by
    by_cases hxj : j = x
    · subst hxj
      simp [Array.getElem?_setIfInBounds]
      split <;> simp
    · rw [getD_set_ne true hxj]; exact hx
  by_cases hkj : k = j
  · subst hkj
    obtain ⟨_, oj, hoj, hall⟩ := mem_ready.1 hj
    rw [ho] at hoj; cases hoj
    have h1 := hall e he hb
    refine up ?_
    rcases Nat.lt_or_ge e.on listed.size with h' | h'
    · simpa [h'] using h1
    · simp [Array.getElem?_eq_none h'] at h1
  · rw [getD_set_ne true (Ne.symm hkj)] at hk
    exact up (h k o ho hk e he hb)

/-- Each number of the list waits for the one ahead of it. -/
def chain (ops : Array Oper) : Nat → List Nat → Bool
  | _, [] => true
  | x, y :: r => (match ops[y]? with | some o => o.after.any (fun e => Region.binds .any e && e.on == x) | none => false) && chain ops y r
theorem chain_spec : ∀ (l : List Nat) (x : Nat) (listed : Array Bool), Down ops listed → chain ops x l = true → listed.getD x true = false → listed.getD (l.getLastD x) true = false
  | [], _, _, _, _, h => h
  | y :: r, x, listed, hd, hc, h => by
    simp only [chain, Bool.and_eq_true] at hc
    have hy : listed.getD y true = false := by
      cases hl : listed.getD y true with
      | false => rfl
      | true =>
        cases ho : ops[y]? with
        | none => rw [ho] at hc; exact absurd hc.1 (by simp)
        | some o =>
          rw [ho] at hc
          obtain ⟨e, he, hb⟩ := Array.any_eq_true'.1 hc.1
          simp only [Bool.and_eq_true, beq_iff_eq] at hb
          have := hd y o ho hl e he hb.1
          rw [hb.2, h] at this
          cases this
    have := chain_spec r y listed hd hc.2 hy
    rwa [show (y :: r).getLastD x = r.getLastD y by cases r <;> rfl]

theorem until_first {i : Nat} {oi : Oper} {v : Value} (hi : ops[i]? = some oi) (hsel : ∀ (j : Nat) (o : Oper) cs b, ops[j]? = some o → o.op ≠ .select cs b)
    (hQ : ∀ c a w, Q (.panic c) (a.put oi.dst v) w → Q (.panic c) a w) (hiz : i ≠ z) (hz : ∀ listed, Down ops listed → listed.getD i true = false → listed.getD z true = false) :
    ∀ (fuel : Nat) (listed : Array Bool) (a : Act) (w : World), Down ops listed →
      (∀ j oj, ops[j]? = some oj → j ≠ i → listed.getD j true = false → (∀ e ∈ oj.after, Region.binds .any e = true → e.on ≠ i) → oi.apart ops oj = true) →
      i ∈ Region.ready .any ops listed → YieldsIf P ops T oi v a → T w →
      wpUntil P ops Q T z fuel (listed.setIfInBounds i true) (a.put oi.dst v) w → wpUntil P ops Q T z (fuel + 1) listed a w := by
  intro fuel
  induction fuel with
  | zero =>
    intro listed a w hdn hfree hr hy hS H
    refine ⟨fun h => (by rw [h] at hr; cases hr), fun j hj => ?_⟩
    by_cases hji : j = i
    · subst hji; exact hy.wpOp hi hS ⟨fun _ => hS, H⟩
    · have := ready_mono hj hji
      rw [H.1] at this
      cases this
  | succ fuel ih =>
    intro listed a w hdn hfree hr hy hS H
    refine ⟨fun h => (by rw [h] at hr; cases hr), fun j hj => ?_⟩
    by_cases hji : j = i
    · subst hji; exact hy.wpOp hi hS ⟨fun _ => hS, H⟩
    · have h1 := H.2 j (ready_mono hj hji)
      obtain ⟨hjun, oj, hoj, hall⟩ := mem_ready.1 hj
      have hnot : ∀ e ∈ oj.after, Region.binds .any e = true → e.on ≠ i := fun e he hb heq => by
        have h1 := hall e he hb
        have h0 := (mem_ready.1 hr).1
        rw [heq] at h1
        rcases Nat.lt_or_ge i listed.size with h' | h'
        · simp [h'] at h0 h1; rw [h0] at h1; cases h1
        · simp [Array.getElem?_eq_none h'] at h1
      have h2 := wpOp_putIf hoj (hfree j oj hoj hji hjun hnot) (fun cs b => hsel i oi cs b hi) (fun cs b => hsel j oj cs b hoj) hQ hy h1
      have hfree' : ∀ k ok, ops[k]? = some ok → k ≠ i → (listed.setIfInBounds j true).getD k true = false →
          (∀ e ∈ ok.after, Region.binds .any e = true → e.on ≠ i) → oi.apart ops ok = true := fun k ok hk hki hun hno => by
        refine hfree k ok hk hki ?_ hno
        by_cases hjk : j = k
        · subst hjk; exact hjun
        · rw [getD_set_ne true hjk] at hun; exact hun
      have hdn' := hdn.step hj
      have hin : (listed.setIfInBounds j true).getD i true = false := by rw [getD_set_ne true hji]; exact (mem_ready.1 hr).1
      have hzn := hz _ hdn' hin
      refine wpOp_mono (fun a' w' h3 => ?_) h2
      have hT : T w' := h3.2.1 (by rw [Array.setIfInBounds_comm _ _ (Ne.symm hji), getD_set_ne true hiz]; exact hzn)
      refine ⟨fun _ => hT, ih (listed.setIfInBounds j true) a' w' hdn' hfree' (ready_mono hr (Ne.symm hji)) h3.1 hT ?_⟩
      rw [Array.setIfInBounds_comm _ _ hji]
      exact h3.2.2

/-! The moves: the state of a walk keeps Down with it. -/
def Un (P : Program) (ops : Array Oper) (Q : Exit → Act → World → Prop) (T : World → Prop) (z fuel : Nat) (listed : Array Bool) (a : Act) (w : World) : Prop := Down ops listed → wpUntil P ops (NoPanic Q) T z fuel listed a w
theorem un_start {id : Nat} {a : Act} {w : World} (n : Nat) (hn : ops.size = n) (hm : P.follows .mixedOrders = true)
    (h : Un P ops Q T z n (Array.replicate n false) a { w with drawn := w.drawn + 1 }) : (Code.region id ops true).wp P Q a w := by
  subst hn
  exact wp_region_noPanic (wp_region_any hm (wpAny_of_until _ _ _ _ (h (Down.start _ rfl))))
theorem un_take {i fuel : Nat} {o : Oper} {v : Value} {listed : Array Bool} {a : Act} {w : World} (l : List Nat) (hi : ops[i]? = some o) (hs : Region.noSelect ops = true) (hf : Region.free .any ops listed i = true) (hr : (Region.ready .any ops listed).contains i = true)
    (hc : chain ops i l = true) (hl : l.getLastD i = z) (hiz : i ≠ z) (hy : YieldsIf P ops T o v a) (hT : T w) (a' : Act) (ha : a.put o.dst v = a')
    (h : Un P ops Q T z fuel (listed.setIfInBounds i true) a' w) : Un P ops Q T z (fuel + 1) listed a w := fun hd => by
  have hr' : i ∈ Region.ready .any ops listed := by simpa using hr
  exact until_first hi (Region.noSelect_spec hs) (fun _ _ _ h => h) hiz (fun listed hd hi => hl ▸ chain_spec l i listed hd hc hi) fuel listed a w hd (Region.free_spec hi hf) hr' hy hT (ha ▸ h (hd.step hr'))
theorem un_move {i fuel : Nat} {o : Oper} {listed : Array Bool} {a : Act} {w : World} (l : List Nat) (hi : ops[i]? = some o) (hs : Region.noSelect ops = true) (hf : Region.free .any ops listed i = true) (hr : (Region.ready .any ops listed).contains i = true)
    (hc : chain ops i l = true) (hl : l.getLastD i = z) (hiz : i ≠ z) (x : Operand) (ho : o.op = .move x) (hw : Region.wanted o (yielded ops a.tmps) = true) (hT : T w) (a' : Act) (ha : a.put o.dst (a.eval x) = a')
    (h : Un P ops Q T z fuel (listed.setIfInBounds i true) a' w) : Un P ops Q T z (fuel + 1) listed a w :=
  un_take l hi hs hf hr hc hl hiz (.inl ⟨hw, fun w _ => run_move x ho w⟩) hT a' ha h
theorem un_assign {i fuel : Nat} {o : Oper} {listed : Array Bool} {a : Act} {w : World} (l : List Nat) (hi : ops[i]? = some o) (hs : Region.noSelect ops = true) (hf : Region.free .any ops listed i = true) (hr : (Region.ready .any ops listed).contains i = true)
    (hc : chain ops i l = true) (hl : l.getLastD i = z) (hiz : i ≠ z) (x : Operand) (ho : o.op = .assign x) (hw : Region.wanted o (yielded ops a.tmps) = true) (hT : T w) (a' : Act) (ha : a.put o.dst (a.eval x) = a')
    (h : Un P ops Q T z fuel (listed.setIfInBounds i true) a' w) : Un P ops Q T z (fuel + 1) listed a w :=
  un_take l hi hs hf hr hc hl hiz (.inl ⟨hw, fun w _ => run_assign x ho w⟩) hT a' ha h
/-- The one operation that may come up. -/
theorem un_all {i fuel : Nat} {o : Oper} {listed : Array Bool} {a : Act} {w : World} (hi : ops[i]? = some o) (hr : Region.ready .any ops listed = [i]) (hw : Region.wanted o (yielded ops a.tmps) = true)
    (h : o.wp P a w (fun a' w' => ((listed.setIfInBounds i true).getD z true = false → T w') ∧ Un P ops Q T z fuel (listed.setIfInBounds i true) a' w') (NoPanic Q)) : Un P ops Q T z (fuel + 1) listed a w := fun hd =>
  ⟨fun h0 => absurd (hr ▸ h0) (by simp), fun j hj => by
    have hj' := hj
    rw [hr] at hj; simp at hj; subst hj
    unfold wpOp
    simp only [hi, hw, if_true]
    exact .inl (Oper.wp_mono (fun a' w' h' => ⟨h'.1, h'.2 (hd.step hj')⟩) h)⟩
theorem un_done {listed : Array Bool} {a : Act} {w : World} (hr : Region.ready .any ops listed = []) (h : Q .normal a w) (fuel : Nat) : Un P ops Q T z fuel listed a w := fun _ => by
  cases fuel with
  | zero => exact ⟨hr, NoPanic.normal h⟩
  | succ n => exact ⟨fun _ => NoPanic.normal h, fun i hi => by rw [hr] at hi; cases hi⟩
end
end Go.Proofs.YtnhmibfgaoealaaGreat
namespace Go.Proofs.YtnhmibfgaoealaaGreat
open Go.RowKit
set_option linter.unusedVariables false
set_option linter.unusedSimpArgs false

attribute [local go_sem] Oper.semAt_some

/-- A region that draws its order, within a round, by the moves of Um. -/
theorem region_until_round {P : Program} {id : Nat} {ops : Array Oper} {Q : Act → World → Prop} {Q' : Exit → Act → World → Prop} {T : World → Prop} {z : Nat} {a : Act} {w : World} (l n k : Nat) (hk : ops.size = k) (hm : P.follows .mixedOrders = true) (hd : NoDefer ops = true) (hQ : ∀ a w, Q a w → Q' .normal a w)
    (h : Un P ops (fun e a w => e = .normal ∧ Q a w) T z k (Array.replicate k false) a { w with drawn := w.drawn + 1 }) : (Code.region id ops true).wpIn (Fence.wide.inRound l) n P Q' a w := by
  subst hk
  exact wpIn_region_any hm (any_round l n hd (fun _ _ _ h => h) (fun _ _ h => by cases h.1) (fun a w h => hQ a w h.2) _ _ _ _ (wpAny_of_until _ _ _ _ (h (Down.start _ rfl))))

/-- Only the cells of blocks x and y are written. -/
structure Kp2 (x y : Nat) (W W' : World) : Prop where
  size : W.heap.size ≤ W'.heap.size
  keep : ∀ k c t fr, k ≠ x → k ≠ y → W.heap[k]? = some (.cells c t fr) → W'.heap[k]? = some (.cells c t fr)
theorem Kp2.refl (x y : Nat) (W : World) : Kp2 x y W W := ⟨Nat.le_refl _, fun _ _ _ _ _ _ h => h⟩
theorem Kp2.trans {x y : Nat} {X Y Z : World} (h : Kp2 x y X Y) (k : Kp2 x y Y Z) : Kp2 x y X Z :=
  ⟨Nat.le_trans h.size k.size, fun j c t fr a b e => k.keep j c t fr a b (h.keep j c t fr a b e)⟩
theorem Kp2.grown {x y : Nat} {W W' : World} {row : Option Nat} (h : W.grownBy W' row) (hr : ∀ r, row = some r → r = x ∨ r = y) : Kp2 x y W W' :=
  ⟨h.size, fun k c t fr a b e => (h.block k (Array.getElem?_eq_some_iff.1 e).1 (fun e' => (hr k e'.symm).elim a b)).trans e⟩
theorem Kp2.putObj {x y : Nat} (W : World) (l : Nat) (o o' : Obj) (hW : W.heap[l]? = some o) (ho : o.isCells = false) : Kp2 x y W (W.putObj l o') :=
  ⟨(grownBy_putObj' W l o').size, fun k c t fr _ _ e => ((grownBy_putObj' W l o').block k (Array.getElem?_eq_some_iff.1 e).1 (fun e' => by cases e'; rw [hW] at e; cases e; cases ho)).trans e⟩
theorem Ext.grown0 {w w' : World} (h : Ext w w') : w.grownBy w' none := ⟨h.os, h.tape, h.output, h.size, fun k hk _ => h.block k hk⟩
theorem Kp2.ext {x y : Nat} {W W' : World} (h : Ext W W') : Kp2 x y W W' := Kp2.grown h.grown0 fun _ e => by cases e
theorem Kp2.cell {x y : Nat} {W W' : World} (h : Kp2 x y W W') {k i : Nat} {u : Value} (a : k ≠ x) (b : k ≠ y) (e : W.cell? ⟨k, i, none⟩ = some u) : W'.cell? ⟨k, i, none⟩ = some u := by
  unfold World.cell? at *
  simp only at *
  cases ho : W.heap[k]? with
  | none => rw [ho] at e; cases e
  | some o =>
    cases o with
    | cells c t fr => rw [h.keep k c t fr a b ho]; rw [ho] at e; exact e
    | _ => rw [ho] at e; cases e
theorem Kp2.boxed {x y : Nat} {W W' : World} (h : Kp2 x y W W') {k : Nat} {t : TypeId} {v : Value} (a : k ≠ x) (b : k ≠ y) (e : Boxed W k t v) : Boxed W' k t v := h.keep k _ _ _ a b e
theorem Rd.kp2 {α : Type} {enc : α → List Value} {k : Nat} {x y : Nat} {W W' : World} {A : Option Addr} {l : List α} (h : Rd enc k W W.heap.size A l) (hk : Kp2 x y W W') (hne : l ≠ [] → ∀ b off, A = some ⟨b, off, none⟩ → b ≠ x ∧ b ≠ y) : Rd enc k W' W'.heap.size A l := fun hl => by
  obtain ⟨b, off, hA, hb, hc⟩ := h hl
  exact ⟨b, off, hA, Nat.lt_of_lt_of_le hb hk.size, fun j hj i u hu => hk.cell (hne hl b off hA).1 (hne hl b off hA).2 (hc j hj i u hu)⟩
/-- A row of ints lies in no box of a slice. -/
theorem Rd.not_box {α : Type} {enc : α → List Value} {k : Nat} {W : World} {A : Option Addr} {l : List α} {x : Nat} {t : TypeId} {v : Value} (h : Rd enc k W W.heap.size A l) (he : ∀ z, ∃ n, (enc z)[0]? = some (.int .i64 n)) (hx : Boxed W x t v) (hv : ∀ k n, v ≠ .int k n) : l ≠ [] → ∀ b off, A = some ⟨b, off, none⟩ → b ≠ x := fun hl b off hA hb => by
  obtain ⟨b', off', hA', hb', hc⟩ := h hl
  rw [hA] at hA'; cases hA'
  subst hb
  have hl0 : 0 < l.length := List.length_pos_iff.2 hl
  obtain ⟨n, hn⟩ := he l[0]
  have := hc 0 hl0 0 _ hn
  have hx' : W.heap[b]? = some (.cells #[v] t (0, 0)) := hx
  simp only [World.cell?, hx'] at this
  cases off with
  | zero => simp at this; exact hv _ _ this
  | succ m => simp at this

/-- What a round is handed: a slice (its address, its room) and the spans in it. -/
abbrev Dy : Type := Option Addr × Nat × List Sp.S
def Dy.enc (z : Dy) : Array Value := #[.slice z.1 z.2.2.length z.2.1]
def Dy.lies (n₀ K : Nat) (z : Dy) (W : World) : Prop := W.ownsRow n₀ 49 2 (.slice z.1 z.2.2.length z.2.1) z.2.2.length (flat encS z.2.2) ∧ z.2.2.length ≤ K

set_option maxRecDepth 100000 in
set_option maxHeartbeats 2000000 in
theorem days1_in (n : Nat) (hn : 1 ≤ n) (l Bs x y M K n₀ : Nat) (A : Option Addr) (cap : Nat) (L : List Sp.S) (D : List Int) (pt : Int → List Sp.S) (hK : ∀ d, (pt d).length ≤ K) (J : List Dy → World → Prop) (W : World) (hJa : AbidesFrom W.heap.size J) (hDl : D.length ≤ 371) (hM : D.length ≤ M)
    (hY : ∀ pre (z : Dy) W1, J pre W1 → (z.lies n₀ K W1 ∧ ∃ d, D[pre.length]? = some d ∧ z.2.2 = pt d) → pre.length < M → YieldAt Fence.wide (n - 1) Tryz.prog l z.enc W1 fun e W' => e = .returned (.bool true) ∧ J (pre ++ [z]) W' ∧ Kp2 x y W1 W')
    (vx vy : Value) (hx : Boxed W x 34 vx) (hy : Boxed W y 34 vy) (hvx : ∀ k n, vx ≠ .int k n) (hvy : ∀ k n, vy ≠ .int k n)
    (hB : Boxed W Bs 34 (.slice A L.length cap)) (hb1 : Bs ≠ x) (hb2 : Bs ≠ y) (hR : Rs W A L) (hn0 : n₀ ≤ W.heap.size) (h0 : J [] W)
    (kD : Calls Tryz.prog 31 #[.slice A L.length cap] W fun e w' => ∃ A' cap', e = .returned (.slice A' D.length cap') ∧ Rn w' A' D ∧ Ext W w')
    (kP : ∀ w, Rs w A L → ∀ d, Calls Tryz.prog 36 #[.slice A L.length cap, .int .i64 d] w (RetS w (pt d))) :
    CallsIn Fence.wide n Tryz.prog 101 #[.func (.yield l) #[] #[], .pointer (some ⟨Bs, 0, none⟩)] W fun e W' => (∃ v, e = .returned v) ∧ ∃ xs : List Dy, xs.map (·.2.2) = D.map pt ∧ J xs W' := by
  have HY := Lib.hid hY; have HJ := Lib.hid hJa; clear hY hJa
  have hAx : Hid (L ≠ [] → ∀ b off, A = some ⟨b, off, none⟩ → b ≠ x ∧ b ≠ y) := fun hl b off hA => ⟨hR.not_box (fun z => ⟨z.1, rfl⟩) hx hvx hl b off hA, hR.not_box (fun z => ⟨z.1, rfl⟩) hy hvy hl b off hA⟩
  have cB := hB.cell
  have HB := Lib.hid hB; have HR := Lib.hid hR; have Hx := Lib.hid hx; have Hy := Lib.hid hy; have H0 := Lib.hid h0; have KD := Lib.hid kD; have HVX := Lib.hid hvx; have HVY := Lib.hid hvy; have KP := Lib.hid kP
  clear hB hR hx hy h0 kD hvx hvy kP
  refine callsIn_of_wp Tryz.func101 rfl trivial ?_ rfl
  simp only [Tryz.ntmps101, List.size_toArray, List.length_cons, List.length_nil, Nat.reduceAdd, Nat.reduceSub, Array.replicate_succ, Array.replicate_zero, List.push_toArray, List.append_toArray, List.nil_append, List.cons_append]
  gi_wp2_with (refine ⟨trivial, ?_⟩; gi_at_call 31; refine (callsIn_wide.2 KD.out).mono ?_; rintro e w1 ⟨A1, c1, rfl, r1, x1⟩)
  have hD1 : Hid (D ≠ [] → ∀ b off, A1 = some ⟨b, off, none⟩ → b ≠ x ∧ b ≠ y) := fun hl b off hA => ⟨r1.not_box (fun z => ⟨z, rfl⟩) ((x1.block x Hx.out.lt).trans Hx.out) HVX.out hl b off hA, r1.not_box (fun z => ⟨z, rfl⟩) ((x1.block y Hy.out.lt).trans Hy.out) HVY.out hl b off hA⟩
  have HB1 : Hid (Boxed w1 Bs 34 (.slice A L.length cap)) := (x1.block Bs HB.out.lt).trans HB.out
  have HR1 := Lib.hid (HR.out.ext x1)
  have HJ1 : Hid (J [] w1) := HJ.out _ _ _ none H0.out x1.grown0 (fun r e => by cases e)
  have hs1 : n₀ ≤ w1.heap.size := Nat.le_trans hn0 x1.size
  have hs2 : W.heap.size ≤ w1.heap.size := x1.size
  have HN1 := Lib.hid r1
  clear r1 x1 cB HB HR H0 KD Hx Hy
  gi_loopw [8] (fun i wr => ∃ (k : Nat) (pre : List Dy), k ≤ D.length ∧ i = .int .i64 k ∧ Hid (pre.map (·.2.2) = (D.take k).map pt) ∧ Hid (J pre wr) ∧ Hid (Kp2 x y w1 wr)) (fun i _ => D.length - (intOf i).toNat)
  case atStart => exact ⟨0, [], Nat.zero_le _, rfl, (rfl : _ = _), HJ1.out, Kp2.refl _ _ _⟩
  case round =>
    obtain ⟨k, pre, hk, rfl, hpre, HJr, HK⟩ := hrel
    have HBr := Lib.hid (HK.out.boxed hb1 hb2 HB1.out)
    have HRr : Hid (Rs wr A L) := Rd.kp2 HR1.out HK.out hAx.out
    have HNr : Hid (Rn wr A1 D) := Rd.kp2 HN1.out HK.out hD1.out
    have hsr : n₀ ≤ wr.heap.size := Nat.le_trans hs1 HK.out.size
    have hsr2 : W.heap.size ≤ wr.heap.size := Nat.le_trans hs2 HK.out.size
    by_cases hlt : k < D.length
    · obtain ⟨b, off, d, rfl, hbB, hx, c0⟩ := Rd.atN HNr.out (Below.refl _ _) hlt
      have q3 : (k : Int) < (D.length : Int) := by omega
      have q4 : (0 : Int) ≤ (k : Int) := by omega
      have cB := HBr.out.cell
      have hpk : pre.length = k := by
        have := congrArg List.length hpre.out
        simp at this
        omega
      have hpd : Hid (D[pre.length]? = some d) := by show _ = _; rw [hpk]; exact hx.out
      replace hpk := Lib.hid hpk
      have hpl : Hid (pre.length < M) := by
        have := congrArg List.length hpre.out
        simp at this
        show pre.length < M
        omega
      have hpre' : ∀ z : Dy, z.2.2 = pt d → Hid ((pre ++ [z]).map (·.2.2) = (D.take (k + 1)).map pt) := fun z hz => by
        show _ = _
        rw [List.map_append, hpre.out, take_snoc hx.out, List.map_append, List.map_singleton, List.map_singleton, hz]
      have HPP := Lib.hid hpre'; clear hpre'
      gi_wp2_with (refine ⟨trivial, ?_⟩; gi_at_call 36; refine (callsIn_wide.2 (KP.out _ HRr.out d)).mono ?_; rintro e w3 ⟨A3, c3, rfl, r3, x3, o3⟩; have HO3 := Lib.hid o3; have HX3 := Lib.hid x3; clear r3 x3 o3; obtain ⟨fn, tmps, assign, body, hy, hRd⟩ := HY.out pre (A3, c3, pt d) w3 (HJ.out _ _ _ none HJr.out HX3.out.grown0 (fun r e => by cases e)) ⟨⟨own_base HO3.out hsr, hK d⟩, d, hpd.out, rfl⟩ hpl.out; have HRd := Lib.hid hRd; clear hRd; simp only [Dy.enc] at hy)
      have hpre2 := HPP.out (A3, c3, pt d) rfl
      have HKx := Lib.hid (HK.out.trans (Kp2.ext (x := x) (y := y) HX3.out))
      clear HPP HK HO3 hD1 HN1 HNr c0 cB hy
      refine HRd.out.mono ?_
      rintro e W3 ⟨rfl, hJ3, hk3⟩
      have HJ3 := Lib.hid hJ3; have H3 := Lib.hid (HKx.out.trans hk3); clear hJ3 hk3
      gi_wp2
      go_roundw
      case rel => exact ⟨k + 1, _, by omega, by go_num, hpre2, HJ3, H3⟩
      case measure => simp [intOf]; omega
    · obtain rfl : k = D.length := by omega
      rw [List.take_length] at hpre
      gi_wp2
      go_end0
      exact ⟨⟨_, rfl⟩, pre, hpre.out, HJr.out⟩
end Go.Proofs.YtnhmibfgaoealaaGreat
namespace Go.Proofs.YtnhmibfgaoealaaGreat
open Go.RowKit BigFrame
set_option linter.unusedVariables false
set_option linter.unusedSimpArgs false

theorem days_over (a : Option Addr) (len cap : Nat) (w : World) :
    Calls Tryz.prog 68 #[.slice a len cap] w fun e w' => e = .returned (.func (.func 101) #[] #[.pointer (some ⟨w.heap.size, 0, none⟩)]) ∧ w' = w.alloc (.cells #[.slice a len cap] 34) := by
  go_enter Tryz.func68, Tryz.ntmps68
  go_wp2
  go_ret
  exact ⟨rfl, rfl⟩

theorem first_day {w : World} {B : Nat} {A : Option Addr} {l : List Sp.S} {c : Nat} (hb : Boxed w B 34 (.slice A l.length c)) (h : Rs w A l) (hl : l.length ≤ 900000) {n : Int} (hn : B64 n) :
    Calls Tryz.prog 69 #[.int .i64 n, .pointer (some ⟨B, 0, none⟩)] w (RetS w (Sp.first l n)) := by
  have cB := hb.cell
  have k := cFirst h hl hn c
  replace k := Lib.hid k
  clear hb h
  go_enter Tryz.func69, Tryz.ntmps69
  go_wp2_with fail
  refine k.out.mono ?_
  rintro e w1 ⟨A1, c1, rfl, r1, x1, o1⟩
  replace r1 := Lib.hid r1; replace o1 := Lib.hid o1
  go_wp2
  go_ret
  exact ⟨A1, c1, rfl, r1.out, x1, o1.out⟩

def catF (n : Int) (pre : List Dy) : List Sp.S := pre.flatMap fun z => Sp.first z.2.2 n
theorem catF_snoc (n : Int) (pre : List Dy) (z : Dy) : catF n (pre ++ [z]) = catF n pre ++ Sp.first z.2.2 n := by simp [catF, List.flatMap_append]
theorem catF_len {P : List Sp.S} (hP : Sp.Plain P) (n : Int) (pre : List Dy) (h : pre.map (·.2.2) = ((daysL (Sp.norm P)).take pre.length).map fun d => partS P d 86400) : (catF n pre).length ≤ P.length + 741 := by
  have e : catF n pre = ((daysL (Sp.norm P)).take pre.length).flatMap fun d => Sp.first (partS P d 86400) n := by
    have e1 : catF n pre = (pre.map (·.2.2)).flatMap fun z => Sp.first z n := by unfold catF; rw [List.flatMap_map]
    rw [e1, h, List.flatMap_map]
  rw [e]
  have h1 := parts_total hP ((days_spec P).1.sublist (List.take_sublist pre.length _)) (fun d => Sp.first (partS P d 86400) n) fun d => first_length _ _
  have h2 : ((daysL (Sp.norm P)).take pre.length).length ≤ 371 := Nat.le_trans (by rw [List.length_take]; omega) (days_len P)
  omega
def daysOf (l : List Sp.S) : List (List Sp.S) := (daysL (Sp.norm l)).map fun d => partS l d 86400
theorem catF_days {L : List Sp.S} {xs : List Dy} (h : xs.map (·.2.2) = daysOf L) (n : Int) : catF n xs = shortL L n := by
  have e : catF n xs = (xs.map (·.2.2)).flatMap fun z => Sp.first z n := by unfold catF; rw [List.flatMap_map]
  rw [e, h]
  unfold daysOf shortL
  rw [List.flatMap_map]

theorem ownFrom_kp2 {β : Type} (B x y : Nat) (w : World) : OwnFrom B (fun (_ : β) W => Kp2 x y w W) := fun _ W W' row hs hg hr =>
  hs.trans ⟨hg.size, fun k c t fr a b e => (hg.block k (Array.getElem?_eq_some_iff.1 e).1 (fun e' => by
    obtain ⟨_, o, ho, hc⟩ := hr k e'.symm
    rw [e] at ho; cases ho; cases hc)).trans e⟩

/-- What holds between the rounds: the two boxes hold slices of what was gathered; nothing else was written. -/
def OfI (D : List Int) (pt : Int → List Sp.S) (w0 w : World) (x y n₀ : Nat) (R O : Int) (pre : List Dy) (W : World) : Prop :=
  (∃ v, Boxed W x 34 v ∧ W.ownsRow n₀ 49 2 v (catF R pre).length (flat encS (catF R pre)) ∧ True) ∧
  (∃ v, Boxed W y 34 v ∧ W.ownsRow n₀ 49 2 v (catF O pre).length (flat encS (catF O pre)) ∧ True) ∧
  Below w0.heap.size w0 W ∧ Kp2 x y w W ∧ pre.map (·.2.2) = (D.take pre.length).map pt
theorem OfI.own (D : List Int) (pt : Int → List Sp.S) (w0 w : World) (x y n₀ : Nat) (R O : Int) (h1 : w0.heap.size ≤ w.heap.size) : OwnFrom w.heap.size (OfI D pt w0 w x y n₀ R O) :=
  OwnFrom.and (Own.from (holdsRow_own n₀ x 34 49 2 (fun pre : List Dy => (catF R pre).length) (fun pre => flat encS (catF R pre)) (fun _ _ => True)) _)
    (OwnFrom.and (Own.from (holdsRow_own n₀ y 34 49 2 (fun pre : List Dy => (catF O pre).length) (fun pre => flat encS (catF O pre)) (fun _ _ => True)) _)
      (OwnFrom.and (ownFrom_below (Nat.le_refl _) h1) (OwnFrom.and (ownFrom_kp2 _ x y w) (fun _ _ _ _ h _ _ => h))))

theorem Ext.below0 {w0 W w' : World} (h : Below w0.heap.size w0 W) (k : Ext W w') : Below w0.heap.size w0 w' := h.trans (Below.mono k h.size)
theorem of_round {D : List Int} {pt : Int → List Sp.S} {w0 w W w13 : World} {x y n₀ B : Nat} {R O : Int} {pre : List Dy} {z : Dy} {v9 v10 : Value} {A6 A13 : Option Addr} {c6 c13 : Nat}
    (h9 : Boxed W x 34 v9) (h10 : Boxed W y 34 v10) (hxy : x ≠ y) (hx0 : w0.heap.size ≤ x) (hy0 : w0.heap.size ≤ y) (hbel : Below w0.heap.size w0 W) (hkp : Kp2 x y w W) (hall : pre.map (·.2.2) = (D.take pre.length).map pt) (hz : ∃ d, D[pre.length]? = some d ∧ z.2.2 = pt d) (X : Ext W w13)
    (o6 : w13.ownsRow n₀ 49 2 (.slice A6 (catF R pre ++ Sp.first z.2.2 R).length c6) (catF R pre ++ Sp.first z.2.2 R).length (flat encS (catF R pre ++ Sp.first z.2.2 R)))
    (o13 : w13.ownsRow n₀ 49 2 (.slice A13 (catF O pre ++ Sp.first z.2.2 O).length c13) (catF O pre ++ Sp.first z.2.2 O).length (flat encS (catF O pre ++ Sp.first z.2.2 O))) :
    KeepsFrom B W ((w13.setCell ⟨x, 0, none⟩ (.slice A6 (catF R pre ++ Sp.first z.2.2 R).length c6)).setCell ⟨y, 0, none⟩ (.slice A13 (catF O pre ++ Sp.first z.2.2 O).length c13)) ∧
    Kp2 x y W ((w13.setCell ⟨x, 0, none⟩ (.slice A6 (catF R pre ++ Sp.first z.2.2 R).length c6)).setCell ⟨y, 0, none⟩ (.slice A13 (catF O pre ++ Sp.first z.2.2 O).length c13)) ∧
    OfI D pt w0 w x y n₀ R O (pre ++ [z]) ((w13.setCell ⟨x, 0, none⟩ (.slice A6 (catF R pre ++ Sp.first z.2.2 R).length c6)).setCell ⟨y, 0, none⟩ (.slice A13 (catF O pre ++ Sp.first z.2.2 O).length c13)) := by
  have hte : 34 ≠ 49 := by decide
  have b9 : Boxed w13 x 34 v9 := (X.block x h9.lt).trans h9
  have b10 : Boxed w13 y 34 v10 := (X.block y h10.lt).trans h10
  unfold OfI
  rw [catF_snoc, catF_snoc]
  generalize Value.slice A6 (catF R pre ++ Sp.first z.2.2 R).length c6 = u6 at *
  generalize Value.slice A13 (catF O pre ++ Sp.first z.2.2 O).length c13 = u13 at *
  have p9 := b9.set u6
  have p10 : Boxed (w13.setCell ⟨x, 0, none⟩ u6) y 34 v10 := b10.other (Ne.symm hxy) u6
  have q9 : Boxed ((w13.setCell ⟨x, 0, none⟩ u6).setCell ⟨y, 0, none⟩ u13) x 34 u6 := p9.other hxy u13
  have q10 := p10.set u13
  have s6 := o6.kept (grownBy_setCell' w13 x u6) (.inr (b9.not_row hte o6).symm)
  have s13 := o13.kept (grownBy_setCell' w13 x u6) (.inr (b9.not_row hte o13).symm)
  have t6 := s6.kept (grownBy_setCell' _ y u13) (.inr (p10.not_row hte s6).symm)
  have t13 := s13.kept (grownBy_setCell' _ y u13) (.inr (p10.not_row hte s13).symm)
  have k1 : Kp2 x y W ((w13.setCell ⟨x, 0, none⟩ u6).setCell ⟨y, 0, none⟩ u13) := ((Kp2.ext X).trans (Kp2.grown (grownBy_setCell' w13 x u6) fun r e => by cases e; exact .inl rfl)).trans (Kp2.grown (grownBy_setCell' _ y u13) fun r e => by cases e; exact .inr rfl)
  refine ⟨(((KeepsOthers.of_grownBy X.grown0 fun _ _ e => by cases e).trans (KeepsOthers.setCell _ _ _)).trans (KeepsOthers.setCell _ _ _)).from _, k1, ⟨_, q9, t6, trivial⟩, ⟨_, q10, t13, trivial⟩, ?_, hkp.trans k1, ?_⟩
  · exact ((Ext.below0 hbel X).setCell (p := ⟨x, 0, none⟩) hx0 u6).setCell (p := ⟨y, 0, none⟩) hy0 u13
  · obtain ⟨d, hd, hz2⟩ := hz
    rw [List.map_append, hall, List.length_append, List.length_singleton, take_snoc hd, List.map_append, List.map_singleton, List.map_singleton, hz2]

/-- The day that a round was handed lies in a box of its own. -/
def OfA (K : Nat) (z : Dy) (n₀ : Nat) (B : Nat) (W : World) : Prop := (∃ v, Boxed W B 34 v ∧ W.ownsRow n₀ 49 2 v z.2.2.length (flat encS z.2.2) ∧ v = .slice z.1 z.2.2.length z.2.1) ∧ z.2.2.length ≤ K
theorem OfA.own (K : Nat) (z : Dy) (n₀ B : Nat) : Own (fun (_ : Unit) W => OfA K z n₀ B W) := fun s W W' row h hg hr =>
  ⟨holdsRow_own n₀ B 34 49 2 (fun _ : Unit => z.2.2.length) (fun _ => flat encS z.2.2) (fun _ v => v = .slice z.1 z.2.2.length z.2.1) () W W' row h.1 hg hr, h.2⟩
end Go.Proofs.YtnhmibfgaoealaaGreat
namespace Go.Proofs.YtnhmibfgaoealaaGreat
open Go.RowKit BigFrame
set_option linter.unusedVariables false
set_option linter.unusedSimpArgs false

attribute [local go_sem] Oper.semAt_some

/-- What the loads of a round read. -/
def OfT (cs : List Value) (B x y : Nat) (v9 v10 : Value) (w : World) : Prop := Bx w B cs 30 ∧ Boxed w x 34 v9 ∧ Boxed w y 34 v10
theorem OfT.ext {cs : List Value} {B x y : Nat} {v9 v10 : Value} {w w' : World} (h : OfT cs B x y v9 v10 w) (X : Ext w w') : OfT cs B x y v9 v10 w' := ⟨h.1.ext X, (X.block x h.2.1.lt).trans h.2.1, (X.block y h.2.2.lt).trans h.2.2⟩
def Ret3S (w : World) (R1 R2 R3 : List Sp.S) (e : Ending) (w' : World) : Prop := ∃ A1 c1 A2 c2 A3 c3, e = .returned (.tuple #[.slice A1 R1.length c1, .slice A2 R2.length c2, .slice A3 R3.length c3]) ∧ (Rs w' A1 R1 ∧ Rs w' A2 R2 ∧ Rs w' A3 R3) ∧ Ext w w'

set_option maxRecDepth 100000 in
set_option maxHeartbeats 4000000 in
theorem overA (cs : List Value) (hcs : cs.length = 23) (R O V : Int) (c13 : cs[13]? = some (.int .i64 R)) (c14 : cs[14]? = some (.int .i64 O)) (c15 : cs[15]? = some (.int .i64 V)) (bR : B64 R) (bO : B64 O) (bV : B64 V)
    (l : List Sp.S) (A : Option Addr) (c : Nat) (n : Int) (hl : l.length ≤ 100000) (w : World) (h : Rs w A l) (kC : ∀ W, Ext w W → Calls Tryz.prog 22 #[.agg cs.toArray] W (RetB W true)) :
    Calls Tryz.prog 28 #[.agg cs.toArray, .slice A l.length c, .int .i64 n] w (Ret3S w (overR (partS l n 604800) R V) (overO (partS l n 604800) R O V) (overD (partS l n 604800) O)) := by
  have kW := fun W (X : Ext w W) => pOfWeek (h.ext X) (by omega) c n
  have hPl := partS_len l n 604800
  have hPp := partS_plain l n 604800
  obtain ⟨P, hP⟩ : ∃ P, P = partS l n 604800 := ⟨_, rfl⟩
  rw [← hP] at kW hPl hPp ⊢
  replace hPl : P.length ≤ 100001 := by omega
  replace hPp := Lib.hid hPp
  clear hP
  have hi := Lib.hid (su_size hcs)
  have hs0 := Bx.new w cs 30
  have X0 := (Ext.refl w).alloc (.cells cs.toArray 30)
  replace kC := Lib.hid kC; replace kW := Lib.hid kW
  clear hcs h
  have hq : Hid (overR P R V = Sp.first (shortL P R) V ∧ overO P R O V = Sp.minus (shortL P O) (overR P R V) ∧ overD P O = Sp.minus P (shortL P O)) := ⟨by unfold overR; rfl, by unfold overO; rfl, by unfold overD; rfl⟩
  refine (callsIn_wide (n := 6)).1 ?_
  refine callsIn_of_wp_marks Tryz.func28 rfl trivial ?_ rfl
  refine wpIn_wide.2 ?_
  simp only [Tryz.ntmps28, List.size_toArray, List.length_cons, List.length_nil, Nat.reduceAdd, Nat.reduceSub, Array.replicate_succ, Array.replicate_zero, List.push_toArray, List.append_toArray, List.nil_append, List.cons_append]
  go_wp2_with (first | (refine load_box rfl 30 _ rfl _ rfl _ _ hs0 _ Tryz.underlying30 rfl hi.out ?_))
  refine (kC.out _ X0).mono ?_
  rintro e w1 ⟨rfl, x1⟩
  have hs1 := hs0.ext x1
  have X1 := X0.trans x1
  have hx2 : Boxed (w1.alloc (.cells #[.slice none 0 0] 34)) w1.heap.size 34 (.slice none 0 0) := Boxed.new _ _ _
  have hx3 := hx2.alloc (.cells #[.slice none 0 0] 34)
  have hy3 : Boxed ((w1.alloc (.cells #[.slice none 0 0] 34)).alloc (.cells #[.slice none 0 0] 34)) (w1.heap.size + 1) 34 (.slice none 0 0) := by
    have := Boxed.new (w1.alloc (.cells #[.slice none 0 0] 34)) 34 (.slice none 0 0)
    rwa [World.size_alloc] at this
  have hs3 := (hs1.alloc (.cells #[.slice none 0 0] 34)).alloc (.cells #[.slice none 0 0] 34)
  have X3 := (X1.alloc (.cells #[.slice none 0 0] 34)).alloc (.cells #[.slice none 0 0] 34)
  have hlt1 : w.heap.size < w1.heap.size := Nat.lt_of_lt_of_le (by simp) x1.size
  replace hx3 := Lib.hid hx3; replace hy3 := Lib.hid hy3; replace hs3 := Lib.hid hs3
  clear hs0 X0 hs1 x1 hx2
  go_wp2_with fail
  refine (kW.out _ X3).mono ?_
  rintro e w2 ⟨A2, c2, rfl, r2, x2, _⟩
  have hx2 := Lib.hid ((x2.block _ hx3.out.lt).trans hx3.out); have hy2 := Lib.hid ((x2.block _ hy3.out.lt).trans hy3.out); have hs2 := Lib.hid (hs3.out.ext x2)
  have X2 := X3.trans x2
  have hlt2 : w1.heap.size + 2 ≤ w2.heap.size := Nat.le_trans (by simp) x2.size
  replace r2 := Lib.hid r2
  clear hx3 hy3 hs3 X3 x2
  go_wp2_with fail
  refine (days_over _ _ _ _).mono ?_
  rintro e w3 ⟨rfl, rfl⟩
  obtain ⟨W0, hW0⟩ : ∃ W0, W0 = w2.alloc (.cells #[.slice A2 P.length c2] 34) := ⟨_, rfl⟩
  have hsz : W0.heap.size = w2.heap.size + 1 := by rw [hW0]; simp
  have XW : Ext w W0 := by rw [hW0]; exact X2.alloc _
  have HBs : Hid (Boxed W0 w2.heap.size 34 (.slice A2 P.length c2)) := by rw [hW0]; exact Boxed.new _ _ _
  have Hx : Hid (Boxed W0 w1.heap.size 34 (.slice none 0 0)) := by rw [hW0]; exact Boxed.alloc hx2.out _
  have Hy : Hid (Boxed W0 (w1.heap.size + 1) 34 (.slice none 0 0)) := by rw [hW0]; exact Boxed.alloc hy2.out _
  have Hs : Hid (Bx W0 w.heap.size cs 30) := by rw [hW0]; exact hs2.out.alloc _
  have HP : Hid (Rs W0 A2 P) := by rw [hW0]; exact r2.out.alloc _
  rw [← hW0]
  clear hW0 hx2 hy2 hs2 r2 X2

  have hseq : Hid (∀ (l : Nat) (J : List Dy → World → Prop) (W : World), Below W0.heap.size W0 W → AbidesFrom W.heap.size J →
      (∀ pre (x : Dy) W1, J pre W1 → (x.lies W0.heap.size (P.length + 1) W1 ∧ ∃ d, (daysL (Sp.norm P))[pre.length]? = some d ∧ x.2.2 = partS P d 86400) → pre.length < (daysL (Sp.norm P)).length → YieldAt Fence.wide (6 - 1 - 1) Tryz.prog l x.enc W1 fun e W' => e = .returned (.bool true) ∧ J (pre ++ [x]) W' ∧ Kp2 w1.heap.size (w1.heap.size + 1) W1 W') → J [] W →
      CallsIn Fence.wide (6 - 1) Tryz.prog 101 (#[.func (.yield l) #[] #[]] ++ #[.pointer (some ⟨w2.heap.size, 0, none⟩)]) W fun e W' => (∃ v, e = .returned v) ∧ ∃ xs : List Dy, xs.map (·.2.2) = daysOf P ∧ J xs W') := fun l J W hW hJ hY h0 => by
    have hR : Rs W A2 P := HP.out.ext hW
    exact days1_in (6 - 1) (by omega) l w2.heap.size w1.heap.size (w1.heap.size + 1) _ (P.length + 1) W0.heap.size A2 c2 P (daysL (Sp.norm P)) (fun d => partS P d 86400) (fun d => partS_len P d 86400) J W hJ (days_len P) (Nat.le_refl _) hY _ _ ((hW.block _ (by omega)).trans Hx.out) ((hW.block _ (by omega)).trans Hy.out) (fun _ _ e => by cases e) (fun _ _ e => by cases e) ((hW.block _ (by omega)).trans HBs.out) (by omega) (by omega) hR hW.size h0 (pDays hR (by omega) c2) (fun w h d => pOfDay h (by omega) c2 d)
  have hI0 : Hid (OfI (daysL (Sp.norm P)) (fun d => partS P d 86400) w W0 w1.heap.size (w1.heap.size + 1) W0.heap.size R O [] W0) := ⟨⟨_, Hx.out, World.ownsRow_nil _ _ _ _, trivial⟩, ⟨_, Hy.out, World.ownsRow_nil _ _ _ _, trivial⟩, XW, Kp2.refl _ _ _, rfl⟩
  have hdl := days_len P
  go_wp2_with fail
  refine (wpIn_wide (n := 6)).1 ?_
  refine wp_range_mem (by omega) (gf := 101) (lb := #[.pointer (some ⟨w2.heap.size, 0, none⟩)]) rfl (enters_of Tryz.func101 (by kernel_rfl) rfl) Dy.enc (by intro; rfl) (fun pre z W => z.lies W0.heap.size (P.length + 1) W ∧ ∃ d, (daysL (Sp.norm P))[pre.length]? = some d ∧ z.2.2 = partS P d 86400) (Kp2 w1.heap.size (w1.heap.size + 1)) (fun xs : List Dy => xs.map (·.2.2) = daysOf P) _
    hseq.out Kp2.trans (fun W l o o' _ h1 h2 => Kp2.putObj W l o o' h1 h2) (OfI (daysL (Sp.norm P)) (fun d => partS P d 86400) w W0 w1.heap.size (w1.heap.size + 1) W0.heap.size R O) (OfI.own _ _ _ _ _ _ _ _ _ (by omega)) hI0.out
    (fun pre z a' W => (∃ d, (daysL (Sp.norm P))[pre.length]? = some d ∧ z.2.2 = partS P d 86400) ∧ ∃ Bd, OfA (P.length + 1) z W0.heap.size Bd W ∧ a' = { tmps := #[.agg cs.toArray, .slice A l.length c, .int .i64 n, .pointer (some ⟨w.heap.size, 0, none⟩), undef, undef, .slice none 0 0, .slice none 0 0, .slice none 0 0, .pointer (some ⟨w1.heap.size, 0, none⟩), .pointer (some ⟨w1.heap.size + 1, 0, none⟩), .slice A2 P.length c2, .pointer (some ⟨Bd, 0, none⟩), undef, .agg cs.toArray, .bool true, .bool false, .slice A l.length c, .int .i64 n, .slice A2 P.length c2, .slice A2 P.length c2, .func (.func 101) #[] #[.pointer (some ⟨w2.heap.size, 0, none⟩)], .slice z.1 z.2.2.length z.2.1, undef, undef, undef, undef, undef, undef, undef, undef, undef, undef, undef, undef, undef, undef, undef, undef, undef, undef, undef, undef, undef, undef, undef, undef, undef, undef], defers := [] })
    (fun pre z a' _ X Y row hs hg hr => by
      obtain ⟨hd, Bd, hh, he⟩ := hs
      exact ⟨hd, Bd, (OfA.own (P.length + 1) z W0.heap.size Bd).from _ () X Y row hh hg hr, he⟩)
    ?assign ?body ?done
  case assign =>
    rintro l pre z W K hI hM hK
    have HI := Lib.hid hI; have HM := Lib.hid hM; have HK := Lib.hid hK; clear hI hM hK
    unfold Dy.enc
    gi_wp2
    exact HK.out _ _ ((KeepsOthers.alloc _ _).from _) (Kp2.ext ((Ext.refl _).alloc _)) ((OfI.own _ _ _ _ _ _ _ _ _ (by omega)).alloc _ HI.out) ⟨HM.out.2, W.heap.size, ⟨⟨_, Boxed.new _ _ _, HM.out.1.1.alloc _, rfl⟩, HM.out.1.2⟩, rfl⟩
  case body =>
    rintro l pre z a' W hl hlt ⟨⟨v9, hb9, ho9, _⟩, ⟨v10, hb10, ho10, _⟩, hbel, hkp, hall⟩ ⟨hzd, Bd, ⟨⟨v, hbd, hod, rfl⟩, hz⟩, rfl⟩ hN
    obtain ⟨A9, c9, rfl, _, _⟩ := own_form ho9
    obtain ⟨A10, c10, rfl, _, _⟩ := own_form ho10
    have hp1 := catF_len hPp.out R pre hall
    have hp2 := catF_len hPp.out O pre hall
    have hWl : W0.heap.size ≤ W.heap.size := by omega
    have hsx : Bx W w.heap.size cs 30 := hkp.keep _ _ _ _ (by omega) (by omega) Hs.out
    have D := Lib.hid (fun (w13 : World) (A6 A13 : Option Addr) (c6 c13 : Nat) => of_round (B := W0.heap.size) (n₀ := W0.heap.size) (R := R) (O := O) (w13 := w13) (A6 := A6) (A13 := A13) (c6 := c6) (c13 := c13) hb9 hb10 (by omega) (by omega) (by omega) hbel hkp hall hzd)
    have hfl := fun n => first_length z.2.2 n
    have f1 := hfl R
    have f2 := hfl O
    clear hfl
    have hdr : Rs W z.1 z.2.2 := Rs.own hod
    have HT : Hid (OfT cs w.heap.size w1.heap.size (w1.heap.size + 1) (.slice A9 (catF R pre).length c9) (.slice A10 (catF O pre).length c10) (W.drewN 1)) := ⟨hsx.drewN 1, hb9, hb10⟩
    have hRd := Lib.hid (hdr.drewN 1)
    have hBd : Hid (Boxed (W.drewN 1) Bd 34 (.slice z.1 z.2.2.length z.2.1)) := hbd
    have hR9 : Hid (Rs (W.drewN 1) A9 (catF R pre)) := (Rs.own ho9).drewN 1
    have hR10 : Hid (Rs (W.drewN 1) A10 (catF O pre)) := (Rs.own ho10).drewN 1
    have XX : Ext W (W.drewN 1) := (Ext.refl W).drewN 1
    clear hb9 hb10 ho9 ho10 hbel hkp hall hsx hdr hbd hod
    gi_wp2
    refine region_until_round (T := OfT cs w.heap.size w1.heap.size (w1.heap.size + 1) (.slice A9 (catF R pre).length c9) (.slice A10 (catF O pre).length c10)) (z := 14) l _ 16 rfl (by kernel_rfl) (by kernel_rfl) (fun _ _ h => h) ?_
    refine un_take (i := 0) [5, 6, 14] rfl (by kernel_rfl) (by kernel_rfl) (by kernel_rfl) (by kernel_rfl) rfl (by decide) (v := .slice A9 (catF R pre).length c9) (.inl ⟨rfl, fun w hT => by
      have c := hT.2.1.cell
      go_simp⟩) HT.out _ (by simp [Act.put]; rfl) ?_
    refine un_move (i := 1) [4, 6, 14] rfl (by kernel_rfl) (by kernel_rfl) (by kernel_rfl) (by kernel_rfl) rfl (by decide) _ rfl rfl HT.out _ (by simp [Act.put]; rfl) ?_
    refine un_take (i := 2) [3, 4, 6, 14] rfl (by kernel_rfl) (by kernel_rfl) (by kernel_rfl) (by kernel_rfl) rfl (by decide) (v := .pointer (some ⟨w.heap.size, 13, none⟩)) (.inl ⟨rfl, fun w _ => by go_simp⟩) HT.out _ (by simp [Act.put]; rfl) ?_
    refine un_take (i := 3) [4, 6, 14] rfl (by kernel_rfl) (by kernel_rfl) (by kernel_rfl) (by kernel_rfl) rfl (by decide) (v := .int .i64 R) (.inl ⟨rfl, fun w hT => by
      have c := hT.1.cell 13 _ c13
      go_simp⟩) HT.out _ (by simp [Act.put]; rfl) ?_
    refine un_take (i := 7) [12, 13, 14] rfl (by kernel_rfl) (by kernel_rfl) (by kernel_rfl) (by kernel_rfl) rfl (by decide) (v := .slice A10 (catF O pre).length c10) (.inl ⟨rfl, fun w hT => by
      have c := hT.2.2.cell
      go_simp⟩) HT.out _ (by simp [Act.put]; rfl) ?_
    refine un_move (i := 8) [11, 13, 14] rfl (by kernel_rfl) (by kernel_rfl) (by kernel_rfl) (by kernel_rfl) rfl (by decide) _ rfl rfl HT.out _ (by simp [Act.put]; rfl) ?_
    refine un_take (i := 9) [10, 11, 13, 14] rfl (by kernel_rfl) (by kernel_rfl) (by kernel_rfl) (by kernel_rfl) rfl (by decide) (v := .pointer (some ⟨w.heap.size, 14, none⟩)) (.inl ⟨rfl, fun w _ => by go_simp⟩) HT.out _ (by simp [Act.put]; rfl) ?_
    refine un_take (i := 10) [11, 13, 14] rfl (by kernel_rfl) (by kernel_rfl) (by kernel_rfl) (by kernel_rfl) rfl (by decide) (v := .int .i64 O) (.inl ⟨rfl, fun w hT => by
      have c := hT.1.cell 14 _ c14
      go_simp⟩) HT.out _ (by simp [Act.put]; rfl) ?_
    refine un_all (i := 4) rfl (by kernel_rfl) rfl ?_
    go_wp2_with fail
    refine (first_day hBd.out hRd.out (by omega) bR).mono ?_
    rintro e w4 ⟨A4, c4, rfl, r4, x4, _⟩
    have x5 := x4.alloc (.cells #[.slice A9 (catF R pre).length c9, .slice A4 (Sp.first z.2.2 R).length c4] 34)
    have HT4 := Lib.hid (HT.out.ext x4)
    have HT5 := Lib.hid (HT.out.ext x5); have hRd5 := Lib.hid (hRd.out.ext x5); have hBd5 : Hid (Boxed _ Bd 34 _) := (x5.block Bd hBd.out.lt).trans hBd.out
    have hR9b := Lib.hid (hR9.out.ext x5); have hR10b := Lib.hid (hR10.out.ext x5)
    have hF5 : Hid (Rs _ A4 (Sp.first z.2.2 R)) := r4.alloc (.cells #[.slice A9 (catF R pre).length c9, .slice A4 (Sp.first z.2.2 R).length c4] 34)
    have hb5 := Lib.hid (Bx.new w4 [.slice A9 (catF R pre).length c9, .slice A4 (Sp.first z.2.2 R).length c4] 34)
    have XX5 := Lib.hid (XX.trans x5)
    clear hRd hBd hR9 hR10 HT x4 x5 r4 XX
    refine ⟨HT4.out, ?_⟩
    refine un_all (i := 5) rfl (by kernel_rfl) rfl ?_
    go_wp2_with fail
    refine ⟨HT5.out, ?_⟩
    refine un_all (i := 6) rfl (by kernel_rfl) rfl ?_
    go_wp2_with fail
    refine (pConcat w4.heap.size c9 c4 hb5.out hR9b.out hF5.out (by omega) (by omega)).mono ?_
    rintro e w6 ⟨A6, c6, rfl, _, x6, o6⟩
    have HT6 := Lib.hid (HT5.out.ext x6); have hRd6 := Lib.hid (hRd5.out.ext x6); have hBd6 : Hid (Boxed _ Bd 34 _) := (x6.block Bd hBd5.out.lt).trans hBd5.out
    have hR10c := Lib.hid (hR10b.out.ext x6)
    have hw6 : W0.heap.size ≤ (w4.alloc (.cells #[.slice A9 (catF R pre).length c9, .slice A4 (Sp.first z.2.2 R).length c4] 34)).heap.size := Nat.le_trans hWl XX5.out.size
    have HO6 := Lib.hid (own_base o6 hw6)
    have XX6 := Lib.hid (XX5.out.trans x6)
    clear HT5 hRd5 hBd5 hR10b hR9b hF5 hb5 XX5 x6 o6 hw6 HT4
    refine ⟨HT6.out, ?_⟩
    refine un_all (i := 11) rfl (by kernel_rfl) rfl ?_
    go_wp2_with fail
    refine (first_day hBd6.out hRd6.out (by omega) bO).mono ?_
    rintro e w11 ⟨A11, c11, rfl, r11, x11, _⟩
    have x12 := x11.alloc (.cells #[.slice A10 (catF O pre).length c10, .slice A11 (Sp.first z.2.2 O).length c11] 34)
    have HT11 := Lib.hid (HT6.out.ext x11)
    have HT12 := Lib.hid (HT6.out.ext x12)
    have hR10d := Lib.hid (hR10c.out.ext x12)
    have hF12 : Hid (Rs _ A11 (Sp.first z.2.2 O)) := r11.alloc (.cells #[.slice A10 (catF O pre).length c10, .slice A11 (Sp.first z.2.2 O).length c11] 34)
    have hb12 := Lib.hid (Bx.new w11 [.slice A10 (catF O pre).length c10, .slice A11 (Sp.first z.2.2 O).length c11] 34)
    have HO12 := Lib.hid (own_below HO6.out x12)
    have XX12 := Lib.hid (XX6.out.trans x12)
    clear HT6 hRd6 hBd6 hR10c HO6 XX6 x11 x12 r11
    refine ⟨HT11.out, ?_⟩
    refine un_all (i := 12) rfl (by kernel_rfl) rfl ?_
    go_wp2_with fail
    refine ⟨HT12.out, ?_⟩
    refine un_all (i := 13) rfl (by kernel_rfl) rfl ?_
    go_wp2_with fail
    refine (pConcat w11.heap.size c10 c11 hb12.out hR10d.out hF12.out (by omega) (by omega)).mono ?_
    rintro e w13 ⟨A13, c13', rfl, _, x13, o13⟩
    have HT13 := Lib.hid (HT12.out.ext x13)
    have hw13 : W0.heap.size ≤ (w11.alloc (.cells #[.slice A10 (catF O pre).length c10, .slice A11 (Sp.first z.2.2 O).length c11] 34)).heap.size := Nat.le_trans hWl XX12.out.size
    have E := Lib.hid (D.out w13 A6 A13 c6 c13' (XX12.out.trans x13) (own_below HO12.out x13) (own_base o13 hw13))
    have k9 := HT13.out.2.1.cell
    have k10 := HT13.out.2.2.cell
    have z9 := HT13.out.2.1.frozen
    have z10 := HT13.out.2.2.frozen
    have hne : w1.heap.size + 1 ≠ w1.heap.size := by omega
    have hne2 : w1.heap.size ≠ w1.heap.size + 1 := by omega
    clear HT12 HT11 hR10d hF12 hb12 HO12 XX12 x13 o13 hw13 D
    refine ⟨HT13.out, ?_⟩
    refine un_all (i := 14) rfl (by kernel_rfl) rfl ?_
    go_wp2_with fail
    refine un_all (i := 15) rfl (by kernel_rfl) rfl ?_
    go_wp2_with fail
    refine un_done (by kernel_rfl) ?_ _
    refine ⟨rfl, ?_⟩
    replace hsz := Lib.hid hsz
    gi_wp2
    have E2 := E.out
    simp only [List.length_append] at E2
    exact E2
  case done =>
    rintro D xs W hD hxs ⟨⟨v9, hb9, ho9, _⟩, ⟨v10, hb10, ho10, _⟩, hbel, hkp, hall⟩ hdef
    have hxl : xs.length ≤ 371 := by have := congrArg List.length hxs; simp [daysOf] at this; omega
    have hp1 := catF_len hPp.out R xs hall
    have hp2 := catF_len hPp.out O xs hall
    rw [catF_days hxs R] at ho9 hp1
    rw [catF_days hxs O] at ho10 hp2
    have hsx : Bx W w.heap.size cs 30 := hkp.keep _ _ _ _ (by omega) (by omega) Hs.out
    have hP : Rs W A2 P := Rd.kp2 HP.out hkp fun hl b off hA => ⟨HP.out.not_box (fun z => ⟨z.1, rfl⟩) Hx.out (fun _ _ e => by cases e) hl b off hA, HP.out.not_box (fun z => ⟨z.1, rfl⟩) Hy.out (fun _ _ e => by cases e) hl b off hA⟩
    have hWl : W0.heap.size ≤ W.heap.size := hkp.size
    obtain ⟨rr, hrr⟩ : ∃ r, r = shortL P R := ⟨_, rfl⟩
    obtain ⟨oo, hoo⟩ : ∃ r, r = shortL P O := ⟨_, rfl⟩
    rw [← hrr] at ho9 hp1
    rw [← hoo] at ho10 hp2
    rw [← hrr, ← hoo] at hq
    obtain ⟨A9, c9, rfl, _, _⟩ := own_form ho9
    obtain ⟨A10, c10, rfl, _, _⟩ := own_form ho10
    have cR := fun (W' : World) (X : Ext W W') => cFirst ((Rs.own ho9).ext X) (by omega) bV c9
    rw [← hq.out.1] at cR
    have hRl : (overR P R V).length ≤ 100742 := by rw [hq.out.1]; exact Nat.le_trans (first_length _ _) (Nat.le_trans hp1 (by omega))
    obtain ⟨qr, hqr⟩ : ∃ r, r = overR P R V := ⟨_, rfl⟩
    have HQ := Lib.hid hqr
    rw [← hqr] at cR hRl hq ⊢
    have cO := fun (W' : World) (X : Ext W W') A3 c3 h3 => cMinus (A2 := A3) (b := qr) ((Rs.own ho10).ext X) h3 (by omega) (by omega) c10 c3
    have cD := fun (W' : World) (X : Ext W W') => cMinus (hP.ext X) ((Rs.own ho10).ext X) (by omega) (by omega) c2 c10
    rw [← hq.out.2.1] at cO
    rw [← hq.out.2.2] at cD
    have c9' := hb9.cell
    have c10' := Lib.hid hb10
    have h15 := hsx.cell 15 _ c15
    have CR := Lib.hid cR; have CO := Lib.hid cO; have CD := Lib.hid cD; have HD := Lib.hid hdef; have HB := Lib.hid hbel
    clear cR cO cD hdef hbel hb9 hb10 ho9 ho10 hsx hkp hall hP hq hrr hoo hqr
    go_wp2_with fail
    refine (CR.out _ (Ext.refl _)).mono ?_
    rintro e w4 ⟨A4, c4, rfl, r4, x4, o4⟩
    have XW4 := Lib.hid x4; have R4 := Lib.hid r4; have O4 := Lib.hid (own_base o4 hWl)
    have b4 : Hid (Boxed w4 (w1.heap.size + 1) 34 (.slice A10 oo.length c10)) := (x4.block _ c10'.out.lt).trans c10'.out
    clear x4 r4 o4 c10' CR h15 c9'
    go_wp2_with fail
    have HT : Hid ((fun w' => Boxed w' (w1.heap.size + 1) 34 (.slice A10 oo.length c10)) (w4.drewN 1)) := b4.out
    refine un_start (T := fun w' => Boxed w' (w1.heap.size + 1) 34 (.slice A10 oo.length c10)) (z := 7) 10 rfl (by kernel_rfl) ?_
    refine un_move (i := 0) [7] rfl (by kernel_rfl) (by kernel_rfl) (by kernel_rfl) (by kernel_rfl) rfl (by decide) _ rfl rfl HT.out _ (by simp [Act.put]; rfl) ?_
    refine un_take (i := 1) [3, 6, 7] rfl (by kernel_rfl) (by kernel_rfl) (by kernel_rfl) (by kernel_rfl) rfl (by decide) (v := .slice A10 oo.length c10) (.inl ⟨rfl, fun w hT => by
      have c := hT.cell
      go_simp⟩) HT.out _ (by simp [Act.put]; rfl) ?_
    refine un_move (i := 2) [3, 6, 7] rfl (by kernel_rfl) (by kernel_rfl) (by kernel_rfl) (by kernel_rfl) rfl (by decide) _ rfl rfl HT.out _ (by simp [Act.put]; rfl) ?_
    refine un_move (i := 4) [6, 7] rfl (by kernel_rfl) (by kernel_rfl) (by kernel_rfl) (by kernel_rfl) rfl (by decide) _ rfl rfl HT.out _ (by simp [Act.put]; rfl) ?_
    refine un_take (i := 5) [6, 7] rfl (by kernel_rfl) (by kernel_rfl) (by kernel_rfl) (by kernel_rfl) rfl (by decide) (v := .slice A10 oo.length c10) (.inl ⟨rfl, fun w hT => by
      have c := hT.cell
      go_simp⟩) HT.out _ (by simp [Act.put]; rfl) ?_
    refine un_all (i := 3) rfl (by kernel_rfl) rfl ?_
    go_wp2_with fail
    refine (CO.out _ (XW4.out.drewN 1) A4 c4 (R4.out.drewN 1)).mono ?_
    rintro e w5 ⟨A5, c5, rfl, _, x5, o5⟩
    have XW5 := Lib.hid ((XW4.out.drewN 1).trans x5)
    have O5 : Hid (w5.ownsRow W0.heap.size 49 2 (.slice A5 (overO P R O V).length c5) (overO P R O V).length (flat encS (overO P R O V))) := own_base o5 (Nat.le_trans hWl (XW4.out.drewN 1).size)
    have O4b := Lib.hid (own_below O4.out (((Ext.refl w4).drewN 1).trans x5))
    have HT5 : Hid ((fun w' => Boxed w' (w1.heap.size + 1) 34 (.slice A10 oo.length c10)) w5) := (x5.block _ HT.out.lt).trans HT.out
    clear x5 o5 HT O4 b4 XW4 R4
    refine ⟨HT5.out, ?_⟩
    refine un_all (i := 6) rfl (by kernel_rfl) rfl ?_
    go_wp2_with fail
    refine (CD.out _ XW5.out).mono ?_
    rintro e w6 ⟨A6, c6, rfl, _, x6, o6⟩
    have XW6 := Lib.hid (XW5.out.trans x6)
    have O6 : Hid (w6.ownsRow W0.heap.size 49 2 (.slice A6 (overD P O).length c6) (overD P O).length (flat encS (overD P O))) := own_base o6 (Nat.le_trans hWl XW5.out.size)
    have O5b := Lib.hid (own_below O5.out x6); have O4c := Lib.hid (own_below O4b.out x6)
    have HT6 : Hid ((fun w' => Boxed w' (w1.heap.size + 1) 34 (.slice A10 oo.length c10)) w6) := (x6.block _ HT5.out.lt).trans HT5.out
    clear x6 o6 HT5 O5 O4b XW5
    refine ⟨HT6.out, ?_⟩
    refine un_all (i := 7) rfl (by kernel_rfl) rfl ?_
    go_wp2_with fail
    refine un_all (i := 8) rfl (by kernel_rfl) rfl ?_
    go_wp2_with fail
    refine un_all (i := 9) rfl (by kernel_rfl) rfl ?_
    go_wp2_with fail
    refine un_done (by kernel_rfl) ?_ _
    go_wp2
    have hK6 : w6.heap[D]? = some (.deferred (some [])) := (XW6.out.block D (Array.getElem?_eq_some_iff.1 HD.out).1).trans HD.out
    have O4d := O4c.out
    rw [HQ.out] at O4d
    refine ⟨by simp, .inl ⟨_, _, rfl, run_takeDeferred hK6, ?_⟩⟩
    refine ⟨_, results_tmp3 rfl _ _ _, A4, c4, A5, c5, A6, c6, by rw [← HQ.out]; rfl, ⟨Rs.own (ownsRow_putObj O4d _ hK6 rfl), Rs.own (ownsRow_putObj O5b.out _ hK6 rfl), Rs.own (ownsRow_putObj O6.out _ hK6 rfl)⟩, ?_⟩
    exact (Ext.below0 HB.out XW6.out).trans (belowK_b (w := w) (Nat.le_refl _) w6 D _ _ (by omega) hK6 rfl rfl)
end Go.Proofs.YtnhmibfgaoealaaGreat
