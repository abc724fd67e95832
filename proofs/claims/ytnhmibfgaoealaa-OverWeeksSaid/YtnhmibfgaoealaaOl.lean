/-
  A range over a function whose rounds are handed what lies in memory; and a region that draws its order, within a round.
-/
import Derived.RangeFuncNested
import Derived.RangeFuncBound
import Derived.RangeFuncCalls
import Derived.RangeFuncLeaves
import Derived.RangeFuncBox
import Derived.OrdersIn
import Derived.TacticsIn
import Derived.Test.YtnhmibfgaoealaaLu
namespace Go.Proofs.Ytnhmibfgaoealaa
open Go.RowKit
set_option linter.unusedVariables false

/-- One operation, outside a round and in one: the same, if it defers nothing and lets nothing out. -/
theorem op_round {P : Program} {o : Oper} {a : Act} {w : World} {K K' : Act → World → Prop} {Q Q' : Exit → Act → World → Prop} (l n : Nat) (hd : ∀ c, o.op ≠ .defer c) (hQ : ∀ c a w, Q (.panic c) a w → False) (hQ2 : ∀ a w, Q .outgrown a w → False)
    (hK : ∀ a w, K a w → K' a w) (h : o.wp P a w K Q) : o.wpIn (Fence.wide.inRound l) n P a w K' Q' := by
  unfold Oper.wp at h
  refine ⟨fun _ _ => trivial, ?_⟩
  rw [show (Fence.wide.inRound l).round = some l from rfl, Oper.semAt_some l _ _ hd]
  generalize (execOp a.eval o).run P w = r at *
  cases r with
  | ok x w' =>
    cases x <;> first | exact hK _ _ h | exact (h : False).elim | skip
    · refine ⟨fun h => (by cases h), CallsIn.inRound (F := Fence.wide) l (callsIn_wide.2 (Calls.mono h ?_))⟩
      intro e w'' he
      cases e with
      | returned v => exact hK _ _ he
      | panicked c => exact (hQ _ _ _ he).elim
      | outgrown => obtain ⟨a0, w0, hq⟩ := he; exact (hQ2 _ _ hq).elim
    · refine ⟨fun h => (by cases h), fun c cs _ => ?_⟩
      obtain ⟨v, w'', r, s⟩ := h c cs
      exact ⟨v, w'', hK _ _ r, stepsIn_wide.2 s⟩
  | halt x w' =>
    cases x <;> first | exact (hQ _ _ _ h).elim | exact (h : False).elim
def NoDefer (ops : Array Oper) : Bool := ops.all fun o => match o.op with | .defer _ => false | _ => true
theorem NoDefer.at_ {ops : Array Oper} (h : NoDefer ops = true) {i : Nat} {o : Oper} (hi : ops[i]? = some o) (c : Call) : o.op ≠ .defer c := fun e => by
  have := Array.all_eq_true_iff_forall_mem.1 h o (Array.mem_of_getElem? hi)
  rw [e] at this
  cases this
/-- Whatever order is drawn: outside a round and in one. -/
theorem any_round {P : Program} {ops : Array Oper} {md : Region.Mode} {Q Q' : Exit → Act → World → Prop} (l n : Nat) (hd : NoDefer ops = true) (hQ : ∀ c a w, Q (.panic c) a w → False) (hQ2 : ∀ a w, Q .outgrown a w → False) (hQ3 : ∀ a w, Q .normal a w → Q' .normal a w) :
    ∀ (fuel : Nat) (listed : Array Bool) (a : Act) (w : World), wpAny P md ops Q fuel listed a w → wpAnyIn (Fence.wide.inRound l) n P md ops Q' fuel listed a w
  | 0, _, _, _, h => ⟨h.1, hQ3 _ _ h.2⟩
  | fuel + 1, listed, a, w, h => ⟨fun h0 => hQ3 _ _ (h.1 h0), fun i hi => by
      have h1 := h.2 i hi
      unfold wpOp at h1
      unfold wpOpIn
      cases ho : ops[i]? with
      | none => rw [ho] at h1; exact any_round l n hd hQ hQ2 hQ3 fuel _ _ _ h1
      | some o =>
        rw [ho] at h1
        simp only at h1 ⊢
        split
        · rename_i hw
          rw [if_pos hw] at h1
          rcases h1 with h1 | ⟨_, a0, w0, h1⟩
          · exact op_round l n (NoDefer.at_ hd ho) hQ hQ2 (fun a w => any_round l n hd hQ hQ2 hQ3 fuel _ a w) h1
          · exact (hQ2 _ _ h1).elim
        · rename_i hw
          rw [if_neg hw] at h1
          exact ⟨fun _ _ => trivial, any_round l n hd hQ hQ2 hQ3 fuel _ _ _ h1⟩⟩
/-- A region that draws its order, within a round: by the moves of a walk outside one. -/
theorem region_round {P : Program} {id : Nat} {ops : Array Oper} {Q : Act → World → Prop} {Q' : Exit → Act → World → Prop} {S : World → Prop} {a : Act} {w : World} (l n k : Nat) (hk : ops.size = k) (hm : P.follows .mixedOrders = true) (hd : NoDefer ops = true) (hQ : ∀ a w, Q a w → Q' .normal a w)
    (h : wpAnyH P .any ops (NoPanic fun e a w => e = .normal ∧ Q a w) S k (Array.replicate k false) a { w with drawn := w.drawn + 1 }) : (Code.region id ops true).wpIn (Fence.wide.inRound l) n P Q' a w := by
  subst hk
  exact wpIn_region_any hm (any_round l n hd (fun _ _ _ h => h) (fun _ _ h => by cases h.1) (fun a w h => hQ a w h.2) _ _ _ _ (wpAny_of_held _ _ _ _ h))

/-- The statement 'for x := range f { .. }' whose body is never left: the rounds are told, by M, what lies in memory at what they are handed. -/
theorem wp_range_mem {α : Type} {P : Program} {n : Nat} {g : Operand} {ps : Array Tmp} {assign body : Code} {Q : Exit → Act → World → Prop} {a : Act} {w : World} (h1 : 1 ≤ n)
    {gf : Nat} {lb : Array Value} (hg : a.eval g = .func (.func gf) #[] lb) (eg : ∀ args w, (callFunc gf args).run P w = .ok (.enter gf args) w)
    (encs : α → Array Value) (hps : ∀ x, (encs x).size = ps.size) (M : α → World → Prop) (Kp : World → World → Prop) (S : List α → Prop) (N : Nat)
    (hseq : ∀ (l : Nat) (J : List α → World → Prop) (W : World), Below w.heap.size w W → AbidesFrom W.heap.size J →
      (∀ pre x W1, J pre W1 → M x W1 → pre.length < N → YieldAt Fence.wide (n - 1 - 1) P l (encs x) W1 fun e W' => e = .returned (.bool true) ∧ J (pre ++ [x]) W' ∧ Kp W1 W') → J [] W →
      CallsIn Fence.wide (n - 1) P gf (#[.func (.yield l) #[] #[]] ++ lb) W fun e W' => (∃ v, e = .returned v) ∧ ∃ xs, S xs ∧ J xs W')
    (hKt : ∀ {A B C : World}, Kp A B → Kp B C → Kp A C) (hKb : ∀ (W : World) (l : Nat) (o o' : Obj), w.heap.size ≤ l → W.heap[l]? = some o → o.isCells = false → Kp W (W.putObj l o'))
    (I : List α → World → Prop) (hI : OwnFrom w.heap.size I) (h0 : I [] w) (Ax : α → Act → World → Prop) (hAx : ∀ x a', OwnFrom w.heap.size (fun (_ : Unit) W => Ax x a' W))
    (hassign : ∀ (l : Nat) (pre : List α) (x : α) (W : World) (K : Act → World → Prop), I pre W → M x W → (∀ a' W', KeepsFrom w.heap.size W W' → Kp W W' → I pre W' → Ax x a' W' → K a' W') →
      assign.wpIn (Fence.wide.inRound l) (n - 1 - 1) P (Exit.then K (fun _ _ _ => False)) { tmps := (ps.zip (encs x)).foldl (fun t (p, v) => t.setIfInBounds p v) a.tmps, defers := [] } W)
    (hbody : ∀ (l : Nat) (pre : List α) (x : α) (a' : Act) (W : World), w.heap.size ≤ l → l < W.heap.size → I pre W → Ax x a' W → pre.length < N →
      body.wpIn (Fence.wide.inRound l) (n - 1 - 1) P (fun e _ W' => e = .normal ∧ KeepsFrom w.heap.size W W' ∧ Kp W W' ∧ I (pre ++ [x]) W') a' W)
    (hdone : ∀ (D : Nat) (xs : List α) (W : World), w.heap.size ≤ D → S xs → I xs W → W.heap[D]? = some (.deferred (some [])) → Q .normal { a with defers := { target := .collected D, args := #[] } :: a.defers } W) :
    (Code.rangeFunc g ps assign body).wpIn Fence.wide n P Q a w := by
  refine wpIn_rangeFunc fun fn _ => ?_
  -- the two blocks of book-keeping: D holds the rounds' deferred calls, D + 1 the loop's record
  generalize hD : w.heap.size = D at *
  let rec_ : LoopState → Option Code → Loop := fun st pe => { state := st, pending := pe, fn, tmps := a.tmps, params := ps, assign, body, defers := D }
  let Bk : LoopState → World → Prop := fun st W => W.heap[D + 1]? = some (.loop (rec_ st none)) ∧ W.heap[D]? = some (.deferred (some []))
  have kept : ∀ {st : LoopState} {W W' : World}, Bk st W → KeepsFrom D W W' → Bk st W' := fun h k => ⟨k.same _ _ (by omega) h.1 rfl, k.same _ _ (Nat.le_refl _) h.2 rfl⟩
  have turn : ∀ {st st' : LoopState} {W : World}, Bk st W → Bk st' (W.putObj (D + 1) (.loop (rec_ st' none))) := fun h =>
    ⟨World.putObj_heap_same (Array.getElem?_eq_some_iff.1 h.1).1, (World.putObj_heap_other (by omega)).trans h.2⟩
  have abide : ∀ {W : World} {row : Option Nat} {B : Nat}, (∀ r, row = some r → B ≤ r ∧ ∃ o : Obj, W.heap[r]? = some o ∧ o.isWalk = true) → D ≤ B → ∀ r, row = some r → D ≤ r ∧ ∃ o : Obj, W.heap[r]? = some o ∧ o.isCells = false :=
    fun hr hB r e => by obtain ⟨h1, o, h2, h3⟩ := hr r e; exact ⟨by omega, o, h2, Obj.not_cells_of_walk h3⟩
  let W0 := (w.alloc (.deferred (some []))).alloc (.loop (rec_ .ready none))
  have hW0 : Bk .ready W0 := by
    have e1 := World.alloc_heap_new (w.alloc (.deferred (some []))) (.loop (rec_ .ready none))
    have e2 := (Below.heap_alloc (w.alloc (.deferred (some []))) (.loop (rec_ .ready none)) w.heap.size (by simp)).trans (World.alloc_heap_new w (.deferred (some [])))
    rw [World.size_alloc, hD] at e1
    rw [hD] at e2
    exact ⟨e1, e2⟩
  have hs0 : W0.heap.size = D + 2 := by show ((w.alloc _).alloc _).heap.size = _; simp; omega
  have hI0 : I [] W0 := hI.alloc _ (hI.alloc _ h0)
  have hb0 : Below D w W0 := ((Below.refl D w).alloc (by omega) _).alloc (by simp; omega) _
  refine ⟨D + 1, [{ target := .collected D, args := #[] }], W0, { target := .fn (.func gf) lb, args := #[.func (.yield (D + 1)) #[] #[]] }, W0, gf, #[.func (.yield (D + 1)) #[] #[]] ++ lb, W0, ?_, ?_, fun _ _ => trivial, ?_, fun h => (by cases h), ?_⟩
  · have := run_enterLoop_outer (P := P) (w := w) fn a.tmps ps assign body
    rw [hD] at this
    exact this
  · simp only [resolve, hg]
    simp [go_sem]
  · simp [invoke, go_sem, eg]
  refine (hseq (D + 1) (fun pre W => I pre W ∧ Bk .ready W) W0 hb0 (fun s A B row hs hg' hr => ⟨hI s A B row hs.1 hg' (abide hr (by omega)), ?_⟩) ?_ ⟨hI0, hW0⟩).mono ?_
  · exact ⟨(grownBy_keeps hg' (fun r e => (hr r e).2) hs.2.1 rfl).trans hs.2.1, (grownBy_keeps hg' (fun r e => (hr r e).2) hs.2.2 rfl).trans hs.2.2⟩
  · rintro pre x W ⟨hi, hb⟩ hm hlen
    refine ⟨fn, _, assign, body, run_yield hb.1 (hps x), roundIn_of_wpIn trivial (hassign _ pre x W _ hi hm fun a' W1 k1 p1 i1 x1 => ?_)⟩
    have b1 := kept hb k1
    have lt1 : D + 1 < W1.heap.size := (Array.getElem?_eq_some_iff.1 b1.1).1
    have b2 : Bk .busy (W1.putObj (D + 1) (.loop (rec_ .busy none))) := turn b1
    refine ⟨_, run_beginRound b1.1 rfl, wpIn_mono (hbody _ pre x a' _ (by omega) (by simpa using lt1) (hI.putObj _ i1 (by omega) b1.1 rfl) ((hAx x a').putObj (s := ()) _ x1 (by omega) b1.1 rfl) hlen) ?_⟩
    rintro e a3 W3 ⟨rfl, k3, p3, i3⟩
    have b3 := kept b2 k3
    exact ⟨_, _, run_endRound none b3.1, rfl, ⟨hI.putObj _ i3 (by omega) b3.1 rfl, turn b3⟩, hKt p1 (hKt (hKt (hKb _ _ _ _ (by omega) b1.1 rfl) p3) (hKb _ _ _ _ (by omega) b3.1 rfl))⟩
  · rintro e W2 ⟨⟨v, rfl⟩, xs, hS, hi, hb⟩
    exact ⟨none, _, run_endLoop hb.1 (by intro h; cases h), hdone D xs _ (Nat.le_refl _) hS (hI.putObj _ hi (by omega) hb.1 rfl) ((World.putObj_heap_other (by omega)).trans hb.2)⟩
end Go.Proofs.Ytnhmibfgaoealaa
