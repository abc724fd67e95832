/-
  A region that draws its order, where what the loads read holds until one operation comes up, behind which they all lie.
-/
import Derived.Test.YtnhmibfgaoealaaLu
namespace Go.Proofs.Ytnhmibfgaoealaa
open Go.RowKit BigFrame

section
variable {P : Program} {ops : Array Oper} {Q : Exit → Act → World → Prop} {T : World → Prop} {z : Nat}

/-- Whatever order is drawn from here on, and T holds behind every operation that comes up ahead of number z. -/
def wpUntil (P : Program) (ops : Array Oper) (Q : Exit → Act → World → Prop) (T : World → Prop) (z : Nat) : Nat → Array Bool → Act → World → Prop
  | 0, listed, a, w => Region.ready .any ops listed = [] ∧ Q .normal a w
  | fuel + 1, listed, a, w =>
    (Region.ready .any ops listed = [] → Q .normal a w) ∧
    ∀ i ∈ Region.ready .any ops listed, wpOp P ops Q i (fun a' w' => ((listed.setIfInBounds i true).getD z true = false → T w') ∧ wpUntil P ops Q T z fuel (listed.setIfInBounds i true) a' w') a w

theorem wpAny_of_until : ∀ (fuel : Nat) (listed : Array Bool) (a : Act) (w : World), wpUntil P ops Q T z fuel listed a w → wpAny P .any ops Q fuel listed a w
  | 0, _, _, _, h => h
  | fuel + 1, _, _, _, h => ⟨h.1, fun i hi => wpOp_mono (fun a' w' h' => wpAny_of_until fuel _ a' w' h'.2) (h.2 i hi)⟩

/-- Whatever has come up, what it waits for has come up. -/
def Down (ops : Array Oper) (listed : Array Bool) : Prop := ∀ (k : Nat) (o : Oper), ops[k]? = some o → listed.getD k true = true → ∀ e ∈ o.after, Region.binds .any e = true → listed.getD e.on true = true
theorem Down.start (n : Nat) (hn : ops.size = n) : Down ops (Array.replicate n false) := fun k o ho hk => by
  have hlt : k < ops.size := (Array.getElem?_eq_some_iff.1 ho).1
  simp [hn ▸ hlt] at hk
theorem Down.step {listed : Array Bool} {j : Nat} (h : Down ops listed) (hj : j ∈ Region.ready .any ops listed) : Down ops (listed.setIfInBounds j true) := fun k o ho hk e he hb => by
  have up : ∀ {x : Nat}, listed.getD x true = true → (listed.setIfInBounds j true).getD x true = true := fun {x} hx => by
    by_cases hxj : j = x
    · subst hxj
      simp [Array.getElem?_setIfInBounds]
      split <;> simp
    · rw [getD_set_ne true hxj]; exact hx
  by_cases hkj : k = j
  · subst hkj
    obtain ⟨_, oj, hoj, hall⟩ := mem_ready.1 hj
    rw [ho] at hoj; cases hoj
    have h1 := hall e he hb
    refine up ?_
    rcases Nat.lt_or_ge e.on listed.size with h' | h'
    · simpa [h'] using h1
    · simp [Array.getElem?_eq_none h'] at h1
  · rw [getD_set_ne true (Ne.symm hkj)] at hk
    exact up (h k o ho hk e he hb)

/-- Each number of the list waits for the one ahead of it. -/
def chain (ops : Array Oper) : Nat → List Nat → Bool
  | _, [] => true
  | x, y :: r => (match ops[y]? with | some o => o.after.any (fun e => Region.binds .any e && e.on == x) | none => false) && chain ops y r
theorem chain_spec : ∀ (l : List Nat) (x : Nat) (listed : Array Bool), Down ops listed → chain ops x l = true → listed.getD x true = false → listed.getD (l.getLastD x) true = false
  | [], _, _, _, _, h => h
  | y :: r, x, listed, hd, hc, h => by
    simp only [chain, Bool.and_eq_true] at hc
    have hy : listed.getD y true = false := by
      cases hl : listed.getD y true with
      | false => rfl
      | true =>
        cases ho : ops[y]? with
        | none => rw [ho] at hc; exact absurd hc.1 (by simp)
        | some o =>
          rw [ho] at hc
          obtain ⟨e, he, hb⟩ := Array.any_eq_true'.1 hc.1
          simp only [Bool.and_eq_true, beq_iff_eq] at hb
          have := hd y o ho hl e he hb.1
          rw [hb.2, h] at this
          cases this
    have := chain_spec r y listed hd hc.2 hy
    rwa [show (y :: r).getLastD x = r.getLastD y by cases r <;> rfl]

theorem until_first {i : Nat} {oi : Oper} {v : Value} (hi : ops[i]? = some oi) (hsel : ∀ (j : Nat) (o : Oper) cs b, ops[j]? = some o → o.op ≠ .select cs b)
    (hQ : ∀ c a w, Q (.panic c) (a.put oi.dst v) w → Q (.panic c) a w) (hiz : i ≠ z) (hz : ∀ listed, Down ops listed → listed.getD i true = false → listed.getD z true = false) :
    ∀ (fuel : Nat) (listed : Array Bool) (a : Act) (w : World), Down ops listed →
      (∀ j oj, ops[j]? = some oj → j ≠ i → listed.getD j true = false → (∀ e ∈ oj.after, Region.binds .any e = true → e.on ≠ i) → oi.apart ops oj = true) →
      i ∈ Region.ready .any ops listed → YieldsIf P ops T oi v a → T w →
      wpUntil P ops Q T z fuel (listed.setIfInBounds i true) (a.put oi.dst v) w → wpUntil P ops Q T z (fuel + 1) listed a w := by
  intro fuel
  induction fuel with
  | zero =>
    intro listed a w hdn hfree hr hy hS H
    refine ⟨fun h => (by rw [h] at hr; cases hr), fun j hj => ?_⟩
    by_cases hji : j = i
    · subst hji; exact hy.wpOp hi hS ⟨fun _ => hS, H⟩
    · have := ready_mono hj hji
      rw [H.1] at this
      cases this
  | succ fuel ih =>
    intro listed a w hdn hfree hr hy hS H
    refine ⟨fun h => (by rw [h] at hr; cases hr), fun j hj => ?_⟩
    by_cases hji : j = i
    · subst hji; exact hy.wpOp hi hS ⟨fun _ => hS, H⟩
    · have h1 := H.2 j (ready_mono hj hji)
      obtain ⟨hjun, oj, hoj, hall⟩ := mem_ready.1 hj
      have hnot : ∀ e ∈ oj.after, Region.binds .any e = true → e.on ≠ i := fun e he hb heq => by
        have h1 := hall e he hb
        have h0 := (mem_ready.1 hr).1
        rw [heq] at h1
        rcases Nat.lt_or_ge i listed.size with h' | h'
        · simp [h'] at h0 h1; rw [h0] at h1; cases h1
        · simp [Array.getElem?_eq_none h'] at h1
      have h2 := wpOp_putIf hoj (hfree j oj hoj hji hjun hnot) (fun cs b => hsel i oi cs b hi) (fun cs b => hsel j oj cs b hoj) hQ hy h1
      have hfree' : ∀ k ok, ops[k]? = some ok → k ≠ i → (listed.setIfInBounds j true).getD k true = false →
          (∀ e ∈ ok.after, Region.binds .any e = true → e.on ≠ i) → oi.apart ops ok = true := fun k ok hk hki hun hno => by
        refine hfree k ok hk hki ?_ hno
        by_cases hjk : j = k
        · subst hjk; exact hjun
        · rw [getD_set_ne true hjk] at hun; exact hun
      have hdn' := hdn.step hj
      have hin : (listed.setIfInBounds j true).getD i true = false := by rw [getD_set_ne true hji]; exact (mem_ready.1 hr).1
      have hzn := hz _ hdn' hin
      refine wpOp_mono (fun a' w' h3 => ?_) h2
      have hT : T w' := h3.2.1 (by rw [Array.setIfInBounds_comm _ _ (Ne.symm hji), getD_set_ne true hiz]; exact hzn)
      refine ⟨fun _ => hT, ih (listed.setIfInBounds j true) a' w' hdn' hfree' (ready_mono hr (Ne.symm hji)) h3.1 hT ?_⟩
      rw [Array.setIfInBounds_comm _ _ hji]
      exact h3.2.2

/-! The moves: the state of a walk keeps Down with it. -/
def Un (P : Program) (ops : Array Oper) (Q : Exit → Act → World → Prop) (T : World → Prop) (z fuel : Nat) (listed : Array Bool) (a : Act) (w : World) : Prop := Down ops listed → wpUntil P ops (NoPanic Q) T z fuel listed a w
theorem un_start {id : Nat} {a : Act} {w : World} (n : Nat) (hn : ops.size = n) (hm : P.follows .mixedOrders = true)
    (h : Un P ops Q T z n (Array.replicate n false) a { w with drawn := w.drawn + 1 }) : (Code.region id ops true).wp P Q a w := by
  subst hn
  exact wp_region_noPanic (wp_region_any hm (wpAny_of_until _ _ _ _ (h (Down.start _ rfl))))
theorem un_take {i fuel : Nat} {o : Oper} {v : Value} {listed : Array Bool} {a : Act} {w : World} (l : List Nat) (hi : ops[i]? = some o) (hs : Region.noSelect ops = true) (hf : Region.free .any ops listed i = true) (hr : (Region.ready .any ops listed).contains i = true)
    (hc : chain ops i l = true) (hl : l.getLastD i = z) (hiz : i ≠ z) (hy : YieldsIf P ops T o v a) (hT : T w) (a' : Act) (ha : a.put o.dst v = a')
    (h : Un P ops Q T z fuel (listed.setIfInBounds i true) a' w) : Un P ops Q T z (fuel + 1) listed a w := fun hd => by
  have hr' : i ∈ Region.ready .any ops listed := by simpa using hr
  exact until_first hi (Region.noSelect_spec hs) (fun _ _ _ h => h) hiz (fun listed hd hi => hl ▸ chain_spec l i listed hd hc hi) fuel listed a w hd (Region.free_spec hi hf) hr' hy hT (ha ▸ h (hd.step hr'))
theorem un_move {i fuel : Nat} {o : Oper} {listed : Array Bool} {a : Act} {w : World} (l : List Nat) (hi : ops[i]? = some o) (hs : Region.noSelect ops = true) (hf : Region.free .any ops listed i = true) (hr : (Region.ready .any ops listed).contains i = true)
    (hc : chain ops i l = true) (hl : l.getLastD i = z) (hiz : i ≠ z) (x : Operand) (ho : o.op = .move x) (hw : Region.wanted o (yielded ops a.tmps) = true) (hT : T w) (a' : Act) (ha : a.put o.dst (a.eval x) = a')
    (h : Un P ops Q T z fuel (listed.setIfInBounds i true) a' w) : Un P ops Q T z (fuel + 1) listed a w :=
  un_take l hi hs hf hr hc hl hiz (.inl ⟨hw, fun w _ => run_move x ho w⟩) hT a' ha h
theorem un_assign {i fuel : Nat} {o : Oper} {listed : Array Bool} {a : Act} {w : World} (l : List Nat) (hi : ops[i]? = some o) (hs : Region.noSelect ops = true) (hf : Region.free .any ops listed i = true) (hr : (Region.ready .any ops listed).contains i = true)
    (hc : chain ops i l = true) (hl : l.getLastD i = z) (hiz : i ≠ z) (x : Operand) (ho : o.op = .assign x) (hw : Region.wanted o (yielded ops a.tmps) = true) (hT : T w) (a' : Act) (ha : a.put o.dst (a.eval x) = a')
    (h : Un P ops Q T z fuel (listed.setIfInBounds i true) a' w) : Un P ops Q T z (fuel + 1) listed a w :=
  un_take l hi hs hf hr hc hl hiz (.inl ⟨hw, fun w _ => run_assign x ho w⟩) hT a' ha h
/-- The one operation that may come up. -/
theorem un_all {i fuel : Nat} {o : Oper} {listed : Array Bool} {a : Act} {w : World} (hi : ops[i]? = some o) (hr : Region.ready .any ops listed = [i]) (hw : Region.wanted o (yielded ops a.tmps) = true)
    (h : o.wp P a w (fun a' w' => ((listed.setIfInBounds i true).getD z true = false → T w') ∧ Un P ops Q T z fuel (listed.setIfInBounds i true) a' w') (NoPanic Q)) : Un P ops Q T z (fuel + 1) listed a w := fun hd =>
  ⟨fun h0 => absurd (hr ▸ h0) (by simp), fun j hj => by
    have hj' := hj
    rw [hr] at hj; simp at hj; subst hj
    unfold wpOp
    simp only [hi, hw, if_true]
    exact .inl (Oper.wp_mono (fun a' w' h' => ⟨h'.1, h'.2 (hd.step hj')⟩) h)⟩
theorem un_done {listed : Array Bool} {a : Act} {w : World} (hr : Region.ready .any ops listed = []) (h : Q .normal a w) (fuel : Nat) : Un P ops Q T z fuel listed a w := fun _ => by
  cases fuel with
  | zero => exact ⟨hr, NoPanic.normal h⟩
  | succ n => exact ⟨fun _ => NoPanic.normal h, fun i hi => by rw [hr] at hi; cases hi⟩
end
end Go.Proofs.Ytnhmibfgaoealaa
