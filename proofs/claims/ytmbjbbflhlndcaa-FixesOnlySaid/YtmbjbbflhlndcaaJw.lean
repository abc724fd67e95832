/-
  A struct in the midst of a block; cmds.whole, cmds.part; two commands compared.
-/
import Derived.Test.YtmbjbbflhlndcaaJv
import Derived.Deep.MidRow
namespace Go.Proofs.Ytmbjbbflhlndcaa
open Go.RowKit BigFrame
set_option linter.unusedVariables false
set_option linter.unusedSimpArgs false

theorem bx_range {w : World} {g : Nat} {cs es : List Value} {t : TypeId} (h : Bx w g cs t) (o : Nat) (he : ∀ j v, es[j]? = some v → cs[o + j]? = some v) : w.rangeAt g o es := fun j v hv => h.cell (o + j) v (he j v hv)
theorem bx_there {w : World} {g : Nat} {cs : List Value} {t : TypeId} (h : Bx w g cs t) (o n : Nat) (ho : o + n ≤ cs.length) : w.there g o n := fun j hj =>
  ⟨by rw [h.cell (o + j) _ (List.getElem?_eq_getElem (by omega))]; rfl, h.frozen _⟩
def setL : Nat → List Value → List Value → List Value
  | _, [], cs => cs
  | o, v :: vs, cs => setL (o + 1) vs (cs.set o v)
theorem bx_setCells {w : World} {g : Nat} {cs : List Value} {t : TypeId} (h : Bx w g cs t) (o : Nat) (vs : List Value) : Bx (w.setCells g o vs) g (setL o vs cs) t := by
  induction vs generalizing w o cs with
  | nil => exact h
  | cons v vs ih => exact ih (h.set_ o v) (o + 1)
theorem heap_setCells_other (g k : Nat) (hne : k ≠ g) (vs : List Value) : ∀ (o : Nat) (w : World), (w.setCells g o vs).heap[k]? = w.heap[k]? := by
  induction vs with
  | nil => intro o w; rfl
  | cons v vs ih => intro o w; exact (ih (o + 1) _).trans (Below.heap_setCell w _ _ k (by exact fun e => hne e))
theorem bx_setCells_other {w : World} {g k : Nat} {cs : List Value} {t : TypeId} (h : Bx w k cs t) (hne : k ≠ g) (o : Nat) (vs : List Value) : Bx (w.setCells g o vs) k cs t := by
  unfold Bx at h ⊢; rw [heap_setCells_other g k hne]; exact h
theorem below_setCells {B g : Nat} {a : World} (hg : B ≤ g) (vs : List Value) : ∀ (o : Nat) (w : World), Below B a w → Below B a (w.setCells g o vs) := by
  induction vs with
  | nil => intro o w h; exact h
  | cons v vs ih => intro o w h; exact ih (o + 1) _ (h.setCell (p := ⟨g, o, none⟩) hg v)
theorem size_setCells (g : Nat) (vs : List Value) : ∀ (o : Nat) (w : World), (w.setCells g o vs).heap.size = w.heap.size := by
  induction vs with
  | nil => intro o w; rfl
  | cons v vs ih => intro o w; exact (ih (o + 1) _).trans (by simp)
theorem rw_setCells {α : Type} {enc : α → List Value} {k : Nat} {w : World} {A : Option Addr} {l : List α} (h : Rw enc k w A l) {g : Nat} (o : Nat) (vs : List Value) (hg : ∀ b off, A = some ⟨b, off, none⟩ → b ≠ g) : Rw enc k (w.setCells g o vs) A l := fun hne => by
  obtain ⟨b, off, hA, hb, hc⟩ := h hne
  refine ⟨b, off, hA, by rw [size_setCells]; exact hb, fun i hi q v hv => ?_⟩
  rw [World.cell?_of_block (w := w) (heap_setCells_other g b (hg b off hA) vs o w)]
  exact hc i hi q v hv
theorem sizeC : (Try.prog.info? 27).map (·.size) = some 16 := by kernel_rfl
theorem cmEv_at (c : Cm) : ∀ j v, (encV c.ev)[j]? = some v → (encC c)[2 + j]? = some v := by
  intro j v h
  match j, h with
  | 0, h => exact h
  | 1, h => exact h
  | 2, h => exact h
  | 3, h => exact h
  | 4, h => exact h
  | 5, h => exact h
  | 6, h => exact h
  | 7, h => exact h
  | 8, h => exact h
  | 9, h => exact h
  | 10, h => exact h
  | j + 11, h => simp [encV] at h
theorem setEv (c : Cm) (e : Ev) : setL 2 (encV e) (encC c) = encC { c with ev := e } := rfl

set_option maxHeartbeats 1000000 in
theorem pWhole (c : Cm) (w : World) : Calls Try.prog 56 #[.agg (encC c).toArray] w (RetB w (wholeC c)) := by
  have hs0 := Bx.new w (encC c) 27
  have c0 := hs0.cell 0 _ rfl; have c1 := hs0.cell 1 _ rfl
  obtain ⟨R, hR⟩ : ∃ R, wholeC c = R := ⟨_, rfl⟩
  rw [hR]
  unfold wholeC at hR
  by_cases h1 : c.kind = 1
  · have d1 : (c.kind == 1) = true := beq_iff_eq.2 h1
    obtain rfl : R = true := by rw [← hR]; simp [h1]
    clear hR h1 hs0
    go_enter Try.func56, Try.ntmps56
    go_wp2
    go_ret
    exact ⟨rfl, (Ext.refl _).alloc _⟩
  · have d1 : (c.kind == 1) = false := beq_eq_false_iff_ne.2 h1
    have e1 : decide (c.kind = 1) = false := decide_eq_false h1
    by_cases h2 : c.kind = 2
    · have d2 : (c.kind == 2) = true := beq_iff_eq.2 h2
      have e2 : decide (c.kind = 2) = true := decide_eq_true h2
      by_cases h3 : c.fk = 1
      · have d3 : (c.fk == 1) = true := beq_iff_eq.2 h3
        obtain rfl : R = true := by rw [← hR]; simp [h2, h3]
        clear hR h1 h2 h3 hs0
        go_enter Try.func56, Try.ntmps56
        go_wp2
        go_ret
        exact ⟨rfl, (Ext.refl _).alloc _⟩
      · have d3 : (c.fk == 1) = false := beq_eq_false_iff_ne.2 h3
        have e3 : decide (c.fk = 1) = false := decide_eq_false h3
        have hR2 : Hid (R = (c.fk == 3)) := by show _ = _; rw [← hR, Bool.eq_iff_iff]; simp [h2, h3]
        clear hR h1 h2 h3 hs0
        go_enter Try.func56, Try.ntmps56
        go_wp2
        go_ret
        exact ⟨by rw [hR2.out]; rfl, (Ext.refl _).alloc _⟩
    · have d2 : (c.kind == 2) = false := beq_eq_false_iff_ne.2 h2
      have e2 : decide (c.kind = 2) = false := decide_eq_false h2
      obtain rfl : R = false := by rw [← hR]; simp [h1, h2]
      clear hR h1 h2 hs0
      go_enter Try.func56, Try.ntmps56
      go_wp2
      go_ret
      exact ⟨rfl, (Ext.refl _).alloc _⟩
theorem pPart (c : Cm) (w : World) : Calls Try.prog 54 #[.agg (encC c).toArray] w (RetB w (partC c)) := by
  have hs0 := Bx.new w (encC c) 27
  have c0 := hs0.cell 0 _ rfl; have c1 := hs0.cell 1 _ rfl
  obtain ⟨R, hR⟩ : ∃ R, partC c = R := ⟨_, rfl⟩
  rw [hR]
  unfold partC at hR
  by_cases h2 : c.kind = 2
  · have d2 : (c.kind == 2) = true := beq_iff_eq.2 h2
    have e2 : decide (c.kind = 2) = true := decide_eq_true h2
    have hR2 : Hid (R = (c.fk == 2)) := by show _ = _; rw [← hR, Bool.eq_iff_iff]; simp [h2]
    clear hR h2 hs0
    go_enter Try.func54, Try.ntmps54
    go_wp2
    go_ret
    exact ⟨by rw [hR2.out]; rfl, (Ext.refl _).alloc _⟩
  · have d2 : (c.kind == 2) = false := beq_eq_false_iff_ne.2 h2
    have e2 : decide (c.kind = 2) = false := decide_eq_false h2
    obtain rfl : R = false := by rw [← hR]; simp [h2]
    clear hR h2 hs0
    go_enter Try.func54, Try.ntmps54
    go_wp2
    go_ret
    exact ⟨rfl, (Ext.refl _).alloc _⟩

theorem cm_ext {e f : Cm} (h0 : e.kind = f.kind) (h1 : e.fk = f.fk) (h2 : e.ev.id = f.ev.id) (h3 : e.ev.worker = f.ev.worker) (h4 : e.ev.at_ = f.ev.at_) (h5 : e.ev.kind = f.ev.kind) (h6 : e.ev.fr = f.ev.fr) (h7 : e.ev.to = f.ev.to) (h8 : e.ev.element = f.ev.element) (h9 : e.ev.units = f.ev.units) (h10 : e.ev.cls = f.ev.cls) (h11 : e.ev.gear = f.ev.gear) (h12 : e.ev.code = f.ev.code) (h13 : e.worker = f.worker) (h14 : e.week = f.week) (h15 : e.tear = f.tear) : e = f := by
  rcases e with ⟨_, _, ⟨_, _, _, _, _, _, _, _, _, _, _⟩, _, _, _⟩
  rcases f with ⟨_, _, ⟨_, _, _, _, _, _, _, _, _, _, _⟩, _, _, _⟩
  simp only at h0 h1 h2 h3 h4 h5 h6 h7 h8 h9 h10 h11 h12 h13 h14 h15
  subst h0 h1 h2 h3 h4 h5 h6 h7 h8 h9 h10 h11 h12 h13 h14 h15
  rfl
theorem eqGuardC : Try.prog.eqGuardType Try.prog.depth 27 = false := by kernel_rfl
set_option maxHeartbeats 2000000 in
theorem eqInC (e f : Cm) (w : World) : (Op.equalIn 10000 27 (.agg (encC e).toArray) (.agg (encC f).toArray)).run Try.prog w = .ok (decide (e = f)) w := by
  have u3 := Try.underlying3
  have a3 := Try.isAgg3
  have z3 := Try.sizeOf3
  have hS : Try.prog.underlying 27 = some (.struct (Try.prog.fieldsOf 27)) := by kernel_rfl
  have hp : Try.prog.stoodInHeld 27 = false := by kernel_rfl
  rw [show (10000 : Nat) = 9999 + 1 from rfl, run_equalIn_agg w 9999 27 _ _ hS hp]
  simp only [Program.fieldsOf, Try.underlying27, encC]
  go_simp
  clear u3 a3 z3 hS hp
  by_cases h : e = f
  · subst h; simp
  · rw [decide_eq_false h]
    by_cases h0 : e.kind = f.kind
    case neg => rw [if_neg h0]
    rw [if_pos h0]
    by_cases h1 : e.fk = f.fk
    case neg => rw [if_neg h1]
    rw [if_pos h1]
    by_cases h2 : e.ev.id = f.ev.id
    case neg => rw [if_neg h2]
    rw [if_pos h2]
    by_cases h3 : e.ev.worker = f.ev.worker
    case neg => rw [if_neg h3]
    rw [if_pos h3]
    by_cases h4 : e.ev.at_ = f.ev.at_
    case neg => rw [if_neg h4]
    rw [if_pos h4]
    by_cases h5 : e.ev.kind = f.ev.kind
    case neg => rw [if_neg h5]
    rw [if_pos h5]
    by_cases h6 : e.ev.fr = f.ev.fr
    case neg => rw [if_neg h6]
    rw [if_pos h6]
    by_cases h7 : e.ev.to = f.ev.to
    case neg => rw [if_neg h7]
    rw [if_pos h7]
    by_cases h8 : e.ev.element = f.ev.element
    case neg => rw [if_neg h8]
    rw [if_pos h8]
    by_cases h9 : e.ev.units = f.ev.units
    case neg => rw [if_neg h9]
    rw [if_pos h9]
    by_cases h10 : e.ev.cls = f.ev.cls
    case neg => rw [if_neg h10]
    rw [if_pos h10]
    by_cases h11 : e.ev.gear = f.ev.gear
    case neg => rw [if_neg h11]
    rw [if_pos h11]
    by_cases h12 : e.ev.code = f.ev.code
    case neg => rw [if_neg h12]
    rw [if_pos h12]
    by_cases h13 : e.worker = f.worker
    case neg => rw [if_neg h13]
    rw [if_pos h13]
    by_cases h14 : e.week = f.week
    case neg => rw [if_neg h14]
    rw [if_pos h14]
    by_cases h15 : e.tear = f.tear
    case neg => rw [if_neg h15]
    rw [if_pos h15]
    exact absurd (cm_ext h0 h1 h2 h3 h4 h5 h6 h7 h8 h9 h10 h11 h12 h13 h14 h15) h

/-- A command when its own numbers are set to 0. -/
def stripC (c : Cm) : Cm := if c.kind = 2 then { c with fk := 0 } else if c.kind = 3 then { c with worker := 0, week := 0 } else if c.kind = 4 then { c with worker := 0 } else if c.kind = 5 ∨ c.kind = 6 ∨ c.kind = 7 then { c with week := 0 } else c
theorem zerosC_all (c : Cm) : zeros (ownCx c.kind) (encC c) = encC (stripC c) := by
  unfold ownCx stripC
  split
  · rfl
  · split
    · rfl
    · split
      · rfl
      · split <;> rfl
theorem ownCx_nodup (k : Int) : (ownCx k).Nodup := by
  unfold ownCx
  split
  · decide
  · split
    · decide
    · split
      · decide
      · split <;> decide
theorem ownCx_len (c : Cm) : (ownCx c.kind).length = (ownC c).length := by
  unfold ownCx ownC
  split
  · rfl
  · split
    · rfl
    · split
      · rfl
      · split <;> rfl
theorem ownC_vals (c : Cm) {k : Nat} {o : Nat} (h : (ownCx c.kind)[k]? = some o) : ∃ x, (ownC c)[k]? = some x ∧ (encC c)[o]? = some (.int .i64 x) := by
  unfold ownCx at h
  unfold ownC
  split at h
  · rename_i h2
    rw [if_pos h2]
    match k, h with
    | 0, h => cases h; exact ⟨_, rfl, rfl⟩
  · rename_i h2
    rw [if_neg h2]
    split at h
    · rename_i h3
      rw [if_pos h3]
      match k, h with
      | 0, h => cases h; exact ⟨_, rfl, rfl⟩
      | 1, h => cases h; exact ⟨_, rfl, rfl⟩
    · rename_i h3
      rw [if_neg h3]
      split at h
      · rename_i h4
        rw [if_pos h4]
        match k, h with
        | 0, h => cases h; exact ⟨_, rfl, rfl⟩
      · rename_i h4
        rw [if_neg h4]
        split at h
        · rename_i h5
          rw [if_pos h5]
          match k, h with
          | 0, h => cases h; exact ⟨_, rfl, rfl⟩
        · simp at h
theorem pOwnC {w : World} {g : Nat} {c : Cm} (hb : Bx w g (encC c) 27) : Calls Try.prog 53 #[.pointer (some ⟨g, 0, none⟩)] w (RetOwn w g (ownCx c.kind) (decide (1 ≤ c.kind ∧ c.kind ≤ 8))) :=
  ownC_Walk hb _ _ ⟨rfl, rfl⟩
/-- What is left of a plain command but its kind and its tear. -/
def bareC (c : Cm) : Cm := ⟨c.kind, 0, ev0, 0, 0, c.tear⟩
/-- The command when its event was looked at. -/
def calmC (c : Cm) : Cm := if wholeC c = true then { c with ev := ev0 } else if partC c = true then { c with ev := { c.ev with id := 0 } } else c
theorem calm_kind (c : Cm) : (calmC c).kind = c.kind ∧ (calmC c).fk = c.fk ∧ (calmC c).worker = c.worker ∧ (calmC c).week = c.week ∧ (calmC c).tear = c.tear := by
  unfold calmC
  split
  · exact ⟨rfl, rfl, rfl, rfl, rfl⟩
  · split <;> exact ⟨rfl, rfl, rfl, rfl, rfl⟩
theorem calm_own (c : Cm) : ownC (calmC c) = ownC c := by
  have := calm_kind c
  unfold ownC
  rw [this.1, this.2.1, this.2.2.1, this.2.2.2.1]
theorem strip_ev (c : Cm) : (stripC c).ev = c.ev ∧ (stripC c).kind = c.kind ∧ (stripC c).tear = c.tear := by
  unfold stripC
  split
  · exact ⟨rfl, rfl, rfl⟩
  · split
    · exact ⟨rfl, rfl, rfl⟩
    · split
      · exact ⟨rfl, rfl, rfl⟩
      · split <;> exact ⟨rfl, rfl, rfl⟩
theorem strip_nums (c : Cm) : ((stripC c).fk = 0 ∧ (stripC c).worker = 0 ∧ (stripC c).week = 0) ↔ ((c.kind ≠ 2 → c.fk = 0) ∧ (c.kind ≠ 3 ∧ c.kind ≠ 4 → c.worker = 0) ∧ (c.kind ≠ 3 ∧ ¬ (c.kind = 5 ∨ c.kind = 6 ∨ c.kind = 7) → c.week = 0)) := by
  unfold stripC
  split
  · rename_i h; simp; omega
  · split
    · simp; omega
    · split
      · simp; omega
      · split
        · simp; omega
        · simp; omega
theorem calm_plain {c : Cm} (hk : 1 ≤ c.kind ∧ c.kind ≤ 8) (ht : 0 ≤ c.tear) (ho : ∀ n ∈ ownC c, 0 ≤ n) (hw : wholeC c = true → fairB c.ev = true) (hp : wholeC c = false → partC c = true → 0 ≤ c.ev.id ∧ c.ev.id ≤ 100000) (hn : wholeC c = false → partC c = false → c.kind ≠ 2) :
    decide (stripC (calmC c) = bareC c) = plainC c := by
  rw [Bool.eq_iff_iff, decide_eq_true_iff, plainC_iff]
  have e1 := strip_ev (calmC c)
  have e2 := strip_nums (calmC c)
  have e3 := calm_kind c
  rw [e3.1, e3.2.1, e3.2.2.1, e3.2.2.2.1] at e2
  have key : stripC (calmC c) = bareC c ↔ (calmC c).ev = ev0 ∧ ((stripC (calmC c)).fk = 0 ∧ (stripC (calmC c)).worker = 0 ∧ (stripC (calmC c)).week = 0) := by
    constructor
    · intro h
      rw [h] at e1 ⊢
      exact ⟨e1.1.symm, rfl, rfl, rfl⟩
    · rintro ⟨h1, h2, h3, h4⟩
      have k1 : (stripC (calmC c)).ev = ev0 := e1.1.trans h1
      have k2 : (stripC (calmC c)).kind = c.kind := e1.2.1.trans e3.1
      have k3 : (stripC (calmC c)).tear = c.tear := e1.2.2.trans e3.2.2.2.2
      rcases hs : stripC (calmC c) with ⟨a, b, d, f, g, h⟩
      rw [hs] at h2 h3 h4 k1 k2 k3
      simp only at h2 h3 h4 k1 k2 k3
      unfold bareC
      rw [h2, h3, h4, k1, k2, k3]
  rw [key, e2]
  have kev : (calmC c).ev = ev0 ↔ (if wholeC c = true then fairB c.ev = true else if partC c = true then c.ev = { ev0 with id := c.ev.id } ∧ 0 ≤ c.ev.id ∧ c.ev.id ≤ 100000 else c.kind ≠ 2 ∧ c.ev = ev0) := by
    unfold calmC
    cases h1 : wholeC c
    · cases h2 : partC c
      · simp only [Bool.false_eq_true, if_false]
        exact ⟨fun h => ⟨hn h1 h2, h⟩, fun h => h.2⟩
      · simp only [Bool.false_eq_true, if_false, if_true]
        have := hp h1 h2
        constructor
        · intro h
          refine ⟨?_, this⟩
          rcases hv : c.ev with ⟨a1, a2, a3, a4, a5, a6, a7, a8, a9, a10, a11⟩
          rw [hv] at h
          simp [ev0] at h ⊢
          exact h
        · rintro ⟨h, _⟩
          rw [h]
          rfl
    · simp only [if_true]
      exact ⟨fun _ => hw h1, fun _ => trivial⟩
  rw [kev]
  constructor
  · rintro ⟨a, b⟩; exact ⟨hk, ht, ho, a, b⟩
  · rintro ⟨_, _, _, a, b⟩; exact ⟨a, b⟩
end Go.Proofs.Ytmbjbbflhlndcaa
