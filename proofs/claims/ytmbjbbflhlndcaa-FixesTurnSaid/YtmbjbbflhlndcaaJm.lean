/-
  Maps of the call's own, keyed by numbers; a region that draws its order, walked by what holds at each of its states.
-/
import Derived.Test.YtmbjbbflhlndcaaJc
import Derived.OrdersHeld
import Derived.MapKept
namespace Go.Proofs.Ytmbjbbflhlndcaa
open Go.RowKit BigFrame
set_option linter.unusedVariables false
set_option linter.unusedSimpArgs false

/-- Block r is a map with these entries. -/
def MapAt (w : World) (r : Nat) (es : List (Int × Value)) : Prop := ∃ (ents : Array MapEntry) (clock : Nat), w.heap[r]? = some (.map ents clock) ∧ ents.toList.map (fun e => (e.key, e.val)) = es.map (fun p => (Value.int .i64 p.1, p.2))
section
variable {P : Program} {w w' : World} {r : Nat} {es : List (Int × Value)} {T K E : TypeId}
theorem MapAt.lt (h : MapAt w r es) : r < w.heap.size := by
  obtain ⟨ents, clock, hh, _⟩ := h
  exact (Array.getElem?_eq_some_iff.1 hh).1
theorem MapAt.block (h : MapAt w r es) (hb : w'.heap[r]? = w.heap[r]?) : MapAt w' r es := by
  obtain ⟨ents, clock, hh, he⟩ := h
  exact ⟨ents, clock, hb.trans hh, he⟩
theorem MapAt.ext (h : MapAt w r es) (x : Ext w w') : MapAt w' r es := h.block (x.block r h.lt)
theorem MapAt.alloc (h : MapAt w r es) (o : Obj) : MapAt (w.alloc o) r es := h.ext ((Ext.refl w).alloc o)
theorem MapAt.new (w : World) : MapAt (w.alloc (.map #[] 0)) w.heap.size [] := ⟨#[], 0, heap_alloc_new w _, rfl⟩

theorem findNow_none (k : Int) : ∀ (l : List MapEntry) (i : Nat), (∀ e ∈ l, ∃ x, e.key = .int .i64 x ∧ x ≠ k) → Instr.findNow (.int .i64) (.int .i64 k) l i = some none
  | [], _, _ => rfl
  | e :: l, i, h => by
    obtain ⟨x, hx, hn⟩ := h e (by simp)
    have : Instr.sameNow (.int .i64) (.int .i64 k) e.key = some false := by
      rw [hx]
      show (if IntKind.i64 = IntKind.i64 then some (k == x) else none) = some false
      rw [if_pos rfl, beq_eq_false_iff_ne.2 (Ne.symm hn)]
    unfold Instr.findNow
    rw [this]
    exact findNow_none k l (i + 1) fun e' h' => h e' (by simp [h'])
theorem findNow_some (k : Int) (v : Value) : ∀ (l : List MapEntry) (i : Nat), (∀ e ∈ l, ∃ x, e.key = .int .i64 x ∧ (x = k → e.val = v)) → (∃ e ∈ l, e.key = .int .i64 k) → ∃ j, Instr.findNow (.int .i64) (.int .i64 k) l i = some (some (j, v))
  | [], _, _, h => by obtain ⟨e, he, _⟩ := h; simp at he
  | e :: l, i, h, hk => by
    obtain ⟨x, hx, hn⟩ := h e (by simp)
    unfold Instr.findNow
    by_cases hxk : x = k
    · have : Instr.sameNow (.int .i64) (.int .i64 k) e.key = some true := by
        rw [hx]
        show (if IntKind.i64 = IntKind.i64 then some (k == x) else none) = some true
        rw [if_pos rfl, beq_iff_eq.2 hxk.symm]
      rw [this, hn hxk]
      exact ⟨i, rfl⟩
    · have : Instr.sameNow (.int .i64) (.int .i64 k) e.key = some false := by
        rw [hx]
        show (if IntKind.i64 = IntKind.i64 then some (k == x) else none) = some false
        rw [if_pos rfl, beq_eq_false_iff_ne.2 (Ne.symm hxk)]
      rw [this]
      refine findNow_some k v l (i + 1) (fun e' h' => h e' (by simp [h'])) ?_
      obtain ⟨e', he', hk'⟩ := hk
      rcases List.mem_cons.1 he' with rfl | he'
      · rw [hx] at hk'
        injection hk' with _ hk'
        exact absurd hk' hxk
      · exact ⟨e', he', hk'⟩

theorem run_checkKey_int (hK : P.underlying K = some (.int .i64)) (em : Bool) (n : Nat) (k : Int) : (Instr.checkKey em (n + 1) K (.int .i64 k)).run P w = .ok () w := by
  unfold Instr.checkKey
  simp [underlying, hK, Result.andThen]

theorem MapAt.entry {ents : Array MapEntry} (he : ents.toList.map (fun e => (e.key, e.val)) = es.map (fun p => (Value.int .i64 p.1, p.2))) {e : MapEntry} (h : e ∈ ents.toList) : ∃ p ∈ es, e.key = .int .i64 p.1 ∧ e.val = p.2 := by
  have : (e.key, e.val) ∈ es.map (fun p => (Value.int .i64 p.1, p.2)) := by rw [← he]; exact List.mem_map_of_mem h
  obtain ⟨p, hp, hq⟩ := List.mem_map.1 this
  injection hq with h1 h2
  exact ⟨p, hp, h1.symm, h2.symm⟩

theorem run_lookup_none (h : MapAt w r es) (hT : P.underlying T = some (.map K E)) (hK : P.underlying K = some (.int .i64)) (k : Int) (hn : ∀ p ∈ es, p.1 ≠ k) (z : Value) (hz : (zeroValue E).run P w = .ok z w) :
    (Instr.lookup T (.map (some r)) (.int .i64 k) true).run P w = .ok (.tuple #[z, .bool false]) w := by
  obtain ⟨ents, clock, hh, he⟩ := h
  have hf := findNow_none k ents.toList 0 (fun e h => by
    obtain ⟨p, hp, h1, _⟩ := MapAt.entry he h
    exact ⟨p.1, h1, hn p hp⟩)
  have hck := fun b => run_checkKey_int (P := P) (w := w) hK b 9999 k
  simp [Instr.lookup, run_underlying hT, MapKept.run_getObj_map hh, hck, MapKept.run_findKey hK hf, hz, Result.andThen]
theorem run_lookup_some (h : MapAt w r es) (hT : P.underlying T = some (.map K E)) (hK : P.underlying K = some (.int .i64)) (k : Int) (v : Value) (hv : (k, v) ∈ es) (hu : ∀ p ∈ es, p.1 = k → p.2 = v) :
    (Instr.lookup T (.map (some r)) (.int .i64 k) true).run P w = .ok (.tuple #[v, .bool true]) w := by
  obtain ⟨ents, clock, hh, he⟩ := h
  obtain ⟨j, hf⟩ := findNow_some k v ents.toList 0 (fun e h => by
    obtain ⟨p, hp, h1, h2⟩ := MapAt.entry he h
    exact ⟨p.1, h1, fun e => by rw [h2]; exact hu p hp e⟩) (by
    have : (Value.int .i64 k, v) ∈ ents.toList.map (fun e => (e.key, e.val)) := by rw [he]; exact List.mem_map.2 ⟨_, hv, rfl⟩
    obtain ⟨e, h1, h2⟩ := List.mem_map.1 this
    injection h2 with h2 _
    exact ⟨e, h1, h2⟩)
  have hck := fun b => run_checkKey_int (P := P) (w := w) hK b 9999 k
  simp [Instr.lookup, run_underlying hT, MapKept.run_getObj_map hh, hck, MapKept.run_findKey hK hf, Result.andThen]
theorem run_insert (h : MapAt w r es) (hT : P.underlying T = some (.map K E)) (hK : P.underlying K = some (.int .i64)) (k : Int) (hn : ∀ p ∈ es, p.1 ≠ k) (v : Value) :
    ∃ o, (Instr.mapUpdate T (.map (some r)) (.int .i64 k) v).run P w = .ok () { w with heap := w.heap.setIfInBounds r o } ∧ MapAt { w with heap := w.heap.setIfInBounds r o } r (es ++ [(k, v)]) := by
  have hlt := h.lt
  obtain ⟨ents, clock, hh, he⟩ := h
  have hf := findNow_none k ents.toList 0 (fun e h => by
    obtain ⟨p, hp, h1, _⟩ := MapAt.entry he h
    exact ⟨p.1, h1, hn p hp⟩)
  have hck := fun b => run_checkKey_int (P := P) (w := w) hK b 9999 k
  refine ⟨.map (ents.push { key := .int .i64 k, val := v, born := clock }) (clock + 1), ?_, ents.push { key := .int .i64 k, val := v, born := clock }, clock + 1, ?_, ?_⟩
  · simp [Instr.mapUpdate, run_underlying hT, MapKept.run_getObj_map hh, hck, MapKept.run_findKey hK hf, MapKept.run_setObj_map _ hh, Result.andThen]
  · simp [hlt]
  · rw [Array.toList_push, List.map_append, he, List.map_append]
    rfl

/-- An entry put into a map of the call's own. -/
theorem wp_insert {o : Oper} {a : Act} {G : Act → World → Prop} {Q : Exit → Act → World → Prop} (m x y : Operand) (ho : o.op = .insert T m x y) (hT : P.underlying T = some (.map K E)) (hK : P.underlying K = some (.int .i64))
    (hm : a.eval m = .map (some r)) (k : Int) (hx : a.eval x = .int .i64 k) (v : Value) (hv : a.eval y = v) (h : MapAt w r es) (hn : ∀ p ∈ es, p.1 ≠ k) (hd : o.dst = none)
    (hG : ∀ o', MapAt { w with heap := w.heap.setIfInBounds r o' } r (es ++ [(k, v)]) → G a { w with heap := w.heap.setIfInBounds r o' }) : o.wp P a w G Q := by
  obtain ⟨o', hrun, hM⟩ := run_insert h hT hK k hn v
  unfold Oper.wp execOp
  simp only [ho, hm, hx, hv, Sem.run_bind, hrun, Result.andThen_ok, Sem.run_pure]
  have := hG o' hM
  simp only [Oper.upon, hd, Act.put]
  exact this
theorem wp_makeMap {o : Oper} {a : Act} {G : Act → World → Prop} {Q : Exit → Act → World → Prop} (ho : o.op = .makeMap T none) (hG : G (a.put o.dst (.map (some w.heap.size))) (w.alloc (.map #[] 0))) : o.wp P a w G Q := by
  unfold Oper.wp execOp
  simp only [ho]
  exact hG
end

theorem below_put {B r : Nat} {a w : World} (h : Below B a w) (hr : B ≤ r) (o : Obj) : Below B a { w with heap := w.heap.setIfInBounds r o } :=
  h.trans ⟨rfl, rfl, rfl, by simp, fun k hk => by
    show (w.heap.setIfInBounds r o)[k]? = _
    rw [Array.getElem?_setIfInBounds]
    split
    · omega
    · rfl⟩
theorem bx_put {w : World} {g r : Nat} {cs : List Value} {t : TypeId} (h : Bx w g cs t) (hg : g ≠ r) (o : Obj) : Bx { w with heap := w.heap.setIfInBounds r o } g cs t := by
  unfold Bx at h ⊢
  show (w.heap.setIfInBounds r o)[g]? = _
  rw [Array.getElem?_setIfInBounds]
  split
  · omega
  · exact h

section
variable {P : Program} {ops : Array Oper} {Q : Exit → Act → World → Prop} {S : World → Prop}
theorem ready_self {L : Array Bool} {i : Nat} (h : i ∈ Region.ready .any ops L) : L.getD i true = false := by
  simp only [Region.ready, List.mem_filter, Bool.and_eq_true, Bool.not_eq_true'] at h
  exact h.2.1
theorem ready_lt {L : Array Bool} {i : Nat} (h : i ∈ Region.ready .any ops L) : i < ops.size := by
  simp only [Region.ready, List.mem_filter, List.mem_range] at h
  exact h.1
theorem ready_dep {L : Array Bool} {i j : Nat} (o : Oper) (ho : ops[i]? = some o) (hj : (o.after.toList.any fun e => e.on == j && Region.binds .any e) = true) (h : i ∈ Region.ready .any ops L) : L.getD j false = true := by
  simp only [Region.ready, List.mem_filter, Bool.and_eq_true, ho, Option.map_some, Option.getD_some] at h
  obtain ⟨e, he, h1⟩ := List.any_eq_true.1 hj
  rw [Bool.and_eq_true, beq_iff_eq] at h1
  have h2 := h.2.2
  rw [← Array.all_toList, List.all_eq_true] at h2
  have h3 := h2 e he
  rw [h1.2, h1.1] at h3
  simpa using h3
theorem ready_mem {L : Array Bool} {i : Nat} (hi : i < ops.size) (h : (!L.getD i true && ((ops[i]?).map (·.after.all fun e => !Region.binds .any e || L.getD e.on false)).getD false) = true) : i ∈ Region.ready .any ops L := by
  simp only [Region.ready, List.mem_filter, List.mem_range]
  exact ⟨hi, h⟩
theorem wpOp_mono {i : Nat} {K K' : Act → World → Prop} (hk : ∀ a w, K a w → K' a w) {a : Act} {w : World} (h : wpOp P ops Q i K a w) : wpOp P ops Q i K' a w := by
  unfold wpOp at *
  cases ho : ops[i]? with
  | none => rw [ho] at h; exact hk _ _ h
  | some o =>
    rw [ho] at h
    simp only at h ⊢
    split
    · rename_i hw
      rw [if_pos hw] at h
      rcases h with h | h
      · exact .inl (Oper.wp_mono hk h)
      · exact .inr h
    · rename_i hw
      rw [if_neg hw] at h
      exact hk _ _ h
/-- A region that draws its order, walked by what holds at each of its states. -/
theorem held_inv (I : Nat → Array Bool → Act → World → Prop)
    (hI : ∀ f L a w, I f L a w → wpAnyH P .any ops Q (fun _ => True) f L a w ∨ (∃ g, f = g + 1 ∧ Region.ready .any ops L ≠ [] ∧ ∀ i ∈ Region.ready .any ops L, wpOp P ops Q i (fun a' w' => I g (L.setIfInBounds i true) a' w') a w)) :
    ∀ f L a w, I f L a w → wpAnyH P .any ops Q (fun _ => True) f L a w := by
  intro f
  induction f with
  | zero =>
    intro L a w h
    rcases hI 0 L a w h with h | ⟨g, hg, _⟩
    · exact h
    · omega
  | succ f ih =>
    intro L a w h
    rcases hI _ L a w h with h | ⟨g, hg, hne, hs⟩
    · exact h
    · obtain rfl : f = g := by omega
      exact ⟨fun h0 => absurd h0 hne, fun i hi => wpOp_mono (fun a w h => ⟨trivial, ih _ _ _ h⟩) (hs i hi)⟩
theorem wpOp_in {i : Nat} {o : Oper} {K : Act → World → Prop} {a : Act} {w : World} (ho : ops[i]? = some o) (hg : o.guard = none) (h : o.wp P a w K Q) : wpOp P ops Q i K a w := by
  unfold wpOp
  simp only [ho, Region.wanted, hg, if_true]
  exact .inl h
end
end Go.Proofs.Ytmbjbbflhlndcaa
