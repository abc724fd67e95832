/-
  Rows of elements of any kind: what is read, what is the call's own, and append.
-/
import Derived.Test.YtmbjbbflhlndcaaJa
import Derived.Deep.AppendSrc
import Derived.Deep.RegionHeld3
namespace Go.Proofs.Ytmbjbbflhlndcaa
open Go.RowKit BigFrame
set_option linter.unusedVariables false
set_option linter.unusedSimpArgs false

/-- A kind of elements: S the slices' type, E the elements', k cells each. -/
structure El {α : Type} (enc : α → List Value) (k : Nat) (S E : TypeId) (bytes : Nat) : Prop where
  under : Try.prog.underlying S = some (.slice E)
  info : ∃ z, (Try.prog.info? E).map (fun i => (i.zero, i.size, i.bytes)) = some (some z, k, bytes) ∧ z.cells.size = k
  len : ∀ x, (enc x).length = k
  one : ∀ x u, u ∈ enc x → u.oneCell' = true
  pos : 0 < k
  few : bytes ≤ 200
  min : 1 ≤ bytes := by decide

section
variable {α : Type} {enc : α → List Value} {k : Nat} {S E : TypeId} {by_ : Nat}
/-- The slice at A reads as these. -/
def Rw (enc : α → List Value) (k : Nat) (w : World) (A : Option Addr) (l : List α) : Prop := Rd enc k w w.heap.size A l
theorem Rw.ext {w w' : World} {A : Option Addr} {l : List α} (h : Rw enc k w A l) (x : Ext w w') : Rw enc k w' A l := (Rd.below h x).more x.size
theorem Rw.alloc {w : World} {A : Option Addr} {l : List α} (h : Rw enc k w A l) (o : Obj) : Rw enc k (w.alloc o) A l := h.ext ((Ext.refl w).alloc o)
theorem Rw.drewN {w : World} {A : Option Addr} {l : List α} (h : Rw enc k w A l) (n : Nat) : Rw enc k (w.drewN n) A l := h.ext ((Ext.refl w).drewN n)
theorem Rw.nil {w : World} {A : Option Addr} : Rw enc k w A [] := Rd.nil
theorem Rw.none_nil {w : World} {l : List α} (h : Rw enc k w none l) : l = [] := by
  cases l with
  | nil => rfl
  | cons y r => obtain ⟨b, off, h0, _⟩ := h (by simp); cases h0
theorem Rw.own (el : El enc k S E by_) {w : World} {A : Option Addr} {n cap base e : Nat} {l : List α} (h : w.ownsRow base e k (.slice A n cap) l.length (flat enc l)) : Rw enc k w A l := Rd.of_own el.len h
theorem Rw.new_at (el : El enc k S E by_) (w : World) (l : List α) (t : TypeId) (g : Nat) (hg : g = w.heap.size) : Rw enc k (w.alloc (.cells (flat enc l).toArray t)) (some ⟨g, 0, none⟩) l := fun _ => by
  subst hg
  refine ⟨w.heap.size, 0, rfl, by simp, fun j hj i u hu => ?_⟩
  have hi : i < k := by have := (List.getElem?_eq_some_iff.1 hu).1; rwa [el.len] at this
  have := cells_new w (flat enc l) t (j * k + i) u (by rw [flat_at el.len l j hj i hi]; exact hu)
  rw [add_head] at this
  rw [Nat.zero_add]; exact this
theorem Rw.take {w : World} {A : Option Addr} {l : List α} (h : Rw enc k w A l) (j : Nat) : Rw enc k w A (l.take j) := fun hne => by
  obtain ⟨b, off, hA, hb, hc⟩ := h (by rintro rfl; simp at hne)
  refine ⟨b, off, hA, hb, fun i hi q u hu => hc i (by rw [List.length_take] at hi; omega) q u ?_⟩
  rw [List.getElem_take] at hu; exact hu
theorem Rw.drop {w : World} {A : Option Addr} {l : List α} (h : Rw enc k w A l) (j : Nat) : Rw enc k w (A.map (·.add (j * k))) (l.drop j) := fun hne => by
  obtain ⟨b, off, hA, hb, hc⟩ := h (by rintro rfl; simp at hne)
  refine ⟨b, off + j * k, ?_, hb, fun i hi q u hu => ?_⟩
  · subst hA
    by_cases h0 : j * k = 0
    · simp [Addr.add, h0]
    · simp [Addr.add, h0]
  · rw [List.length_drop] at hi
    rw [List.getElem_drop] at hu
    have := hc (j + i) (by omega) q u hu
    rw [show off + (j + i) * k + q = off + j * k + i * k + q by rw [Nat.add_mul]; omega] at this
    exact this

theorem own_nilG (w : World) (b : Nat) : w.ownsRow b E k (.slice none 0 0) 0 (flat enc []) := ⟨by simp [flat], .inl ⟨rfl, rfl⟩⟩
theorem own_emptyG (w : World) (b : Nat) (hb : b ≤ w.heap.size) : (w.alloc (.cells #[] E)).ownsRow b E k (.slice (some ⟨w.heap.size, 0, none⟩) 0 0) 0 (flat enc []) :=
  ⟨by simp [flat], .inr ⟨w.heap.size, 0, #[], rfl, hb, heap_alloc_new w _, Nat.le_refl _, Nat.zero_le _, by simp, by simp [flat]⟩⟩
theorem own_newG (el : El enc k S E by_) (w : World) (l : List α) (b : Nat) (hb : b ≤ w.heap.size) (hl : l.length ≤ 4000000000) : (w.alloc (.cells (flat enc l).toArray E)).ownsRow b E k (.slice (some ⟨w.heap.size, 0, none⟩) l.length l.length) l.length (flat enc l) :=
  ⟨flat_length el.len l, .inr ⟨w.heap.size, l.length, (flat enc l).toArray, rfl, hb, heap_alloc_new w _, Nat.le_refl _, by unfold maxLen; omega, by simpa using flat_length el.len l, by rw [List.take_of_length_le (by simp [flat_length el.len])]⟩⟩

/-- What a call leaves that hands back a slice. -/
def RetL (enc : α → List Value) (k : Nat) (E : TypeId) (w : World) (R : List α) (e : Ending) (w' : World) : Prop := ∃ A cap, e = .returned (.slice A R.length cap) ∧ Rw enc k w' A R ∧ Ext w w' ∧ w'.ownsRow w.heap.size E k (.slice A R.length cap) R.length (flat enc R)

/-- A whole slice put behind a row of the call's own. -/
theorem wp_appG (el : El enc k S E by_) {o : Oper} {a : Act} {K : Act → World → Prop} {Q : Exit → Act → World → Prop} (w0 w : World) (X : Ext w0 w) (s x : Operand)
    (ho : o.op = .call { callee := .builtin .append, args := #[s, x], argTypes := #[S, S] })
    (n : Nat) (v : Value) (l m : List α) (hs : a.eval s = v) (hown : w.ownsRow w0.heap.size E k v n (flat enc l)) (hnl : n = l.length) (A : Option Addr) (c mm : Nat)
    (hx : a.eval x = .slice A mm c) (hmm : mm = m.length) (hm : Rw enc k w A m) (hn : (l.length + m.length) * by_ ≤ 140737488355328)
    (h : ∀ A' cap' w', w'.ownsRow w0.heap.size E k (.slice A' (n + mm) cap') (n + mm) (flat enc (l ++ m)) → Ext w0 w' → w.grownBy w' v.ownBlock → ((Value.slice A' (n + mm) cap').ownBlock = v.ownBlock ∨ (Value.slice A' (n + mm) cap').ownBlock = some w.heap.size) → K (a.put o.dst (.slice A' (n + mm) cap')) w') : o.wp Try.prog a w K Q := by
  subst hnl
  subst hmm
  obtain ⟨z, hinfo, hzc⟩ := el.info
  obtain ⟨i0, hi, hz0, hz1, hz2⟩ := info_parts hinfo
  have hbase : w0.heap.size ≤ w.heap.size := X.size
  have one : ∀ u ∈ flat enc m, u.oneCell' = true := by
    intro u hu
    simp only [flat, List.mem_flatMap] at hu
    obtain ⟨y, _, hy⟩ := hu
    exact el.one y u hy
  rcases A with _ | ad
  · have hm0 := hm.none_nil
    subst hm0
    have hrun := run_append_none (P := Try.prog) w w0.heap.size S o.type E i0 k el.under hi v l.length (flat enc l) hown c
    unfold Oper.wp execOp
    simp only [ho, resolve, invoke, builtin, Sem.run_bind, Sem.run_pure, Result.andThen_ok, List.map_toArray, List.map_cons, List.map_nil, hs, hx, List.length_nil, hrun]
    obtain ⟨A', cap', hv, _⟩ := own_form hown
    have := h A' cap' w (by rw [List.append_nil, List.length_nil, Nat.add_zero, ← hv]; exact hown) X (World.grownBy.refl w _) (.inl (by rw [List.length_nil, Nat.add_zero, hv]))
    rw [List.length_nil, Nat.add_zero] at this
    rw [hv]
    exact this
  · have hb : l.length + m.length ≤ 140737488355328 := Nat.le_trans (Nat.le_mul_of_pos_right _ el.min) hn
    refine wp_append_at w s x S ho w0.heap.size E i0 z k by_ el.under hi hz0 hz1 hz2 hzc el.pos v l.length (flat enc l) hs hown ad m.length c (flat enc m) hx (flat_length el.len m) ?_ one (by unfold maxLen; omega) hn hbase ?_
    · intro j u hj
      have hjl : j < m.length * k := by rw [← flat_length el.len]; exact (List.getElem?_eq_some_iff.1 hj).1
      have hd : j / k < m.length := Nat.div_lt_of_lt_mul (by rwa [Nat.mul_comm])
      obtain ⟨b, off, hA, _, hc⟩ := hm (by rintro rfl; simp at hjl)
      cases hA
      have hdm : j / k * k + j % k = j := by rw [Nat.mul_comm]; exact Nat.div_add_mod j k
      have hf := flat_at el.len m (j / k) hd (j % k) (Nat.mod_lt _ el.pos)
      rw [hdm, hj] at hf
      have := hc (j / k) hd (j % k) u hf.symm
      rw [Nat.add_assoc, hdm] at this
      by_cases h0 : j = 0
      · subst h0; simpa [Addr.add] using this
      · simpa [Addr.add, h0] using this
    · intro v' w' ho' hg hv'
      obtain ⟨A', cap', hv, _⟩ := own_form ho'
      subst hv
      exact h A' cap' w' (by rw [flat_append]; exact ho') (Below.grown X hg hbase fun g hg' => (hown.lt g hg').1) hg hv'
theorem appG (el : El enc k S E by_) {ops : Array Oper} {rest : List Oper} {o : Oper} {a : Act} {Q : Exit → Act → World → Prop} (w0 w : World) (X : Ext w0 w) (s x : Operand) (hgd : Region.wanted o (yielded ops a.tmps) = true)
    (ho : o.op = .call { callee := .builtin .append, args := #[s, x], argTypes := #[S, S] })
    (n : Nat) (v : Value) (l m : List α) (hs : a.eval s = v) (hown : w.ownsRow w0.heap.size E k v n (flat enc l)) (hnl : n = l.length) (A : Option Addr) (c mm : Nat)
    (hx : a.eval x = .slice A mm c) (hmm : mm = m.length) (hm : Rw enc k w A m) (hn : (l.length + m.length) * by_ ≤ 140737488355328)
    (h : ∀ A' cap' w', w'.ownsRow w0.heap.size E k (.slice A' (n + mm) cap') (n + mm) (flat enc (l ++ m)) → Ext w0 w' → wpList Try.prog ops Q rest (a.put o.dst (.slice A' (n + mm) cap')) w') : wpList Try.prog ops Q (o :: rest) a w := by
  refine wpList_step fun K hK => ?_
  rw [if_pos hgd]
  exact wp_appG el w0 w X s x ho n v l m hs hown hnl A c mm hx hmm hm hn fun A' cap' w' h1 h2 _ _ => hK _ _ (h A' cap' w' h1 h2)
/-- The same, with what is told of where the row lies. -/
theorem appGB (el : El enc k S E by_) {ops : Array Oper} {rest : List Oper} {o : Oper} {a : Act} {Q : Exit → Act → World → Prop} (w0 w : World) (X : Ext w0 w) (s x : Operand) (hgd : Region.wanted o (yielded ops a.tmps) = true)
    (ho : o.op = .call { callee := .builtin .append, args := #[s, x], argTypes := #[S, S] })
    (n : Nat) (v : Value) (l m : List α) (hs : a.eval s = v) (hown : w.ownsRow w0.heap.size E k v n (flat enc l)) (hnl : n = l.length) (A : Option Addr) (c mm : Nat)
    (hx : a.eval x = .slice A mm c) (hmm : mm = m.length) (hm : Rw enc k w A m) (hn : (l.length + m.length) * by_ ≤ 140737488355328)
    (h : ∀ A' cap' w', w'.ownsRow w0.heap.size E k (.slice A' (n + mm) cap') (n + mm) (flat enc (l ++ m)) → Ext w0 w' → w.grownBy w' v.ownBlock → ((Value.slice A' (n + mm) cap').ownBlock = v.ownBlock ∨ (Value.slice A' (n + mm) cap').ownBlock = some w.heap.size) → wpList Try.prog ops Q rest (a.put o.dst (.slice A' (n + mm) cap')) w') : wpList Try.prog ops Q (o :: rest) a w := by
  refine wpList_step fun K hK => ?_
  rw [if_pos hgd]
  exact wp_appG el w0 w X s x ho n v l m hs hown hnl A c mm hx hmm hm hn fun A' cap' w' h1 h2 h3 h4 => hK _ _ (h A' cap' w' h1 h2 h3 h4)
theorem Rw.moved {w w' : World} {A : Option Addr} {l : List α} {row : Option Nat} (h : Rw enc k w A l) (hg : w.grownBy w' row) (hne : ∀ b off, A = some ⟨b, off, none⟩ → some b ≠ row) : Rw enc k w' A l := fun hl => by
  obtain ⟨b, off, hA, hb, hc⟩ := h hl
  refine ⟨b, off, hA, Nat.lt_of_lt_of_le hb hg.size, fun j hj i u hu => ?_⟩
  rw [World.cell?_of_block (w := w) (hg.block b hb (hne b off hA))]
  exact hc j hj i u hu
/-- One element, in a region that draws its order. -/
theorem step_appG (el : El enc k S E by_) {ops : Array Oper} {o : Oper} {a : Act} {K : Act → World → Prop} {Q : Exit → Act → World → Prop} {F : Prop} (w0 w : World) (X : Ext w0 w) (hgd : Region.wanted o (yielded ops a.tmps) = true) (s x : Operand)
    (ho : o.op = .call { callee := .builtin .append, args := #[s, x], argTypes := #[S, S] })
    (n : Nat) (v : Value) (l m : List α) (hs : a.eval s = v) (hown : w.ownsRow w0.heap.size E k v n (flat enc l)) (hnl : n = l.length) (A : Option Addr) (c mm : Nat)
    (hx : a.eval x = .slice A mm c) (hmm : mm = m.length) (hm : Rw enc k w A m) (hn : (l.length + m.length) * by_ ≤ 140737488355328)
    (h : ∀ A' cap' w', w'.ownsRow w0.heap.size E k (.slice A' (n + mm) cap') (n + mm) (flat enc (l ++ m)) → Ext w0 w' → K (a.put o.dst (.slice A' (n + mm) cap')) w') :
    if Region.wanted o (yielded ops a.tmps) = true then Oper.wp Try.prog o a w K Q else F := by
  rw [if_pos hgd]
  exact wp_appG el w0 w X s x ho n v l m hs hown hnl A c mm hx hmm hm hn fun A' cap' w' h1 h2 _ _ => h A' cap' w' h1 h2
end

/-- Bytes. -/
def encB (c : UInt8) : List Value := [.int .u8 (c.toNat : Int)]
theorem elB : El encB 1 29 5 1 where
  under := Try.underlying29
  info := ⟨.int .u8 0, by kernel_rfl, rfl⟩
  len := fun _ => rfl
  one := fun x u h => by simp [encB] at h; subst h; rfl
  pos := by decide
  few := by decide
abbrev Rb := Rw encB 1
abbrev RetBy := RetL encB 1 5
/-- Numbers. -/
theorem elN : El encN 1 52 3 8 where
  under := Try.underlying52
  info := ⟨.int .i64 0, by kernel_rfl, rfl⟩
  len := fun _ => rfl
  one := fun x u h => by simp [encN] at h; subst h; rfl
  pos := by decide
  few := by decide
theorem Rd.atB {w w' : World} {A : Option Addr} {l : List UInt8} (h : Rb w A l) (hX : Ext w w') {j : Nat} (hj : j < l.length) :
    ∃ b off c, A = some ⟨b, off, none⟩ ∧ b < w.heap.size ∧ Hid (l[j]? = some c) ∧ w'.cell? ⟨b, off + j, none⟩ = some (.int .u8 (UInt8.toNat c : Int)) := by
  obtain ⟨b, off, c, hA, hb, hx, hc⟩ := (Rd.below h hX).at_ hj
  refine ⟨b, off, c, hA, hb, hx, ?_⟩
  have := hc 0 _ rfl
  rw [Nat.mul_one, Nat.add_zero] at this
  exact this
end Go.Proofs.Ytmbjbbflhlndcaa
