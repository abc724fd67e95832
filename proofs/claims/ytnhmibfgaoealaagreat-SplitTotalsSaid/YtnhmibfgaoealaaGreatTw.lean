/-
  Two rows of the call's own: one is appended to, the other one stays.
-/
import Derived.Test.YtnhmibfgaoealaaGreatApp
import Derived.Test.YtnhmibfgaoealaaGreatBx
namespace Go.Proofs.YtnhmibfgaoealaaGreat
open Go.RowKit

theorem Rs.new_at (w : World) (l : List Sp.S) (t : TypeId) (g : Nat) (hg : g = w.heap.size) : Rs (w.alloc (.cells (flat encS l).toArray t)) (some ⟨g, 0, none⟩) l := by subst hg; exact Rs.new w l t

def Apart (u v : Value) : Prop := u.ownBlock = none ∨ u.ownBlock ≠ v.ownBlock
theorem Apart.symm {u v : Value} (h : Apart u v) : Apart v u := by
  rcases h with h | h
  · cases hv : v.ownBlock with
    | none => exact .inl hv
    | some g => exact .inr (by rw [hv, h]; simp)
  · exact .inr fun e => h e.symm

theorem app_two {ops : Array Oper} {rest : List Oper} {o : Oper} {a : Act} {Q : Exit → Act → World → Prop} (w0 w : World) (X : Ext w0 w) (s x : Operand) (hgd : Region.wanted o (yielded ops a.tmps) = true)
    (ho : o.op = .call { callee := .builtin .append, args := #[s, x], argTypes := #[34, 34] })
    (n n2 : Nat) (v u : Value) (l l2 m : List Sp.S) (hs : a.eval s = v) (hown : w.ownsRow w0.heap.size 49 2 v n (flat encS l)) (hown2 : w.ownsRow w0.heap.size 49 2 u n2 (flat encS l2)) (hap : Apart u v) (A : Addr) (c k : Nat)
    (hx : a.eval x = .slice (some A) k c) (hm : Rs w (some A) m) (hk : k = m.length) (hn : n + m.length ≤ 4000000000000)
    (h : ∀ A' cap' w', w'.ownsRow w0.heap.size 49 2 (.slice A' (n + k) cap') (n + k) (flat encS (l ++ m)) → w'.ownsRow w0.heap.size 49 2 u n2 (flat encS l2) → Apart u (.slice A' (n + k) cap') → Ext w0 w' → wpList Tryz.prog ops Q rest (a.put o.dst (.slice A' (n + k) cap')) w') : wpList Tryz.prog ops Q (o :: rest) a w := by
  subst hk
  obtain ⟨i0, hi, hz0, hz1, hz2⟩ := info_parts info_span
  have hbase : w0.heap.size ≤ w.heap.size := X.size
  have one : ∀ u ∈ flat encS m, u.oneCell' = true := by
    intro u hu
    simp only [flat, List.mem_flatMap] at hu
    obtain ⟨y, _, hy⟩ := hu
    simp [encS] at hy
    rcases hy with rfl | rfl <;> rfl
  refine wpList_step fun K hK => ?_
  rw [if_pos hgd]
  refine wp_append_at w s x 34 ho w0.heap.size 49 i0 (.agg #[.int .i64 0, .int .i64 0]) 2 16 Tryz.underlying34 hi hz0 hz1 hz2 rfl (by decide) v n (flat encS l) hs hown A m.length c (flat encS m) hx (flat_length encS_len m) ?_ one (by unfold maxLen; omega) (by omega) hbase ?_
  · intro j u hj
    have hjl : j < m.length * 2 := by rw [← flat_length encS_len]; exact (List.getElem?_eq_some_iff.1 hj).1
    have hd : j / 2 < m.length := by omega
    obtain ⟨b, off, hA, _, hc⟩ := hm (by rintro rfl; simp at hjl)
    cases hA
    have hf := flat_at encS_len m (j / 2) hd (j % 2) (by omega)
    rw [show j / 2 * 2 + j % 2 = j from by omega, hj] at hf
    have := hc (j / 2) hd (j % 2) u hf.symm
    rw [show off + j / 2 * 2 + j % 2 = off + j from by omega] at this
    by_cases h0 : j = 0
    · subst h0; simpa [Addr.add] using this
    · simpa [Addr.add, h0] using this
  · intro v' w' ho' hg hv'
    obtain ⟨A', cap', hv, _⟩ := own_form ho'
    subst hv
    have hX := Below.grown X hg hbase fun g hg' => (hown.lt g hg').1
    refine hK _ _ (h A' cap' w' (by rw [flat_append]; exact ho') (hown2.kept hg hap) ?_ hX)
    rcases hap with hap | hap
    · exact .inl hap
    · rcases hv' with hv' | hv'
      · exact .inr (by rw [hv']; exact hap)
      · refine .inr fun e => ?_
        rw [hv'] at e
        have := (hown2.lt _ e).2
        omega
theorem cNormN {w : World} {A : Option Addr} {l : List Sp.S} (h : Rs w A l) (hl : l.length ≤ 900000) (n : Nat) (hn : l.length = n) (cap : Nat) : Calls Tryz.prog 23 #[.slice A n cap] w (RetS w (Sp.norm l)) := by subst hn; exact cNorm h hl cap


/-- The source may be nil. -/
theorem app_two_any {ops : Array Oper} {rest : List Oper} {o : Oper} {a : Act} {Q : Exit → Act → World → Prop} (w0 w : World) (X : Ext w0 w) (s x : Operand) (hgd : Region.wanted o (yielded ops a.tmps) = true)
    (ho : o.op = .call { callee := .builtin .append, args := #[s, x], argTypes := #[34, 34] })
    (n n2 : Nat) (v u : Value) (l l2 m : List Sp.S) (hs : a.eval s = v) (hown : w.ownsRow w0.heap.size 49 2 v n (flat encS l)) (hown2 : w.ownsRow w0.heap.size 49 2 u n2 (flat encS l2)) (hap : Apart u v) (A : Option Addr) (c k : Nat)
    (hx : a.eval x = .slice A k c) (hm : Rs w A m) (hk : k = m.length) (hn : n + m.length ≤ 4000000000000)
    (h : ∀ A' cap' w', w'.ownsRow w0.heap.size 49 2 (.slice A' (n + k) cap') (n + k) (flat encS (l ++ m)) → w'.ownsRow w0.heap.size 49 2 u n2 (flat encS l2) → Apart u (.slice A' (n + k) cap') → Ext w0 w' → w.grownBy w' v.ownBlock → wpList Tryz.prog ops Q rest (a.put o.dst (.slice A' (n + k) cap')) w') : wpList Tryz.prog ops Q (o :: rest) a w := by
  rcases A with _ | A
  · have hm0 : m = [] := by
      cases m with
      | nil => rfl
      | cons y r => obtain ⟨b, off, h0, _⟩ := hm (by simp); cases h0
    subst hm0
    subst hk
    obtain ⟨i0, hi, hz0, hz1, hz2⟩ := info_parts info_span
    refine wpList_step fun K hK => ?_
    rw [if_pos hgd]
    have hrun := run_append_none (P := Tryz.prog) w w0.heap.size 34 o.type 49 i0 2 Tryz.underlying34 hi v n (flat encS l) hown c
    unfold Oper.wp execOp
    simp only [ho, resolve, invoke, builtin, Sem.run_bind, Sem.run_pure, Result.andThen_ok, List.map_toArray, List.map_cons, List.map_nil, hs, hx, List.length_nil, hrun]
    obtain ⟨A', cap', hv, _⟩ := own_form hown
    subst hv
    have := h A' cap' w (by rw [List.append_nil]; exact hown) hown2 hap X (World.grownBy.refl w _)
    exact hK _ _ this
  · subst hk
    obtain ⟨i0, hi, hz0, hz1, hz2⟩ := info_parts info_span
    have hbase : w0.heap.size ≤ w.heap.size := X.size
    have one : ∀ u ∈ flat encS m, u.oneCell' = true := by
      intro u hu
      simp only [flat, List.mem_flatMap] at hu
      obtain ⟨y, _, hy⟩ := hu
      simp [encS] at hy
      rcases hy with rfl | rfl <;> rfl
    refine wpList_step fun K hK => ?_
    rw [if_pos hgd]
    refine wp_append_at w s x 34 ho w0.heap.size 49 i0 (.agg #[.int .i64 0, .int .i64 0]) 2 16 Tryz.underlying34 hi hz0 hz1 hz2 rfl (by decide) v n (flat encS l) hs hown A m.length c (flat encS m) hx (flat_length encS_len m) ?_ one (by unfold maxLen; omega) (by omega) hbase ?_
    · intro j u hj
      have hjl : j < m.length * 2 := by rw [← flat_length encS_len]; exact (List.getElem?_eq_some_iff.1 hj).1
      have hd : j / 2 < m.length := by omega
      obtain ⟨b, off, hA, _, hc⟩ := hm (by rintro rfl; simp at hjl)
      cases hA
      have hf := flat_at encS_len m (j / 2) hd (j % 2) (by omega)
      rw [show j / 2 * 2 + j % 2 = j from by omega, hj] at hf
      have := hc (j / 2) hd (j % 2) u hf.symm
      rw [show off + j / 2 * 2 + j % 2 = off + j from by omega] at this
      by_cases h0 : j = 0
      · subst h0; simpa [Addr.add] using this
      · simpa [Addr.add, h0] using this
    · intro v' w' ho' hg hv'
      obtain ⟨A', cap', hv, _⟩ := own_form ho'
      subst hv
      have hX := Below.grown X hg hbase fun g hg' => (hown.lt g hg').1
      refine hK _ _ (h A' cap' w' (by rw [flat_append]; exact ho') (hown2.kept hg hap) ?_ hX hg)
      rcases hap with hap | hap
      · exact .inl hap
      · rcases hv' with hv' | hv'
        · exact .inr (by rw [hv']; exact hap)
        · refine .inr fun e => ?_
          rw [hv'] at e
          have := (hown2.lt _ e).2
          omega
end Go.Proofs.YtnhmibfgaoealaaGreat
