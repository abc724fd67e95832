/-
  A whole slice of spans put behind a row of the call's own, guarded or not.
-/
import Derived.Test.YtnhmibfgaoealaaGreatMi
namespace Go.Proofs.YtnhmibfgaoealaaGreat
open Go.RowKit

theorem own_empty (w : World) : (w.alloc (.cells #[] 49)).ownsRow w.heap.size 49 2 (.slice (some ⟨w.heap.size, 0, none⟩) 0 0) 0 (flat encS []) :=
  ⟨rfl, .inr ⟨w.heap.size, 0, #[], rfl, Nat.le_refl _, heap_alloc_new w _, Nat.le_refl _, Nat.zero_le _, rfl, rfl⟩⟩
theorem own_nil (w : World) (b : Nat) : w.ownsRow b 49 2 (.slice none 0 0) 0 (flat encS []) := ⟨rfl, .inl ⟨rfl, rfl⟩⟩

theorem app_row {ops : Array Oper} {rest : List Oper} {o : Oper} {a : Act} {Q : Exit → Act → World → Prop} (w0 w : World) (X : Ext w0 w) (s x : Operand) (hgd : Region.wanted o (yielded ops a.tmps) = true)
    (ho : o.op = .call { callee := .builtin .append, args := #[s, x], argTypes := #[34, 34] })
    (n : Nat) (v : Value) (l m : List Sp.S) (hs : a.eval s = v) (hown : w.ownsRow w0.heap.size 49 2 v n (flat encS l)) (hnl : n = l.length) (A : Option Addr) (c : Nat)
    (hx : a.eval x = .slice A m.length c) (hm : Rs w A m) (hn : l.length + m.length ≤ 4000000000000)
    (h : ∀ A' cap' w', w'.ownsRow w0.heap.size 49 2 (.slice A' (l ++ m).length cap') (l ++ m).length (flat encS (l ++ m)) → Ext w0 w' → wpList Tryz.prog ops Q rest (a.put o.dst (.slice A' (l ++ m).length cap')) w') : wpList Tryz.prog ops Q (o :: rest) a w := by
  subst hnl
  obtain ⟨i0, hi, hz0, hz1, hz2⟩ := info_parts info_span
  have hbase : w0.heap.size ≤ w.heap.size := X.size
  have one : ∀ u ∈ flat encS m, u.oneCell' = true := by
    intro u hu
    simp only [flat, List.mem_flatMap] at hu
    obtain ⟨y, _, hy⟩ := hu
    simp [encS] at hy
    rcases hy with rfl | rfl <;> rfl
  refine wpList_step fun K hK => ?_
  rw [if_pos hgd]
  rcases A with _ | ad
  · have hm0 : m = [] := by
      cases m with
      | nil => rfl
      | cons y r => obtain ⟨b, off, h0, _⟩ := hm (by simp); cases h0
    subst hm0
    have hrun := run_append_none (P := Tryz.prog) w w0.heap.size 34 o.type 49 i0 2 Tryz.underlying34 hi v l.length (flat encS l) hown c
    unfold Oper.wp execOp
    simp only [ho, resolve, invoke, builtin, Sem.run_bind, Sem.run_pure, Result.andThen_ok, List.map_toArray, List.map_cons, List.map_nil, hs, hx, List.length_nil, hrun]
    obtain ⟨A', cap', hv, _⟩ := own_form hown
    subst hv
    have := h A' cap' w (by rw [List.append_nil]; exact hown) X
    rw [List.append_nil] at this
    exact hK _ _ this
  · refine wp_append_at w s x 34 ho w0.heap.size 49 i0 (.agg #[.int .i64 0, .int .i64 0]) 2 16 Tryz.underlying34 hi hz0 hz1 hz2 rfl (by decide) v l.length (flat encS l) hs hown ad m.length c (flat encS m) hx (flat_length encS_len m) ?_ one (by unfold maxLen; omega) (by omega) hbase ?_
    · intro j u hj
      have hjl : j < m.length * 2 := by rw [← flat_length encS_len]; exact (List.getElem?_eq_some_iff.1 hj).1
      have hd : j / 2 < m.length := by omega
      obtain ⟨b, off, hA, _, hc⟩ := hm (by rintro rfl; simp at hjl)
      cases hA
      have hf := flat_at encS_len m (j / 2) hd (j % 2) (by omega)
      rw [show j / 2 * 2 + j % 2 = j from by omega, hj] at hf
      have := hc (j / 2) hd (j % 2) u hf.symm
      rw [show off + j / 2 * 2 + j % 2 = off + j from by omega] at this
      by_cases h0 : j = 0
      · subst h0; simpa [Addr.add] using this
      · simpa [Addr.add, h0] using this
    · intro v' w' ho' hg _
      obtain ⟨A', cap', hv, _⟩ := own_form ho'
      subst hv
      have h1 : w'.ownsRow w0.heap.size 49 2 (.slice A' (l ++ m).length cap') (l ++ m).length (flat encS (l ++ m)) := by rw [List.length_append, flat_append]; exact ho'
      have h2 := h A' cap' w' h1 (Below.grown X hg hbase fun g hg' => (hown.lt g hg').1)
      rw [List.length_append] at h2
      exact hK _ _ h2
end Go.Proofs.YtnhmibfgaoealaaGreat
