/-
  Two rows of the call's own, at one operation: one is appended to, the other one stays.
-/
import Derived.Test.YtnhmibfgaoealaaTw
import Derived.Test.YtnhmibfgaoealaaLu
namespace Go.Proofs.Ytnhmibfgaoealaa
open Go.RowKit

theorem wp_app_two {o : Oper} {a : Act} {K : Act → World → Prop} {Q : Exit → Act → World → Prop} (n₀ : Nat) (w : World) (hb : n₀ ≤ w.heap.size) (s x : Operand)
    (ho : o.op = .call { callee := .builtin .append, args := #[s, x], argTypes := #[40, 40] })
    (n n2 : Nat) (v u : Value) (l l2 m : List Sp.S) (hs : a.eval s = v) (hown : w.ownsRow n₀ 42 2 v n (flat encS l)) (hown2 : w.ownsRow n₀ 42 2 u n2 (flat encS l2)) (hap : Apart u v) (A : Option Addr) (c k : Nat)
    (hx : a.eval x = .slice A k c) (hm : Rs w A m) (hk : k = m.length) (hn : n + m.length ≤ 4000000000000)
    (h : ∀ A' cap' w', w'.ownsRow n₀ 42 2 (.slice A' (n + k) cap') (n + k) (flat encS (l ++ m)) → w'.ownsRow n₀ 42 2 u n2 (flat encS l2) → Apart u (.slice A' (n + k) cap') → w.grownBy w' v.ownBlock → K (a.put o.dst (.slice A' (n + k) cap')) w') : o.wp Try.prog a w K Q := by
  obtain ⟨i0, hi, hz0, hz1, hz2⟩ := info_parts info_span
  rcases A with _ | A
  · have hm0 : m = [] := by
      cases m with
      | nil => rfl
      | cons y r => obtain ⟨b, off, h0, _⟩ := hm (by simp); cases h0
    subst hm0
    subst hk
    have hrun := run_append_none (P := Try.prog) w n₀ 40 o.type 42 i0 2 Try.underlying40 hi v n (flat encS l) hown c
    unfold Oper.wp execOp
    simp only [ho, resolve, invoke, builtin, Sem.run_bind, Sem.run_pure, Result.andThen_ok, List.map_toArray, List.map_cons, List.map_nil, hs, hx, List.length_nil, hrun]
    obtain ⟨A', cap', hv, _⟩ := own_form hown
    subst hv
    exact h A' cap' w (by rw [List.append_nil]; exact hown) hown2 hap (World.grownBy.refl w _)
  · subst hk
    have one : ∀ u ∈ flat encS m, u.oneCell' = true := by
      intro u hu
      simp only [flat, List.mem_flatMap] at hu
      obtain ⟨y, _, hy⟩ := hu
      simp [encS] at hy
      rcases hy with rfl | rfl <;> rfl
    refine wp_append_at w s x 40 ho n₀ 42 i0 (.agg #[.int .i64 0, .int .i64 0]) 2 16 Try.underlying40 hi hz0 hz1 hz2 rfl (by decide) v n (flat encS l) hs hown A m.length c (flat encS m) hx (flat_length encS_len m) ?_ one (by unfold maxLen; omega) (by omega) hb ?_
    · intro j u hj
      have hjl : j < m.length * 2 := by rw [← flat_length encS_len]; exact (List.getElem?_eq_some_iff.1 hj).1
      have hd : j / 2 < m.length := by omega
      obtain ⟨b, off, hA, _, hc⟩ := hm (by rintro rfl; simp at hjl)
      cases hA
      have hf := flat_at encS_len m (j / 2) hd (j % 2) (by omega)
      rw [show j / 2 * 2 + j % 2 = j from by omega, hj] at hf
      have := hc (j / 2) hd (j % 2) u hf.symm
      rw [show off + j / 2 * 2 + j % 2 = off + j from by omega] at this
      by_cases h0 : j = 0
      · subst h0; simpa [Addr.add] using this
      · simpa [Addr.add, h0] using this
    · intro v' w' ho' hg hv'
      obtain ⟨A', cap', hv, _⟩ := own_form ho'
      subst hv
      refine h A' cap' w' (by rw [flat_append]; exact ho') (hown2.kept hg hap) ?_ hg
      rcases hap with hap | hap
      · exact .inl hap
      · rcases hv' with hv' | hv'
        · exact .inr (by rw [hv']; exact hap)
        · refine .inr fun e => ?_
          rw [hv'] at e
          have := (hown2.lt _ e).2
          omega
theorem Apart.fresh {w w1 : World} {n₀ e1 e2 k m : Nat} {v u : Value} {xs ys : List Value} (h : w.ownsRow n₀ e1 2 v k xs) (o : w1.ownsRow w.heap.size e2 2 u m ys) : Apart u v := by
  cases h4 : u.ownBlock with
  | none => exact .inl h4
  | some g =>
    refine .inr fun e => ?_
    have h1 := (o.lt g h4).1
    have h2 := (h.lt g (e.symm.trans h4 |>.symm ▸ rfl)).2
    omega
end Go.Proofs.Ytnhmibfgaoealaa
