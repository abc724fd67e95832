/-
  Contracts of the functions of layer 3, in the words of a run of calls.
  Awk
-/
import Derived.Test.YtnhmibfgaoealaaGreatMf
import Derived.Test.YtnhmibfgaoealaaGreatMh
import Derived.Test.YtnhmibfgaoealaaGreatMb
namespace Go.Proofs.YtnhmibfgaoealaaGreat
open Go.RowKit

theorem cNorm {w : World} {A : Option Addr} {l : List Sp.S} (h : Rs w A l) (hl : l.length ≤ 900000) (cap : Nat) : Calls Tryz.prog 23 #[.slice A l.length cap] w (RetS w (Sp.norm l)) :=
  (norm_all l A cap w h (by omega)).mono fun _ _ ⟨A', c, he, ho, hb⟩ => ⟨A', c, he, .own ho, hb, ho⟩
theorem cAnd {w : World} {A1 A2 : Option Addr} {a b : List Sp.S} (h1 : Rs w A1 a) (h2 : Rs w A2 b) (l1 : a.length ≤ 900000) (l2 : b.length ≤ 900000) (c1 c2 : Nat) : Calls Tryz.prog 67 #[.slice A1 a.length c1, .slice A2 b.length c2] w (RetS w (Sp.and_ a b)) :=
  (and_a a b A1 A2 c1 c2 w h1 h2 l1 l2).mono fun _ _ ⟨A', c, he, ho, hb⟩ => ⟨A', c, he, .own ho, hb, ho⟩
theorem cMinus {w : World} {A1 A2 : Option Addr} {a b : List Sp.S} (h1 : Rs w A1 a) (h2 : Rs w A2 b) (l1 : a.length ≤ 900000) (l2 : b.length ≤ 900000) (c1 c2 : Nat) : Calls Tryz.prog 39 #[.slice A1 a.length c1, .slice A2 b.length c2] w (RetS w (Sp.minus a b)) :=
  (minus_a a b A1 A2 c1 c2 w h1 h2 l1 l2).mono fun _ _ ⟨A', c, he, ho, hb⟩ => ⟨A', c, he, .own ho, hb, ho⟩
theorem cFirst {w : World} {A : Option Addr} {l : List Sp.S} (h : Rs w A l) (hl : l.length ≤ 900000) {n : Int} (hn : B64 n) (cap : Nat) : Calls Tryz.prog 70 #[.slice A l.length cap, .int .i64 n] w (RetS w (Sp.first l n)) :=
  (first_any l A cap n w h (by omega) hn).mono fun _ _ ⟨A', c, he, ho, hb⟩ => ⟨A', c, he, .own ho, hb, ho⟩
theorem cLast {w : World} {A : Option Addr} {l : List Sp.S} (h : Rs w A l) (hl : l.length ≤ 900000) {n : Int} (hn : B64 n) (cap : Nat) : Calls Tryz.prog 76 #[.slice A l.length cap, .int .i64 n] w (RetS w (Sp.last l n)) :=
  (last_any l A cap n w h hl hn).mono fun _ _ ⟨A', c, he, ho, hb⟩ => ⟨A', c, he, .own ho, hb, ho⟩
theorem cSize {w : World} {A : Option Addr} {l : List Sp.S} (h : Rs w A l) (hl : l.length ≤ 900000) (cap : Nat) : Calls Tryz.prog 26 #[.slice A l.length cap] w (RetI w (Sp.size l)) := size_any l A cap w h (by omega)
theorem cSame {w : World} {A1 A2 : Option Addr} {a b : List Sp.S} (h1 : Rs w A1 a) (h2 : Rs w A2 b) (l1 : a.length ≤ 900000) (c1 c2 : Nat) : Calls Tryz.prog 15 #[.slice A1 a.length c1, .slice A2 b.length c2] w (RetB w (decide (a = b))) := same_any a b A1 A2 c1 c2 w h1 h2 (by omega)
theorem rNorm {w : World} {A : Option Addr} {l : List Sp.S} (h : Rs w A l) (hl : l.length ≤ 900000) (cap : Nat) : Calls Tryz.prog 35 #[.slice A l.length cap] w (RetS w (Sp.norm l)) :=
  (rnorm_any l A cap w h (by omega)).mono fun _ _ ⟨A', c, he, ho, hb⟩ => ⟨A', c, he, .own ho, hb, ho⟩
theorem rAnd {w : World} {A1 A2 : Option Addr} {a b : List Sp.S} (h1 : Rs w A1 a) (h2 : Rs w A2 b) (l1 : a.length ≤ 900000) (l2 : b.length ≤ 900000) (c1 c2 : Nat) : Calls Tryz.prog 55 #[.slice A1 a.length c1, .slice A2 b.length c2] w (RetS w (Sp.and_ a b)) :=
  (rand_any a b A1 A2 c1 c2 w h1 h2 (by omega) (by omega)).mono fun _ _ ⟨A', c, he, ho, hb⟩ => ⟨A', c, he, .own ho, hb, ho⟩
theorem rMinus {w : World} {A1 A2 : Option Addr} {a b : List Sp.S} (h1 : Rs w A1 a) (h2 : Rs w A2 b) (l1 : a.length ≤ 900000) (l2 : b.length ≤ 900000) (c1 c2 : Nat) : Calls Tryz.prog 46 #[.slice A1 a.length c1, .slice A2 b.length c2] w (RetS w (Sp.minus a b)) :=
  (rminus_any a b A1 A2 c1 c2 w h1 h2 (by omega) (by omega)).mono fun _ _ ⟨A', c, he, ho, hb⟩ => ⟨A', c, he, .own ho, hb, ho⟩
theorem rFirst {w : World} {A : Option Addr} {l : List Sp.S} (h : Rs w A l) (hl : l.length ≤ 900000) {n : Int} (hn : B64 n) (cap : Nat) : Calls Tryz.prog 43 #[.slice A l.length cap, .int .i64 n] w (RetS w (Sp.first l n)) :=
  (rfirst_any l A cap n w h (by omega) hn).mono fun _ _ ⟨A', c, he, ho, hb⟩ => ⟨A', c, he, .own ho, hb, ho⟩
theorem rLast {w : World} {A : Option Addr} {l : List Sp.S} (h : Rs w A l) (hl : l.length ≤ 900000) {n : Int} (hn : B64 n) (cap : Nat) : Calls Tryz.prog 45 #[.slice A l.length cap, .int .i64 n] w (RetS w (Sp.last l n)) :=
  (rlast_any l A cap n w h (by omega) hn).mono fun _ _ ⟨A', c, he, ho, hb⟩ => ⟨A', c, he, .own ho, hb, ho⟩
theorem rSize {w : World} {A : Option Addr} {l : List Sp.S} (h : Rs w A l) (hl : l.length ≤ 900000) (cap : Nat) : Calls Tryz.prog 44 #[.slice A l.length cap] w (RetI w (Sp.size l)) := rsize_any l A cap w h (by omega)
theorem rHas {w : World} {A : Option Addr} {l : List Sp.S} (h : Rs w A l) (hl : l.length ≤ 900000) (t : Int) (cap : Nat) : Calls Tryz.prog 106 #[.slice A l.length cap, .int .i64 t] w (RetB w (Sp.okT t && Sp.hasB l t)) := has3_any l A cap t w h (by omega)

/-- A row of spans put behind a row of the call's own, whatever slice it is. -/
theorem run_append_none {P : Program} (w : World) (base : Nat) (t ty e : TypeId) (i : TypeInfo) (size : Nat) (ht : P.underlying t = some (.slice e)) (hi : P.info? e = some i)
    (v : Value) (n : Nat) (xs : List Value) (hown : w.ownsRow base e size v n xs) (c : Nat) : (Builtin.append_ #[t, t] ty #[v, .slice none 0 c]).run P w = .ok v w := by
  rcases hown.2 with ⟨rfl, rfl⟩ | ⟨g, cap, cur, rfl, _, _, hnc, _⟩
  · simp [Builtin.append_, run_underlying ht, sizeOf, typeInfo, hi, Builtin.lenOf, Builtin.firstCells]
  · simp [Builtin.append_, run_underlying ht, sizeOf, typeInfo, hi, Builtin.lenOf, Builtin.firstCells, hnc, storeCells]

theorem app_spans {ops : Array Oper} {rest : List Oper} {o : Oper} {a : Act} {Q : Exit → Act → World → Prop} (w : World) (s x : Operand) (hgd : o.guard = none)
    (ho : o.op = .call { callee := .builtin .append, args := #[s, x], argTypes := #[34, 34] })
    (base n : Nat) (v : Value) (l m : List Sp.S) (hs : a.eval s = v) (hown : w.ownsRow base 49 2 v n (flat encS l)) (A : Option Addr) (c : Nat)
    (hx : a.eval x = .slice A m.length c) (hm : Rs w A m) (hn : n + m.length ≤ 4000000000000) (hbase : base ≤ w.heap.size)
    (h : ∀ v' w', w'.ownsRow base 49 2 v' (n + m.length) (flat encS (l ++ m)) → w.grownBy w' v.ownBlock → (v'.ownBlock = v.ownBlock ∨ v'.ownBlock = some w.heap.size) → wpList Tryz.prog ops Q rest (a.put o.dst v') w') : wpList Tryz.prog ops Q (o :: rest) a w := by
  obtain ⟨i0, hi, hz0, hz1, hz2⟩ := info_parts info_span
  have one : ∀ u ∈ flat encS m, u.oneCell' = true := by
    intro u hu
    simp only [flat, List.mem_flatMap] at hu
    obtain ⟨y, _, hy⟩ := hu
    simp [encS] at hy
    rcases hy with rfl | rfl <;> rfl
  rcases A with _ | ad
  · have hm0 : m = [] := by
      cases m with
      | nil => rfl
      | cons y r => obtain ⟨b, off, h0, _⟩ := hm (by simp); cases h0
    subst hm0
    refine wpList_plain hgd fun K hK => ?_
    have hrun := run_append_none (P := Tryz.prog) w base 34 o.type 49 i0 2 Tryz.underlying34 hi v n (flat encS l) hown c
    unfold Oper.wp execOp
    simp only [ho, resolve, invoke, builtin, Sem.run_bind, Sem.run_pure, Result.andThen_ok, List.map_toArray, List.map_cons, List.map_nil, hs, hx, List.length_nil, hrun]
    exact hK _ _ (h v w (by rw [List.append_nil]; exact hown) (World.grownBy.refl w _) (.inl rfl))
  · refine wpList_append_at w hgd s x 34 ho base 49 i0 (.agg #[.int .i64 0, .int .i64 0]) 2 16 Tryz.underlying34 hi hz0 hz1 hz2 rfl (by decide) v n (flat encS l) hs hown ad m.length c (flat encS m) hx (flat_length encS_len m) ?_ one (by unfold maxLen; omega) (by omega) hbase ?_
    · intro j u hj
      have hjl : j < m.length * 2 := by rw [← flat_length encS_len]; exact (List.getElem?_eq_some_iff.1 hj).1
      have hd : j / 2 < m.length := by omega
      obtain ⟨b, off, hA, _, hc⟩ := hm (by rintro rfl; simp at hjl)
      cases hA
      have hf := flat_at encS_len m (j / 2) hd (j % 2) (by omega)
      rw [show j / 2 * 2 + j % 2 = j from by omega, hj] at hf
      have := hc (j / 2) hd (j % 2) u hf.symm
      rw [show off + j / 2 * 2 + j % 2 = off + j from by omega] at this
      by_cases h0 : j = 0
      · subst h0; simpa [Addr.add] using this
      · simpa [Addr.add, h0] using this
    · intro v' w' ho' hg hv
      exact h v' w' (by rw [flat_append]; exact ho') hg hv
end Go.Proofs.YtnhmibfgaoealaaGreat
namespace Go.Proofs.YtnhmibfgaoealaaGreat
open Go.RowKit

theorem bEq {f : Nat} {args : Array Value} {w : World} {b b' : Bool} (h : Calls Tryz.prog f args w (RetB w b)) (e : b = b') : Calls Tryz.prog f args w (RetB w b') := e ▸ h
theorem iEq {f : Nat} {args : Array Value} {w : World} {n n' : Int} (h : Calls Tryz.prog f args w (RetI w n)) (e : n = n') : Calls Tryz.prog f args w (RetI w n') := e ▸ h

end Go.Proofs.YtnhmibfgaoealaaGreat
