/-
  breaks.OfDay by contract.
  Two rows of the call's own, at one operation: one is appended to, the other one stays.
  breaks.Paid: the closure that adds a day.
  breaks.Paid by contract.
-/
import Derived.Test.YtnhmibfgaoealaaGreatKw
import Derived.Test.YtnhmibfgaoealaaGreatNd
import Derived.Test.YtnhmibfgaoealaaGreatLy
import Derived.Test.YtnhmibfgaoealaaGreatTw
namespace Go.Proofs.YtnhmibfgaoealaaGreat
open Go.RowKit
set_option linter.unusedVariables false
set_option linter.unusedSimpArgs false

/-- What a call leaves that hands back two slices of spans. -/
def Ret2S (w : World) (R1 R2 : List Sp.S) (e : Ending) (w' : World) : Prop := ∃ A1 c1 A2 c2, e = .returned (.tuple #[.slice A1 R1.length c1, .slice A2 R2.length c2]) ∧ (Rs w' A1 R1 ∧ Rs w' A2 R2) ∧ Ext w w' ∧ w'.ownsRow w.heap.size 49 2 (.slice A1 R1.length c1) R1.length (flat encS R1) ∧ w'.ownsRow w.heap.size 49 2 (.slice A2 R2.length c2) R2.length (flat encS R2)

theorem clock_len (l : List SegL) : (clockL l).length ≤ l.length := by unfold clockL; refine Nat.le_trans (Sp.norm_length _) ?_; simp
theorem only_len (l : List SegL) (k : Int) : (onlyL l k).length ≤ l.length := Nat.le_trans (clock_len _) (List.length_filter_le _ _)

set_option maxRecDepth 100000 in
set_option maxHeartbeats 1000000 in
theorem ofDayA0 (cs : List Value) (hcs : cs.length = 23) (P AA AB : Int) (l : List SegL) (A : Option Addr) (c : Nat) (d : Int) (hl : l.length ≤ 100000) (hl2 : l.length ≤ 10000) (w : World) (h : Rg w A l)
    (kC : ∀ W, Ext w W → Calls Tryz.prog 22 #[.agg cs.toArray] W (RetB W false)) :
    Calls Tryz.prog 13 #[.agg cs.toArray, .slice A l.length c, .int .i64 d] w (Ret2S w [] []) := by
  replace kC := Lib.hid kC
  replace h := Lib.hid h
  have hi := Lib.hid (su_size hcs)
  have hs0 := Bx.new w cs 30
  have X0 := (Ext.refl w).alloc (.cells cs.toArray 30)
  have hg0 := h.out.alloc (.cells cs.toArray 30)
  go_enter Tryz.func13, Tryz.ntmps13
  go_wp2_with (first | (refine load_box rfl 30 _ rfl _ rfl _ _ hs0 _ Tryz.underlying30 rfl hi.out ?_))
  refine (kC.out _ X0).mono ?_
  rintro e w1 ⟨rfl, x1⟩
  have hs1 := hs0.ext x1; clear hs0
  have hg1 := hg0.ext x1; clear hg0
  have X1 := X0.trans x1
  go_wp2
  go_ret2
  exact ⟨none, 0, none, 0, rfl, ⟨.nil, .nil⟩, X1, own_nil _ _, own_nil _ _⟩

set_option maxRecDepth 100000 in
set_option maxHeartbeats 1000000 in
theorem ofDayA1 (cs : List Value) (hcs : cs.length = 23) (P AA AB : Int) (l : List SegL) (A : Option Addr) (c : Nat) (d : Int) (hl : l.length ≤ 100000) (hl2 : l.length ≤ 10000) (w : World) (h : Rg w A l)
    (kC : ∀ W, Ext w W → Calls Tryz.prog 22 #[.agg cs.toArray] W (RetB W true))
    (kU : ∀ W, Ext w W → ∀ A1 A2 c1 c2, Rs W A1 (partS (clockL l) d 86400) → Rs W A2 (partS (onlyL l 3) d 86400) → (partS (clockL l) d 86400).length ≤ 100000 → (partS (onlyL l 3) d 86400).length ≤ 100000 → Calls Tryz.prog 37 #[.agg cs.toArray, .slice A1 (partS (clockL l) d 86400).length c1, .slice A2 (partS (onlyL l 3) d 86400).length c2] W (RetS W (dayNot P AA AB l d))) (hNl : (dayNot P AA AB l d).length ≤ 900000) :
    Calls Tryz.prog 13 #[.agg cs.toArray, .slice A l.length c, .int .i64 d] w (Ret2S w (dayPaid P AA AB l d) (dayNot P AA AB l d)) := by
  replace kC := Lib.hid kC
  replace h := Lib.hid h
  replace kU := Lib.hid kU
  have hi := Lib.hid (su_size hcs)
  have hs0 := Bx.new w cs 30
  have X0 := (Ext.refl w).alloc (.cells cs.toArray 30)
  have hg0 := h.out.alloc (.cells cs.toArray 30)
  have hiL : (Tryz.prog.info? 30).map (·.size) = some cs.length := su_size0.trans (by rw [hcs])
  have hu := Tryz.underlying30
  obtain ⟨ck, hck⟩ : ∃ x, partS (clockL l) d 86400 = x := ⟨_, rfl⟩
  obtain ⟨rs, hrs⟩ : ∃ x, partS (onlyL l 3) d 86400 = x := ⟨_, rfl⟩
  have l1 := partS_len (clockL l) d 86400
  have l2 := partS_len (onlyL l 3) d 86400
  have l3 := clock_len l
  have l4 := only_len l 3
  have kc := fun (w : World) (A : Option Addr) (c : Nat) (h : Rs w A (clockL l)) => pOfDay h (by omega : (clockL l).length ≤ 900000) c d
  have kr := fun (w : World) (A : Option Addr) (c : Nat) (h : Rs w A (onlyL l 3)) => pOfDay h (by omega : (onlyL l 3).length ≤ 900000) c d
  rw [hck] at l1 kc; rw [hrs] at l2 kr
  rw [hck, hrs] at kU
  have hP : dayPaid P AA AB l d = Sp.minus ck (dayNot P AA AB l d) := by unfold dayPaid; rw [hck]
  replace hP := Lib.hid hP.symm
  replace kc := Lib.hid kc; replace kr := Lib.hid kr; replace hck := Lib.hid hck; replace hrs := Lib.hid hrs
  have l5 : ck.length ≤ 900000 := by omega
  have l7 : ck.length ≤ 100000 := by omega
  have l10 : (dayNot P AA AB l d).length ≤ 900000 := hNl
  have l8 : rs.length ≤ 100000 := by omega
  replace l3 := Lib.hid l3; replace l4 := Lib.hid l4
  clear hi
  have hi := Lib.hid (su_size hcs)
  go_enter Tryz.func13, Tryz.ntmps13
  go_wp2_with (first | (refine load_box rfl 30 _ rfl _ rfl _ _ hs0 _ Tryz.underlying30 rfl hi.out ?_))
  refine (kC.out _ X0).mono ?_
  rintro e w1 ⟨rfl, x1⟩
  have hs1 := hs0.ext x1; clear hs0
  have hg1 := hg0.ext x1; clear hg0
  have X1 := X0.trans x1
  go_wp2_with fail
  refine (pClock hg1 (by omega) _).mono ?_
  rintro e w2 ⟨A2, cap2, rfl, r2, x2, _⟩
  have hs2 := hs1.ext x2; clear hs1
  have hg2 := hg1.ext x2; clear hg1
  have X2 := X1.trans x2
  go_wp2_with fail
  refine (kc.out _ _ _ r2).mono ?_
  rintro e w3 ⟨A3, cap3, rfl, r3, x3, _⟩
  have hs3 := hs2.ext x3; clear hs2
  have hg3 := hg2.ext x3; clear hg2
  have hc3 := r2.ext x3
  have X3 := X2.trans x3
  go_wp2_with fail
  have hB3 := hs3.lt
  refine held_start (S := fun w' => Ext w3 w') 8 rfl (by kernel_rfl) ?_
  have S0 : Ext w3 { w3 with drawn := w3.drawn + 1 } := (Ext.refl w3).drewN 1
  refine held_box (i := 0) rfl (by kernel_rfl) (by kernel_rfl) (by kernel_rfl) rfl 30 _ rfl w.heap.size rfl cs 30 (fun _ h => hs3.ext h) _ Tryz.underlying30 rfl hi.out S0 _ (by simp [Act.put]; rfl) ?_
  refine held_move (i := 1) rfl (by kernel_rfl) (by kernel_rfl) (by kernel_rfl) _ rfl rfl S0 _ (by simp [Act.put]; rfl) ?_
  refine held_move (i := 2) rfl (by kernel_rfl) (by kernel_rfl) (by kernel_rfl) _ rfl rfl S0 _ (by simp [Act.put]; rfl) ?_
  refine held_move (i := 4) rfl (by kernel_rfl) (by kernel_rfl) (by kernel_rfl) _ rfl rfl S0 _ (by simp [Act.put]; rfl) ?_
  refine held_all (i := 3) rfl (by kernel_rfl) rfl ?_
  go_wp2_with fail
  refine (pOnly (Rg.drewN hg3 1) hl _ 3).mono ?_
  rintro e w4 ⟨A4, cap4, rfl, r4, x4, _⟩
  have xs4 : Ext w3 w4 := S0.trans x4
  refine ⟨xs4, ?_⟩
  refine held_all (i := 5) rfl (by kernel_rfl) rfl ?_
  go_wp2_with fail
  refine (kr.out _ _ _ r4).mono ?_
  rintro e w5 ⟨A5, cap5, rfl, r5, x5, _⟩
  have xs5 : Ext w3 w5 := xs4.trans x5
  refine ⟨xs5, ?_⟩
  refine held_all (i := 6) rfl (by kernel_rfl) rfl ?_
  go_wp2_with fail
  refine (kU.out _ (X3.trans xs5) _ _ _ _ (r3.ext xs5) r5 l7 l8).mono ?_
  rintro e w6 ⟨A6, cap6, rfl, r6, x6, o6⟩
  have xs6 : Ext w3 w6 := xs5.trans x6
  refine ⟨xs6, ?_⟩
  refine held_assign (i := 7) rfl (by kernel_rfl) (by kernel_rfl) (by kernel_rfl) _ rfl rfl xs6 _ (by simp [Act.put]; rfl) ?_
  refine held_done (by kernel_rfl) ?_ _
  have hk6 := r3.ext xs6
  clear kr kc kU
  go_wp2_with fail
  refine (cMinus hk6 r6 l5 l10 _ _).mono ?_
  rintro e w7 ⟨A7, cap7, rfl, r7, x7, o7⟩
  go_wp2
  go_ret2
  exact ⟨A7, cap7, A6, cap6, by rw [← hP.out]; rfl, ⟨hP.out ▸ r7, r6.ext x7⟩, (X3.trans xs6).trans x7, hP.out ▸ own_base o7 (X3.trans xs6).size, own_base (own_below o6 x7) (X3.trans xs5).size⟩

theorem dayNot_len (P AA AB : Int) (l : List SegL) (d : Int) (hl : l.length ≤ 10000) : (dayNot P AA AB l d).length ≤ 900000 := by
  unfold dayNot unpaidL
  have l1 := partS_len (clockL l) d 86400
  have l2 := partS_len (onlyL l 3) d 86400
  have l3 := clock_len l
  have l4 := only_len l 3
  generalize partS (clockL l) d 86400 = ck at *
  generalize partS (onlyL l 3) d 86400 = rs at *
  refine Nat.le_trans (Sp.norm_length _) ?_
  have m1 := minus_le rs (Sp.first rs P)
  have m2 := first_length rs P
  have m3 := minus_le ck rs
  have m4 := last_le (Sp.minus ck rs) (AB - Sp.size rs)
  rw [List.length_append]
  split
  · omega
  · simp only [List.length_nil]; omega
def paidD (s : Su) (l : List SegL) (d : Int) : List Sp.S := if chk s = true then dayPaid s.paid s.after s.auto l d else []
def notD (s : Su) (l : List SegL) (d : Int) : List Sp.S := if chk s = true then dayNot s.paid s.after s.auto l d else []
theorem pBOfDay {s : Su} {g : Sh} (ok : SuOk s) (fw : SuFew s) {w : World} (r : SuR w s g) {A : Option Addr} {l : List SegL} (h : Rg w A l) (hl : l.length ≤ 10000) (c : Nat) (d : Int) :
    Calls Tryz.prog 13 #[.agg (s.cells g).toArray, .slice A l.length c, .int .i64 d] w (Ret2S w (paidD s l d) (notD s l d)) := by
  have a6 : ∀ W, Ext w W → Calls Tryz.prog 22 #[.agg (s.cells g).toArray] W (RetB W (chk s)) := fun W X => pCheck ok fw (r.ext X)
  unfold paidD notD
  cases hc : chk s
  · rw [hc] at a6
    exact ofDayA0 (s.cells g) rfl 0 0 0 l A c d (by omega) hl w h a6
  · rw [hc] at a6
    exact ofDayA1 (s.cells g) rfl s.paid s.after s.auto l A c d (by omega) hl w h a6 (fun W X A1 A2 c1 c2 h1 h2 l1 l2 => pUnpaid s g hc h1 h2 l1 l2 c1 c2) (dayNot_len _ _ _ l d hl)

end Go.Proofs.YtnhmibfgaoealaaGreat
namespace Go.Proofs.YtnhmibfgaoealaaGreat
open Go.RowKit

theorem wp_app_two {o : Oper} {a : Act} {K : Act → World → Prop} {Q : Exit → Act → World → Prop} (n₀ : Nat) (w : World) (hb : n₀ ≤ w.heap.size) (s x : Operand)
    (ho : o.op = .call { callee := .builtin .append, args := #[s, x], argTypes := #[34, 34] })
    (n n2 : Nat) (v u : Value) (l l2 m : List Sp.S) (hs : a.eval s = v) (hown : w.ownsRow n₀ 49 2 v n (flat encS l)) (hown2 : w.ownsRow n₀ 49 2 u n2 (flat encS l2)) (hap : Apart u v) (A : Option Addr) (c k : Nat)
    (hx : a.eval x = .slice A k c) (hm : Rs w A m) (hk : k = m.length) (hn : n + m.length ≤ 4000000000000)
    (h : ∀ A' cap' w', w'.ownsRow n₀ 49 2 (.slice A' (n + k) cap') (n + k) (flat encS (l ++ m)) → w'.ownsRow n₀ 49 2 u n2 (flat encS l2) → Apart u (.slice A' (n + k) cap') → w.grownBy w' v.ownBlock → K (a.put o.dst (.slice A' (n + k) cap')) w') : o.wp Tryz.prog a w K Q := by
  obtain ⟨i0, hi, hz0, hz1, hz2⟩ := info_parts info_span
  rcases A with _ | A
  · have hm0 : m = [] := by
      cases m with
      | nil => rfl
      | cons y r => obtain ⟨b, off, h0, _⟩ := hm (by simp); cases h0
    subst hm0
    subst hk
    have hrun := run_append_none (P := Tryz.prog) w n₀ 34 o.type 49 i0 2 Tryz.underlying34 hi v n (flat encS l) hown c
    unfold Oper.wp execOp
    simp only [ho, resolve, invoke, builtin, Sem.run_bind, Sem.run_pure, Result.andThen_ok, List.map_toArray, List.map_cons, List.map_nil, hs, hx, List.length_nil, hrun]
    obtain ⟨A', cap', hv, _⟩ := own_form hown
    subst hv
    exact h A' cap' w (by rw [List.append_nil]; exact hown) hown2 hap (World.grownBy.refl w _)
  · subst hk
    have one : ∀ u ∈ flat encS m, u.oneCell' = true := by
      intro u hu
      simp only [flat, List.mem_flatMap] at hu
      obtain ⟨y, _, hy⟩ := hu
      simp [encS] at hy
      rcases hy with rfl | rfl <;> rfl
    refine wp_append_at w s x 34 ho n₀ 49 i0 (.agg #[.int .i64 0, .int .i64 0]) 2 16 Tryz.underlying34 hi hz0 hz1 hz2 rfl (by decide) v n (flat encS l) hs hown A m.length c (flat encS m) hx (flat_length encS_len m) ?_ one (by unfold maxLen; omega) (by omega) hb ?_
    · intro j u hj
      have hjl : j < m.length * 2 := by rw [← flat_length encS_len]; exact (List.getElem?_eq_some_iff.1 hj).1
      have hd : j / 2 < m.length := by omega
      obtain ⟨b, off, hA, _, hc⟩ := hm (by rintro rfl; simp at hjl)
      cases hA
      have hf := flat_at encS_len m (j / 2) hd (j % 2) (by omega)
      rw [show j / 2 * 2 + j % 2 = j from by omega, hj] at hf
      have := hc (j / 2) hd (j % 2) u hf.symm
      rw [show off + j / 2 * 2 + j % 2 = off + j from by omega] at this
      by_cases h0 : j = 0
      · subst h0; simpa [Addr.add] using this
      · simpa [Addr.add, h0] using this
    · intro v' w' ho' hg hv'
      obtain ⟨A', cap', hv, _⟩ := own_form ho'
      subst hv
      refine h A' cap' w' (by rw [flat_append]; exact ho') (hown2.kept hg hap) ?_ hg
      rcases hap with hap | hap
      · exact .inl hap
      · rcases hv' with hv' | hv'
        · exact .inr (by rw [hv']; exact hap)
        · refine .inr fun e => ?_
          rw [hv'] at e
          have := (hown2.lt _ e).2
          omega
theorem Apart.fresh {w w1 : World} {n₀ e1 e2 k m : Nat} {v u : Value} {xs ys : List Value} (h : w.ownsRow n₀ e1 2 v k xs) (o : w1.ownsRow w.heap.size e2 2 u m ys) : Apart u v := by
  cases h4 : u.ownBlock with
  | none => exact .inl h4
  | some g =>
    refine .inr fun e => ?_
    have h1 := (o.lt g h4).1
    have h2 := (h.lt g (e.symm.trans h4 |>.symm ▸ rfl)).2
    omega
end Go.Proofs.YtnhmibfgaoealaaGreat
namespace Go.Proofs.YtnhmibfgaoealaaGreat
open Go.RowKit BigFrame
set_option linter.unusedVariables false
set_option linter.unusedSimpArgs false

theorem held_two {P : Program} {ops : Array Oper} {Q : Exit → Act → World → Prop} {S : World → Prop} {i j fuel : Nat} {oi oj : Oper} {listed : Array Bool} {a : Act} {w : World} (hi : ops[i]? = some oi) (hj : ops[j]? = some oj) (hr : Region.ready .any ops listed = [i, j]) (hwi : Region.wanted oi (yielded ops a.tmps) = true) (hwj : Region.wanted oj (yielded ops a.tmps) = true)
    (h1 : oi.wp P a w (fun a' w' => S w' ∧ wpAnyH P .any ops (NoPanic Q) S fuel (listed.setIfInBounds i true) a' w') (NoPanic Q))
    (h2 : oj.wp P a w (fun a' w' => S w' ∧ wpAnyH P .any ops (NoPanic Q) S fuel (listed.setIfInBounds j true) a' w') (NoPanic Q)) : wpAnyH P .any ops (NoPanic Q) S (fuel + 1) listed a w :=
  wpAnyH_all hr (by simp) fun k hk => by
    simp at hk
    unfold wpOp
    rcases hk with rfl | rfl
    · simp only [hi, hwi, if_true]; exact .inl h1
    · simp only [hj, hwj, if_true]; exact .inl h2

theorem Rs.apart {w w' : World} {A : Option Addr} {l : List Sp.S} {v : Value} {n c : Nat} (h : Rs w A l) (hg : w.grownBy w' v.ownBlock) (ha : Apart (.slice A n c) v) : Rs w' A l :=
  h.moved hg fun b off e => by
    subst e
    rcases ha with ha | ha
    · cases ha
    · exact ha

theorem bput_done {w w1 w5 w6 : World} {n₀ Bp Bn k m k1 m1 : Nat} {vp vn vp' vn' : Value} {xs ys xs1 ys1 : List Value} (x1 : Ext w w1) (h1 : Bp < Bn) (h2 : Bn < n₀) (h3 : n₀ ≤ w.heap.size)
    (op : w1.ownsRow n₀ 49 2 vp k xs) (on : w1.ownsRow n₀ 49 2 vn m ys) (g5 : w1.drew.grownBy w5 vp.ownBlock) (on5 : w5.ownsRow n₀ 49 2 vn m ys) (g6 : w5.grownBy w6 vn.ownBlock)
    (hp6 : Boxed w6 Bp 34 vp) (hn6 : Boxed w6 Bn 34 vn) (op6 : w6.ownsRow n₀ 49 2 vp' k1 xs1) (on6 : w6.ownsRow n₀ 49 2 vn' m1 ys1) :
    Boxed ((w6.setCell ⟨Bp, 0, none⟩ vp').setCell ⟨Bn, 0, none⟩ vn') Bp 34 vp' ∧ Boxed ((w6.setCell ⟨Bp, 0, none⟩ vp').setCell ⟨Bn, 0, none⟩ vn') Bn 34 vn' ∧
    ((w6.setCell ⟨Bp, 0, none⟩ vp').setCell ⟨Bn, 0, none⟩ vn').ownsRow n₀ 49 2 vp' k1 xs1 ∧ ((w6.setCell ⟨Bp, 0, none⟩ vp').setCell ⟨Bn, 0, none⟩ vn').ownsRow n₀ 49 2 vn' m1 ys1 ∧
    Below Bp w ((w6.setCell ⟨Bp, 0, none⟩ vp').setCell ⟨Bn, 0, none⟩ vn') ∧ Mid (Bn + 1) n₀ w ((w6.setCell ⟨Bp, 0, none⟩ vp').setCell ⟨Bn, 0, none⟩ vn') := by
  have hte : 34 ≠ 49 := by decide
  have hp7 := hp6.set vp'
  have hn7 : Boxed (w6.setCell ⟨Bp, 0, none⟩ vp') Bn 34 vn := hn6.other (by omega) vp'
  have hp8 : Boxed ((w6.setCell ⟨Bp, 0, none⟩ vp').setCell ⟨Bn, 0, none⟩ vn') Bp 34 vp' := hp7.other (by omega) vn'
  have hn8 := hn7.set vn'
  have op7 := op6.kept (grownBy_setCell' w6 Bp vp') (.inr (hp6.not_row hte op6).symm)
  have op8 := op7.kept (grownBy_setCell' _ Bn vn') (.inr (hn7.not_row hte op7).symm)
  have on7 := on6.kept (grownBy_setCell' w6 Bp vp') (.inr (hp6.not_row hte on6).symm)
  have on8 := on7.kept (grownBy_setCell' _ Bn vn') (.inr (hn7.not_row hte on7).symm)
  have hw1 : w.heap.size ≤ w1.heap.size := x1.size
  have hw5 : w1.heap.size ≤ w5.heap.size := g5.size
  refine ⟨hp8, hn8, op8, on8, ?_, ?_⟩
  · have b1 : Below Bp w w1.drew := (Below.mono x1 (by omega)).trans (below_drewN (Below.refl _ _) 1)
    have b5 := b1.grown g5 (by show Bp ≤ w1.heap.size; omega) fun g hg => by have := (op.lt g hg).1; omega
    have b6 := b5.grown g6 (by omega) fun g hg => by have := (on5.lt g hg).1; omega
    exact (b6.setCell (p := ⟨Bp, 0, none⟩) (Nat.le_refl _) vp').setCell (p := ⟨Bn, 0, none⟩) (Nat.le_of_lt h1) vn'
  · have b1 : Mid (Bn + 1) n₀ w w1.drew := ((Mid.refl _ _ _).below h3 x1).drewN 1
    have b5 := b1.grown h3 g5 fun g hg => .inr (op.lt g hg).1
    have b6 := b5.grown h3 g6 fun g hg => .inr (on5.lt g hg).1
    exact (b6.grown h3 (grownBy_setCell' w6 Bp vp') fun g hg => by cases hg; exact .inl (by omega)).grown h3 (grownBy_setCell' _ Bn vn') fun g hg => by cases hg; exact .inl (Nat.lt_succ_self _)

set_option maxRecDepth 100000 in
set_option maxHeartbeats 2000000 in
theorem bput (cs : List Value) (hcs : cs.length = 23) (l : List SegL) (Ag : Option Addr) (c n₀ Bs Bg Bp Bn : Nat) (P N pd nd : List Sp.S) (vp vn : Value) (d : Int) (w : World) (hs : Bx w Bs cs 30) (hg : Boxed w Bg 31 (.slice Ag l.length c)) (hG : Rg w Ag l)
    (hp : Boxed w Bp 34 vp) (hn : Boxed w Bn 34 vn) (op : w.ownsRow n₀ 49 2 vp P.length (flat encS P)) (on : w.ownsRow n₀ 49 2 vn N.length (flat encS N)) (ap : Apart vn vp) (h1 : Bp < Bn) (h2 : Bn < n₀) (h3 : n₀ ≤ w.heap.size)
    (lP : P.length ≤ 1000000000) (lN : N.length ≤ 1000000000) (lp : pd.length ≤ 1000000) (ln : nd.length ≤ 1000000) (kO : Calls Tryz.prog 13 #[.agg cs.toArray, .slice Ag l.length c, .int .i64 d] w (Ret2S w pd nd)) :
    Calls Tryz.prog 32 #[.int .i64 d, .pointer (some ⟨Bs, 0, none⟩), .pointer (some ⟨Bg, 0, none⟩), .pointer (some ⟨Bp, 0, none⟩), .pointer (some ⟨Bn, 0, none⟩)] w fun e w' => (∃ r, e = .returned r) ∧ ∃ vp' vn', Boxed w' Bp 34 vp' ∧ Boxed w' Bn 34 vn' ∧ w'.ownsRow n₀ 49 2 vp' (P ++ pd).length (flat encS (P ++ pd)) ∧ w'.ownsRow n₀ 49 2 vn' (N ++ nd).length (flat encS (N ++ nd)) ∧ Apart vn' vp' ∧ Below Bp w w' ∧ Mid (Bn + 1) n₀ w w' := by
  have hi := Lib.hid (su_size hcs)
  obtain ⟨Ap, cp, rfl, _, _⟩ := own_form op
  obtain ⟨An, cn, rfl, _, _⟩ := own_form on
  have cg := hg.cell
  have hte : 34 ≠ 49 := by decide
  have hz : n₀ ≤ w.heap.size := h3
  replace hs := Lib.hid hs
  replace hG := Lib.hid hG
  replace hp := Lib.hid hp
  replace hn := Lib.hid hn
  replace op := Lib.hid op
  replace on := Lib.hid on
  replace ap := Lib.hid ap
  clear hg
  go_enter Tryz.func32, Tryz.ntmps32
  go_wp2_with (first | (refine load_box rfl 30 _ rfl _ rfl _ _ hs.out _ Tryz.underlying30 rfl hi.out ?_))
  refine kO.mono ?_
  rintro e w1 ⟨A1, c1, A2, c2, rfl, ⟨r1, r2⟩, x1, o1, o2⟩
  have hp1 : Boxed w1 Bp 34 _ := (x1.block Bp hp.out.lt).trans hp.out
  have hn1 : Boxed w1 Bn 34 _ := (x1.block Bn hn.out.lt).trans hn.out
  have op1 := own_below op.out x1
  have on1 := own_below on.out x1
  have q1 := Apart.fresh op.out o1
  have q2 := Apart.fresh on.out o2
  have q3 := Apart.fresh op.out o2
  have kp := hp1.cell
  have kn := hn1.cell
  have zp := hp1.frozen
  have zn := hn1.frozen
  have hw1 : w.heap.size ≤ w1.heap.size := x1.size
  replace hp1 := Lib.hid hp1; replace hn1 := Lib.hid hn1; replace op1 := Lib.hid op1; replace on1 := Lib.hid on1; replace q1 := Lib.hid q1; replace q2 := Lib.hid q2; replace q3 := Lib.hid q3; replace r1 := Lib.hid r1; replace r2 := Lib.hid r2
  clear o1 o2 cg
  go_wp2_with fail
  refine held_start (S := fun _ => True) 8 rfl (by kernel_rfl) ?_
  refine held_move (i := 1) rfl (by kernel_rfl) (by kernel_rfl) (by kernel_rfl) _ rfl rfl trivial _ (by simp [Act.put]; rfl) ?_
  refine held_move (i := 4) rfl (by kernel_rfl) (by kernel_rfl) (by kernel_rfl) _ rfl rfl trivial _ (by simp [Act.put]; rfl) ?_
  refine held_two (i := 0) (j := 3) rfl rfl (by kernel_rfl) rfl rfl ?_ ?_
  · go_wp2_with fail
    refine held_two (i := 2) (j := 3) rfl rfl (by kernel_rfl) rfl rfl ?_ ?_
    · refine wp_app_two n₀ _ (show n₀ ≤ w1.heap.size by omega) _ _ rfl P.length N.length _ (.slice An N.length cn) P N pd rfl (own_drewN op1.out 1) (own_drewN on1.out 1) ap.out A1 c1 pd.length rfl (Rs.drewN r1.out 1) rfl (by omega) ?_
      intro A5 c5 w5 own1 own2 ap5 g5
      have hp5 : Boxed w5 Bp 34 _ := Boxed.kept (W := w1.drew) hp1.out g5 (hp1.out.not_row hte op1.out)
      have hn5 : Boxed w5 Bn 34 _ := Boxed.kept (W := w1.drew) hn1.out g5 (hn1.out.not_row hte op1.out)
      have r5 : Rs w5 A2 nd := Rs.apart (Rs.drewN r2.out 1) g5 q3.out
      have kp5 := hp5.cell
      have kn5 := hn5.cell
      have zp5 := hp5.frozen
      have zn5 := hn5.frozen
      have hw5 : w1.heap.size ≤ w5.heap.size := g5.size
      refine ⟨trivial, ?_⟩
      refine held_all (i := 3) rfl (by kernel_rfl) rfl ?_
      go_wp2_with fail
      refine held_all (i := 5) rfl (by kernel_rfl) rfl ?_
      refine wp_app_two n₀ _ (by omega) _ _ rfl N.length (P.length + pd.length) _ (.slice A5 (P.length + pd.length) c5) N (P ++ pd) nd rfl own2 own1 ap5.symm A2 c2 nd.length rfl r5 rfl (by omega) ?_
      intro A6 c6 w6 own3 own4 ap6 g6
      have hp6 := hp5.kept g6 (hp5.not_row hte own2)
      have hn6 := hn5.kept g6 (hn5.not_row hte own2)
      have kp6 := hp6.cell
      have kn6 := hn6.cell
      have zp6 := hp6.frozen
      have zn6 := hn6.frozen
      have D := Lib.hid (bput_done x1 h1 h2 h3 op1.out on1.out g5 own2 g6 hp6 hn6 own4 own3)
      have hne : Bn ≠ Bp := by omega
      have hne2 : Bp ≠ Bn := by omega
      clear hp5 hn5 hp6 hn6 own1 own2 own3 own4 g5 g6 r5
      refine ⟨trivial, ?_⟩
      refine held_all (i := 6) rfl (by kernel_rfl) rfl ?_
      go_wp2_with fail
      refine held_all (i := 7) rfl (by kernel_rfl) rfl ?_
      go_wp2_with fail
      refine held_done (by kernel_rfl) ?_ _
      go_wp2
      go_end0
      exact ⟨⟨_, rfl⟩, _, _, D.out.1, D.out.2.1, by rw [List.length_append]; exact D.out.2.2.1, by rw [List.length_append]; exact D.out.2.2.2.1, ap6.symm, D.out.2.2.2.2.1, D.out.2.2.2.2.2⟩
    · go_wp2_with fail
      refine held_all (i := 2) rfl (by kernel_rfl) rfl ?_
      refine wp_app_two n₀ _ (show n₀ ≤ w1.heap.size by omega) _ _ rfl P.length N.length _ (.slice An N.length cn) P N pd rfl (own_drewN op1.out 1) (own_drewN on1.out 1) ap.out A1 c1 pd.length rfl (Rs.drewN r1.out 1) rfl (by omega) ?_
      intro A5 c5 w5 own1 own2 ap5 g5
      have hp5 : Boxed w5 Bp 34 _ := Boxed.kept (W := w1.drew) hp1.out g5 (hp1.out.not_row hte op1.out)
      have hn5 : Boxed w5 Bn 34 _ := Boxed.kept (W := w1.drew) hn1.out g5 (hn1.out.not_row hte op1.out)
      have r5 : Rs w5 A2 nd := Rs.apart (Rs.drewN r2.out 1) g5 q3.out
      have kp5 := hp5.cell
      have kn5 := hn5.cell
      have zp5 := hp5.frozen
      have zn5 := hn5.frozen
      have hw5 : w1.heap.size ≤ w5.heap.size := g5.size
      refine ⟨trivial, ?_⟩
      refine held_all (i := 5) rfl (by kernel_rfl) rfl ?_
      refine wp_app_two n₀ _ (by omega) _ _ rfl N.length (P.length + pd.length) _ (.slice A5 (P.length + pd.length) c5) N (P ++ pd) nd rfl own2 own1 ap5.symm A2 c2 nd.length rfl r5 rfl (by omega) ?_
      intro A6 c6 w6 own3 own4 ap6 g6
      have hp6 := hp5.kept g6 (hp5.not_row hte own2)
      have hn6 := hn5.kept g6 (hn5.not_row hte own2)
      have kp6 := hp6.cell
      have kn6 := hn6.cell
      have zp6 := hp6.frozen
      have zn6 := hn6.frozen
      have D := Lib.hid (bput_done x1 h1 h2 h3 op1.out on1.out g5 own2 g6 hp6 hn6 own4 own3)
      have hne : Bn ≠ Bp := by omega
      have hne2 : Bp ≠ Bn := by omega
      clear hp5 hn5 hp6 hn6 own1 own2 own3 own4 g5 g6 r5
      refine ⟨trivial, ?_⟩
      refine held_all (i := 6) rfl (by kernel_rfl) rfl ?_
      go_wp2_with fail
      refine held_all (i := 7) rfl (by kernel_rfl) rfl ?_
      go_wp2_with fail
      refine held_done (by kernel_rfl) ?_ _
      go_wp2
      go_end0
      exact ⟨⟨_, rfl⟩, _, _, D.out.1, D.out.2.1, by rw [List.length_append]; exact D.out.2.2.1, by rw [List.length_append]; exact D.out.2.2.2.1, ap6.symm, D.out.2.2.2.2.1, D.out.2.2.2.2.2⟩
  · go_wp2_with fail
    refine held_all (i := 0) rfl (by kernel_rfl) rfl ?_
    go_wp2_with fail
    refine held_all (i := 2) rfl (by kernel_rfl) rfl ?_
    refine wp_app_two n₀ _ (show n₀ ≤ w1.heap.size by omega) _ _ rfl P.length N.length _ (.slice An N.length cn) P N pd rfl (own_drewN op1.out 1) (own_drewN on1.out 1) ap.out A1 c1 pd.length rfl (Rs.drewN r1.out 1) rfl (by omega) ?_
    intro A5 c5 w5 own1 own2 ap5 g5
    have hp5 : Boxed w5 Bp 34 _ := Boxed.kept (W := w1.drew) hp1.out g5 (hp1.out.not_row hte op1.out)
    have hn5 : Boxed w5 Bn 34 _ := Boxed.kept (W := w1.drew) hn1.out g5 (hn1.out.not_row hte op1.out)
    have r5 : Rs w5 A2 nd := Rs.apart (Rs.drewN r2.out 1) g5 q3.out
    have kp5 := hp5.cell
    have kn5 := hn5.cell
    have zp5 := hp5.frozen
    have zn5 := hn5.frozen
    have hw5 : w1.heap.size ≤ w5.heap.size := g5.size
    refine ⟨trivial, ?_⟩
    refine held_all (i := 5) rfl (by kernel_rfl) rfl ?_
    refine wp_app_two n₀ _ (by omega) _ _ rfl N.length (P.length + pd.length) _ (.slice A5 (P.length + pd.length) c5) N (P ++ pd) nd rfl own2 own1 ap5.symm A2 c2 nd.length rfl r5 rfl (by omega) ?_
    intro A6 c6 w6 own3 own4 ap6 g6
    have hp6 := hp5.kept g6 (hp5.not_row hte own2)
    have hn6 := hn5.kept g6 (hn5.not_row hte own2)
    have kp6 := hp6.cell
    have kn6 := hn6.cell
    have zp6 := hp6.frozen
    have zn6 := hn6.frozen
    have D := Lib.hid (bput_done x1 h1 h2 h3 op1.out on1.out g5 own2 g6 hp6 hn6 own4 own3)
    have hne : Bn ≠ Bp := by omega
    have hne2 : Bp ≠ Bn := by omega
    clear hp5 hn5 hp6 hn6 own1 own2 own3 own4 g5 g6 r5
    refine ⟨trivial, ?_⟩
    refine held_all (i := 6) rfl (by kernel_rfl) rfl ?_
    go_wp2_with fail
    refine held_all (i := 7) rfl (by kernel_rfl) rfl ?_
    go_wp2_with fail
    refine held_done (by kernel_rfl) ?_ _
    go_wp2
    go_end0
    exact ⟨⟨_, rfl⟩, _, _, D.out.1, D.out.2.1, by rw [List.length_append]; exact D.out.2.2.1, by rw [List.length_append]; exact D.out.2.2.2.1, ap6.symm, D.out.2.2.2.2.1, D.out.2.2.2.2.2⟩

end Go.Proofs.YtnhmibfgaoealaaGreat
namespace Go.Proofs.YtnhmibfgaoealaaGreat
open Go.RowKit BigFrame
set_option linter.unusedVariables false
set_option linter.unusedSimpArgs false

def Ret2R (w : World) (R1 R2 : List Sp.S) (e : Ending) (w' : World) : Prop := ∃ A1 c1 A2 c2, e = .returned (.tuple #[.slice A1 R1.length c1, .slice A2 R2.length c2]) ∧ (Rs w' A1 R1 ∧ Rs w' A2 R2) ∧ Ext w w' ∧ True
theorem results_cell2 {fn : Func} {p q : Tmp} (h : fn.results = #[.cell p 34, .cell q 34]) (tmps : Array Value) (w : World) (g1 g2 : Nat) (v1 v2 : Value)
    (hp : tmps.getD p undef = .pointer (some ⟨g1, 0, none⟩)) (hq : tmps.getD q undef = .pointer (some ⟨g2, 0, none⟩)) (hc : w.cell? ⟨g1, 0, none⟩ = some v1) (hd : w.cell? ⟨g2, 0, none⟩ = some v2) : (results fn tmps).run Tryz.prog w = .ok (.tuple #[v1, v2]) w := by
  have hp' : tmps[p]?.getD undef = .pointer (some ⟨g1, 0, none⟩) := by simpa using hp
  have hq' : tmps[q]?.getD undef = .pointer (some ⟨g2, 0, none⟩) := by simpa using hq
  have u := Tryz.underlying34
  simp [results, h, hp', hq', asAddr]
  go_simp
theorem Rn.at_move2 {w w' : World} {A : Option Addr} {l : List Int} {B n₀ : Nat} {t : TypeId} {v u : Value} (h : Rn w A l) (hn : w.heap.size ≤ n₀) (hb : Boxed w B t v) (hb2 : Boxed w (B + 1) t u) (hv : ∀ k n, v ≠ .int k n) (hu : ∀ k n, u ≠ .int k n) (hm : Below B w w') (hr : Mid (B + 2) n₀ w w') {j : Nat} (hj : j < l.length) :
    ∃ b off p, A = some ⟨b, off, none⟩ ∧ Hid (l[j]? = some p) ∧ w'.cell? ⟨b, off + j, none⟩ = some (.int .i64 p) := by
  obtain ⟨b, off, p, rfl, hlt, hx, hc⟩ := Rd.atN h (Ext.refl w) hj
  refine ⟨b, off, p, rfl, hx, ?_⟩
  have no : ∀ (B : Nat) (v : Value), Boxed w B t v → (∀ k n, v ≠ .int k n) → b ≠ B := by
    intro B v hb hv e
    subst e
    have hc0 : (World.cell? w ⟨b, off + j, none⟩) = (#[v] : Array Value)[off + j]? := by simp [World.cell?, show w.heap[b]? = _ from hb]
    rw [hc] at hc0
    by_cases h0 : off + j = 0
    · rw [h0] at hc0; simp at hc0; exact absurd hc0.symm (hv _ _)
    · rw [Array.getElem?_eq_none (by simp; omega)] at hc0; cases hc0
  have n1 := no B v hb hv
  have n2 := no (B + 1) u hb2 hu
  by_cases h1 : b < B
  · exact (hm.cell (p := ⟨b, off + j, none⟩) h1).trans hc
  · exact (hr.cell (p := ⟨b, off + j, none⟩) (by show B + 2 ≤ b; omega) (by show b < n₀; omega)).trans hc
theorem fmap_snoc {α : Type} (f : α → List Sp.S) (l : List α) (x : α) : (l ++ [x]).flatMap f = l.flatMap f ++ f x := by simp

theorem paid_done {w wr w5 w6 : World} {A5 A6 Ap An : Option Addr} {c5 c6 n1 n2 cp cn : Nat} {P N : List Sp.S} (X5 : Ext w wr) (x5 : Ext wr.drew w5) (x6 : Ext w5 w6) (hp : Boxed wr (w.heap.size + 2) 34 (.slice Ap n1 cp)) (hn : Boxed wr (w.heap.size + 3) 34 (.slice An n2 cn)) (hle : w.heap.size + 3 < wr.heap.size)
    (o5 : w5.ownsRow wr.drew.heap.size 49 2 (.slice A5 P.length c5) P.length (flat encS P)) (o6 : w6.ownsRow w5.heap.size 49 2 (.slice A6 N.length c6) N.length (flat encS N)) :
    ((w6.setCell ⟨w.heap.size + 2, 0, none⟩ (.slice A5 P.length c5)).setCell ⟨w.heap.size + 3, 0, none⟩ (.slice A6 N.length c6)).cell? ⟨w.heap.size + 2, 0, none⟩ = some (.slice A5 P.length c5) ∧ ((w6.setCell ⟨w.heap.size + 2, 0, none⟩ (.slice A5 P.length c5)).setCell ⟨w.heap.size + 3, 0, none⟩ (.slice A6 N.length c6)).cell? ⟨w.heap.size + 3, 0, none⟩ = some (.slice A6 N.length c6) ∧
    Rs ((w6.setCell ⟨w.heap.size + 2, 0, none⟩ (.slice A5 P.length c5)).setCell ⟨w.heap.size + 3, 0, none⟩ (.slice A6 N.length c6)) A5 P ∧ Rs ((w6.setCell ⟨w.heap.size + 2, 0, none⟩ (.slice A5 P.length c5)).setCell ⟨w.heap.size + 3, 0, none⟩ (.slice A6 N.length c6)) A6 N ∧
    Ext w ((w6.setCell ⟨w.heap.size + 2, 0, none⟩ (.slice A5 P.length c5)).setCell ⟨w.heap.size + 3, 0, none⟩ (.slice A6 N.length c6)) := by
  have hte : 34 ≠ 49 := by decide
  have X : Ext wr w6 := (((Ext.refl wr).drewN 1).trans x5).trans x6
  have hp6 : Boxed w6 (w.heap.size + 2) 34 _ := (X.block _ hp.lt).trans hp
  have hn6 : Boxed w6 (w.heap.size + 3) 34 _ := (X.block _ hn.lt).trans hn
  have o56 := own_below o5 x6
  have hp7 := hp6.set (.slice A5 P.length c5)
  have hn7 : Boxed (w6.setCell ⟨w.heap.size + 2, 0, none⟩ (.slice A5 P.length c5)) (w.heap.size + 3) 34 _ := hn6.other (by omega) _
  have a7 := o56.kept (grownBy_setCell' w6 (w.heap.size + 2) (.slice A5 P.length c5)) (.inr (hp6.not_row hte o56).symm)
  have b7 := o6.kept (grownBy_setCell' w6 (w.heap.size + 2) (.slice A5 P.length c5)) (.inr (hp6.not_row hte o6).symm)
  have a8 := a7.kept (grownBy_setCell' _ (w.heap.size + 3) (.slice A6 N.length c6)) (.inr (hn7.not_row hte a7).symm)
  have b8 := b7.kept (grownBy_setCell' _ (w.heap.size + 3) (.slice A6 N.length c6)) (.inr (hn7.not_row hte b7).symm)
  exact ⟨(hp7.other (by omega) _).cell, (hn7.set _).cell, Rs.own a8, Rs.own b8, ((X5.trans X).setCell (p := ⟨w.heap.size + 2, 0, none⟩) (by show w.heap.size ≤ w.heap.size + 2; omega) _).setCell (p := ⟨w.heap.size + 3, 0, none⟩) (by show w.heap.size ≤ w.heap.size + 3; omega) _⟩
set_option maxRecDepth 100000 in
set_option maxHeartbeats 2000000 in
theorem paidA (cs : List Value) (hcs : cs.length = 23) (l : List SegL) (A : Option Addr) (c : Nat) (hl : l.length ≤ 100) (pd nd : Int → List Sp.S) (bpn : ∀ d, (pd d).length ≤ 900 ∧ (nd d).length ≤ 900) (w : World) (h : Rg w A l)
    (kO : ∀ W, Ext w W → ∀ d, Calls Tryz.prog 13 #[.agg cs.toArray, .slice A l.length c, .int .i64 d] W (Ret2S W (pd d) (nd d))) :
    Calls Tryz.prog 11 #[.agg cs.toArray, .slice A l.length c] w (Ret2R w (Sp.norm ((daysL (Sp.norm (clockL l))).flatMap pd)) (Sp.norm ((daysL (Sp.norm (clockL l))).flatMap nd))) := by
  have hi := Lib.hid (su_size hcs)
  have hDl := days_len (clockL l)
  have kc := fun (w : World) (A : Option Addr) (c : Nat) (h : Rs w A (clockL l)) => cDays h (by have := clock_len l; omega : (clockL l).length ≤ 900000) c
  obtain ⟨D, hD⟩ : ∃ D, daysL (Sp.norm (clockL l)) = D := ⟨_, rfl⟩
  rw [hD] at hDl kc ⊢
  clear hD
  have hPk : ∀ k, ((D.take k).flatMap pd).length ≤ 900000 := fun k => by
    have h1 := flatMap_len pd 900 (D.take k) fun d _ => (bpn d).1
    have h2 : (D.take k).length ≤ 371 := Nat.le_trans (List.length_take_le' _ _) hDl
    omega
  have hNk : ∀ k, ((D.take k).flatMap nd).length ≤ 900000 := fun k => by
    have h1 := flatMap_len nd 900 (D.take k) fun d _ => (bpn d).2
    have h2 : (D.take k).length ≤ 371 := Nat.le_trans (List.length_take_le' _ _) hDl
    omega
  replace kc := Lib.hid kc; replace kO := Lib.hid kO; replace h := Lib.hid h; replace hPk := Lib.hid hPk; replace hNk := Lib.hid hNk; replace bpn := Lib.hid bpn
  have hs0 : Bx ((((w.alloc (.cells cs.toArray 30)).alloc (.cells #[.slice A l.length c] 31)).alloc (.cells #[.slice none 0 0] 34)).alloc (.cells #[.slice none 0 0] 34)) w.heap.size cs 30 := (((Bx.new w cs 30).alloc _).alloc _).alloc _
  have hg0 : Boxed ((((w.alloc (.cells cs.toArray 30)).alloc (.cells #[.slice A l.length c] 31)).alloc (.cells #[.slice none 0 0] 34)).alloc (.cells #[.slice none 0 0] 34)) (w.heap.size + 1) 31 (.slice A l.length c) := by have := ((Boxed.new (w.alloc (.cells cs.toArray 30)) 31 (.slice A l.length c)).alloc (.cells #[.slice none 0 0] 34)).alloc (.cells #[.slice none 0 0] 34); simpa using this
  have hp0 : Boxed ((((w.alloc (.cells cs.toArray 30)).alloc (.cells #[.slice A l.length c] 31)).alloc (.cells #[.slice none 0 0] 34)).alloc (.cells #[.slice none 0 0] 34)) (w.heap.size + 2) 34 (.slice none 0 0) := by have := (Boxed.new ((w.alloc (.cells cs.toArray 30)).alloc (.cells #[.slice A l.length c] 31)) 34 (.slice none 0 0)).alloc (.cells #[.slice none 0 0] 34); simpa using this
  have hn0 : Boxed ((((w.alloc (.cells cs.toArray 30)).alloc (.cells #[.slice A l.length c] 31)).alloc (.cells #[.slice none 0 0] 34)).alloc (.cells #[.slice none 0 0] 34)) (w.heap.size + 3) 34 (.slice none 0 0) := by have := Boxed.new (((w.alloc (.cells cs.toArray 30)).alloc (.cells #[.slice A l.length c] 31)).alloc (.cells #[.slice none 0 0] 34)) 34 (.slice none 0 0); simpa using this
  have X0 := ((((Ext.refl w).alloc (.cells cs.toArray 30)).alloc (.cells #[.slice A l.length c] 31)).alloc (.cells #[.slice none 0 0] 34)).alloc (.cells #[.slice none 0 0] 34)
  have cg := hg0.cell
  go_enter Tryz.func11, Tryz.ntmps11
  go_wp2_with fail
  refine (pClock (h.out.ext X0) (by omega) _).mono ?_
  rintro e w1 ⟨A1, c1, rfl, r1, x1, _⟩
  go_wp2_with fail
  refine (kc.out _ _ _ r1).mono ?_
  rintro e w2 ⟨A2, c2, rfl, r2, x2, _⟩
  have x12 := x1.trans x2
  have X2 := X0.trans x12
  have hs2 := Lib.hid (hs0.ext x12)
  have hg2 : Hid (Boxed w2 (w.heap.size + 1) 31 _) := (x12.block _ hg0.lt).trans hg0
  have hp2 : Hid (Boxed w2 (w.heap.size + 2) 34 _) := (x12.block _ hp0.lt).trans hp0
  have hn2 : Hid (Boxed w2 (w.heap.size + 3) 34 _) := (x12.block _ hn0.lt).trans hn0
  have hBn : w.heap.size + 3 < w2.heap.size := hn2.out.lt
  clear hs0 hg0 hp0 hn0 cg x12 x1 x2 X0
  go_wp2_with fail
  go_loopw [15] (fun i wr => ∃ (k : Nat) (vp vn : Value), k ≤ D.length ∧ i = .int .i64 k ∧ Hid (Boxed wr (w.heap.size + 2) 34 vp) ∧ Hid (Boxed wr (w.heap.size + 3) 34 vn) ∧ Hid (wr.ownsRow w2.heap.size 49 2 vp ((D.take k).flatMap pd).length (flat encS ((D.take k).flatMap pd))) ∧ Hid (wr.ownsRow w2.heap.size 49 2 vn ((D.take k).flatMap nd).length (flat encS ((D.take k).flatMap nd))) ∧ Hid (Apart vn vp) ∧ Hid (Below (w.heap.size + 2) w2 wr) ∧ Hid (Mid (w.heap.size + 4) w2.heap.size w2 wr)) (fun i _ => D.length - (intOf i).toNat)
  case atStart => exact ⟨0, _, _, Nat.zero_le _, rfl, hp2, hn2, own_nil _ _, own_nil _ _, .inl rfl, Below.refl _ _, Mid.refl _ _ _⟩
  case round =>
    obtain ⟨k, vp, vn, hk, rfl, HP, HN, OP, ON, AP, HM, HR⟩ := hrel
    have X5 : Ext w wr := Below.trans X2 (Below.mono HM.out (by omega))
    by_cases hlt : k < D.length
    · obtain ⟨b, off, d, rfl, hx, c0⟩ := Rn.at_move2 r2 (Nat.le_refl _) hp2.out hn2.out (fun _ _ h => by cases h) (fun _ _ h => by cases h) HM.out HR.out hlt
      have hq0 : (0 : Int) ≤ (k : Int) := by omega
      have hq1 : (k : Int) < (D.length : Int) := by omega
      have E1 : Hid ((D.take (k + 1)).flatMap pd = (D.take k).flatMap pd ++ pd d) := by show _ = _; rw [take_snoc hx.out, fmap_snoc]
      have E2 : Hid ((D.take (k + 1)).flatMap nd = (D.take k).flatMap nd ++ nd d) := by show _ = _; rw [take_snoc hx.out, fmap_snoc]
      go_wp2_with fail
      refine (bput cs hcs l A c w2.heap.size w.heap.size (w.heap.size + 1) (w.heap.size + 2) (w.heap.size + 3) _ _ (pd d) (nd d) vp vn d wr ((HM.out.block w.heap.size (by omega)).trans hs2.out) ((HM.out.block (w.heap.size + 1) (by omega)).trans hg2.out) (h.out.ext X5) HP.out HN.out OP.out ON.out AP.out (by omega) hBn HR.out.size (by have := hPk.out k; omega) (by have := hNk.out k; omega) (by have := (bpn.out d).1; omega) (by have := (bpn.out d).2; omega) (kO.out wr X5 d)).mono ?_
      rintro e w5 ⟨⟨r, rfl⟩, vp5, vn5, hp5, hn5, op5, on5, ap5, m1, m2⟩
      rw [← E1.out] at op5; rw [← E2.out] at on5
      replace hp5 := Lib.hid hp5; replace hn5 := Lib.hid hn5; replace op5 := Lib.hid op5; replace on5 := Lib.hid on5; replace ap5 := Lib.hid ap5
      have m3 := Lib.hid (HM.out.trans m1); have m4 := Lib.hid (HR.out.trans m2)
      clear m1 m2 HP HN OP ON AP HM HR X5
      go_wp2
      go_roundw
      case rel => exact ⟨k + 1, vp5, vn5, by omega, by go_num, hp5, hn5, op5, on5, ap5, m3, m4⟩
      case measure => simp [intOf]; omega
    · obtain rfl : k = D.length := by omega
      have lP := hPk.out D.length
      have lN := hNk.out D.length
      rw [List.take_length] at OP ON lP lN
      obtain ⟨P, hP⟩ : ∃ P, D.flatMap pd = P := ⟨_, rfl⟩
      obtain ⟨N, hN⟩ : ∃ N, D.flatMap nd = N := ⟨_, rfl⟩
      rw [hP] at OP lP; rw [hN] at ON lN
      replace hP := Lib.hid hP; replace hN := Lib.hid hN
      obtain ⟨Ap, cp, rfl, _, _⟩ := own_form OP.out
      obtain ⟨An, cn, rfl, _, _⟩ := own_form ON.out
      have kp := HP.out.cell
      have kn := HN.out.cell
      have hr : w2.heap.size ≤ wr.heap.size := HR.out.size
      have rP : Hid (Rs wr Ap P) := Rs.own OP.out
      have rN : Hid (Rs wr An N) := Rs.own ON.out
      clear HM HR AP hs2 hg2 r2 hPk hNk
      go_wp2_with fail
      refine held_start (S := fun _ => True) 6 rfl (by kernel_rfl) ?_
      refine held_two (i := 0) (j := 2) rfl rfl (by kernel_rfl) rfl rfl ?_ ?_
      · go_wp2_with fail
        refine held_two (i := 1) (j := 2) rfl rfl (by kernel_rfl) rfl rfl ?_ ?_
        · go_wp2_with fail
          refine (cNorm (Rs.drewN rP.out 1) lP _).mono ?_
          rintro e w5 ⟨A5, c5, rfl, r5, x5, o5⟩
          have kp5 := (x5.cell (p := ⟨w.heap.size + 2, 0, none⟩) HP.out.lt).trans kp
          have kn5 := (x5.cell (p := ⟨w.heap.size + 3, 0, none⟩) HN.out.lt).trans kn
          have rN5 := rN.out.ext (((Ext.refl wr).drewN 1).trans x5)
          refine held_all (i := 2) rfl (by kernel_rfl) rfl ?_
          go_wp2_with fail
          refine held_all (i := 3) rfl (by kernel_rfl) rfl ?_
          go_wp2_with fail
          refine (cNorm rN5 lN _).mono ?_
          rintro e w6 ⟨A6, c6, rfl, r6, x6, o6⟩
          have D6 := Lib.hid (paid_done X5 x5 x6 HP.out HN.out (by omega) o5 o6)
          have hp6 : Boxed w6 (w.heap.size + 2) 34 _ := ((((Ext.refl wr).drewN 1).trans x5).trans x6).block _ HP.out.lt |>.trans HP.out
          have hn6 : Boxed w6 (w.heap.size + 3) 34 _ := ((((Ext.refl wr).drewN 1).trans x5).trans x6).block _ HN.out.lt |>.trans HN.out
          have kp6 := hp6.cell
          have kn6 := hn6.cell
          have zp6 := hp6.frozen
          have zn6 := hn6.frozen
          clear hp6 hn6
          refine held_all (i := 4) rfl (by kernel_rfl) rfl ?_
          go_wp2_with fail
          refine held_all (i := 5) rfl (by kernel_rfl) rfl ?_
          go_wp2_with fail
          refine held_done (by kernel_rfl) ?_ _
          go_wp2
          refine bodyPost_ret (results_cell2 rfl _ _ (w.heap.size + 2) (w.heap.size + 3) _ _ rfl rfl D6.out.1 D6.out.2.1) rfl ⟨A5, c5, A6, c6, by rw [hP.out, hN.out], ⟨by rw [hP.out]; exact D6.out.2.2.1, by rw [hN.out]; exact D6.out.2.2.2.1⟩, D6.out.2.2.2.2, trivial⟩
        · go_wp2_with fail
          refine held_all (i := 1) rfl (by kernel_rfl) rfl ?_
          go_wp2_with fail
          refine (cNorm (Rs.drewN rP.out 1) lP _).mono ?_
          rintro e w5 ⟨A5, c5, rfl, r5, x5, o5⟩
          have kp5 := (x5.cell (p := ⟨w.heap.size + 2, 0, none⟩) HP.out.lt).trans kp
          have kn5 := (x5.cell (p := ⟨w.heap.size + 3, 0, none⟩) HN.out.lt).trans kn
          have rN5 := rN.out.ext (((Ext.refl wr).drewN 1).trans x5)
          refine held_all (i := 3) rfl (by kernel_rfl) rfl ?_
          go_wp2_with fail
          refine (cNorm rN5 lN _).mono ?_
          rintro e w6 ⟨A6, c6, rfl, r6, x6, o6⟩
          have D6 := Lib.hid (paid_done X5 x5 x6 HP.out HN.out (by omega) o5 o6)
          have hp6 : Boxed w6 (w.heap.size + 2) 34 _ := ((((Ext.refl wr).drewN 1).trans x5).trans x6).block _ HP.out.lt |>.trans HP.out
          have hn6 : Boxed w6 (w.heap.size + 3) 34 _ := ((((Ext.refl wr).drewN 1).trans x5).trans x6).block _ HN.out.lt |>.trans HN.out
          have kp6 := hp6.cell
          have kn6 := hn6.cell
          have zp6 := hp6.frozen
          have zn6 := hn6.frozen
          clear hp6 hn6
          refine held_all (i := 4) rfl (by kernel_rfl) rfl ?_
          go_wp2_with fail
          refine held_all (i := 5) rfl (by kernel_rfl) rfl ?_
          go_wp2_with fail
          refine held_done (by kernel_rfl) ?_ _
          go_wp2
          refine bodyPost_ret (results_cell2 rfl _ _ (w.heap.size + 2) (w.heap.size + 3) _ _ rfl rfl D6.out.1 D6.out.2.1) rfl ⟨A5, c5, A6, c6, by rw [hP.out, hN.out], ⟨by rw [hP.out]; exact D6.out.2.2.1, by rw [hN.out]; exact D6.out.2.2.2.1⟩, D6.out.2.2.2.2, trivial⟩
      · go_wp2_with fail
        refine held_all (i := 0) rfl (by kernel_rfl) rfl ?_
        go_wp2_with fail
        refine held_all (i := 1) rfl (by kernel_rfl) rfl ?_
        go_wp2_with fail
        refine (cNorm (Rs.drewN rP.out 1) lP _).mono ?_
        rintro e w5 ⟨A5, c5, rfl, r5, x5, o5⟩
        have kp5 := (x5.cell (p := ⟨w.heap.size + 2, 0, none⟩) HP.out.lt).trans kp
        have kn5 := (x5.cell (p := ⟨w.heap.size + 3, 0, none⟩) HN.out.lt).trans kn
        have rN5 := rN.out.ext (((Ext.refl wr).drewN 1).trans x5)
        refine held_all (i := 3) rfl (by kernel_rfl) rfl ?_
        go_wp2_with fail
        refine (cNorm rN5 lN _).mono ?_
        rintro e w6 ⟨A6, c6, rfl, r6, x6, o6⟩
        have D6 := Lib.hid (paid_done X5 x5 x6 HP.out HN.out (by omega) o5 o6)
        have hp6 : Boxed w6 (w.heap.size + 2) 34 _ := ((((Ext.refl wr).drewN 1).trans x5).trans x6).block _ HP.out.lt |>.trans HP.out
        have hn6 : Boxed w6 (w.heap.size + 3) 34 _ := ((((Ext.refl wr).drewN 1).trans x5).trans x6).block _ HN.out.lt |>.trans HN.out
        have kp6 := hp6.cell
        have kn6 := hn6.cell
        have zp6 := hp6.frozen
        have zn6 := hn6.frozen
        clear hp6 hn6
        refine held_all (i := 4) rfl (by kernel_rfl) rfl ?_
        go_wp2_with fail
        refine held_all (i := 5) rfl (by kernel_rfl) rfl ?_
        go_wp2_with fail
        refine held_done (by kernel_rfl) ?_ _
        go_wp2
        refine bodyPost_ret (results_cell2 rfl _ _ (w.heap.size + 2) (w.heap.size + 3) _ _ rfl rfl D6.out.1 D6.out.2.1) rfl ⟨A5, c5, A6, c6, by rw [hP.out, hN.out], ⟨by rw [hP.out]; exact D6.out.2.2.1, by rw [hN.out]; exact D6.out.2.2.2.1⟩, D6.out.2.2.2.2, trivial⟩

end Go.Proofs.YtnhmibfgaoealaaGreat
