/-
  breaks.Paid: the closure that adds a day.
-/
import Derived.Test.YtnhmibfgaoealaaKe
import Derived.Test.YtnhmibfgaoealaaLv
namespace Go.Proofs.Ytnhmibfgaoealaa
open Go.RowKit BigFrame
set_option linter.unusedVariables false
set_option linter.unusedSimpArgs false

theorem held_two {P : Program} {ops : Array Oper} {Q : Exit → Act → World → Prop} {S : World → Prop} {i j fuel : Nat} {oi oj : Oper} {listed : Array Bool} {a : Act} {w : World} (hi : ops[i]? = some oi) (hj : ops[j]? = some oj) (hr : Region.ready .any ops listed = [i, j]) (hwi : Region.wanted oi (yielded ops a.tmps) = true) (hwj : Region.wanted oj (yielded ops a.tmps) = true)
    (h1 : oi.wp P a w (fun a' w' => S w' ∧ wpAnyH P .any ops (NoPanic Q) S fuel (listed.setIfInBounds i true) a' w') (NoPanic Q))
    (h2 : oj.wp P a w (fun a' w' => S w' ∧ wpAnyH P .any ops (NoPanic Q) S fuel (listed.setIfInBounds j true) a' w') (NoPanic Q)) : wpAnyH P .any ops (NoPanic Q) S (fuel + 1) listed a w :=
  wpAnyH_all hr (by simp) fun k hk => by
    simp at hk
    unfold wpOp
    rcases hk with rfl | rfl
    · simp only [hi, hwi, if_true]; exact .inl h1
    · simp only [hj, hwj, if_true]; exact .inl h2

theorem Rs.apart {w w' : World} {A : Option Addr} {l : List Sp.S} {v : Value} {n c : Nat} (h : Rs w A l) (hg : w.grownBy w' v.ownBlock) (ha : Apart (.slice A n c) v) : Rs w' A l :=
  h.moved hg fun b off e => by
    subst e
    rcases ha with ha | ha
    · cases ha
    · exact ha

theorem bput_done {w w1 w5 w6 : World} {n₀ Bp Bn k m k1 m1 : Nat} {vp vn vp' vn' : Value} {xs ys xs1 ys1 : List Value} (x1 : Ext w w1) (h1 : Bp < Bn) (h2 : Bn < n₀) (h3 : n₀ ≤ w.heap.size)
    (op : w1.ownsRow n₀ 42 2 vp k xs) (on : w1.ownsRow n₀ 42 2 vn m ys) (g5 : w1.drew.grownBy w5 vp.ownBlock) (on5 : w5.ownsRow n₀ 42 2 vn m ys) (g6 : w5.grownBy w6 vn.ownBlock)
    (hp6 : Boxed w6 Bp 40 vp) (hn6 : Boxed w6 Bn 40 vn) (op6 : w6.ownsRow n₀ 42 2 vp' k1 xs1) (on6 : w6.ownsRow n₀ 42 2 vn' m1 ys1) :
    Boxed ((w6.setCell ⟨Bp, 0, none⟩ vp').setCell ⟨Bn, 0, none⟩ vn') Bp 40 vp' ∧ Boxed ((w6.setCell ⟨Bp, 0, none⟩ vp').setCell ⟨Bn, 0, none⟩ vn') Bn 40 vn' ∧
    ((w6.setCell ⟨Bp, 0, none⟩ vp').setCell ⟨Bn, 0, none⟩ vn').ownsRow n₀ 42 2 vp' k1 xs1 ∧ ((w6.setCell ⟨Bp, 0, none⟩ vp').setCell ⟨Bn, 0, none⟩ vn').ownsRow n₀ 42 2 vn' m1 ys1 ∧
    Below Bp w ((w6.setCell ⟨Bp, 0, none⟩ vp').setCell ⟨Bn, 0, none⟩ vn') ∧ Mid (Bn + 1) n₀ w ((w6.setCell ⟨Bp, 0, none⟩ vp').setCell ⟨Bn, 0, none⟩ vn') := by
  have hte : 40 ≠ 42 := by decide
  have hp7 := hp6.set vp'
  have hn7 : Boxed (w6.setCell ⟨Bp, 0, none⟩ vp') Bn 40 vn := hn6.other (by omega) vp'
  have hp8 : Boxed ((w6.setCell ⟨Bp, 0, none⟩ vp').setCell ⟨Bn, 0, none⟩ vn') Bp 40 vp' := hp7.other (by omega) vn'
  have hn8 := hn7.set vn'
  have op7 := op6.kept (grownBy_setCell' w6 Bp vp') (.inr (hp6.not_row hte op6).symm)
  have op8 := op7.kept (grownBy_setCell' _ Bn vn') (.inr (hn7.not_row hte op7).symm)
  have on7 := on6.kept (grownBy_setCell' w6 Bp vp') (.inr (hp6.not_row hte on6).symm)
  have on8 := on7.kept (grownBy_setCell' _ Bn vn') (.inr (hn7.not_row hte on7).symm)
  have hw1 : w.heap.size ≤ w1.heap.size := x1.size
  have hw5 : w1.heap.size ≤ w5.heap.size := g5.size
  refine ⟨hp8, hn8, op8, on8, ?_, ?_⟩
  · have b1 : Below Bp w w1.drew := (Below.mono x1 (by omega)).trans (below_drewN (Below.refl _ _) 1)
    have b5 := b1.grown g5 (by show Bp ≤ w1.heap.size; omega) fun g hg => by have := (op.lt g hg).1; omega
    have b6 := b5.grown g6 (by omega) fun g hg => by have := (on5.lt g hg).1; omega
    exact (b6.setCell (p := ⟨Bp, 0, none⟩) (Nat.le_refl _) vp').setCell (p := ⟨Bn, 0, none⟩) (Nat.le_of_lt h1) vn'
  · have b1 : Mid (Bn + 1) n₀ w w1.drew := ((Mid.refl _ _ _).below h3 x1).drewN 1
    have b5 := b1.grown h3 g5 fun g hg => .inr (op.lt g hg).1
    have b6 := b5.grown h3 g6 fun g hg => .inr (on5.lt g hg).1
    exact (b6.grown h3 (grownBy_setCell' w6 Bp vp') fun g hg => by cases hg; exact .inl (by omega)).grown h3 (grownBy_setCell' _ Bn vn') fun g hg => by cases hg; exact .inl (Nat.lt_succ_self _)

set_option maxRecDepth 100000 in
set_option maxHeartbeats 2000000 in
theorem bput (cs : List Value) (hcs : cs.length = 23) (l : List SegL) (Ag : Option Addr) (c n₀ Bs Bg Bp Bn : Nat) (P N pd nd : List Sp.S) (vp vn : Value) (d : Int) (w : World) (hs : Bx w Bs cs 35) (hg : Boxed w Bg 69 (.slice Ag l.length c)) (hG : Rg w Ag l)
    (hp : Boxed w Bp 40 vp) (hn : Boxed w Bn 40 vn) (op : w.ownsRow n₀ 42 2 vp P.length (flat encS P)) (on : w.ownsRow n₀ 42 2 vn N.length (flat encS N)) (ap : Apart vn vp) (h1 : Bp < Bn) (h2 : Bn < n₀) (h3 : n₀ ≤ w.heap.size)
    (lP : P.length ≤ 1000000000) (lN : N.length ≤ 1000000000) (lp : pd.length ≤ 1000000) (ln : nd.length ≤ 1000000) (kO : Calls Try.prog 68 #[.agg cs.toArray, .slice Ag l.length c, .int .i64 d] w (Ret2S w pd nd)) :
    Calls Try.prog 99 #[.int .i64 d, .pointer (some ⟨Bs, 0, none⟩), .pointer (some ⟨Bg, 0, none⟩), .pointer (some ⟨Bp, 0, none⟩), .pointer (some ⟨Bn, 0, none⟩)] w fun e w' => (∃ r, e = .returned r) ∧ ∃ vp' vn', Boxed w' Bp 40 vp' ∧ Boxed w' Bn 40 vn' ∧ w'.ownsRow n₀ 42 2 vp' (P ++ pd).length (flat encS (P ++ pd)) ∧ w'.ownsRow n₀ 42 2 vn' (N ++ nd).length (flat encS (N ++ nd)) ∧ Apart vn' vp' ∧ Below Bp w w' ∧ Mid (Bn + 1) n₀ w w' := by
  have hi := Lib.hid (su_size hcs)
  obtain ⟨Ap, cp, rfl, _, _⟩ := own_form op
  obtain ⟨An, cn, rfl, _, _⟩ := own_form on
  have cg := hg.cell
  have hte : 40 ≠ 42 := by decide
  have hz : n₀ ≤ w.heap.size := h3
  replace hs := Lib.hid hs
  replace hG := Lib.hid hG
  replace hp := Lib.hid hp
  replace hn := Lib.hid hn
  replace op := Lib.hid op
  replace on := Lib.hid on
  replace ap := Lib.hid ap
  clear hg
  go_enter Try.func99, Try.ntmps99
  go_wp2_with (first | (refine load_box rfl 35 _ rfl _ rfl _ _ hs.out _ Try.underlying35 rfl hi.out ?_))
  refine kO.mono ?_
  rintro e w1 ⟨A1, c1, A2, c2, rfl, ⟨r1, r2⟩, x1, o1, o2⟩
  have hp1 : Boxed w1 Bp 40 _ := (x1.block Bp hp.out.lt).trans hp.out
  have hn1 : Boxed w1 Bn 40 _ := (x1.block Bn hn.out.lt).trans hn.out
  have op1 := own_below op.out x1
  have on1 := own_below on.out x1
  have q1 := Apart.fresh op.out o1
  have q2 := Apart.fresh on.out o2
  have q3 := Apart.fresh op.out o2
  have kp := hp1.cell
  have kn := hn1.cell
  have zp := hp1.frozen
  have zn := hn1.frozen
  have hw1 : w.heap.size ≤ w1.heap.size := x1.size
  replace hp1 := Lib.hid hp1; replace hn1 := Lib.hid hn1; replace op1 := Lib.hid op1; replace on1 := Lib.hid on1; replace q1 := Lib.hid q1; replace q2 := Lib.hid q2; replace q3 := Lib.hid q3; replace r1 := Lib.hid r1; replace r2 := Lib.hid r2
  clear o1 o2 cg
  go_wp2_with fail
  refine held_start (S := fun _ => True) 8 rfl (by kernel_rfl) ?_
  refine held_move (i := 1) rfl (by kernel_rfl) (by kernel_rfl) (by kernel_rfl) _ rfl rfl trivial _ (by simp [Act.put]; rfl) ?_
  refine held_move (i := 4) rfl (by kernel_rfl) (by kernel_rfl) (by kernel_rfl) _ rfl rfl trivial _ (by simp [Act.put]; rfl) ?_
  refine held_two (i := 0) (j := 3) rfl rfl (by kernel_rfl) rfl rfl ?_ ?_
  · go_wp2_with fail
    refine held_two (i := 2) (j := 3) rfl rfl (by kernel_rfl) rfl rfl ?_ ?_
    · refine wp_app_two n₀ _ (show n₀ ≤ w1.heap.size by omega) _ _ rfl P.length N.length _ (.slice An N.length cn) P N pd rfl (own_drewN op1.out 1) (own_drewN on1.out 1) ap.out A1 c1 pd.length rfl (Rs.drewN r1.out 1) rfl (by omega) ?_
      intro A5 c5 w5 own1 own2 ap5 g5
      have hp5 : Boxed w5 Bp 40 _ := Boxed.kept (W := w1.drew) hp1.out g5 (hp1.out.not_row hte op1.out)
      have hn5 : Boxed w5 Bn 40 _ := Boxed.kept (W := w1.drew) hn1.out g5 (hn1.out.not_row hte op1.out)
      have r5 : Rs w5 A2 nd := Rs.apart (Rs.drewN r2.out 1) g5 q3.out
      have kp5 := hp5.cell
      have kn5 := hn5.cell
      have zp5 := hp5.frozen
      have zn5 := hn5.frozen
      have hw5 : w1.heap.size ≤ w5.heap.size := g5.size
      refine ⟨trivial, ?_⟩
      refine held_all (i := 3) rfl (by kernel_rfl) rfl ?_
      go_wp2_with fail
      refine held_all (i := 5) rfl (by kernel_rfl) rfl ?_
      refine wp_app_two n₀ _ (by omega) _ _ rfl N.length (P.length + pd.length) _ (.slice A5 (P.length + pd.length) c5) N (P ++ pd) nd rfl own2 own1 ap5.symm A2 c2 nd.length rfl r5 rfl (by omega) ?_
      intro A6 c6 w6 own3 own4 ap6 g6
      have hp6 := hp5.kept g6 (hp5.not_row hte own2)
      have hn6 := hn5.kept g6 (hn5.not_row hte own2)
      have kp6 := hp6.cell
      have kn6 := hn6.cell
      have zp6 := hp6.frozen
      have zn6 := hn6.frozen
      have D := Lib.hid (bput_done x1 h1 h2 h3 op1.out on1.out g5 own2 g6 hp6 hn6 own4 own3)
      have hne : Bn ≠ Bp := by omega
      have hne2 : Bp ≠ Bn := by omega
      clear hp5 hn5 hp6 hn6 own1 own2 own3 own4 g5 g6 r5
      refine ⟨trivial, ?_⟩
      refine held_all (i := 6) rfl (by kernel_rfl) rfl ?_
      go_wp2_with fail
      refine held_all (i := 7) rfl (by kernel_rfl) rfl ?_
      go_wp2_with fail
      refine held_done (by kernel_rfl) ?_ _
      go_wp2
      go_end0
      exact ⟨⟨_, rfl⟩, _, _, D.out.1, D.out.2.1, by rw [List.length_append]; exact D.out.2.2.1, by rw [List.length_append]; exact D.out.2.2.2.1, ap6.symm, D.out.2.2.2.2.1, D.out.2.2.2.2.2⟩
    · go_wp2_with fail
      refine held_all (i := 2) rfl (by kernel_rfl) rfl ?_
      refine wp_app_two n₀ _ (show n₀ ≤ w1.heap.size by omega) _ _ rfl P.length N.length _ (.slice An N.length cn) P N pd rfl (own_drewN op1.out 1) (own_drewN on1.out 1) ap.out A1 c1 pd.length rfl (Rs.drewN r1.out 1) rfl (by omega) ?_
      intro A5 c5 w5 own1 own2 ap5 g5
      have hp5 : Boxed w5 Bp 40 _ := Boxed.kept (W := w1.drew) hp1.out g5 (hp1.out.not_row hte op1.out)
      have hn5 : Boxed w5 Bn 40 _ := Boxed.kept (W := w1.drew) hn1.out g5 (hn1.out.not_row hte op1.out)
      have r5 : Rs w5 A2 nd := Rs.apart (Rs.drewN r2.out 1) g5 q3.out
      have kp5 := hp5.cell
      have kn5 := hn5.cell
      have zp5 := hp5.frozen
      have zn5 := hn5.frozen
      have hw5 : w1.heap.size ≤ w5.heap.size := g5.size
      refine ⟨trivial, ?_⟩
      refine held_all (i := 5) rfl (by kernel_rfl) rfl ?_
      refine wp_app_two n₀ _ (by omega) _ _ rfl N.length (P.length + pd.length) _ (.slice A5 (P.length + pd.length) c5) N (P ++ pd) nd rfl own2 own1 ap5.symm A2 c2 nd.length rfl r5 rfl (by omega) ?_
      intro A6 c6 w6 own3 own4 ap6 g6
      have hp6 := hp5.kept g6 (hp5.not_row hte own2)
      have hn6 := hn5.kept g6 (hn5.not_row hte own2)
      have kp6 := hp6.cell
      have kn6 := hn6.cell
      have zp6 := hp6.frozen
      have zn6 := hn6.frozen
      have D := Lib.hid (bput_done x1 h1 h2 h3 op1.out on1.out g5 own2 g6 hp6 hn6 own4 own3)
      have hne : Bn ≠ Bp := by omega
      have hne2 : Bp ≠ Bn := by omega
      clear hp5 hn5 hp6 hn6 own1 own2 own3 own4 g5 g6 r5
      refine ⟨trivial, ?_⟩
      refine held_all (i := 6) rfl (by kernel_rfl) rfl ?_
      go_wp2_with fail
      refine held_all (i := 7) rfl (by kernel_rfl) rfl ?_
      go_wp2_with fail
      refine held_done (by kernel_rfl) ?_ _
      go_wp2
      go_end0
      exact ⟨⟨_, rfl⟩, _, _, D.out.1, D.out.2.1, by rw [List.length_append]; exact D.out.2.2.1, by rw [List.length_append]; exact D.out.2.2.2.1, ap6.symm, D.out.2.2.2.2.1, D.out.2.2.2.2.2⟩
  · go_wp2_with fail
    refine held_all (i := 0) rfl (by kernel_rfl) rfl ?_
    go_wp2_with fail
    refine held_all (i := 2) rfl (by kernel_rfl) rfl ?_
    refine wp_app_two n₀ _ (show n₀ ≤ w1.heap.size by omega) _ _ rfl P.length N.length _ (.slice An N.length cn) P N pd rfl (own_drewN op1.out 1) (own_drewN on1.out 1) ap.out A1 c1 pd.length rfl (Rs.drewN r1.out 1) rfl (by omega) ?_
    intro A5 c5 w5 own1 own2 ap5 g5
    have hp5 : Boxed w5 Bp 40 _ := Boxed.kept (W := w1.drew) hp1.out g5 (hp1.out.not_row hte op1.out)
    have hn5 : Boxed w5 Bn 40 _ := Boxed.kept (W := w1.drew) hn1.out g5 (hn1.out.not_row hte op1.out)
    have r5 : Rs w5 A2 nd := Rs.apart (Rs.drewN r2.out 1) g5 q3.out
    have kp5 := hp5.cell
    have kn5 := hn5.cell
    have zp5 := hp5.frozen
    have zn5 := hn5.frozen
    have hw5 : w1.heap.size ≤ w5.heap.size := g5.size
    refine ⟨trivial, ?_⟩
    refine held_all (i := 5) rfl (by kernel_rfl) rfl ?_
    refine wp_app_two n₀ _ (by omega) _ _ rfl N.length (P.length + pd.length) _ (.slice A5 (P.length + pd.length) c5) N (P ++ pd) nd rfl own2 own1 ap5.symm A2 c2 nd.length rfl r5 rfl (by omega) ?_
    intro A6 c6 w6 own3 own4 ap6 g6
    have hp6 := hp5.kept g6 (hp5.not_row hte own2)
    have hn6 := hn5.kept g6 (hn5.not_row hte own2)
    have kp6 := hp6.cell
    have kn6 := hn6.cell
    have zp6 := hp6.frozen
    have zn6 := hn6.frozen
    have D := Lib.hid (bput_done x1 h1 h2 h3 op1.out on1.out g5 own2 g6 hp6 hn6 own4 own3)
    have hne : Bn ≠ Bp := by omega
    have hne2 : Bp ≠ Bn := by omega
    clear hp5 hn5 hp6 hn6 own1 own2 own3 own4 g5 g6 r5
    refine ⟨trivial, ?_⟩
    refine held_all (i := 6) rfl (by kernel_rfl) rfl ?_
    go_wp2_with fail
    refine held_all (i := 7) rfl (by kernel_rfl) rfl ?_
    go_wp2_with fail
    refine held_done (by kernel_rfl) ?_ _
    go_wp2
    go_end0
    exact ⟨⟨_, rfl⟩, _, _, D.out.1, D.out.2.1, by rw [List.length_append]; exact D.out.2.2.1, by rw [List.length_append]; exact D.out.2.2.2.1, ap6.symm, D.out.2.2.2.2.1, D.out.2.2.2.2.2⟩

end Go.Proofs.Ytnhmibfgaoealaa
