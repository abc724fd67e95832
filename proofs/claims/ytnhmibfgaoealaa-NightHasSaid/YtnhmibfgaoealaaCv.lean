/-
  setup.Check, and lumperref07.Few.
-/
import Derived.Test.YtnhmibfgaoealaaCu
namespace Go.Proofs.Ytnhmibfgaoealaa
open Go.RowKit
set_option linter.unusedVariables false
set_option linter.unusedSimpArgs false

/-- At most a hundred of each list. -/
def SuFew (s : Su) : Prop := s.ways.length ≤ 100 ∧ s.elements.length ≤ 100 ∧ s.classes.length ≤ 100 ∧ s.gears.length ≤ 100 ∧ s.rates.length ≤ 100 ∧ s.tiers.length ≤ 100

set_option maxRecDepth 100000 in
set_option maxHeartbeats 1000000 in
theorem checkA (v_pl v_wy v_p1 v_p2 v_el v_cl v_ge v_al v_un v_ca v_pb v_aa v_ab v_dr v_do v_wr v_nf v_nt v_ra v_di v_le v_fa v_ti : Value) (q1 q2 q3 q4 : Bool) (w : World) (k1 : ∀ (W : World), Ext w W → Calls Try.prog 88 #[.agg #[v_pl, v_wy, v_p1, v_p2, v_el, v_cl, v_ge, v_al, v_un, v_ca, v_pb, v_aa, v_ab, v_dr, v_do, v_wr, v_nf, v_nt, v_ra, v_di, v_le, v_fa, v_ti]] W (RetB W q1)) (k2 : ∀ (W : World), Ext w W → Calls Try.prog 89 #[.agg #[v_pl, v_wy, v_p1, v_p2, v_el, v_cl, v_ge, v_al, v_un, v_ca, v_pb, v_aa, v_ab, v_dr, v_do, v_wr, v_nf, v_nt, v_ra, v_di, v_le, v_fa, v_ti]] W (RetB W q2)) (k3 : ∀ (W : World), Ext w W → Calls Try.prog 90 #[.agg #[v_pl, v_wy, v_p1, v_p2, v_el, v_cl, v_ge, v_al, v_un, v_ca, v_pb, v_aa, v_ab, v_dr, v_do, v_wr, v_nf, v_nt, v_ra, v_di, v_le, v_fa, v_ti]] W (RetB W q3)) (k4 : ∀ (W : World), Ext w W → Calls Try.prog 91 #[.agg #[v_pl, v_wy, v_p1, v_p2, v_el, v_cl, v_ge, v_al, v_un, v_ca, v_pb, v_aa, v_ab, v_dr, v_do, v_wr, v_nf, v_nt, v_ra, v_di, v_le, v_fa, v_ti]] W (RetB W q4)) : Calls Try.prog 59 #[.agg #[v_pl, v_wy, v_p1, v_p2, v_el, v_cl, v_ge, v_al, v_un, v_ca, v_pb, v_aa, v_ab, v_dr, v_do, v_wr, v_nf, v_nt, v_ra, v_di, v_le, v_fa, v_ti]] w (RetB w (q1 && q2 && q3 && q4)) := by
  replace k1 := Lib.hid k1
  replace k2 := Lib.hid k2
  replace k3 := Lib.hid k3
  replace k4 := Lib.hid k4
  go_enter Try.func59, Try.ntmps59
  have hs0 := Bx.new w [v_pl, v_wy, v_p1, v_p2, v_el, v_cl, v_ge, v_al, v_un, v_ca, v_pb, v_aa, v_ab, v_dr, v_do, v_wr, v_nf, v_nt, v_ra, v_di, v_le, v_fa, v_ti] 35
  have X0 := (Ext.refl w).alloc (.cells #[v_pl, v_wy, v_p1, v_p2, v_el, v_cl, v_ge, v_al, v_un, v_ca, v_pb, v_aa, v_ab, v_dr, v_do, v_wr, v_nf, v_nt, v_ra, v_di, v_le, v_fa, v_ti] 35)
  go_wp2_with (first | (refine load_box rfl 35 _ rfl _ rfl _ _ hs0 _ Try.underlying35 rfl (by kernel_rfl) ?_))
  refine (k1.out _ X0).mono ?_
  rintro e w1 ⟨rfl, x1⟩
  have hs1 := hs0.ext x1; clear hs0
  have X1 := X0.trans x1
  cases q1
  · go_wp2
    go_ret
    exact ⟨rfl, X1⟩
  · skip
    go_wp2_with (first | (refine load_box rfl 35 _ rfl _ rfl _ _ hs1 _ Try.underlying35 rfl (by kernel_rfl) ?_))
    refine (k2.out _ X1).mono ?_
    rintro e w2 ⟨rfl, x2⟩
    have hs2 := hs1.ext x2; clear hs1
    have X2 := X1.trans x2
    cases q2
    · go_wp2
      go_ret
      exact ⟨rfl, X2⟩
    · skip
      go_wp2_with (first | (refine load_box rfl 35 _ rfl _ rfl _ _ hs2 _ Try.underlying35 rfl (by kernel_rfl) ?_))
      refine (k3.out _ X2).mono ?_
      rintro e w3 ⟨rfl, x3⟩
      have hs3 := hs2.ext x3; clear hs2
      have X3 := X2.trans x3
      cases q3
      · go_wp2
        go_ret
        exact ⟨rfl, X3⟩
      · skip
        go_wp2_with (first | (refine load_box rfl 35 _ rfl _ rfl _ _ hs3 _ Try.underlying35 rfl (by kernel_rfl) ?_))
        refine (k4.out _ X3).mono ?_
        rintro e w4 ⟨rfl, x4⟩
        have hs4 := hs3.ext x4; clear hs3
        have X4 := X3.trans x4
        go_wp2
        go_ret
        exact ⟨rfl, X4⟩

theorem pCheck {s : Su} {h : Sh} (ok : SuOk s) (fw : SuFew s) {w : World} (r : SuR w s h) : Calls Try.prog 59 #[.agg (s.cells h).toArray] w (RetB w (chk s)) := by
  obtain ⟨f1, f2, f3, f4, f5, f6⟩ := fw
  exact checkA _ _ _ _ _ _ _ _ _ _ _ _ _ _ _ _ _ _ _ _ _ _ _ _ _ _ _ w (fun W X => pPlaces s h ok W (r.ext X)) (fun W X => pTables s h ok W (r.ext X) ⟨by omega, by omega, by omega⟩) (fun W X => pTimes s h W) (fun W X => pMoney s h ok W (r.ext X) ⟨by omega, by omega⟩)

def mx2 (a b : Int) : Int := if b > a then b else a
theorem mx2_le (a b n : Int) : mx2 a b ≤ n ↔ a ≤ n ∧ b ≤ n := by unfold mx2; split <;> omega
theorem max6 {P : Program} (ts : Array TypeId) (t : TypeId) (a b c d e f : Int) (W : World) : Sem.run P (Builtin.max_ ts t #[.int .i64 a, .int .i64 b, .int .i64 c, .int .i64 d, .int .i64 e, .int .i64 f]) W = .ok (.int .i64 (mx2 (mx2 (mx2 (mx2 (mx2 a b) c) d) e) f)) W := rfl
set_option maxRecDepth 100000 in
set_option maxHeartbeats 2000000 in
theorem fewA (v_pl v_p1 v_p2 v_al v_un v_ca v_pb v_aa v_ab v_dr v_do v_wr v_nf v_nt v_di v_le v_fa : Value) (Aw Ae Ac Ag Ar At : Option Addr) (nw cw ne ce nc cc ng cg nr cr nt ct : Nat) (w : World) : Calls Try.prog 58 #[.agg #[v_pl, .slice Aw nw cw, v_p1, v_p2, .slice Ae ne ce, .slice Ac nc cc, .slice Ag ng cg, v_al, v_un, v_ca, v_pb, v_aa, v_ab, v_dr, v_do, v_wr, v_nf, v_nt, .slice Ar nr cr, v_di, v_le, v_fa, .slice At nt ct]] w (RetB w (decide (nw ≤ 100 ∧ ne ≤ 100 ∧ nc ≤ 100 ∧ ng ≤ 100 ∧ nr ≤ 100 ∧ nt ≤ 100))) := by
  obtain ⟨R, hR⟩ : ∃ R, R = decide (nw ≤ 100 ∧ ne ≤ 100 ∧ nc ≤ 100 ∧ ng ≤ 100 ∧ nr ≤ 100 ∧ nt ≤ 100) := ⟨_, rfl⟩
  rw [← hR]
  have hm := fun W => max6 (P := Try.prog) #[3, 3, 3, 3, 3, 3] 3 nw ne nc ng nr nt W
  have hM : mx2 (mx2 (mx2 (mx2 (mx2 nw ne) nc) ng) nr) nt ≤ 100 ↔ (nw ≤ 100 ∧ ne ≤ 100 ∧ nc ≤ 100 ∧ ng ≤ 100 ∧ nr ≤ 100 ∧ nt ≤ 100) := by simp only [mx2_le]; omega
  generalize mx2 (mx2 (mx2 (mx2 (mx2 nw ne) nc) ng) nr) nt = M at hm hM
  have hD : R = decide (M ≤ 100) := by rw [hR]; exact decide_eq_decide.2 (by omega)
  replace hD := Lib.hid hD
  clear hR hM
  go_enter Try.func58, Try.ntmps58
  go_wp2
  go_ret
  exact ⟨by rw [hD.out]; rfl, (Ext.refl _).alloc _⟩
theorem pFew (s : Su) (h : Sh) (w : World) : Calls Try.prog 58 #[.agg (s.cells h).toArray] w fun e w' => (∃ b : Bool, e = .returned (.bool b) ∧ (b = true ↔ SuFew s)) ∧ Ext w w' :=
  (fewA _ _ _ _ _ _ _ _ _ _ _ _ _ _ _ _ _ h.wA h.eA h.cA h.gA h.rA h.tA s.ways.length h.wC s.elements.length h.eC s.classes.length h.cC s.gears.length h.gC s.rates.length h.rC s.tiers.length h.tC w).mono fun _ _ ⟨he, x⟩ => ⟨⟨_, he, decide_eq_true_iff⟩, x⟩

end Go.Proofs.Ytnhmibfgaoealaa
