/-
  lumperref07.Check.
-/
import Derived.Test.YtnhmibfgaoealaaEd
namespace Go.Proofs.Ytnhmibfgaoealaa
open Go.RowKit
set_option linter.unusedVariables false
set_option linter.unusedSimpArgs false

set_option maxRecDepth 100000 in
set_option maxHeartbeats 2000000 in
theorem rChkA (cs : List Value) (hcs : cs.length = 23) (n d : Int) (A4 A5 A6 : Option Addr) (m4 m5 m6 k4 k5 k6 : Nat) (c2 : cs[2]? = some (.int .i64 n)) (c3 : cs[3]? = some (.int .i64 d)) (c4 : cs[4]? = some (.slice A4 m4 k4)) (c5 : cs[5]? = some (.slice A5 m5 k5)) (c6 : cs[6]? = some (.slice A6 m6 k6))
    (b1 b2 b3 b4 b5 b6 b7 : Bool) (w : World)
    (k1 : ∀ W, Ext w W → Calls Try.prog 112 #[.agg cs.toArray] W (RetB W b1)) (k2 : ∀ W, Ext w W → Calls Try.prog 113 #[.agg #[.int .i64 n, .int .i64 d]] W (RetB W b2))
    (kk3 : ∀ W, Ext w W → Calls Try.prog 114 #[.slice A4 m4 k4] W (RetB W b3)) (kk4 : ∀ W, Ext w W → Calls Try.prog 115 #[.slice A5 m5 k5] W (RetB W b4)) (kk5 : ∀ W, Ext w W → Calls Try.prog 115 #[.slice A6 m6 k6] W (RetB W b5))
    (kk6 : ∀ W, Ext w W → Calls Try.prog 116 #[.agg cs.toArray] W (RetB W b6)) (kk7 : ∀ W, Ext w W → Calls Try.prog 117 #[.agg cs.toArray] W (RetB W b7)) :
    Calls Try.prog 87 #[.agg cs.toArray] w (RetB w (b1 && b2 && b3 && b4 && b5 && b6 && b7)) := by
  replace k1 := Lib.hid k1; replace k2 := Lib.hid k2; replace kk3 := Lib.hid kk3; replace kk4 := Lib.hid kk4; replace kk5 := Lib.hid kk5; replace kk6 := Lib.hid kk6; replace kk7 := Lib.hid kk7
  have hi := Lib.hid (su_size hcs)
  have hs0 := Bx.new w cs 35
  have X0 := (Ext.refl w).alloc (.cells cs.toArray 35)
  clear hcs
  go_enter Try.func87, Try.ntmps87
  go_wp2_with (first | (refine load_box rfl 35 _ rfl _ rfl _ _ hs0 _ Try.underlying35 rfl hi.out ?_))

  refine (k1.out _ X0).mono ?_
  rintro e w1 ⟨rfl, x1⟩
  have hs1 := hs0.ext x1; have X1 := X0.trans x1; clear hs0 x1
  have z1_2 := hs1.cell 2 _ c2
  have z1_3 := hs1.cell 3 _ c3
  go_wp2_with fail
  clear z1_2 z1_3
  refine (k2.out _ X1).mono ?_
  rintro e w2 ⟨rfl, x2⟩
  have hs2 := hs1.ext x2; have X2 := X1.trans x2; clear hs1 x2
  have z2_4 := hs2.cell 4 _ c4
  go_wp2_with fail
  clear z2_4
  refine (kk3.out _ X2).mono ?_
  rintro e w3 ⟨rfl, x3⟩
  have hs3 := hs2.ext x3; have X3 := X2.trans x3; clear hs2 x3
  have z3_5 := hs3.cell 5 _ c5
  go_wp2_with fail
  clear z3_5
  refine (kk4.out _ X3).mono ?_
  rintro e w4 ⟨rfl, x4⟩
  have hs4 := hs3.ext x4; have X4 := X3.trans x4; clear hs3 x4
  have z4_6 := hs4.cell 6 _ c6
  go_wp2_with fail
  clear z4_6
  refine (kk5.out _ X4).mono ?_
  rintro e w5 ⟨rfl, x5⟩
  have hs5 := hs4.ext x5; have X5 := X4.trans x5; clear hs4 x5
  go_wp2_with (first | (refine load_box rfl 35 _ rfl _ rfl _ _ hs5 _ Try.underlying35 rfl hi.out ?_))
  refine (kk6.out _ X5).mono ?_
  rintro e w6 ⟨rfl, x6⟩
  have hs6 := hs5.ext x6; have X6 := X5.trans x6; clear hs5 x6
  go_wp2_with (first | (refine load_box rfl 35 _ rfl _ rfl _ _ hs6 _ Try.underlying35 rfl hi.out ?_))
  refine (kk7.out _ X6).mono ?_
  rintro e w7 ⟨rfl, x7⟩
  have hs7 := hs6.ext x7; have X7 := X6.trans x7; clear hs6 x7
  clear hs7 k1 k2 kk3 kk4 kk5 kk6 kk7 hi
  cases b1
  · go_wp2
    go_ret
    exact ⟨rfl, X7⟩
  · skip
    cases b2
    · go_wp2
      go_ret
      exact ⟨rfl, X7⟩
    · skip
      cases b3
      · go_wp2
        go_ret
        exact ⟨rfl, X7⟩
      · skip
        cases b4
        · go_wp2
          go_ret
          exact ⟨rfl, X7⟩
        · skip
          cases b5
          · go_wp2
            go_ret
            exact ⟨rfl, X7⟩
          · skip
            cases b6
            · go_wp2
              go_ret
              exact ⟨rfl, X7⟩
            · skip
              cases b7
              · go_wp2
                go_ret
                exact ⟨rfl, X7⟩
              · go_wp2
                go_ret
                exact ⟨rfl, X7⟩

theorem pRChk {s : Su} {h : Sh} (ok : SuOk s) {w : World} (r : SuR w s h) : Calls Try.prog 87 #[.agg (s.cells h).toArray] w (RetB w (chk s)) := by
  have k := rChkA (s.cells h) rfl s.pace.1 s.pace.2 h.eA h.cA h.gA _ _ _ _ _ _ rfl rfl rfl rfl rfl _ _ _ _ _ _ _ w
    (fun W X => pRWays (s.cells h) rfl s.places s.ways h.wA h.wC rfl rfl ok.ways.1 W (r.ext X).ways) (fun W X => pRShare s.pace.1 s.pace.2 W)
    (fun W X => pRElements s.elements h.eA h.eC ok.elements.1 W (r.ext X).elements) (fun W X => pRShares s.classes h.cA h.cC ok.classes.1 W (r.ext X).classes) (fun W X => pRShares s.gears h.gA h.gC ok.gears.1 W (r.ext X).gears)
    (fun W X => pRTimes s h W) (fun W X => pRMoney ok (r.ext X))
  refine bEq k ?_
  unfold chk chPlaces chTables
  cases chTimes s <;> cases chMoney s <;> simp only [Bool.and_false, Bool.and_true, Bool.false_and]
  rw [Bool.eq_iff_iff]
  simp only [Bool.and_eq_true, List.all_cons, List.all_nil, decide_eq_true_eq, and_true]
  constructor
  · rintro ⟨⟨⟨⟨⟨⟨h1, h2⟩, h3⟩, h4⟩, h5, h6⟩, h7, h8⟩, h9, h10⟩
    exact ⟨⟨⟨h3, h2⟩, h1⟩, ⟨⟨⟨h4, h7⟩, h9⟩, h5⟩, by omega⟩
  · rintro ⟨⟨⟨h3, h2⟩, h1⟩, ⟨⟨⟨h4, h7⟩, h9⟩, h5⟩, hm⟩
    exact ⟨⟨⟨⟨⟨⟨h1, h2⟩, h3⟩, h4⟩, h5, by omega⟩, h7, by omega⟩, h9, by omega⟩
end Go.Proofs.Ytnhmibfgaoealaa
