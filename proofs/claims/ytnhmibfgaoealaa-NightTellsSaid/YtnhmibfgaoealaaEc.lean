/-
  lumperref07.Check: times.
-/
import Derived.Test.YtnhmibfgaoealaaEb
import Derived.Test.YtnhmibfgaoealaaMo
namespace Go.Proofs.Ytnhmibfgaoealaa
open Go.RowKit
set_option linter.unusedVariables false
set_option linter.unusedSimpArgs false

set_option maxRecDepth 100000 in
set_option maxHeartbeats 4000000 in
theorem rTimesA (cs : List Value) (al un ca pb aa ab nf nt fa dr do_ wr : Int) (c_al : cs[7]? = some (.int .i64 al)) (c_un : cs[8]? = some (.int .i64 un)) (c_ca : cs[9]? = some (.int .i64 ca)) (c_pb : cs[10]? = some (.int .i64 pb)) (c_aa : cs[11]? = some (.int .i64 aa)) (c_ab : cs[12]? = some (.int .i64 ab)) (c_nf : cs[16]? = some (.int .i64 nf)) (c_nt : cs[17]? = some (.int .i64 nt)) (c_fa : cs[21]? = some (.int .i64 fa)) (c_dr : cs[13]? = some (.int .i64 dr)) (c_do_ : cs[14]? = some (.int .i64 do_)) (c_wr : cs[15]? = some (.int .i64 wr)) (b1 b2 b3 b4 b5 b6 b7 b8 b9 b10 b11 b12 : Bool) (k1 : ∀ w, Calls Try.prog 140 #[.int .i64 al, .int .i64 0, .int .i64 100] w (RetB w b1)) (k2 : ∀ w, Calls Try.prog 140 #[.int .i64 un, .int .i64 1, .int .i64 3600] w (RetB w b2)) (k3 : ∀ w, Calls Try.prog 140 #[.int .i64 ca, .int .i64 60, .int .i64 57600] w (RetB w b3)) (k4 : ∀ w, Calls Try.prog 140 #[.int .i64 pb, .int .i64 0, .int .i64 86400] w (RetB w b4)) (k5 : ∀ w, Calls Try.prog 140 #[.int .i64 aa, .int .i64 0, .int .i64 86400] w (RetB w b5)) (k6 : ∀ w, Calls Try.prog 140 #[.int .i64 ab, .int .i64 0, .int .i64 86400] w (RetB w b6)) (k7 : ∀ w, Calls Try.prog 140 #[.int .i64 nf, .int .i64 0, .int .i64 86400] w (RetB w b7)) (k8 : ∀ w, Calls Try.prog 140 #[.int .i64 nt, .int .i64 0, .int .i64 86400] w (RetB w b8)) (k9 : ∀ w, Calls Try.prog 140 #[.int .i64 fa, .int .i64 0, .int .i64 86400] w (RetB w b9)) (k10 : ∀ w, Calls Try.prog 140 #[.int .i64 dr, .int .i64 0, .int .i64 do_] w (RetB w b10)) (k12 : ∀ w, Calls Try.prog 140 #[.int .i64 wr, .int .i64 0, .int .i64 604800] w (RetB w b12)) (fD : decide (do_ ≤ 86400) = b11) (w : World) :
    Calls Try.prog 116 #[.agg cs.toArray] w (RetB w (b1 && b2 && b3 && (b4 && b5 && b6 && (b7 && b8 && b9) && b10 && b11 && b12))) := by
  have hs0 := Bx.new w cs 35
  have X0 := (Ext.refl w).alloc (.cells cs.toArray 35)
  replace k1 := Lib.hid k1
  replace k2 := Lib.hid k2
  replace k3 := Lib.hid k3
  replace k4 := Lib.hid k4
  replace k5 := Lib.hid k5
  replace k6 := Lib.hid k6
  replace k7 := Lib.hid k7
  replace k8 := Lib.hid k8
  replace k9 := Lib.hid k9
  replace k10 := Lib.hid k10
  replace k12 := Lib.hid k12
  go_enter Try.func116, Try.ntmps116
  have z1_7 := hs0.cell 7 _ c_al
  go_wp2_with fail
  refine (k1.out _).mono ?_
  rintro e w1 ⟨rfl, x1⟩
  have hs1 := hs0.ext x1; have X1 := X0.trans x1
  clear z1_7 x1
  cases b1
  · skip
    go_wp2
    go_ret
    exact ⟨rfl, X1⟩
  · skip
    have z2_8 := hs1.cell 8 _ c_un
    go_wp2_with fail
    refine (k2.out _).mono ?_
    rintro e w2 ⟨rfl, x2⟩
    have hs2 := hs1.ext x2; have X2 := X1.trans x2
    clear z2_8 x2 hs1
    cases b2
    · skip
      go_wp2
      go_ret
      exact ⟨rfl, X2⟩
    · skip
      have z3_9 := hs2.cell 9 _ c_ca
      go_wp2_with fail
      refine (k3.out _).mono ?_
      rintro e w3 ⟨rfl, x3⟩
      have hs3 := hs2.ext x3; have X3 := X2.trans x3
      clear z3_9 x3 hs2
      cases b3
      · skip
        go_wp2
        go_ret
        exact ⟨rfl, X3⟩
      · skip
        have z4_10 := hs3.cell 10 _ c_pb
        go_wp2_with fail
        refine (k4.out _).mono ?_
        rintro e w4 ⟨rfl, x4⟩
        have hs4 := hs3.ext x4; have X4 := X3.trans x4
        clear z4_10 x4 hs3
        cases b4
        · skip
          have z5_16 := hs4.cell 16 _ c_nf
          go_wp2_with fail
          refine (k7.out _).mono ?_
          rintro e w5 ⟨rfl, x5⟩
          have hs5 := hs4.ext x5; have X5 := X4.trans x5
          clear z5_16 x5 hs4
          cases b7
          · skip
            go_wp2
            go_ret
            exact ⟨rfl, X5⟩
          · skip
            have z6_17 := hs5.cell 17 _ c_nt
            go_wp2_with fail
            refine (k8.out _).mono ?_
            rintro e w6 ⟨rfl, x6⟩
            have hs6 := hs5.ext x6; have X6 := X5.trans x6
            clear z6_17 x6 hs5
            cases b8
            · skip
              go_wp2
              go_ret
              exact ⟨rfl, X6⟩
            · skip
              have z7_21 := hs6.cell 21 _ c_fa
              go_wp2_with fail
              refine (k9.out _).mono ?_
              rintro e w7 ⟨rfl, x7⟩
              have hs7 := hs6.ext x7; have X7 := X6.trans x7
              clear z7_21 x7 hs6
              cases b9
              · skip
                go_wp2
                go_ret
                exact ⟨rfl, X7⟩
              · skip
                go_wp2
                go_ret
                exact ⟨rfl, X7⟩
        · skip
          have z8_11 := hs4.cell 11 _ c_aa
          go_wp2_with fail
          refine (k5.out _).mono ?_
          rintro e w8 ⟨rfl, x8⟩
          have hs8 := hs4.ext x8; have X8 := X4.trans x8
          clear z8_11 x8 hs4
          cases b5
          · skip
            have z9_16 := hs8.cell 16 _ c_nf
            go_wp2_with fail
            refine (k7.out _).mono ?_
            rintro e w9 ⟨rfl, x9⟩
            have hs9 := hs8.ext x9; have X9 := X8.trans x9
            clear z9_16 x9 hs8
            cases b7
            · skip
              go_wp2
              go_ret
              exact ⟨rfl, X9⟩
            · skip
              have z10_17 := hs9.cell 17 _ c_nt
              go_wp2_with fail
              refine (k8.out _).mono ?_
              rintro e w10 ⟨rfl, x10⟩
              have hs10 := hs9.ext x10; have X10 := X9.trans x10
              clear z10_17 x10 hs9
              cases b8
              · skip
                go_wp2
                go_ret
                exact ⟨rfl, X10⟩
              · skip
                have z11_21 := hs10.cell 21 _ c_fa
                go_wp2_with fail
                refine (k9.out _).mono ?_
                rintro e w11 ⟨rfl, x11⟩
                have hs11 := hs10.ext x11; have X11 := X10.trans x11
                clear z11_21 x11 hs10
                cases b9
                · skip
                  go_wp2
                  go_ret
                  exact ⟨rfl, X11⟩
                · skip
                  go_wp2
                  go_ret
                  exact ⟨rfl, X11⟩
          · skip
            have z12_12 := hs8.cell 12 _ c_ab
            go_wp2_with fail
            refine (k6.out _).mono ?_
            rintro e w12 ⟨rfl, x12⟩
            have hs12 := hs8.ext x12; have X12 := X8.trans x12
            clear z12_12 x12 hs8
            cases b6
            · skip
              have z13_16 := hs12.cell 16 _ c_nf
              go_wp2_with fail
              refine (k7.out _).mono ?_
              rintro e w13 ⟨rfl, x13⟩
              have hs13 := hs12.ext x13; have X13 := X12.trans x13
              clear z13_16 x13 hs12
              cases b7
              · skip
                go_wp2
                go_ret
                exact ⟨rfl, X13⟩
              · skip
                have z14_17 := hs13.cell 17 _ c_nt
                go_wp2_with fail
                refine (k8.out _).mono ?_
                rintro e w14 ⟨rfl, x14⟩
                have hs14 := hs13.ext x14; have X14 := X13.trans x14
                clear z14_17 x14 hs13
                cases b8
                · skip
                  go_wp2
                  go_ret
                  exact ⟨rfl, X14⟩
                · skip
                  have z15_21 := hs14.cell 21 _ c_fa
                  go_wp2_with fail
                  refine (k9.out _).mono ?_
                  rintro e w15 ⟨rfl, x15⟩
                  have hs15 := hs14.ext x15; have X15 := X14.trans x15
                  clear z15_21 x15 hs14
                  cases b9
                  · skip
                    go_wp2
                    go_ret
                    exact ⟨rfl, X15⟩
                  · skip
                    go_wp2
                    go_ret
                    exact ⟨rfl, X15⟩
            · skip
              have z16_16 := hs12.cell 16 _ c_nf
              go_wp2_with fail
              refine (k7.out _).mono ?_
              rintro e w16 ⟨rfl, x16⟩
              have hs16 := hs12.ext x16; have X16 := X12.trans x16
              clear z16_16 x16 hs12
              cases b7
              · skip
                go_wp2
                go_ret
                exact ⟨rfl, X16⟩
              · skip
                have z17_17 := hs16.cell 17 _ c_nt
                go_wp2_with fail
                refine (k8.out _).mono ?_
                rintro e w17 ⟨rfl, x17⟩
                have hs17 := hs16.ext x17; have X17 := X16.trans x17
                clear z17_17 x17 hs16
                cases b8
                · skip
                  go_wp2
                  go_ret
                  exact ⟨rfl, X17⟩
                · skip
                  have z18_21 := hs17.cell 21 _ c_fa
                  go_wp2_with fail
                  refine (k9.out _).mono ?_
                  rintro e w18 ⟨rfl, x18⟩
                  have hs18 := hs17.ext x18; have X18 := X17.trans x18
                  clear z18_21 x18 hs17
                  cases b9
                  · skip
                    go_wp2
                    go_ret
                    exact ⟨rfl, X18⟩
                  · skip
                    have z19_13 := hs18.cell 13 _ c_dr
                    have z19_14 := hs18.cell 14 _ c_do_
                    go_wp2_with fail
                    refine (k10.out _).mono ?_
                    rintro e w19 ⟨rfl, x19⟩
                    have hs19 := hs18.ext x19; have X19 := X18.trans x19
                    clear z19_13 x19 z19_14 hs18
                    cases b10
                    · skip
                      go_wp2
                      go_ret
                      exact ⟨rfl, X19⟩
                    · skip
                      have y14 := hs19.cell 14 _ c_do_
                      cases b11
                      · skip
                        go_wp2
                        go_ret
                        exact ⟨rfl, X19⟩
                      · skip
                        have z20_15 := hs19.cell 15 _ c_wr
                        go_wp2_with fail
                        refine (k12.out _).mono ?_
                        rintro e w20 ⟨rfl, x20⟩
                        have hs20 := hs19.ext x20; have X20 := X19.trans x20
                        clear z20_15 x20 hs19
                        cases b12
                        · skip
                          go_wp2
                          go_ret
                          exact ⟨rfl, X20⟩
                        · skip
                          go_wp2
                          go_ret
                          exact ⟨rfl, X20⟩
theorem pRTimes (s : Su) (h : Sh) (w : World) : Calls Try.prog 116 #[.agg (s.cells h).toArray] w (RetB w (chTimes s)) := by
  have k := rTimesA (s.cells h) s.allow s.unit s.cap s.paid s.after s.auto s.nfrom s.nto s.fault s.dreg s.dover s.wreg rfl rfl rfl rfl rfl rfl rfl rfl rfl rfl rfl rfl _ _ _ _ _ _ _ _ _ _ _ _ (pRWithin _ _ _) (pRWithin _ _ _) (pRWithin _ _ _) (pRWithin _ _ _) (pRWithin _ _ _) (pRWithin _ _ _) (pRWithin _ _ _) (pRWithin _ _ _) (pRWithin _ _ _) (pRWithin _ _ _) (pRWithin _ _ _) rfl w
  refine bEq k ?_
  unfold chTimes okIn
  rw [Bool.eq_iff_iff]
  simp only [Bool.and_eq_true, List.all_cons, List.all_nil, decide_eq_true_eq, and_true]
  trace_state
  constructor
  · rintro ⟨⟨⟨h1, h2⟩, h3⟩, ⟨⟨⟨⟨⟨h4, h5⟩, h6⟩, ⟨h7, h8⟩, h9⟩, h10⟩, h11⟩, h12⟩
    exact ⟨⟨⟨⟨⟨h1, h2⟩, h3⟩, h4, h5, h6, h7, h8, h9, by omega, h11⟩, h10⟩, h12⟩
  · rintro ⟨⟨⟨⟨⟨h1, h2⟩, h3⟩, h4, h5, h6, h7, h8, h9, _, h11⟩, h10⟩, h12⟩
    exact ⟨⟨⟨h1, h2⟩, h3⟩, ⟨⟨⟨⟨⟨h4, h5⟩, h6⟩, ⟨h7, h8⟩, h9⟩, h10⟩, h11⟩, h12⟩
end Go.Proofs.Ytnhmibfgaoealaa
