/-
  Laws of layer 17: SplitOver.
-/
import Derived.Test.YtnhmibfgaoealaaGreatHu
namespace Go.Proofs.YtnhmibfgaoealaaGreat
open Go.RowKit BigFrame
set_option linter.unusedVariables false
set_option linter.unusedSimpArgs false

theorem spans_lens (s : Su) (l : List SegL) (hl : l.length ≤ 30) (n : Int) (c : Int) : (spansOf (partsS s l n) c).length ≤ 400000 := by
  cases h : chk s
  · rw [partsS_no h]; simp [spansOf]
  · by_cases hc : c ∈ catsO
    · rw [partsS_spans h l n hc]; exact cls_lens h l hl n c
    · rw [partsS_yes h]
      have e := spansOf_perm (addAll_perm (cls s l n)) c
      rw [spansOf_raw _ catsO_nodup, if_neg hc] at e
      rw [e.length_eq]; simp

set_option maxRecDepth 100000 in
set_option maxHeartbeats 4000000 in
theorem splitOver0 (cs : List Value) (hcs : cs.length = 23) (l : List SegL) (A : Option Addr) (c : Nat) (d : Int) (p : Prop) (m : List Pt) (P N R O D : List Sp.S) (w : World) (h : Rg w A l)
    (kF : ∀ W, Ext w W → ∀ A c, Rg W A l → Calls Tryz.prog 10 #[.agg cs.toArray, .slice A l.length c] W (RetP W p))
    (kS : p → ∀ W, Ext w W → ∀ A c, Rg W A l → Calls Tryz.prog 18 #[.agg cs.toArray, .slice A l.length c, .int .i64 d] W (RetPs W m))
    (kP : p → ∀ W, Ext w W → ∀ A c, Rg W A l → Calls Tryz.prog 11 #[.agg cs.toArray, .slice A l.length c] W (Ret2R W P N))
    (kO : p → ∀ W, Ext w W → ∀ A c, Rs W A P → Calls Tryz.prog 28 #[.agg cs.toArray, .slice A P.length c, .int .i64 d] W (Ret3S W R O D))
    (bl : p → m.length ≤ 90000000 ∧ (∀ c, (spansOf m c).length ≤ 400000) ∧ R.length ≤ 190000 ∧ O.length ≤ 190000 ∧ D.length ≤ 190000)
    (ke : p → Sp.norm (spansOf m 1 ++ spansOf m 4) = R ∧ Sp.norm (spansOf m 2 ++ spansOf m 5) = O ∧ Sp.norm (spansOf m 3 ++ spansOf m 6) = D) :
    Calls Tryz.prog 7 #[.agg cs.toArray, .slice A l.length c, .int .i64 d] w (RetB w true) := by
  replace kF := Lib.hid kF; replace kS := Lib.hid kS; replace kP := Lib.hid kP; replace kO := Lib.hid kO; replace h := Lib.hid h; replace bl := Lib.hid bl; replace ke := Lib.hid ke
  have hi := Lib.hid (su_size hcs)
  clear hcs
  have hs0 := Bx.new w cs 30
  have X0 := (Ext.refl w).alloc (.cells cs.toArray 30)
  have hg0 := h.out.alloc (.cells cs.toArray 30)
  go_enter Tryz.func7, Tryz.ntmps7
  go_wp2_with fail
  refine (awake17 _).mono ?_
  rintro e w1 ⟨rfl, x1⟩
  have hs1 := hs0.ext x1; clear hs0
  have hg1 := hg0.ext x1; clear hg0
  have X1 := X0.trans x1
  go_wp2_with (first | (refine load_box rfl 30 _ rfl _ rfl _ _ hs1 _ Tryz.underlying30 rfl hi.out ?_))
  refine (kF.out _ X1 _ _ hg1).mono ?_
  rintro e w2 ⟨⟨b, rfl, hb⟩, x2⟩
  have hs2 := hs1.ext x2; clear hs1
  have hg2 := hg1.ext x2; clear hg1
  have X2 := X1.trans x2
  cases b
  · clear hb
    go_wp2
    go_ret
    exact ⟨rfl, X2⟩
  · have hp := hb rfl
    clear hb
    obtain ⟨lb1, lb2, lb3, lb4, lb5⟩ := bl.out hp
    have kk := ke.out hp
    have kSp := fun (c : Int) (W : World) (A : Option Addr) (cap : Nat) (hr : Ps W A m) => rSpans hr lb1 (fun c => Nat.le_trans (lb2 c) (by decide : 400000 ≤ 900000)) cap c
    have kS1 := kSp 1; have kS2 := kSp 2; have kS3 := kSp 3; have kS4 := kSp 4; have kS5 := kSp 5; have kS6 := kSp 6
    have la1 := lb2 1; have la2 := lb2 2; have la3 := lb2 3; have la4 := lb2 4; have la5 := lb2 5; have la6 := lb2 6
    clear lb2 kSp
    obtain ⟨L1, hL1⟩ : ∃ L, spansOf m 1 = L := ⟨_, rfl⟩
    obtain ⟨L2, hL2⟩ : ∃ L, spansOf m 2 = L := ⟨_, rfl⟩
    obtain ⟨L3, hL3⟩ : ∃ L, spansOf m 3 = L := ⟨_, rfl⟩
    obtain ⟨L4, hL4⟩ : ∃ L, spansOf m 4 = L := ⟨_, rfl⟩
    obtain ⟨L5, hL5⟩ : ∃ L, spansOf m 5 = L := ⟨_, rfl⟩
    obtain ⟨L6, hL6⟩ : ∃ L, spansOf m 6 = L := ⟨_, rfl⟩
    rw [hL1] at kk kS1 la1; rw [hL2] at kk kS2 la2; rw [hL3] at kk kS3 la3; rw [hL4] at kk kS4 la4; rw [hL5] at kk kS5 la5; rw [hL6] at kk kS6 la6
    clear hL1 hL2 hL3 hL4 hL5 hL6
    have kN1 := fun (W : World) (A : Option Addr) (cap : Nat) (hr : Rs W A (L1 ++ L4)) => cNormN hr (by rw [List.length_append]; omega) (L1.length + L4.length) List.length_append cap
    have kN2 := fun (W : World) (A : Option Addr) (cap : Nat) (hr : Rs W A (L2 ++ L5)) => cNormN hr (by rw [List.length_append]; omega) (L2.length + L5.length) List.length_append cap
    have kN3 := fun (W : World) (A : Option Addr) (cap : Nat) (hr : Rs W A (L3 ++ L6)) => cNormN hr (by rw [List.length_append]; omega) (L3.length + L6.length) List.length_append cap
    rw [kk.1] at kN1; rw [kk.2.1] at kN2; rw [kk.2.2] at kN3
    replace kS1 := Lib.hid kS1; replace kS2 := Lib.hid kS2; replace kS3 := Lib.hid kS3; replace kS4 := Lib.hid kS4; replace kS5 := Lib.hid kS5; replace kS6 := Lib.hid kS6
    replace kN1 := Lib.hid kN1; replace kN2 := Lib.hid kN2; replace kN3 := Lib.hid kN3
    clear kk
    go_wp2_with (first | (refine load_box rfl 30 _ rfl _ rfl _ _ hs2 _ Tryz.underlying30 rfl hi.out ?_))
    refine (kS.out hp _ X2 _ _ hg2).mono ?_
    rintro e w3 ⟨A3, c3, rfl, m3, x3⟩
    have hs3 := hs2.ext x3; clear hs2
    have hg3 := hg2.ext x3; clear hg2
    have X3 := X2.trans x3
    go_wp2_with (first | (refine load_box rfl 30 _ rfl _ rfl _ _ hs3 _ Tryz.underlying30 rfl hi.out ?_))
    refine (kP.out hp _ X3 _ _ hg3).mono ?_
    rintro e w4 ⟨A4, c4, B4, d4, rfl, ⟨r4, t4⟩, x4, _⟩
    have hs4 := hs3.ext x4; clear hs3
    have X4 := X3.trans x4
    have m4 := m3.ext x4; clear m3
    go_wp2_with (first | (refine load_box rfl 30 _ rfl _ rfl _ _ hs4 _ Tryz.underlying30 rfl hi.out ?_))
    refine (kO.out hp _ X4 _ _ r4).mono ?_
    rintro e w5 ⟨A5, c5, B5, d5, E5, f5, rfl, ⟨r5, s5, t5⟩, x5⟩
    have X5 := Lib.hid (X4.trans x5)
    have m5 := Lib.hid (m4.ext x5)
    have R5 := Lib.hid r5; have S5 := Lib.hid s5; have T5 := Lib.hid t5
    clear m4 X4 X3 X2 X1 X0 x5 x4 x3 x2 x1 hs4 hg3 r4 t4 r5 s5 t5
    go_wp2_with fail
    refine (kS1.out _ _ _ m5.out).mono ?_
    rintro e wa1 ⟨Aa, ca, rfl, _, xa, oa⟩
    have ma := m5.out.ext xa
    have Oa := Lib.hid oa
    clear oa
    go_wp2_with fail
    refine (kS4.out _ _ _ ma).mono ?_
    rintro e wb1 ⟨Ab, cb, rfl, rb, xb, _⟩
    have ob := Lib.hid (own_below Oa.out xb)
    have Xb := Lib.hid (xa.trans xb)
    have Rb := Lib.hid rb
    clear ma Oa xa xb rb
    go_wp2_with (at_builtin; go_loud (refine app_row w5 _ Xb.out _ _ (by rfl) (by rfl) _ _ L1 L4 (by rfl) ob.out rfl Ab cb (by rfl) Rb.out (by omega) ?_; intro G1 g1 w6 o1 x6; have m6 := Lib.hid (m5.out.ext x6); have R6 := Lib.hid (R5.out.ext x6); have S6 := Lib.hid (S5.out.ext x6); have T6 := Lib.hid (T5.out.ext x6); have X6 := Lib.hid (X5.out.trans x6); have U1_6 := Lib.hid (Rs.own o1); clear o1 x6))
    clear ob Xb Rb m5 R5 S5 T5 X5
    go_wp2_with fail
    refine (kS2.out _ _ _ m6.out).mono ?_
    rintro e wa2 ⟨Aa, ca, rfl, _, xa, oa⟩
    have ma := m6.out.ext xa
    have Oa := Lib.hid oa
    clear oa
    go_wp2_with fail
    refine (kS5.out _ _ _ ma).mono ?_
    rintro e wb2 ⟨Ab, cb, rfl, rb, xb, _⟩
    have ob := Lib.hid (own_below Oa.out xb)
    have Xb := Lib.hid (xa.trans xb)
    have Rb := Lib.hid rb
    clear ma Oa xa xb rb
    go_wp2_with (at_builtin; go_loud (refine app_row w6 _ Xb.out _ _ (by rfl) (by rfl) _ _ L2 L5 (by rfl) ob.out rfl Ab cb (by rfl) Rb.out (by omega) ?_; intro G2 g2 w7 o2 x7; have m7 := Lib.hid (m6.out.ext x7); have R7 := Lib.hid (R6.out.ext x7); have S7 := Lib.hid (S6.out.ext x7); have T7 := Lib.hid (T6.out.ext x7); have X7 := Lib.hid (X6.out.trans x7); have U2_7 := Lib.hid (Rs.own o2); have U1_7 := Lib.hid (U1_6.out.ext x7); clear o2 x7))
    clear ob Xb Rb m6 R6 S6 T6 X6
    clear U1_6
    go_wp2_with fail
    refine (kS3.out _ _ _ m7.out).mono ?_
    rintro e wa3 ⟨Aa, ca, rfl, _, xa, oa⟩
    have ma := m7.out.ext xa
    have Oa := Lib.hid oa
    clear oa
    go_wp2_with fail
    refine (kS6.out _ _ _ ma).mono ?_
    rintro e wb3 ⟨Ab, cb, rfl, rb, xb, _⟩
    have ob := Lib.hid (own_below Oa.out xb)
    have Xb := Lib.hid (xa.trans xb)
    have Rb := Lib.hid rb
    clear ma Oa xa xb rb
    go_wp2_with (at_builtin; go_loud (refine app_row w7 _ Xb.out _ _ (by rfl) (by rfl) _ _ L3 L6 (by rfl) ob.out rfl Ab cb (by rfl) Rb.out (by omega) ?_; intro G3 g3 w8 o3 x8; have m8 := Lib.hid (m7.out.ext x8); have R8 := Lib.hid (R7.out.ext x8); have S8 := Lib.hid (S7.out.ext x8); have T8 := Lib.hid (T7.out.ext x8); have X8 := Lib.hid (X7.out.trans x8); have U3_8 := Lib.hid (Rs.own o3); have U1_8 := Lib.hid (U1_7.out.ext x8); have U2_8 := Lib.hid (U2_7.out.ext x8); clear o3 x8))
    clear ob Xb Rb m7 R7 S7 T7 X7
    clear U1_7 U2_7
    go_wp2_with fail
    have nk1 := kN1.out _ _ g1 U1_8.out
    first
      | refine nk1.mono ?_
      | (rw [← List.length_append] at nk1; refine nk1.mono ?_)
    rintro e v1 ⟨H1, hc1, rfl, n1, y1, _⟩
    go_wp2_with fail
    refine (bEq (cSame n1 (R8.out.ext y1) (by omega) _ _) (b' := true) (decide_eq_true rfl)).mono ?_
    rintro e u1 ⟨rfl, z1⟩
    have q1 := y1.trans z1
    clear n1
    go_wp2_with fail
    have nk2 := kN2.out _ _ g2 (U2_8.out.ext q1)
    first
      | refine nk2.mono ?_
      | (rw [← List.length_append] at nk2; refine nk2.mono ?_)
    rintro e v2 ⟨H2, hc2, rfl, n2, y2, _⟩
    go_wp2_with fail
    refine (bEq (cSame n2 ((S8.out.ext q1).ext y2) (by omega) _ _) (b' := true) (decide_eq_true rfl)).mono ?_
    rintro e u2 ⟨rfl, z2⟩
    have q2 := q1.trans (y2.trans z2)
    clear n2
    go_wp2_with fail
    have nk3 := kN3.out _ _ g3 (U3_8.out.ext q2)
    first
      | refine nk3.mono ?_
      | (rw [← List.length_append] at nk3; refine nk3.mono ?_)
    rintro e v3 ⟨H3, hc3, rfl, n3, y3, _⟩
    go_wp2_with fail
    refine (bEq (cSame n3 ((T8.out.ext q2).ext y3) (by omega) _ _) (b' := true) (decide_eq_true rfl)).mono ?_
    rintro e u3 ⟨rfl, z3⟩
    have q3 := q2.trans (y3.trans z3)
    clear n3
    go_wp2
    go_ret
    exact ⟨rfl, X8.out.trans q3⟩

theorem over17 (s : Su) (g : Sh) (ok : SuOk s) (l : List SegL) (A : Option Addr) (c : Nat) (hl : l.length ≤ maxLen) (d : Int) (w : World) (r : SuR w s g) (h : Rg w A l) :
    Calls Tryz.prog 7 #[.agg (s.cells g).toArray, .slice A l.length c, .int .i64 d] w (RetB w true) := by
  have a1 : Few15 s l → l.length ≤ 30 := fun p => p.2.1
  refine splitOver0 (s.cells g) rfl l A c d (Few15 s l) (partsS s l d) (paidAll s l) (notAll s l) (oR s (paidAll s l) d) (oO s (paidAll s l) d) (oD s (paidAll s l) d) w h (fun W X A c h => pFew15 s g h hl c) (fun p W X A c h => pParts ok p.1 (r.ext X) h (a1 p) c d) (fun p W X A c h => pPaid ok p.1 (r.ext X) h (by have := a1 p; omega) c) (fun p W X A c h => pOver ok p.1 (r.ext X) h (by have := (all_lens30 s l (a1 p)).1; omega) c d) (fun p => ?_) (fun p => ?_)
  · have hO := oLens30 s l (a1 p) d
    exact ⟨Nat.le_trans (partsS_len s l (a1 p) d) (by decide), spans_lens s l (a1 p) d, hO.1.1, hO.1.2.1, hO.1.2.2⟩
  · cases hc : chk s
    · have e := o_no hc (paidAll s l) d
      rw [partsS_no hc, e.1, e.2.1, e.2.2]
      exact ⟨rfl, rfl, rfl⟩
    · have e := o_yes hc (paidAll s l) d
      have hn := chk_nt hc
      rw [partsS_spans hc l d (by decide), partsS_spans hc l d (by decide), partsS_spans hc l d (by decide), partsS_spans hc l d (by decide), partsS_spans hc l d (by decide), partsS_spans hc l d (by decide), cls_eq, e.1, e.2.1, e.2.2, (paidAll_yes hc l).1]
      refine ⟨?_, ?_, ?_⟩
      · have := day_night hn (overR_plain (partS (allPaid s.paid s.after s.auto l) d 604800) s.dreg s.wreg)
        simpa [catL] using this
      · have := day_night hn (overO_plain (partS (allPaid s.paid s.after s.auto l) d 604800) s.dreg s.dover s.wreg)
        simpa [catL] using this
      · have := day_night hn (overD_plain (partS (allPaid s.paid s.after s.auto l) d 604800) s.dover)
        simpa [catL] using this
end Go.Proofs.YtnhmibfgaoealaaGreat
