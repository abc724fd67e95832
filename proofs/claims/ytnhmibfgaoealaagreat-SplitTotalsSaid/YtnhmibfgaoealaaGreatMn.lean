/-
  setup.Check tells whether a setup may be.
  setup.Check, and lumperref07.Few.
-/
import Derived.Test.YtnhmibfgaoealaaGreatMm
import Derived.Test.YtnhmibfgaoealaaGreatCk
namespace Go.Proofs.YtnhmibfgaoealaaGreat
open Go.RowKit
set_option linter.unusedVariables false
set_option linter.unusedSimpArgs false


theorem bnot_of {a b : Bool} (h : (!a) = b) : a = !b := by rw [← h]; simp
theorem pEls {w : World} {A : Option Addr} {l : List ((Int × Int) × (Int × Int))} (h : Rd enc4 4 w w.heap.size A l) (hl : l.length ≤ maxLen) (hb : ∀ z ∈ l, (B64 z.1.1 ∧ B64 z.1.2) ∧ B64 z.2.1 ∧ B64 z.2.2) (hn : l.length ≤ 9223372036854775806) (cap : Nat) :
    Calls Tryz.prog 96 #[.slice A l.length cap, .func (.func 94) #[] #[]] w (RetB w (!l.all okEl)) := by
  refine (cont_elem l (atB (fun x => !okEl x) l) 94 #[] (enters_of Tryz.func94 (by kernel_rfl) rfl)
    (fun _ W => Ext w W) A cap _ hn (fun j W k => (Rd.below h k).more k.size) (fun j W x hx k => ?_) (Ext.refl _)).mono ?_
  · rw [atB_at hx]
    exact (elem1 x (hb x (List.mem_of_getElem? hx)).1 (hb x (List.mem_of_getElem? hx)).2 W).mono fun _ _ ⟨e, x⟩ => ⟨e, k.trans x⟩
  · rintro e w' ⟨⟨b, rfl, hb⟩, j, X⟩
    exact ⟨by rw [bnot_of (none_of hb)], X⟩
theorem pWays {w : World} {A : Option Addr} {l : List (Int × Int × Int)} (h : Rd enc3 3 w w.heap.size A l) (hn : l.length ≤ 9223372036854775806) (p : Int) (p0 : 1 ≤ p) (p1 : p ≤ 16) (B : Nat) (hB : B < w.heap.size) (hp : w.cell? ⟨B, 0, none⟩ = some (.int .i64 p)) (cap : Nat) :
    Calls Tryz.prog 93 #[.slice A l.length cap, .func (.func 91) #[] #[.pointer (some ⟨B, 0, none⟩)]] w (RetB w (!l.all (okWay p))) := by
  refine (cont_way l (atB (fun x => !okWay p x) l) 91 #[.pointer (some ⟨B, 0, none⟩)] (enters_of Tryz.func91 (by kernel_rfl) rfl)
    (fun _ W => Ext w W) A cap _ hn (fun j W k => (Rd.below h k).more k.size) (fun j W x hx k => ?_) (Ext.refl _)).mono ?_
  · rw [atB_at hx]
    exact (way1 p p0 p1 B x W ((k.cell (p := ⟨B, 0, none⟩) hB).trans hp) (Nat.lt_of_lt_of_le hB k.size)).mono fun _ _ ⟨e, x⟩ => ⟨e, k.trans x⟩
  · rintro e w' ⟨⟨b, rfl, hb⟩, j, X⟩
    exact ⟨by rw [bnot_of (none_of hb)], X⟩
theorem pTiers {w : World} {A : Option Addr} {l : List (Int × Int)} (B : Nat) (h : Rd encS 2 w B A l) (hn : l.length ≤ 9223372036854775806) (hb : Bx w B [.int .i64 (-1)] 3) (cap : Nat) :
    Calls Tryz.prog 98 #[.slice A l.length cap, .func (.func 97) #[] #[.pointer (some ⟨B, 0, none⟩)]] w fun e w' => e = .returned (.bool (!okTiers (-1) l)) ∧ Below B w w' := by
  refine (cont_tier l (badTier l) 97 #[.pointer (some ⟨B, 0, none⟩)] (enters_of Tryz.func97 (by kernel_rfl) rfl)
    (fun j W => Bx W B [.int .i64 (lastOf l j)] 3 ∧ Below B w W) A cap _ hn (fun j W k => (Rd.below h k.2).more (Nat.le_of_lt k.1.lt)) (fun j W x hx k => ?_) ⟨hb, Below.refl _ _⟩).mono ?_
  · refine (tier1 (lastOf l j) B x W k.1).mono ?_
    rintro e w' ⟨rfl, h1, h2⟩
    refine ⟨?_, ?_, k.2.trans h2⟩
    · unfold badTier; rw [hx]
    · have : lastOf l (j + 1) = x.1 := by show (match l[j]? with | some t => t.1 | none => -1) = x.1; rw [hx]
      rw [this]; exact h1
  · rintro e w' ⟨⟨b, rfl, hb⟩, j, X⟩
    exact ⟨by rw [bnot_of (tiers_of hb)], X.2⟩

set_option maxRecDepth 100000 in
set_option maxHeartbeats 1000000 in
theorem timesA (v_pl v_wy v_p1 v_p2 v_el v_cl v_ge v_ra v_di v_le v_ti : Value) (al un ca pb aa ab dr dv wr nf nt fa : Int) (q1 q2 q3 q4 q5 q6 : Bool) (w : World) (k1 : ∀ (w : World) (g : Nat) (hg : g = w.heap.size), Calls Tryz.prog 92 #[.int .i64 0, .int .i64 100, .slice (some ⟨g, 0, none⟩) 1 1] (w.alloc (.cells #[.int .i64 al] 3)) (RetB (w.alloc (.cells #[.int .i64 al] 3)) q1)) (k2 : ∀ (w : World) (g : Nat) (hg : g = w.heap.size), Calls Tryz.prog 92 #[.int .i64 1, .int .i64 3600, .slice (some ⟨g, 0, none⟩) 1 1] (w.alloc (.cells #[.int .i64 un] 3)) (RetB (w.alloc (.cells #[.int .i64 un] 3)) q2)) (k3 : ∀ (w : World) (g : Nat) (hg : g = w.heap.size), Calls Tryz.prog 92 #[.int .i64 60, .int .i64 57600, .slice (some ⟨g, 0, none⟩) 1 1] (w.alloc (.cells #[.int .i64 ca] 3)) (RetB (w.alloc (.cells #[.int .i64 ca] 3)) q3)) (k4 : ∀ (w : World) (g : Nat) (hg : g = w.heap.size), Calls Tryz.prog 92 #[.int .i64 0, .int .i64 86400, .slice (some ⟨g, 0, none⟩) 7 7] (w.alloc (.cells #[.int .i64 pb, .int .i64 aa, .int .i64 ab, .int .i64 nf, .int .i64 nt, .int .i64 fa, .int .i64 dv] 3)) (RetB (w.alloc (.cells #[.int .i64 pb, .int .i64 aa, .int .i64 ab, .int .i64 nf, .int .i64 nt, .int .i64 fa, .int .i64 dv] 3)) q4)) (k5 : ∀ (w : World) (g : Nat) (hg : g = w.heap.size), Calls Tryz.prog 92 #[.int .i64 0, .int .i64 dv, .slice (some ⟨g, 0, none⟩) 1 1] (w.alloc (.cells #[.int .i64 dr] 3)) (RetB (w.alloc (.cells #[.int .i64 dr] 3)) q5)) (k6 : ∀ (w : World) (g : Nat) (hg : g = w.heap.size), Calls Tryz.prog 92 #[.int .i64 0, .int .i64 604800, .slice (some ⟨g, 0, none⟩) 1 1] (w.alloc (.cells #[.int .i64 wr] 3)) (RetB (w.alloc (.cells #[.int .i64 wr] 3)) q6)) : Calls Tryz.prog 58 #[.agg #[v_pl, v_wy, v_p1, v_p2, v_el, v_cl, v_ge, .int .i64 al, .int .i64 un, .int .i64 ca, .int .i64 pb, .int .i64 aa, .int .i64 ab, .int .i64 dr, .int .i64 dv, .int .i64 wr, .int .i64 nf, .int .i64 nt, v_ra, v_di, v_le, .int .i64 fa, v_ti]] w (RetB w (q1 && q2 && q3 && q4 && q5 && q6)) := by
  replace k1 := Lib.hid k1
  replace k2 := Lib.hid k2
  replace k3 := Lib.hid k3
  replace k4 := Lib.hid k4
  replace k5 := Lib.hid k5
  replace k6 := Lib.hid k6
  go_enter Tryz.func58, Tryz.ntmps58
  have hs0 := Bx.new w [v_pl, v_wy, v_p1, v_p2, v_el, v_cl, v_ge, .int .i64 al, .int .i64 un, .int .i64 ca, .int .i64 pb, .int .i64 aa, .int .i64 ab, .int .i64 dr, .int .i64 dv, .int .i64 wr, .int .i64 nf, .int .i64 nt, v_ra, v_di, v_le, .int .i64 fa, v_ti] 30
  go_wp2_with fail
  refine (k1.out _ _ (by simp)).mono ?_
  rintro e w1 ⟨rfl, x1⟩
  have hs1 := (hs0.alloc _).ext x1
  have X1 := (((Ext.refl w).alloc _).alloc _).trans x1
  have c1_8 := hs1.cell 8 _ rfl
  cases q1
  · go_wp2
    go_ret
    exact ⟨rfl, X1⟩
  · skip
    go_wp2_with fail
    refine (k2.out _ _ (by simp)).mono ?_
    rintro e w2 ⟨rfl, x2⟩
    have hs2 := (hs1.alloc _).ext x2
    have X2 := (X1.alloc _).trans x2
    have c2_9 := hs2.cell 9 _ rfl
    cases q2
    · go_wp2
      go_ret
      exact ⟨rfl, X2⟩
    · skip
      go_wp2_with fail
      refine (k3.out _ _ (by simp)).mono ?_
      rintro e w3 ⟨rfl, x3⟩
      have hs3 := (hs2.alloc _).ext x3
      have X3 := (X2.alloc _).trans x3
      have c3_10 := hs3.cell 10 _ rfl
      have c3_11 := hs3.cell 11 _ rfl
      have c3_12 := hs3.cell 12 _ rfl
      have c3_16 := hs3.cell 16 _ rfl
      have c3_17 := hs3.cell 17 _ rfl
      have c3_21 := hs3.cell 21 _ rfl
      have c3_14 := hs3.cell 14 _ rfl
      cases q3
      · go_wp2
        go_ret
        exact ⟨rfl, X3⟩
      · skip
        go_wp2_with fail
        refine (k4.out _ _ (by simp)).mono ?_
        rintro e w4 ⟨rfl, x4⟩
        have hs4 := (hs3.alloc _).ext x4
        have X4 := (X3.alloc _).trans x4
        have c4_14 := hs4.cell 14 _ rfl
        have c4_13 := hs4.cell 13 _ rfl
        cases q4
        · go_wp2
          go_ret
          exact ⟨rfl, X4⟩
        · skip
          go_wp2_with fail
          refine (k5.out _ _ (by simp)).mono ?_
          rintro e w5 ⟨rfl, x5⟩
          have hs5 := (hs4.alloc _).ext x5
          have X5 := (X4.alloc _).trans x5
          have c5_15 := hs5.cell 15 _ rfl
          cases q5
          · go_wp2
            go_ret
            exact ⟨rfl, X5⟩
          · skip
            go_wp2_with fail
            refine (k6.out _ _ (by simp)).mono ?_
            rintro e w6 ⟨rfl, x6⟩
            have hs6 := (hs5.alloc _).ext x6
            have X6 := (X5.alloc _).trans x6
            go_wp2
            go_ret
            exact ⟨rfl, X6⟩

theorem pTimes (s : Su) (h : Sh) (w : World) : Calls Tryz.prog 58 #[.agg (s.cells h).toArray] w (RetB w (chTimes s)) :=
  timesA _ _ _ _ _ _ _ _ _ _ _ s.allow s.unit s.cap s.paid s.after s.auto s.dreg s.dover s.wreg s.nfrom s.nto s.fault _ _ _ _ _ _ w
    (fun w g hg => pAll (Rn.new_at w [s.allow] 3 g hg) (by simp) 1 0 100)
    (fun w g hg => pAll (Rn.new_at w [s.unit] 3 g hg) (by simp) 1 1 3600)
    (fun w g hg => pAll (Rn.new_at w [s.cap] 3 g hg) (by simp) 1 60 57600)
    (fun w g hg => pAll (Rn.new_at w [s.paid, s.after, s.auto, s.nfrom, s.nto, s.fault, s.dover] 3 g hg) (by simp) 7 0 86400)
    (fun w g hg => pAll (Rn.new_at w [s.dreg] 3 g hg) (by simp) 1 0 s.dover)
    (fun w g hg => pAll (Rn.new_at w [s.wreg] 3 g hg) (by simp) 1 0 604800)

set_option maxRecDepth 100000 in
set_option maxHeartbeats 1000000 in
theorem placesB (v_p1 v_p2 v_el v_cl v_ge v_al v_un v_ca v_pb v_aa v_ab v_dr v_do v_wr v_nf v_nt v_ra v_di v_le v_fa v_ti : Value) (p : Int) (A : Option Addr) (n c : Nat) (q1 : Bool) (w : World) (k1 : ∀ (w : World) (g : Nat) (hg : g = w.heap.size), Calls Tryz.prog 92 #[.int .i64 1, .int .i64 16, .slice (some ⟨g, 0, none⟩) 1 1] (w.alloc (.cells #[.int .i64 p] 3)) (RetB (w.alloc (.cells #[.int .i64 p] 3)) q1)) (f2 : decide ((n : Int) ≤ 64) = false) : Calls Tryz.prog 56 #[.agg #[.int .i64 p, .slice A n c, v_p1, v_p2, v_el, v_cl, v_ge, v_al, v_un, v_ca, v_pb, v_aa, v_ab, v_dr, v_do, v_wr, v_nf, v_nt, v_ra, v_di, v_le, v_fa, v_ti]] w (RetB w (q1 && false && false)) := by
  replace k1 := Lib.hid k1
  go_enter Tryz.func56, Tryz.ntmps56
  have hs0 := Bx.new w [.int .i64 p, .slice A n c, v_p1, v_p2, v_el, v_cl, v_ge, v_al, v_un, v_ca, v_pb, v_aa, v_ab, v_dr, v_do, v_wr, v_nf, v_nt, v_ra, v_di, v_le, v_fa, v_ti] 30
  go_wp2_with fail
  refine (k1.out _ _ (by simp)).mono ?_
  rintro e w1 ⟨rfl, x1⟩
  have hs1 := (hs0.alloc _).ext x1
  have X1 := (((Ext.refl w).alloc _).alloc _).trans x1
  have c1_0 := hs1.cell 0 _ rfl
  have c1_1 := hs1.cell 1 _ rfl
  cases q1
  · go_wp2
    go_ret
    exact ⟨rfl, X1⟩
  · skip
    go_wp2
    go_ret
    exact ⟨rfl, X1⟩

set_option maxRecDepth 100000 in
set_option maxHeartbeats 1000000 in
theorem placesA (v_p1 v_p2 v_el v_cl v_ge v_al v_un v_ca v_pb v_aa v_ab v_dr v_do v_wr v_nf v_nt v_ra v_di v_le v_fa v_ti : Value) (p : Int) (A : Option Addr) (n c : Nat) (q1 q2 q3 : Bool) (w : World) (k1 : ∀ (w : World) (g : Nat) (hg : g = w.heap.size), Calls Tryz.prog 92 #[.int .i64 1, .int .i64 16, .slice (some ⟨g, 0, none⟩) 1 1] (w.alloc (.cells #[.int .i64 p] 3)) (RetB (w.alloc (.cells #[.int .i64 p] 3)) q1)) (f2 : decide ((n : Int) ≤ 64) = q2) (k3 : q1 = true → ∀ (W : World), Ext w W → ∀ B, B < W.heap.size → W.cell? ⟨B, 0, none⟩ = some (.int .i64 p) → Calls Tryz.prog 93 #[.slice A n c, .func (.func 91) #[] #[.pointer (some ⟨B, 0, none⟩)]] W (RetB W (!q3))) : Calls Tryz.prog 56 #[.agg #[.int .i64 p, .slice A n c, v_p1, v_p2, v_el, v_cl, v_ge, v_al, v_un, v_ca, v_pb, v_aa, v_ab, v_dr, v_do, v_wr, v_nf, v_nt, v_ra, v_di, v_le, v_fa, v_ti]] w (RetB w (q1 && q2 && q3)) := by
  replace k1 := Lib.hid k1
  replace k3 := Lib.hid k3
  go_enter Tryz.func56, Tryz.ntmps56
  have hs0 := Bx.new w [.int .i64 p, .slice A n c, v_p1, v_p2, v_el, v_cl, v_ge, v_al, v_un, v_ca, v_pb, v_aa, v_ab, v_dr, v_do, v_wr, v_nf, v_nt, v_ra, v_di, v_le, v_fa, v_ti] 30
  go_wp2_with fail
  refine (k1.out _ _ (by simp)).mono ?_
  rintro e w1 ⟨rfl, x1⟩
  have hs1 := (hs0.alloc _).ext x1
  have X1 := (((Ext.refl w).alloc _).alloc _).trans x1
  have c1_0 := hs1.cell 0 _ rfl
  have c1_1 := hs1.cell 1 _ rfl
  cases q1
  · go_wp2
    go_ret
    exact ⟨rfl, X1⟩
  · skip
    cases q2
    · go_wp2
      go_ret
      exact ⟨rfl, X1⟩
    · skip
      go_wp2_with fail
      refine (k3.out trivial _ X1 _ hs1.lt (hs1.cell 0 _ rfl)).mono ?_
      rintro e w2 ⟨rfl, x2⟩
      have hs2 := hs1.ext x2; clear hs1
      have X2 := X1.trans x2
      cases q3
      · go_wp2
        go_ret
        exact ⟨rfl, X2⟩
      · go_wp2
        go_ret
        exact ⟨rfl, X2⟩

theorem pPlaces (s : Su) (h : Sh) (ok : SuOk s) (w : World) (r : SuR w s h) : Calls Tryz.prog 56 #[.agg (s.cells h).toArray] w (RetB w (chPlaces s)) := by
  by_cases hn : s.ways.length ≤ 9223372036854775806
  · refine placesA _ _ _ _ _ _ _ _ _ _ _ _ _ _ _ _ _ _ _ _ _ s.places h.wA s.ways.length h.wC _ _ _ w (fun w g hg => pAll (Rn.new_at w [s.places] 3 g hg) (by simp) 1 1 16) rfl (fun q W X B hB hp => ?_)
    have : 1 ≤ s.places ∧ s.places ≤ 16 := by simpa [okIn] using q
    exact pWays (r.ext X).ways hn s.places this.1 this.2 B hB hp h.wC
  · have hq : decide ((s.ways.length : Int) ≤ 64) = false := decide_eq_false (by omega)
    have e : chPlaces s = ([s.places].all (okIn 1 16) && false && false) := by unfold chPlaces; rw [hq]; simp
    rw [e]
    exact placesB _ _ _ _ _ _ _ _ _ _ _ _ _ _ _ _ _ _ _ _ _ s.places h.wA s.ways.length h.wC _ w (fun w g hg => pAll (Rn.new_at w [s.places] 3 g hg) (by simp) 1 1 16) hq

set_option maxRecDepth 100000 in
set_option maxHeartbeats 1000000 in
theorem tablesA (v_pl v_wy v_al v_un v_ca v_pb v_aa v_ab v_dr v_do v_wr v_nf v_nt v_ra v_di v_le v_fa v_ti : Value) (p d : Int) (Ae Ac Ag : Option Addr) (ne ce nc cc ng cg : Nat) (q1 q2 q3 q4 q5 : Bool) (w : World) (k1 : ∀ (w : World) (g : Nat) (hg : g = w.heap.size), Calls Tryz.prog 95 #[.slice (some ⟨g, 0, none⟩) 1 1] (w.alloc (.cells #[.int .i64 p, .int .i64 d] 24)) (RetB (w.alloc (.cells #[.int .i64 p, .int .i64 d] 24)) q1)) (k2 : ∀ (W : World), Ext w W → Calls Tryz.prog 95 #[.slice Ac nc cc] W (RetB W q2)) (k3 : ∀ (W : World), Ext w W → Calls Tryz.prog 95 #[.slice Ag ng cg] W (RetB W q3)) (k4 : ∀ (W : World), Ext w W → Calls Tryz.prog 96 #[.slice Ae ne ce, .func (.func 94) #[] #[]] W (RetB W (!q4))) (f5 : decide (max (max (ne : Int) (nc : Int)) (ng : Int) ≤ 8) = q5) : Calls Tryz.prog 57 #[.agg #[v_pl, v_wy, .int .i64 p, .int .i64 d, .slice Ae ne ce, .slice Ac nc cc, .slice Ag ng cg, v_al, v_un, v_ca, v_pb, v_aa, v_ab, v_dr, v_do, v_wr, v_nf, v_nt, v_ra, v_di, v_le, v_fa, v_ti]] w (RetB w (q1 && q2 && q3 && q4 && q5)) := by
  replace k1 := Lib.hid k1
  replace k2 := Lib.hid k2
  replace k3 := Lib.hid k3
  replace k4 := Lib.hid k4
  go_enter Tryz.func57, Tryz.ntmps57
  have hs0 := Bx.new w [v_pl, v_wy, .int .i64 p, .int .i64 d, .slice Ae ne ce, .slice Ac nc cc, .slice Ag ng cg, v_al, v_un, v_ca, v_pb, v_aa, v_ab, v_dr, v_do, v_wr, v_nf, v_nt, v_ra, v_di, v_le, v_fa, v_ti] 30
  go_wp2_with fail
  refine (k1.out _ _ (by simp)).mono ?_
  rintro e w1 ⟨rfl, x1⟩
  have hs1 := (hs0.alloc _).ext x1
  have X1 := (((Ext.refl w).alloc _).alloc _).trans x1
  have c1_5 := hs1.cell 5 _ rfl
  cases q1
  · go_wp2
    go_ret
    exact ⟨rfl, X1⟩
  · skip
    go_wp2_with fail
    refine (k2.out _ X1).mono ?_
    rintro e w2 ⟨rfl, x2⟩
    have hs2 := hs1.ext x2; clear hs1
    have X2 := X1.trans x2
    have c2_6 := hs2.cell 6 _ rfl
    cases q2
    · go_wp2
      go_ret
      exact ⟨rfl, X2⟩
    · skip
      go_wp2_with fail
      refine (k3.out _ X2).mono ?_
      rintro e w3 ⟨rfl, x3⟩
      have hs3 := hs2.ext x3; clear hs2
      have X3 := X2.trans x3
      have c3_4 := hs3.cell 4 _ rfl
      cases q3
      · go_wp2
        go_ret
        exact ⟨rfl, X3⟩
      · skip
        go_wp2_with fail
        refine (k4.out _ X3).mono ?_
        rintro e w4 ⟨rfl, x4⟩
        have hs4 := hs3.ext x4; clear hs3
        have X4 := X3.trans x4
        have c4_4 := hs4.cell 4 _ rfl
        have c4_5 := hs4.cell 5 _ rfl
        have c4_6 := hs4.cell 6 _ rfl
        cases q4
        · go_wp2
          go_ret
          exact ⟨rfl, X4⟩
        · skip
          go_wp2
          all_goals go_ret
          all_goals exact ⟨congrArg (fun b => Ending.returned (Value.bool b)) ((decide_eq_decide.2 (by omega)).trans f5), X4⟩

theorem pTables (s : Su) (h : Sh) (ok : SuOk s) (w : World) (r : SuR w s h) (hn : s.classes.length ≤ 9223372036854775806 ∧ s.gears.length ≤ 9223372036854775806 ∧ s.elements.length ≤ 9223372036854775806) : Calls Tryz.prog 57 #[.agg (s.cells h).toArray] w (RetB w (chTables s)) :=
  tablesA _ _ _ _ _ _ _ _ _ _ _ _ _ _ _ _ _ _ s.pace.1 s.pace.2 h.eA h.cA h.gA s.elements.length h.eC s.classes.length h.cC s.gears.length h.gC _ _ _ _ _ w
    (fun w g hg => pShares (Rs.new_g w [s.pace] 24 g hg) (by simp) (by intro y hy; simp at hy; subst hy; exact ok.pace) 1)
    (fun W X => pShares (r.ext X).classes hn.1 ok.classes.2 h.cC)
    (fun W X => pShares (r.ext X).gears hn.2.1 ok.gears.2 h.gC)
    (fun W X => pEls (r.ext X).elements ok.elements.1 ok.elements.2 hn.2.2 h.eC) rfl

set_option maxRecDepth 100000 in
set_option maxHeartbeats 1000000 in
theorem moneyA (v_pl v_wy v_p1 v_p2 v_el v_cl v_ge v_al v_un v_ca v_pb v_aa v_ab v_dr v_do v_wr v_nf v_nt v_fa : Value) (Ar At : Option Addr) (nr cr nt ct : Nat) (di le : Int) (q1 q2 q3 q4 q5 q6 : Bool) (w : World) (f1 : decide (0 < (nr : Int)) = q1) (f2 : decide ((nr : Int) ≤ 16) = q2) (k3 : ∀ (W : World), Ext w W → Calls Tryz.prog 92 #[.int .i64 0, .int .i64 100000, .slice Ar nr cr] W (RetB W q3)) (k4 : ∀ (w : World) (g : Nat) (hg : g = w.heap.size), Calls Tryz.prog 92 #[.int .i64 0, .int .i64 100000, .slice (some ⟨g, 0, none⟩) 2 2] (w.alloc (.cells #[.int .i64 di, .int .i64 le] 3)) (RetB (w.alloc (.cells #[.int .i64 di, .int .i64 le] 3)) q4)) (f5 : decide ((nt : Int) ≤ 8) = q5) (k6 : ∀ (W : World) (B : Nat), w.heap.size ≤ B → Ext w W → Bx W B [.int .i64 (-1)] 3 → Calls Tryz.prog 98 #[.slice At nt ct, .func (.func 97) #[] #[.pointer (some ⟨B, 0, none⟩)]] W fun e w' => e = .returned (.bool (!q6)) ∧ Below B W w') : Calls Tryz.prog 59 #[.agg #[v_pl, v_wy, v_p1, v_p2, v_el, v_cl, v_ge, v_al, v_un, v_ca, v_pb, v_aa, v_ab, v_dr, v_do, v_wr, v_nf, v_nt, .slice Ar nr cr, .int .i64 di, .int .i64 le, v_fa, .slice At nt ct]] w (RetB w (q1 && q2 && q3 && q4 && q5 && q6)) := by
  replace k3 := Lib.hid k3
  replace k4 := Lib.hid k4
  replace k6 := Lib.hid k6
  go_enter Tryz.func59, Tryz.ntmps59
  have hs0 := Bx.new w [v_pl, v_wy, v_p1, v_p2, v_el, v_cl, v_ge, v_al, v_un, v_ca, v_pb, v_aa, v_ab, v_dr, v_do, v_wr, v_nf, v_nt, .slice Ar nr cr, .int .i64 di, .int .i64 le, v_fa, .slice At nt ct] 30
  have hl0 := (Bx.new_at (w.alloc (.cells #[v_pl, v_wy, v_p1, v_p2, v_el, v_cl, v_ge, v_al, v_un, v_ca, v_pb, v_aa, v_ab, v_dr, v_do, v_wr, v_nf, v_nt, .slice Ar nr cr, .int .i64 di, .int .i64 le, v_fa, .slice At nt ct] 30)) [.int .i64 (-1)] 3 (w.heap.size + 1) (by simp))
  have X0 := ((Ext.refl w).alloc (.cells #[v_pl, v_wy, v_p1, v_p2, v_el, v_cl, v_ge, v_al, v_un, v_ca, v_pb, v_aa, v_ab, v_dr, v_do, v_wr, v_nf, v_nt, .slice Ar nr cr, .int .i64 di, .int .i64 le, v_fa, .slice At nt ct] 30)).alloc (.cells #[.int .i64 (-1)] 3)
  cases q1
  · have g1 : ¬ 0 < nr := by have := of_decide_eq_false f1; omega
    go_wp2
    go_ret
    exact ⟨rfl, X0⟩
  · have g1 : 0 < nr := by have := of_decide_eq_true f1; omega
    cases q2
    · go_wp2
      go_ret
      exact ⟨rfl, X0⟩
    · skip
      go_wp2_with fail
      refine (k3.out _ X0).mono ?_
      rintro e w1 ⟨rfl, x1⟩
      have hs1 := (hs0.alloc _).ext x1
      have hl1 := hl0.ext x1
      have X1 := X0.trans x1
      have c1a := hs1.cell 19 _ rfl
      have c1b := hs1.cell 20 _ rfl
      cases q3
      · go_wp2
        go_ret
        exact ⟨rfl, X1⟩
      · skip
        go_wp2_with fail
        refine (k4.out _ _ (by simp)).mono ?_
        rintro e w2 ⟨rfl, x2⟩
        have hs2 := (hs1.alloc _).ext x2
        have hl2 := (hl1.alloc _).ext x2
        have X2 := (X1.alloc _).trans x2
        have c2_22 := hs2.cell 22 _ rfl
        cases q4
        · go_wp2
          go_ret
          exact ⟨rfl, X2⟩
        · skip
          cases q5
          · go_wp2
            go_ret
            exact ⟨rfl, X2⟩
          · skip
            go_wp2_with fail
            refine (k6.out _ (w.heap.size + 1) (by omega) X2 hl2).mono ?_
            rintro e w3 ⟨rfl, x3⟩
            have X3 : Ext w w3 := Below.trans X2 (Below.mono x3 (by omega))
            cases q6
            · go_wp2
              go_ret
              exact ⟨rfl, X3⟩
            · go_wp2
              go_ret
              exact ⟨rfl, X3⟩

theorem pMoney (s : Su) (h : Sh) (ok : SuOk s) (w : World) (r : SuR w s h) (hn : s.rates.length ≤ 9223372036854775806 ∧ s.tiers.length ≤ 9223372036854775806) : Calls Tryz.prog 59 #[.agg (s.cells h).toArray] w (RetB w (chMoney s)) :=
  moneyA _ _ _ _ _ _ _ _ _ _ _ _ _ _ _ _ _ _ _ h.rA h.tA s.rates.length h.rC s.tiers.length h.tC s.diff s.least _ _ _ _ _ _ w rfl rfl
    (fun W X => pAll (r.ext X).rates hn.1 h.rC 0 100000)
    (fun w g hg => pAll (Rn.new_at w [s.diff, s.least] 3 g hg) (by simp) 2 0 100000) rfl
    (fun W B hB X hb => pTiers B (Rd.more (Rd.below r.tiers X) hB) hn.2 hb h.tC)

end Go.Proofs.YtnhmibfgaoealaaGreat
namespace Go.Proofs.YtnhmibfgaoealaaGreat
open Go.RowKit
set_option linter.unusedVariables false
set_option linter.unusedSimpArgs false

/-- At most a hundred of each list. -/
def SuFew (s : Su) : Prop := s.ways.length ≤ 100 ∧ s.elements.length ≤ 100 ∧ s.classes.length ≤ 100 ∧ s.gears.length ≤ 100 ∧ s.rates.length ≤ 100 ∧ s.tiers.length ≤ 100

set_option maxRecDepth 100000 in
set_option maxHeartbeats 1000000 in
theorem checkA (v_pl v_wy v_p1 v_p2 v_el v_cl v_ge v_al v_un v_ca v_pb v_aa v_ab v_dr v_do v_wr v_nf v_nt v_ra v_di v_le v_fa v_ti : Value) (q1 q2 q3 q4 : Bool) (w : World) (k1 : ∀ (W : World), Ext w W → Calls Tryz.prog 56 #[.agg #[v_pl, v_wy, v_p1, v_p2, v_el, v_cl, v_ge, v_al, v_un, v_ca, v_pb, v_aa, v_ab, v_dr, v_do, v_wr, v_nf, v_nt, v_ra, v_di, v_le, v_fa, v_ti]] W (RetB W q1)) (k2 : ∀ (W : World), Ext w W → Calls Tryz.prog 57 #[.agg #[v_pl, v_wy, v_p1, v_p2, v_el, v_cl, v_ge, v_al, v_un, v_ca, v_pb, v_aa, v_ab, v_dr, v_do, v_wr, v_nf, v_nt, v_ra, v_di, v_le, v_fa, v_ti]] W (RetB W q2)) (k3 : ∀ (W : World), Ext w W → Calls Tryz.prog 58 #[.agg #[v_pl, v_wy, v_p1, v_p2, v_el, v_cl, v_ge, v_al, v_un, v_ca, v_pb, v_aa, v_ab, v_dr, v_do, v_wr, v_nf, v_nt, v_ra, v_di, v_le, v_fa, v_ti]] W (RetB W q3)) (k4 : ∀ (W : World), Ext w W → Calls Tryz.prog 59 #[.agg #[v_pl, v_wy, v_p1, v_p2, v_el, v_cl, v_ge, v_al, v_un, v_ca, v_pb, v_aa, v_ab, v_dr, v_do, v_wr, v_nf, v_nt, v_ra, v_di, v_le, v_fa, v_ti]] W (RetB W q4)) : Calls Tryz.prog 22 #[.agg #[v_pl, v_wy, v_p1, v_p2, v_el, v_cl, v_ge, v_al, v_un, v_ca, v_pb, v_aa, v_ab, v_dr, v_do, v_wr, v_nf, v_nt, v_ra, v_di, v_le, v_fa, v_ti]] w (RetB w (q1 && q2 && q3 && q4)) := by
  replace k1 := Lib.hid k1
  replace k2 := Lib.hid k2
  replace k3 := Lib.hid k3
  replace k4 := Lib.hid k4
  go_enter Tryz.func22, Tryz.ntmps22
  have hs0 := Bx.new w [v_pl, v_wy, v_p1, v_p2, v_el, v_cl, v_ge, v_al, v_un, v_ca, v_pb, v_aa, v_ab, v_dr, v_do, v_wr, v_nf, v_nt, v_ra, v_di, v_le, v_fa, v_ti] 30
  have X0 := (Ext.refl w).alloc (.cells #[v_pl, v_wy, v_p1, v_p2, v_el, v_cl, v_ge, v_al, v_un, v_ca, v_pb, v_aa, v_ab, v_dr, v_do, v_wr, v_nf, v_nt, v_ra, v_di, v_le, v_fa, v_ti] 30)
  go_wp2_with (first | (refine load_box rfl 30 _ rfl _ rfl _ _ hs0 _ Tryz.underlying30 rfl (by kernel_rfl) ?_))
  refine (k1.out _ X0).mono ?_
  rintro e w1 ⟨rfl, x1⟩
  have hs1 := hs0.ext x1; clear hs0
  have X1 := X0.trans x1
  cases q1
  · go_wp2
    go_ret
    exact ⟨rfl, X1⟩
  · skip
    go_wp2_with (first | (refine load_box rfl 30 _ rfl _ rfl _ _ hs1 _ Tryz.underlying30 rfl (by kernel_rfl) ?_))
    refine (k2.out _ X1).mono ?_
    rintro e w2 ⟨rfl, x2⟩
    have hs2 := hs1.ext x2; clear hs1
    have X2 := X1.trans x2
    cases q2
    · go_wp2
      go_ret
      exact ⟨rfl, X2⟩
    · skip
      go_wp2_with (first | (refine load_box rfl 30 _ rfl _ rfl _ _ hs2 _ Tryz.underlying30 rfl (by kernel_rfl) ?_))
      refine (k3.out _ X2).mono ?_
      rintro e w3 ⟨rfl, x3⟩
      have hs3 := hs2.ext x3; clear hs2
      have X3 := X2.trans x3
      cases q3
      · go_wp2
        go_ret
        exact ⟨rfl, X3⟩
      · skip
        go_wp2_with (first | (refine load_box rfl 30 _ rfl _ rfl _ _ hs3 _ Tryz.underlying30 rfl (by kernel_rfl) ?_))
        refine (k4.out _ X3).mono ?_
        rintro e w4 ⟨rfl, x4⟩
        have hs4 := hs3.ext x4; clear hs3
        have X4 := X3.trans x4
        go_wp2
        go_ret
        exact ⟨rfl, X4⟩

theorem pCheck {s : Su} {h : Sh} (ok : SuOk s) (fw : SuFew s) {w : World} (r : SuR w s h) : Calls Tryz.prog 22 #[.agg (s.cells h).toArray] w (RetB w (chk s)) := by
  obtain ⟨f1, f2, f3, f4, f5, f6⟩ := fw
  exact checkA _ _ _ _ _ _ _ _ _ _ _ _ _ _ _ _ _ _ _ _ _ _ _ _ _ _ _ w (fun W X => pPlaces s h ok W (r.ext X)) (fun W X => pTables s h ok W (r.ext X) ⟨by omega, by omega, by omega⟩) (fun W X => pTimes s h W) (fun W X => pMoney s h ok W (r.ext X) ⟨by omega, by omega⟩)

def mx2 (a b : Int) : Int := if b > a then b else a
theorem mx2_le (a b n : Int) : mx2 a b ≤ n ↔ a ≤ n ∧ b ≤ n := by unfold mx2; split <;> omega
theorem max6 {P : Program} (ts : Array TypeId) (t : TypeId) (a b c d e f : Int) (W : World) : Sem.run P (Builtin.max_ ts t #[.int .i64 a, .int .i64 b, .int .i64 c, .int .i64 d, .int .i64 e, .int .i64 f]) W = .ok (.int .i64 (mx2 (mx2 (mx2 (mx2 (mx2 a b) c) d) e) f)) W := rfl
set_option maxRecDepth 100000 in
set_option maxHeartbeats 2000000 in
theorem fewA (v_pl v_p1 v_p2 v_al v_un v_ca v_pb v_aa v_ab v_dr v_do v_wr v_nf v_nt v_di v_le v_fa : Value) (Aw Ae Ac Ag Ar At : Option Addr) (nw cw ne ce nc cc ng cg nr cr nt ct : Nat) (w : World) : Calls Tryz.prog 30 #[.agg #[v_pl, .slice Aw nw cw, v_p1, v_p2, .slice Ae ne ce, .slice Ac nc cc, .slice Ag ng cg, v_al, v_un, v_ca, v_pb, v_aa, v_ab, v_dr, v_do, v_wr, v_nf, v_nt, .slice Ar nr cr, v_di, v_le, v_fa, .slice At nt ct]] w (RetB w (decide (nw ≤ 100 ∧ ne ≤ 100 ∧ nc ≤ 100 ∧ ng ≤ 100 ∧ nr ≤ 100 ∧ nt ≤ 100))) := by
  obtain ⟨R, hR⟩ : ∃ R, R = decide (nw ≤ 100 ∧ ne ≤ 100 ∧ nc ≤ 100 ∧ ng ≤ 100 ∧ nr ≤ 100 ∧ nt ≤ 100) := ⟨_, rfl⟩
  rw [← hR]
  have hm := fun W => max6 (P := Tryz.prog) #[3, 3, 3, 3, 3, 3] 3 nw ne nc ng nr nt W
  have hM : mx2 (mx2 (mx2 (mx2 (mx2 nw ne) nc) ng) nr) nt ≤ 100 ↔ (nw ≤ 100 ∧ ne ≤ 100 ∧ nc ≤ 100 ∧ ng ≤ 100 ∧ nr ≤ 100 ∧ nt ≤ 100) := by simp only [mx2_le]; omega
  generalize mx2 (mx2 (mx2 (mx2 (mx2 nw ne) nc) ng) nr) nt = M at hm hM
  have hD : R = decide (M ≤ 100) := by rw [hR]; exact decide_eq_decide.2 (by omega)
  replace hD := Lib.hid hD
  clear hR hM
  go_enter Tryz.func30, Tryz.ntmps30
  go_wp2
  go_ret
  exact ⟨by rw [hD.out]; rfl, (Ext.refl _).alloc _⟩
theorem pFew (s : Su) (h : Sh) (w : World) : Calls Tryz.prog 30 #[.agg (s.cells h).toArray] w fun e w' => (∃ b : Bool, e = .returned (.bool b) ∧ (b = true ↔ SuFew s)) ∧ Ext w w' :=
  (fewA _ _ _ _ _ _ _ _ _ _ _ _ _ _ _ _ _ h.wA h.eA h.cA h.gA h.rA h.tA s.ways.length h.wC s.elements.length h.eC s.classes.length h.cC s.gears.length h.gC s.rates.length h.rC s.tiers.length h.tC w).mono fun _ _ ⟨he, x⟩ => ⟨⟨_, he, decide_eq_true_iff⟩, x⟩

end Go.Proofs.YtnhmibfgaoealaaGreat
