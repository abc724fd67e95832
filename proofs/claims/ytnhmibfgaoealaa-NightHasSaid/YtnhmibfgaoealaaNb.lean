/-
  night.Of and night.Is by contract.
-/
import Derived.Test.YtnhmibfgaoealaaNa
namespace Go.Proofs.Ytnhmibfgaoealaa
open Go.RowKit
set_option linter.unusedVariables false
set_option linter.unusedSimpArgs false

theorem Rn.at_move {w w' : World} {A : Option Addr} {l : List Int} {B n₀ : Nat} {t : TypeId} {v : Value} (h : Rn w A l) (hn : w.heap.size ≤ n₀) (hb : Boxed w B t v) (hv : ∀ k n, v ≠ .int k n) (hm : Below B w w') (hr : Mid (B + 1) n₀ w w') {j : Nat} (hj : j < l.length) :
    ∃ b off p, A = some ⟨b, off, none⟩ ∧ Hid (l[j]? = some p) ∧ w'.cell? ⟨b, off + j, none⟩ = some (.int .i64 p) := by
  obtain ⟨b, off, p, rfl, hlt, hx, hc⟩ := Rd.atN h (Ext.refl w) hj
  refine ⟨b, off, p, rfl, hx, ?_⟩
  rcases Nat.lt_trichotomy b B with h1 | h1 | h1
  · exact (hm.cell (p := ⟨b, off + j, none⟩) h1).trans hc
  · subst h1
    have hc0 : (World.cell? w ⟨b, off + j, none⟩) = (#[v] : Array Value)[off + j]? := by simp [World.cell?, show w.heap[b]? = _ from hb]
    rw [hc] at hc0
    by_cases h0 : off + j = 0
    · rw [h0] at hc0; simp at hc0; exact absurd hc0.symm (hv _ _)
    · rw [Array.getElem?_eq_none (by simp; omega)] at hc0; cases hc0
  · exact (hr.cell (p := ⟨b, off + j, none⟩) h1 (by show b < n₀; omega)).trans hc

theorem nightsL_snoc (F T : Int) (l : List Int) (d : Int) : nightsL F T (l ++ [d]) = nightsL F T l ++ nights1 F T d := by simp [nightsL]
theorem nights1_len (F T d : Int) : (nights1 F T d).length ≤ 2 := by
  unfold nights1
  rw [List.length_map]
  refine Nat.le_trans (List.length_filter_le _ _) ?_
  unfold winds; split <;> simp
theorem nightsL_len (F T : Int) (l : List Int) : (nightsL F T l).length ≤ l.length * 2 := by
  unfold nightsL
  exact flatMap_len _ 2 l fun d _ => nights1_len F T d

set_option maxRecDepth 100000 in
set_option maxHeartbeats 1000000 in
theorem ofA_no (v_pl v_wy v_p1 v_p2 v_el v_cl v_ge v_al v_un v_ca v_pb v_aa v_ab v_dr v_do v_wr v_ra v_di v_le v_fa v_ti : Value) (F T : Int) (w : World) (A : Option Addr) (n cap : Nat) (k1 : ∀ (W : World), Ext w W → Calls Try.prog 59 #[.agg #[v_pl, v_wy, v_p1, v_p2, v_el, v_cl, v_ge, v_al, v_un, v_ca, v_pb, v_aa, v_ab, v_dr, v_do, v_wr, .int .i64 F, .int .i64 T, v_ra, v_di, v_le, v_fa, v_ti]] W (RetB W false)) :
    Calls Try.prog 54 #[.agg #[v_pl, v_wy, v_p1, v_p2, v_el, v_cl, v_ge, v_al, v_un, v_ca, v_pb, v_aa, v_ab, v_dr, v_do, v_wr, .int .i64 F, .int .i64 T, v_ra, v_di, v_le, v_fa, v_ti], .slice A n cap] w (RetS w []) := by
  replace k1 := Lib.hid k1
  go_enter Try.func54, Try.ntmps54
  have hs0 := Bx.new w [v_pl, v_wy, v_p1, v_p2, v_el, v_cl, v_ge, v_al, v_un, v_ca, v_pb, v_aa, v_ab, v_dr, v_do, v_wr, .int .i64 F, .int .i64 T, v_ra, v_di, v_le, v_fa, v_ti] 35
  have X0 := (Ext.refl w).alloc (.cells #[v_pl, v_wy, v_p1, v_p2, v_el, v_cl, v_ge, v_al, v_un, v_ca, v_pb, v_aa, v_ab, v_dr, v_do, v_wr, .int .i64 F, .int .i64 T, v_ra, v_di, v_le, v_fa, v_ti] 35)
  go_wp2_with (first | (refine load_box rfl 35 _ rfl _ rfl _ _ hs0 _ Try.underlying35 rfl (by kernel_rfl) ?_))
  refine (k1.out _ X0).mono ?_
  rintro e w1 ⟨rfl, x1⟩
  go_wp2
  go_ret
  exact ⟨none, 0, rfl, .nil, X0.trans x1, own_nil _ _⟩

set_option maxRecDepth 100000 in
set_option maxHeartbeats 2000000 in
theorem ofA_yes (v_pl v_wy v_p1 v_p2 v_el v_cl v_ge v_al v_un v_ca v_pb v_aa v_ab v_dr v_do v_wr v_ra v_di v_le v_fa v_ti : Value) (F T : Int) (hFT : okNT F T) (w : World) (A : Option Addr) (l : List Sp.S) (h : Rs w A l) (hl : l.length ≤ 900000) (cap : Nat) (k1 : ∀ (W : World), Ext w W → Calls Try.prog 59 #[.agg #[v_pl, v_wy, v_p1, v_p2, v_el, v_cl, v_ge, v_al, v_un, v_ca, v_pb, v_aa, v_ab, v_dr, v_do, v_wr, .int .i64 F, .int .i64 T, v_ra, v_di, v_le, v_fa, v_ti]] W (RetB W true)) :
    Calls Try.prog 54 #[.agg #[v_pl, v_wy, v_p1, v_p2, v_el, v_cl, v_ge, v_al, v_un, v_ca, v_pb, v_aa, v_ab, v_dr, v_do, v_wr, .int .i64 F, .int .i64 T, v_ra, v_di, v_le, v_fa, v_ti], .slice A l.length cap] w (RetS w (nightOf F T l)) := by
  have hDb : ∀ d ∈ daysL (Sp.norm l), 0 ≤ d ∧ d ≤ 370 := fun d hd => by
    obtain ⟨t, _, _, rfl⟩ := ((days_spec l).2 d).1 hd
    exact dayOf_bd t
  have hDl := days_len l
  have hN : Hid (nightOf F T l = Sp.and_ l (nightsL F T (daysL (Sp.norm l)))) := rfl
  have kD := fun (w : World) (A : Option Addr) (h : Rs w A l) => cDays h hl cap
  obtain ⟨R, hR⟩ : ∃ R, nightOf F T l = R := ⟨_, rfl⟩
  rw [hR] at hN ⊢
  obtain ⟨D, hD⟩ : ∃ D, daysL (Sp.norm l) = D := ⟨_, rfl⟩
  rw [hD] at hDb hDl hN kD
  clear hR hD
  replace hDb := Lib.hid hDb; replace kD := Lib.hid kD
  replace k1 := Lib.hid k1
  replace h := Lib.hid h
  go_enter Try.func54, Try.ntmps54
  have hs0 := Bx.new w [v_pl, v_wy, v_p1, v_p2, v_el, v_cl, v_ge, v_al, v_un, v_ca, v_pb, v_aa, v_ab, v_dr, v_do, v_wr, .int .i64 F, .int .i64 T, v_ra, v_di, v_le, v_fa, v_ti] 35
  have X0 := (Ext.refl w).alloc (.cells #[v_pl, v_wy, v_p1, v_p2, v_el, v_cl, v_ge, v_al, v_un, v_ca, v_pb, v_aa, v_ab, v_dr, v_do, v_wr, .int .i64 F, .int .i64 T, v_ra, v_di, v_le, v_fa, v_ti] 35)
  go_wp2_with (first | (refine load_box rfl 35 _ rfl _ rfl _ _ hs0 _ Try.underlying35 rfl (by kernel_rfl) ?_))
  refine (k1.out _ X0).mono ?_
  rintro e w1 ⟨rfl, x1⟩
  have X1 := X0.trans x1
  have hs1 := hs0.ext x1
  have hC : w.heap.size < w1.heap.size := hs1.lt
  go_wp2_with fail
  have hB0 := Boxed.new w1 40 (.slice none 0 0)
  refine (kD.out _ _ ((h.out.ext X1).alloc _)).mono ?_
  rintro e w2 ⟨A2, cap2, rfl, r2, x2, _⟩
  have X2 := (X1.alloc _).trans x2
  have hs2 := Lib.hid ((hs1.alloc _).ext x2)
  have hB2 : Boxed w2 w1.heap.size 40 (.slice none 0 0) := (x2.block w1.heap.size (by simp)).trans hB0
  have hBn : w1.heap.size < w2.heap.size := hB2.lt
  have hB2h := Lib.hid hB2
  clear hs0 hs1 hB0 hB2
  go_wp2_with fail
  go_loopw [17] (fun i wr => ∃ (k : Nat) (v : Value), k ≤ D.length ∧ i = .int .i64 k ∧ Hid (Boxed wr w1.heap.size 40 v) ∧ Hid (wr.ownsRow w2.heap.size 42 2 v (nightsL F T (D.take k)).length (flat encS (nightsL F T (D.take k)))) ∧ Hid (Below w1.heap.size w2 wr) ∧ Hid (Mid (w1.heap.size + 1) w2.heap.size w2 wr)) (fun i _ => D.length - (intOf i).toNat)
  case atStart => exact ⟨0, _, Nat.zero_le _, rfl, hB2h, own_nil _ _, Below.refl _ _, Mid.refl _ _ _⟩
  case round =>
    obtain ⟨k, v, hk, rfl, HV, HO, HM, HR⟩ := hrel
    by_cases hlt : k < D.length
    · obtain ⟨b, off, d, rfl, hx, c0⟩ := Rn.at_move r2 (Nat.le_refl _) hB2h.out (fun _ _ h => by cases h) HM.out HR.out hlt
      obtain ⟨d0, d1⟩ := hDb.out d (List.mem_of_getElem? hx.out)
      have hO := nightsL_len F T (D.take k)
      have hO2 : (nightsL F T (D.take k)).length ≤ 1000 := Nat.le_trans hO (by have : (D.take k).length ≤ 371 := Nat.le_trans (List.length_take_le' _ _) hDl; omega)
      have hq0 : (0 : Int) ≤ (k : Int) := by omega
      have hq1 : (k : Int) < (D.length : Int) := by omega
      have E : Hid (nightsL F T (D.take (k + 1)) = nightsL F T (D.take k) ++ nights1 F T d) := by show _ = _; rw [take_snoc hx.out, nightsL_snoc]
      go_wp2_with fail
      refine (nput v_pl v_wy v_p1 v_p2 v_el v_cl v_ge v_al v_un v_ca v_pb v_aa v_ab v_dr v_do v_wr v_ra v_di v_le v_fa v_ti F T hFT w2.heap.size w1.heap.size w.heap.size (nightsL F T (D.take k)) v d d0 d1 wr ((HM.out.block w.heap.size hC).trans hs2.out) hC HV.out HO.out HR.out.size hBn hO2).mono ?_
      rintro e w5 ⟨⟨r, rfl⟩, v5, hv5, ho5, m1, m2⟩
      rw [← E.out] at ho5
      replace hv5 := Lib.hid hv5; replace ho5 := Lib.hid ho5
      have m3 := Lib.hid (HM.out.trans m1); have m4 := Lib.hid (HR.out.trans m2)
      clear m1 m2 HV HO HM HR
      go_wp2
      go_roundw
      case rel => exact ⟨k + 1, v5, by omega, by go_num, hv5, ho5, m3, m4⟩
      case measure => simp [intOf]; omega
    · obtain rfl : k = D.length := by omega
      rw [List.take_length] at HO
      have hO := nightsL_len F T D
      obtain ⟨NL, hNL⟩ : ∃ NL, nightsL F T D = NL := ⟨_, rfl⟩
      rw [hNL] at HO hO
      have hN2 : Hid (R = Sp.and_ l NL) := by show _ = _; rw [← hNL]; exact hN.out
      obtain ⟨A3, cap3, rfl, _, _⟩ := own_form HO.out
      have cB := HV.out.cell
      have X5 : Ext w wr := Below.trans X2 (Below.mono HM.out (Nat.le_of_lt hC))
      have h5 := h.out.ext X5
      clear hNL hN
      go_wp2_with fail
      refine (cAnd h5 (Rs.own HO.out) hl (by omega) _ _).mono ?_
      rintro e w6 ⟨A6, cap6, rfl, r6, x6, o6⟩
      rw [← hN2.out] at r6 o6 ⊢
      go_wp2
      go_ret
      exact ⟨A6, cap6, rfl, r6, X5.trans x6, own_base o6 X5.size⟩

theorem winds_len (F T : Int) : (winds F T).length ≤ 2 := by unfold winds; split <;> simp
set_option maxRecDepth 100000 in
set_option maxHeartbeats 1000000 in
theorem isA (v_pl v_wy v_p1 v_p2 v_el v_cl v_ge v_al v_un v_ca v_pb v_aa v_ab v_dr v_do v_wr v_ra v_di v_le v_fa v_ti : Value) (F T t : Int) (q : Bool) (w : World) (k1 : ∀ (W : World), Ext w W → Calls Try.prog 59 #[.agg #[v_pl, v_wy, v_p1, v_p2, v_el, v_cl, v_ge, v_al, v_un, v_ca, v_pb, v_aa, v_ab, v_dr, v_do, v_wr, .int .i64 F, .int .i64 T, v_ra, v_di, v_le, v_fa, v_ti]] W (RetB W q)) :
    Calls Try.prog 56 #[.agg #[v_pl, v_wy, v_p1, v_p2, v_el, v_cl, v_ge, v_al, v_un, v_ca, v_pb, v_aa, v_ab, v_dr, v_do, v_wr, .int .i64 F, .int .i64 T, v_ra, v_di, v_le, v_fa, v_ti], .int .i64 t] w (RetB w (q && nightIs F T t)) := by
  replace k1 := Lib.hid k1
  by_cases h1 : t < 0
  · have e : (q && nightIs F T t) = false := by
      unfold nightIs
      have : Sp.okT t = false := by unfold Sp.okT; simp; omega
      rw [this]; simp
    rw [e]
    go_enter Try.func56, Try.ntmps56
    go_wp2
    go_ret
    exact ⟨rfl, (Ext.refl _).alloc _⟩
  · have f1 : decide (t < 0) = false := decide_eq_false h1
    by_cases h2 : 32054400 ≤ t
    · have e : (q && nightIs F T t) = false := by
        unfold nightIs
        have : Sp.okT t = false := by unfold Sp.okT; simp; unfold Sp.MT; omega
        rw [this]; simp
      rw [e]
      go_enter Try.func56, Try.ntmps56
      go_wp2
      go_ret
      exact ⟨rfl, (Ext.refl _).alloc _⟩
    · have f2 : decide (32054400 ≤ t) = false := decide_eq_false h2
      have hm : t.tmod 86400 = t % 86400 := Int.tmod_eq_emod_of_nonneg (by omega)
      have e : nightIs F T t = Sp.has (winds F T) (t % 86400) := by
        unfold nightIs isNight
        rw [has_eq]
        have o1 : Sp.okT t = true := by unfold Sp.okT; simp; unfold Sp.MT; omega
        have o2 : Sp.okT (t % 86400) = true := by unfold Sp.okT; simp; unfold Sp.MT; omega
        rw [o1, o2]
      rw [e]
      have kH := fun (w : World) (A : Option Addr) (c : Nat) (h : Rs w A (winds F T)) => cHas h (by have := winds_len F T; omega) (t % 86400) c
      have kW := fun w => windowsA v_pl v_wy v_p1 v_p2 v_el v_cl v_ge v_al v_un v_ca v_pb v_aa v_ab v_dr v_do v_wr v_ra v_di v_le v_fa v_ti F T w
      generalize winds F T = L at kH kW ⊢
      generalize Sp.has L (t % 86400) = b at kH ⊢
      replace kH := Lib.hid kH; replace kW := Lib.hid kW
      clear e
      cases q
      · go_enter Try.func56, Try.ntmps56
        have hs0 := Bx.new w [v_pl, v_wy, v_p1, v_p2, v_el, v_cl, v_ge, v_al, v_un, v_ca, v_pb, v_aa, v_ab, v_dr, v_do, v_wr, .int .i64 F, .int .i64 T, v_ra, v_di, v_le, v_fa, v_ti] 35
        have X0 := (Ext.refl w).alloc (.cells #[v_pl, v_wy, v_p1, v_p2, v_el, v_cl, v_ge, v_al, v_un, v_ca, v_pb, v_aa, v_ab, v_dr, v_do, v_wr, .int .i64 F, .int .i64 T, v_ra, v_di, v_le, v_fa, v_ti] 35)
        go_wp2_with (first | (refine load_box rfl 35 _ rfl _ rfl _ _ hs0 _ Try.underlying35 rfl (by kernel_rfl) ?_))
        refine (k1.out _ X0).mono ?_
        rintro e w1 ⟨rfl, x1⟩
        go_wp2
        go_ret
        exact ⟨rfl, X0.trans x1⟩
      · go_enter Try.func56, Try.ntmps56
        have hs0 := Bx.new w [v_pl, v_wy, v_p1, v_p2, v_el, v_cl, v_ge, v_al, v_un, v_ca, v_pb, v_aa, v_ab, v_dr, v_do, v_wr, .int .i64 F, .int .i64 T, v_ra, v_di, v_le, v_fa, v_ti] 35
        have X0 := (Ext.refl w).alloc (.cells #[v_pl, v_wy, v_p1, v_p2, v_el, v_cl, v_ge, v_al, v_un, v_ca, v_pb, v_aa, v_ab, v_dr, v_do, v_wr, .int .i64 F, .int .i64 T, v_ra, v_di, v_le, v_fa, v_ti] 35)
        go_wp2_with (first | (refine load_box rfl 35 _ rfl _ rfl _ _ hs0 _ Try.underlying35 rfl (by kernel_rfl) ?_))
        refine (k1.out _ X0).mono ?_
        rintro e w1 ⟨rfl, x1⟩
        have hs1 := hs0.ext x1
        go_wp2_with (first | (refine load_box rfl 35 _ rfl _ rfl _ _ hs1 _ Try.underlying35 rfl (by kernel_rfl) ?_))
        refine (kW.out _).mono ?_
        rintro e w2 ⟨g2, cap2, rfl, r2, x2, _⟩
        go_wp2_with fail
        refine (kH.out _ _ _ r2).mono ?_
        rintro e w3 ⟨rfl, x3⟩
        go_wp2
        go_ret
        exact ⟨rfl, ((X0.trans x1).trans x2).trans x3⟩
end Go.Proofs.Ytnhmibfgaoealaa

