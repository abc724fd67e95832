/-
  The law PunchParts of lumperlaw11 answers true.
-/
import Derived.Test.YtnhmibfgaoealaaTw
import Derived.Test.YtnhmibfgaoealaaPz
namespace Go.Proofs.Ytnhmibfgaoealaa
open Go.RowKit
set_option linter.unusedVariables false
set_option linter.unusedSimpArgs false

theorem Rn.atN {w w' : World} {A : Option Addr} {l : List Int} (h : Rn w A l) (hX : Ext w w') {j : Nat} (hj : j < l.length) :
    ∃ b off p, A = some ⟨b, off, none⟩ ∧ b < w.heap.size ∧ Hid (l[j]? = some p) ∧ w'.cell? ⟨b, off + j, none⟩ = some (.int .i64 p) := Rd.atN h hX hj

def partsL (l : List Sp.S) (ds : List Int) : List Sp.S := ds.flatMap fun d => partS l d 86400
theorem partsL_snoc (l : List Sp.S) (ds : List Int) (d : Int) : partsL l (ds ++ [d]) = partsL l ds ++ partS l d 86400 := by simp [partsL]
theorem partsL_len (l : List Sp.S) (ds : List Int) (h : l.length ≤ 30) : (partsL l ds).length ≤ ds.length * 31 :=
  flatMap_len _ 31 ds fun d _ => by have := partS_len l d 86400; omega
theorem filter_snoc {α : Type} (p : α → Bool) (l : List α) (x : α) : (l ++ [x]).filter p = l.filter p ++ if p x then [x] else [] := by
  rw [List.filter_append]
  congr 1
  cases h : p x <;> simp [h]
theorem pair_at {l : List Int} (h : l.Pairwise (· < ·)) {i j : Nat} (hij : i < j) {x y : Int} (hx : l[i]? = some x) (hy : l[j]? = some y) : x < y := by
  obtain ⟨hi, rfl⟩ := List.getElem?_eq_some_iff.1 hx
  obtain ⟨hj, rfl⟩ := List.getElem?_eq_some_iff.1 hy
  exact List.pairwise_iff_getElem.1 h i j hi hj hij

theorem far_row {w w4 : World} {base e n1 n2 c2 : Nat} {v : Value} {A4 : Option Addr} {xs : List Value} {P : List Sp.S} (h : w.ownsRow base e 2 v n1 xs) (o : w4.ownsRow w.heap.size 42 2 (.slice A4 P.length c2) n2 (flat encS P)) : Apart (.slice A4 P.length c2) v := by
  cases h4 : Value.ownBlock (.slice A4 P.length c2) with
  | none => exact .inl h4
  | some g =>
    refine .inr fun e => ?_
    have h1 := (o.lt g h4).1
    have h2 := (h.lt g (by rw [← e, h4])).2
    omega
theorem kept_row {w4 w5 : World} {b n c2 : Nat} {v : Value} {A4 : Option Addr} {P : List Sp.S} (hne : Apart (.slice A4 P.length c2) v) (o : w4.ownsRow b 42 2 (.slice A4 P.length c2) P.length (flat encS P)) (g : (w4.drewN n).grownBy w5 v.ownBlock) : Rs w5 A4 P :=
  Rs.own ((own_drewN o n).kept g hne)

set_option maxRecDepth 100000 in
set_option maxHeartbeats 8000000 in
theorem parts11 (l : List Sp.S) (A : Option Addr) (c : Nat) (wk : Int) (hw : 0 ≤ wk ∧ wk ≤ 255) (w : World) (h : Rs w A l) : Calls Try.prog 5 #[.slice A l.length c, .int .u8 wk] w (RetB w true) := by
  by_cases hl : l.length ≤ 30
  · have hl1 : ¬ (30 : Int) < (l.length : Int) := by omega
    obtain ⟨D, hD⟩ : ∃ D, daysL (Sp.norm l) = D := ⟨_, rfl⟩
    have hDl := days_len l
    have hD1 := (days_spec l).1
    have hD2 : ∀ d ∈ daysL (Sp.norm l), partS l d 86400 ≠ [] := fun d hd => partDay_ne l hd
    have hDm := days_make l
    have hDw := days_week l (wk % 53)
    have kD := fun (w : World) (A : Option Addr) (cap : Nat) (h : Rs w A l) => cDays h (by omega : l.length ≤ 900000) cap
    have hD3 : ∀ d ∈ daysL (Sp.norm l), 0 ≤ d ∧ d ≤ 370 := fun d hd => by
      obtain ⟨t, _, _, rfl⟩ := ((days_spec l).2 d).1 hd
      exact dayOf_bd t
    rw [hD] at hDl hD1 hD2 hD3 hDm hDw kD
    have mw : wk.tmod 53 = wk % 53 := Int.tmod_eq_emod_of_nonneg hw.1
    obtain ⟨v, hv, v0, v1⟩ : ∃ v, wk % 53 = v ∧ 0 ≤ v ∧ v < 53 := ⟨_, rfl, by omega, by omega⟩
    rw [hv] at mw hDw
    replace hD1 := Lib.hid hD1; replace hD2 := Lib.hid hD2; replace hD3 := Lib.hid hD3; replace hDm := Lib.hid hDm; replace hDw := Lib.hid hDw; replace kD := Lib.hid kD
    clear hD
    go_enter Try.func5, Try.ntmps5
    go_wp2_with fail
    refine (awake11 _).mono ?_
    rintro e w1 ⟨rfl, x1⟩
    have h1 := Lib.hid (h.ext x1); clear h
    go_wp2_with fail
    go_loopw [6] (fun i wr => ∃ k : Nat, k ≤ l.length ∧ i = .int .i64 k ∧ Hid (Ext w1 wr)) (fun i _ => l.length - (intOf i).toNat)
    case atStart => exact ⟨0, Nat.zero_le _, rfl, Ext.refl _⟩
    case round =>
      obtain ⟨k, hk, rfl, HX⟩ := hrel
      by_cases hlt : k < l.length
      · obtain ⟨b, off, p, q, rfl, hbB, hx, c0, c1⟩ := Rd.atS h1.out HX.out hlt
        have q3 : (k : Int) < (l.length : Int) := by omega
        have q4 : (0 : Int) ≤ (k : Int) := by omega
        clear hx
        by_cases g1 : p < 0
        · go_wp2_with fail
          go_quiet (fail)
          go_wp2
          go_ret
          exact ⟨rfl, (x1.trans HX.out).drewN _⟩
        · have f1 : decide (p < 0) = false := decide_eq_false g1
          by_cases g2 : 32054400 < q
          · go_wp2_with fail
            go_quiet (fail)
            go_wp2
            go_ret
            exact ⟨rfl, (x1.trans HX.out).drewN _⟩
          · have f2 : decide (32054400 < q) = false := decide_eq_false g2
            clear g1 g2
            go_wp2_with fail
            go_quiet (fail)
            clear f1 f2
            go_wp2
            · go_ret
              exact ⟨rfl, (x1.trans HX.out).drewN _⟩
            · go_roundw
              case rel => exact ⟨k + 1, by omega, by go_num, HX.out.drewN _⟩
              case measure => simp [intOf]; omega
      · obtain rfl : k = l.length := by omega
        have h2 := h1.out.ext HX.out
        have X2 := Lib.hid (x1.trans HX.out)
        clear h1 HX x1
        go_wp2_with fail
        refine (kD.out _ _ _ h2).mono ?_
        rintro e w3 ⟨AD, capD, rfl, rD, x3, _⟩
        have h3 := Lib.hid (h2.ext x3); clear h2
        have X3 := Lib.hid (X2.out.trans x3); clear X2 x3
        replace rD := Lib.hid rD
        go_wp2_with fail
        go_loopw [11, 8, 9] (fun i av sv wx => ∃ (k n1 n2 : Nat) (A1 A2 : Option Addr) (c1 c2 : Nat), k ≤ D.length ∧ i = .int .i64 k ∧ av = .slice A1 n1 c1 ∧ sv = .slice A2 n2 c2 ∧ Hid ((partsL l (D.take k)).length = n1) ∧ Hid ((partsL l ((D.take k).filter fun d => d / 7 == v)).length = n2) ∧ n1 ≤ k * 31 ∧ n2 ≤ k * 31 ∧ Hid (wx.ownsRow w3.heap.size 42 2 (.slice A1 n1 c1) n1 (flat encS (partsL l (D.take k)))) ∧ Hid (wx.ownsRow w3.heap.size 42 2 (.slice A2 n2 c2) n2 (flat encS (partsL l ((D.take k).filter fun d => d / 7 == v)))) ∧ Hid (Apart (.slice A2 n2 c2) (.slice A1 n1 c1)) ∧ Hid (Ext w3 wx)) (fun i _ _ _ => D.length - (intOf i).toNat)
        case atStart => exact ⟨0, 0, 0, none, none, 0, 0, Nat.zero_le _, rfl, rfl, rfl, rfl, rfl, by omega, by omega, own_nil _ _, own_nil _ _, .inl rfl, Ext.refl _⟩
        case round =>
          obtain ⟨k, n1, n2, A1, A2, c1, c2, hk, rfl, rfl, rfl, N1, N2, b1, b2, O1, O2, AP, HX⟩ := hrel
          by_cases hlt : k < D.length
          · obtain ⟨b, off, d, rfl, hbB, hx, c0⟩ := rD.out.atN HX.out hlt
            have q3 : (k : Int) < (D.length : Int) := by omega
            have q4 : (0 : Int) ≤ (k : Int) := by omega
            obtain ⟨d0, d1⟩ := hD3.out d (List.mem_of_getElem? hx.out)
            have dq : d.tdiv 7 = d / 7 := Int.tdiv_eq_ediv_of_nonneg d0
            obtain ⟨P, hP⟩ : ∃ P, partS l d 86400 = P := ⟨_, rfl⟩
            have hPl : P.length ≤ 31 := by have := partS_len l d 86400; rw [hP] at this; omega
            have hP0 : ((P.length : Int) == 0) = false := by
              have := hD2.out d (List.mem_of_getElem? hx.out)
              rw [hP] at this
              have := List.length_pos_iff.2 this
              simp; omega
            have kP := fun (w : World) (A : Option Addr) (cap : Nat) (h : Rs w A l) => pOfDay h (by omega : l.length ≤ 900000) cap d
            rw [hP] at kP
            have E1 : Hid (partsL l (D.take (k + 1)) = partsL l (D.take k) ++ P) := by show _ = _; rw [take_snoc hx.out, partsL_snoc, hP]
            have E2 : Hid ((D.take (k + 1)).filter (fun d => d / 7 == v) = (D.take k).filter (fun d => d / 7 == v) ++ if (d / 7 == v) = true then [d] else []) := by show _ = _; rw [take_snoc hx.out, filter_snoc]
            have E3 : Hid (partsL l [d] = P) := by show _ = _; rw [← hP]; simp [partsL]
            replace kP := Lib.hid kP
            clear hP
            go_wp2_with fail
            refine (kP.out _ _ _ (h3.out.ext HX.out)).mono ?_
            rintro e w4 ⟨A4, cap4, rfl, r4, x4, o4⟩
            have hB4 : b < w4.heap.size := Nat.lt_of_lt_of_le hbB (Nat.le_trans HX.out.size x4.size)
            have c4 : w4.cell? ⟨b, off + k, none⟩ = some (.int .i64 d) := (x4.cell (p := ⟨b, off + k, none⟩) (Nat.lt_of_lt_of_le hbB HX.out.size)).trans c0
            have ne4 : Hid (Apart (.slice A4 P.length cap4) (.slice A1 n1 c1)) := far_row O1.out o4
            replace o4 := Lib.hid o4
            have O3 := Lib.hid (own_below O1.out x4)
            have O4 := Lib.hid (own_below O2.out x4)
            have X4 := Lib.hid (HX.out.trans x4)
            replace r4 := Lib.hid r4
            clear c0 O1 O2
            have Q : Hid ((k = 0 ∧ True) ∨ ∃ j d', k = j + 1 ∧ w4.cell? ⟨b, off + j, none⟩ = some (.int .i64 d') ∧ d' < d) := by
              rcases Nat.eq_zero_or_pos k with h0 | h0
              · exact .inl ⟨h0, trivial⟩
              · obtain ⟨b', off', d', hA, _, hy, cy⟩ := rD.out.atN X4.out (show k - 1 < D.length by omega)
                cases hA
                exact .inr ⟨k - 1, d', by omega, cy, pair_at hD1.out (show k - 1 < k by omega) hy.out hx.out⟩
            clear HX x4
            rcases Q.out with ⟨rfl, _⟩ | ⟨j, d', rfl, cj, hlt2⟩
            · clear Q
              have f4 : decide ((0 : Int) < ((0 : Nat) : Int)) = false := by decide
              have f5 : decide ((0 : Int) < (0 : Int)) = false := by decide
              rw [Nat.add_zero] at c4
              by_cases hq : d / 7 = v
              · have f7 : (d / 7 == v) = true := by simp [hq]
                have E4 : Hid (partsL l ((D.take (0 + 1)).filter fun d => d / 7 == v) = partsL l ((D.take 0).filter fun d => d / 7 == v) ++ P) := by show _ = _; rw [E2.out, if_pos f7, show partsL l ((D.take 0).filter (fun d => d / 7 == v) ++ [d]) = partsL l ((D.take 0).filter (fun d => d / 7 == v)) ++ partsL l [d] from by simp [partsL], E3.out]
                have N4 : Hid ((partsL l ((D.take (0 + 1)).filter fun d => d / 7 == v)).length = n2 + P.length) := by show _ = _; rw [E4.out, List.length_append, N2.out]
                have N3 : Hid ((partsL l (D.take (0 + 1))).length = n1 + P.length) := by show _ = _; rw [E1.out, List.length_append, N1.out]
                clear hq
                go_wp2_with fail
                go_quiet (fail)
                go_wp2_with (at_builtin; first | (refine app_two_any w3 _ x5.out _ _ rfl rfl n2 (n1 + P.length) _ _ _ _ P rfl own2.out own1.out ap1.out.symm A4 cap4 P.length rfl r5.out rfl (by omega) ?_; intro A6 cap6 w6 own3 own4 ap2 x6 _; rw [← E4.out] at own3; replace own3 := Lib.hid own3; replace own4 := Lib.hid own4; replace ap2 := Lib.hid ap2.symm; replace x6 := Lib.hid x6) | (refine app_two_any w3 _ (X4.out.drewN _) _ _ rfl rfl n1 n2 _ _ _ _ P rfl (own_drewN O3.out _) (own_drewN O4.out _) AP.out A4 cap4 P.length rfl (r4.out.drewN _) rfl (by omega) ?_; intro A5 cap5 w5 own1 own2 ap1 x5 g5; have c5 := (x5.cell (p := ⟨b, off, none⟩) hbB).trans ((X4.out.cell (p := ⟨b, off, none⟩) hbB).symm.trans c4); rw [← E1.out] at own1; have r5 : Hid (Rs w5 A4 P) := kept_row ne4.out o4.out g5; replace own1 := Lib.hid own1; replace own2 := Lib.hid own2; replace ap1 := Lib.hid ap1; replace x5 := Lib.hid x5; clear c4 O3 O4 AP g5))
                go_roundw
                case rel => exact ⟨0 + 1, n1 + P.length, n2 + P.length, A5, A6, cap5, cap6, by omega, by go_num, rfl, rfl, N3, N4, by omega, by omega, own4, own3, ap2, x6⟩
                case measure => simp [intOf]; omega
              · have f7 : (d / 7 == v) = false := by simp [hq]
                have E4 : Hid ((D.take (0 + 1)).filter (fun d => d / 7 == v) = (D.take 0).filter (fun d => d / 7 == v)) := by show _ = _; rw [E2.out, if_neg (by rw [f7]; exact Bool.false_ne_true), List.append_nil]
                have N3 : Hid ((partsL l (D.take (0 + 1))).length = n1 + P.length) := by show _ = _; rw [E1.out, List.length_append, N1.out]
                clear hq
                go_wp2_with fail
                go_quiet (fail)
                go_wp2_with (at_builtin; (refine app_two_any w3 _ (X4.out.drewN _) _ _ rfl rfl n1 n2 _ _ _ _ P rfl (own_drewN O3.out _) (own_drewN O4.out _) AP.out A4 cap4 P.length rfl (r4.out.drewN _) rfl (by omega) ?_; intro A5 cap5 w5 own1 own2 ap1 x5 g5; have c5 := (x5.cell (p := ⟨b, off, none⟩) hbB).trans ((X4.out.cell (p := ⟨b, off, none⟩) hbB).symm.trans c4); rw [← E1.out] at own1; have r5 : Hid (Rs w5 A4 P) := kept_row ne4.out o4.out g5; replace own1 := Lib.hid own1; replace own2 := Lib.hid own2; replace ap1 := Lib.hid ap1; replace x5 := Lib.hid x5; clear c4 O3 O4 AP g5))
                rw [← E4.out] at own2 N2
                go_roundw
                case rel => exact ⟨0 + 1, n1 + P.length, n2, A5, A2, cap5, c2, by omega, by go_num, rfl, rfl, N3, N2, by omega, Nat.le_trans b2 (Nat.mul_le_mul_right 31 (Nat.le_succ 0)), own1, own2, ap1, x5⟩
                case measure => simp [intOf]; omega
            · clear Q
              have q1 : IntKind.i64.wrap (((j + 1 : Nat) : Int) - 1) = (j : Int) := by rw [IntWalk.i64_in _ (by omega)]; omega
              have q5 : (j : Int) < (D.length : Int) := by omega
              have q6 : (0 : Int) ≤ (j : Int) := by omega
              have q7 : (0 : Int) < (((j + 1 : Nat)) : Int) := by omega
              have f8 : decide (d ≤ d') = false := decide_eq_false (by omega)
              by_cases hq : d / 7 = v
              · have f7 : (d / 7 == v) = true := by simp [hq]
                have E4 : Hid (partsL l ((D.take ((j + 1) + 1)).filter fun d => d / 7 == v) = partsL l ((D.take (j + 1)).filter fun d => d / 7 == v) ++ P) := by show _ = _; rw [E2.out, if_pos f7, show partsL l ((D.take (j + 1)).filter (fun d => d / 7 == v) ++ [d]) = partsL l ((D.take (j + 1)).filter (fun d => d / 7 == v)) ++ partsL l [d] from by simp [partsL], E3.out]
                have N4 : Hid ((partsL l ((D.take ((j + 1) + 1)).filter fun d => d / 7 == v)).length = n2 + P.length) := by show _ = _; rw [E4.out, List.length_append, N2.out]
                have N3 : Hid ((partsL l (D.take ((j + 1) + 1))).length = n1 + P.length) := by show _ = _; rw [E1.out, List.length_append, N1.out]
                clear hq
                go_wp2_with fail
                go_quiet (fail)
                clear q1 f8
                go_wp2_with (at_builtin; first | (refine app_two_any w3 _ x5.out _ _ rfl rfl n2 (n1 + P.length) _ _ _ _ P rfl own2.out own1.out ap1.out.symm A4 cap4 P.length rfl r5.out rfl (by omega) ?_; intro A6 cap6 w6 own3 own4 ap2 x6 _; rw [← E4.out] at own3; replace own3 := Lib.hid own3; replace own4 := Lib.hid own4; replace ap2 := Lib.hid ap2.symm; replace x6 := Lib.hid x6) | (refine app_two_any w3 _ (X4.out.drewN _) _ _ rfl rfl n1 n2 _ _ _ _ P rfl (own_drewN O3.out _) (own_drewN O4.out _) AP.out A4 cap4 P.length rfl (r4.out.drewN _) rfl (by omega) ?_; intro A5 cap5 w5 own1 own2 ap1 x5 g5; have c5 := (x5.cell (p := ⟨b, off + (j + 1), none⟩) hbB).trans ((X4.out.cell (p := ⟨b, off + (j + 1), none⟩) hbB).symm.trans c4); rw [← E1.out] at own1; have r5 : Hid (Rs w5 A4 P) := kept_row ne4.out o4.out g5; replace own1 := Lib.hid own1; replace own2 := Lib.hid own2; replace ap1 := Lib.hid ap1; replace x5 := Lib.hid x5; clear c4 O3 O4 AP g5))
                go_roundw
                case rel => exact ⟨(j + 1) + 1, n1 + P.length, n2 + P.length, A5, A6, cap5, cap6, by omega, by go_num, rfl, rfl, N3, N4, by omega, by omega, own4, own3, ap2, x6⟩
                case measure => simp [intOf]; omega
              · have f7 : (d / 7 == v) = false := by simp [hq]
                have E4 : Hid ((D.take ((j + 1) + 1)).filter (fun d => d / 7 == v) = (D.take (j + 1)).filter (fun d => d / 7 == v)) := by show _ = _; rw [E2.out, if_neg (by rw [f7]; exact Bool.false_ne_true), List.append_nil]
                have N3 : Hid ((partsL l (D.take ((j + 1) + 1))).length = n1 + P.length) := by show _ = _; rw [E1.out, List.length_append, N1.out]
                clear hq
                go_wp2_with fail
                go_quiet (fail)
                clear q1 f8
                go_wp2_with (at_builtin; (refine app_two_any w3 _ (X4.out.drewN _) _ _ rfl rfl n1 n2 _ _ _ _ P rfl (own_drewN O3.out _) (own_drewN O4.out _) AP.out A4 cap4 P.length rfl (r4.out.drewN _) rfl (by omega) ?_; intro A5 cap5 w5 own1 own2 ap1 x5 g5; have c5 := (x5.cell (p := ⟨b, off + (j + 1), none⟩) hbB).trans ((X4.out.cell (p := ⟨b, off + (j + 1), none⟩) hbB).symm.trans c4); rw [← E1.out] at own1; have r5 : Hid (Rs w5 A4 P) := kept_row ne4.out o4.out g5; replace own1 := Lib.hid own1; replace own2 := Lib.hid own2; replace ap1 := Lib.hid ap1; replace x5 := Lib.hid x5; clear c4 O3 O4 AP g5))
                rw [← E4.out] at own2 N2
                go_roundw
                case rel => exact ⟨(j + 1) + 1, n1 + P.length, n2, A5, A2, cap5, c2, by omega, by go_num, rfl, rfl, N3, N2, by omega, Nat.le_trans b2 (Nat.mul_le_mul_right 31 (Nat.le_succ (j + 1))), own1, own2, ap1, x5⟩
                case measure => simp [intOf]; omega
          · obtain rfl : k = D.length := by omega
            rw [List.take_length] at N1 N2 O1 O2
            have R1 : Rs wr A1 (partsL l D) := Rd.of_own' encS_len O1.out N1.out.symm
            have R2 : Rs wr A2 (partsL l (D.filter fun d => d / 7 == v)) := Rd.of_own' encS_len O2.out N2.out.symm
            have L1 : (partsL l D).length ≤ 900000 := by have := N1.out; omega
            have L2 : (partsL l (D.filter fun d => d / 7 == v)).length ≤ 900000 := by have := N2.out; omega
            have L3 : (Sp.norm (partsL l D)).length ≤ 900000 := Nat.le_trans (Sp.norm_length _) L1
            have L4 : (Sp.norm (partsL l (D.filter fun d => d / 7 == v))).length ≤ 900000 := Nat.le_trans (Sp.norm_length _) L2
            have h4 := h3.out.ext HX.out
            have X4 := X3.out.trans HX.out
            clear O1 O2 AP HX h3 X3
            go_wp2_with fail
            refine (cNormN R1 L1 _ N1.out _).mono ?_
            rintro e w1 ⟨A1, cap1, rfl, r1, x1, _⟩
            have hl1 := h4.ext x1; clear h4
            have hp1 := R1.ext x1
            have hq1 := R2.ext x1
            have X1 := X4.trans x1
            go_wp2_with fail
            refine (cNorm hl1 (by omega) _).mono ?_
            rintro e w2 ⟨A2, cap2, rfl, r2, x2, _⟩
            have hl2 := hl1.ext x2; clear hl1
            have hp2 := hp1.ext x2; clear hp1
            have hq2 := hq1.ext x2; clear hq1
            have hu2 := r1.ext x2
            have X2 := X1.trans x2
            go_wp2_with fail
            refine (bEq (cSame hu2 r2 L3 _ _) (b' := true) (decide_eq_true hDm.out)).mono ?_
            rintro e w3 ⟨rfl, x3⟩
            have hl3 := hl2.ext x3; clear hl2
            have hp3 := hp2.ext x3; clear hp2
            have hq3 := hq2.ext x3; clear hq2
            have hu3 := hu2.ext x3; clear hu2
            have hv3 := r2.ext x3
            have X3 := X2.trans x3
            go_wp2_with fail
            refine (cNormN hq3 L2 _ N2.out _).mono ?_
            rintro e w4 ⟨A4, cap4, rfl, r4, x4, o4⟩
            have hl4 := hl3.ext x4; clear hl3
            have hq4 := hq3.ext x4; clear hq3
            have X4 := X3.trans x4
            go_wp2_with fail
            refine (pOfWeek hl4 (by omega) _ v).mono ?_
            rintro e w5 ⟨A5, cap5, rfl, r5, x5, _⟩
            have hl5 := hl4.ext x5; clear hl4
            have hq5 := hq4.ext x5; clear hq4
            have hu5 := r4.ext x5
            have X5 := X4.trans x5
            go_wp2_with fail
            refine (bEq (cSame hu5 r5 L4 _ _) (b' := true) (decide_eq_true hDw.out)).mono ?_
            rintro e w6 ⟨rfl, x6⟩
            have hl6 := hl5.ext x6; clear hl5
            have hq6 := hq5.ext x6; clear hq5
            have hu6 := hu5.ext x6; clear hu5
            have hv6 := r5.ext x6
            have X6 := X5.trans x6
            go_wp2
            go_ret
            exact ⟨rfl, X6⟩
  · have hl1 : (30 : Int) < (l.length : Int) := by omega
    go_enter Try.func5, Try.ntmps5
    go_wp2_with fail
    refine (awake11 _).mono ?_
    rintro e w1 ⟨rfl, x1⟩
    go_wp2
    go_ret
    exact ⟨rfl, x1⟩
end Go.Proofs.Ytnhmibfgaoealaa
