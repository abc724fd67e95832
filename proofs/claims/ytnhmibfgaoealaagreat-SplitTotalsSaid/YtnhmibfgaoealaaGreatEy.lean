/-
  lumperref14.Is.
  lumperref14.Of.
-/
import Derived.Test.YtnhmibfgaoealaaGreatEz
import Derived.Test.YtnhmibfgaoealaaGreatApp
namespace Go.Proofs.YtnhmibfgaoealaaGreat
open Go.RowKit
set_option linter.unusedVariables false
set_option linter.unusedSimpArgs false

def isDoc (F T t : Int) : Bool := if T < F then (decide (F ≤ t % 86400) || decide (t % 86400 < T)) else (decide (F ≤ t % 86400) && decide (t % 86400 < T))
theorem isDoc_eq {F T : Int} (h : okNT F T) (t : Int) : isDoc F T t = isNight F T (t % 86400) := by
  unfold isDoc
  rw [Bool.eq_iff_iff, isNight_iff h (by omega) (by omega)]
  split
  · simp only [Bool.or_eq_true, decide_eq_true_eq]; omega
  · simp only [Bool.and_eq_true, decide_eq_true_eq]
set_option maxRecDepth 100000 in
set_option maxHeartbeats 2000000 in
theorem rIsA (cs : List Value) (hcs : cs.length = 23) (F T t : Int) (c16 : cs[16]? = some (.int .i64 F)) (c17 : cs[17]? = some (.int .i64 T)) (b : Bool) (w : World) (kC : ∀ W, Ext w W → Calls Tryz.prog 40 #[.agg cs.toArray] W (RetB W b)) :
    Calls Tryz.prog 90 #[.agg cs.toArray, .int .i64 t] w (RetB w (b && Sp.okT t && isDoc F T t)) := by
  have hi := Lib.hid (su_size hcs)
  have hs0 := Bx.new w cs 30
  have X0 := (Ext.refl w).alloc (.cells cs.toArray 30)
  replace kC := Lib.hid kC
  clear hcs
  go_enter Tryz.func90, Tryz.ntmps90
  go_wp2_with (first | (refine load_box rfl 30 _ rfl _ rfl _ _ hs0 _ Tryz.underlying30 rfl hi.out ?_))
  refine (kC.out _ X0).mono ?_
  rintro e w1 ⟨rfl, x1⟩
  have hs1 := hs0.ext x1
  have X1 := X0.trans x1
  have z16 := hs1.cell 16 _ c16
  have z17 := hs1.cell 17 _ c17
  clear hs0 X0 x1 hs1 hi kC
  cases b
  · go_wp2
    go_ret
    exact ⟨rfl, X1⟩
  · by_cases h1 : t < 0
    · have f1 : decide (t < 0) = true := decide_eq_true h1
      have hk : Hid (Sp.okT t = false) := by exact Bool.eq_false_iff.2 fun h => by have := Sp.okT_iff.1 h; omega
      clear h1
      go_wp2
      go_ret
      exact ⟨by rw [hk.out]; rfl, X1⟩
    · have f1 : decide (t < 0) = false := decide_eq_false h1
      by_cases h2 : 32054400 ≤ t
      · have f2 : decide (32054400 ≤ t) = true := decide_eq_true h2
        have hk : Hid (Sp.okT t = false) := by exact Bool.eq_false_iff.2 fun h => by have := Sp.okT_iff.1 h; simp only [Sp.MT] at this; omega
        clear h1 h2
        go_wp2
        go_ret
        exact ⟨by rw [hk.out]; rfl, X1⟩
      · have f2 : decide (32054400 ≤ t) = false := decide_eq_false h2
        have hk : Hid (Sp.okT t = true) := Sp.okT_iff.2 (by simp only [Sp.MT]; omega)
        have ht : t.tmod 86400 = t % 86400 := Int.tmod_eq_emod_of_nonneg (by omega)
        have hD : Hid (isDoc F T t = if T < F then (decide (F ≤ t % 86400) || decide (t % 86400 < T)) else (decide (F ≤ t % 86400) && decide (t % 86400 < T))) := rfl
        obtain ⟨n, hn⟩ : ∃ n, t % 86400 = n := ⟨_, rfl⟩
        rw [hn] at ht hD
        clear hn h1 h2
        by_cases g : T < F
        · have f3 : decide (T < F) = true := decide_eq_true g
          rw [if_pos g] at hD
          clear g
          by_cases g1 : F ≤ n
          · have f4 : decide (F ≤ n) = true := decide_eq_true g1
            rw [f4, Bool.true_or] at hD
            clear g1
            go_wp2
            go_ret
            exact ⟨by rw [hk.out, hD.out]; rfl, X1⟩
          · have f4 : decide (F ≤ n) = false := decide_eq_false g1
            rw [f4, Bool.false_or] at hD
            clear g1
            go_wp2
            go_ret
            exact ⟨by rw [hk.out, hD.out]; rfl, X1⟩
        · have f3 : decide (T < F) = false := decide_eq_false g
          rw [if_neg g] at hD
          clear g
          by_cases g1 : F ≤ n
          · have f4 : decide (F ≤ n) = true := decide_eq_true g1
            rw [f4, Bool.true_and] at hD
            clear g1
            go_wp2
            go_ret
            exact ⟨by rw [hk.out, hD.out]; rfl, X1⟩
          · have f4 : decide (F ≤ n) = false := decide_eq_false g1
            rw [f4, Bool.false_and] at hD
            clear g1
            go_wp2
            go_ret
            exact ⟨by rw [hk.out, hD.out]; rfl, X1⟩
theorem pRIs {s : Su} {g : Sh} (ok : SuOk s) {w : World} (r : SuR w s g) (t : Int) : Calls Tryz.prog 90 #[.agg (s.cells g).toArray, .int .i64 t] w (RetB w (nightIsS s t)) := by
  have k := rIsA (s.cells g) rfl s.nfrom s.nto t rfl rfl (chk s) w (fun W X => pRChk ok (r.ext X))
  refine bEq k ?_
  unfold nightIsS nightIs
  cases hc : chk s
  · rfl
  · rw [isDoc_eq (chk_nt hc)]; simp

end Go.Proofs.YtnhmibfgaoealaaGreat
namespace Go.Proofs.YtnhmibfgaoealaaGreat
open Go.RowKit
set_option linter.unusedVariables false
set_option linter.unusedSimpArgs false

theorem plain_next : ∀ {l : List Sp.S} {lo : Int} {k : Nat} {x : Sp.S}, Sp.PlainFrom lo l → l[k]? = some x → 0 ≤ lo → (∀ y ∈ l.take k, y.2 < x.1) ∧ lo ≤ x.1 ∧ x.1 < x.2 ∧ x.2 ≤ 32054400
  | [], _, k, x, _, h, _ => by simp at h
  | s :: r, lo, k, x, hp, h, h0 => by
    have hb := hp.bd
    have hx : x ∈ s :: r := List.mem_of_getElem? h
    obtain ⟨h1, h2, h3⟩ := hb x hx
    simp only [Sp.MT] at h3
    refine ⟨?_, h1, h2, h3⟩
    match k with
    | 0 => intro y hy; simp at hy
    | k + 1 =>
      have hr : r[k]? = some x := by simpa using h
      have hpr := hp.2.2.2
      have hs2 : 0 ≤ s.2 := by have := hp.1; have := hp.2.1; omega
      obtain ⟨i1, i2, _, _⟩ := plain_next hpr hr (by omega)
      intro y hy
      rw [List.take_succ_cons] at hy
      rcases List.mem_cons.1 hy with rfl | hy
      · have := i2; omega
      · exact i1 y hy
theorem hasB_snoc (o : List Sp.S) (a b x : Int) : Sp.hasB (o ++ [(a, b)]) x = (Sp.hasB o x || (decide (a ≤ x) && decide (x < b))) := by rw [Sp.hasB_append, inB_one]

set_option maxRecDepth 100000 in
set_option maxHeartbeats 8000000 in
theorem rNightA (cs : List Value) (hcs : cs.length = 23) (F T : Int) (c16 : cs[16]? = some (.int .i64 F)) (c17 : cs[17]? = some (.int .i64 T)) (l N : List Sp.S) (hN : Sp.norm l = N) (hl : l.length ≤ 900000) (A : Option Addr) (c : Nat) (isB : Int → Bool) (w : World) (h : Rs w A l)
    (hst : ∀ t x : Int, 0 ≤ t → t < 32054400 → t ≤ x → x < t - t % 86400 + 86400 → (t < IntKind.i64.wrap (t - t % 86400 + F) → x < IntKind.i64.wrap (t - t % 86400 + F)) → (t < IntKind.i64.wrap (t - t % 86400 + T) → x < IntKind.i64.wrap (t - t % 86400 + T)) → isB x = isB t)
    (kI : ∀ W, Ext w W → ∀ t, Calls Tryz.prog 90 #[.agg cs.toArray, .int .i64 t] W (RetB W (isB t))) :
    Calls Tryz.prog 52 #[.agg cs.toArray, .slice A l.length c] w fun e w' => ∃ o A' c', (∀ x, Sp.hasB o x = (Sp.hasB N x && isB x)) ∧ e = .returned (.slice A' (Sp.norm o).length c') ∧ Rs w' A' (Sp.norm o) ∧ Ext w w' := by
  have kN := fun W (X : Ext w W) => rNorm (h.ext X) hl c
  rw [hN] at kN
  have hP : Sp.Plain N := by rw [← hN]; exact Sp.norm_plain l
  have hNl : N.length ≤ 900000 := by rw [← hN]; exact Nat.le_trans (Sp.norm_length l) hl
  have hi := Lib.hid (su_size hcs)
  have hs0 := Bx.new w cs 30
  have X0 := (Ext.refl w).alloc (.cells cs.toArray 30)
  replace hP := Lib.hid hP; replace kN := Lib.hid kN; replace kI := Lib.hid kI; replace hst := Lib.hid hst
  clear hcs h hl hN
  go_enter Tryz.func52, Tryz.ntmps52
  go_wp2_with fail
  refine (kN.out _ X0).mono ?_
  rintro e w1 ⟨A1, cap1, rfl, r1, x1, _⟩
  have hs1 := Lib.hid (hs0.ext x1)
  have X1 := Lib.hid (X0.trans x1)
  replace r1 := Lib.hid r1
  clear hs0 X0 x1 kN
  go_wp2_with fail
  go_loopw [6, 7] (fun ov i wr => ∃ (k : Nat) (o : List Sp.S) (n : Nat) (A2 : Option Addr) (c2 : Nat), k ≤ N.length ∧ i = .int .i64 k ∧ ov = .slice A2 n c2 ∧ Hid (n = o.length) ∧ Hid (∀ x, Sp.hasB o x = (Sp.hasB (N.take k) x && isB x)) ∧ Hid (∃ e : Int, 0 ≤ e ∧ e ≤ 32054400 ∧ (n : Int) ≤ e ∧ ∀ y, N[k]? = some y → e ≤ y.1) ∧ Hid (wr.ownsRow w1.heap.size 49 2 (.slice A2 n c2) n (flat encS o)) ∧ Hid (Ext w1 wr)) (fun _ i _ => N.length - (intOf i).toNat)
  case atStart => exact ⟨0, [], 0, none, 0, Nat.zero_le _, rfl, rfl, rfl, (show ∀ x, _ from fun x => rfl), (show ∃ e : Int, _ from ⟨0, by omega, by omega, by simp, fun y hy => (hP.out.bd y (List.mem_of_getElem? hy)).1⟩), own_nil _ _, Ext.refl _⟩
  case round =>
    obtain ⟨k, o, n, A2, c2, hk, rfl, rfl, hn, HB, HE, HO, HX⟩ := hrel
    by_cases hlt : k < N.length
    · obtain ⟨b, off, p, q, rfl, hbB, hx, d0, d1⟩ := Rd.at2 r1.out HX.out hlt
      have q3 : (k : Int) < (N.length : Int) := by omega
      have q4 : (0 : Int) ≤ (k : Int) := by omega
      obtain ⟨hy, p0, pq, q1⟩ := plain_next hP.out hx.out (by omega)
      have hE : (n : Int) ≤ p := by
        obtain ⟨e, e0, e1, e2, e3⟩ := HE.out
        have := e3 _ hx.out
        have : e ≤ p := this
        omega
      have hy2 := Lib.hid hy
      have HXo := Lib.hid HX.out
      obtain ⟨w9, hw9⟩ : ∃ x, x = wr := ⟨_, rfl⟩
      have hnx : Hid (∀ y, N[k + 1]? = some y → q ≤ y.1) := fun y hy3 => by
        have hy4 := (plain_next hP.out hy3 (by omega)).1 (p, q) (by rw [take_snoc hx.out]; simp)
        have : q < y.1 := hy4
        omega
      have HB0 : Hid (∀ x, Sp.hasB o x = ((Sp.hasB (N.take k) x || (decide (p ≤ x) && decide (x < p))) && isB x)) := fun x => by
        rw [HB.out x, show (decide (p ≤ x) && decide (x < p)) = false by by_cases hz : p ≤ x <;> simp [hz] <;> omega, Bool.or_false]
      clear HE hy HB
      go_wp2_with fail
      go_loopw [6, 8] (fun ov tv wx => ∃ (t : Int) (o : List Sp.S) (n : Nat) (A2 : Option Addr) (c2 : Nat), p ≤ t ∧ t ≤ q ∧ tv = .int .i64 t ∧ ov = .slice A2 n c2 ∧ Hid (n = o.length) ∧ Hid (∀ x, Sp.hasB o x = ((Sp.hasB (N.take k) x || (decide (p ≤ x) && decide (x < t))) && isB x)) ∧ (n : Int) ≤ t ∧ Hid (wx.ownsRow w1.heap.size 49 2 (.slice A2 n c2) n (flat encS o)) ∧ Hid (Ext w1 wx)) (fun _ tv _ => (q - intOf tv).toNat)
      case atStart => exact ⟨p, o, n, A2, c2, by omega, by omega, rfl, rfl, hn, HB0, hE, HO, HX⟩
      case round =>
        obtain ⟨t, o, n, A2, c2, ht1, ht2, rfl, rfl, hn, HB, hE, HO, HX⟩ := hrel
        obtain ⟨b', off', p', q', hA', _, hx', d0, d1⟩ := Rd.at2 r1.out HX.out hlt
        cases hA'
        have hpq : (p', q') = (p, q) := Option.some.inj (hx'.out.symm.trans hx.out)
        cases hpq
        have hs2 := hs1.out.ext HX.out
        have z16 := hs2.cell 16 _ c16
        have z17 := hs2.cell 17 _ c17
        by_cases hlt2 : t < q
        · have f1 : decide (t < q) = true := decide_eq_true hlt2
          obtain ⟨D, hD⟩ : ∃ D, t - t % 86400 = D := ⟨_, rfl⟩
          have m1 : t.tmod 86400 = t % 86400 := Int.tmod_eq_emod_of_nonneg (by omega)
          have m2 : IntKind.i64.wrap (t - t % 86400) = D := by rw [IntWalk.i64_in _ (by omega)]; exact hD
          have m3 : IntKind.i64.wrap (D + 86400) = D + 86400 := IntWalk.i64_in _ (by omega)
          have hst2 : Hid (∀ x : Int, t ≤ x → x < D + 86400 → (t < IntKind.i64.wrap (D + F) → x < IntKind.i64.wrap (D + F)) → (t < IntKind.i64.wrap (D + T) → x < IntKind.i64.wrap (D + T)) → isB x = isB t) := fun x => by
            have := hst.out t x (by omega) (by omega)
            rw [hD] at this
            exact this
          have hDb : t < D + 86400 := by omega
          have kI2 := fun W (X : Ext w W) => kI.out W X t
          obtain ⟨v, hv⟩ : ∃ v, isB t = v := ⟨_, rfl⟩
          rw [hv] at kI2
          replace kI2 := Lib.hid kI2; replace hv := Lib.hid hv
          obtain ⟨GF, hGF⟩ : ∃ g, IntKind.i64.wrap (D + F) = g := ⟨_, rfl⟩
          obtain ⟨GT, hGT⟩ : ∃ g, IntKind.i64.wrap (D + T) = g := ⟨_, rfl⟩
          rw [hGF, hGT] at hst2
          obtain ⟨mm, hmm⟩ : ∃ m, t % 86400 = m := ⟨_, rfl⟩
          rw [hmm] at m1 m2
          have hs2' := Lib.hid hs2
          clear hD hmm hs2 hst kI hx'
          by_cases gF : t < GF
          · have f2 : decide (t < GF) = true := decide_eq_true gF
            by_cases gT : t < GT
            · have f3 : decide (t < GT) = true := decide_eq_true gT
              have E1 : t < min (min (min (D + 86400) q) GF) GT := by omega
              have E2 : min (min (min (D + 86400) q) GF) GT ≤ q := by omega
              have hB2 : Hid (∀ x, t ≤ x → x < min (min (min (D + 86400) q) GF) GT → isB x = v) := fun x x0 x1 => by rw [← hv.out]; exact hst2.out x x0 (by omega) (fun _ => by omega) (fun _ => by omega)
              obtain ⟨E, hE3⟩ : ∃ E, min (min (min (D + 86400) q) GF) GT = E := ⟨_, rfl⟩
              have hE4 : min (D + 86400) (min q (min GF GT)) = E := by omega
              rw [hE3] at E1 E2 hB2
              clear hst2 gF gT
              go_wp2_with (first | (refine load_box rfl 30 _ rfl _ rfl _ _ hs2'.out _ Tryz.underlying30 rfl hi.out ?_))
              refine (kI2.out _ (X1.out.trans HX.out)).mono ?_
              rintro e w2 ⟨rfl, x2⟩
              have HX2 := Lib.hid (HX.out.trans x2); have HO2 := Lib.hid (own_below HO.out x2)
              clear x2 HO HX hs2' z16 z17 d0 d1 r1
              cases v
              · have HB3 : Hid (∀ x, Sp.hasB o x = ((Sp.hasB (N.take k) x || (decide (p ≤ x) && decide (x < E))) && isB x)) := fun x => by
                  rw [HB.out x]
                  by_cases hx1 : t ≤ x ∧ x < E
                  · rw [hB2.out x hx1.1 hx1.2]; simp
                  · rw [show decide (x < E) = decide (x < t) from decide_eq_decide.2 (by omega)]
                clear HB hB2
                go_wp2
                go_roundw
                case rel => exact ⟨E, o, n, A2, c2, by omega, by omega, rfl, rfl, hn, HB3, by omega, HO2, HX2⟩
                case measure => simp [intOf]; omega
              · have HB3 : Hid (∀ x, Sp.hasB (o ++ [(t, E)]) x = ((Sp.hasB (N.take k) x || (decide (p ≤ x) && decide (x < E))) && isB x)) := fun x => by
                  rw [hasB_snoc, HB.out x]
                  by_cases hx1 : t ≤ x ∧ x < E
                  · rw [hB2.out x hx1.1 hx1.2, decide_eq_true hx1.1, decide_eq_true hx1.2, decide_eq_true (show p ≤ x by omega)]; simp
                  · rw [show decide (x < E) = decide (x < t) from decide_eq_decide.2 (by omega), show (decide (t ≤ x) && decide (x < t)) = false by by_cases hz : t ≤ x <;> simp [hz] <;> omega, Bool.or_false]
                clear HB hB2
                go_wp2_with (at_builtin; refine app_row w1 _ (HX2.out.alloc _) _ _ rfl rfl n _ o [(t, E)] rfl (HO2.out.alloc _) hn.out _ _ rfl (Rs.new_g _ [(t, E)] _ _ rfl) (by have := hn.out; simp; omega) ?_; intro A3 c3 w3 o3 x3; have hn3 : Hid (n + 1 = (o ++ [(t, E)]).length) := (by show _ = _; rw [List.length_append, hn.out]; rfl); rw [← hn3.out] at o3; replace o3 := Lib.hid o3; replace x3 := Lib.hid x3)
                go_roundw
                case rel => exact ⟨E, o ++ [(t, E)], n + 1, A3, c3, by omega, by omega, rfl, by first | rfl | (rw [hn.out]), hn3, HB3, by omega, o3, x3⟩
                case measure => simp [intOf]; omega
            · have f3 : decide (t < GT) = false := decide_eq_false gT
              have E1 : t < min (min (D + 86400) q) GF := by omega
              have E2 : min (min (D + 86400) q) GF ≤ q := by omega
              have hB2 : Hid (∀ x, t ≤ x → x < min (min (D + 86400) q) GF → isB x = v) := fun x x0 x1 => by rw [← hv.out]; exact hst2.out x x0 (by omega) (fun _ => by omega) (fun _ => by omega)
              obtain ⟨E, hE3⟩ : ∃ E, min (min (D + 86400) q) GF = E := ⟨_, rfl⟩
              have hE4 : min (D + 86400) (min q GF) = E := by omega
              rw [hE3] at E1 E2 hB2
              clear hst2 gF gT
              go_wp2_with (first | (refine load_box rfl 30 _ rfl _ rfl _ _ hs2'.out _ Tryz.underlying30 rfl hi.out ?_))
              refine (kI2.out _ (X1.out.trans HX.out)).mono ?_
              rintro e w2 ⟨rfl, x2⟩
              have HX2 := Lib.hid (HX.out.trans x2); have HO2 := Lib.hid (own_below HO.out x2)
              clear x2 HO HX hs2' z16 z17 d0 d1 r1
              cases v
              · have HB3 : Hid (∀ x, Sp.hasB o x = ((Sp.hasB (N.take k) x || (decide (p ≤ x) && decide (x < E))) && isB x)) := fun x => by
                  rw [HB.out x]
                  by_cases hx1 : t ≤ x ∧ x < E
                  · rw [hB2.out x hx1.1 hx1.2]; simp
                  · rw [show decide (x < E) = decide (x < t) from decide_eq_decide.2 (by omega)]
                clear HB hB2
                go_wp2
                go_roundw
                case rel => exact ⟨E, o, n, A2, c2, by omega, by omega, rfl, rfl, hn, HB3, by omega, HO2, HX2⟩
                case measure => simp [intOf]; omega
              · have HB3 : Hid (∀ x, Sp.hasB (o ++ [(t, E)]) x = ((Sp.hasB (N.take k) x || (decide (p ≤ x) && decide (x < E))) && isB x)) := fun x => by
                  rw [hasB_snoc, HB.out x]
                  by_cases hx1 : t ≤ x ∧ x < E
                  · rw [hB2.out x hx1.1 hx1.2, decide_eq_true hx1.1, decide_eq_true hx1.2, decide_eq_true (show p ≤ x by omega)]; simp
                  · rw [show decide (x < E) = decide (x < t) from decide_eq_decide.2 (by omega), show (decide (t ≤ x) && decide (x < t)) = false by by_cases hz : t ≤ x <;> simp [hz] <;> omega, Bool.or_false]
                clear HB hB2
                go_wp2_with (at_builtin; refine app_row w1 _ (HX2.out.alloc _) _ _ rfl rfl n _ o [(t, E)] rfl (HO2.out.alloc _) hn.out _ _ rfl (Rs.new_g _ [(t, E)] _ _ rfl) (by have := hn.out; simp; omega) ?_; intro A3 c3 w3 o3 x3; have hn3 : Hid (n + 1 = (o ++ [(t, E)]).length) := (by show _ = _; rw [List.length_append, hn.out]; rfl); rw [← hn3.out] at o3; replace o3 := Lib.hid o3; replace x3 := Lib.hid x3)
                go_roundw
                case rel => exact ⟨E, o ++ [(t, E)], n + 1, A3, c3, by omega, by omega, rfl, by first | rfl | (rw [hn.out]), hn3, HB3, by omega, o3, x3⟩
                case measure => simp [intOf]; omega
          · have f2 : decide (t < GF) = false := decide_eq_false gF
            by_cases gT : t < GT
            · have f3 : decide (t < GT) = true := decide_eq_true gT
              have E1 : t < min (min (D + 86400) q) GT := by omega
              have E2 : min (min (D + 86400) q) GT ≤ q := by omega
              have hB2 : Hid (∀ x, t ≤ x → x < min (min (D + 86400) q) GT → isB x = v) := fun x x0 x1 => by rw [← hv.out]; exact hst2.out x x0 (by omega) (fun _ => by omega) (fun _ => by omega)
              obtain ⟨E, hE3⟩ : ∃ E, min (min (D + 86400) q) GT = E := ⟨_, rfl⟩
              have hE4 : min (D + 86400) (min q GT) = E := by omega
              rw [hE3] at E1 E2 hB2
              clear hst2 gF gT
              go_wp2_with (first | (refine load_box rfl 30 _ rfl _ rfl _ _ hs2'.out _ Tryz.underlying30 rfl hi.out ?_))
              refine (kI2.out _ (X1.out.trans HX.out)).mono ?_
              rintro e w2 ⟨rfl, x2⟩
              have HX2 := Lib.hid (HX.out.trans x2); have HO2 := Lib.hid (own_below HO.out x2)
              clear x2 HO HX hs2' z16 z17 d0 d1 r1
              cases v
              · have HB3 : Hid (∀ x, Sp.hasB o x = ((Sp.hasB (N.take k) x || (decide (p ≤ x) && decide (x < E))) && isB x)) := fun x => by
                  rw [HB.out x]
                  by_cases hx1 : t ≤ x ∧ x < E
                  · rw [hB2.out x hx1.1 hx1.2]; simp
                  · rw [show decide (x < E) = decide (x < t) from decide_eq_decide.2 (by omega)]
                clear HB hB2
                go_wp2
                go_roundw
                case rel => exact ⟨E, o, n, A2, c2, by omega, by omega, rfl, rfl, hn, HB3, by omega, HO2, HX2⟩
                case measure => simp [intOf]; omega
              · have HB3 : Hid (∀ x, Sp.hasB (o ++ [(t, E)]) x = ((Sp.hasB (N.take k) x || (decide (p ≤ x) && decide (x < E))) && isB x)) := fun x => by
                  rw [hasB_snoc, HB.out x]
                  by_cases hx1 : t ≤ x ∧ x < E
                  · rw [hB2.out x hx1.1 hx1.2, decide_eq_true hx1.1, decide_eq_true hx1.2, decide_eq_true (show p ≤ x by omega)]; simp
                  · rw [show decide (x < E) = decide (x < t) from decide_eq_decide.2 (by omega), show (decide (t ≤ x) && decide (x < t)) = false by by_cases hz : t ≤ x <;> simp [hz] <;> omega, Bool.or_false]
                clear HB hB2
                go_wp2_with (at_builtin; refine app_row w1 _ (HX2.out.alloc _) _ _ rfl rfl n _ o [(t, E)] rfl (HO2.out.alloc _) hn.out _ _ rfl (Rs.new_g _ [(t, E)] _ _ rfl) (by have := hn.out; simp; omega) ?_; intro A3 c3 w3 o3 x3; have hn3 : Hid (n + 1 = (o ++ [(t, E)]).length) := (by show _ = _; rw [List.length_append, hn.out]; rfl); rw [← hn3.out] at o3; replace o3 := Lib.hid o3; replace x3 := Lib.hid x3)
                go_roundw
                case rel => exact ⟨E, o ++ [(t, E)], n + 1, A3, c3, by omega, by omega, rfl, by first | rfl | (rw [hn.out]), hn3, HB3, by omega, o3, x3⟩
                case measure => simp [intOf]; omega
            · have f3 : decide (t < GT) = false := decide_eq_false gT
              have E1 : t < min (D + 86400) q := by omega
              have E2 : min (D + 86400) q ≤ q := by omega
              have hB2 : Hid (∀ x, t ≤ x → x < min (D + 86400) q → isB x = v) := fun x x0 x1 => by rw [← hv.out]; exact hst2.out x x0 (by omega) (fun _ => by omega) (fun _ => by omega)
              obtain ⟨E, hE3⟩ : ∃ E, min (D + 86400) q = E := ⟨_, rfl⟩
              rw [hE3] at E1 E2 hB2
              clear hst2 gF gT
              go_wp2_with (first | (refine load_box rfl 30 _ rfl _ rfl _ _ hs2'.out _ Tryz.underlying30 rfl hi.out ?_))
              refine (kI2.out _ (X1.out.trans HX.out)).mono ?_
              rintro e w2 ⟨rfl, x2⟩
              have HX2 := Lib.hid (HX.out.trans x2); have HO2 := Lib.hid (own_below HO.out x2)
              clear x2 HO HX hs2' z16 z17 d0 d1 r1
              cases v
              · have HB3 : Hid (∀ x, Sp.hasB o x = ((Sp.hasB (N.take k) x || (decide (p ≤ x) && decide (x < E))) && isB x)) := fun x => by
                  rw [HB.out x]
                  by_cases hx1 : t ≤ x ∧ x < E
                  · rw [hB2.out x hx1.1 hx1.2]; simp
                  · rw [show decide (x < E) = decide (x < t) from decide_eq_decide.2 (by omega)]
                clear HB hB2
                go_wp2
                go_roundw
                case rel => exact ⟨E, o, n, A2, c2, by omega, by omega, rfl, rfl, hn, HB3, by omega, HO2, HX2⟩
                case measure => simp [intOf]; omega
              · have HB3 : Hid (∀ x, Sp.hasB (o ++ [(t, E)]) x = ((Sp.hasB (N.take k) x || (decide (p ≤ x) && decide (x < E))) && isB x)) := fun x => by
                  rw [hasB_snoc, HB.out x]
                  by_cases hx1 : t ≤ x ∧ x < E
                  · rw [hB2.out x hx1.1 hx1.2, decide_eq_true hx1.1, decide_eq_true hx1.2, decide_eq_true (show p ≤ x by omega)]; simp
                  · rw [show decide (x < E) = decide (x < t) from decide_eq_decide.2 (by omega), show (decide (t ≤ x) && decide (x < t)) = false by by_cases hz : t ≤ x <;> simp [hz] <;> omega, Bool.or_false]
                clear HB hB2
                go_wp2_with (at_builtin; refine app_row w1 _ (HX2.out.alloc _) _ _ rfl rfl n _ o [(t, E)] rfl (HO2.out.alloc _) hn.out _ _ rfl (Rs.new_g _ [(t, E)] _ _ rfl) (by have := hn.out; simp; omega) ?_; intro A3 c3 w3 o3 x3; have hn3 : Hid (n + 1 = (o ++ [(t, E)]).length) := (by show _ = _; rw [List.length_append, hn.out]; rfl); rw [← hn3.out] at o3; replace o3 := Lib.hid o3; replace x3 := Lib.hid x3)
                go_roundw
                case rel => exact ⟨E, o ++ [(t, E)], n + 1, A3, c3, by omega, by omega, rfl, by first | rfl | (rw [hn.out]), hn3, HB3, by omega, o3, x3⟩
                case measure => simp [intOf]; omega
        · obtain rfl : t = q := by omega
          have f1 : decide (t < t) = false := by simp
          have HB2 : Hid (∀ x, Sp.hasB o x = (Sp.hasB (N.take (k + 1)) x && isB x)) := fun x => by
            rw [HB.out x, take_snoc hx.out, hasB_snoc]
          go_wp2
          go_roundw
          case rel => exact ⟨k + 1, o, n, A2, c2, by omega, by go_num, rfl, hn, HB2, (show ∃ e : Int, _ from ⟨t, by omega, by omega, hE, hnx.out⟩), HO, HX⟩
          case measure => simp [intOf]; omega
    · obtain rfl : k = N.length := by omega
      have HB2 := HB.out
      rw [List.take_length] at HB2
      have hr : Rs wr A2 o := Rd.of_own' encS_len HO.out hn.out
      have ho : o.length ≤ 32054400 := by obtain ⟨e, e0, e1, e2, _⟩ := HE.out; have := hn.out; omega
      have hn2 := hn.out
      subst hn2
      have XF := X1.out.trans HX.out
      replace HB2 := Lib.hid HB2; replace hr := Lib.hid hr
      clear HB HE HO HX hs1
      go_wp2_with fail
      refine (rnorm_any o A2 c2 _ hr.out (by omega)).mono ?_
      rintro e w2 ⟨A3, c3, rfl, o3, x3⟩
      replace o3 := Lib.hid o3
      go_wp2
      go_ret
      exact ⟨o, A3, c3, HB2.out, rfl, Rs.own o3.out, XF.trans x3⟩

theorem pRNight {s : Su} {g : Sh} (ok : SuOk s) {w : World} (r : SuR w s g) {A : Option Addr} {l : List Sp.S} (h : Rs w A l) (hl : l.length ≤ 900000) (c : Nat) :
    Calls Tryz.prog 52 #[.agg (s.cells g).toArray, .slice A l.length c] w fun e w' => ∃ A' c', e = .returned (.slice A' (nightS s l).length c') ∧ Rs w' A' (nightS s l) ∧ Ext w w' := by
  have k := rNightA (s.cells g) rfl s.nfrom s.nto rfl rfl l _ rfl hl A c (nightIsS s) w h (fun t x t0 t1 h1 h2 h3 h4 => by
    unfold nightIsS nightIs
    cases hc : chk s
    · rfl
    · have hn := chk_nt hc
      have hn2 := hn
      unfold okNT at hn2
      rw [IntWalk.i64_in _ (by omega)] at h3 h4
      rw [night_step hn t0 h1 h2 h3 h4]
      have e1 : Sp.okT t = true := Sp.okT_iff.2 (by simp only [Sp.MT]; omega)
      have e2 : Sp.okT x = true := Sp.okT_iff.2 (by simp only [Sp.MT]; omega)
      rw [e1, e2]) (fun W X t => pRIs ok (r.ext X) t)
  refine k.mono ?_
  rintro e w' ⟨o, A', c', ho, rfl, hr, hx⟩
  have e : Sp.norm o = nightS s l := by
    unfold nightS
    cases hc : chk s
    · rw [if_neg Bool.false_ne_true]
      refine (Sp.norm_plain _).uniq Sp.plain_nil fun t => ?_
      rw [Sp.norm_has, ho t]
      unfold nightIsS
      rw [hc]
      simp [Sp.hasB_nil]
    · rw [if_pos rfl]
      refine (Sp.norm_plain _).uniq (nightOf_plain _ _ _) fun t => ?_
      rw [Sp.norm_has, ho t, nightOf_has (chk_nt hc), Sp.norm_has]
      unfold nightIsS nightIs
      rw [hc]
      cases Sp.okT t <;> simp
  rw [e] at hr ⊢
  exact ⟨A', c', rfl, hr, hx⟩
end Go.Proofs.YtnhmibfgaoealaaGreat
