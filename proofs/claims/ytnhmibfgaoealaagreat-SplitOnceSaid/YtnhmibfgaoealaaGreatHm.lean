/-
  Laws of layer 17: SplitOnce.
-/
import Derived.Test.YtnhmibfgaoealaaGreatHi
import Derived.BigQuiet
namespace Go.Proofs.YtnhmibfgaoealaaGreat
open Go.RowKit BigFrame
set_option linter.unusedVariables false
set_option linter.unusedSimpArgs false

set_option maxRecDepth 100000 in
set_option maxHeartbeats 4000000 in
theorem splitOnce0 (cs : List Value) (hcs : cs.length = 23) (l : List SegL) (A : Option Addr) (c : Nat) (d : Int) (p : Prop) (ck : Bool) (m : List Pt) (CL : List Sp.S) (w : World) (h : Rg w A l)
    (kF : ∀ W, Ext w W → ∀ A c, Rg W A l → Calls Tryz.prog 10 #[.agg cs.toArray, .slice A l.length c] W (RetP W p))
    (kC : p → ∀ W, Ext w W → Calls Tryz.prog 22 #[.agg cs.toArray] W (RetB W ck))
    (kS : p → ∀ W, Ext w W → ∀ A c, Rg W A l → Calls Tryz.prog 18 #[.agg cs.toArray, .slice A l.length c, .int .i64 d] W (RetPs W m))
    (kCk : p → ∀ W, Ext w W → ∀ A c, Rg W A l → Calls Tryz.prog 25 #[.slice A l.length c] W (RetS W CL))
    (bl : p → m.length ≤ 900000 ∧ CL.length ≤ 90000) (hone : ∀ x ∈ m, x.1.1 < x.1.2 ∧ 0 ≤ x.2 ∧ x.2 ≤ 6) (hfar : m.Pairwise Far)
    (ke : ck = false → m = []) (kn : ck = true → Sp.norm (m.map (·.1)) = partS CL d 604800) :
    Calls Tryz.prog 5 #[.agg cs.toArray, .slice A l.length c, .int .i64 d] w (RetB w true) := by
  replace kF := Lib.hid kF; replace kC := Lib.hid kC; replace kS := Lib.hid kS; replace kCk := Lib.hid kCk; replace h := Lib.hid h; replace bl := Lib.hid bl; replace ke := Lib.hid ke; replace kn := Lib.hid kn; replace hone := Lib.hid hone; replace hfar := Lib.hid hfar
  have hi := Lib.hid (su_size hcs)
  clear hcs
  have hs0 := Bx.new w cs 30
  have X0 := (Ext.refl w).alloc (.cells cs.toArray 30)
  have hg0 := h.out.alloc (.cells cs.toArray 30)
  go_enter Tryz.func5, Tryz.ntmps5
  go_wp2_with fail
  refine (awake17 _).mono ?_
  rintro e w1 ⟨rfl, x1⟩
  have hs1 := hs0.ext x1; clear hs0
  have hg1 := hg0.ext x1; clear hg0
  have X1 := X0.trans x1
  go_wp2_with (first | (refine load_box rfl 30 _ rfl _ rfl _ _ hs1 _ Tryz.underlying30 rfl hi.out ?_))
  refine (kF.out _ X1 _ _ hg1).mono ?_
  rintro e w2 ⟨⟨b, rfl, hb⟩, x2⟩
  have hs2 := hs1.ext x2; clear hs1
  have hg2 := hg1.ext x2; clear hg1
  have X2 := X1.trans x2
  cases b
  · clear hb
    go_wp2
    go_ret
    exact ⟨rfl, X2⟩
  · have hp := hb rfl
    clear hb
    obtain ⟨lb1, lb2⟩ := bl.out hp
    go_wp2_with (first | (refine load_box rfl 30 _ rfl _ rfl _ _ hs2 _ Tryz.underlying30 rfl hi.out ?_))
    refine (kS.out hp _ X2 _ _ hg2).mono ?_
    rintro e w3 ⟨A3, c3, rfl, m3, x3⟩
    have HS3 := Lib.hid (hs2.ext x3); have HG3 := Lib.hid (hg2.ext x3); have HX3 := Lib.hid (X2.trans x3); have HM3 := Lib.hid m3
    have hC := Lib.hid (kC.out hp); have hCk := Lib.hid (kCk.out hp)
    clear hs2 hg2 X0 X1 X2 x1 x2 x3 kF kC kS kCk bl m3
    go_wp2_with fail
    go_loopw [10, 9] (fun i v wr => ∃ (k n : Nat) (A2 : Option Addr) (c2 : Nat), k ≤ m.length ∧ i = .int .i64 k ∧ v = .slice A2 n c2 ∧ Hid (n = ((m.take k).map (·.1)).length) ∧ Hid (wr.ownsRow w3.heap.size 49 2 (.slice A2 n c2) n (flat encS ((m.take k).map (·.1)))) ∧ Hid (Ext w3 wr)) (fun i _ _ => m.length - (intOf i).toNat)
    case atStart => exact ⟨0, 0, none, 0, Nat.zero_le _, rfl, rfl, rfl, own_nil _ _, Ext.refl _⟩
    case round =>
      obtain ⟨k, n, A2, c2, hk, rfl, rfl, HN, HO, HX⟩ := hrel
      by_cases hlt : k < m.length
      · obtain ⟨b, off, p1, q1, g1, rfl, hbB, hx, y0, y1, y2⟩ := HM3.out.atG HX.out hlt
        have q3 : (k : Int) < (m.length : Int) := by omega
        have q4 : (0 : Int) ≤ (k : Int) := by omega
        have nl : n ≤ 900000 := by rw [HN.out]; simp; omega
        obtain ⟨f3, f4, f5⟩ : decide (q1 ≤ p1) = false ∧ decide (g1 < 0) = false ∧ decide (6 < g1) = false := by
          have := hone.out _ (List.mem_of_getElem? hx.out); simp only at this
          exact ⟨decide_eq_false (by omega), decide_eq_false (by omega), decide_eq_false (by omega)⟩
        have E : Hid ((m.take (k + 1)).map (·.1) = (m.take k).map (·.1) ++ [(p1, q1)]) := by show _ = _; rw [take_snoc hx.out]; simp
        obtain ⟨O, hO⟩ : ∃ O, (m.take k).map (·.1) = O := ⟨_, rfl⟩
        rw [hO] at HN HO E
        clear hO
        have z0 := (HX.out.cell (p := ⟨b, off + k * 3, none⟩) hbB).symm.trans y0
        have z1 := (HX.out.cell (p := ⟨b, off + k * 3 + 1, none⟩) hbB).symm.trans y1
        have hm2 : Hid (n + 1 = ((m.take (k + 1)).map (·.1)).length) := by show _ = _; rw [E.out, List.length_append, ← HN.out]; rfl
        by_cases hk0 : k = 0
        · have hk1 := Lib.hid hk0
          have f6 : decide (0 < k) = false := decide_eq_false (by omega)
          clear hk0
          go_wp2_with fail
          go_quiet (fail)
          go_wp2_with fail
          go_quiet (fail)
          go_wp2_with fail
          rename_i n1
          have HX2 := Lib.hid ((HX.out.drewN n1).drewN nq)
          have HO2 := Lib.hid (own_drewN (own_drewN HO.out n1) nq)
          generalize (wr.drewN n1).drewN nq = wz at HX2 HO2 ⊢
          clear HX HO y0 y1 y2
          have yz0 := (HX2.out.cell (p := ⟨b, off + k * 3, none⟩) hbB).trans z0
          have yz1 := (HX2.out.cell (p := ⟨b, off + k * 3 + 1, none⟩) hbB).trans z1
          go_region_held3 (fun w' => w'.cell? ⟨b, off + k * 3, none⟩ = some (.int .i64 p1) ∧ w'.cell? ⟨b, off + k * 3 + 1, none⟩ = some (.int .i64 q1)) (first | exact ⟨(x4.cell (p := ⟨b, off + k * 3, none⟩) hbB).trans z0, (x4.cell (p := ⟨b, off + k * 3 + 1, none⟩) hbB).trans z1⟩ | exact ⟨yz0, yz1⟩ | go_keep) ((refine step_app_one w3 _ ((HX2.out.alloc _).drewN 1) (by rfl) _ _ (by rfl) n _ O (by rfl) (own_drewN (HO2.out.alloc _) 1) (p1, q1) wz.heap.size (by rfl) (Rs.drewN (Rs.new_g wz [(p1, q1)] _ _ rfl) 1) (by omega) ?_; intro A4 c4 w4 o4 x4))
          clear z0 z1 yz0 yz1 HO2
          rw [← E.out] at o4
          replace o4 := Lib.hid o4; replace x4 := Lib.hid x4
          go_wp2
          go_roundw
          case rel => exact ⟨k + 1, n + 1, A4, c4, by omega, by go_num, rfl, hm2, o4, x4⟩
          case measure => simp [intOf]; omega
        · have f6 : decide (0 < k) = true := decide_eq_true (by omega)
          have hj : k - 1 < m.length := by omega
          obtain ⟨b', off', p2, q2, g2, hA, _, hx2, v0, v1, v2⟩ := HM3.out.atG HX.out hj
          cases hA
          have hF : Hid (q2 ≤ p1 ∧ (g2 = g1 → q2 ≠ p1)) := by
            have h1 := hx.out; have h2 := hx2.out
            obtain ⟨i1, j1⟩ := List.getElem?_eq_some_iff.1 h1
            obtain ⟨i2, j2⟩ := List.getElem?_eq_some_iff.1 h2
            have := List.pairwise_iff_getElem.1 hfar.out (k - 1) k i2 i1 (by omega)
            rw [j1, j2] at this
            exact this
          have e1 : IntKind.i64.wrap ((k : Int) - 1) = (k : Int) - 1 := IntWalk.i64_in _ (by omega)
          have e2 : ((k : Int) - 1).toNat = k - 1 := by omega
          have e3 : (0 : Int) ≤ (k : Int) - 1 := by omega
          have e3b : (1 : Int) ≤ (k : Int) := by omega
          have e3c : 1 ≤ k := by omega
          have e4 : (k : Int) - 1 < (m.length : Int) := by omega
          have f7 : decide (p1 < q2) = false := decide_eq_false (by have := hF.out.1; omega)
          clear hk0 hj
          by_cases hqp : q2 = p1
          · have f2 : decide (g2 = g1) = false := decide_eq_false fun e => hF.out.2 e hqp
            have f1 : (q2 == p1) = true := beq_iff_eq.2 hqp
            have f2b : (g2 == g1) = false := by rw [beq_eq_false_iff_ne]; exact fun e => hF.out.2 e hqp
            clear hqp
            go_wp2_with fail
            go_quiet (fail)
            go_wp2_with fail
            go_quiet (fail)
            go_wp2_with fail
            rename_i n1
            have HX2 := Lib.hid ((HX.out.drewN n1).drewN nq)
            have HO2 := Lib.hid (own_drewN (own_drewN HO.out n1) nq)
            generalize (wr.drewN n1).drewN nq = wz at HX2 HO2 ⊢
            clear HX HO y0 y1 y2
            have yz0 := (HX2.out.cell (p := ⟨b, off + k * 3, none⟩) hbB).trans z0
            have yz1 := (HX2.out.cell (p := ⟨b, off + k * 3 + 1, none⟩) hbB).trans z1
            go_region_held3 (fun w' => w'.cell? ⟨b, off + k * 3, none⟩ = some (.int .i64 p1) ∧ w'.cell? ⟨b, off + k * 3 + 1, none⟩ = some (.int .i64 q1)) (first | exact ⟨(x4.cell (p := ⟨b, off + k * 3, none⟩) hbB).trans z0, (x4.cell (p := ⟨b, off + k * 3 + 1, none⟩) hbB).trans z1⟩ | exact ⟨yz0, yz1⟩ | go_keep) ((refine step_app_one w3 _ ((HX2.out.alloc _).drewN 1) (by rfl) _ _ (by rfl) n _ O (by rfl) (own_drewN (HO2.out.alloc _) 1) (p1, q1) wz.heap.size (by rfl) (Rs.drewN (Rs.new_g wz [(p1, q1)] _ _ rfl) 1) (by omega) ?_; intro A4 c4 w4 o4 x4))
            clear z0 z1 yz0 yz1 HO2
            rw [← E.out] at o4
            replace o4 := Lib.hid o4; replace x4 := Lib.hid x4
            go_wp2
            go_roundw
            case rel => exact ⟨k + 1, n + 1, A4, c4, by omega, by go_num, rfl, hm2, o4, x4⟩
            case measure => simp [intOf]; omega
          · have f1 : decide (q2 = p1) = false := decide_eq_false hqp
            have f1b : (q2 == p1) = false := beq_eq_false_iff_ne.2 hqp
            clear hqp
            go_wp2_with fail
            go_quiet (fail)
            go_wp2_with fail
            go_quiet (fail)
            go_wp2_with fail
            rename_i n1
            have HX2 := Lib.hid ((HX.out.drewN n1).drewN nq)
            have HO2 := Lib.hid (own_drewN (own_drewN HO.out n1) nq)
            generalize (wr.drewN n1).drewN nq = wz at HX2 HO2 ⊢
            clear HX HO y0 y1 y2
            have yz0 := (HX2.out.cell (p := ⟨b, off + k * 3, none⟩) hbB).trans z0
            have yz1 := (HX2.out.cell (p := ⟨b, off + k * 3 + 1, none⟩) hbB).trans z1
            go_region_held3 (fun w' => w'.cell? ⟨b, off + k * 3, none⟩ = some (.int .i64 p1) ∧ w'.cell? ⟨b, off + k * 3 + 1, none⟩ = some (.int .i64 q1)) (first | exact ⟨(x4.cell (p := ⟨b, off + k * 3, none⟩) hbB).trans z0, (x4.cell (p := ⟨b, off + k * 3 + 1, none⟩) hbB).trans z1⟩ | exact ⟨yz0, yz1⟩ | go_keep) ((refine step_app_one w3 _ ((HX2.out.alloc _).drewN 1) (by rfl) _ _ (by rfl) n _ O (by rfl) (own_drewN (HO2.out.alloc _) 1) (p1, q1) wz.heap.size (by rfl) (Rs.drewN (Rs.new_g wz [(p1, q1)] _ _ rfl) 1) (by omega) ?_; intro A4 c4 w4 o4 x4))
            clear z0 z1 yz0 yz1 HO2
            rw [← E.out] at o4
            replace o4 := Lib.hid o4; replace x4 := Lib.hid x4
            go_wp2
            go_roundw
            case rel => exact ⟨k + 1, n + 1, A4, c4, by omega, by go_num, rfl, hm2, o4, x4⟩
            case measure => simp [intOf]; omega
      · obtain rfl : k = m.length := by omega
        rw [List.take_length] at HN HO
        have hm2 := HN.out
        subst hm2
        have HO3 := Lib.hid (Rs.own HO.out)
        have HS4 := Lib.hid (HS3.out.ext HX.out)
        have HG4 := Lib.hid (HG3.out.ext HX.out)
        have HX4 := Lib.hid (HX3.out.trans HX.out)
        clear HO HX HS3 HG3 HX3 HN HM3
        have lm : (m.map (·.1)).length ≤ 900000 := by simp; omega
        go_wp2_with (first | (refine load_box rfl 30 _ rfl _ rfl _ _ HS4.out _ Tryz.underlying30 rfl hi.out ?_))
        refine (hC.out _ HX4.out).mono ?_
        rintro e w5 ⟨rfl, x5⟩
        have HG5 := Lib.hid (HG4.out.ext x5)
        have HX5 := Lib.hid (HX4.out.trans x5)
        have HO5 := Lib.hid (HO3.out.ext x5)
        clear HG4 HX4 HO3 x5 HS4 hC
        cases ck
        · have hm0 := ke.out rfl
          subst hm0
          clear HO5 lm
          go_wp2
          go_ret
          exact ⟨rfl, HX5.out⟩
        · have kn1 := Lib.hid (kn.out rfl)
          obtain ⟨L, hL⟩ : ∃ L, m.map (·.1) = L := ⟨_, rfl⟩
          have hLl : L.length = m.length := by rw [← hL]; simp
          rw [hL] at kn1 HO5 lm
          clear hL
          have nk1 := cNormN HO5.out (by omega) m.length hLl c2
          clear hLl
          rw [kn1.out] at nk1
          obtain ⟨Q, hQ⟩ : ∃ Q, partS CL d 604800 = Q := ⟨_, rfl⟩
          have kW := fun (W : World) (A : Option Addr) (cap : Nat) (hr : Rs W A CL) => pOfWeek hr (by omega) cap d
          have lq : Q.length ≤ 900000 := by have := partS_len CL d 604800; rw [hQ] at this; omega
          rw [hQ] at kW nk1
          replace kW := Lib.hid kW; replace nk1 := Lib.hid nk1
          clear hQ kn1
          go_wp2_with fail
          refine nk1.out.mono ?_
          rintro e v1 ⟨H1, hc1, rfl, n1, t1, _⟩
          have HG6 := Lib.hid (HG5.out.ext t1); have HX6 := Lib.hid (HX5.out.trans t1); have N1 := Lib.hid n1
          clear HG5 HX5 HO5 n1 t1 nk1
          go_wp2_with fail
          refine (hCk.out _ (HX6.out) _ _ HG6.out).mono ?_
          rintro e v2 ⟨H2, hc2, rfl, n2, t2, _⟩
          have HX7 := Lib.hid (HX6.out.trans t2); have N2 := Lib.hid (N1.out.ext t2); have C2 := Lib.hid n2
          clear HG6 HX6 N1 n2 t2
          go_wp2_with fail
          refine (kW.out _ _ _ C2.out).mono ?_
          rintro e v3 ⟨H3, hc3, rfl, n3, t3, _⟩
          have HX8 := Lib.hid (HX7.out.trans t3); have N3 := Lib.hid (N2.out.ext t3); have C3 := Lib.hid n3
          clear HX7 N2 n3 t3
          go_wp2_with fail
          refine (bEq (cSame N3.out C3.out (by omega) _ _) (b' := true) (decide_eq_true rfl)).mono ?_
          rintro e v4 ⟨rfl, t4⟩
          have HX9 := Lib.hid (HX8.out.trans t4)
          clear HX8 N3 C3 t4
          go_wp2
          go_ret
          exact ⟨rfl, HX9.out⟩

theorem size_week (l : List Sp.S) (d : Int) : Sp.size (partS l d 604800) ≤ 604800 := by
  rw [Sp.size_cnt]
  have h := Sp.cnt_imp (p := Sp.hasB (partS l d 604800)) (q := Sp.inB (max 0 (d * 604800), max 0 ((d + 1) * 604800))) (n := Sp.MTn) fun t ht => by
    have := partWeek_sub ht
    have h1 := Sp.okT_iff.1 this.1
    have h2 := this.2.2
    unfold weekOf at h2
    have hMT : Sp.MT = 32054400 := rfl
    rw [Sp.inB_iff]
    simp only
    omega
  have h2 := Sp.cnt_inB (max 0 (d * 604800), max 0 ((d + 1) * 604800)) Sp.MTn (by simp only; omega) (by simp only; omega)
  simp only at h2
  omega
theorem plain_len_size : ∀ {lo : Int} {l : List Sp.S}, Sp.PlainFrom lo l → (l.length : Int) ≤ Sp.sumLen l
  | _, [], _ => by simp [Sp.sumLen]
  | lo, s :: r, h => by
    obtain ⟨_, h2, h3⟩ := h
    have := plain_len_size h3.2
    rw [Sp.sumLen_cons, List.length_cons]
    omega
theorem cls_len_size {s : Su} (h : chk s = true) (l : List SegL) (w c : Int) : ((cls s l w c).length : Int) ≤ Sp.size (cls s l w c) := by
  have : Sp.Plain (cls s l w c) := by rw [cls_eq]; exact catL_plain c
  rw [Sp.size_of_plain this]
  exact plain_len_size this
theorem partsS_len_week (s : Su) (l : List SegL) (w : Int) : (partsS s l w).length ≤ 604800 := by
  cases h : chk s
  · rw [partsS_no h]; simp
  · have h1 : (partsS s l w).length = (rawL (cls s l w) catsO).length := by rw [partsS_yes h]; exact (addAll_perm _).length_eq
    have h2 := cats_size (chk_nt h) (by have := chk_times h; omega : s.dreg ≤ s.dover) (P := s.paid) (AA := s.after) (AB := s.auto) (segs := l) (week := w) (W := s.wreg)
    have h3 := size_week (clockL l) w
    have e := cls_len_size h l w
    rw [h1]
    rw [h2, ← cls_eq] at h3
    simp only [rawL, catsO, List.flatMap_cons, List.flatMap_nil, List.length_append, tag_len, List.length_nil, List.map_cons, List.map_nil, List.sum_cons, List.sum_nil] at h3 ⊢
    have e0 := e 0; have e1 := e 1; have e2 := e 2; have e3 := e 3; have e4 := e 4; have e5 := e 5; have e6 := e 6
    omega
theorem once17 (s : Su) (g : Sh) (ok : SuOk s) (l : List SegL) (A : Option Addr) (c : Nat) (hl : l.length ≤ maxLen) (d : Int) (w : World) (r : SuR w s g) (h : Rg w A l) :
    Calls Tryz.prog 5 #[.agg (s.cells g).toArray, .slice A l.length c, .int .i64 d] w (RetB w true) := by
  have a1 : Few15 s l → l.length ≤ 30 := fun p => p.2.1
  refine splitOnce0 (s.cells g) rfl l A c d (Few15 s l) (chk s) (partsS s l d) (clockL l) w h (fun W X A c h => pFew15 s g h hl c) (fun p W X => pCheck ok p.1 (r.ext X)) (fun p W X A c h => pParts ok p.1 (r.ext X) h (a1 p) c d) (fun p W X A c h => pClock h (by have := a1 p; omega) c) (fun p => ⟨?_, ?_⟩) (fun x hx => partsS_one s l d hx) (partsS_far s l d) (fun hc => partsS_no hc l d) (fun hc => partsS_norm hc l d)
  · exact Nat.le_trans (partsS_len_week s l d) (by decide)
  · have := clock_len l; have := a1 p; omega
end Go.Proofs.YtnhmibfgaoealaaGreat
