/-
  Laws of layer 14: NightDays.
-/
import Derived.Test.YtnhmibfgaoealaaNe
import Derived.Test.YtnhmibfgaoealaaLt
import Derived.Test.YtnhmibfgaoealaaSt
namespace Go.Proofs.Ytnhmibfgaoealaa
open Go.RowKit
set_option linter.unusedVariables false
set_option linter.unusedSimpArgs false


theorem intsSpan : IntsAt Try.prog 42 2 := ints_struct (fun _ => 1) Try.underlying42 (fun i f hi => by
  match i, hi with
  | 0, hi => cases hi; exact ⟨intsInt, rfl⟩
  | 1, hi => cases hi; exact ⟨intsInt, rfl⟩
  | n + 2, hi => exact absurd hi (by simp)) (by kernel_rfl)
set_option maxRecDepth 100000 in
set_option maxHeartbeats 2000000 in
theorem nightDaysA (cs : List Value) (hcs : cs.length = 23) (l : List Sp.S) (A : Option Addr) (c : Nat) (d t a n : Int) (hd : 0 ≤ d ∧ d ≤ 255) (ht : 0 ≤ t ∧ t ≤ 4294967295) (ha : d % 100 = a) (hn : t % 20000000 = n) (p : Prop) (R : List Sp.S) (i : Bool) (w : World) (h : Rs w A l) (h30 : p → l.length ≤ 900000)
    (hq : p → ∀ x ∈ l, 0 ≤ x.1 ∧ x.1 ≤ 33000000 ∧ x.2 ≤ 33000000 ∧ -9223372036854775808 ≤ x.2) (hR : p → R.length ≤ 900000) (bR : ∀ x ∈ R, (0 ≤ x.1 ∧ x.1 ≤ 32054400) ∧ 0 ≤ x.2 ∧ x.2 ≤ 32054400) (kF : ∀ W, Ext w W → ∀ A c, Rs W A l → Calls Try.prog 53 #[.agg cs.toArray, .slice A l.length c] W (RetP W p)) (kO : p → ∀ W, Ext w W → ∀ A c, Rs W A l → Calls Try.prog 54 #[.agg cs.toArray, .slice A l.length c] W (RetS W R))
    (kP : p → (∀ x ∈ l, x.2 ≤ 20000000) → ∀ W, Ext w W → ∀ A c, Rs W A (shiftS (a * 86400) l) → Calls Try.prog 54 #[.agg cs.toArray, .slice A l.length c] W fun e w' => ∃ A' cap', e = .returned (.slice A' R.length cap') ∧ Rs w' A' (shiftS (a * 86400) R) ∧ Ext W w' ∧ True) (kI : p → ∀ W, Ext w W → Calls Try.prog 56 #[.agg cs.toArray, .int .i64 n] W (RetB W i)) (kJ : p → ∀ W, Ext w W → Calls Try.prog 56 #[.agg cs.toArray, .int .i64 (n + a * 86400)] W (RetB W i)) :
    Calls Try.prog 15 #[.agg cs.toArray, .slice A l.length c, .int .u8 d, .int .u32 t] w (RetB w true) := by
  have ta : d.tmod 100 = a := by rw [Int.tmod_eq_emod_of_nonneg hd.1]; exact ha
  have tn : t.tmod 20000000 = n := by rw [Int.tmod_eq_emod_of_nonneg ht.1]; exact hn
  have a0 : 0 ≤ a ∧ a < 100 := by omega
  have n0 : 0 ≤ n ∧ n < 20000000 := by omega
  replace kF := Lib.hid kF
  replace kO := Lib.hid kO
  replace kP := Lib.hid kP
  replace kI := Lib.hid kI
  replace kJ := Lib.hid kJ
  replace h := Lib.hid h
  replace h30 := Lib.hid h30
  replace hq := Lib.hid hq
  replace hR := Lib.hid hR
  replace bR := Lib.hid bR
  replace ha := Lib.hid ha
  replace hn := Lib.hid hn
  have hi := Lib.hid (su_size hcs)
  clear hcs
  have hs0 := Bx.new w cs 35
  have X0 := (Ext.refl w).alloc (.cells cs.toArray 35)
  have hl0 := h.out.alloc (.cells cs.toArray 35)
  go_enter Try.func15, Try.ntmps15
  go_wp2_with fail
  refine (awake14 _).mono ?_
  rintro e w1 ⟨rfl, x1⟩
  have hs1 := hs0.ext x1; clear hs0
  have hl1 := hl0.ext x1; clear hl0
  have X1 := X0.trans x1
  go_wp2_with (first | (refine load_box rfl 35 _ rfl _ rfl _ _ hs1 _ Try.underlying35 rfl hi.out ?_))
  refine (kF.out _ X1 _ _ hl1).mono ?_
  rintro e w2 ⟨⟨b, rfl, hb⟩, x2⟩
  have hs2 := hs1.ext x2; clear hs1
  have hl2 := hl1.ext x2; clear hl1
  have X2 := X1.trans x2
  cases b
  · clear hb
    go_wp2
    go_ret
    exact ⟨rfl, X2⟩
  · have hp := hb rfl
    clear hb
    have l30 := h30.out hp
    go_wp2_with fail
    go_loopw [12, 11] (fun i v wr => ∃ (k : Nat) (A2 : Option Addr) (c2 : Nat), k ≤ l.length ∧ i = .int .i64 k ∧ v = .slice A2 k c2 ∧ Hid (wr.ownsRow w2.heap.size 42 2 (.slice A2 k c2) k (flat encS (shiftS (a * 86400) (l.take k)))) ∧ Hid (Ext w2 wr) ∧ Hid (∀ x ∈ l.take k, x.2 ≤ 20000000)) (fun i _ _ => l.length - (intOf i).toNat)
    case atStart => exact ⟨0, none, 0, Nat.zero_le _, rfl, rfl, own_nil _ _, Ext.refl _, (show Hid _ from fun x hx => by simp at hx)⟩
    case round =>
      obtain ⟨k, A2, c2, hk, rfl, rfl, HO, HX, HP⟩ := hrel
      by_cases hlt : k < l.length
      · obtain ⟨b, off, p', q', rfl, hbB, hx, y0, y1⟩ := Rd.atS hl2 HX.out hlt
        obtain ⟨g0, g1, g2, g3⟩ := hq.out hp (p', q') (List.mem_of_getElem? hx.out)
        replace g0 : 0 ≤ p' := g0; replace g1 : p' ≤ 33000000 := g1; replace g2 : q' ≤ 33000000 := g2; replace g3 : -9223372036854775808 ≤ q' := g3
        have q3 : (k : Int) < (l.length : Int) := by omega
        have q4 : (0 : Int) ≤ (k : Int) := by omega
        by_cases g : 20000000 < q'
        · go_wp2_with fail
          go_wp2
          go_ret
          exact ⟨rfl, X2.trans HX.out⟩
        · have f1 : decide (20000000 < q') = false := decide_eq_false g
          have E : Hid (shiftS (a * 86400) (l.take (k + 1)) = shiftS (a * 86400) (l.take k) ++ [(p' + a * 86400, q' + a * 86400)]) := by show _ = _; rw [take_snoc hx.out]; simp [shiftS]
          obtain ⟨O, hO⟩ : ∃ O, shiftS (a * 86400) (l.take k) = O := ⟨_, rfl⟩
          have hOl : Hid (k = O.length) := by show _ = _; rw [← hO, shiftS_length, List.length_take]; omega
          rw [hO] at HO E
          clear hO
          have q5 : IntKind.i64.wrap (p' + a * 86400) = p' + a * 86400 := IntWalk.i64_in _ (by omega)
          have q6 : IntKind.i64.wrap (q' + a * 86400) = q' + a * 86400 := IntWalk.i64_in _ (by omega)
          go_wp2_with fail
          have z0 := (HX.out.cell (p := ⟨b, off + k * 2, none⟩) hbB).symm.trans y0
          have z1 := (HX.out.cell (p := ⟨b, off + k * 2 + 1, none⟩) hbB).symm.trans y1
          go_region_held3 (fun w' => w'.cell? ⟨b, off + k * 2, none⟩ = some (.int .i64 p') ∧ w'.cell? ⟨b, off + k * 2 + 1, none⟩ = some (.int .i64 q')) (first | exact ⟨(x3.cell (p := ⟨b, off + k * 2, none⟩) hbB).trans z0, (x3.cell (p := ⟨b, off + k * 2 + 1, none⟩) hbB).trans z1⟩ | exact ⟨y0, y1⟩ | go_keep)
            ((refine step_app_one w2 _ ((HX.out.alloc _).drewN 1) (by rfl) _ _ (by rfl) k _ O (by rfl) (own_drewN (HO.out.alloc _) 1) (p' + a * 86400, q' + a * 86400) wr.heap.size (by rfl) (Rs.drewN (Rs.new_g wr [(p' + a * 86400, q' + a * 86400)] _ _ rfl) 1) (by omega) ?_; intro A4 c4 w3 o4 x3))
          clear q5 q6 z0 z1 y0 y1 HO
          rw [← E.out] at o4
          replace o4 := Lib.hid o4; replace x3 := Lib.hid x3
          have HP2 : Hid (∀ x ∈ l.take (k + 1), x.2 ≤ 20000000) := by
            show ∀ x ∈ l.take (k + 1), _
            rw [take_snoc hx.out]
            intro x hm
            rcases List.mem_append.1 hm with h | h
            · exact HP.out x h
            · simp at h; subst h; show q' ≤ 20000000; omega
          clear HP
          go_wp2
          go_roundw
          case rel => exact ⟨k + 1, A4, c4, by omega, by go_num, rfl, o4, x3, HP2⟩
          case measure => simp [intOf]; omega
      · obtain rfl : k = l.length := by omega
        rw [List.take_length] at HO HP
        have hlat : Rs wr A2 (shiftS (a * 86400) l) := Rs.own (by rw [shiftS_length]; exact HO.out)
        have hs3 := hs2.ext HX.out
        have hl3 := hl2.ext HX.out
        have X3 := X2.trans HX.out
        clear HO HX hs2 hl2
        skip
        go_wp2_with (first | (refine load_box rfl 35 _ rfl _ rfl _ _ hs3 _ Try.underlying35 rfl hi.out ?_))
        refine (kO.out hp _ X3 _ _ hl3).mono ?_
        rintro e w4 ⟨A4, cap4, rfl, r4, x4, _⟩
        have hs4 := hs3.ext x4; clear hs3
        have hl4 := hl3.ext x4; clear hl3
        have hq4 := hlat.ext x4
        have X4 := X3.trans x4
        go_wp2_with (first | (refine load_box rfl 35 _ rfl _ rfl _ _ hs4 _ Try.underlying35 rfl hi.out ?_))
        refine (kP.out hp HP.out _ X4 _ _ hq4).mono ?_
        rintro e w5 ⟨A5, cap5, rfl, r5, x5, _⟩
        have hs5 := hs4.ext x5; clear hs4
        have hl5 := hl4.ext x5; clear hl4
        have hq5 := hq4.ext x5; clear hq4
        have ha5 := r4.ext x5
        have X5 := X4.trans x5
        have lR := hR.out hp
        go_wp2_with fail
        go_loopw [15] (fun i wx => ∃ k : Nat, k ≤ R.length ∧ i = .int .i64 k ∧ Hid (Ext w5 wx)) (fun i _ => R.length - (intOf i).toNat)
        case atStart => exact ⟨0, Nat.zero_le _, rfl, Ext.refl _⟩
        case round =>
          obtain ⟨j, hk2, rfl, HX⟩ := hrel
          by_cases hlt : j < R.length
          · obtain ⟨b, off, p', q', rfl, hbB, hx, y0, y1⟩ := Rd.atS ha5 HX.out hlt
            obtain ⟨b2, off2, p2, q2, rfl, hbB2, hx2, v0, v1⟩ := Rd.atS r5 HX.out (show j < (shiftS (a * 86400) R).length by rw [shiftS_length]; exact hlt)
            have e2 : p2 = p' + a * 86400 ∧ q2 = q' + a * 86400 := by
              have := hx2.out
              unfold shiftS at this
              rw [List.getElem?_map, hx.out] at this
              simp at this
              exact ⟨this.1.symm, this.2.symm⟩
            obtain ⟨rfl, rfl⟩ := e2
            obtain ⟨⟨g0, g1⟩, g2, g3⟩ := bR.out (p', q') (List.mem_of_getElem? hx.out)
            replace g0 : 0 ≤ p' := g0; replace g1 : p' ≤ 32054400 := g1; replace g2 : 0 ≤ q' := g2; replace g3 : q' ≤ 32054400 := g3
            have q3 : (j : Int) < (R.length : Int) := by omega
            have q4 : (0 : Int) ≤ (j : Int) := by omega
            have q5 : IntKind.i64.wrap (p' + a * 86400) = p' + a * 86400 := IntWalk.i64_in _ (by omega)
            have q6 : IntKind.i64.wrap (q' + a * 86400) = q' + a * 86400 := IntWalk.i64_in _ (by omega)
            clear hx hx2
            go_wp2_with fail
            go_quiet (fail)
            clear q5 q6
            go_wp2
            go_roundw
            case rel => exact ⟨j + 1, by omega, by go_num, HX.out.drewN _⟩
            case measure => simp [intOf]; omega
          · obtain rfl : j = R.length := by omega
            have hs6 := hs5.ext HX.out
            have X6 := X5.trans HX.out
            go_wp2_with fail
            refine wp_region_later _ (Ext.refl _) (by kernel_rfl) (by kernel_rfl) ?_
            go_big_quiet_step (fail)
            go_big_quiet_step (fail)
            refine quiet_box rfl 35 _ rfl _ rfl cs 35 (fun _ hw => by obtain ⟨e, rfl⟩ := hw; exact hs6.ext e.2) _ Try.underlying35 rfl hi.out _ (by simp [Act.put]; rfl) ?_
            go_big_quiet_step (fail)
            go_big_quiet_step (exact later_bool (kI.out hp _ (X6.trans (Subtype.property _))))
            refine quiet_box rfl 35 _ rfl _ rfl cs 35 (fun _ hw => by obtain ⟨e, rfl⟩ := hw; exact hs6.ext e.2) _ Try.underlying35 rfl hi.out _ (by simp [Act.put]; rfl) ?_
            go_big_quiet_step (fail)
            go_big_quiet_step (fail)
            go_big_quiet_step (fail)
            go_big_quiet_step (exact later_bool (kJ.out hp _ (X6.trans (Subtype.property _))))
            go_big_quiet_step (fail)
            go_big_quiet_step (fail)
            go_big_quiet_step (fail)
            refine wpQuiet_nil ?_
            rintro _ ⟨⟨_, x8⟩, rfl⟩
            go_wp2
            go_ret
            exact ⟨by simp, X6.trans x8⟩

theorem nightS_shift (s : Su) (l : List Sp.S) (k : Int) (k0 : 0 ≤ k) (k1 : k % 86400 = 0) (hl : ∀ x ∈ l, 0 ≤ x.1 ∧ x.2 + k ≤ Sp.MT) : nightS s (shiftS k l) = shiftS k (nightS s l) := by
  unfold nightS
  split
  · next h => exact night_shift (chk_nt h) k0 k1 l hl
  · rfl
theorem days14 (s : Su) (g : Sh) (ok : SuOk s) (l : List Sp.S) (A : Option Addr) (c : Nat) (hl : l.length ≤ maxLen) (bl : ∀ z ∈ l, B64 z.1 ∧ B64 z.2) (d t : Int) (hd : 0 ≤ d ∧ d ≤ 255) (ht : 0 ≤ t ∧ t ≤ 4294967295) (w : World) (r : SuR w s g) (h : Rs w A l) :
    Calls Try.prog 15 #[.agg (s.cells g).toArray, .slice A l.length c, .int .u8 d, .int .u32 t] w (RetB w true) := by
  have a1 : Few14 s l → l.length ≤ 900000 := fun p => by have := p.2.1; omega
  have a2 : Few14 s l → (nightS s l).length ≤ 900000 := fun p => nightS_len s l (by have := p.2.1; omega)
  have a3 : ∀ W, Ext w W → ∀ A c, Rs W A l → Calls Try.prog 53 #[.agg (s.cells g).toArray, .slice A l.length c] W (RetP W (Few14 s l)) := fun W X A c h => pFew14 s g h hl c
  have a4 : Few14 s l → ∀ W, Ext w W → ∀ A c, Rs W A l → Calls Try.prog 54 #[.agg (s.cells g).toArray, .slice A l.length c] W (RetS W (nightS s l)) := fun p W X A c h => pNightOf ok p.1 (r.ext X) h (a1 p) c
  have ha : 0 ≤ d % 100 ∧ d % 100 < 100 := by omega
  have hn : 0 ≤ t % 20000000 ∧ t % 20000000 < 20000000 := by omega
  refine nightDaysA (s.cells g) rfl l A c d t (d % 100) (t % 20000000) hd ht rfl rfl (Few14 s l) (nightS s l) (nightIsS s (t % 20000000)) w h a1 (fun p x hx => ?_) a2 (fun x hx => ?_) a3 a4 (fun p hq W X A c hA => ?_) (fun p W X => pNightIs ok p.1 (r.ext X) _) (fun p W X => ?_)
  · have h1 := p.2.2 x hx
    have h2 := (bl x hx).2
    unfold B64 at h2
    exact ⟨h1.1, h1.2.1, h1.2.2, h2.1⟩
  · have hp : Sp.Plain (nightS s l) := by
      unfold nightS
      split
      · exact nightOf_plain _ _ _
      · exact Sp.norm_plain []
    have hb : 0 ≤ x.1 ∧ x.1 < x.2 ∧ x.2 ≤ 32054400 := hp.bd x hx
    omega
  · have hk : 0 ≤ d % 100 * 86400 ∧ d % 100 * 86400 ≤ 8553600 := by omega
    have e := nightS_shift s l (d % 100 * 86400) hk.1 (by omega) (fun x hx => ⟨(p.2.2 x hx).1, by have := hq x hx; have : Sp.MT = 32054400 := rfl; omega⟩)
    have hcall := pNightOf ok p.1 (r.ext X) hA (by rw [shiftS_length]; exact a1 p) c
    rw [shiftS_length, e] at hcall
    refine hcall.mono ?_
    rintro e w' ⟨A', c', he, hr, hx, _⟩
    rw [shiftS_length] at he
    exact ⟨A', c', he, hr, hx, trivial⟩
  · have e : nightIsS s (t % 20000000) = nightIsS s (t % 20000000 + d % 100 * 86400) := by
      unfold nightIsS
      rw [nightIs_shift (k := d % 100 * 86400) hn.1 hn.2 (by omega) (by omega) (by omega)]
    rw [e]
    exact pNightIs ok p.1 (r.ext X) _

end Go.Proofs.Ytnhmibfgaoealaa
