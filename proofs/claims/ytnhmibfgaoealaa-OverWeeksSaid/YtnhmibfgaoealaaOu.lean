/-
  Laws of layer 16.
-/
import Derived.Test.YtnhmibfgaoealaaOr
namespace Go.Proofs.Ytnhmibfgaoealaa
open Go.RowKit BigFrame
set_option linter.unusedVariables false
set_option linter.unusedSimpArgs false

theorem cAndN {w : World} {A1 A2 : Option Addr} {a b : List Sp.S} (h1 : Rs w A1 a) (h2 : Rs w A2 b) (l1 : a.length ≤ 900000) (l2 : b.length ≤ 900000) (c1 n : Nat) (hn : b.length = n) (c2 : Nat) : Calls Try.prog 39 #[.slice A1 a.length c1, .slice A2 n c2] w (RetS w (Sp.and_ a b)) := by subst hn; exact cAnd h1 h2 l1 l2 c1 c2

set_option maxRecDepth 100000 in
set_option maxHeartbeats 4000000 in
theorem overWeeks0 (cs : List Value) (hcs : cs.length = 23) (l : List Sp.S) (A : Option Addr) (c : Nat) (d : Int) (hd : 0 ≤ d ∧ d ≤ 255) (u : Int) (hu : 0 ≤ u ∧ u ≤ 4294967295) (p : Prop) (a b e x y z : List Sp.S) (w : World) (h : Rs w A l) (kF : ∀ W, Ext w W → ∀ A c, Rs W A l → Calls Try.prog 61 #[.agg cs.toArray, .slice A l.length c] W (RetP W p)) (kO : p → ∀ W, Ext w W → ∀ A c, Rs W A l → Calls Try.prog 62 #[.agg cs.toArray, .slice A l.length c, .int .i64 (d % 53)] W (Ret3S W a b e)) (kQ : p → ∀ W, Ext w W → ∀ A c, Rs W A (partS l (d % 53) 604800) → Calls Try.prog 62 #[.agg cs.toArray, .slice A (partS l (d % 53) 604800).length c, .int .i64 (d % 53)] W (Ret3S W a b e)) (kX : p → ∀ W, Ext w W → ∀ A c, Rs W A (Sp.and_ l [(0, d % 53 * 604800 + u % 604801)]) → Calls Try.prog 62 #[.agg cs.toArray, .slice A (Sp.and_ l [(0, d % 53 * 604800 + u % 604801)]).length c, .int .i64 (d % 53)] W (Ret3S W x y z))
    (h30 : p → l.length ≤ 30) (bl : p → a.length ≤ 30000 ∧ b.length ≤ 60000 ∧ e.length ≤ 30000 ∧ x.length ≤ 30000 ∧ y.length ≤ 60000 ∧ z.length ≤ 30000) (e1 : Sp.and_ a [(0, d % 53 * 604800 + u % 604801)] = x) (e2 : Sp.and_ b [(0, d % 53 * 604800 + u % 604801)] = y) (e3 : Sp.and_ e [(0, d % 53 * 604800 + u % 604801)] = z) :
    Calls Try.prog 19 #[.agg cs.toArray, .slice A l.length c, .int .u8 d, .int .u32 u] w (RetB w true) := by
  replace kF := Lib.hid kF
  replace kO := Lib.hid kO
  replace kQ := Lib.hid kQ
  replace kX := Lib.hid kX
  replace h := Lib.hid h
  replace h30 := Lib.hid h30
  replace bl := Lib.hid bl
  replace e1 := Lib.hid e1
  replace e2 := Lib.hid e2
  replace e3 := Lib.hid e3
  have hi := Lib.hid (su_size hcs)
  clear hcs
  have hs0 := Bx.new w cs 35
  have X0 := (Ext.refl w).alloc (.cells cs.toArray 35)
  have hl0 := h.out.alloc (.cells cs.toArray 35)
  go_enter Try.func19, Try.ntmps19
  go_wp2_with fail
  refine (awake16 _).mono ?_
  rintro e w1 ⟨rfl, x1⟩
  have hs1 := hs0.ext x1; clear hs0
  have hl1 := hl0.ext x1; clear hl0
  have X1 := X0.trans x1
  go_wp2_with (first | (refine load_box rfl 35 _ rfl _ rfl _ _ hs1 _ Try.underlying35 rfl hi.out ?_))
  refine (kF.out _ X1 _ _ hl1).mono ?_
  rintro e w2 ⟨⟨b, rfl, hb⟩, x2⟩
  have hs2 := hs1.ext x2; clear hs1
  have hl2 := hl1.ext x2; clear hl1
  have X2 := X1.trans x2
  cases b
  · clear hb
    go_wp2
    go_ret
    exact ⟨rfl, X2⟩
  · have hp := hb rfl
    clear hb
    have lg := h30.out hp
    obtain ⟨la, lb, le, lx⟩ := bl.out hp
    have wm : 0 ≤ d % 53 ∧ d % 53 ≤ 52 := by omega
    have wv : 0 ≤ u % 604801 ∧ u % 604801 ≤ 604800 := by omega
    obtain ⟨m, hm⟩ : ∃ m, d % 53 = m := ⟨_, rfl⟩
    obtain ⟨v, hv⟩ : ∃ m, u % 604801 = m := ⟨_, rfl⟩
    rw [hm] at wm kO kQ
    rw [hm, hv] at kX e1 e2 e3
    rw [hv] at wv
    have q1 : IntKind.i64.wrap (m * 604800) = m * 604800 := IntWalk.i64_in _ (by omega)
    have q2 : IntKind.i64.wrap (m * 604800 + v) = m * 604800 + v := IntWalk.i64_in _ (by omega)
    obtain ⟨T, hT⟩ : ∃ T : List Sp.S, T = [(0, m * 604800 + v)] := ⟨_, rfl⟩
    have hTl : T.length = 1 := by rw [hT]; rfl
    have ht2 := Rs.new_g w2 T 42 _ rfl
    rw [← hT] at kX e1 e2 e3
    have hT2 := Lib.hid hT
    have hF : (flat encS T).toArray = #[.int .i64 0, .int .i64 (m * 604800 + v)] := by rw [hT]; rfl
    rw [hF] at ht2
    clear hT hF
    go_wp2_with (first | (refine load_box rfl 35 _ rfl _ rfl _ _ (hs2.alloc _) _ Try.underlying35 rfl hi.out ?_))
    refine (kO.out hp _ (X2.alloc _) _ _ (hl2.alloc _)).mono ?_
    rintro e w3 ⟨A3, cap3, B3, dap3, C3, eap3, rfl, ⟨r3, t3, u3⟩, x3⟩
    have hs3 := (hs2.alloc _).ext x3
    have hl3 := (hl2.alloc _).ext x3
    have X3 := (X2.alloc _).trans x3
    have ht3 := ht2.ext x3; clear ht2
    go_wp2_with fail
    refine held_start (S := fun w' => Bx w' w.heap.size cs 35) 13 rfl (by kernel_rfl) ?_
    refine held_box (i := 0) rfl (by kernel_rfl) (by kernel_rfl) (by kernel_rfl) rfl 35 _ rfl _ rfl cs 35 (fun w h => h) _ Try.underlying35 rfl hi.out ((hs3.drewN 1)) _ (by simp [Act.put]; rfl) ?_
    refine held_move (i := 1) rfl (by kernel_rfl) (by kernel_rfl) (by kernel_rfl) _ rfl rfl ((hs3.drewN 1)) _ (by simp [Act.put]; rfl) ?_
    refine held_move (i := 2) rfl (by kernel_rfl) (by kernel_rfl) (by kernel_rfl) _ rfl rfl ((hs3.drewN 1)) _ (by simp [Act.put]; rfl) ?_
    refine held_move (i := 4) rfl (by kernel_rfl) (by kernel_rfl) (by kernel_rfl) _ rfl rfl ((hs3.drewN 1)) _ (by simp [Act.put]; rfl) ?_
    refine held_all (i := 3) rfl (by kernel_rfl) rfl ?_
    go_wp2_with fail
    refine (pOfWeek (hl3.drewN 1) (by omega) _ m).mono ?_
    rintro e w4 ⟨A4, cap4, rfl, r4, x4, _⟩
    have hs4 := (hs3.drewN 1).ext x4
    have hl4 := (hl3.drewN 1).ext x4
    have ha4 := (r3.drewN 1).ext x4
    have hb4 := (t3.drewN 1).ext x4
    have he4 := (u3.drewN 1).ext x4
    have ht4 := (ht3.drewN 1).ext x4
    have X4 := (X3.drewN 1).trans x4
    refine ⟨hs4, ?_⟩
    refine held_all (i := 5) rfl (by kernel_rfl) rfl ?_
    go_wp2_with fail
    refine (kQ.out hp _ X4 _ _ r4).mono ?_
    rintro e w5 ⟨A5, cap5, B5, dap5, C5, eap5, rfl, ⟨r5, t5, u5⟩, x5⟩
    have hs5 := hs4.ext x5; clear hs4
    have hl5 := hl4.ext x5; clear hl4
    have ha5 := ha4.ext x5; clear ha4
    have hb5 := hb4.ext x5; clear hb4
    have he5 := he4.ext x5; clear he4
    have ht5 := ht4.ext x5; clear ht4
    have hq5 := r4.ext x5
    have X5 := X4.trans x5
    refine ⟨hs5, ?_⟩
    refine held_move (i := 6) rfl (by kernel_rfl) (by kernel_rfl) (by kernel_rfl) _ rfl rfl hs5 _ (by simp [Act.put]; rfl) ?_
    refine wpAnyH_take (i := 7) (v := _) rfl (by kernel_rfl) (by kernel_rfl) (by kernel_rfl) (fun _ _ _ h => h) (.inl ⟨rfl, fun w _ => by go_simp; rfl⟩) hs5 ?_
    simp only [Act.put, List.setIfInBounds_toArray, List.set_cons_zero, List.set_cons_succ]
    refine wpAnyH_take (i := 8) (v := _) rfl (by kernel_rfl) (by kernel_rfl) (by kernel_rfl) (fun _ _ _ h => h) (.inl ⟨rfl, fun w _ => by go_simp; rfl⟩) hs5 ?_
    simp only [Act.put, List.setIfInBounds_toArray, List.set_cons_zero, List.set_cons_succ]
    refine wpAnyH_take (i := 9) (v := _) rfl (by kernel_rfl) (by kernel_rfl) (by kernel_rfl) (fun _ _ _ h => h) (.inl ⟨rfl, fun w _ => by go_simp; rfl⟩) hs5 ?_
    simp only [Act.put, List.setIfInBounds_toArray, List.set_cons_zero, List.set_cons_succ]
    refine held_assign (i := 10) rfl (by kernel_rfl) (by kernel_rfl) (by kernel_rfl) _ rfl rfl hs5 _ (by simp [Act.put]; rfl) ?_
    refine held_assign (i := 11) rfl (by kernel_rfl) (by kernel_rfl) (by kernel_rfl) _ rfl rfl hs5 _ (by simp [Act.put]; rfl) ?_
    refine held_assign (i := 12) rfl (by kernel_rfl) (by kernel_rfl) (by kernel_rfl) _ rfl rfl hs5 _ (by simp [Act.put]; rfl) ?_
    refine held_done (by kernel_rfl) ?_ _
    go_wp2_with fail
    refine held_start (S := fun w' => Bx w' w.heap.size cs 35) 13 rfl (by kernel_rfl) ?_
    refine held_box (i := 0) rfl (by kernel_rfl) (by kernel_rfl) (by kernel_rfl) rfl 35 _ rfl _ rfl cs 35 (fun w h => h) _ Try.underlying35 rfl hi.out ((hs5.drewN 1)) _ (by simp [Act.put]; rfl) ?_
    refine held_move (i := 1) rfl (by kernel_rfl) (by kernel_rfl) (by kernel_rfl) _ rfl rfl ((hs5.drewN 1)) _ (by simp [Act.put]; rfl) ?_
    refine held_move (i := 2) rfl (by kernel_rfl) (by kernel_rfl) (by kernel_rfl) _ rfl rfl ((hs5.drewN 1)) _ (by simp [Act.put]; rfl) ?_
    refine held_move (i := 4) rfl (by kernel_rfl) (by kernel_rfl) (by kernel_rfl) _ rfl rfl ((hs5.drewN 1)) _ (by simp [Act.put]; rfl) ?_
    refine held_all (i := 3) rfl (by kernel_rfl) rfl ?_
    go_wp2_with fail
    refine (cAndN (hl5.drewN 1) (ht5.drewN 1) (by omega) (by omega) _ _ hTl _).mono ?_
    rintro e w6 ⟨A6, cap6, rfl, r6, x6, _⟩
    have hs6 := (hs5.drewN 1).ext x6
    have hl6 := (hl5.drewN 1).ext x6
    have ha6 := (ha5.drewN 1).ext x6
    have hb6 := (hb5.drewN 1).ext x6
    have he6 := (he5.drewN 1).ext x6
    have ht6 := (ht5.drewN 1).ext x6
    have ha26 := (r5.drewN 1).ext x6
    have hb26 := (t5.drewN 1).ext x6
    have he26 := (u5.drewN 1).ext x6
    have X6 := (X5.drewN 1).trans x6
    refine ⟨hs6, ?_⟩
    refine held_all (i := 5) rfl (by kernel_rfl) rfl ?_
    go_wp2_with fail
    refine (kX.out hp _ X6 _ _ r6).mono ?_
    rintro e w7 ⟨A7, cap7, B7, dap7, C7, eap7, rfl, ⟨r7, t7, u7⟩, x7⟩
    have hs7 := hs6.ext x7; clear hs6
    have hl7 := hl6.ext x7; clear hl6
    have ha7 := ha6.ext x7; clear ha6
    have hb7 := hb6.ext x7; clear hb6
    have he7 := he6.ext x7; clear he6
    have ht7 := ht6.ext x7; clear ht6
    have ha27 := ha26.ext x7; clear ha26
    have hb27 := hb26.ext x7; clear hb26
    have he27 := he26.ext x7; clear he26
    have hq7 := r6.ext x7
    have X7 := X6.trans x7
    refine ⟨hs7, ?_⟩
    refine held_move (i := 6) rfl (by kernel_rfl) (by kernel_rfl) (by kernel_rfl) _ rfl rfl hs7 _ (by simp [Act.put]; rfl) ?_
    refine wpAnyH_take (i := 7) (v := _) rfl (by kernel_rfl) (by kernel_rfl) (by kernel_rfl) (fun _ _ _ h => h) (.inl ⟨rfl, fun w _ => by go_simp; rfl⟩) hs7 ?_
    simp only [Act.put, List.setIfInBounds_toArray, List.set_cons_zero, List.set_cons_succ]
    refine wpAnyH_take (i := 8) (v := _) rfl (by kernel_rfl) (by kernel_rfl) (by kernel_rfl) (fun _ _ _ h => h) (.inl ⟨rfl, fun w _ => by go_simp; rfl⟩) hs7 ?_
    simp only [Act.put, List.setIfInBounds_toArray, List.set_cons_zero, List.set_cons_succ]
    refine wpAnyH_take (i := 9) (v := _) rfl (by kernel_rfl) (by kernel_rfl) (by kernel_rfl) (fun _ _ _ h => h) (.inl ⟨rfl, fun w _ => by go_simp; rfl⟩) hs7 ?_
    simp only [Act.put, List.setIfInBounds_toArray, List.set_cons_zero, List.set_cons_succ]
    refine held_assign (i := 10) rfl (by kernel_rfl) (by kernel_rfl) (by kernel_rfl) _ rfl rfl hs7 _ (by simp [Act.put]; rfl) ?_
    refine held_assign (i := 11) rfl (by kernel_rfl) (by kernel_rfl) (by kernel_rfl) _ rfl rfl hs7 _ (by simp [Act.put]; rfl) ?_
    refine held_assign (i := 12) rfl (by kernel_rfl) (by kernel_rfl) (by kernel_rfl) _ rfl rfl hs7 _ (by simp [Act.put]; rfl) ?_
    refine held_done (by kernel_rfl) ?_ _
    go_wp2_with fail
    refine (bEq (cSame ha7 ha27 (by omega) _ _) (b' := true) (decide_eq_true rfl)).mono ?_
    rintro e w8 ⟨rfl, x8⟩
    have hs8 := hs7.ext x8; clear hs7
    have hl8 := hl7.ext x8; clear hl7
    have ha8 := ha7.ext x8; clear ha7
    have hb8 := hb7.ext x8; clear hb7
    have he8 := he7.ext x8; clear he7
    have ht8 := ht7.ext x8; clear ht7
    have ha28 := ha27.ext x8; clear ha27
    have hb28 := hb27.ext x8; clear hb27
    have he28 := he27.ext x8; clear he27
    have hx8 := r7.ext x8
    have hy8 := t7.ext x8
    have hz8 := u7.ext x8
    have X8 := X7.trans x8
    go_wp2_with fail
    refine (bEq (cSame hb8 hb28 (by omega) _ _) (b' := true) (decide_eq_true rfl)).mono ?_
    rintro e w9 ⟨rfl, x9⟩
    have hs9 := hs8.ext x9; clear hs8
    have hl9 := hl8.ext x9; clear hl8
    have ha9 := ha8.ext x9; clear ha8
    have hb9 := hb8.ext x9; clear hb8
    have he9 := he8.ext x9; clear he8
    have ht9 := ht8.ext x9; clear ht8
    have hb29 := hb28.ext x9; clear hb28
    have he29 := he28.ext x9; clear he28
    have hx9 := hx8.ext x9; clear hx8
    have hy9 := hy8.ext x9; clear hy8
    have hz9 := hz8.ext x9; clear hz8
    have X9 := X8.trans x9
    go_wp2_with fail
    refine (bEq (cSame he9 he29 (by omega) _ _) (b' := true) (decide_eq_true rfl)).mono ?_
    rintro e w10 ⟨rfl, x10⟩
    have hs10 := hs9.ext x10; clear hs9
    have hl10 := hl9.ext x10; clear hl9
    have ha10 := ha9.ext x10; clear ha9
    have hb10 := hb9.ext x10; clear hb9
    have he10 := he9.ext x10; clear he9
    have ht10 := ht9.ext x10; clear ht9
    have he210 := he29.ext x10; clear he29
    have hx10 := hx9.ext x10; clear hx9
    have hy10 := hy9.ext x10; clear hy9
    have hz10 := hz9.ext x10; clear hz9
    have X10 := X9.trans x10
    go_wp2_with fail
    refine (sEq (cAndN ha10 ht10 (by omega) (by omega) _ _ hTl _) e1.out).mono ?_
    rintro e w11 ⟨A11, cap11, rfl, r11, x11, _⟩
    have hs11 := hs10.ext x11; clear hs10
    have hl11 := hl10.ext x11; clear hl10
    have ha11 := ha10.ext x11; clear ha10
    have hb11 := hb10.ext x11; clear hb10
    have he11 := he10.ext x11; clear he10
    have ht11 := ht10.ext x11; clear ht10
    have hx11 := hx10.ext x11; clear hx10
    have hy11 := hy10.ext x11; clear hy10
    have hz11 := hz10.ext x11; clear hz10
    have X11 := X10.trans x11
    go_wp2_with fail
    refine (bEq (cSame hx11 r11 (by omega) _ _) (b' := true) (decide_eq_true rfl)).mono ?_
    rintro e w12 ⟨rfl, x12⟩
    have hs12 := hs11.ext x12; clear hs11
    have hl12 := hl11.ext x12; clear hl11
    have ha12 := ha11.ext x12; clear ha11
    have hb12 := hb11.ext x12; clear hb11
    have he12 := he11.ext x12; clear he11
    have ht12 := ht11.ext x12; clear ht11
    have hx12 := hx11.ext x12; clear hx11
    have hy12 := hy11.ext x12; clear hy11
    have hz12 := hz11.ext x12; clear hz11
    have hg12 := r11.ext x12
    have X12 := X11.trans x12
    go_wp2_with fail
    refine (sEq (cAndN hb12 ht12 (by omega) (by omega) _ _ hTl _) e2.out).mono ?_
    rintro e w13 ⟨A13, cap13, rfl, r13, x13, _⟩
    have hs13 := hs12.ext x13; clear hs12
    have hl13 := hl12.ext x13; clear hl12
    have ha13 := ha12.ext x13; clear ha12
    have hb13 := hb12.ext x13; clear hb12
    have he13 := he12.ext x13; clear he12
    have ht13 := ht12.ext x13; clear ht12
    have hy13 := hy12.ext x13; clear hy12
    have hz13 := hz12.ext x13; clear hz12
    have X13 := X12.trans x13
    go_wp2_with fail
    refine (bEq (cSame hy13 r13 (by omega) _ _) (b' := true) (decide_eq_true rfl)).mono ?_
    rintro e w14 ⟨rfl, x14⟩
    have hs14 := hs13.ext x14; clear hs13
    have hl14 := hl13.ext x14; clear hl13
    have ha14 := ha13.ext x14; clear ha13
    have hb14 := hb13.ext x14; clear hb13
    have he14 := he13.ext x14; clear he13
    have ht14 := ht13.ext x14; clear ht13
    have hy14 := hy13.ext x14; clear hy13
    have hz14 := hz13.ext x14; clear hz13
    have hg14 := r13.ext x14
    have X14 := X13.trans x14
    go_wp2_with fail
    refine (sEq (cAndN he14 ht14 (by omega) (by omega) _ _ hTl _) e3.out).mono ?_
    rintro e w15 ⟨A15, cap15, rfl, r15, x15, _⟩
    have hs15 := hs14.ext x15; clear hs14
    have hl15 := hl14.ext x15; clear hl14
    have ha15 := ha14.ext x15; clear ha14
    have hb15 := hb14.ext x15; clear hb14
    have he15 := he14.ext x15; clear he14
    have ht15 := ht14.ext x15; clear ht14
    have hz15 := hz14.ext x15; clear hz14
    have X15 := X14.trans x15
    go_wp2_with fail
    refine (bEq (cSame hz15 r15 (by omega) _ _) (b' := true) (decide_eq_true rfl)).mono ?_
    rintro e w16 ⟨rfl, x16⟩
    have hs16 := hs15.ext x16; clear hs15
    have hl16 := hl15.ext x16; clear hl15
    have ha16 := ha15.ext x16; clear ha15
    have hb16 := hb15.ext x16; clear hb15
    have he16 := he15.ext x16; clear he15
    have ht16 := ht15.ext x16; clear ht15
    have hz16 := hz15.ext x16; clear hz15
    have hg16 := r15.ext x16
    have X16 := X15.trans x16
    go_wp2
    go_ret
    exact ⟨rfl, X16⟩

theorem and_one (l : List Sp.S) (x : Sp.S) : (Sp.and_ l [x]).length ≤ l.length + 1 := Nat.le_trans (Sp.and_length l [x]) (Nat.add_le_add (Sp.norm_length l) (Sp.norm_length [x]))
theorem and_nil_of (T : List Sp.S) : Sp.and_ [] T = [] := (Sp.and_plain _ _).uniq Sp.plain_nil fun t => by rw [Sp.and_has]; simp [Sp.hasB_nil]
theorem weeks16 (s : Su) (g : Sh) (ok : SuOk s) (l : List Sp.S) (A : Option Addr) (c : Nat) (hl : l.length ≤ maxLen) (d : Int) (hd : 0 ≤ d ∧ d ≤ 255) (u : Int) (hu : 0 ≤ u ∧ u ≤ 4294967295) (w : World) (r : SuR w s g) (h : Rs w A l) :
    Calls Try.prog 19 #[.agg (s.cells g).toArray, .slice A l.length c, .int .u8 d, .int .u32 u] w (RetB w true) := by
  have a1 : Few14 s l → l.length ≤ 30 := fun p => p.2.1
  have a3 : ∀ W, Ext w W → ∀ A c, Rs W A l → Calls Try.prog 61 #[.agg (s.cells g).toArray, .slice A l.length c] W (RetP W (Few14 s l)) := fun W X A c h => pFew16 s g h hl c
  have a4 : Few14 s l → ∀ W, Ext w W → ∀ A c, Rs W A l → Calls Try.prog 62 #[.agg (s.cells g).toArray, .slice A l.length c, .int .i64 (d % 53)] W (Ret3S W (oR s l (d % 53)) (oO s l (d % 53)) (oD s l (d % 53))) := fun p W X A c h => pOver ok p.1 (r.ext X) h (by have := a1 p; omega) c (d % 53)
  obtain ⟨t, ht⟩ : ∃ t, t = d % 53 * 604800 + u % 604801 := ⟨_, rfl⟩
  have e : oR s (partS l (d % 53) 604800) (d % 53) = oR s l (d % 53) ∧ oO s (partS l (d % 53) 604800) (d % 53) = oO s l (d % 53) ∧ oD s (partS l (d % 53) 604800) (d % 53) = oD s l (d % 53) ∧ Sp.and_ (oR s l (d % 53)) [(0, t)] = oR s (Sp.and_ l [(0, t)]) (d % 53) ∧ Sp.and_ (oO s l (d % 53)) [(0, t)] = oO s (Sp.and_ l [(0, t)]) (d % 53) ∧ Sp.and_ (oD s l (d % 53)) [(0, t)] = oD s (Sp.and_ l [(0, t)]) (d % 53) := by
    cases hc : chk s
    · rw [(o_no hc l _).1, (o_no hc l _).2.1, (o_no hc l _).2.2, (o_no hc _ _).1, (o_no hc _ _).2.1, (o_no hc _ _).2.2, (o_no hc _ _).1, (o_no hc _ _).2.1, (o_no hc _ _).2.2]
      exact ⟨rfl, rfl, rfl, and_nil_of _, and_nil_of _, and_nil_of _⟩
    · have z := o_yes hc l (d % 53)
      have y := o_yes hc (partS l (d % 53) 604800) (d % 53)
      have x := o_yes hc (Sp.and_ l [(0, t)]) (d % 53)
      rw [part_again] at y
      rw [and_part] at x
      rw [z.1, z.2.1, z.2.2, y.1, y.2.1, y.2.2, x.1, x.2.1, x.2.2]
      exact ⟨rfl, rfl, rfl, (reg_cut _ _ _ _).symm, (over_cut _ _ _ _ _).symm, (double_cut _ _ _).symm⟩
  have a7 : Few14 s l → ∀ W, Ext w W → ∀ A c, Rs W A (partS l (d % 53) 604800) → Calls Try.prog 62 #[.agg (s.cells g).toArray, .slice A (partS l (d % 53) 604800).length c, .int .i64 (d % 53)] W (Ret3S W (oR s (partS l (d % 53) 604800) (d % 53)) (oO s (partS l (d % 53) 604800) (d % 53)) (oD s (partS l (d % 53) 604800) (d % 53))) := fun p W X A c h => pOver ok p.1 (r.ext X) h (by have := a1 p; have := partS_len l (d % 53) 604800; omega) c (d % 53)
  have a8 : Few14 s l → ∀ W, Ext w W → ∀ A c, Rs W A (Sp.and_ l [(0, t)]) → Calls Try.prog 62 #[.agg (s.cells g).toArray, .slice A (Sp.and_ l [(0, t)]).length c, .int .i64 (d % 53)] W (Ret3S W (oR s (Sp.and_ l [(0, t)]) (d % 53)) (oO s (Sp.and_ l [(0, t)]) (d % 53)) (oD s (Sp.and_ l [(0, t)]) (d % 53))) := fun p W X A c h => pOver ok p.1 (r.ext X) h (by have := a1 p; have := and_one l (0, t); omega) c (d % 53)
  rw [e.1, e.2.1, e.2.2.1] at a7
  have a9 : Few14 s l → _ := fun p => o_lens s l (d % 53) (by have := a1 p; omega)
  have a10 : Few14 s l → _ := fun p => o_lens s (Sp.and_ l [(0, t)]) (d % 53) (by have := a1 p; have := and_one l (0, t); omega)
  have hb : Few14 s l → _ := fun p => (⟨(a9 p).1, (a9 p).2.1, (a9 p).2.2, a10 p⟩ : _ ∧ _ ∧ _ ∧ _)
  subst ht
  exact overWeeks0 (s.cells g) rfl l A c d hd u hu _ _ _ _ _ _ _ w h a3 a4 a7 a8 a1 hb e.2.2.2.1 e.2.2.2.2.1 e.2.2.2.2.2
end Go.Proofs.Ytnhmibfgaoealaa
