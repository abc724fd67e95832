/-
  over.Of: its walk.
-/
import Derived.Test.YtnhmibfgaoealaaOn
namespace Go.Proofs.Ytnhmibfgaoealaa
open Go.RowKit BigFrame
set_option linter.unusedVariables false
set_option linter.unusedSimpArgs false

attribute [local go_sem] Oper.semAt_some

/-- What the loads of a round read. -/
def OfT (cs : List Value) (B x y : Nat) (v9 v10 : Value) (w : World) : Prop := Bx w B cs 35 ∧ Boxed w x 40 v9 ∧ Boxed w y 40 v10
theorem OfT.ext {cs : List Value} {B x y : Nat} {v9 v10 : Value} {w w' : World} (h : OfT cs B x y v9 v10 w) (X : Ext w w') : OfT cs B x y v9 v10 w' := ⟨h.1.ext X, (X.block x h.2.1.lt).trans h.2.1, (X.block y h.2.2.lt).trans h.2.2⟩
def Ret3S (w : World) (R1 R2 R3 : List Sp.S) (e : Ending) (w' : World) : Prop := ∃ A1 c1 A2 c2 A3 c3, e = .returned (.tuple #[.slice A1 R1.length c1, .slice A2 R2.length c2, .slice A3 R3.length c3]) ∧ (Rs w' A1 R1 ∧ Rs w' A2 R2 ∧ Rs w' A3 R3) ∧ Ext w w'

set_option maxRecDepth 100000 in
set_option maxHeartbeats 4000000 in
theorem overA (cs : List Value) (hcs : cs.length = 23) (R O V : Int) (c13 : cs[13]? = some (.int .i64 R)) (c14 : cs[14]? = some (.int .i64 O)) (c15 : cs[15]? = some (.int .i64 V)) (bR : B64 R) (bO : B64 O) (bV : B64 V)
    (l : List Sp.S) (A : Option Addr) (c : Nat) (n : Int) (hl : l.length ≤ 1000) (w : World) (h : Rs w A l) (kC : ∀ W, Ext w W → Calls Try.prog 59 #[.agg cs.toArray] W (RetB W true)) :
    Calls Try.prog 62 #[.agg cs.toArray, .slice A l.length c, .int .i64 n] w (Ret3S w (overR (partS l n 604800) R V) (overO (partS l n 604800) R O V) (overD (partS l n 604800) O)) := by
  have kW := fun W (X : Ext w W) => pOfWeek (h.ext X) (by omega) c n
  have hPl := partS_len l n 604800
  obtain ⟨P, hP⟩ : ∃ P, P = partS l n 604800 := ⟨_, rfl⟩
  rw [← hP] at kW hPl ⊢
  replace hPl : P.length ≤ 1001 := by omega
  clear hP
  have hi := Lib.hid (su_size hcs)
  have hs0 := Bx.new w cs 35
  have X0 := (Ext.refl w).alloc (.cells cs.toArray 35)
  replace kC := Lib.hid kC; replace kW := Lib.hid kW
  clear hcs h
  have hq : Hid (overR P R V = Sp.first (shortL P R) V ∧ overO P R O V = Sp.minus (shortL P O) (overR P R V) ∧ overD P O = Sp.minus P (shortL P O)) := ⟨by unfold overR; rfl, by unfold overO; rfl, by unfold overD; rfl⟩
  refine (callsIn_wide (n := 6)).1 ?_
  refine callsIn_of_wp_marks Try.func62 rfl trivial ?_ rfl
  refine wpIn_wide.2 ?_
  simp only [Try.ntmps62, List.size_toArray, List.length_cons, List.length_nil, Nat.reduceAdd, Nat.reduceSub, Array.replicate_succ, Array.replicate_zero, List.push_toArray, List.append_toArray, List.nil_append, List.cons_append]
  go_wp2_with (first | (refine load_box rfl 35 _ rfl _ rfl _ _ hs0 _ Try.underlying35 rfl hi.out ?_))
  refine (kC.out _ X0).mono ?_
  rintro e w1 ⟨rfl, x1⟩
  have hs1 := hs0.ext x1
  have X1 := X0.trans x1
  have hx2 : Boxed (w1.alloc (.cells #[.slice none 0 0] 40)) w1.heap.size 40 (.slice none 0 0) := Boxed.new _ _ _
  have hx3 := hx2.alloc (.cells #[.slice none 0 0] 40)
  have hy3 : Boxed ((w1.alloc (.cells #[.slice none 0 0] 40)).alloc (.cells #[.slice none 0 0] 40)) (w1.heap.size + 1) 40 (.slice none 0 0) := by
    have := Boxed.new (w1.alloc (.cells #[.slice none 0 0] 40)) 40 (.slice none 0 0)
    rwa [World.size_alloc] at this
  have hs3 := (hs1.alloc (.cells #[.slice none 0 0] 40)).alloc (.cells #[.slice none 0 0] 40)
  have X3 := (X1.alloc (.cells #[.slice none 0 0] 40)).alloc (.cells #[.slice none 0 0] 40)
  have hlt1 : w.heap.size < w1.heap.size := Nat.lt_of_lt_of_le (by simp) x1.size
  replace hx3 := Lib.hid hx3; replace hy3 := Lib.hid hy3; replace hs3 := Lib.hid hs3
  clear hs0 X0 hs1 x1 hx2
  go_wp2_with fail
  refine (kW.out _ X3).mono ?_
  rintro e w2 ⟨A2, c2, rfl, r2, x2, _⟩
  have hx2 := Lib.hid ((x2.block _ hx3.out.lt).trans hx3.out); have hy2 := Lib.hid ((x2.block _ hy3.out.lt).trans hy3.out); have hs2 := Lib.hid (hs3.out.ext x2)
  have X2 := X3.trans x2
  have hlt2 : w1.heap.size + 2 ≤ w2.heap.size := Nat.le_trans (by simp) x2.size
  replace r2 := Lib.hid r2
  clear hx3 hy3 hs3 X3 x2
  go_wp2_with fail
  refine (days_over _ _ _ _).mono ?_
  rintro e w3 ⟨rfl, rfl⟩
  obtain ⟨W0, hW0⟩ : ∃ W0, W0 = w2.alloc (.cells #[.slice A2 P.length c2] 40) := ⟨_, rfl⟩
  have hsz : W0.heap.size = w2.heap.size + 1 := by rw [hW0]; simp
  have XW : Ext w W0 := by rw [hW0]; exact X2.alloc _
  have HBs : Hid (Boxed W0 w2.heap.size 40 (.slice A2 P.length c2)) := by rw [hW0]; exact Boxed.new _ _ _
  have Hx : Hid (Boxed W0 w1.heap.size 40 (.slice none 0 0)) := by rw [hW0]; exact Boxed.alloc hx2.out _
  have Hy : Hid (Boxed W0 (w1.heap.size + 1) 40 (.slice none 0 0)) := by rw [hW0]; exact Boxed.alloc hy2.out _
  have Hs : Hid (Bx W0 w.heap.size cs 35) := by rw [hW0]; exact hs2.out.alloc _
  have HP : Hid (Rs W0 A2 P) := by rw [hW0]; exact r2.out.alloc _
  rw [← hW0]
  clear hW0 hx2 hy2 hs2 r2 X2

  have hseq : Hid (∀ (l : Nat) (J : List Dy → World → Prop) (W : World), Below W0.heap.size W0 W → AbidesFrom W.heap.size J →
      (∀ pre (x : Dy) W1, J pre W1 → x.lies W0.heap.size 1002 W1 → pre.length < (daysL (Sp.norm P)).length → YieldAt Fence.wide (6 - 1 - 1) Try.prog l x.enc W1 fun e W' => e = .returned (.bool true) ∧ J (pre ++ [x]) W' ∧ Kp2 w1.heap.size (w1.heap.size + 1) W1 W') → J [] W →
      CallsIn Fence.wide (6 - 1) Try.prog 126 (#[.func (.yield l) #[] #[]] ++ #[.pointer (some ⟨w2.heap.size, 0, none⟩)]) W fun e W' => (∃ v, e = .returned v) ∧ ∃ xs : List Dy, xs.map (·.2.2) = daysOf P ∧ J xs W') := fun l J W hW hJ hY h0 => by
    have hR : Rs W A2 P := HP.out.ext hW
    exact days1_in (6 - 1) (by omega) l w2.heap.size w1.heap.size (w1.heap.size + 1) _ 1002 W0.heap.size A2 c2 P (daysL (Sp.norm P)) (fun d => partS P d 86400) (fun d => Nat.le_trans (partS_len P d 86400) (by omega)) J W hJ (days_len P) (Nat.le_refl _) hY _ _ ((hW.block _ (by omega)).trans Hx.out) ((hW.block _ (by omega)).trans Hy.out) (fun _ _ e => by cases e) (fun _ _ e => by cases e) ((hW.block _ (by omega)).trans HBs.out) (by omega) (by omega) hR hW.size h0 (pDays hR (by omega) c2) (fun w h d => pOfDay h (by omega) c2 d)
  have hI0 : Hid (OfI w W0 w1.heap.size (w1.heap.size + 1) W0.heap.size R O [] W0) := ⟨⟨_, Hx.out, World.ownsRow_nil _ _ _ _, trivial⟩, ⟨_, Hy.out, World.ownsRow_nil _ _ _ _, trivial⟩, XW, Kp2.refl _ _ _, fun z h => by cases h⟩
  have hdl := days_len P
  go_wp2_with fail
  refine (wpIn_wide (n := 6)).1 ?_
  refine wp_range_mem (by omega) (gf := 126) (lb := #[.pointer (some ⟨w2.heap.size, 0, none⟩)]) rfl (enters_of Try.func126 (by kernel_rfl) rfl) Dy.enc (by intro; rfl) (Dy.lies W0.heap.size 1002) (Kp2 w1.heap.size (w1.heap.size + 1)) (fun xs : List Dy => xs.map (·.2.2) = daysOf P) _
    hseq.out Kp2.trans (fun W l o o' _ h1 h2 => Kp2.putObj W l o o' h1 h2) (OfI w W0 w1.heap.size (w1.heap.size + 1) W0.heap.size R O) (OfI.own _ _ _ _ _ _ _ (by omega)) hI0.out
    (fun z a' W => ∃ Bd, OfA z W0.heap.size Bd W ∧ a' = { tmps := #[.agg cs.toArray, .slice A l.length c, .int .i64 n, .pointer (some ⟨w.heap.size, 0, none⟩), undef, undef, .slice none 0 0, .slice none 0 0, .slice none 0 0, .pointer (some ⟨w1.heap.size, 0, none⟩), .pointer (some ⟨w1.heap.size + 1, 0, none⟩), .slice A2 P.length c2, .pointer (some ⟨Bd, 0, none⟩), undef, .agg cs.toArray, .bool true, .bool false, .slice A l.length c, .int .i64 n, .slice A2 P.length c2, .slice A2 P.length c2, .func (.func 126) #[] #[.pointer (some ⟨w2.heap.size, 0, none⟩)], .slice z.1 z.2.2.length z.2.1, undef, undef, undef, undef, undef, undef, undef, undef, undef, undef, undef, undef, undef, undef, undef, undef, undef, undef, undef, undef, undef, undef, undef, undef, undef, undef], defers := [] })
    (fun z a' _ X Y row hs hg hr => by
      obtain ⟨Bd, hh, he⟩ := hs
      exact ⟨Bd, (OfA.own z W0.heap.size Bd).from _ () X Y row hh hg hr, he⟩)
    ?assign ?body ?done
  case assign =>
    rintro l pre z W K hI hM hK
    have HI := Lib.hid hI; have HM := Lib.hid hM; have HK := Lib.hid hK; clear hI hM hK
    unfold Dy.enc
    gi_wp2
    exact HK.out _ _ ((KeepsOthers.alloc _ _).from _) (Kp2.ext ((Ext.refl _).alloc _)) ((OfI.own _ _ _ _ _ _ _ (by omega)).alloc _ HI.out) ⟨W.heap.size, ⟨⟨_, Boxed.new _ _ _, HM.out.1.alloc _, rfl⟩, HM.out.2⟩, rfl⟩
  case body =>
    rintro l pre z a' W hl hlt ⟨⟨v9, hb9, ho9, _⟩, ⟨v10, hb10, ho10, _⟩, hbel, hkp, hall⟩ ⟨Bd, ⟨⟨v, hbd, hod, rfl⟩, hz⟩, rfl⟩ hN
    obtain ⟨A9, c9, rfl, _, _⟩ := own_form ho9
    obtain ⟨A10, c10, rfl, _, _⟩ := own_form ho10
    have hp1 := catF_len R pre hall (by omega)
    have hp2 := catF_len O pre hall (by omega)
    have hWl : W0.heap.size ≤ W.heap.size := by omega
    have hsx : Bx W w.heap.size cs 35 := hkp.keep _ _ _ _ (by omega) (by omega) Hs.out
    have D := Lib.hid (fun (w13 : World) (A6 A13 : Option Addr) (c6 c13 : Nat) => of_round (B := W0.heap.size) (n₀ := W0.heap.size) (R := R) (O := O) (w13 := w13) (A6 := A6) (A13 := A13) (c6 := c6) (c13 := c13) hb9 hb10 (by omega) (by omega) (by omega) hbel hkp hall hz)
    have hfl := fun n => first_length z.2.2 n
    have f1 := hfl R
    have f2 := hfl O
    clear hfl
    have hdr : Rs W z.1 z.2.2 := Rs.own hod
    have HT : Hid (OfT cs w.heap.size w1.heap.size (w1.heap.size + 1) (.slice A9 (catF R pre).length c9) (.slice A10 (catF O pre).length c10) (W.drewN 1)) := ⟨hsx.drewN 1, hb9, hb10⟩
    have hRd := Lib.hid (hdr.drewN 1)
    have hBd : Hid (Boxed (W.drewN 1) Bd 40 (.slice z.1 z.2.2.length z.2.1)) := hbd
    have hR9 : Hid (Rs (W.drewN 1) A9 (catF R pre)) := (Rs.own ho9).drewN 1
    have hR10 : Hid (Rs (W.drewN 1) A10 (catF O pre)) := (Rs.own ho10).drewN 1
    have XX : Ext W (W.drewN 1) := (Ext.refl W).drewN 1
    clear hb9 hb10 ho9 ho10 hbel hkp hall hsx hdr hbd hod
    gi_wp2
    refine region_until_round (T := OfT cs w.heap.size w1.heap.size (w1.heap.size + 1) (.slice A9 (catF R pre).length c9) (.slice A10 (catF O pre).length c10)) (z := 14) l _ 16 rfl (by kernel_rfl) (by kernel_rfl) (fun _ _ h => h) ?_
    refine un_take (i := 0) [5, 6, 14] rfl (by kernel_rfl) (by kernel_rfl) (by kernel_rfl) (by kernel_rfl) rfl (by decide) (v := .slice A9 (catF R pre).length c9) (.inl ⟨rfl, fun w hT => by
      have c := hT.2.1.cell
      go_simp⟩) HT.out _ (by simp [Act.put]; rfl) ?_
    refine un_move (i := 1) [4, 6, 14] rfl (by kernel_rfl) (by kernel_rfl) (by kernel_rfl) (by kernel_rfl) rfl (by decide) _ rfl rfl HT.out _ (by simp [Act.put]; rfl) ?_
    refine un_take (i := 2) [3, 4, 6, 14] rfl (by kernel_rfl) (by kernel_rfl) (by kernel_rfl) (by kernel_rfl) rfl (by decide) (v := .pointer (some ⟨w.heap.size, 13, none⟩)) (.inl ⟨rfl, fun w _ => by go_simp⟩) HT.out _ (by simp [Act.put]; rfl) ?_
    refine un_take (i := 3) [4, 6, 14] rfl (by kernel_rfl) (by kernel_rfl) (by kernel_rfl) (by kernel_rfl) rfl (by decide) (v := .int .i64 R) (.inl ⟨rfl, fun w hT => by
      have c := hT.1.cell 13 _ c13
      go_simp⟩) HT.out _ (by simp [Act.put]; rfl) ?_
    refine un_take (i := 7) [12, 13, 14] rfl (by kernel_rfl) (by kernel_rfl) (by kernel_rfl) (by kernel_rfl) rfl (by decide) (v := .slice A10 (catF O pre).length c10) (.inl ⟨rfl, fun w hT => by
      have c := hT.2.2.cell
      go_simp⟩) HT.out _ (by simp [Act.put]; rfl) ?_
    refine un_move (i := 8) [11, 13, 14] rfl (by kernel_rfl) (by kernel_rfl) (by kernel_rfl) (by kernel_rfl) rfl (by decide) _ rfl rfl HT.out _ (by simp [Act.put]; rfl) ?_
    refine un_take (i := 9) [10, 11, 13, 14] rfl (by kernel_rfl) (by kernel_rfl) (by kernel_rfl) (by kernel_rfl) rfl (by decide) (v := .pointer (some ⟨w.heap.size, 14, none⟩)) (.inl ⟨rfl, fun w _ => by go_simp⟩) HT.out _ (by simp [Act.put]; rfl) ?_
    refine un_take (i := 10) [11, 13, 14] rfl (by kernel_rfl) (by kernel_rfl) (by kernel_rfl) (by kernel_rfl) rfl (by decide) (v := .int .i64 O) (.inl ⟨rfl, fun w hT => by
      have c := hT.1.cell 14 _ c14
      go_simp⟩) HT.out _ (by simp [Act.put]; rfl) ?_
    refine un_all (i := 4) rfl (by kernel_rfl) rfl ?_
    go_wp2_with fail
    refine (first_day hBd.out hRd.out (by omega) bR).mono ?_
    rintro e w4 ⟨A4, c4, rfl, r4, x4, _⟩
    have x5 := x4.alloc (.cells #[.slice A9 (catF R pre).length c9, .slice A4 (Sp.first z.2.2 R).length c4] 40)
    have HT4 := Lib.hid (HT.out.ext x4)
    have HT5 := Lib.hid (HT.out.ext x5); have hRd5 := Lib.hid (hRd.out.ext x5); have hBd5 : Hid (Boxed _ Bd 40 _) := (x5.block Bd hBd.out.lt).trans hBd.out
    have hR9b := Lib.hid (hR9.out.ext x5); have hR10b := Lib.hid (hR10.out.ext x5)
    have hF5 : Hid (Rs _ A4 (Sp.first z.2.2 R)) := r4.alloc (.cells #[.slice A9 (catF R pre).length c9, .slice A4 (Sp.first z.2.2 R).length c4] 40)
    have hb5 := Lib.hid (Bx.new w4 [.slice A9 (catF R pre).length c9, .slice A4 (Sp.first z.2.2 R).length c4] 40)
    have XX5 := Lib.hid (XX.trans x5)
    clear hRd hBd hR9 hR10 HT x4 x5 r4 XX
    refine ⟨HT4.out, ?_⟩
    refine un_all (i := 5) rfl (by kernel_rfl) rfl ?_
    go_wp2_with fail
    refine ⟨HT5.out, ?_⟩
    refine un_all (i := 6) rfl (by kernel_rfl) rfl ?_
    go_wp2_with fail
    refine (pConcat w4.heap.size c9 c4 hb5.out hR9b.out hF5.out (by omega) (by omega)).mono ?_
    rintro e w6 ⟨A6, c6, rfl, _, x6, o6⟩
    have HT6 := Lib.hid (HT5.out.ext x6); have hRd6 := Lib.hid (hRd5.out.ext x6); have hBd6 : Hid (Boxed _ Bd 40 _) := (x6.block Bd hBd5.out.lt).trans hBd5.out
    have hR10c := Lib.hid (hR10b.out.ext x6)
    have hw6 : W0.heap.size ≤ (w4.alloc (.cells #[.slice A9 (catF R pre).length c9, .slice A4 (Sp.first z.2.2 R).length c4] 40)).heap.size := Nat.le_trans hWl XX5.out.size
    have HO6 := Lib.hid (own_base o6 hw6)
    have XX6 := Lib.hid (XX5.out.trans x6)
    clear HT5 hRd5 hBd5 hR10b hR9b hF5 hb5 XX5 x6 o6 hw6 HT4
    refine ⟨HT6.out, ?_⟩
    refine un_all (i := 11) rfl (by kernel_rfl) rfl ?_
    go_wp2_with fail
    refine (first_day hBd6.out hRd6.out (by omega) bO).mono ?_
    rintro e w11 ⟨A11, c11, rfl, r11, x11, _⟩
    have x12 := x11.alloc (.cells #[.slice A10 (catF O pre).length c10, .slice A11 (Sp.first z.2.2 O).length c11] 40)
    have HT11 := Lib.hid (HT6.out.ext x11)
    have HT12 := Lib.hid (HT6.out.ext x12)
    have hR10d := Lib.hid (hR10c.out.ext x12)
    have hF12 : Hid (Rs _ A11 (Sp.first z.2.2 O)) := r11.alloc (.cells #[.slice A10 (catF O pre).length c10, .slice A11 (Sp.first z.2.2 O).length c11] 40)
    have hb12 := Lib.hid (Bx.new w11 [.slice A10 (catF O pre).length c10, .slice A11 (Sp.first z.2.2 O).length c11] 40)
    have HO12 := Lib.hid (own_below HO6.out x12)
    have XX12 := Lib.hid (XX6.out.trans x12)
    clear HT6 hRd6 hBd6 hR10c HO6 XX6 x11 x12 r11
    refine ⟨HT11.out, ?_⟩
    refine un_all (i := 12) rfl (by kernel_rfl) rfl ?_
    go_wp2_with fail
    refine ⟨HT12.out, ?_⟩
    refine un_all (i := 13) rfl (by kernel_rfl) rfl ?_
    go_wp2_with fail
    refine (pConcat w11.heap.size c10 c11 hb12.out hR10d.out hF12.out (by omega) (by omega)).mono ?_
    rintro e w13 ⟨A13, c13', rfl, _, x13, o13⟩
    have HT13 := Lib.hid (HT12.out.ext x13)
    have hw13 : W0.heap.size ≤ (w11.alloc (.cells #[.slice A10 (catF O pre).length c10, .slice A11 (Sp.first z.2.2 O).length c11] 40)).heap.size := Nat.le_trans hWl XX12.out.size
    have E := Lib.hid (D.out w13 A6 A13 c6 c13' (XX12.out.trans x13) (own_below HO12.out x13) (own_base o13 hw13))
    have k9 := HT13.out.2.1.cell
    have k10 := HT13.out.2.2.cell
    have z9 := HT13.out.2.1.frozen
    have z10 := HT13.out.2.2.frozen
    have hne : w1.heap.size + 1 ≠ w1.heap.size := by omega
    have hne2 : w1.heap.size ≠ w1.heap.size + 1 := by omega
    clear HT12 HT11 hR10d hF12 hb12 HO12 XX12 x13 o13 hw13 D
    refine ⟨HT13.out, ?_⟩
    refine un_all (i := 14) rfl (by kernel_rfl) rfl ?_
    go_wp2_with fail
    refine un_all (i := 15) rfl (by kernel_rfl) rfl ?_
    go_wp2_with fail
    refine un_done (by kernel_rfl) ?_ _
    refine ⟨rfl, ?_⟩
    replace hsz := Lib.hid hsz
    gi_wp2
    have E2 := E.out
    simp only [List.length_append] at E2
    exact E2
  case done =>
    rintro D xs W hD hxs ⟨⟨v9, hb9, ho9, _⟩, ⟨v10, hb10, ho10, _⟩, hbel, hkp, hall⟩ hdef
    have hxl : xs.length ≤ 371 := by have := congrArg List.length hxs; simp [daysOf] at this; omega
    have hp1 := catF_len R xs hall hxl
    have hp2 := catF_len O xs hall hxl
    rw [catF_days hxs R] at ho9 hp1
    rw [catF_days hxs O] at ho10 hp2
    have hsx : Bx W w.heap.size cs 35 := hkp.keep _ _ _ _ (by omega) (by omega) Hs.out
    have hP : Rs W A2 P := Rd.kp2 HP.out hkp fun hl b off hA => ⟨HP.out.not_box (fun z => ⟨z.1, rfl⟩) Hx.out (fun _ _ e => by cases e) hl b off hA, HP.out.not_box (fun z => ⟨z.1, rfl⟩) Hy.out (fun _ _ e => by cases e) hl b off hA⟩
    have hWl : W0.heap.size ≤ W.heap.size := hkp.size
    obtain ⟨rr, hrr⟩ : ∃ r, r = shortL P R := ⟨_, rfl⟩
    obtain ⟨oo, hoo⟩ : ∃ r, r = shortL P O := ⟨_, rfl⟩
    rw [← hrr] at ho9 hp1
    rw [← hoo] at ho10 hp2
    rw [← hrr, ← hoo] at hq
    obtain ⟨A9, c9, rfl, _, _⟩ := own_form ho9
    obtain ⟨A10, c10, rfl, _, _⟩ := own_form ho10
    have cR := fun (W' : World) (X : Ext W W') => cFirst ((Rs.own ho9).ext X) (by omega) bV c9
    rw [← hq.out.1] at cR
    have hRl : (overR P R V).length ≤ 371742 := by rw [hq.out.1]; exact Nat.le_trans (first_length _ _) hp1
    obtain ⟨qr, hqr⟩ : ∃ r, r = overR P R V := ⟨_, rfl⟩
    have HQ := Lib.hid hqr
    rw [← hqr] at cR hRl hq ⊢
    have cO := fun (W' : World) (X : Ext W W') A3 c3 h3 => cMinus (A2 := A3) (b := qr) ((Rs.own ho10).ext X) h3 (by omega) (by omega) c10 c3
    have cD := fun (W' : World) (X : Ext W W') => cMinus (hP.ext X) ((Rs.own ho10).ext X) (by omega) (by omega) c2 c10
    rw [← hq.out.2.1] at cO
    rw [← hq.out.2.2] at cD
    have c9' := hb9.cell
    have c10' := Lib.hid hb10
    have h15 := hsx.cell 15 _ c15
    have CR := Lib.hid cR; have CO := Lib.hid cO; have CD := Lib.hid cD; have HD := Lib.hid hdef; have HB := Lib.hid hbel
    clear cR cO cD hdef hbel hb9 hb10 ho9 ho10 hsx hkp hall hP hq hrr hoo hqr
    go_wp2_with fail
    refine (CR.out _ (Ext.refl _)).mono ?_
    rintro e w4 ⟨A4, c4, rfl, r4, x4, o4⟩
    have XW4 := Lib.hid x4; have R4 := Lib.hid r4; have O4 := Lib.hid (own_base o4 hWl)
    have b4 : Hid (Boxed w4 (w1.heap.size + 1) 40 (.slice A10 oo.length c10)) := (x4.block _ c10'.out.lt).trans c10'.out
    clear x4 r4 o4 c10' CR h15 c9'
    go_wp2_with fail
    have HT : Hid ((fun w' => Boxed w' (w1.heap.size + 1) 40 (.slice A10 oo.length c10)) (w4.drewN 1)) := b4.out
    refine un_start (T := fun w' => Boxed w' (w1.heap.size + 1) 40 (.slice A10 oo.length c10)) (z := 7) 10 rfl (by kernel_rfl) ?_
    refine un_move (i := 0) [7] rfl (by kernel_rfl) (by kernel_rfl) (by kernel_rfl) (by kernel_rfl) rfl (by decide) _ rfl rfl HT.out _ (by simp [Act.put]; rfl) ?_
    refine un_take (i := 1) [3, 6, 7] rfl (by kernel_rfl) (by kernel_rfl) (by kernel_rfl) (by kernel_rfl) rfl (by decide) (v := .slice A10 oo.length c10) (.inl ⟨rfl, fun w hT => by
      have c := hT.cell
      go_simp⟩) HT.out _ (by simp [Act.put]; rfl) ?_
    refine un_move (i := 2) [3, 6, 7] rfl (by kernel_rfl) (by kernel_rfl) (by kernel_rfl) (by kernel_rfl) rfl (by decide) _ rfl rfl HT.out _ (by simp [Act.put]; rfl) ?_
    refine un_move (i := 4) [6, 7] rfl (by kernel_rfl) (by kernel_rfl) (by kernel_rfl) (by kernel_rfl) rfl (by decide) _ rfl rfl HT.out _ (by simp [Act.put]; rfl) ?_
    refine un_take (i := 5) [6, 7] rfl (by kernel_rfl) (by kernel_rfl) (by kernel_rfl) (by kernel_rfl) rfl (by decide) (v := .slice A10 oo.length c10) (.inl ⟨rfl, fun w hT => by
      have c := hT.cell
      go_simp⟩) HT.out _ (by simp [Act.put]; rfl) ?_
    refine un_all (i := 3) rfl (by kernel_rfl) rfl ?_
    go_wp2_with fail
    refine (CO.out _ (XW4.out.drewN 1) A4 c4 (R4.out.drewN 1)).mono ?_
    rintro e w5 ⟨A5, c5, rfl, _, x5, o5⟩
    have XW5 := Lib.hid ((XW4.out.drewN 1).trans x5)
    have O5 : Hid (w5.ownsRow W0.heap.size 42 2 (.slice A5 (overO P R O V).length c5) (overO P R O V).length (flat encS (overO P R O V))) := own_base o5 (Nat.le_trans hWl (XW4.out.drewN 1).size)
    have O4b := Lib.hid (own_below O4.out (((Ext.refl w4).drewN 1).trans x5))
    have HT5 : Hid ((fun w' => Boxed w' (w1.heap.size + 1) 40 (.slice A10 oo.length c10)) w5) := (x5.block _ HT.out.lt).trans HT.out
    clear x5 o5 HT O4 b4 XW4 R4
    refine ⟨HT5.out, ?_⟩
    refine un_all (i := 6) rfl (by kernel_rfl) rfl ?_
    go_wp2_with fail
    refine (CD.out _ XW5.out).mono ?_
    rintro e w6 ⟨A6, c6, rfl, _, x6, o6⟩
    have XW6 := Lib.hid (XW5.out.trans x6)
    have O6 : Hid (w6.ownsRow W0.heap.size 42 2 (.slice A6 (overD P O).length c6) (overD P O).length (flat encS (overD P O))) := own_base o6 (Nat.le_trans hWl XW5.out.size)
    have O5b := Lib.hid (own_below O5.out x6); have O4c := Lib.hid (own_below O4b.out x6)
    have HT6 : Hid ((fun w' => Boxed w' (w1.heap.size + 1) 40 (.slice A10 oo.length c10)) w6) := (x6.block _ HT5.out.lt).trans HT5.out
    clear x6 o6 HT5 O5 O4b XW5
    refine ⟨HT6.out, ?_⟩
    refine un_all (i := 7) rfl (by kernel_rfl) rfl ?_
    go_wp2_with fail
    refine un_all (i := 8) rfl (by kernel_rfl) rfl ?_
    go_wp2_with fail
    refine un_all (i := 9) rfl (by kernel_rfl) rfl ?_
    go_wp2_with fail
    refine un_done (by kernel_rfl) ?_ _
    go_wp2
    have hK6 : w6.heap[D]? = some (.deferred (some [])) := (XW6.out.block D (Array.getElem?_eq_some_iff.1 HD.out).1).trans HD.out
    have O4d := O4c.out
    rw [HQ.out] at O4d
    refine ⟨by simp, .inl ⟨_, _, rfl, run_takeDeferred hK6, ?_⟩⟩
    refine ⟨_, results_tmp3 rfl _ _ _, A4, c4, A5, c5, A6, c6, by rw [← HQ.out]; rfl, ⟨Rs.own (ownsRow_putObj O4d _ hK6 rfl), Rs.own (ownsRow_putObj O5b.out _ hK6 rfl), Rs.own (ownsRow_putObj O6.out _ hK6 rfl)⟩, ?_⟩
    exact (Ext.below0 HB.out XW6.out).trans (belowK_b (w := w) (Nat.le_refl _) w6 D _ _ (by omega) hK6 rfl rfl)
end Go.Proofs.Ytnhmibfgaoealaa
