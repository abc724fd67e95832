/-
  Laws of layer 14: NightTells.
-/
import Derived.Test.YtnhmibfgaoealaaNd
import Derived.Test.YtnhmibfgaoealaaEg
import Derived.Test.YtnhmibfgaoealaaLu
namespace Go.Proofs.Ytnhmibfgaoealaa
open Go.RowKit BigFrame
set_option linter.unusedVariables false
set_option linter.unusedSimpArgs false


set_option maxRecDepth 100000 in
set_option maxHeartbeats 2000000 in
theorem nightTells0 (cs : List Value) (hcs : cs.length = 23) (l : List Sp.S) (A : Option Addr) (c : Nat) (t : Int) (p : Prop) (R : List Sp.S) (i : Bool) (w : World) (h : Rs w A l) (hR : p → R.length ≤ 900000) (kF : ∀ W, Ext w W → ∀ A c, Rs W A l → Calls Try.prog 53 #[.agg cs.toArray, .slice A l.length c] W (RetP W p)) (kO : p → ∀ W, Ext w W → ∀ A c, Rs W A l → Calls Try.prog 54 #[.agg cs.toArray, .slice A l.length c] W (RetS W R)) (kR : p → ∀ W, Ext w W → ∀ A c, Rs W A l → Calls Try.prog 55 #[.agg cs.toArray, .slice A l.length c] W fun e w' => ∃ A' c', e = .returned (.slice A' R.length c') ∧ Rs w' A' R ∧ Ext W w') (kI : p → ∀ W, Ext w W → Calls Try.prog 56 #[.agg cs.toArray, .int .i64 t] W (RetB W i)) (kJ : p → ∀ W, Ext w W → Calls Try.prog 57 #[.agg cs.toArray, .int .i64 t] W (RetB W i)) :
    Calls Try.prog 13 #[.agg cs.toArray, .slice A l.length c, .int .i64 t] w (RetB w true) := by
  replace kF := Lib.hid kF
  replace kO := Lib.hid kO
  replace kR := Lib.hid kR
  replace kI := Lib.hid kI
  replace kJ := Lib.hid kJ
  replace h := Lib.hid h
  replace hR := Lib.hid hR
  have hi := Lib.hid (su_size hcs)
  clear hcs
  have hs0 := Bx.new w cs 35
  have X0 := (Ext.refl w).alloc (.cells cs.toArray 35)
  have hl0 := h.out.alloc (.cells cs.toArray 35)
  go_enter Try.func13, Try.ntmps13
  go_wp2_with fail
  refine (awake14 _).mono ?_
  rintro e w1 ⟨rfl, x1⟩
  have hs1 := hs0.ext x1; clear hs0
  have hl1 := hl0.ext x1; clear hl0
  have X1 := X0.trans x1
  go_wp2_with (first | (refine load_box rfl 35 _ rfl _ rfl _ _ hs1 _ Try.underlying35 rfl hi.out ?_))
  refine (kF.out _ X1 _ _ hl1).mono ?_
  rintro e w2 ⟨⟨b, rfl, hb⟩, x2⟩
  have hs2 := hs1.ext x2; clear hs1
  have hl2 := hl1.ext x2; clear hl1
  have X2 := X1.trans x2
  cases b
  · clear hb
    go_wp2
    go_ret
    exact ⟨rfl, X2⟩
  · have hp := hb rfl
    clear hb
    have lR := hR.out hp
    go_wp2_with fail
    refine held_start (S := fun w' => Bx w' w.heap.size cs 35) 20 rfl (by kernel_rfl) ?_
    refine held_move (i := 0) rfl (by kernel_rfl) (by kernel_rfl) (by kernel_rfl) _ rfl rfl ((hs2.drewN 1)) _ (by simp [Act.put]; rfl) ?_
    refine held_move (i := 1) rfl (by kernel_rfl) (by kernel_rfl) (by kernel_rfl) _ rfl rfl ((hs2.drewN 1)) _ (by simp [Act.put]; rfl) ?_
    refine held_box (i := 2) rfl (by kernel_rfl) (by kernel_rfl) (by kernel_rfl) rfl 35 _ rfl _ rfl cs 35 (fun w h => h) _ Try.underlying35 rfl hi.out ((hs2.drewN 1)) _ (by simp [Act.put]; rfl) ?_
    refine held_move (i := 3) rfl (by kernel_rfl) (by kernel_rfl) (by kernel_rfl) _ rfl rfl ((hs2.drewN 1)) _ (by simp [Act.put]; rfl) ?_
    refine held_box (i := 5) rfl (by kernel_rfl) (by kernel_rfl) (by kernel_rfl) rfl 35 _ rfl _ rfl cs 35 (fun w h => h) _ Try.underlying35 rfl hi.out ((hs2.drewN 1)) _ (by simp [Act.put]; rfl) ?_
    refine held_move (i := 6) rfl (by kernel_rfl) (by kernel_rfl) (by kernel_rfl) _ rfl rfl ((hs2.drewN 1)) _ (by simp [Act.put]; rfl) ?_
    refine held_all (i := 4) rfl (by kernel_rfl) rfl ?_
    go_wp2_with fail
    refine (kO.out hp _ (X2.drewN 1) _ _ (hl2.drewN 1)).mono ?_
    rintro e w3 ⟨A3, cap3, rfl, r3, x3, _⟩
    have hs3 := (hs2.drewN 1).ext x3
    have hl3 := (hl2.drewN 1).ext x3
    have X3 := (X2.drewN 1).trans x3
    refine ⟨hs3, ?_⟩
    refine held_all (i := 7) rfl (by kernel_rfl) rfl ?_
    go_wp2_with fail
    refine (kR.out hp _ X3 _ _ hl3).mono ?_
    rintro e w4 ⟨A4, cap4, rfl, r4, x4⟩
    have hs4 := hs3.ext x4; clear hs3
    have hl4 := hl3.ext x4; clear hl3
    have hr4 := r3.ext x4
    have X4 := X3.trans x4
    refine ⟨hs4, ?_⟩
    refine held_all (i := 8) rfl (by kernel_rfl) rfl ?_
    go_wp2_with fail
    refine (bEq (cSame hr4 r4 lR _ _) (b' := true) (decide_eq_true rfl)).mono ?_
    rintro e w5 ⟨rfl, x5⟩
    have hs5 := hs4.ext x5; clear hs4
    have hl5 := hl4.ext x5; clear hl4
    have hr5 := hr4.ext x5; clear hr4
    have hq5 := r4.ext x5
    have X5 := X4.trans x5
    refine ⟨hs5, ?_⟩
    refine wpAnyH_take (i := 9) (v := .bool true) rfl (by kernel_rfl) (by kernel_rfl) (by kernel_rfl) (fun _ _ _ h => h) (.inl ⟨rfl, fun w _ => by first | (go_simp; done) | (go_simp; rfl)⟩) (hs5) ?_
    simp only [Act.put, List.setIfInBounds_toArray, List.set_cons_zero, List.set_cons_succ]
    refine held_move (i := 10) rfl (by kernel_rfl) (by kernel_rfl) (by kernel_rfl) _ rfl rfl (hs5) _ (by simp [Act.put]; rfl) ?_
    refine held_box (i := 11) rfl (by kernel_rfl) (by kernel_rfl) (by kernel_rfl) rfl 35 _ rfl _ rfl cs 35 (fun w h => h) _ Try.underlying35 rfl hi.out (hs5) _ (by simp [Act.put]; rfl) ?_
    refine held_move (i := 12) rfl (by kernel_rfl) (by kernel_rfl) (by kernel_rfl) _ rfl rfl (hs5) _ (by simp [Act.put]; rfl) ?_
    refine held_box (i := 14) rfl (by kernel_rfl) (by kernel_rfl) (by kernel_rfl) rfl 35 _ rfl _ rfl cs 35 (fun w h => h) _ Try.underlying35 rfl hi.out (hs5) _ (by simp [Act.put]; rfl) ?_
    refine held_move (i := 15) rfl (by kernel_rfl) (by kernel_rfl) (by kernel_rfl) _ rfl rfl (hs5) _ (by simp [Act.put]; rfl) ?_
    refine held_all (i := 13) rfl (by kernel_rfl) rfl ?_
    go_wp2_with fail
    refine (kI.out hp _ X5).mono ?_
    rintro e w6 ⟨rfl, x6⟩
    have hs6 := hs5.ext x6; clear hs5
    have hl6 := hl5.ext x6; clear hl5
    have hr6 := hr5.ext x6; clear hr5
    have hq6 := hq5.ext x6; clear hq5
    have X6 := X5.trans x6
    refine ⟨hs6, ?_⟩
    refine held_all (i := 16) rfl (by kernel_rfl) rfl ?_
    go_wp2_with fail
    refine (kJ.out hp _ X6).mono ?_
    rintro e w7 ⟨rfl, x7⟩
    have hs7 := hs6.ext x7; clear hs6
    have hl7 := hl6.ext x7; clear hl6
    have hr7 := hr6.ext x7; clear hr6
    have hq7 := hq6.ext x7; clear hq6
    have X7 := X6.trans x7
    refine ⟨hs7, ?_⟩
    refine wpAnyH_take (i := 17) (v := .bool true) rfl (by kernel_rfl) (by kernel_rfl) (by kernel_rfl) (fun _ _ _ h => h) (.inl ⟨rfl, fun w _ => by cases i <;> first | (go_simp; done) | (go_simp; rfl)⟩) (hs7) ?_
    simp only [Act.put, List.setIfInBounds_toArray, List.set_cons_zero, List.set_cons_succ]
    refine wpAnyH_take (i := 18) (v := .bool true) rfl (by kernel_rfl) (by kernel_rfl) (by kernel_rfl) (fun _ _ _ h => h) (.inl ⟨rfl, fun w _ => by first | (go_simp; done) | (go_simp; rfl)⟩) (hs7) ?_
    simp only [Act.put, List.setIfInBounds_toArray, List.set_cons_zero, List.set_cons_succ]
    refine held_assign (i := 19) rfl (by kernel_rfl) (by kernel_rfl) (by kernel_rfl) _ rfl rfl (hs7) _ (by simp [Act.put]; rfl) ?_
    refine held_done (by kernel_rfl) ?_ _
    go_wp2
    go_ret
    exact ⟨rfl, X7⟩

theorem nightS_len2 (s : Su) (l : List Sp.S) (h : l.length ≤ 1000) : (nightS s l).length ≤ 900000 := by
  unfold nightS
  split
  · unfold nightOf
    have h1 := Nat.le_trans (Sp.and_length l (nightsL s.nfrom s.nto (daysL (Sp.norm l)))) (Nat.add_le_add (Sp.norm_length l) (Sp.norm_length _))
    have h2 := nightsL_len s.nfrom s.nto (daysL (Sp.norm l))
    have h3 := days_len l
    omega
  · simp
theorem tells14 (s : Su) (g : Sh) (ok : SuOk s) (l : List Sp.S) (A : Option Addr) (c : Nat) (hl : l.length ≤ maxLen) (t : Int) (w : World) (r : SuR w s g) (h : Rs w A l) :
    Calls Try.prog 13 #[.agg (s.cells g).toArray, .slice A l.length c, .int .i64 t] w (RetB w true) := by
  have a1 : Few14 s l → l.length ≤ 900000 := fun p => by have := p.2.1; omega
  have a2 : Few14 s l → (nightS s l).length ≤ 900000 := fun p => nightS_len2 s l (by have := p.2.1; omega)
  exact nightTells0 (s.cells g) rfl l A c t _ (nightS s l) (nightIsS s t) w h a2 (fun W X A c h => pFew14 s g h hl c) (fun p W X A c h => pNightOf ok p.1 (r.ext X) h (a1 p) c) (fun p W X A c h => pRNight ok (r.ext X) h (a1 p) c) (fun p W X => pNightIs ok p.1 (r.ext X) t) (fun p W X => pRIs ok (r.ext X) t)
end Go.Proofs.Ytnhmibfgaoealaa
