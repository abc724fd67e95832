/-
  Laws of layer 16.
-/
import Derived.Test.YtnhmibfgaoealaaOr
namespace Go.Proofs.Ytnhmibfgaoealaa
open Go.RowKit
set_option linter.unusedVariables false
set_option linter.unusedSimpArgs false

theorem wsum_bd (f : Int → Int) (w : Int) (hf : ∀ d, 0 ≤ f d ∧ f d ≤ 32054400) (k : Nat) : 0 ≤ wsum f w k ∧ wsum f w k ≤ 32054400 * k := by
  induction k with
  | zero => simp [wsum]
  | succ k ih =>
    have := hf (7 * w + k)
    show 0 ≤ wsum f w k + f (7 * w + k) ∧ wsum f w k + f (7 * w + k) ≤ 32054400 * ((k + 1 : Nat) : Int)
    omega
theorem wsum_bd2 (f : Int → Int) (w s : Int) (k : Nat) (hf : ∀ d, 0 ≤ f d ∧ f d ≤ 32054400) (h : s = wsum f w k) (hk : k ≤ 7) : 0 ≤ s ∧ s ≤ 224380800 := by
  have := wsum_bd f w hf k
  rw [h]; omega
theorem size_bd (l : List Sp.S) : 0 ≤ Sp.size l ∧ Sp.size l ≤ 32054400 := by
  have h := Sp.size_nonneg l
  have k := Sp.size_le l
  simp only [Sp.MT] at k
  omega

set_option maxRecDepth 100000 in
set_option maxHeartbeats 2000000 in
theorem overSizes0 (cs : List Value) (hcs : cs.length = 23) (R O V : Int) (c13 : cs[13]? = some (.int .i64 R)) (c14 : cs[14]? = some (.int .i64 O)) (c15 : cs[15]? = some (.int .i64 V)) (l : List Sp.S) (A : Option Addr) (c : Nat) (d : Int) (hd : 0 ≤ d ∧ d ≤ 255) (p : Prop) (a b e : List Sp.S) (w : World) (h : Rs w A l) (kF : ∀ W, Ext w W → ∀ A c, Rs W A l → Calls Try.prog 61 #[.agg cs.toArray, .slice A l.length c] W (RetP W p)) (kC : p → ∀ W, Ext w W → Calls Try.prog 59 #[.agg cs.toArray] W (RetB W false)) :
    Calls Try.prog 21 #[.agg cs.toArray, .slice A l.length c, .int .u8 d] w (RetB w true) := by
  replace kF := Lib.hid kF
  replace kC := Lib.hid kC
  replace h := Lib.hid h
  have hi := Lib.hid (su_size hcs)
  clear hcs
  have hs0 := Bx.new w cs 35
  have X0 := (Ext.refl w).alloc (.cells cs.toArray 35)
  have hl0 := h.out.alloc (.cells cs.toArray 35)
  go_enter Try.func21, Try.ntmps21
  go_wp2_with fail
  refine (awake16 _).mono ?_
  rintro e w1 ⟨rfl, x1⟩
  have hs1 := hs0.ext x1; clear hs0
  have hl1 := hl0.ext x1; clear hl0
  have X1 := X0.trans x1
  go_wp2_with (first | (refine load_box rfl 35 _ rfl _ rfl _ _ hs1 _ Try.underlying35 rfl hi.out ?_))
  refine (kF.out _ X1 _ _ hl1).mono ?_
  rintro e w2 ⟨⟨b, rfl, hb⟩, x2⟩
  have hs2 := hs1.ext x2; clear hs1
  have hl2 := hl1.ext x2; clear hl1
  have X2 := X1.trans x2
  cases b
  · clear hb
    go_wp2
    go_ret
    exact ⟨rfl, X2⟩
  · have hp := hb rfl
    clear hb
    go_wp2_with (first | (refine load_box rfl 35 _ rfl _ rfl _ _ hs2 _ Try.underlying35 rfl hi.out ?_))
    refine (kC.out hp _ X2).mono ?_
    rintro e w3 ⟨rfl, x3⟩
    have hs3 := hs2.ext x3; clear hs2
    have hl3 := hl2.ext x3; clear hl2
    have X3 := X2.trans x3
    go_wp2
    go_ret
    exact ⟨rfl, X3⟩

set_option maxRecDepth 100000 in
set_option maxHeartbeats 2000000 in
theorem overSizes1 (cs : List Value) (hcs : cs.length = 23) (R O V : Int) (c13 : cs[13]? = some (.int .i64 R)) (c14 : cs[14]? = some (.int .i64 O)) (c15 : cs[15]? = some (.int .i64 V)) (l : List Sp.S) (A : Option Addr) (c : Nat) (d : Int) (hd : 0 ≤ d ∧ d ≤ 255) (p : Prop) (a b e : List Sp.S) (w : World) (h : Rs w A l) (kF : ∀ W, Ext w W → ∀ A c, Rs W A l → Calls Try.prog 61 #[.agg cs.toArray, .slice A l.length c] W (RetP W p)) (kC : p → ∀ W, Ext w W → Calls Try.prog 59 #[.agg cs.toArray] W (RetB W true)) (kO : p → ∀ W, Ext w W → ∀ A c, Rs W A l → Calls Try.prog 62 #[.agg cs.toArray, .slice A l.length c, .int .i64 (d % 53)] W (Ret3S W a b e)) (h30 : p → l.length ≤ 30) (bl : p → a.length ≤ 30000 ∧ b.length ≤ 60000 ∧ e.length ≤ 30000) (bR : 0 ≤ R ∧ R ≤ O ∧ O ≤ 86400) (bV : 0 ≤ V ∧ V ≤ 604800) (eA : Sp.size a = min (wsum (fun d => min (Sp.size (partS l d 86400)) R) (d % 53) 7) V) (eD : Sp.size e = wsum (fun d => max 0 (Sp.size (partS l d 86400) - O)) (d % 53) 7) (eB : Sp.size b = wsum (fun d => Sp.size (partS l d 86400)) (d % 53) 7 - min (wsum (fun d => min (Sp.size (partS l d 86400)) R) (d % 53) 7) V - wsum (fun d => max 0 (Sp.size (partS l d 86400) - O)) (d % 53) 7) :
    Calls Try.prog 21 #[.agg cs.toArray, .slice A l.length c, .int .u8 d] w (RetB w true) := by
  replace kF := Lib.hid kF
  replace kC := Lib.hid kC
  replace h := Lib.hid h
  replace kO := Lib.hid kO
  replace h30 := Lib.hid h30
  replace eA := Lib.hid eA
  replace eB := Lib.hid eB
  replace eD := Lib.hid eD
  replace bl := Lib.hid bl
  have hi := Lib.hid (su_size hcs)
  clear hcs
  have hs0 := Bx.new w cs 35
  have X0 := (Ext.refl w).alloc (.cells cs.toArray 35)
  have hl0 := h.out.alloc (.cells cs.toArray 35)
  go_enter Try.func21, Try.ntmps21
  go_wp2_with fail
  refine (awake16 _).mono ?_
  rintro e w1 ⟨rfl, x1⟩
  have hs1 := hs0.ext x1; clear hs0
  have hl1 := hl0.ext x1; clear hl0
  have X1 := X0.trans x1
  go_wp2_with (first | (refine load_box rfl 35 _ rfl _ rfl _ _ hs1 _ Try.underlying35 rfl hi.out ?_))
  refine (kF.out _ X1 _ _ hl1).mono ?_
  rintro e w2 ⟨⟨b, rfl, hb⟩, x2⟩
  have hs2 := hs1.ext x2; clear hs1
  have hl2 := hl1.ext x2; clear hl1
  have X2 := X1.trans x2
  cases b
  · clear hb
    go_wp2
    go_ret
    exact ⟨rfl, X2⟩
  · have hp := hb rfl
    clear hb
    go_wp2_with (first | (refine load_box rfl 35 _ rfl _ rfl _ _ hs2 _ Try.underlying35 rfl hi.out ?_))
    refine (kC.out hp _ X2).mono ?_
    rintro e w3 ⟨rfl, x3⟩
    have hs3 := hs2.ext x3; clear hs2
    have hl3 := hl2.ext x3; clear hl2
    have X3 := X2.trans x3
    have wm : 0 ≤ d % 53 ∧ d % 53 ≤ 52 := by omega
    obtain ⟨m, hm⟩ : ∃ m, d % 53 = m := ⟨_, rfl⟩
    rw [hm] at wm kO eA eB eD
    go_wp2_with (first | (refine load_box rfl 35 _ rfl _ rfl _ _ hs3 _ Try.underlying35 rfl hi.out ?_))
    refine (kO.out hp _ X3 _ _ hl3).mono ?_
    rintro e w4 ⟨A4, cap4, B4, dap4, C4, eap4, rfl, ⟨r4, t4, u4⟩, x4⟩
    have hs4 := hs3.ext x4; clear hs3
    have hl4 := hl3.ext x4; clear hl3
    have X4 := X3.trans x4
    have lg := h30.out hp
    have hpt : ∀ k : Nat, 0 ≤ Sp.size (partS l (7 * m + k) 86400) ∧ Sp.size (partS l (7 * m + k) 86400) ≤ 32054400 := fun k => size_bd _
    have b1 : ∀ d : Int, 0 ≤ min (Sp.size (partS l d 86400)) R ∧ min (Sp.size (partS l d 86400)) R ≤ 32054400 := fun d => by have := size_bd (partS l d 86400); omega
    have b2 : ∀ d : Int, 0 ≤ max 0 (Sp.size (partS l d 86400) - O) ∧ max 0 (Sp.size (partS l d 86400) - O) ≤ 32054400 := fun d => by have := size_bd (partS l d 86400); omega
    have b3 : ∀ d : Int, 0 ≤ Sp.size (partS l d 86400) ∧ Sp.size (partS l d 86400) ≤ 32054400 := fun d => size_bd _
    obtain ⟨F1, hF1⟩ : ∃ f : Int → Int, f = fun d => min (Sp.size (partS l d 86400)) R := ⟨_, rfl⟩
    obtain ⟨F2, hF2⟩ : ∃ f : Int → Int, f = fun d => max 0 (Sp.size (partS l d 86400) - O) := ⟨_, rfl⟩
    obtain ⟨F3, hF3⟩ : ∃ f : Int → Int, f = fun d => Sp.size (partS l d 86400) := ⟨_, rfl⟩
    have E1 : Hid (∀ k : Nat, F1 (7 * m + k) = min (Sp.size (partS l (7 * m + k) 86400)) R) := fun k => by rw [hF1]
    have E2 : Hid (∀ k : Nat, F2 (7 * m + k) = max 0 (Sp.size (partS l (7 * m + k) 86400) - O)) := fun k => by rw [hF2]
    have E3 : Hid (∀ k : Nat, F3 (7 * m + k) = Sp.size (partS l (7 * m + k) 86400)) := fun k => by rw [hF3]
    have B1 : Hid (∀ d, 0 ≤ F1 d ∧ F1 d ≤ 32054400) := by rw [hF1]; exact b1
    have B2 : Hid (∀ d, 0 ≤ F2 d ∧ F2 d ≤ 32054400) := by rw [hF2]; exact b2
    have B3 : Hid (∀ d, 0 ≤ F3 d ∧ F3 d ≤ 32054400) := by rw [hF3]; exact b3
    rw [← hF1, ← hF3, ← hF2] at eB
    rw [← hF1] at eA
    rw [← hF2] at eD
    have HPT := Lib.hid hpt
    clear hF1 hF2 hF3 b1 b2 b3 hpt hm
    have w70 : IntKind.i64.wrap (7 * m) = 7 * m := IntWalk.i64_in _ (by omega)
    have w71 : IntKind.i64.wrap (7 * m + 7) = 7 * m + 7 := IntWalk.i64_in _ (by omega)
    replace hs4 := Lib.hid hs4; replace hl4 := Lib.hid hl4
    go_wp2_with fail
    go_loopw [12, 13, 14, 15] (fun u1 u2 u3 i wr => ∃ (k : Nat) (s1 s2 s3 : Int), k ≤ 7 ∧ u1 = .int .i64 s1 ∧ u2 = .int .i64 s2 ∧ u3 = .int .i64 s3 ∧ i = .int .i64 (7 * m + k) ∧ Hid (s1 = wsum F1 m k) ∧ Hid (s2 = wsum F2 m k) ∧ Hid (s3 = wsum F3 m k) ∧ Hid (Ext w4 wr)) (fun _ _ _ i _ => (7 * m + 7 - intOf i).toNat)
    case atStart => exact ⟨0, 0, 0, 0, by omega, rfl, rfl, rfl, by simp, rfl, rfl, rfl, Ext.refl _⟩
    case round =>
      obtain ⟨k, s1, s2, s3, hk, rfl, rfl, rfl, rfl, h1, h2, h3, HX⟩ := hrel
      have g1 := wsum_bd2 _ _ _ _ B1.out h1.out hk
      have g2 := wsum_bd2 _ _ _ _ B2.out h2.out hk
      have g3 := wsum_bd2 _ _ _ _ B3.out h3.out hk
      have hs5 := hs4.out.ext HX.out
      have hl5 := hl4.out.ext HX.out
      by_cases hlt : k < 7
      · have q3 : (k : Int) < 7 := by omega
        have f1 : decide (7 * m + (k : Int) < 7 * m + 7) = true := decide_eq_true (by omega)
        obtain ⟨z, hz⟩ : ∃ z, Sp.size (partS l (7 * m + k) 86400) = z := ⟨_, rfl⟩
        have gz := HPT.out k
        rw [hz] at gz
        have H1 : Hid (s1 + min z R = wsum F1 m (k + 1)) := by show s1 + min z R = wsum F1 m k + F1 (7 * m + k); rw [E1.out k, hz, h1.out]
        have H2 : Hid (s2 + max 0 (z - O) = wsum F2 m (k + 1)) := by show s2 + max 0 (z - O) = wsum F2 m k + F2 (7 * m + k); rw [E2.out k, hz, h2.out]
        have H3 : Hid (s3 + z = wsum F3 m (k + 1)) := by show s3 + z = wsum F3 m k + F3 (7 * m + k); rw [E3.out k, hz, h3.out]
        have q5 : IntKind.i64.wrap (s1 + min z R) = s1 + min z R := IntWalk.i64_in _ (by omega)
        have q6 : IntKind.i64.wrap (z - O) = z - O := IntWalk.i64_in _ (by omega)
        have q7 : IntKind.i64.wrap (s2 + max 0 (z - O)) = s2 + max 0 (z - O) := IntWalk.i64_in _ (by omega)
        have q8 : IntKind.i64.wrap (s3 + z) = s3 + z := IntWalk.i64_in _ (by omega)
        have q9 : IntKind.i64.wrap (7 * m + (k : Int) + 1) = 7 * m + (k : Int) + 1 := IntWalk.i64_in _ (by omega)
        replace hz := Lib.hid hz
        clear h1 h2 h3 q3
        go_wp2_with fail
        refine (pOfDay hl5 (by omega) _ (7 * m + k)).mono ?_
        rintro _ w5 ⟨A5, cap5, rfl, r5, x5, _⟩
        go_wp2_with fail
        refine (iEq (cSize r5 (by have := partS_len l (7 * m + k) 86400; omega) _) hz.out).mono ?_
        rintro _ w6 ⟨rfl, x6⟩
        have hs6 := (hs5.ext x5).ext x6
        have z13 := hs6.cell 13 _ c13
        have z14 := hs6.cell 14 _ c14
        have HX6 := Lib.hid ((HX.out.trans x5).trans x6)
        clear r5 x5 x6 hs6 hs5 hl5 HX
        go_wp2
        go_roundw
        case rel => exact ⟨k + 1, s1 + min z R, s2 + max 0 (z - O), s3 + z, by omega, rfl, rfl, rfl, by go_num, H1, H2, H3, HX6⟩
        case measure => simp [intOf]; omega
      · obtain rfl : k = 7 := by omega
        have hA := eA.out
        have hB := eB.out
        have hD := eD.out
        rw [← h1.out, ← h2.out, ← h3.out] at hB
        rw [← h1.out] at hA
        rw [← h2.out] at hD
        have f1 : decide (7 * m + 7 < 7 * m + 7) = false := decide_eq_false (by omega)
        have z15 := hs5.cell 15 _ c15
        have q5 : IntKind.i64.wrap (s3 - min s1 V) = s3 - min s1 V := IntWalk.i64_in _ (by omega)
        have q6 : IntKind.i64.wrap (s3 - min s1 V - s2) = s3 - min s1 V - s2 := IntWalk.i64_in _ (by omega)
        have ha5 := r4.ext HX.out
        have hb5 := t4.ext HX.out
        have he5 := u4.ext HX.out
        have X5 := X4.trans HX.out
        have lb := bl.out hp
        replace hA := Lib.hid hA; replace hB := Lib.hid hB; replace hD := Lib.hid hD
        clear h1 h2 h3 eA eB eD HX r4 t4 u4 hl4 hs4
        go_wp2_with fail
        refine (iEq (cSize ha5 (by omega) _) hA.out).mono ?_
        rintro _ w5 ⟨rfl, x5⟩
        go_wp2_with fail
        refine (iEq (cSize (he5.ext x5) (by omega) _) hD.out).mono ?_
        rintro _ w6 ⟨rfl, x6⟩
        go_wp2_with fail
        refine (iEq (cSize ((hb5.ext x5).ext x6) (by omega) _) hB.out).mono ?_
        rintro _ w7 ⟨rfl, x7⟩
        go_wp2
        go_ret
        exact ⟨rfl, ((X5.trans x5).trans x6).trans x7⟩

theorem sizes16 (s : Su) (g : Sh) (ok : SuOk s) (l : List Sp.S) (A : Option Addr) (c : Nat) (hl : l.length ≤ maxLen) (d : Int) (hd : 0 ≤ d ∧ d ≤ 255) (w : World) (r : SuR w s g) (h : Rs w A l) :
    Calls Try.prog 21 #[.agg (s.cells g).toArray, .slice A l.length c, .int .u8 d] w (RetB w true) := by
  have hd2 : 0 ≤ d % 53 ∧ d % 53 ≤ 52 := by omega
  have a1 : Few14 s l → l.length ≤ 30 := fun p => p.2.1
  have a3 : ∀ W, Ext w W → ∀ A c, Rs W A l → Calls Try.prog 61 #[.agg (s.cells g).toArray, .slice A l.length c] W (RetP W (Few14 s l)) := fun W X A c h => pFew16 s g h hl c
  have a6 : Few14 s l → ∀ W, Ext w W → Calls Try.prog 59 #[.agg (s.cells g).toArray] W (RetB W (chk s)) := fun p W X => pCheck ok p.1 (r.ext X)
  have a4 : Few14 s l → ∀ W, Ext w W → ∀ A c, Rs W A l → Calls Try.prog 62 #[.agg (s.cells g).toArray, .slice A l.length c, .int .i64 (d % 53)] W (Ret3S W (oR s l (d % 53)) (oO s l (d % 53)) (oD s l (d % 53))) := fun p W X A c h => pOver ok p.1 (r.ext X) h (by have := a1 p; omega) c (d % 53)
  cases hc : chk s
  · rw [hc] at a6
    exact overSizes0 (s.cells g) rfl s.dreg s.dover s.wreg rfl rfl rfl l A c d hd _ [] [] [] w h a3 a6
  · rw [hc] at a6
    have e := o_yes hc l (d % 53)
    have hb := chk_times hc
    have z := over_sizes l (w := d % 53) (R := s.dreg) (O := s.dover) (W := s.wreg) hd2.1 hd2.2 (by omega) (by omega) (by omega)
    refine overSizes1 (s.cells g) rfl s.dreg s.dover s.wreg rfl rfl rfl l A c d hd _ (oR s l (d % 53)) (oO s l (d % 53)) (oD s l (d % 53)) w h a3 a6 a4 a1 (fun p => o_lens s l _ (by have := a1 p; omega)) (by omega) (by omega) ?_ ?_ ?_
    · rw [e.1]; exact z.1
    · rw [e.2.2]; exact z.2.1
    · rw [e.2.1]; exact z.2.2
end Go.Proofs.Ytnhmibfgaoealaa
