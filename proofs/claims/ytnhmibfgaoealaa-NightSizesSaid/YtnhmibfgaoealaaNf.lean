/-
  Laws of layer 14: NightSizes.
-/
import Derived.Test.YtnhmibfgaoealaaNe
namespace Go.Proofs.Ytnhmibfgaoealaa
open Go.RowKit
set_option linter.unusedVariables false
set_option linter.unusedSimpArgs false


set_option maxRecDepth 100000 in
set_option maxHeartbeats 1000000 in
theorem nightSizes0 (cs : List Value) (hcs : cs.length = 23) (F T : Int) (cF : cs[16]? = some (.int .i64 F)) (cT : cs[17]? = some (.int .i64 T)) (d m a b : Int) (hd : 0 ≤ d ∧ d ≤ 65535) (hm : 0 ≤ m ∧ m ≤ 255) (ha : d % 300 = a) (hb : m % 30 = b) (p : Prop) (R : List Sp.S) (w : World) (kF : ∀ W, Ext w W → Calls Try.prog 58 #[.agg cs.toArray] W (RetP W p)) (kC : p → ∀ W, Ext w W → Calls Try.prog 59 #[.agg cs.toArray] W (RetB W false)) :
    Calls Try.prog 16 #[.agg cs.toArray, .int .u16 d, .int .u8 m] w (RetB w true) := by
  have ta : d.tmod 300 = a := by rw [Int.tmod_eq_emod_of_nonneg hd.1]; exact ha
  have tb : m.tmod 30 = b := by rw [Int.tmod_eq_emod_of_nonneg hm.1]; exact hb
  have a0 : 0 ≤ a ∧ a < 300 := by omega
  have b0 : 0 ≤ b ∧ b < 30 := by omega
  replace ha := Lib.hid ha; replace hb := Lib.hid hb
  replace kF := Lib.hid kF
  replace kC := Lib.hid kC
  have hi := Lib.hid (su_size hcs)
  clear hcs
  have hs0 := Bx.new w cs 35
  have X0 := (Ext.refl w).alloc (.cells cs.toArray 35)
  go_enter Try.func16, Try.ntmps16
  go_wp2_with fail
  refine (awake14 _).mono ?_
  rintro e w1 ⟨rfl, x1⟩
  have hs1 := hs0.ext x1; clear hs0
  have X1 := X0.trans x1
  go_wp2_with (first | (refine load_box rfl 35 _ rfl _ rfl _ _ hs1 _ Try.underlying35 rfl hi.out ?_))
  refine (kF.out _ X1).mono ?_
  rintro e w2 ⟨⟨b, rfl, hb⟩, x2⟩
  have hs2 := hs1.ext x2; clear hs1
  have X2 := X1.trans x2
  cases b
  · clear hb
    go_wp2
    go_ret
    exact ⟨rfl, X2⟩
  · have hp := hb rfl
    clear hb
    go_wp2_with (first | (refine load_box rfl 35 _ rfl _ rfl _ _ hs2 _ Try.underlying35 rfl hi.out ?_))
    refine (kC.out hp _ X2).mono ?_
    rintro e w3 ⟨rfl, x3⟩
    have hs3 := hs2.ext x3; clear hs2
    have X3 := X2.trans x3
    go_wp2
    go_ret
    exact ⟨rfl, X3⟩

set_option maxRecDepth 100000 in
set_option maxHeartbeats 1000000 in
theorem nightSizes1 (cs : List Value) (hcs : cs.length = 23) (F T : Int) (cF : cs[16]? = some (.int .i64 F)) (cT : cs[17]? = some (.int .i64 T)) (d m a b : Int) (hd : 0 ≤ d ∧ d ≤ 65535) (hm : 0 ≤ m ∧ m ≤ 255) (ha : d % 300 = a) (hb : m % 30 = b) (p : Prop) (R : List Sp.S) (w : World) (kF : ∀ W, Ext w W → Calls Try.prog 58 #[.agg cs.toArray] W (RetP W p)) (kC : p → ∀ W, Ext w W → Calls Try.prog 59 #[.agg cs.toArray] W (RetB W true)) (kO : p → ∀ W, Ext w W → ∀ A c, Rs W A [(a * 86400, a * 86400 + b * 86400)] → Calls Try.prog 54 #[.agg cs.toArray, .slice A 1 c] W (RetS W R)) (hR : R.length ≤ 900000) (e1 : Sp.size R = b * (T - F)) (hF : 0 ≤ F ∧ F ≤ 86400) (hT : 0 ≤ T ∧ T ≤ 86400) (hw : IntKind.i64.wrap (b * (T - F)) = b * (T - F)) (hTF : F ≤ T) :
    Calls Try.prog 16 #[.agg cs.toArray, .int .u16 d, .int .u8 m] w (RetB w true) := by
  have ta : d.tmod 300 = a := by rw [Int.tmod_eq_emod_of_nonneg hd.1]; exact ha
  have tb : m.tmod 30 = b := by rw [Int.tmod_eq_emod_of_nonneg hm.1]; exact hb
  have a0 : 0 ≤ a ∧ a < 300 := by omega
  have b0 : 0 ≤ b ∧ b < 30 := by omega
  replace ha := Lib.hid ha; replace hb := Lib.hid hb
  replace kF := Lib.hid kF
  replace kC := Lib.hid kC
  replace kO := Lib.hid kO
  replace hR := Lib.hid hR
  replace e1 := Lib.hid e1
  have hi := Lib.hid (su_size hcs)
  clear hcs
  have hs0 := Bx.new w cs 35
  have X0 := (Ext.refl w).alloc (.cells cs.toArray 35)
  go_enter Try.func16, Try.ntmps16
  go_wp2_with fail
  refine (awake14 _).mono ?_
  rintro e w1 ⟨rfl, x1⟩
  have hs1 := hs0.ext x1; clear hs0
  have X1 := X0.trans x1
  go_wp2_with (first | (refine load_box rfl 35 _ rfl _ rfl _ _ hs1 _ Try.underlying35 rfl hi.out ?_))
  refine (kF.out _ X1).mono ?_
  rintro e w2 ⟨⟨b, rfl, hb⟩, x2⟩
  have hs2 := hs1.ext x2; clear hs1
  have X2 := X1.trans x2
  cases b
  · clear hb
    go_wp2
    go_ret
    exact ⟨rfl, X2⟩
  · have hp := hb rfl
    clear hb
    go_wp2_with (first | (refine load_box rfl 35 _ rfl _ rfl _ _ hs2 _ Try.underlying35 rfl hi.out ?_))
    refine (kC.out hp _ X2).mono ?_
    rintro e w3 ⟨rfl, x3⟩
    have hs3 := hs2.ext x3; clear hs2
    have X3 := X2.trans x3
    have z16 := hs3.cell 16 _ cF
    have z17 := hs3.cell 17 _ cT
    go_wp2_with (first | (refine load_box rfl 35 _ rfl _ rfl _ _ hs3 _ Try.underlying35 rfl hi.out ?_))
    refine (kO.out hp _ (X3.alloc _) _ _ (Rs.new_g _ [(a * 86400, a * 86400 + b * 86400)] _ _ (by simp))).mono ?_
    rintro e w4 ⟨A4, cap4, rfl, r4, x4, _⟩
    have hs4 := (hs3.alloc _).ext x4
    have X4 := (X3.alloc _).trans x4
    go_wp2_with fail
    refine (iEq (cSize r4 (hR.out) _) e1.out).mono ?_
    rintro e w5 ⟨rfl, x5⟩
    have hs5 := hs4.ext x5; clear hs4
    have hr5 := r4.ext x5
    have X5 := X4.trans x5
    go_wp2
    go_ret
    exact ⟨rfl, X5⟩

set_option maxRecDepth 100000 in
set_option maxHeartbeats 1000000 in
theorem nightSizes2 (cs : List Value) (hcs : cs.length = 23) (F T : Int) (cF : cs[16]? = some (.int .i64 F)) (cT : cs[17]? = some (.int .i64 T)) (d m a b : Int) (hd : 0 ≤ d ∧ d ≤ 65535) (hm : 0 ≤ m ∧ m ≤ 255) (ha : d % 300 = a) (hb : m % 30 = b) (p : Prop) (R : List Sp.S) (w : World) (kF : ∀ W, Ext w W → Calls Try.prog 58 #[.agg cs.toArray] W (RetP W p)) (kC : p → ∀ W, Ext w W → Calls Try.prog 59 #[.agg cs.toArray] W (RetB W true)) (kO : p → ∀ W, Ext w W → ∀ A c, Rs W A [(a * 86400, a * 86400 + b * 86400)] → Calls Try.prog 54 #[.agg cs.toArray, .slice A 1 c] W (RetS W R)) (hR : R.length ≤ 900000) (e1 : Sp.size R = b * (T - F + 86400)) (hF : 0 ≤ F ∧ F ≤ 86400) (hT : 0 ≤ T ∧ T ≤ 86400) (hw : IntKind.i64.wrap (b * (T - F + 86400)) = b * (T - F + 86400)) (hTF : T < F) :
    Calls Try.prog 16 #[.agg cs.toArray, .int .u16 d, .int .u8 m] w (RetB w true) := by
  have ta : d.tmod 300 = a := by rw [Int.tmod_eq_emod_of_nonneg hd.1]; exact ha
  have tb : m.tmod 30 = b := by rw [Int.tmod_eq_emod_of_nonneg hm.1]; exact hb
  have a0 : 0 ≤ a ∧ a < 300 := by omega
  have b0 : 0 ≤ b ∧ b < 30 := by omega
  replace ha := Lib.hid ha; replace hb := Lib.hid hb
  replace kF := Lib.hid kF
  replace kC := Lib.hid kC
  replace kO := Lib.hid kO
  replace hR := Lib.hid hR
  replace e1 := Lib.hid e1
  have hi := Lib.hid (su_size hcs)
  clear hcs
  have hs0 := Bx.new w cs 35
  have X0 := (Ext.refl w).alloc (.cells cs.toArray 35)
  go_enter Try.func16, Try.ntmps16
  go_wp2_with fail
  refine (awake14 _).mono ?_
  rintro e w1 ⟨rfl, x1⟩
  have hs1 := hs0.ext x1; clear hs0
  have X1 := X0.trans x1
  go_wp2_with (first | (refine load_box rfl 35 _ rfl _ rfl _ _ hs1 _ Try.underlying35 rfl hi.out ?_))
  refine (kF.out _ X1).mono ?_
  rintro e w2 ⟨⟨b, rfl, hb⟩, x2⟩
  have hs2 := hs1.ext x2; clear hs1
  have X2 := X1.trans x2
  cases b
  · clear hb
    go_wp2
    go_ret
    exact ⟨rfl, X2⟩
  · have hp := hb rfl
    clear hb
    go_wp2_with (first | (refine load_box rfl 35 _ rfl _ rfl _ _ hs2 _ Try.underlying35 rfl hi.out ?_))
    refine (kC.out hp _ X2).mono ?_
    rintro e w3 ⟨rfl, x3⟩
    have hs3 := hs2.ext x3; clear hs2
    have X3 := X2.trans x3
    have z16 := hs3.cell 16 _ cF
    have z17 := hs3.cell 17 _ cT
    go_wp2_with (first | (refine load_box rfl 35 _ rfl _ rfl _ _ hs3 _ Try.underlying35 rfl hi.out ?_))
    refine (kO.out hp _ (X3.alloc _) _ _ (Rs.new_g _ [(a * 86400, a * 86400 + b * 86400)] _ _ (by simp))).mono ?_
    rintro e w4 ⟨A4, cap4, rfl, r4, x4, _⟩
    have hs4 := (hs3.alloc _).ext x4
    have X4 := (X3.alloc _).trans x4
    go_wp2_with fail
    refine (iEq (cSize r4 (hR.out) _) e1.out).mono ?_
    rintro e w5 ⟨rfl, x5⟩
    have hs5 := hs4.ext x5; clear hs4
    have hr5 := r4.ext x5
    have X5 := X4.trans x5
    go_wp2
    go_ret
    exact ⟨rfl, X5⟩

theorem mul_wrap {b E : Int} (b0 : 0 ≤ b ∧ b < 30) (e0 : 0 ≤ E ∧ E ≤ 86400) : IntKind.i64.wrap (b * E) = b * E := by
  have h1 : 0 ≤ b * E := Int.mul_nonneg b0.1 e0.1
  have h2 : b * E ≤ 30 * 86400 := Int.le_trans (Int.mul_le_mul_of_nonneg_right (by omega : b ≤ 30) e0.1) (Int.mul_le_mul_of_nonneg_left e0.2 (by omega))
  exact IntWalk.i64_in _ (by omega)
theorem sizes14 (s : Su) (g : Sh) (ok : SuOk s) (d m : Int) (hd : 0 ≤ d ∧ d ≤ 65535) (hm : 0 ≤ m ∧ m ≤ 255) (w : World) (r : SuR w s g) :
    Calls Try.prog 16 #[.agg (s.cells g).toArray, .int .u16 d, .int .u8 m] w (RetB w true) := by
  have a3 : ∀ W, Ext w W → Calls Try.prog 58 #[.agg (s.cells g).toArray] W (RetP W (SuFew s)) := fun W _ => (pFew s g W).mono fun _ _ ⟨⟨b, he, hb⟩, x⟩ => ⟨⟨b, he, hb.1⟩, x⟩
  have a6 : SuFew s → ∀ W, Ext w W → Calls Try.prog 59 #[.agg (s.cells g).toArray] W (RetB W (chk s)) := fun p W X => pCheck ok p (r.ext X)
  cases hc : chk s
  · rw [hc] at a6
    exact nightSizes0 (s.cells g) rfl s.nfrom s.nto rfl rfl d m _ _ hd hm rfl rfl _ [] w a3 a6
  · rw [hc] at a6
    have hn := chk_nt hc
    have hd3 : 0 ≤ d % 300 ∧ d % 300 < 300 := by omega
    have hm3 : 0 ≤ m % 30 ∧ m % 30 < 30 := by omega
    have hS := night_sizes hn (d % 300).toNat (m % 30).toNat (by omega) (by omega)
    rw [show (((d % 300).toNat : Nat) : Int) = d % 300 by omega, show (((m % 30).toNat : Nat) : Int) = m % 30 by omega] at hS
    have hO : nightS s [(d % 300 * 86400, d % 300 * 86400 + m % 30 * 86400)] = nightOf s.nfrom s.nto [(d % 300 * 86400, d % 300 * 86400 + m % 30 * 86400)] := if_pos hc
    have a2 := nightS_len s [(d % 300 * 86400, d % 300 * 86400 + m % 30 * 86400)] (by simp)
    have a4 : SuFew s → ∀ W, Ext w W → ∀ A c, Rs W A [(d % 300 * 86400, d % 300 * 86400 + m % 30 * 86400)] → Calls Try.prog 54 #[.agg (s.cells g).toArray, .slice A 1 c] W (RetS W (nightS s [(d % 300 * 86400, d % 300 * 86400 + m % 30 * 86400)])) := fun p W X A c h => pNightOf ok p (r.ext X) h (by simp) c
    rw [hO] at a2 a4
    unfold okNT at hn
    by_cases hTF : s.nto < s.nfrom
    · have e : nightLen s.nfrom s.nto = s.nto - s.nfrom + 86400 := if_pos (by omega)
      rw [e] at hS
      exact nightSizes2 (s.cells g) rfl s.nfrom s.nto rfl rfl d m _ _ hd hm rfl rfl _ _ w a3 a6 a4 a2 hS (by omega) (by omega) (mul_wrap hm3 (by omega)) hTF
    · have e : nightLen s.nfrom s.nto = s.nto - s.nfrom := if_neg (by omega)
      rw [e] at hS
      exact nightSizes1 (s.cells g) rfl s.nfrom s.nto rfl rfl d m _ _ hd hm rfl rfl _ _ w a3 a6 a4 a2 hS (by omega) (by omega) (mul_wrap hm3 (by omega)) (by omega)
end Go.Proofs.Ytnhmibfgaoealaa
