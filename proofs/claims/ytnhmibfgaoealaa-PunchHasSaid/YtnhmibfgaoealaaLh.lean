/-
  Laws of layer 11.
-/
import Derived.Test.YtnhmibfgaoealaaBx
namespace Go.Proofs.Ytnhmibfgaoealaa
open Go.RowKit
set_option linter.unusedVariables false
set_option linter.unusedSimpArgs false


set_option maxRecDepth 100000 in
set_option maxHeartbeats 1000000 in
theorem has11_000 (l : List Sp.S) (A : Option Addr) (c : Nat) (t n : Int) (w : World) (h : Rs w A l) (hl : l.length ≤ 100) (h0 : Sp.has l t = false) : Calls Try.prog 12 #[.slice A l.length c, .int .i64 t, .int .i64 n] w (RetB w true) := by
  have e1 : Sp.has (partS l n 86400) t = false := by rw [punchHas_day, h0]; rfl
  have e2 : Sp.has (partS l n 604800) t = false := by rw [punchHas_week, h0]; rfl
  have l1 : (partS l n 86400).length ≤ 900000 := by have := partS_len l n 86400; omega
  have l2 : (partS l n 604800).length ≤ 900000 := by have := partS_len l n 604800; omega
  replace e1 := Lib.hid e1; replace e2 := Lib.hid e2; replace h0 := Lib.hid h0
  go_enter Try.func12, Try.ntmps12
  go_wp2_with fail
  refine (awake11 _).mono ?_
  rintro e w1 ⟨rfl, x1⟩
  have hl1 := h.ext x1
  have X1 := (Ext.refl _).trans x1
  go_wp2_with fail
  refine (bEq (cHas hl1 (by omega) t _) h0.out).mono ?_
  rintro e w2 ⟨rfl, x2⟩
  have hl2 := hl1.ext x2; clear hl1
  have X2 := X1.trans x2
  go_wp2_with fail
  refine (pOfDay hl2 (by omega) _ n).mono ?_
  rintro e w3 ⟨A3, cap3, rfl, r3, x3, _⟩
  have hl3 := hl2.ext x3; clear hl2
  have X3 := X2.trans x3
  go_wp2_with fail
  refine (bEq (cHas r3 l1 t _) e1.out).mono ?_
  rintro e w4 ⟨rfl, x4⟩
  have hl4 := hl3.ext x4; clear hl3
  have hp4 := r3.ext x4
  have X4 := X3.trans x4
  go_wp2_with fail
  refine (pOfWeek hl4 (by omega) _ n).mono ?_
  rintro e w5 ⟨A5, cap5, rfl, r5, x5, _⟩
  have hl5 := hl4.ext x5; clear hl4
  have hp5 := hp4.ext x5; clear hp4
  have X5 := X4.trans x5
  go_wp2_with fail
  refine (bEq (cHas r5 l2 t _) e2.out).mono ?_
  rintro e w6 ⟨rfl, x6⟩
  have hl6 := hl5.ext x6; clear hl5
  have hp6 := r5.ext x6
  have X6 := X5.trans x6
  go_wp2
  go_ret
  exact ⟨rfl, X6⟩

set_option maxRecDepth 100000 in
set_option maxHeartbeats 1000000 in
theorem has11_100 (l : List Sp.S) (A : Option Addr) (c : Nat) (t n : Int) (w : World) (h : Rs w A l) (hl : l.length ≤ 100) (h0 : Sp.has l t = true) (h1 : dayOf t ≠ n) (h2 : weekOf t ≠ n) : Calls Try.prog 12 #[.slice A l.length c, .int .i64 t, .int .i64 n] w (RetB w true) := by
  have e1 : Sp.has (partS l n 86400) t = false := by rw [punchHas_day, h0]; simp [h1]
  have e2 : Sp.has (partS l n 604800) t = false := by rw [punchHas_week, h0]; simp [h2]
  have l1 : (partS l n 86400).length ≤ 900000 := by have := partS_len l n 86400; omega
  have l2 : (partS l n 604800).length ≤ 900000 := by have := partS_len l n 604800; omega
  replace e1 := Lib.hid e1; replace e2 := Lib.hid e2; replace h0 := Lib.hid h0
  obtain ⟨dd, hd⟩ : ∃ x, dayOf t = x := ⟨_, rfl⟩
  obtain ⟨ww, hw⟩ : ∃ x, weekOf t = x := ⟨_, rfl⟩
  rw [hd] at h1; rw [hw] at h2
  have b1 : (dd == n) = false := by simp [h1]
  have b2 : (ww == n) = false := by simp [h2]
  clear h1 h2; replace hd := Lib.hid hd; replace hw := Lib.hid hw
  go_enter Try.func12, Try.ntmps12
  go_wp2_with fail
  refine (awake11 _).mono ?_
  rintro e w1 ⟨rfl, x1⟩
  have hl1 := h.ext x1
  have X1 := (Ext.refl _).trans x1
  go_wp2_with fail
  refine (bEq (cHas hl1 (by omega) t _) h0.out).mono ?_
  rintro e w2 ⟨rfl, x2⟩
  have hl2 := hl1.ext x2; clear hl1
  have X2 := X1.trans x2
  go_wp2_with fail
  refine (pOfDay hl2 (by omega) _ n).mono ?_
  rintro e w3 ⟨A3, cap3, rfl, r3, x3, _⟩
  have hl3 := hl2.ext x3; clear hl2
  have X3 := X2.trans x3
  go_wp2_with fail
  refine (bEq (cHas r3 l1 t _) e1.out).mono ?_
  rintro e w4 ⟨rfl, x4⟩
  have hl4 := hl3.ext x4; clear hl3
  have hp4 := r3.ext x4
  have X4 := X3.trans x4
  go_wp2_with fail
  refine (iEq (pDay t _) hd.out).mono ?_
  rintro e w5 ⟨rfl, x5⟩
  have hl5 := hl4.ext x5; clear hl4
  have hp5 := hp4.ext x5; clear hp4
  have X5 := X4.trans x5
  go_wp2_with fail
  refine (pOfWeek hl5 (by omega) _ n).mono ?_
  rintro e w6 ⟨A6, cap6, rfl, r6, x6, _⟩
  have hl6 := hl5.ext x6; clear hl5
  have hp6 := hp5.ext x6; clear hp5
  have X6 := X5.trans x6
  go_wp2_with fail
  refine (bEq (cHas r6 l2 t _) e2.out).mono ?_
  rintro e w7 ⟨rfl, x7⟩
  have hl7 := hl6.ext x7; clear hl6
  have hp7 := r6.ext x7
  have X7 := X6.trans x7
  go_wp2_with fail
  refine (iEq (pWeek t _) hw.out).mono ?_
  rintro e w8 ⟨rfl, x8⟩
  have hl8 := hl7.ext x8; clear hl7
  have hp8 := hp7.ext x8; clear hp7
  have X8 := X7.trans x8
  go_wp2
  go_ret
  exact ⟨rfl, X8⟩

set_option maxRecDepth 100000 in
set_option maxHeartbeats 1000000 in
theorem has11_101 (l : List Sp.S) (A : Option Addr) (c : Nat) (t n : Int) (w : World) (h : Rs w A l) (hl : l.length ≤ 100) (h0 : Sp.has l t = true) (h1 : dayOf t ≠ n) (h2 : weekOf t = n) : Calls Try.prog 12 #[.slice A l.length c, .int .i64 t, .int .i64 n] w (RetB w true) := by
  have e1 : Sp.has (partS l n 86400) t = false := by rw [punchHas_day, h0]; simp [h1]
  have e2 : Sp.has (partS l n 604800) t = true := by rw [punchHas_week, h0]; simp [h2]
  have l1 : (partS l n 86400).length ≤ 900000 := by have := partS_len l n 86400; omega
  have l2 : (partS l n 604800).length ≤ 900000 := by have := partS_len l n 604800; omega
  replace e1 := Lib.hid e1; replace e2 := Lib.hid e2; replace h0 := Lib.hid h0
  obtain ⟨dd, hd⟩ : ∃ x, dayOf t = x := ⟨_, rfl⟩
  obtain ⟨ww, hw⟩ : ∃ x, weekOf t = x := ⟨_, rfl⟩
  rw [hd] at h1; rw [hw] at h2
  have b1 : (dd == n) = false := by simp [h1]
  have b2 : (ww == n) = true := by simp [h2]
  clear h1 h2; replace hd := Lib.hid hd; replace hw := Lib.hid hw
  go_enter Try.func12, Try.ntmps12
  go_wp2_with fail
  refine (awake11 _).mono ?_
  rintro e w1 ⟨rfl, x1⟩
  have hl1 := h.ext x1
  have X1 := (Ext.refl _).trans x1
  go_wp2_with fail
  refine (bEq (cHas hl1 (by omega) t _) h0.out).mono ?_
  rintro e w2 ⟨rfl, x2⟩
  have hl2 := hl1.ext x2; clear hl1
  have X2 := X1.trans x2
  go_wp2_with fail
  refine (pOfDay hl2 (by omega) _ n).mono ?_
  rintro e w3 ⟨A3, cap3, rfl, r3, x3, _⟩
  have hl3 := hl2.ext x3; clear hl2
  have X3 := X2.trans x3
  go_wp2_with fail
  refine (bEq (cHas r3 l1 t _) e1.out).mono ?_
  rintro e w4 ⟨rfl, x4⟩
  have hl4 := hl3.ext x4; clear hl3
  have hp4 := r3.ext x4
  have X4 := X3.trans x4
  go_wp2_with fail
  refine (iEq (pDay t _) hd.out).mono ?_
  rintro e w5 ⟨rfl, x5⟩
  have hl5 := hl4.ext x5; clear hl4
  have hp5 := hp4.ext x5; clear hp4
  have X5 := X4.trans x5
  go_wp2_with fail
  refine (pOfWeek hl5 (by omega) _ n).mono ?_
  rintro e w6 ⟨A6, cap6, rfl, r6, x6, _⟩
  have hl6 := hl5.ext x6; clear hl5
  have hp6 := hp5.ext x6; clear hp5
  have X6 := X5.trans x6
  go_wp2_with fail
  refine (bEq (cHas r6 l2 t _) e2.out).mono ?_
  rintro e w7 ⟨rfl, x7⟩
  have hl7 := hl6.ext x7; clear hl6
  have hp7 := r6.ext x7
  have X7 := X6.trans x7
  go_wp2_with fail
  refine (iEq (pWeek t _) hw.out).mono ?_
  rintro e w8 ⟨rfl, x8⟩
  have hl8 := hl7.ext x8; clear hl7
  have hp8 := hp7.ext x8; clear hp7
  have X8 := X7.trans x8
  go_wp2
  go_ret
  exact ⟨rfl, X8⟩

set_option maxRecDepth 100000 in
set_option maxHeartbeats 1000000 in
theorem has11_110 (l : List Sp.S) (A : Option Addr) (c : Nat) (t n : Int) (w : World) (h : Rs w A l) (hl : l.length ≤ 100) (h0 : Sp.has l t = true) (h1 : dayOf t = n) (h2 : weekOf t ≠ n) : Calls Try.prog 12 #[.slice A l.length c, .int .i64 t, .int .i64 n] w (RetB w true) := by
  have e1 : Sp.has (partS l n 86400) t = true := by rw [punchHas_day, h0]; simp [h1]
  have e2 : Sp.has (partS l n 604800) t = false := by rw [punchHas_week, h0]; simp [h2]
  have l1 : (partS l n 86400).length ≤ 900000 := by have := partS_len l n 86400; omega
  have l2 : (partS l n 604800).length ≤ 900000 := by have := partS_len l n 604800; omega
  replace e1 := Lib.hid e1; replace e2 := Lib.hid e2; replace h0 := Lib.hid h0
  obtain ⟨dd, hd⟩ : ∃ x, dayOf t = x := ⟨_, rfl⟩
  obtain ⟨ww, hw⟩ : ∃ x, weekOf t = x := ⟨_, rfl⟩
  rw [hd] at h1; rw [hw] at h2
  have b1 : (dd == n) = true := by simp [h1]
  have b2 : (ww == n) = false := by simp [h2]
  clear h1 h2; replace hd := Lib.hid hd; replace hw := Lib.hid hw
  go_enter Try.func12, Try.ntmps12
  go_wp2_with fail
  refine (awake11 _).mono ?_
  rintro e w1 ⟨rfl, x1⟩
  have hl1 := h.ext x1
  have X1 := (Ext.refl _).trans x1
  go_wp2_with fail
  refine (bEq (cHas hl1 (by omega) t _) h0.out).mono ?_
  rintro e w2 ⟨rfl, x2⟩
  have hl2 := hl1.ext x2; clear hl1
  have X2 := X1.trans x2
  go_wp2_with fail
  refine (pOfDay hl2 (by omega) _ n).mono ?_
  rintro e w3 ⟨A3, cap3, rfl, r3, x3, _⟩
  have hl3 := hl2.ext x3; clear hl2
  have X3 := X2.trans x3
  go_wp2_with fail
  refine (bEq (cHas r3 l1 t _) e1.out).mono ?_
  rintro e w4 ⟨rfl, x4⟩
  have hl4 := hl3.ext x4; clear hl3
  have hp4 := r3.ext x4
  have X4 := X3.trans x4
  go_wp2_with fail
  refine (iEq (pDay t _) hd.out).mono ?_
  rintro e w5 ⟨rfl, x5⟩
  have hl5 := hl4.ext x5; clear hl4
  have hp5 := hp4.ext x5; clear hp4
  have X5 := X4.trans x5
  go_wp2_with fail
  refine (pOfWeek hl5 (by omega) _ n).mono ?_
  rintro e w6 ⟨A6, cap6, rfl, r6, x6, _⟩
  have hl6 := hl5.ext x6; clear hl5
  have hp6 := hp5.ext x6; clear hp5
  have X6 := X5.trans x6
  go_wp2_with fail
  refine (bEq (cHas r6 l2 t _) e2.out).mono ?_
  rintro e w7 ⟨rfl, x7⟩
  have hl7 := hl6.ext x7; clear hl6
  have hp7 := r6.ext x7
  have X7 := X6.trans x7
  go_wp2_with fail
  refine (iEq (pWeek t _) hw.out).mono ?_
  rintro e w8 ⟨rfl, x8⟩
  have hl8 := hl7.ext x8; clear hl7
  have hp8 := hp7.ext x8; clear hp7
  have X8 := X7.trans x8
  go_wp2
  go_ret
  exact ⟨rfl, X8⟩

set_option maxRecDepth 100000 in
set_option maxHeartbeats 1000000 in
theorem has11_111 (l : List Sp.S) (A : Option Addr) (c : Nat) (t n : Int) (w : World) (h : Rs w A l) (hl : l.length ≤ 100) (h0 : Sp.has l t = true) (h1 : dayOf t = n) (h2 : weekOf t = n) : Calls Try.prog 12 #[.slice A l.length c, .int .i64 t, .int .i64 n] w (RetB w true) := by
  have e1 : Sp.has (partS l n 86400) t = true := by rw [punchHas_day, h0]; simp [h1]
  have e2 : Sp.has (partS l n 604800) t = true := by rw [punchHas_week, h0]; simp [h2]
  have l1 : (partS l n 86400).length ≤ 900000 := by have := partS_len l n 86400; omega
  have l2 : (partS l n 604800).length ≤ 900000 := by have := partS_len l n 604800; omega
  replace e1 := Lib.hid e1; replace e2 := Lib.hid e2; replace h0 := Lib.hid h0
  obtain ⟨dd, hd⟩ : ∃ x, dayOf t = x := ⟨_, rfl⟩
  obtain ⟨ww, hw⟩ : ∃ x, weekOf t = x := ⟨_, rfl⟩
  rw [hd] at h1; rw [hw] at h2
  have b1 : (dd == n) = true := by simp [h1]
  have b2 : (ww == n) = true := by simp [h2]
  clear h1 h2; replace hd := Lib.hid hd; replace hw := Lib.hid hw
  go_enter Try.func12, Try.ntmps12
  go_wp2_with fail
  refine (awake11 _).mono ?_
  rintro e w1 ⟨rfl, x1⟩
  have hl1 := h.ext x1
  have X1 := (Ext.refl _).trans x1
  go_wp2_with fail
  refine (bEq (cHas hl1 (by omega) t _) h0.out).mono ?_
  rintro e w2 ⟨rfl, x2⟩
  have hl2 := hl1.ext x2; clear hl1
  have X2 := X1.trans x2
  go_wp2_with fail
  refine (pOfDay hl2 (by omega) _ n).mono ?_
  rintro e w3 ⟨A3, cap3, rfl, r3, x3, _⟩
  have hl3 := hl2.ext x3; clear hl2
  have X3 := X2.trans x3
  go_wp2_with fail
  refine (bEq (cHas r3 l1 t _) e1.out).mono ?_
  rintro e w4 ⟨rfl, x4⟩
  have hl4 := hl3.ext x4; clear hl3
  have hp4 := r3.ext x4
  have X4 := X3.trans x4
  go_wp2_with fail
  refine (iEq (pDay t _) hd.out).mono ?_
  rintro e w5 ⟨rfl, x5⟩
  have hl5 := hl4.ext x5; clear hl4
  have hp5 := hp4.ext x5; clear hp4
  have X5 := X4.trans x5
  go_wp2_with fail
  refine (pOfWeek hl5 (by omega) _ n).mono ?_
  rintro e w6 ⟨A6, cap6, rfl, r6, x6, _⟩
  have hl6 := hl5.ext x6; clear hl5
  have hp6 := hp5.ext x6; clear hp5
  have X6 := X5.trans x6
  go_wp2_with fail
  refine (bEq (cHas r6 l2 t _) e2.out).mono ?_
  rintro e w7 ⟨rfl, x7⟩
  have hl7 := hl6.ext x7; clear hl6
  have hp7 := r6.ext x7
  have X7 := X6.trans x7
  go_wp2_with fail
  refine (iEq (pWeek t _) hw.out).mono ?_
  rintro e w8 ⟨rfl, x8⟩
  have hl8 := hl7.ext x8; clear hl7
  have hp8 := hp7.ext x8; clear hp7
  have X8 := X7.trans x8
  go_wp2
  go_ret
  exact ⟨rfl, X8⟩

theorem has11 (l : List Sp.S) (A : Option Addr) (c : Nat) (t n : Int) (w : World) (h : Rs w A l) : Calls Try.prog 12 #[.slice A l.length c, .int .i64 t, .int .i64 n] w (RetB w true) := by
  by_cases hl : l.length ≤ 100
  · cases h0 : Sp.has l t
    · exact has11_000 l A c t n w h hl h0
    · by_cases h1 : dayOf t = n
      · by_cases h2 : weekOf t = n
        · exact has11_111 l A c t n w h hl h0 h1 h2
        · exact has11_110 l A c t n w h hl h0 h1 h2
      · by_cases h2 : weekOf t = n
        · exact has11_101 l A c t n w h hl h0 h1 h2
        · exact has11_100 l A c t n w h hl h0 h1 h2
  · have hl2 : (100 : Int) < (l.length : Int) := by omega
    go_enter Try.func12, Try.ntmps12
    go_wp2_with fail
    refine (awake11 _).mono ?_
    rintro e w1 ⟨rfl, x1⟩
    go_wp2
    go_ret
    exact ⟨rfl, x1⟩
end Go.Proofs.Ytnhmibfgaoealaa
