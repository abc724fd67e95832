/-
  lumperref14.Is.
-/
import Derived.Test.YtnhmibfgaoealaaEe
import Derived.Test.YtnhmibfgaoealaaApp
namespace Go.Proofs.Ytnhmibfgaoealaa
open Go.RowKit
set_option linter.unusedVariables false
set_option linter.unusedSimpArgs false

def isDoc (F T t : Int) : Bool := if T < F then (decide (F ≤ t % 86400) || decide (t % 86400 < T)) else (decide (F ≤ t % 86400) && decide (t % 86400 < T))
theorem isDoc_eq {F T : Int} (h : okNT F T) (t : Int) : isDoc F T t = isNight F T (t % 86400) := by
  unfold isDoc
  rw [Bool.eq_iff_iff, isNight_iff h (by omega) (by omega)]
  split
  · simp only [Bool.or_eq_true, decide_eq_true_eq]; omega
  · simp only [Bool.and_eq_true, decide_eq_true_eq]
set_option maxRecDepth 100000 in
set_option maxHeartbeats 2000000 in
theorem rIsA (cs : List Value) (hcs : cs.length = 23) (F T t : Int) (c16 : cs[16]? = some (.int .i64 F)) (c17 : cs[17]? = some (.int .i64 T)) (b : Bool) (w : World) (kC : ∀ W, Ext w W → Calls Try.prog 87 #[.agg cs.toArray] W (RetB W b)) :
    Calls Try.prog 57 #[.agg cs.toArray, .int .i64 t] w (RetB w (b && Sp.okT t && isDoc F T t)) := by
  have hi := Lib.hid (su_size hcs)
  have hs0 := Bx.new w cs 35
  have X0 := (Ext.refl w).alloc (.cells cs.toArray 35)
  replace kC := Lib.hid kC
  clear hcs
  go_enter Try.func57, Try.ntmps57
  go_wp2_with (first | (refine load_box rfl 35 _ rfl _ rfl _ _ hs0 _ Try.underlying35 rfl hi.out ?_))
  refine (kC.out _ X0).mono ?_
  rintro e w1 ⟨rfl, x1⟩
  have hs1 := hs0.ext x1
  have X1 := X0.trans x1
  have z16 := hs1.cell 16 _ c16
  have z17 := hs1.cell 17 _ c17
  clear hs0 X0 x1 hs1 hi kC
  cases b
  · go_wp2
    go_ret
    exact ⟨rfl, X1⟩
  · by_cases h1 : t < 0
    · have f1 : decide (t < 0) = true := decide_eq_true h1
      have hk : Hid (Sp.okT t = false) := by exact Bool.eq_false_iff.2 fun h => by have := Sp.okT_iff.1 h; omega
      clear h1
      go_wp2
      go_ret
      exact ⟨by rw [hk.out]; rfl, X1⟩
    · have f1 : decide (t < 0) = false := decide_eq_false h1
      by_cases h2 : 32054400 ≤ t
      · have f2 : decide (32054400 ≤ t) = true := decide_eq_true h2
        have hk : Hid (Sp.okT t = false) := by exact Bool.eq_false_iff.2 fun h => by have := Sp.okT_iff.1 h; simp only [Sp.MT] at this; omega
        clear h1 h2
        go_wp2
        go_ret
        exact ⟨by rw [hk.out]; rfl, X1⟩
      · have f2 : decide (32054400 ≤ t) = false := decide_eq_false h2
        have hk : Hid (Sp.okT t = true) := Sp.okT_iff.2 (by simp only [Sp.MT]; omega)
        have ht : t.tmod 86400 = t % 86400 := Int.tmod_eq_emod_of_nonneg (by omega)
        have hD : Hid (isDoc F T t = if T < F then (decide (F ≤ t % 86400) || decide (t % 86400 < T)) else (decide (F ≤ t % 86400) && decide (t % 86400 < T))) := rfl
        obtain ⟨n, hn⟩ : ∃ n, t % 86400 = n := ⟨_, rfl⟩
        rw [hn] at ht hD
        clear hn h1 h2
        by_cases g : T < F
        · have f3 : decide (T < F) = true := decide_eq_true g
          rw [if_pos g] at hD
          clear g
          by_cases g1 : F ≤ n
          · have f4 : decide (F ≤ n) = true := decide_eq_true g1
            rw [f4, Bool.true_or] at hD
            clear g1
            go_wp2
            go_ret
            exact ⟨by rw [hk.out, hD.out]; rfl, X1⟩
          · have f4 : decide (F ≤ n) = false := decide_eq_false g1
            rw [f4, Bool.false_or] at hD
            clear g1
            go_wp2
            go_ret
            exact ⟨by rw [hk.out, hD.out]; rfl, X1⟩
        · have f3 : decide (T < F) = false := decide_eq_false g
          rw [if_neg g] at hD
          clear g
          by_cases g1 : F ≤ n
          · have f4 : decide (F ≤ n) = true := decide_eq_true g1
            rw [f4, Bool.true_and] at hD
            clear g1
            go_wp2
            go_ret
            exact ⟨by rw [hk.out, hD.out]; rfl, X1⟩
          · have f4 : decide (F ≤ n) = false := decide_eq_false g1
            rw [f4, Bool.false_and] at hD
            clear g1
            go_wp2
            go_ret
            exact ⟨by rw [hk.out, hD.out]; rfl, X1⟩
theorem pRIs {s : Su} {g : Sh} (ok : SuOk s) {w : World} (r : SuR w s g) (t : Int) : Calls Try.prog 57 #[.agg (s.cells g).toArray, .int .i64 t] w (RetB w (nightIsS s t)) := by
  have k := rIsA (s.cells g) rfl s.nfrom s.nto t rfl rfl (chk s) w (fun W X => pRChk ok (r.ext X))
  refine bEq k ?_
  unfold nightIsS nightIs
  cases hc : chk s
  · rfl
  · rw [isDoc_eq (chk_nt hc)]; simp

end Go.Proofs.Ytnhmibfgaoealaa
