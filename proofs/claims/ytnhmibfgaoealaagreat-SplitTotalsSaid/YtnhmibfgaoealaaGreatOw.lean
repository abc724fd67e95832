/-
  over.Of of a setup; awake of lumperlaw16.
  Laws of layer 16.
-/
import Derived.Test.YtnhmibfgaoealaaGreatOz
import Derived.Test.YtnhmibfgaoealaaGreatLb
namespace Go.Proofs.YtnhmibfgaoealaaGreat
open Go.RowKit
set_option linter.unusedVariables false
set_option linter.unusedSimpArgs false

set_option maxRecDepth 100000 in
set_option maxHeartbeats 1000000 in
theorem overNo (cs : List Value) (hcs : cs.length = 23) (l : List Sp.S) (A : Option Addr) (c : Nat) (n : Int) (w : World) (kC : ∀ W, Ext w W → Calls Tryz.prog 22 #[.agg cs.toArray] W (RetB W false)) :
    Calls Tryz.prog 28 #[.agg cs.toArray, .slice A l.length c, .int .i64 n] w (Ret3S w [] [] []) := by
  have hi := Lib.hid (su_size hcs)
  have hs0 := Bx.new w cs 30
  have X0 := (Ext.refl w).alloc (.cells cs.toArray 30)
  replace kC := Lib.hid kC
  clear hcs
  refine (callsIn_wide (n := 6)).1 ?_
  refine callsIn_of_wp_marks Tryz.func28 rfl trivial ?_ rfl
  refine wpIn_wide.2 ?_
  simp only [Tryz.ntmps28, List.size_toArray, List.length_cons, List.length_nil, Nat.reduceAdd, Nat.reduceSub, Array.replicate_succ, Array.replicate_zero, List.push_toArray, List.append_toArray, List.nil_append, List.cons_append]
  go_wp2_with (first | (refine load_box rfl 30 _ rfl _ rfl _ _ hs0 _ Tryz.underlying30 rfl hi.out ?_))
  refine (kC.out _ X0).mono ?_
  rintro e w1 ⟨rfl, x1⟩
  have X1 := X0.trans x1
  clear x1 X0 hs0 hi
  go_wp2
  exact ⟨_, results_tmp3 rfl _ _ _, none, 0, none, 0, none, 0, rfl, ⟨Rs.nil, Rs.nil, Rs.nil⟩, X1⟩

def oR (s : Su) (l : List Sp.S) (n : Int) : List Sp.S := if chk s = true then overR (partS l n 604800) s.dreg s.wreg else []
def oO (s : Su) (l : List Sp.S) (n : Int) : List Sp.S := if chk s = true then overO (partS l n 604800) s.dreg s.dover s.wreg else []
def oD (s : Su) (l : List Sp.S) (n : Int) : List Sp.S := if chk s = true then overD (partS l n 604800) s.dover else []
theorem o_yes {s : Su} (h : chk s = true) (l : List Sp.S) (n : Int) : oR s l n = overR (partS l n 604800) s.dreg s.wreg ∧ oO s l n = overO (partS l n 604800) s.dreg s.dover s.wreg ∧ oD s l n = overD (partS l n 604800) s.dover := ⟨if_pos h, if_pos h, if_pos h⟩
theorem o_no {s : Su} (h : chk s = false) (l : List Sp.S) (n : Int) : oR s l n = [] ∧ oO s l n = [] ∧ oD s l n = [] := by
  unfold oR oO oD
  rw [h]
  exact ⟨rfl, rfl, rfl⟩
theorem pOver {s : Su} {g : Sh} (ok : SuOk s) (fw : SuFew s) {w : World} (r : SuR w s g) {A : Option Addr} {l : List Sp.S} (h : Rs w A l) (hl : l.length ≤ 100000) (c : Nat) (n : Int) :
    Calls Tryz.prog 28 #[.agg (s.cells g).toArray, .slice A l.length c, .int .i64 n] w (Ret3S w (oR s l n) (oO s l n) (oD s l n)) := by
  have kC : ∀ W, Ext w W → Calls Tryz.prog 22 #[.agg (s.cells g).toArray] W (RetB W (chk s)) := fun W X => pCheck ok fw (r.ext X)
  cases hc : chk s
  · rw [hc] at kC
    rw [(o_no hc l n).1, (o_no hc l n).2.1, (o_no hc l n).2.2]
    exact overNo (s.cells g) rfl l A c n w kC
  · rw [hc] at kC
    rw [(o_yes hc l n).1, (o_yes hc l n).2.1, (o_yes hc l n).2.2]
    exact overA (s.cells g) rfl s.dreg s.dover s.wreg rfl rfl rfl ok.dreg ok.dover ok.wreg l A c n hl w h kC

def s16 : Su := { awS with dreg := 28800, dover := 43200, wreg := 40000 }
theorem ok16 : SuOk s16 := by
  have b : ∀ n : Int, 0 ≤ n ∧ n ≤ 1000000 → B64 n := fun _ h => b64_small h
  refine ⟨b _ ?_, b _ ?_, b _ ?_, b _ ?_, b _ ?_, b _ ?_, b _ ?_, b _ ?_, b _ ?_, b _ ?_, b _ ?_, b _ ?_, b _ ?_, b _ ?_, b _ ?_, ⟨b _ ?_, b _ ?_⟩, ⟨by decide, by simp [awS, s16]⟩, ⟨by decide, by simp [awS, s16]⟩, ⟨by decide, by simp [awS, s16]⟩, ⟨by decide, by simp [awS, s16]⟩, ⟨by decide, by simp [awS, s16]; exact b64_small (by omega)⟩, ⟨by decide, by simp [awS, s16]⟩⟩ <;> decide
theorem fw16 : SuFew s16 := by unfold SuFew; decide
def L16 : List Sp.S := [(0, 50000), (86400, 100000)]
theorem v16 : oR s16 L16 0 = [(0, 28800), (86400, 97600)] ∧ oO s16 L16 0 = [(28800, 43200), (97600, 100000)] ∧ oD s16 L16 0 = [(43200, 50000)] := by decide +kernel
theorem a16 {g : Nat} {w : World} {A : Option Addr} (r : SuR w s16 (awH g)) (h : Rs w A L16) : Calls Tryz.prog 28 #[.agg (s16.cells (awH g)).toArray, .slice A 2 2, .int .i64 0] w (Ret3S w [(0, 28800), (86400, 97600)] [(28800, 43200), (97600, 100000)] [(43200, 50000)]) := by
  have := pOver ok16 fw16 r h (by decide) 2 0
  rw [v16.1, v16.2.1, v16.2.2] at this
  exact this
theorem b16 {w : World} {A : Option Addr} {l : List Sp.S} (h : Rs w A l) (n : Nat) (hn : n = l.length) (hl : l.length ≤ 1000) (c : Nat) : Calls Tryz.prog 28 #[.agg (zS.cells zH).toArray, .slice A n c, .int .i64 0] w (Ret3S w [] [] []) := by
  subst hn
  have := pOver (g := zH) zOk zFew (zR w) h (Nat.le_trans hl (by omega)) c 0
  have hz : chk zS = false := by decide
  rw [(o_no hz l 0).1, (o_no hz l 0).2.1, (o_no hz l 0).2.2] at this
  exact this

end Go.Proofs.YtnhmibfgaoealaaGreat
namespace Go.Proofs.YtnhmibfgaoealaaGreat
open Go.RowKit
set_option linter.unusedVariables false
set_option linter.unusedSimpArgs false

theorem cSizeN {w : World} {A : Option Addr} {l : List Sp.S} (h : Rs w A l) (hl : l.length ≤ 900000) (n : Nat) (hn : l.length = n) (cap : Nat) : Calls Tryz.prog 26 #[.slice A n cap] w (RetI w (Sp.size l)) := by subst hn; exact cSize h hl cap

theorem shortL_len2 (A : List Sp.S) (n : Int) (K : Nat) (hA : A.length + 1 ≤ K) : (shortL A n).length ≤ 371 * K := by
  have h5 := flatMap_len (fun d => Sp.first (partS A d 86400) n) K (daysL (Sp.norm A)) fun d _ => Nat.le_trans (first_length _ _) (Nat.le_trans (partS_len A d 86400) hA)
  exact Nat.le_trans h5 (Nat.mul_le_mul_right _ (days_len A))
theorem o_lens (s : Su) (l : List Sp.S) (n : Int) (hl : l.length ≤ 60) : (oR s l n).length ≤ 30000 ∧ (oO s l n).length ≤ 60000 ∧ (oD s l n).length ≤ 30000 := by
  have h1 := partS_len l n 604800
  unfold oR oO oD
  by_cases hc : chk s = true
  · rw [if_pos hc, if_pos hc, if_pos hc]
    generalize partS l n 604800 = P at *
    have h2 := shortL_len2 P s.dreg 62 (by omega)
    have h3 := shortL_len2 P s.dover 62 (by omega)
    have hR : (overR P s.dreg s.wreg).length ≤ 371 * 62 := by unfold overR; exact Nat.le_trans (first_length _ _) h2
    refine ⟨by omega, ?_, ?_⟩
    · unfold overO; have := minus_le (shortL P s.dover) (overR P s.dreg s.wreg); omega
    · unfold overD; have := minus_le P (shortL P s.dover); omega
  · rw [if_neg hc, if_neg hc, if_neg hc]; simp
end Go.Proofs.YtnhmibfgaoealaaGreat
