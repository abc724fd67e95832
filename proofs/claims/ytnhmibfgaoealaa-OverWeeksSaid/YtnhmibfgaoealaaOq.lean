/-
  over.Of of a setup; awake of lumperlaw16.
-/
import Derived.Test.YtnhmibfgaoealaaOo
import Derived.Test.YtnhmibfgaoealaaLb
namespace Go.Proofs.Ytnhmibfgaoealaa
open Go.RowKit
set_option linter.unusedVariables false
set_option linter.unusedSimpArgs false

set_option maxRecDepth 100000 in
set_option maxHeartbeats 1000000 in
theorem overNo (cs : List Value) (hcs : cs.length = 23) (l : List Sp.S) (A : Option Addr) (c : Nat) (n : Int) (w : World) (kC : ∀ W, Ext w W → Calls Try.prog 59 #[.agg cs.toArray] W (RetB W false)) :
    Calls Try.prog 62 #[.agg cs.toArray, .slice A l.length c, .int .i64 n] w (Ret3S w [] [] []) := by
  have hi := Lib.hid (su_size hcs)
  have hs0 := Bx.new w cs 35
  have X0 := (Ext.refl w).alloc (.cells cs.toArray 35)
  replace kC := Lib.hid kC
  clear hcs
  refine (callsIn_wide (n := 6)).1 ?_
  refine callsIn_of_wp_marks Try.func62 rfl trivial ?_ rfl
  refine wpIn_wide.2 ?_
  simp only [Try.ntmps62, List.size_toArray, List.length_cons, List.length_nil, Nat.reduceAdd, Nat.reduceSub, Array.replicate_succ, Array.replicate_zero, List.push_toArray, List.append_toArray, List.nil_append, List.cons_append]
  go_wp2_with (first | (refine load_box rfl 35 _ rfl _ rfl _ _ hs0 _ Try.underlying35 rfl hi.out ?_))
  refine (kC.out _ X0).mono ?_
  rintro e w1 ⟨rfl, x1⟩
  have X1 := X0.trans x1
  clear x1 X0 hs0 hi
  go_wp2
  exact ⟨_, results_tmp3 rfl _ _ _, none, 0, none, 0, none, 0, rfl, ⟨Rs.nil, Rs.nil, Rs.nil⟩, X1⟩

def oR (s : Su) (l : List Sp.S) (n : Int) : List Sp.S := if chk s = true then overR (partS l n 604800) s.dreg s.wreg else []
def oO (s : Su) (l : List Sp.S) (n : Int) : List Sp.S := if chk s = true then overO (partS l n 604800) s.dreg s.dover s.wreg else []
def oD (s : Su) (l : List Sp.S) (n : Int) : List Sp.S := if chk s = true then overD (partS l n 604800) s.dover else []
theorem o_yes {s : Su} (h : chk s = true) (l : List Sp.S) (n : Int) : oR s l n = overR (partS l n 604800) s.dreg s.wreg ∧ oO s l n = overO (partS l n 604800) s.dreg s.dover s.wreg ∧ oD s l n = overD (partS l n 604800) s.dover := ⟨if_pos h, if_pos h, if_pos h⟩
theorem o_no {s : Su} (h : chk s = false) (l : List Sp.S) (n : Int) : oR s l n = [] ∧ oO s l n = [] ∧ oD s l n = [] := by
  unfold oR oO oD
  rw [h]
  exact ⟨rfl, rfl, rfl⟩
theorem pOver {s : Su} {g : Sh} (ok : SuOk s) (fw : SuFew s) {w : World} (r : SuR w s g) {A : Option Addr} {l : List Sp.S} (h : Rs w A l) (hl : l.length ≤ 1000) (c : Nat) (n : Int) :
    Calls Try.prog 62 #[.agg (s.cells g).toArray, .slice A l.length c, .int .i64 n] w (Ret3S w (oR s l n) (oO s l n) (oD s l n)) := by
  have kC : ∀ W, Ext w W → Calls Try.prog 59 #[.agg (s.cells g).toArray] W (RetB W (chk s)) := fun W X => pCheck ok fw (r.ext X)
  cases hc : chk s
  · rw [hc] at kC
    rw [(o_no hc l n).1, (o_no hc l n).2.1, (o_no hc l n).2.2]
    exact overNo (s.cells g) rfl l A c n w kC
  · rw [hc] at kC
    rw [(o_yes hc l n).1, (o_yes hc l n).2.1, (o_yes hc l n).2.2]
    exact overA (s.cells g) rfl s.dreg s.dover s.wreg rfl rfl rfl ok.dreg ok.dover ok.wreg l A c n hl w h kC

def s16 : Su := { awS with dreg := 28800, dover := 43200, wreg := 40000 }
theorem ok16 : SuOk s16 := by
  have b : ∀ n : Int, 0 ≤ n ∧ n ≤ 1000000 → B64 n := fun _ h => b64_small h
  refine ⟨b _ ?_, b _ ?_, b _ ?_, b _ ?_, b _ ?_, b _ ?_, b _ ?_, b _ ?_, b _ ?_, b _ ?_, b _ ?_, b _ ?_, b _ ?_, b _ ?_, b _ ?_, ⟨b _ ?_, b _ ?_⟩, ⟨by decide, by simp [awS, s16]⟩, ⟨by decide, by simp [awS, s16]⟩, ⟨by decide, by simp [awS, s16]⟩, ⟨by decide, by simp [awS, s16]⟩, ⟨by decide, by simp [awS, s16]; exact b64_small (by omega)⟩, ⟨by decide, by simp [awS, s16]⟩⟩ <;> decide
theorem fw16 : SuFew s16 := by unfold SuFew; decide
def L16 : List Sp.S := [(0, 50000), (86400, 100000)]
theorem v16 : oR s16 L16 0 = [(0, 28800), (86400, 97600)] ∧ oO s16 L16 0 = [(28800, 43200), (97600, 100000)] ∧ oD s16 L16 0 = [(43200, 50000)] := by decide +kernel
theorem a16 {g : Nat} {w : World} {A : Option Addr} (r : SuR w s16 (awH g)) (h : Rs w A L16) : Calls Try.prog 62 #[.agg (s16.cells (awH g)).toArray, .slice A 2 2, .int .i64 0] w (Ret3S w [(0, 28800), (86400, 97600)] [(28800, 43200), (97600, 100000)] [(43200, 50000)]) := by
  have := pOver ok16 fw16 r h (by decide) 2 0
  rw [v16.1, v16.2.1, v16.2.2] at this
  exact this
theorem b16 {w : World} {A : Option Addr} {l : List Sp.S} (h : Rs w A l) (n : Nat) (hn : n = l.length) (hl : l.length ≤ 1000) (c : Nat) : Calls Try.prog 62 #[.agg (zS.cells zH).toArray, .slice A n c, .int .i64 0] w (Ret3S w [] [] []) := by
  subst hn
  have := pOver (g := zH) zOk zFew (zR w) h hl c 0
  have hz : chk zS = false := by decide
  rw [(o_no hz l 0).1, (o_no hz l 0).2.1, (o_no hz l 0).2.2] at this
  exact this

set_option maxRecDepth 100000 in
set_option maxHeartbeats 1000000 in
theorem awake16 (w : World) : Calls Try.prog 60 #[] w (RetB w true) := by
  have hu0 := (awR w s16 rfl rfl rfl rfl rfl rfl).alloc (.cells #[.int .i64 1, .slice none 0 0, .int .i64 1, .int .i64 1, .slice none 0 0, .slice none 0 0, .slice none 0 0, .int .i64 0, .int .i64 1, .int .i64 60, .int .i64 0, .int .i64 0, .int .i64 0, .int .i64 28800, .int .i64 43200, .int .i64 40000, .int .i64 0, .int .i64 0, .slice (some ⟨w.heap.size, 0, none⟩) 1 1, .int .i64 0, .int .i64 0, .int .i64 0, .slice none 0 0] 35)
  have hs0 := Bx.new_at (w.alloc (.cells #[.int .i64 1] 3)) [.int .i64 1, .slice none 0 0, .int .i64 1, .int .i64 1, .slice none 0 0, .slice none 0 0, .slice none 0 0, .int .i64 0, .int .i64 1, .int .i64 60, .int .i64 0, .int .i64 0, .int .i64 0, .int .i64 28800, .int .i64 43200, .int .i64 40000, .int .i64 0, .int .i64 0, .slice (some ⟨w.heap.size, 0, none⟩) 1 1, .int .i64 0, .int .i64 0, .int .i64 0, .slice none 0 0] 35 (w.heap.size + 1) (by simp)
  have X0 := ((Ext.refl w).alloc (.cells #[.int .i64 1] 3)).alloc (.cells #[.int .i64 1, .slice none 0 0, .int .i64 1, .int .i64 1, .slice none 0 0, .slice none 0 0, .slice none 0 0, .int .i64 0, .int .i64 1, .int .i64 60, .int .i64 0, .int .i64 0, .int .i64 0, .int .i64 28800, .int .i64 43200, .int .i64 40000, .int .i64 0, .int .i64 0, .slice (some ⟨w.heap.size, 0, none⟩) 1 1, .int .i64 0, .int .i64 0, .int .i64 0, .slice none 0 0] 35)
  have hL0 := Rs.new_g ((w.alloc (.cells #[.int .i64 1] 3)).alloc (.cells #[.int .i64 1, .slice none 0 0, .int .i64 1, .int .i64 1, .slice none 0 0, .slice none 0 0, .slice none 0 0, .int .i64 0, .int .i64 1, .int .i64 60, .int .i64 0, .int .i64 0, .int .i64 0, .int .i64 28800, .int .i64 43200, .int .i64 40000, .int .i64 0, .int .i64 0, .slice (some ⟨w.heap.size, 0, none⟩) 1 1, .int .i64 0, .int .i64 0, .int .i64 0, .slice none 0 0] 35)) L16 42 (w.heap.size + 2) (by simp)
  have hu1 := hu0.alloc (.cells (flat encS L16).toArray 42)
  have X1 := X0.alloc (.cells (flat encS L16).toArray 42)
  go_enter Try.func60, Try.ntmps60
  go_wp2_with (first | (refine build_at rfl 35 _ rfl #[.int .i64 1, .slice none 0 0, .int .i64 1, .int .i64 1, .slice none 0 0, .slice none 0 0, .slice none 0 0, .int .i64 0, .int .i64 1, .int .i64 60, .int .i64 0, .int .i64 0, .int .i64 0, .int .i64 28800, .int .i64 43200, .int .i64 40000, .int .i64 0, .int .i64 0, .slice (some ⟨w.heap.size, 0, none⟩) 1 1, .int .i64 0, .int .i64 0, .int .i64 0, .slice none 0 0] (by kernel_rfl) ?_) | (refine store_new rfl 35 _ _ rfl (w.alloc (.cells #[.int .i64 1] 3)) (w.heap.size + 1) (by simp) _ #[.int .i64 1, .slice none 0 0, .int .i64 1, .int .i64 1, .slice none 0 0, .slice none 0 0, .slice none 0 0, .int .i64 0, .int .i64 1, .int .i64 60, .int .i64 0, .int .i64 0, .int .i64 0, .int .i64 28800, .int .i64 43200, .int .i64 40000, .int .i64 0, .int .i64 0, .slice (some ⟨w.heap.size, 0, none⟩) 1 1, .int .i64 0, .int .i64 0, .int .i64 0, .slice none 0 0] 35 rfl rfl rfl su_size0 rfl (by simp [Value.oneCell']) ?_) | (refine load_box rfl 35 _ rfl _ rfl _ _ hs0 _ Try.underlying35 rfl su_size0 ?_))
  refine (a16 hu1 hL0).mono ?_
  rintro e w2 ⟨A2, cap2, B2, dap2, C2, eap2, rfl, ⟨r2, t2, u2⟩, x2⟩
  have X2 := X1.trans x2
  go_wp2_with fail
  refine (b16 r2 _ rfl (by decide) _).mono ?_
  rintro e w3 ⟨A3, cap3, B3, dap3, C3, eap3, rfl, ⟨r3, t3, u3⟩, x3⟩
  have ha3 := r2.ext x3
  have hb3 := t2.ext x3
  have hc3 := u2.ext x3
  have X3 := X2.trans x3
  go_wp2_with fail
  refine (bEq (cSame (ha3.alloc _) (Rs.new_g _ [(0, 28800), (86400, 97600)] _ _ (by simp)) (by decide) _ _) (b' := true) (decide_eq_true rfl)).mono ?_
  rintro e w4 ⟨rfl, x4⟩
  have ha4 := (ha3.alloc _).ext x4
  have hb4 := (hb3.alloc _).ext x4
  have hc4 := (hc3.alloc _).ext x4
  have X4 := (X3.alloc _).trans x4
  go_wp2_with fail
  refine (bEq (cSame (hb4.alloc _) (Rs.new_g _ [(28800, 43200), (97600, 100000)] _ _ (by simp)) (by decide) _ _) (b' := true) (decide_eq_true rfl)).mono ?_
  rintro e w5 ⟨rfl, x5⟩
  have ha5 := (ha4.alloc _).ext x5
  have hb5 := (hb4.alloc _).ext x5
  have hc5 := (hc4.alloc _).ext x5
  have X5 := (X4.alloc _).trans x5
  go_wp2_with fail
  refine (bEq (cSame (hc5.alloc _) (Rs.new_g _ [(43200, 50000)] _ _ (by simp)) (by decide) _ _) (b' := true) (decide_eq_true rfl)).mono ?_
  rintro e w6 ⟨rfl, x6⟩
  have ha6 := (ha5.alloc _).ext x6
  have hb6 := (hb5.alloc _).ext x6
  have hc6 := (hc5.alloc _).ext x6
  have X6 := (X5.alloc _).trans x6
  go_wp2
  go_ret
  exact ⟨rfl, X6⟩

end Go.Proofs.Ytnhmibfgaoealaa
