/-
  Laws of layer 15.
-/
import Derived.Test.YtnhmibfgaoealaaKi
import Derived.Test.YtnhmibfgaoealaaLt
namespace Go.Proofs.Ytnhmibfgaoealaa
open Go.RowKit
set_option linter.unusedVariables false
set_option linter.unusedSimpArgs false


set_option maxRecDepth 100000 in
set_option maxHeartbeats 1000000 in
theorem breaksFirst0 (cs : List Value) (hcs : cs.length = 23) (P : Int) (c10 : cs[10]? = some (.int .i64 P)) (l : List SegL) (A : Option Addr) (c : Nat) (d : Int) (hd : 0 ≤ d ∧ d ≤ 255) (pp : Prop) (a b : List Sp.S) (w : World) (h : Rg w A l) (kF : ∀ W, Ext w W → ∀ A c, Rg W A l → Calls Try.prog 65 #[.agg cs.toArray, .slice A l.length c] W (RetP W pp)) (kC : pp → ∀ W, Ext w W → Calls Try.prog 59 #[.agg cs.toArray] W (RetB W false)) :
    Calls Try.prog 25 #[.agg cs.toArray, .slice A l.length c, .int .u8 d] w (RetB w true) := by
  replace kF := Lib.hid kF
  replace kC := Lib.hid kC
  replace h := Lib.hid h
  have hi := Lib.hid (su_size hcs)
  clear hcs
  have hs0 := Bx.new w cs 35
  have X0 := (Ext.refl w).alloc (.cells cs.toArray 35)
  have hg0 := h.out.alloc (.cells cs.toArray 35)
  go_enter Try.func25, Try.ntmps25
  go_wp2_with fail
  refine (awake15 _).mono ?_
  rintro e w1 ⟨rfl, x1⟩
  have hs1 := hs0.ext x1; clear hs0
  have hg1 := hg0.ext x1; clear hg0
  have X1 := X0.trans x1
  go_wp2_with (first | (refine load_box rfl 35 _ rfl _ rfl _ _ hs1 _ Try.underlying35 rfl hi.out ?_))
  refine (kF.out _ X1 _ _ hg1).mono ?_
  rintro e w2 ⟨⟨b, rfl, hb⟩, x2⟩
  have hs2 := hs1.ext x2; clear hs1
  have hg2 := hg1.ext x2; clear hg1
  have X2 := X1.trans x2
  cases b
  · clear hb
    go_wp2
    go_ret
    exact ⟨rfl, X2⟩
  · have hp := hb rfl
    clear hb
    go_wp2_with (first | (refine load_box rfl 35 _ rfl _ rfl _ _ hs2 _ Try.underlying35 rfl hi.out ?_))
    refine (kC.out hp _ X2).mono ?_
    rintro e w3 ⟨rfl, x3⟩
    have hs3 := hs2.ext x3; clear hs2
    have hg3 := hg2.ext x3; clear hg2
    have X3 := X2.trans x3
    go_wp2
    go_ret
    exact ⟨rfl, X3⟩

set_option maxRecDepth 100000 in
set_option maxHeartbeats 1000000 in
theorem breaksFirst00 (cs : List Value) (hcs : cs.length = 23) (P : Int) (c10 : cs[10]? = some (.int .i64 P)) (l : List SegL) (A : Option Addr) (c : Nat) (d : Int) (hd : 0 ≤ d ∧ d ≤ 255) (pp : Prop) (a b : List Sp.S) (w : World) (h : Rg w A l) (kF : ∀ W, Ext w W → ∀ A c, Rg W A l → Calls Try.prog 65 #[.agg cs.toArray, .slice A l.length c] W (RetP W pp)) (kC : pp → ∀ W, Ext w W → Calls Try.prog 59 #[.agg cs.toArray] W (RetB W true)) (kB : pp → ∀ W, Ext w W → ∀ A c, Rg W A l → Calls Try.prog 68 #[.agg cs.toArray, .slice A l.length c, .int .i64 d] W (Ret2S W a b)) (p q u v : List Sp.S) (h30 : pp → l.length ≤ 100) (bl : pp → a.length ≤ 800000 ∧ b.length ≤ 800000 ∧ p.length ≤ 900000 ∧ u.length ≤ 2000000) (e1 : Sp.and_ a (onlyL l 3) = p) (e2 : Sp.and_ b (onlyL l 3) = q) (e3 : Sp.minus a (onlyL l 3) = u) (e4 : Sp.minus b (onlyL l 3) = v) (sz : Sp.size p ≤ P) (hp1 : p = []) (hp2 : u = []) :
    Calls Try.prog 25 #[.agg cs.toArray, .slice A l.length c, .int .u8 d] w (RetB w true) := by
  subst hp1
  subst hp2
  replace kF := Lib.hid kF
  replace kC := Lib.hid kC
  replace h := Lib.hid h
  replace kB := Lib.hid kB
  replace h30 := Lib.hid h30
  replace bl := Lib.hid bl
  replace e1 := Lib.hid e1
  replace e2 := Lib.hid e2
  replace e3 := Lib.hid e3
  replace e4 := Lib.hid e4
  replace sz := Lib.hid sz
  have hi := Lib.hid (su_size hcs)
  clear hcs
  have hs0 := Bx.new w cs 35
  have X0 := (Ext.refl w).alloc (.cells cs.toArray 35)
  have hg0 := h.out.alloc (.cells cs.toArray 35)
  go_enter Try.func25, Try.ntmps25
  go_wp2_with fail
  refine (awake15 _).mono ?_
  rintro e w1 ⟨rfl, x1⟩
  have hs1 := hs0.ext x1; clear hs0
  have hg1 := hg0.ext x1; clear hg0
  have X1 := X0.trans x1
  go_wp2_with (first | (refine load_box rfl 35 _ rfl _ rfl _ _ hs1 _ Try.underlying35 rfl hi.out ?_))
  refine (kF.out _ X1 _ _ hg1).mono ?_
  rintro e w2 ⟨⟨b, rfl, hb⟩, x2⟩
  have hs2 := hs1.ext x2; clear hs1
  have hg2 := hg1.ext x2; clear hg1
  have X2 := X1.trans x2
  cases b
  · clear hb
    go_wp2
    go_ret
    exact ⟨rfl, X2⟩
  · have hp := hb rfl
    clear hb
    go_wp2_with (first | (refine load_box rfl 35 _ rfl _ rfl _ _ hs2 _ Try.underlying35 rfl hi.out ?_))
    refine (kC.out hp _ X2).mono ?_
    rintro e w3 ⟨rfl, x3⟩
    have hs3 := hs2.ext x3; clear hs2
    have hg3 := hg2.ext x3; clear hg2
    have X3 := X2.trans x3
    go_wp2_with (first | (refine load_box rfl 35 _ rfl _ rfl _ _ hs3 _ Try.underlying35 rfl hi.out ?_))
    have lb := bl.out hp
    have lg := h30.out hp
    refine (kB.out hp _ X3 _ _ hg3).mono ?_
    rintro e w4 ⟨A4, cap4, B4, dap4, rfl, ⟨r4, t4⟩, x4, _⟩
    have hs4 := hs3.ext x4; clear hs3
    have hg4 := hg3.ext x4; clear hg3
    have X4 := X3.trans x4
    go_wp2_with fail
    refine (pOnly hg4 (by omega) _ 3).mono ?_
    rintro e w5 ⟨A5, cap5, rfl, r5, x5, _⟩
    have hs5 := hs4.ext x5; clear hs4
    have hg5 := hg4.ext x5; clear hg4
    have ha5 := r4.ext x5
    have hb5 := t4.ext x5
    have X5 := X4.trans x5
    have lo := only_len l 3
    go_wp2_with fail
    refine (sEq (cAnd ha5 r5 (by omega) (by omega) _ _) e1.out).mono ?_
    rintro e w6 ⟨A6, cap6, rfl, r6, x6, _⟩
    have hs6 := hs5.ext x6; clear hs5
    have hg6 := hg5.ext x6; clear hg5
    have ha6 := ha5.ext x6; clear ha5
    have hb6 := hb5.ext x6; clear hb5
    have hr6 := r5.ext x6
    have X6 := X5.trans x6
    go_wp2_with fail
    refine (sEq (cAnd hb6 hr6 (by omega) (by omega) _ _) e2.out).mono ?_
    rintro e w7 ⟨A7, cap7, rfl, r7, x7, _⟩
    have hs7 := hs6.ext x7; clear hs6
    have hg7 := hg6.ext x7; clear hg6
    have ha7 := ha6.ext x7; clear ha6
    have hb7 := hb6.ext x7; clear hb6
    have hr7 := hr6.ext x7; clear hr6
    have hp7 := r6.ext x7
    have X7 := X6.trans x7
    go_wp2_with fail
    refine (sEq (cMinus ha7 hr7 (by omega) (by omega) _ _) e3.out).mono ?_
    rintro e w8 ⟨A8, cap8, rfl, r8, x8, _⟩
    have hs8 := hs7.ext x8; clear hs7
    have hg8 := hg7.ext x8; clear hg7
    have ha8 := ha7.ext x8; clear ha7
    have hb8 := hb7.ext x8; clear hb7
    have hr8 := hr7.ext x8; clear hr7
    have hp8 := hp7.ext x8; clear hp7
    have hq8 := r7.ext x8
    have X8 := X7.trans x8
    go_wp2_with fail
    refine (sEq (cMinus hb8 hr8 (by omega) (by omega) _ _) e4.out).mono ?_
    rintro e w9 ⟨A9, cap9, rfl, r9, x9, _⟩
    have hs9 := hs8.ext x9; clear hs8
    have hg9 := hg8.ext x9; clear hg8
    have ha9 := ha8.ext x9; clear ha8
    have hb9 := hb8.ext x9; clear hb8
    have hr9 := hr8.ext x9; clear hr8
    have hp9 := hp8.ext x9; clear hp8
    have hq9 := hq8.ext x9; clear hq8
    have hu9 := r8.ext x9
    have X9 := X8.trans x9
    have y10 := hs9.cell 10 _ c10
    have hBn := hs9.lt
    go_wp2_with fail
    go_quiet (fail)
    go_wp2_with fail
    go_quiet (fail)
    go_wp2_with fail
    have y10L : ∀ e : Later w9, e.1.cell? ⟨w.heap.size, 10, none⟩ = some (.int .i64 P) := fun e => (e.2.cell (p := ⟨w.heap.size, 10, none⟩) hBn).trans y10
    have sz0 := sz.out
    have kS := fun (W : World) (A : Option Addr) (cap : Nat) (h : Rs W A ([] : List Sp.S)) => iEq (cSize h (show ([] : List Sp.S).length ≤ 900000 by first | omega | simp) cap) rfl
    have fS : decide (Sp.size ([] : List Sp.S) ≤ P) = true := decide_eq_true sz0
    refine wp_region_later w9 (((Ext.refl w9).drewN _).drewN _) (by kernel_rfl) (by kernel_rfl) ?_
    repeat (go_big_quiet_step (exact later_int (kS _ _ _ (hp9.ext (Subtype.property _)))))
    refine wpQuiet_nil ?_
    rintro wz ⟨ez, hez⟩
    have xz : Ext w9 wz := hez ▸ ez.2
    clear hez ez y10L
    go_wp2
    go_ret
    exact ⟨rfl, X9.trans xz⟩

set_option maxRecDepth 100000 in
set_option maxHeartbeats 1000000 in
theorem breaksFirst01 (cs : List Value) (hcs : cs.length = 23) (P : Int) (c10 : cs[10]? = some (.int .i64 P)) (l : List SegL) (A : Option Addr) (c : Nat) (d : Int) (hd : 0 ≤ d ∧ d ≤ 255) (pp : Prop) (a b : List Sp.S) (w : World) (h : Rg w A l) (kF : ∀ W, Ext w W → ∀ A c, Rg W A l → Calls Try.prog 65 #[.agg cs.toArray, .slice A l.length c] W (RetP W pp)) (kC : pp → ∀ W, Ext w W → Calls Try.prog 59 #[.agg cs.toArray] W (RetB W true)) (kB : pp → ∀ W, Ext w W → ∀ A c, Rg W A l → Calls Try.prog 68 #[.agg cs.toArray, .slice A l.length c, .int .i64 d] W (Ret2S W a b)) (p q u v : List Sp.S) (h30 : pp → l.length ≤ 100) (bl : pp → a.length ≤ 800000 ∧ b.length ≤ 800000 ∧ p.length ≤ 900000 ∧ u.length ≤ 2000000) (e1 : Sp.and_ a (onlyL l 3) = p) (e2 : Sp.and_ b (onlyL l 3) = q) (e3 : Sp.minus a (onlyL l 3) = u) (e4 : Sp.minus b (onlyL l 3) = v) (sz : Sp.size p ≤ P) (hp1 : p = []) (hp2 : 0 < u.length ∧ v = []) :
    Calls Try.prog 25 #[.agg cs.toArray, .slice A l.length c, .int .u8 d] w (RetB w true) := by
  subst hp1
  obtain ⟨hp2, rfl⟩ := hp2
  replace kF := Lib.hid kF
  replace kC := Lib.hid kC
  replace h := Lib.hid h
  replace kB := Lib.hid kB
  replace h30 := Lib.hid h30
  replace bl := Lib.hid bl
  replace e1 := Lib.hid e1
  replace e2 := Lib.hid e2
  replace e3 := Lib.hid e3
  replace e4 := Lib.hid e4
  replace hp2 := Lib.hid hp2
  replace sz := Lib.hid sz
  have hi := Lib.hid (su_size hcs)
  clear hcs
  have hs0 := Bx.new w cs 35
  have X0 := (Ext.refl w).alloc (.cells cs.toArray 35)
  have hg0 := h.out.alloc (.cells cs.toArray 35)
  go_enter Try.func25, Try.ntmps25
  go_wp2_with fail
  refine (awake15 _).mono ?_
  rintro e w1 ⟨rfl, x1⟩
  have hs1 := hs0.ext x1; clear hs0
  have hg1 := hg0.ext x1; clear hg0
  have X1 := X0.trans x1
  go_wp2_with (first | (refine load_box rfl 35 _ rfl _ rfl _ _ hs1 _ Try.underlying35 rfl hi.out ?_))
  refine (kF.out _ X1 _ _ hg1).mono ?_
  rintro e w2 ⟨⟨b, rfl, hb⟩, x2⟩
  have hs2 := hs1.ext x2; clear hs1
  have hg2 := hg1.ext x2; clear hg1
  have X2 := X1.trans x2
  cases b
  · clear hb
    go_wp2
    go_ret
    exact ⟨rfl, X2⟩
  · have hp := hb rfl
    clear hb
    go_wp2_with (first | (refine load_box rfl 35 _ rfl _ rfl _ _ hs2 _ Try.underlying35 rfl hi.out ?_))
    refine (kC.out hp _ X2).mono ?_
    rintro e w3 ⟨rfl, x3⟩
    have hs3 := hs2.ext x3; clear hs2
    have hg3 := hg2.ext x3; clear hg2
    have X3 := X2.trans x3
    go_wp2_with (first | (refine load_box rfl 35 _ rfl _ rfl _ _ hs3 _ Try.underlying35 rfl hi.out ?_))
    have lb := bl.out hp
    have lg := h30.out hp
    refine (kB.out hp _ X3 _ _ hg3).mono ?_
    rintro e w4 ⟨A4, cap4, B4, dap4, rfl, ⟨r4, t4⟩, x4, _⟩
    have hs4 := hs3.ext x4; clear hs3
    have hg4 := hg3.ext x4; clear hg3
    have X4 := X3.trans x4
    go_wp2_with fail
    refine (pOnly hg4 (by omega) _ 3).mono ?_
    rintro e w5 ⟨A5, cap5, rfl, r5, x5, _⟩
    have hs5 := hs4.ext x5; clear hs4
    have hg5 := hg4.ext x5; clear hg4
    have ha5 := r4.ext x5
    have hb5 := t4.ext x5
    have X5 := X4.trans x5
    have lo := only_len l 3
    go_wp2_with fail
    refine (sEq (cAnd ha5 r5 (by omega) (by omega) _ _) e1.out).mono ?_
    rintro e w6 ⟨A6, cap6, rfl, r6, x6, _⟩
    have hs6 := hs5.ext x6; clear hs5
    have hg6 := hg5.ext x6; clear hg5
    have ha6 := ha5.ext x6; clear ha5
    have hb6 := hb5.ext x6; clear hb5
    have hr6 := r5.ext x6
    have X6 := X5.trans x6
    go_wp2_with fail
    refine (sEq (cAnd hb6 hr6 (by omega) (by omega) _ _) e2.out).mono ?_
    rintro e w7 ⟨A7, cap7, rfl, r7, x7, _⟩
    have hs7 := hs6.ext x7; clear hs6
    have hg7 := hg6.ext x7; clear hg6
    have ha7 := ha6.ext x7; clear ha6
    have hb7 := hb6.ext x7; clear hb6
    have hr7 := hr6.ext x7; clear hr6
    have hp7 := r6.ext x7
    have X7 := X6.trans x7
    go_wp2_with fail
    refine (sEq (cMinus ha7 hr7 (by omega) (by omega) _ _) e3.out).mono ?_
    rintro e w8 ⟨A8, cap8, rfl, r8, x8, _⟩
    have hs8 := hs7.ext x8; clear hs7
    have hg8 := hg7.ext x8; clear hg7
    have ha8 := ha7.ext x8; clear ha7
    have hb8 := hb7.ext x8; clear hb7
    have hr8 := hr7.ext x8; clear hr7
    have hp8 := hp7.ext x8; clear hp7
    have hq8 := r7.ext x8
    have X8 := X7.trans x8
    go_wp2_with fail
    refine (sEq (cMinus hb8 hr8 (by omega) (by omega) _ _) e4.out).mono ?_
    rintro e w9 ⟨A9, cap9, rfl, r9, x9, _⟩
    have hs9 := hs8.ext x9; clear hs8
    have hg9 := hg8.ext x9; clear hg8
    have ha9 := ha8.ext x9; clear ha8
    have hb9 := hb8.ext x9; clear hb8
    have hr9 := hr8.ext x9; clear hr8
    have hp9 := hp8.ext x9; clear hp8
    have hq9 := hq8.ext x9; clear hq8
    have hu9 := r8.ext x9
    have X9 := X8.trans x9
    have g2 := hp2.out
    have f2 : ((u.length : Int) == 0) = false := beq_false_of_ne (by omega)
    have y10 := hs9.cell 10 _ c10
    have hBn := hs9.lt
    go_wp2_with fail
    go_quiet (fail)
    go_wp2_with fail
    go_quiet (fail)
    go_wp2_with fail
    have y10L : ∀ e : Later w9, e.1.cell? ⟨w.heap.size, 10, none⟩ = some (.int .i64 P) := fun e => (e.2.cell (p := ⟨w.heap.size, 10, none⟩) hBn).trans y10
    have sz0 := sz.out
    have kS := fun (W : World) (A : Option Addr) (cap : Nat) (h : Rs W A ([] : List Sp.S)) => iEq (cSize h (show ([] : List Sp.S).length ≤ 900000 by first | omega | simp) cap) rfl
    have fS : decide (Sp.size ([] : List Sp.S) ≤ P) = true := decide_eq_true sz0
    refine wp_region_later w9 (((Ext.refl w9).drewN _).drewN _) (by kernel_rfl) (by kernel_rfl) ?_
    repeat (go_big_quiet_step (exact later_int (kS _ _ _ (hp9.ext (Subtype.property _)))))
    refine wpQuiet_nil ?_
    rintro wz ⟨ez, hez⟩
    have xz : Ext w9 wz := hez ▸ ez.2
    clear hez ez y10L
    go_wp2
    go_ret
    exact ⟨rfl, X9.trans xz⟩

set_option maxRecDepth 100000 in
set_option maxHeartbeats 1000000 in
theorem breaksFirst02 (cs : List Value) (hcs : cs.length = 23) (P : Int) (c10 : cs[10]? = some (.int .i64 P)) (l : List SegL) (A : Option Addr) (c : Nat) (d : Int) (hd : 0 ≤ d ∧ d ≤ 255) (pp : Prop) (a b : List Sp.S) (w : World) (h : Rg w A l) (kF : ∀ W, Ext w W → ∀ A c, Rg W A l → Calls Try.prog 65 #[.agg cs.toArray, .slice A l.length c] W (RetP W pp)) (kC : pp → ∀ W, Ext w W → Calls Try.prog 59 #[.agg cs.toArray] W (RetB W true)) (kB : pp → ∀ W, Ext w W → ∀ A c, Rg W A l → Calls Try.prog 68 #[.agg cs.toArray, .slice A l.length c, .int .i64 d] W (Ret2S W a b)) (p q u v : List Sp.S) (h30 : pp → l.length ≤ 100) (bl : pp → a.length ≤ 800000 ∧ b.length ≤ 800000 ∧ p.length ≤ 900000 ∧ u.length ≤ 2000000) (e1 : Sp.and_ a (onlyL l 3) = p) (e2 : Sp.and_ b (onlyL l 3) = q) (e3 : Sp.minus a (onlyL l 3) = u) (e4 : Sp.minus b (onlyL l 3) = v) (sz : Sp.size p ≤ P) (hp1 : p = []) (hp2 : 0 < u.length ∧ 0 < v.length ∧ ∀ (i k : Nat) (xx zz : Sp.S), u[i]? = some xx → v[k]? = some zz → xx.2 ≤ zz.1) :
    Calls Try.prog 25 #[.agg cs.toArray, .slice A l.length c, .int .u8 d] w (RetB w true) := by
  subst hp1
  replace kF := Lib.hid kF
  replace kC := Lib.hid kC
  replace h := Lib.hid h
  replace kB := Lib.hid kB
  replace h30 := Lib.hid h30
  replace bl := Lib.hid bl
  replace e1 := Lib.hid e1
  replace e2 := Lib.hid e2
  replace e3 := Lib.hid e3
  replace e4 := Lib.hid e4
  replace hp2 := Lib.hid hp2
  replace sz := Lib.hid sz
  have hi := Lib.hid (su_size hcs)
  clear hcs
  have hs0 := Bx.new w cs 35
  have X0 := (Ext.refl w).alloc (.cells cs.toArray 35)
  have hg0 := h.out.alloc (.cells cs.toArray 35)
  go_enter Try.func25, Try.ntmps25
  go_wp2_with fail
  refine (awake15 _).mono ?_
  rintro e w1 ⟨rfl, x1⟩
  have hs1 := hs0.ext x1; clear hs0
  have hg1 := hg0.ext x1; clear hg0
  have X1 := X0.trans x1
  go_wp2_with (first | (refine load_box rfl 35 _ rfl _ rfl _ _ hs1 _ Try.underlying35 rfl hi.out ?_))
  refine (kF.out _ X1 _ _ hg1).mono ?_
  rintro e w2 ⟨⟨b, rfl, hb⟩, x2⟩
  have hs2 := hs1.ext x2; clear hs1
  have hg2 := hg1.ext x2; clear hg1
  have X2 := X1.trans x2
  cases b
  · clear hb
    go_wp2
    go_ret
    exact ⟨rfl, X2⟩
  · have hp := hb rfl
    clear hb
    go_wp2_with (first | (refine load_box rfl 35 _ rfl _ rfl _ _ hs2 _ Try.underlying35 rfl hi.out ?_))
    refine (kC.out hp _ X2).mono ?_
    rintro e w3 ⟨rfl, x3⟩
    have hs3 := hs2.ext x3; clear hs2
    have hg3 := hg2.ext x3; clear hg2
    have X3 := X2.trans x3
    go_wp2_with (first | (refine load_box rfl 35 _ rfl _ rfl _ _ hs3 _ Try.underlying35 rfl hi.out ?_))
    have lb := bl.out hp
    have lg := h30.out hp
    refine (kB.out hp _ X3 _ _ hg3).mono ?_
    rintro e w4 ⟨A4, cap4, B4, dap4, rfl, ⟨r4, t4⟩, x4, _⟩
    have hs4 := hs3.ext x4; clear hs3
    have hg4 := hg3.ext x4; clear hg3
    have X4 := X3.trans x4
    go_wp2_with fail
    refine (pOnly hg4 (by omega) _ 3).mono ?_
    rintro e w5 ⟨A5, cap5, rfl, r5, x5, _⟩
    have hs5 := hs4.ext x5; clear hs4
    have hg5 := hg4.ext x5; clear hg4
    have ha5 := r4.ext x5
    have hb5 := t4.ext x5
    have X5 := X4.trans x5
    have lo := only_len l 3
    go_wp2_with fail
    refine (sEq (cAnd ha5 r5 (by omega) (by omega) _ _) e1.out).mono ?_
    rintro e w6 ⟨A6, cap6, rfl, r6, x6, _⟩
    have hs6 := hs5.ext x6; clear hs5
    have hg6 := hg5.ext x6; clear hg5
    have ha6 := ha5.ext x6; clear ha5
    have hb6 := hb5.ext x6; clear hb5
    have hr6 := r5.ext x6
    have X6 := X5.trans x6
    go_wp2_with fail
    refine (sEq (cAnd hb6 hr6 (by omega) (by omega) _ _) e2.out).mono ?_
    rintro e w7 ⟨A7, cap7, rfl, r7, x7, _⟩
    have hs7 := hs6.ext x7; clear hs6
    have hg7 := hg6.ext x7; clear hg6
    have ha7 := ha6.ext x7; clear ha6
    have hb7 := hb6.ext x7; clear hb6
    have hr7 := hr6.ext x7; clear hr6
    have hp7 := r6.ext x7
    have X7 := X6.trans x7
    go_wp2_with fail
    refine (sEq (cMinus ha7 hr7 (by omega) (by omega) _ _) e3.out).mono ?_
    rintro e w8 ⟨A8, cap8, rfl, r8, x8, _⟩
    have hs8 := hs7.ext x8; clear hs7
    have hg8 := hg7.ext x8; clear hg7
    have ha8 := ha7.ext x8; clear ha7
    have hb8 := hb7.ext x8; clear hb7
    have hr8 := hr7.ext x8; clear hr7
    have hp8 := hp7.ext x8; clear hp7
    have hq8 := r7.ext x8
    have X8 := X7.trans x8
    go_wp2_with fail
    refine (sEq (cMinus hb8 hr8 (by omega) (by omega) _ _) e4.out).mono ?_
    rintro e w9 ⟨A9, cap9, rfl, r9, x9, _⟩
    have hs9 := hs8.ext x9; clear hs8
    have hg9 := hg8.ext x9; clear hg8
    have ha9 := ha8.ext x9; clear ha8
    have hb9 := hb8.ext x9; clear hb8
    have hr9 := hr8.ext x9; clear hr8
    have hp9 := hp8.ext x9; clear hp8
    have hq9 := hq8.ext x9; clear hq8
    have hu9 := r8.ext x9
    have X9 := X8.trans x9
    have g2 := hp2.out
    obtain ⟨n2, hn2⟩ : ∃ n, u.length = n + 1 := ⟨u.length - 1, by omega⟩
    obtain ⟨b2, off2, u2, t2, hA2, _, m2, y2, x2⟩ := Rd.atS hu9 (Ext.refl _) (show n2 < u.length by omega)
    obtain ⟨d2, off12, v2, o2, hB2, _, l2, z2, j2⟩ := Rd.atS r9 (Ext.refl _) (show 0 < v.length by omega)
    have c2 : decide (t2 ≤ v2) = true := decide_eq_true (g2.2.2 _ _ _ _ m2.out l2.out)
    subst hA2; subst hB2
    rw [Nat.zero_mul, Nat.add_zero] at z2
    have f2 : ((u.length : Int) == 0) = false := beq_false_of_ne (by omega)
    have f12 : ((v.length : Int) == 0) = false := beq_false_of_ne (by omega)
    have q2 : IntKind.i64.wrap ((u.length : Int) - 1) = (n2 : Int) := (IntWalk.i64_in _ (by omega)).trans (by omega)
    have q12 : (n2 : Int) < (u.length : Int) := by omega
    have q22 : (0 : Int) ≤ (n2 : Int) := by omega
    have q32 : (0 : Int) < (v.length : Int) := by omega
    replace hn2 := Lib.hid hn2
    have y10 := hs9.cell 10 _ c10
    have hBn := hs9.lt
    go_wp2_with fail
    go_quiet (fail)
    go_wp2_with fail
    go_quiet (fail)
    go_wp2_with fail
    have y10L : ∀ e : Later w9, e.1.cell? ⟨w.heap.size, 10, none⟩ = some (.int .i64 P) := fun e => (e.2.cell (p := ⟨w.heap.size, 10, none⟩) hBn).trans y10
    have sz0 := sz.out
    have kS := fun (W : World) (A : Option Addr) (cap : Nat) (h : Rs W A ([] : List Sp.S)) => iEq (cSize h (show ([] : List Sp.S).length ≤ 900000 by first | omega | simp) cap) rfl
    have fS : decide (Sp.size ([] : List Sp.S) ≤ P) = true := decide_eq_true sz0
    refine wp_region_later w9 (((Ext.refl w9).drewN _).drewN _) (by kernel_rfl) (by kernel_rfl) ?_
    repeat (go_big_quiet_step (exact later_int (kS _ _ _ (hp9.ext (Subtype.property _)))))
    refine wpQuiet_nil ?_
    rintro wz ⟨ez, hez⟩
    have xz : Ext w9 wz := hez ▸ ez.2
    clear hez ez y10L
    go_wp2
    go_ret
    exact ⟨rfl, X9.trans xz⟩

set_option maxRecDepth 100000 in
set_option maxHeartbeats 1000000 in
theorem breaksFirst10 (cs : List Value) (hcs : cs.length = 23) (P : Int) (c10 : cs[10]? = some (.int .i64 P)) (l : List SegL) (A : Option Addr) (c : Nat) (d : Int) (hd : 0 ≤ d ∧ d ≤ 255) (pp : Prop) (a b : List Sp.S) (w : World) (h : Rg w A l) (kF : ∀ W, Ext w W → ∀ A c, Rg W A l → Calls Try.prog 65 #[.agg cs.toArray, .slice A l.length c] W (RetP W pp)) (kC : pp → ∀ W, Ext w W → Calls Try.prog 59 #[.agg cs.toArray] W (RetB W true)) (kB : pp → ∀ W, Ext w W → ∀ A c, Rg W A l → Calls Try.prog 68 #[.agg cs.toArray, .slice A l.length c, .int .i64 d] W (Ret2S W a b)) (p q u v : List Sp.S) (h30 : pp → l.length ≤ 100) (bl : pp → a.length ≤ 800000 ∧ b.length ≤ 800000 ∧ p.length ≤ 900000 ∧ u.length ≤ 2000000) (e1 : Sp.and_ a (onlyL l 3) = p) (e2 : Sp.and_ b (onlyL l 3) = q) (e3 : Sp.minus a (onlyL l 3) = u) (e4 : Sp.minus b (onlyL l 3) = v) (sz : Sp.size p ≤ P) (hp1 : 0 < p.length ∧ q = []) (hp2 : u = []) :
    Calls Try.prog 25 #[.agg cs.toArray, .slice A l.length c, .int .u8 d] w (RetB w true) := by
  obtain ⟨hp1, rfl⟩ := hp1
  subst hp2
  replace kF := Lib.hid kF
  replace kC := Lib.hid kC
  replace h := Lib.hid h
  replace kB := Lib.hid kB
  replace h30 := Lib.hid h30
  replace bl := Lib.hid bl
  replace e1 := Lib.hid e1
  replace e2 := Lib.hid e2
  replace e3 := Lib.hid e3
  replace e4 := Lib.hid e4
  replace hp1 := Lib.hid hp1
  replace sz := Lib.hid sz
  have hi := Lib.hid (su_size hcs)
  clear hcs
  have hs0 := Bx.new w cs 35
  have X0 := (Ext.refl w).alloc (.cells cs.toArray 35)
  have hg0 := h.out.alloc (.cells cs.toArray 35)
  go_enter Try.func25, Try.ntmps25
  go_wp2_with fail
  refine (awake15 _).mono ?_
  rintro e w1 ⟨rfl, x1⟩
  have hs1 := hs0.ext x1; clear hs0
  have hg1 := hg0.ext x1; clear hg0
  have X1 := X0.trans x1
  go_wp2_with (first | (refine load_box rfl 35 _ rfl _ rfl _ _ hs1 _ Try.underlying35 rfl hi.out ?_))
  refine (kF.out _ X1 _ _ hg1).mono ?_
  rintro e w2 ⟨⟨b, rfl, hb⟩, x2⟩
  have hs2 := hs1.ext x2; clear hs1
  have hg2 := hg1.ext x2; clear hg1
  have X2 := X1.trans x2
  cases b
  · clear hb
    go_wp2
    go_ret
    exact ⟨rfl, X2⟩
  · have hp := hb rfl
    clear hb
    go_wp2_with (first | (refine load_box rfl 35 _ rfl _ rfl _ _ hs2 _ Try.underlying35 rfl hi.out ?_))
    refine (kC.out hp _ X2).mono ?_
    rintro e w3 ⟨rfl, x3⟩
    have hs3 := hs2.ext x3; clear hs2
    have hg3 := hg2.ext x3; clear hg2
    have X3 := X2.trans x3
    go_wp2_with (first | (refine load_box rfl 35 _ rfl _ rfl _ _ hs3 _ Try.underlying35 rfl hi.out ?_))
    have lb := bl.out hp
    have lg := h30.out hp
    refine (kB.out hp _ X3 _ _ hg3).mono ?_
    rintro e w4 ⟨A4, cap4, B4, dap4, rfl, ⟨r4, t4⟩, x4, _⟩
    have hs4 := hs3.ext x4; clear hs3
    have hg4 := hg3.ext x4; clear hg3
    have X4 := X3.trans x4
    go_wp2_with fail
    refine (pOnly hg4 (by omega) _ 3).mono ?_
    rintro e w5 ⟨A5, cap5, rfl, r5, x5, _⟩
    have hs5 := hs4.ext x5; clear hs4
    have hg5 := hg4.ext x5; clear hg4
    have ha5 := r4.ext x5
    have hb5 := t4.ext x5
    have X5 := X4.trans x5
    have lo := only_len l 3
    go_wp2_with fail
    refine (sEq (cAnd ha5 r5 (by omega) (by omega) _ _) e1.out).mono ?_
    rintro e w6 ⟨A6, cap6, rfl, r6, x6, _⟩
    have hs6 := hs5.ext x6; clear hs5
    have hg6 := hg5.ext x6; clear hg5
    have ha6 := ha5.ext x6; clear ha5
    have hb6 := hb5.ext x6; clear hb5
    have hr6 := r5.ext x6
    have X6 := X5.trans x6
    go_wp2_with fail
    refine (sEq (cAnd hb6 hr6 (by omega) (by omega) _ _) e2.out).mono ?_
    rintro e w7 ⟨A7, cap7, rfl, r7, x7, _⟩
    have hs7 := hs6.ext x7; clear hs6
    have hg7 := hg6.ext x7; clear hg6
    have ha7 := ha6.ext x7; clear ha6
    have hb7 := hb6.ext x7; clear hb6
    have hr7 := hr6.ext x7; clear hr6
    have hp7 := r6.ext x7
    have X7 := X6.trans x7
    go_wp2_with fail
    refine (sEq (cMinus ha7 hr7 (by omega) (by omega) _ _) e3.out).mono ?_
    rintro e w8 ⟨A8, cap8, rfl, r8, x8, _⟩
    have hs8 := hs7.ext x8; clear hs7
    have hg8 := hg7.ext x8; clear hg7
    have ha8 := ha7.ext x8; clear ha7
    have hb8 := hb7.ext x8; clear hb7
    have hr8 := hr7.ext x8; clear hr7
    have hp8 := hp7.ext x8; clear hp7
    have hq8 := r7.ext x8
    have X8 := X7.trans x8
    go_wp2_with fail
    refine (sEq (cMinus hb8 hr8 (by omega) (by omega) _ _) e4.out).mono ?_
    rintro e w9 ⟨A9, cap9, rfl, r9, x9, _⟩
    have hs9 := hs8.ext x9; clear hs8
    have hg9 := hg8.ext x9; clear hg8
    have ha9 := ha8.ext x9; clear ha8
    have hb9 := hb8.ext x9; clear hb8
    have hr9 := hr8.ext x9; clear hr8
    have hp9 := hp8.ext x9; clear hp8
    have hq9 := hq8.ext x9; clear hq8
    have hu9 := r8.ext x9
    have X9 := X8.trans x9
    have g1 := hp1.out
    have f1 : ((p.length : Int) == 0) = false := beq_false_of_ne (by omega)
    have y10 := hs9.cell 10 _ c10
    have hBn := hs9.lt
    go_wp2_with fail
    go_quiet (fail)
    go_wp2_with fail
    go_quiet (fail)
    go_wp2_with fail
    have y10L : ∀ e : Later w9, e.1.cell? ⟨w.heap.size, 10, none⟩ = some (.int .i64 P) := fun e => (e.2.cell (p := ⟨w.heap.size, 10, none⟩) hBn).trans y10
    have sz0 := sz.out
    have kS := fun (W : World) (A : Option Addr) (cap : Nat) (h : Rs W A p) => iEq (cSize h (show p.length ≤ 900000 by first | omega | simp) cap) rfl
    have fS : decide (Sp.size p ≤ P) = true := decide_eq_true sz0
    refine wp_region_later w9 (((Ext.refl w9).drewN _).drewN _) (by kernel_rfl) (by kernel_rfl) ?_
    repeat (go_big_quiet_step (exact later_int (kS _ _ _ (hp9.ext (Subtype.property _)))))
    refine wpQuiet_nil ?_
    rintro wz ⟨ez, hez⟩
    have xz : Ext w9 wz := hez ▸ ez.2
    clear hez ez y10L
    go_wp2
    go_ret
    exact ⟨rfl, X9.trans xz⟩

set_option maxRecDepth 100000 in
set_option maxHeartbeats 1000000 in
theorem breaksFirst11 (cs : List Value) (hcs : cs.length = 23) (P : Int) (c10 : cs[10]? = some (.int .i64 P)) (l : List SegL) (A : Option Addr) (c : Nat) (d : Int) (hd : 0 ≤ d ∧ d ≤ 255) (pp : Prop) (a b : List Sp.S) (w : World) (h : Rg w A l) (kF : ∀ W, Ext w W → ∀ A c, Rg W A l → Calls Try.prog 65 #[.agg cs.toArray, .slice A l.length c] W (RetP W pp)) (kC : pp → ∀ W, Ext w W → Calls Try.prog 59 #[.agg cs.toArray] W (RetB W true)) (kB : pp → ∀ W, Ext w W → ∀ A c, Rg W A l → Calls Try.prog 68 #[.agg cs.toArray, .slice A l.length c, .int .i64 d] W (Ret2S W a b)) (p q u v : List Sp.S) (h30 : pp → l.length ≤ 100) (bl : pp → a.length ≤ 800000 ∧ b.length ≤ 800000 ∧ p.length ≤ 900000 ∧ u.length ≤ 2000000) (e1 : Sp.and_ a (onlyL l 3) = p) (e2 : Sp.and_ b (onlyL l 3) = q) (e3 : Sp.minus a (onlyL l 3) = u) (e4 : Sp.minus b (onlyL l 3) = v) (sz : Sp.size p ≤ P) (hp1 : 0 < p.length ∧ q = []) (hp2 : 0 < u.length ∧ v = []) :
    Calls Try.prog 25 #[.agg cs.toArray, .slice A l.length c, .int .u8 d] w (RetB w true) := by
  obtain ⟨hp1, rfl⟩ := hp1
  obtain ⟨hp2, rfl⟩ := hp2
  replace kF := Lib.hid kF
  replace kC := Lib.hid kC
  replace h := Lib.hid h
  replace kB := Lib.hid kB
  replace h30 := Lib.hid h30
  replace bl := Lib.hid bl
  replace e1 := Lib.hid e1
  replace e2 := Lib.hid e2
  replace e3 := Lib.hid e3
  replace e4 := Lib.hid e4
  replace hp1 := Lib.hid hp1
  replace hp2 := Lib.hid hp2
  replace sz := Lib.hid sz
  have hi := Lib.hid (su_size hcs)
  clear hcs
  have hs0 := Bx.new w cs 35
  have X0 := (Ext.refl w).alloc (.cells cs.toArray 35)
  have hg0 := h.out.alloc (.cells cs.toArray 35)
  go_enter Try.func25, Try.ntmps25
  go_wp2_with fail
  refine (awake15 _).mono ?_
  rintro e w1 ⟨rfl, x1⟩
  have hs1 := hs0.ext x1; clear hs0
  have hg1 := hg0.ext x1; clear hg0
  have X1 := X0.trans x1
  go_wp2_with (first | (refine load_box rfl 35 _ rfl _ rfl _ _ hs1 _ Try.underlying35 rfl hi.out ?_))
  refine (kF.out _ X1 _ _ hg1).mono ?_
  rintro e w2 ⟨⟨b, rfl, hb⟩, x2⟩
  have hs2 := hs1.ext x2; clear hs1
  have hg2 := hg1.ext x2; clear hg1
  have X2 := X1.trans x2
  cases b
  · clear hb
    go_wp2
    go_ret
    exact ⟨rfl, X2⟩
  · have hp := hb rfl
    clear hb
    go_wp2_with (first | (refine load_box rfl 35 _ rfl _ rfl _ _ hs2 _ Try.underlying35 rfl hi.out ?_))
    refine (kC.out hp _ X2).mono ?_
    rintro e w3 ⟨rfl, x3⟩
    have hs3 := hs2.ext x3; clear hs2
    have hg3 := hg2.ext x3; clear hg2
    have X3 := X2.trans x3
    go_wp2_with (first | (refine load_box rfl 35 _ rfl _ rfl _ _ hs3 _ Try.underlying35 rfl hi.out ?_))
    have lb := bl.out hp
    have lg := h30.out hp
    refine (kB.out hp _ X3 _ _ hg3).mono ?_
    rintro e w4 ⟨A4, cap4, B4, dap4, rfl, ⟨r4, t4⟩, x4, _⟩
    have hs4 := hs3.ext x4; clear hs3
    have hg4 := hg3.ext x4; clear hg3
    have X4 := X3.trans x4
    go_wp2_with fail
    refine (pOnly hg4 (by omega) _ 3).mono ?_
    rintro e w5 ⟨A5, cap5, rfl, r5, x5, _⟩
    have hs5 := hs4.ext x5; clear hs4
    have hg5 := hg4.ext x5; clear hg4
    have ha5 := r4.ext x5
    have hb5 := t4.ext x5
    have X5 := X4.trans x5
    have lo := only_len l 3
    go_wp2_with fail
    refine (sEq (cAnd ha5 r5 (by omega) (by omega) _ _) e1.out).mono ?_
    rintro e w6 ⟨A6, cap6, rfl, r6, x6, _⟩
    have hs6 := hs5.ext x6; clear hs5
    have hg6 := hg5.ext x6; clear hg5
    have ha6 := ha5.ext x6; clear ha5
    have hb6 := hb5.ext x6; clear hb5
    have hr6 := r5.ext x6
    have X6 := X5.trans x6
    go_wp2_with fail
    refine (sEq (cAnd hb6 hr6 (by omega) (by omega) _ _) e2.out).mono ?_
    rintro e w7 ⟨A7, cap7, rfl, r7, x7, _⟩
    have hs7 := hs6.ext x7; clear hs6
    have hg7 := hg6.ext x7; clear hg6
    have ha7 := ha6.ext x7; clear ha6
    have hb7 := hb6.ext x7; clear hb6
    have hr7 := hr6.ext x7; clear hr6
    have hp7 := r6.ext x7
    have X7 := X6.trans x7
    go_wp2_with fail
    refine (sEq (cMinus ha7 hr7 (by omega) (by omega) _ _) e3.out).mono ?_
    rintro e w8 ⟨A8, cap8, rfl, r8, x8, _⟩
    have hs8 := hs7.ext x8; clear hs7
    have hg8 := hg7.ext x8; clear hg7
    have ha8 := ha7.ext x8; clear ha7
    have hb8 := hb7.ext x8; clear hb7
    have hr8 := hr7.ext x8; clear hr7
    have hp8 := hp7.ext x8; clear hp7
    have hq8 := r7.ext x8
    have X8 := X7.trans x8
    go_wp2_with fail
    refine (sEq (cMinus hb8 hr8 (by omega) (by omega) _ _) e4.out).mono ?_
    rintro e w9 ⟨A9, cap9, rfl, r9, x9, _⟩
    have hs9 := hs8.ext x9; clear hs8
    have hg9 := hg8.ext x9; clear hg8
    have ha9 := ha8.ext x9; clear ha8
    have hb9 := hb8.ext x9; clear hb8
    have hr9 := hr8.ext x9; clear hr8
    have hp9 := hp8.ext x9; clear hp8
    have hq9 := hq8.ext x9; clear hq8
    have hu9 := r8.ext x9
    have X9 := X8.trans x9
    have g1 := hp1.out
    have f1 : ((p.length : Int) == 0) = false := beq_false_of_ne (by omega)
    have g2 := hp2.out
    have f2 : ((u.length : Int) == 0) = false := beq_false_of_ne (by omega)
    have y10 := hs9.cell 10 _ c10
    have hBn := hs9.lt
    go_wp2_with fail
    go_quiet (fail)
    go_wp2_with fail
    go_quiet (fail)
    go_wp2_with fail
    have y10L : ∀ e : Later w9, e.1.cell? ⟨w.heap.size, 10, none⟩ = some (.int .i64 P) := fun e => (e.2.cell (p := ⟨w.heap.size, 10, none⟩) hBn).trans y10
    have sz0 := sz.out
    have kS := fun (W : World) (A : Option Addr) (cap : Nat) (h : Rs W A p) => iEq (cSize h (show p.length ≤ 900000 by first | omega | simp) cap) rfl
    have fS : decide (Sp.size p ≤ P) = true := decide_eq_true sz0
    refine wp_region_later w9 (((Ext.refl w9).drewN _).drewN _) (by kernel_rfl) (by kernel_rfl) ?_
    repeat (go_big_quiet_step (exact later_int (kS _ _ _ (hp9.ext (Subtype.property _)))))
    refine wpQuiet_nil ?_
    rintro wz ⟨ez, hez⟩
    have xz : Ext w9 wz := hez ▸ ez.2
    clear hez ez y10L
    go_wp2
    go_ret
    exact ⟨rfl, X9.trans xz⟩

set_option maxRecDepth 100000 in
set_option maxHeartbeats 1000000 in
theorem breaksFirst12 (cs : List Value) (hcs : cs.length = 23) (P : Int) (c10 : cs[10]? = some (.int .i64 P)) (l : List SegL) (A : Option Addr) (c : Nat) (d : Int) (hd : 0 ≤ d ∧ d ≤ 255) (pp : Prop) (a b : List Sp.S) (w : World) (h : Rg w A l) (kF : ∀ W, Ext w W → ∀ A c, Rg W A l → Calls Try.prog 65 #[.agg cs.toArray, .slice A l.length c] W (RetP W pp)) (kC : pp → ∀ W, Ext w W → Calls Try.prog 59 #[.agg cs.toArray] W (RetB W true)) (kB : pp → ∀ W, Ext w W → ∀ A c, Rg W A l → Calls Try.prog 68 #[.agg cs.toArray, .slice A l.length c, .int .i64 d] W (Ret2S W a b)) (p q u v : List Sp.S) (h30 : pp → l.length ≤ 100) (bl : pp → a.length ≤ 800000 ∧ b.length ≤ 800000 ∧ p.length ≤ 900000 ∧ u.length ≤ 2000000) (e1 : Sp.and_ a (onlyL l 3) = p) (e2 : Sp.and_ b (onlyL l 3) = q) (e3 : Sp.minus a (onlyL l 3) = u) (e4 : Sp.minus b (onlyL l 3) = v) (sz : Sp.size p ≤ P) (hp1 : 0 < p.length ∧ q = []) (hp2 : 0 < u.length ∧ 0 < v.length ∧ ∀ (i k : Nat) (xx zz : Sp.S), u[i]? = some xx → v[k]? = some zz → xx.2 ≤ zz.1) :
    Calls Try.prog 25 #[.agg cs.toArray, .slice A l.length c, .int .u8 d] w (RetB w true) := by
  obtain ⟨hp1, rfl⟩ := hp1
  replace kF := Lib.hid kF
  replace kC := Lib.hid kC
  replace h := Lib.hid h
  replace kB := Lib.hid kB
  replace h30 := Lib.hid h30
  replace bl := Lib.hid bl
  replace e1 := Lib.hid e1
  replace e2 := Lib.hid e2
  replace e3 := Lib.hid e3
  replace e4 := Lib.hid e4
  replace hp1 := Lib.hid hp1
  replace hp2 := Lib.hid hp2
  replace sz := Lib.hid sz
  have hi := Lib.hid (su_size hcs)
  clear hcs
  have hs0 := Bx.new w cs 35
  have X0 := (Ext.refl w).alloc (.cells cs.toArray 35)
  have hg0 := h.out.alloc (.cells cs.toArray 35)
  go_enter Try.func25, Try.ntmps25
  go_wp2_with fail
  refine (awake15 _).mono ?_
  rintro e w1 ⟨rfl, x1⟩
  have hs1 := hs0.ext x1; clear hs0
  have hg1 := hg0.ext x1; clear hg0
  have X1 := X0.trans x1
  go_wp2_with (first | (refine load_box rfl 35 _ rfl _ rfl _ _ hs1 _ Try.underlying35 rfl hi.out ?_))
  refine (kF.out _ X1 _ _ hg1).mono ?_
  rintro e w2 ⟨⟨b, rfl, hb⟩, x2⟩
  have hs2 := hs1.ext x2; clear hs1
  have hg2 := hg1.ext x2; clear hg1
  have X2 := X1.trans x2
  cases b
  · clear hb
    go_wp2
    go_ret
    exact ⟨rfl, X2⟩
  · have hp := hb rfl
    clear hb
    go_wp2_with (first | (refine load_box rfl 35 _ rfl _ rfl _ _ hs2 _ Try.underlying35 rfl hi.out ?_))
    refine (kC.out hp _ X2).mono ?_
    rintro e w3 ⟨rfl, x3⟩
    have hs3 := hs2.ext x3; clear hs2
    have hg3 := hg2.ext x3; clear hg2
    have X3 := X2.trans x3
    go_wp2_with (first | (refine load_box rfl 35 _ rfl _ rfl _ _ hs3 _ Try.underlying35 rfl hi.out ?_))
    have lb := bl.out hp
    have lg := h30.out hp
    refine (kB.out hp _ X3 _ _ hg3).mono ?_
    rintro e w4 ⟨A4, cap4, B4, dap4, rfl, ⟨r4, t4⟩, x4, _⟩
    have hs4 := hs3.ext x4; clear hs3
    have hg4 := hg3.ext x4; clear hg3
    have X4 := X3.trans x4
    go_wp2_with fail
    refine (pOnly hg4 (by omega) _ 3).mono ?_
    rintro e w5 ⟨A5, cap5, rfl, r5, x5, _⟩
    have hs5 := hs4.ext x5; clear hs4
    have hg5 := hg4.ext x5; clear hg4
    have ha5 := r4.ext x5
    have hb5 := t4.ext x5
    have X5 := X4.trans x5
    have lo := only_len l 3
    go_wp2_with fail
    refine (sEq (cAnd ha5 r5 (by omega) (by omega) _ _) e1.out).mono ?_
    rintro e w6 ⟨A6, cap6, rfl, r6, x6, _⟩
    have hs6 := hs5.ext x6; clear hs5
    have hg6 := hg5.ext x6; clear hg5
    have ha6 := ha5.ext x6; clear ha5
    have hb6 := hb5.ext x6; clear hb5
    have hr6 := r5.ext x6
    have X6 := X5.trans x6
    go_wp2_with fail
    refine (sEq (cAnd hb6 hr6 (by omega) (by omega) _ _) e2.out).mono ?_
    rintro e w7 ⟨A7, cap7, rfl, r7, x7, _⟩
    have hs7 := hs6.ext x7; clear hs6
    have hg7 := hg6.ext x7; clear hg6
    have ha7 := ha6.ext x7; clear ha6
    have hb7 := hb6.ext x7; clear hb6
    have hr7 := hr6.ext x7; clear hr6
    have hp7 := r6.ext x7
    have X7 := X6.trans x7
    go_wp2_with fail
    refine (sEq (cMinus ha7 hr7 (by omega) (by omega) _ _) e3.out).mono ?_
    rintro e w8 ⟨A8, cap8, rfl, r8, x8, _⟩
    have hs8 := hs7.ext x8; clear hs7
    have hg8 := hg7.ext x8; clear hg7
    have ha8 := ha7.ext x8; clear ha7
    have hb8 := hb7.ext x8; clear hb7
    have hr8 := hr7.ext x8; clear hr7
    have hp8 := hp7.ext x8; clear hp7
    have hq8 := r7.ext x8
    have X8 := X7.trans x8
    go_wp2_with fail
    refine (sEq (cMinus hb8 hr8 (by omega) (by omega) _ _) e4.out).mono ?_
    rintro e w9 ⟨A9, cap9, rfl, r9, x9, _⟩
    have hs9 := hs8.ext x9; clear hs8
    have hg9 := hg8.ext x9; clear hg8
    have ha9 := ha8.ext x9; clear ha8
    have hb9 := hb8.ext x9; clear hb8
    have hr9 := hr8.ext x9; clear hr8
    have hp9 := hp8.ext x9; clear hp8
    have hq9 := hq8.ext x9; clear hq8
    have hu9 := r8.ext x9
    have X9 := X8.trans x9
    have g1 := hp1.out
    have f1 : ((p.length : Int) == 0) = false := beq_false_of_ne (by omega)
    have g2 := hp2.out
    obtain ⟨n2, hn2⟩ : ∃ n, u.length = n + 1 := ⟨u.length - 1, by omega⟩
    obtain ⟨b2, off2, u2, t2, hA2, _, m2, y2, x2⟩ := Rd.atS hu9 (Ext.refl _) (show n2 < u.length by omega)
    obtain ⟨d2, off12, v2, o2, hB2, _, l2, z2, j2⟩ := Rd.atS r9 (Ext.refl _) (show 0 < v.length by omega)
    have c2 : decide (t2 ≤ v2) = true := decide_eq_true (g2.2.2 _ _ _ _ m2.out l2.out)
    subst hA2; subst hB2
    rw [Nat.zero_mul, Nat.add_zero] at z2
    have f2 : ((u.length : Int) == 0) = false := beq_false_of_ne (by omega)
    have f12 : ((v.length : Int) == 0) = false := beq_false_of_ne (by omega)
    have q2 : IntKind.i64.wrap ((u.length : Int) - 1) = (n2 : Int) := (IntWalk.i64_in _ (by omega)).trans (by omega)
    have q12 : (n2 : Int) < (u.length : Int) := by omega
    have q22 : (0 : Int) ≤ (n2 : Int) := by omega
    have q32 : (0 : Int) < (v.length : Int) := by omega
    replace hn2 := Lib.hid hn2
    have y10 := hs9.cell 10 _ c10
    have hBn := hs9.lt
    go_wp2_with fail
    go_quiet (fail)
    go_wp2_with fail
    go_quiet (fail)
    go_wp2_with fail
    have y10L : ∀ e : Later w9, e.1.cell? ⟨w.heap.size, 10, none⟩ = some (.int .i64 P) := fun e => (e.2.cell (p := ⟨w.heap.size, 10, none⟩) hBn).trans y10
    have sz0 := sz.out
    have kS := fun (W : World) (A : Option Addr) (cap : Nat) (h : Rs W A p) => iEq (cSize h (show p.length ≤ 900000 by first | omega | simp) cap) rfl
    have fS : decide (Sp.size p ≤ P) = true := decide_eq_true sz0
    refine wp_region_later w9 (((Ext.refl w9).drewN _).drewN _) (by kernel_rfl) (by kernel_rfl) ?_
    repeat (go_big_quiet_step (exact later_int (kS _ _ _ (hp9.ext (Subtype.property _)))))
    refine wpQuiet_nil ?_
    rintro wz ⟨ez, hez⟩
    have xz : Ext w9 wz := hez ▸ ez.2
    clear hez ez y10L
    go_wp2
    go_ret
    exact ⟨rfl, X9.trans xz⟩

set_option maxRecDepth 100000 in
set_option maxHeartbeats 1000000 in
theorem breaksFirst20 (cs : List Value) (hcs : cs.length = 23) (P : Int) (c10 : cs[10]? = some (.int .i64 P)) (l : List SegL) (A : Option Addr) (c : Nat) (d : Int) (hd : 0 ≤ d ∧ d ≤ 255) (pp : Prop) (a b : List Sp.S) (w : World) (h : Rg w A l) (kF : ∀ W, Ext w W → ∀ A c, Rg W A l → Calls Try.prog 65 #[.agg cs.toArray, .slice A l.length c] W (RetP W pp)) (kC : pp → ∀ W, Ext w W → Calls Try.prog 59 #[.agg cs.toArray] W (RetB W true)) (kB : pp → ∀ W, Ext w W → ∀ A c, Rg W A l → Calls Try.prog 68 #[.agg cs.toArray, .slice A l.length c, .int .i64 d] W (Ret2S W a b)) (p q u v : List Sp.S) (h30 : pp → l.length ≤ 100) (bl : pp → a.length ≤ 800000 ∧ b.length ≤ 800000 ∧ p.length ≤ 900000 ∧ u.length ≤ 2000000) (e1 : Sp.and_ a (onlyL l 3) = p) (e2 : Sp.and_ b (onlyL l 3) = q) (e3 : Sp.minus a (onlyL l 3) = u) (e4 : Sp.minus b (onlyL l 3) = v) (sz : Sp.size p ≤ P) (hp1 : 0 < p.length ∧ 0 < q.length ∧ ∀ (i k : Nat) (xx zz : Sp.S), p[i]? = some xx → q[k]? = some zz → xx.2 ≤ zz.1) (hp2 : u = []) :
    Calls Try.prog 25 #[.agg cs.toArray, .slice A l.length c, .int .u8 d] w (RetB w true) := by
  subst hp2
  replace kF := Lib.hid kF
  replace kC := Lib.hid kC
  replace h := Lib.hid h
  replace kB := Lib.hid kB
  replace h30 := Lib.hid h30
  replace bl := Lib.hid bl
  replace e1 := Lib.hid e1
  replace e2 := Lib.hid e2
  replace e3 := Lib.hid e3
  replace e4 := Lib.hid e4
  replace hp1 := Lib.hid hp1
  replace sz := Lib.hid sz
  have hi := Lib.hid (su_size hcs)
  clear hcs
  have hs0 := Bx.new w cs 35
  have X0 := (Ext.refl w).alloc (.cells cs.toArray 35)
  have hg0 := h.out.alloc (.cells cs.toArray 35)
  go_enter Try.func25, Try.ntmps25
  go_wp2_with fail
  refine (awake15 _).mono ?_
  rintro e w1 ⟨rfl, x1⟩
  have hs1 := hs0.ext x1; clear hs0
  have hg1 := hg0.ext x1; clear hg0
  have X1 := X0.trans x1
  go_wp2_with (first | (refine load_box rfl 35 _ rfl _ rfl _ _ hs1 _ Try.underlying35 rfl hi.out ?_))
  refine (kF.out _ X1 _ _ hg1).mono ?_
  rintro e w2 ⟨⟨b, rfl, hb⟩, x2⟩
  have hs2 := hs1.ext x2; clear hs1
  have hg2 := hg1.ext x2; clear hg1
  have X2 := X1.trans x2
  cases b
  · clear hb
    go_wp2
    go_ret
    exact ⟨rfl, X2⟩
  · have hp := hb rfl
    clear hb
    go_wp2_with (first | (refine load_box rfl 35 _ rfl _ rfl _ _ hs2 _ Try.underlying35 rfl hi.out ?_))
    refine (kC.out hp _ X2).mono ?_
    rintro e w3 ⟨rfl, x3⟩
    have hs3 := hs2.ext x3; clear hs2
    have hg3 := hg2.ext x3; clear hg2
    have X3 := X2.trans x3
    go_wp2_with (first | (refine load_box rfl 35 _ rfl _ rfl _ _ hs3 _ Try.underlying35 rfl hi.out ?_))
    have lb := bl.out hp
    have lg := h30.out hp
    refine (kB.out hp _ X3 _ _ hg3).mono ?_
    rintro e w4 ⟨A4, cap4, B4, dap4, rfl, ⟨r4, t4⟩, x4, _⟩
    have hs4 := hs3.ext x4; clear hs3
    have hg4 := hg3.ext x4; clear hg3
    have X4 := X3.trans x4
    go_wp2_with fail
    refine (pOnly hg4 (by omega) _ 3).mono ?_
    rintro e w5 ⟨A5, cap5, rfl, r5, x5, _⟩
    have hs5 := hs4.ext x5; clear hs4
    have hg5 := hg4.ext x5; clear hg4
    have ha5 := r4.ext x5
    have hb5 := t4.ext x5
    have X5 := X4.trans x5
    have lo := only_len l 3
    go_wp2_with fail
    refine (sEq (cAnd ha5 r5 (by omega) (by omega) _ _) e1.out).mono ?_
    rintro e w6 ⟨A6, cap6, rfl, r6, x6, _⟩
    have hs6 := hs5.ext x6; clear hs5
    have hg6 := hg5.ext x6; clear hg5
    have ha6 := ha5.ext x6; clear ha5
    have hb6 := hb5.ext x6; clear hb5
    have hr6 := r5.ext x6
    have X6 := X5.trans x6
    go_wp2_with fail
    refine (sEq (cAnd hb6 hr6 (by omega) (by omega) _ _) e2.out).mono ?_
    rintro e w7 ⟨A7, cap7, rfl, r7, x7, _⟩
    have hs7 := hs6.ext x7; clear hs6
    have hg7 := hg6.ext x7; clear hg6
    have ha7 := ha6.ext x7; clear ha6
    have hb7 := hb6.ext x7; clear hb6
    have hr7 := hr6.ext x7; clear hr6
    have hp7 := r6.ext x7
    have X7 := X6.trans x7
    go_wp2_with fail
    refine (sEq (cMinus ha7 hr7 (by omega) (by omega) _ _) e3.out).mono ?_
    rintro e w8 ⟨A8, cap8, rfl, r8, x8, _⟩
    have hs8 := hs7.ext x8; clear hs7
    have hg8 := hg7.ext x8; clear hg7
    have ha8 := ha7.ext x8; clear ha7
    have hb8 := hb7.ext x8; clear hb7
    have hr8 := hr7.ext x8; clear hr7
    have hp8 := hp7.ext x8; clear hp7
    have hq8 := r7.ext x8
    have X8 := X7.trans x8
    go_wp2_with fail
    refine (sEq (cMinus hb8 hr8 (by omega) (by omega) _ _) e4.out).mono ?_
    rintro e w9 ⟨A9, cap9, rfl, r9, x9, _⟩
    have hs9 := hs8.ext x9; clear hs8
    have hg9 := hg8.ext x9; clear hg8
    have ha9 := ha8.ext x9; clear ha8
    have hb9 := hb8.ext x9; clear hb8
    have hr9 := hr8.ext x9; clear hr8
    have hp9 := hp8.ext x9; clear hp8
    have hq9 := hq8.ext x9; clear hq8
    have hu9 := r8.ext x9
    have X9 := X8.trans x9
    have g1 := hp1.out
    obtain ⟨n1, hn1⟩ : ∃ n, p.length = n + 1 := ⟨p.length - 1, by omega⟩
    obtain ⟨b1, off1, u1, t1, hA1, _, m1, y1, x1⟩ := Rd.atS hp9 (Ext.refl _) (show n1 < p.length by omega)
    obtain ⟨d1, off11, v1, o1, hB1, _, l1, z1, j1⟩ := Rd.atS hq9 (Ext.refl _) (show 0 < q.length by omega)
    have c1 : decide (t1 ≤ v1) = true := decide_eq_true (g1.2.2 _ _ _ _ m1.out l1.out)
    subst hA1; subst hB1
    rw [Nat.zero_mul, Nat.add_zero] at z1
    have f1 : ((p.length : Int) == 0) = false := beq_false_of_ne (by omega)
    have f11 : ((q.length : Int) == 0) = false := beq_false_of_ne (by omega)
    have q1 : IntKind.i64.wrap ((p.length : Int) - 1) = (n1 : Int) := (IntWalk.i64_in _ (by omega)).trans (by omega)
    have q11 : (n1 : Int) < (p.length : Int) := by omega
    have q21 : (0 : Int) ≤ (n1 : Int) := by omega
    have q31 : (0 : Int) < (q.length : Int) := by omega
    replace hn1 := Lib.hid hn1
    have y10 := hs9.cell 10 _ c10
    have hBn := hs9.lt
    go_wp2_with fail
    go_quiet (fail)
    go_wp2_with fail
    go_quiet (fail)
    go_wp2_with fail
    have y10L : ∀ e : Later w9, e.1.cell? ⟨w.heap.size, 10, none⟩ = some (.int .i64 P) := fun e => (e.2.cell (p := ⟨w.heap.size, 10, none⟩) hBn).trans y10
    have sz0 := sz.out
    have kS := fun (W : World) (A : Option Addr) (cap : Nat) (h : Rs W A p) => iEq (cSize h (show p.length ≤ 900000 by first | omega | simp) cap) rfl
    have fS : decide (Sp.size p ≤ P) = true := decide_eq_true sz0
    refine wp_region_later w9 (((Ext.refl w9).drewN _).drewN _) (by kernel_rfl) (by kernel_rfl) ?_
    repeat (go_big_quiet_step (exact later_int (kS _ _ _ (hp9.ext (Subtype.property _)))))
    refine wpQuiet_nil ?_
    rintro wz ⟨ez, hez⟩
    have xz : Ext w9 wz := hez ▸ ez.2
    clear hez ez y10L
    go_wp2
    go_ret
    exact ⟨rfl, X9.trans xz⟩

set_option maxRecDepth 100000 in
set_option maxHeartbeats 1000000 in
theorem breaksFirst21 (cs : List Value) (hcs : cs.length = 23) (P : Int) (c10 : cs[10]? = some (.int .i64 P)) (l : List SegL) (A : Option Addr) (c : Nat) (d : Int) (hd : 0 ≤ d ∧ d ≤ 255) (pp : Prop) (a b : List Sp.S) (w : World) (h : Rg w A l) (kF : ∀ W, Ext w W → ∀ A c, Rg W A l → Calls Try.prog 65 #[.agg cs.toArray, .slice A l.length c] W (RetP W pp)) (kC : pp → ∀ W, Ext w W → Calls Try.prog 59 #[.agg cs.toArray] W (RetB W true)) (kB : pp → ∀ W, Ext w W → ∀ A c, Rg W A l → Calls Try.prog 68 #[.agg cs.toArray, .slice A l.length c, .int .i64 d] W (Ret2S W a b)) (p q u v : List Sp.S) (h30 : pp → l.length ≤ 100) (bl : pp → a.length ≤ 800000 ∧ b.length ≤ 800000 ∧ p.length ≤ 900000 ∧ u.length ≤ 2000000) (e1 : Sp.and_ a (onlyL l 3) = p) (e2 : Sp.and_ b (onlyL l 3) = q) (e3 : Sp.minus a (onlyL l 3) = u) (e4 : Sp.minus b (onlyL l 3) = v) (sz : Sp.size p ≤ P) (hp1 : 0 < p.length ∧ 0 < q.length ∧ ∀ (i k : Nat) (xx zz : Sp.S), p[i]? = some xx → q[k]? = some zz → xx.2 ≤ zz.1) (hp2 : 0 < u.length ∧ v = []) :
    Calls Try.prog 25 #[.agg cs.toArray, .slice A l.length c, .int .u8 d] w (RetB w true) := by
  obtain ⟨hp2, rfl⟩ := hp2
  replace kF := Lib.hid kF
  replace kC := Lib.hid kC
  replace h := Lib.hid h
  replace kB := Lib.hid kB
  replace h30 := Lib.hid h30
  replace bl := Lib.hid bl
  replace e1 := Lib.hid e1
  replace e2 := Lib.hid e2
  replace e3 := Lib.hid e3
  replace e4 := Lib.hid e4
  replace hp1 := Lib.hid hp1
  replace hp2 := Lib.hid hp2
  replace sz := Lib.hid sz
  have hi := Lib.hid (su_size hcs)
  clear hcs
  have hs0 := Bx.new w cs 35
  have X0 := (Ext.refl w).alloc (.cells cs.toArray 35)
  have hg0 := h.out.alloc (.cells cs.toArray 35)
  go_enter Try.func25, Try.ntmps25
  go_wp2_with fail
  refine (awake15 _).mono ?_
  rintro e w1 ⟨rfl, x1⟩
  have hs1 := hs0.ext x1; clear hs0
  have hg1 := hg0.ext x1; clear hg0
  have X1 := X0.trans x1
  go_wp2_with (first | (refine load_box rfl 35 _ rfl _ rfl _ _ hs1 _ Try.underlying35 rfl hi.out ?_))
  refine (kF.out _ X1 _ _ hg1).mono ?_
  rintro e w2 ⟨⟨b, rfl, hb⟩, x2⟩
  have hs2 := hs1.ext x2; clear hs1
  have hg2 := hg1.ext x2; clear hg1
  have X2 := X1.trans x2
  cases b
  · clear hb
    go_wp2
    go_ret
    exact ⟨rfl, X2⟩
  · have hp := hb rfl
    clear hb
    go_wp2_with (first | (refine load_box rfl 35 _ rfl _ rfl _ _ hs2 _ Try.underlying35 rfl hi.out ?_))
    refine (kC.out hp _ X2).mono ?_
    rintro e w3 ⟨rfl, x3⟩
    have hs3 := hs2.ext x3; clear hs2
    have hg3 := hg2.ext x3; clear hg2
    have X3 := X2.trans x3
    go_wp2_with (first | (refine load_box rfl 35 _ rfl _ rfl _ _ hs3 _ Try.underlying35 rfl hi.out ?_))
    have lb := bl.out hp
    have lg := h30.out hp
    refine (kB.out hp _ X3 _ _ hg3).mono ?_
    rintro e w4 ⟨A4, cap4, B4, dap4, rfl, ⟨r4, t4⟩, x4, _⟩
    have hs4 := hs3.ext x4; clear hs3
    have hg4 := hg3.ext x4; clear hg3
    have X4 := X3.trans x4
    go_wp2_with fail
    refine (pOnly hg4 (by omega) _ 3).mono ?_
    rintro e w5 ⟨A5, cap5, rfl, r5, x5, _⟩
    have hs5 := hs4.ext x5; clear hs4
    have hg5 := hg4.ext x5; clear hg4
    have ha5 := r4.ext x5
    have hb5 := t4.ext x5
    have X5 := X4.trans x5
    have lo := only_len l 3
    go_wp2_with fail
    refine (sEq (cAnd ha5 r5 (by omega) (by omega) _ _) e1.out).mono ?_
    rintro e w6 ⟨A6, cap6, rfl, r6, x6, _⟩
    have hs6 := hs5.ext x6; clear hs5
    have hg6 := hg5.ext x6; clear hg5
    have ha6 := ha5.ext x6; clear ha5
    have hb6 := hb5.ext x6; clear hb5
    have hr6 := r5.ext x6
    have X6 := X5.trans x6
    go_wp2_with fail
    refine (sEq (cAnd hb6 hr6 (by omega) (by omega) _ _) e2.out).mono ?_
    rintro e w7 ⟨A7, cap7, rfl, r7, x7, _⟩
    have hs7 := hs6.ext x7; clear hs6
    have hg7 := hg6.ext x7; clear hg6
    have ha7 := ha6.ext x7; clear ha6
    have hb7 := hb6.ext x7; clear hb6
    have hr7 := hr6.ext x7; clear hr6
    have hp7 := r6.ext x7
    have X7 := X6.trans x7
    go_wp2_with fail
    refine (sEq (cMinus ha7 hr7 (by omega) (by omega) _ _) e3.out).mono ?_
    rintro e w8 ⟨A8, cap8, rfl, r8, x8, _⟩
    have hs8 := hs7.ext x8; clear hs7
    have hg8 := hg7.ext x8; clear hg7
    have ha8 := ha7.ext x8; clear ha7
    have hb8 := hb7.ext x8; clear hb7
    have hr8 := hr7.ext x8; clear hr7
    have hp8 := hp7.ext x8; clear hp7
    have hq8 := r7.ext x8
    have X8 := X7.trans x8
    go_wp2_with fail
    refine (sEq (cMinus hb8 hr8 (by omega) (by omega) _ _) e4.out).mono ?_
    rintro e w9 ⟨A9, cap9, rfl, r9, x9, _⟩
    have hs9 := hs8.ext x9; clear hs8
    have hg9 := hg8.ext x9; clear hg8
    have ha9 := ha8.ext x9; clear ha8
    have hb9 := hb8.ext x9; clear hb8
    have hr9 := hr8.ext x9; clear hr8
    have hp9 := hp8.ext x9; clear hp8
    have hq9 := hq8.ext x9; clear hq8
    have hu9 := r8.ext x9
    have X9 := X8.trans x9
    have g1 := hp1.out
    obtain ⟨n1, hn1⟩ : ∃ n, p.length = n + 1 := ⟨p.length - 1, by omega⟩
    obtain ⟨b1, off1, u1, t1, hA1, _, m1, y1, x1⟩ := Rd.atS hp9 (Ext.refl _) (show n1 < p.length by omega)
    obtain ⟨d1, off11, v1, o1, hB1, _, l1, z1, j1⟩ := Rd.atS hq9 (Ext.refl _) (show 0 < q.length by omega)
    have c1 : decide (t1 ≤ v1) = true := decide_eq_true (g1.2.2 _ _ _ _ m1.out l1.out)
    subst hA1; subst hB1
    rw [Nat.zero_mul, Nat.add_zero] at z1
    have f1 : ((p.length : Int) == 0) = false := beq_false_of_ne (by omega)
    have f11 : ((q.length : Int) == 0) = false := beq_false_of_ne (by omega)
    have q1 : IntKind.i64.wrap ((p.length : Int) - 1) = (n1 : Int) := (IntWalk.i64_in _ (by omega)).trans (by omega)
    have q11 : (n1 : Int) < (p.length : Int) := by omega
    have q21 : (0 : Int) ≤ (n1 : Int) := by omega
    have q31 : (0 : Int) < (q.length : Int) := by omega
    replace hn1 := Lib.hid hn1
    have g2 := hp2.out
    have f2 : ((u.length : Int) == 0) = false := beq_false_of_ne (by omega)
    have y10 := hs9.cell 10 _ c10
    have hBn := hs9.lt
    go_wp2_with fail
    go_quiet (fail)
    go_wp2_with fail
    go_quiet (fail)
    go_wp2_with fail
    have y10L : ∀ e : Later w9, e.1.cell? ⟨w.heap.size, 10, none⟩ = some (.int .i64 P) := fun e => (e.2.cell (p := ⟨w.heap.size, 10, none⟩) hBn).trans y10
    have sz0 := sz.out
    have kS := fun (W : World) (A : Option Addr) (cap : Nat) (h : Rs W A p) => iEq (cSize h (show p.length ≤ 900000 by first | omega | simp) cap) rfl
    have fS : decide (Sp.size p ≤ P) = true := decide_eq_true sz0
    refine wp_region_later w9 (((Ext.refl w9).drewN _).drewN _) (by kernel_rfl) (by kernel_rfl) ?_
    repeat (go_big_quiet_step (exact later_int (kS _ _ _ (hp9.ext (Subtype.property _)))))
    refine wpQuiet_nil ?_
    rintro wz ⟨ez, hez⟩
    have xz : Ext w9 wz := hez ▸ ez.2
    clear hez ez y10L
    go_wp2
    go_ret
    exact ⟨rfl, X9.trans xz⟩

set_option maxRecDepth 100000 in
set_option maxHeartbeats 1000000 in
theorem breaksFirst22 (cs : List Value) (hcs : cs.length = 23) (P : Int) (c10 : cs[10]? = some (.int .i64 P)) (l : List SegL) (A : Option Addr) (c : Nat) (d : Int) (hd : 0 ≤ d ∧ d ≤ 255) (pp : Prop) (a b : List Sp.S) (w : World) (h : Rg w A l) (kF : ∀ W, Ext w W → ∀ A c, Rg W A l → Calls Try.prog 65 #[.agg cs.toArray, .slice A l.length c] W (RetP W pp)) (kC : pp → ∀ W, Ext w W → Calls Try.prog 59 #[.agg cs.toArray] W (RetB W true)) (kB : pp → ∀ W, Ext w W → ∀ A c, Rg W A l → Calls Try.prog 68 #[.agg cs.toArray, .slice A l.length c, .int .i64 d] W (Ret2S W a b)) (p q u v : List Sp.S) (h30 : pp → l.length ≤ 100) (bl : pp → a.length ≤ 800000 ∧ b.length ≤ 800000 ∧ p.length ≤ 900000 ∧ u.length ≤ 2000000) (e1 : Sp.and_ a (onlyL l 3) = p) (e2 : Sp.and_ b (onlyL l 3) = q) (e3 : Sp.minus a (onlyL l 3) = u) (e4 : Sp.minus b (onlyL l 3) = v) (sz : Sp.size p ≤ P) (hp1 : 0 < p.length ∧ 0 < q.length ∧ ∀ (i k : Nat) (xx zz : Sp.S), p[i]? = some xx → q[k]? = some zz → xx.2 ≤ zz.1) (hp2 : 0 < u.length ∧ 0 < v.length ∧ ∀ (i k : Nat) (xx zz : Sp.S), u[i]? = some xx → v[k]? = some zz → xx.2 ≤ zz.1) :
    Calls Try.prog 25 #[.agg cs.toArray, .slice A l.length c, .int .u8 d] w (RetB w true) := by
  replace kF := Lib.hid kF
  replace kC := Lib.hid kC
  replace h := Lib.hid h
  replace kB := Lib.hid kB
  replace h30 := Lib.hid h30
  replace bl := Lib.hid bl
  replace e1 := Lib.hid e1
  replace e2 := Lib.hid e2
  replace e3 := Lib.hid e3
  replace e4 := Lib.hid e4
  replace hp1 := Lib.hid hp1
  replace hp2 := Lib.hid hp2
  replace sz := Lib.hid sz
  have hi := Lib.hid (su_size hcs)
  clear hcs
  have hs0 := Bx.new w cs 35
  have X0 := (Ext.refl w).alloc (.cells cs.toArray 35)
  have hg0 := h.out.alloc (.cells cs.toArray 35)
  go_enter Try.func25, Try.ntmps25
  go_wp2_with fail
  refine (awake15 _).mono ?_
  rintro e w1 ⟨rfl, x1⟩
  have hs1 := hs0.ext x1; clear hs0
  have hg1 := hg0.ext x1; clear hg0
  have X1 := X0.trans x1
  go_wp2_with (first | (refine load_box rfl 35 _ rfl _ rfl _ _ hs1 _ Try.underlying35 rfl hi.out ?_))
  refine (kF.out _ X1 _ _ hg1).mono ?_
  rintro e w2 ⟨⟨b, rfl, hb⟩, x2⟩
  have hs2 := hs1.ext x2; clear hs1
  have hg2 := hg1.ext x2; clear hg1
  have X2 := X1.trans x2
  cases b
  · clear hb
    go_wp2
    go_ret
    exact ⟨rfl, X2⟩
  · have hp := hb rfl
    clear hb
    go_wp2_with (first | (refine load_box rfl 35 _ rfl _ rfl _ _ hs2 _ Try.underlying35 rfl hi.out ?_))
    refine (kC.out hp _ X2).mono ?_
    rintro e w3 ⟨rfl, x3⟩
    have hs3 := hs2.ext x3; clear hs2
    have hg3 := hg2.ext x3; clear hg2
    have X3 := X2.trans x3
    go_wp2_with (first | (refine load_box rfl 35 _ rfl _ rfl _ _ hs3 _ Try.underlying35 rfl hi.out ?_))
    have lb := bl.out hp
    have lg := h30.out hp
    refine (kB.out hp _ X3 _ _ hg3).mono ?_
    rintro e w4 ⟨A4, cap4, B4, dap4, rfl, ⟨r4, t4⟩, x4, _⟩
    have hs4 := hs3.ext x4; clear hs3
    have hg4 := hg3.ext x4; clear hg3
    have X4 := X3.trans x4
    go_wp2_with fail
    refine (pOnly hg4 (by omega) _ 3).mono ?_
    rintro e w5 ⟨A5, cap5, rfl, r5, x5, _⟩
    have hs5 := hs4.ext x5; clear hs4
    have hg5 := hg4.ext x5; clear hg4
    have ha5 := r4.ext x5
    have hb5 := t4.ext x5
    have X5 := X4.trans x5
    have lo := only_len l 3
    go_wp2_with fail
    refine (sEq (cAnd ha5 r5 (by omega) (by omega) _ _) e1.out).mono ?_
    rintro e w6 ⟨A6, cap6, rfl, r6, x6, _⟩
    have hs6 := hs5.ext x6; clear hs5
    have hg6 := hg5.ext x6; clear hg5
    have ha6 := ha5.ext x6; clear ha5
    have hb6 := hb5.ext x6; clear hb5
    have hr6 := r5.ext x6
    have X6 := X5.trans x6
    go_wp2_with fail
    refine (sEq (cAnd hb6 hr6 (by omega) (by omega) _ _) e2.out).mono ?_
    rintro e w7 ⟨A7, cap7, rfl, r7, x7, _⟩
    have hs7 := hs6.ext x7; clear hs6
    have hg7 := hg6.ext x7; clear hg6
    have ha7 := ha6.ext x7; clear ha6
    have hb7 := hb6.ext x7; clear hb6
    have hr7 := hr6.ext x7; clear hr6
    have hp7 := r6.ext x7
    have X7 := X6.trans x7
    go_wp2_with fail
    refine (sEq (cMinus ha7 hr7 (by omega) (by omega) _ _) e3.out).mono ?_
    rintro e w8 ⟨A8, cap8, rfl, r8, x8, _⟩
    have hs8 := hs7.ext x8; clear hs7
    have hg8 := hg7.ext x8; clear hg7
    have ha8 := ha7.ext x8; clear ha7
    have hb8 := hb7.ext x8; clear hb7
    have hr8 := hr7.ext x8; clear hr7
    have hp8 := hp7.ext x8; clear hp7
    have hq8 := r7.ext x8
    have X8 := X7.trans x8
    go_wp2_with fail
    refine (sEq (cMinus hb8 hr8 (by omega) (by omega) _ _) e4.out).mono ?_
    rintro e w9 ⟨A9, cap9, rfl, r9, x9, _⟩
    have hs9 := hs8.ext x9; clear hs8
    have hg9 := hg8.ext x9; clear hg8
    have ha9 := ha8.ext x9; clear ha8
    have hb9 := hb8.ext x9; clear hb8
    have hr9 := hr8.ext x9; clear hr8
    have hp9 := hp8.ext x9; clear hp8
    have hq9 := hq8.ext x9; clear hq8
    have hu9 := r8.ext x9
    have X9 := X8.trans x9
    have g1 := hp1.out
    obtain ⟨n1, hn1⟩ : ∃ n, p.length = n + 1 := ⟨p.length - 1, by omega⟩
    obtain ⟨b1, off1, u1, t1, hA1, _, m1, y1, x1⟩ := Rd.atS hp9 (Ext.refl _) (show n1 < p.length by omega)
    obtain ⟨d1, off11, v1, o1, hB1, _, l1, z1, j1⟩ := Rd.atS hq9 (Ext.refl _) (show 0 < q.length by omega)
    have c1 : decide (t1 ≤ v1) = true := decide_eq_true (g1.2.2 _ _ _ _ m1.out l1.out)
    subst hA1; subst hB1
    rw [Nat.zero_mul, Nat.add_zero] at z1
    have f1 : ((p.length : Int) == 0) = false := beq_false_of_ne (by omega)
    have f11 : ((q.length : Int) == 0) = false := beq_false_of_ne (by omega)
    have q1 : IntKind.i64.wrap ((p.length : Int) - 1) = (n1 : Int) := (IntWalk.i64_in _ (by omega)).trans (by omega)
    have q11 : (n1 : Int) < (p.length : Int) := by omega
    have q21 : (0 : Int) ≤ (n1 : Int) := by omega
    have q31 : (0 : Int) < (q.length : Int) := by omega
    replace hn1 := Lib.hid hn1
    have g2 := hp2.out
    obtain ⟨n2, hn2⟩ : ∃ n, u.length = n + 1 := ⟨u.length - 1, by omega⟩
    obtain ⟨b2, off2, u2, t2, hA2, _, m2, y2, x2⟩ := Rd.atS hu9 (Ext.refl _) (show n2 < u.length by omega)
    obtain ⟨d2, off12, v2, o2, hB2, _, l2, z2, j2⟩ := Rd.atS r9 (Ext.refl _) (show 0 < v.length by omega)
    have c2 : decide (t2 ≤ v2) = true := decide_eq_true (g2.2.2 _ _ _ _ m2.out l2.out)
    subst hA2; subst hB2
    rw [Nat.zero_mul, Nat.add_zero] at z2
    have f2 : ((u.length : Int) == 0) = false := beq_false_of_ne (by omega)
    have f12 : ((v.length : Int) == 0) = false := beq_false_of_ne (by omega)
    have q2 : IntKind.i64.wrap ((u.length : Int) - 1) = (n2 : Int) := (IntWalk.i64_in _ (by omega)).trans (by omega)
    have q12 : (n2 : Int) < (u.length : Int) := by omega
    have q22 : (0 : Int) ≤ (n2 : Int) := by omega
    have q32 : (0 : Int) < (v.length : Int) := by omega
    replace hn2 := Lib.hid hn2
    have y10 := hs9.cell 10 _ c10
    have hBn := hs9.lt
    go_wp2_with fail
    go_quiet (fail)
    go_wp2_with fail
    go_quiet (fail)
    go_wp2_with fail
    have y10L : ∀ e : Later w9, e.1.cell? ⟨w.heap.size, 10, none⟩ = some (.int .i64 P) := fun e => (e.2.cell (p := ⟨w.heap.size, 10, none⟩) hBn).trans y10
    have sz0 := sz.out
    have kS := fun (W : World) (A : Option Addr) (cap : Nat) (h : Rs W A p) => iEq (cSize h (show p.length ≤ 900000 by first | omega | simp) cap) rfl
    have fS : decide (Sp.size p ≤ P) = true := decide_eq_true sz0
    refine wp_region_later w9 (((Ext.refl w9).drewN _).drewN _) (by kernel_rfl) (by kernel_rfl) ?_
    repeat (go_big_quiet_step (exact later_int (kS _ _ _ (hp9.ext (Subtype.property _)))))
    refine wpQuiet_nil ?_
    rintro wz ⟨ez, hez⟩
    have xz : Ext w9 wz := hez ▸ ez.2
    clear hez ez y10L
    go_wp2
    go_ret
    exact ⟨rfl, X9.trans xz⟩

theorem first_none {p q : List Sp.S} (h : ∀ (i k : Nat) (xx zz : Sp.S), p[i]? = some xx → q[k]? = some zz → xx.2 ≤ zz.1) : p = [] ∨ (0 < p.length ∧ q = []) ∨ (0 < p.length ∧ 0 < q.length ∧ ∀ (i k : Nat) (xx zz : Sp.S), p[i]? = some xx → q[k]? = some zz → xx.2 ≤ zz.1) := by
  cases p with
  | nil => exact .inl rfl
  | cons x r =>
    cases q with
    | nil => exact .inr (.inl ⟨by simp, rfl⟩)
    | cons y s => exact .inr (.inr ⟨by simp, by simp, h⟩)
theorem first15 (s : Su) (g : Sh) (ok : SuOk s) (l : List SegL) (A : Option Addr) (c : Nat) (hl : l.length ≤ maxLen) (d : Int) (hd : 0 ≤ d ∧ d ≤ 255) (w : World) (r : SuR w s g) (h : Rg w A l) :
    Calls Try.prog 25 #[.agg (s.cells g).toArray, .slice A l.length c, .int .u8 d] w (RetB w true) := by
  have a1 : Few15 s l → l.length ≤ 100 := fun p => by have := p.2.1; omega
  have a3 : ∀ W, Ext w W → ∀ A c, Rg W A l → Calls Try.prog 65 #[.agg (s.cells g).toArray, .slice A l.length c] W (RetP W (Few15 s l)) := fun W X A c h => pFew15 s g h hl c
  have a6 : Few15 s l → ∀ W, Ext w W → Calls Try.prog 59 #[.agg (s.cells g).toArray] W (RetB W (chk s)) := fun p W X => pCheck ok p.1 (r.ext X)
  cases hc : chk s
  · rw [hc] at a6
    exact breaksFirst0 (s.cells g) rfl s.paid rfl l A c d hd _ [] [] w h a3 a6
  · rw [hc] at a6
    have a5 : Few15 s l → ∀ W, Ext w W → ∀ A c, Rg W A l → Calls Try.prog 68 #[.agg (s.cells g).toArray, .slice A l.length c, .int .i64 d] W (Ret2S W (paidD s l d) (notD s l d)) := fun p W X A c h => pBOfDay ok p.1 (r.ext X) h (by have := a1 p; omega) c d
    have e1 : paidD s l d = dayPaid s.paid s.after s.auto l d := if_pos hc
    have e2 : notD s l d = dayNot s.paid s.after s.auto l d := if_pos hc
    have hb := chk_times hc
    have hP : 0 ≤ s.paid ∧ s.paid ≤ 86400 := by omega
    have aN : Few15 s l → (paidD s l d).length ≤ 800000 ∧ (notD s l d).length ≤ 800000 ∧ (Sp.and_ (paidD s l d) (onlyL l 3)).length ≤ 900000 ∧ (Sp.minus (paidD s l d) (onlyL l 3)).length ≤ 2000000 := fun p => by
      have h1 := day_lens s.paid s.after s.auto l d (a1 p)
      have h2 := only_len l 3
      have h3 := a1 p
      have h4 := Nat.le_trans (Sp.and_length (paidD s l d) (onlyL l 3)) (Nat.add_le_add (Sp.norm_length _) (Sp.norm_length _))
      have h5 := minus_le (paidD s l d) (onlyL l 3)
      rw [e1] at h4 h5 ⊢
      rw [e2]
      omega
    have sz : Sp.size (Sp.and_ (paidD s l d) (onlyL l 3)) ≤ s.paid := by
      rw [e1, paid_rests, Sp.size_first]; omega
    have o1 : ∀ (i k : Nat) (xx zz : Sp.S), (Sp.and_ (paidD s l d) (onlyL l 3))[i]? = some xx → (Sp.and_ (notD s l d) (onlyL l 3))[k]? = some zz → xx.2 ≤ zz.1 := fun i k x z h1 h2 => by
      rw [e1] at h1; rw [e2] at h2; exact ahead_rests _ _ _ l d h1 h2
    have o2 : ∀ (i k : Nat) (xx zz : Sp.S), (Sp.minus (paidD s l d) (onlyL l 3))[i]? = some xx → (Sp.minus (notD s l d) (onlyL l 3))[k]? = some zz → xx.2 ≤ zz.1 := fun i k x z h1 h2 => by
      rw [e1] at h1; rw [e2] at h2; exact ahead_work _ _ _ l d h1 h2
    clear e1 e2
    generalize hp : Sp.and_ (paidD s l d) (onlyL l 3) = p at *
    generalize hq : Sp.and_ (notD s l d) (onlyL l 3) = q at *
    generalize hu : Sp.minus (paidD s l d) (onlyL l 3) = u at *
    generalize hv : Sp.minus (notD s l d) (onlyL l 3) = v at *
    rcases first_none o1 with i | i | i <;> rcases first_none o2 with j | j | j
    · exact breaksFirst00 (s.cells g) rfl s.paid rfl l A c d hd _ _ _ w h a3 a6 a5 p q u v a1 aN hp hq hu hv sz i j
    · exact breaksFirst01 (s.cells g) rfl s.paid rfl l A c d hd _ _ _ w h a3 a6 a5 p q u v a1 aN hp hq hu hv sz i j
    · exact breaksFirst02 (s.cells g) rfl s.paid rfl l A c d hd _ _ _ w h a3 a6 a5 p q u v a1 aN hp hq hu hv sz i j
    · exact breaksFirst10 (s.cells g) rfl s.paid rfl l A c d hd _ _ _ w h a3 a6 a5 p q u v a1 aN hp hq hu hv sz i j
    · exact breaksFirst11 (s.cells g) rfl s.paid rfl l A c d hd _ _ _ w h a3 a6 a5 p q u v a1 aN hp hq hu hv sz i j
    · exact breaksFirst12 (s.cells g) rfl s.paid rfl l A c d hd _ _ _ w h a3 a6 a5 p q u v a1 aN hp hq hu hv sz i j
    · exact breaksFirst20 (s.cells g) rfl s.paid rfl l A c d hd _ _ _ w h a3 a6 a5 p q u v a1 aN hp hq hu hv sz i j
    · exact breaksFirst21 (s.cells g) rfl s.paid rfl l A c d hd _ _ _ w h a3 a6 a5 p q u v a1 aN hp hq hu hv sz i j
    · exact breaksFirst22 (s.cells g) rfl s.paid rfl l A c d hd _ _ _ w h a3 a6 a5 p q u v a1 aN hp hq hu hv sz i j
end Go.Proofs.Ytnhmibfgaoealaa
