/-
  Laws of layer 15.
-/
import Derived.Test.YtnhmibfgaoealaaKi
namespace Go.Proofs.Ytnhmibfgaoealaa
open Go.RowKit
set_option linter.unusedVariables false
set_option linter.unusedSimpArgs false


set_option maxRecDepth 100000 in
set_option maxHeartbeats 1000000 in
theorem breaksSizes0 (cs : List Value) (hcs : cs.length = 23) (P AA AB : Int) (c10 : cs[10]? = some (.int .i64 P)) (c11 : cs[11]? = some (.int .i64 AA)) (c12 : cs[12]? = some (.int .i64 AB)) (l : List SegL) (A : Option Addr) (c : Nat) (d : Int) (hd : 0 ≤ d ∧ d ≤ 255) (p : Prop) (a b : List Sp.S) (w : World) (h : Rg w A l) (kF : ∀ W, Ext w W → ∀ A c, Rg W A l → Calls Try.prog 65 #[.agg cs.toArray, .slice A l.length c] W (RetP W p)) (kC : p → ∀ W, Ext w W → Calls Try.prog 59 #[.agg cs.toArray] W (RetB W false)) :
    Calls Try.prog 23 #[.agg cs.toArray, .slice A l.length c, .int .u8 d] w (RetB w true) := by
  replace kF := Lib.hid kF
  replace kC := Lib.hid kC
  replace h := Lib.hid h
  have hi := Lib.hid (su_size hcs)
  clear hcs
  have hs0 := Bx.new w cs 35
  have X0 := (Ext.refl w).alloc (.cells cs.toArray 35)
  have hg0 := h.out.alloc (.cells cs.toArray 35)
  go_enter Try.func23, Try.ntmps23
  go_wp2_with fail
  refine (awake15 _).mono ?_
  rintro e w1 ⟨rfl, x1⟩
  have hs1 := hs0.ext x1; clear hs0
  have hg1 := hg0.ext x1; clear hg0
  have X1 := X0.trans x1
  go_wp2_with (first | (refine load_box rfl 35 _ rfl _ rfl _ _ hs1 _ Try.underlying35 rfl hi.out ?_))
  refine (kF.out _ X1 _ _ hg1).mono ?_
  rintro e w2 ⟨⟨b, rfl, hb⟩, x2⟩
  have hs2 := hs1.ext x2; clear hs1
  have hg2 := hg1.ext x2; clear hg1
  have X2 := X1.trans x2
  cases b
  · clear hb
    go_wp2
    go_ret
    exact ⟨rfl, X2⟩
  · have hp := hb rfl
    clear hb
    go_wp2_with (first | (refine load_box rfl 35 _ rfl _ rfl _ _ hs2 _ Try.underlying35 rfl hi.out ?_))
    refine (kC.out hp _ X2).mono ?_
    rintro e w3 ⟨rfl, x3⟩
    have hs3 := hs2.ext x3; clear hs2
    have hg3 := hg2.ext x3; clear hg2
    have X3 := X2.trans x3
    go_wp2
    go_ret
    exact ⟨rfl, X3⟩

set_option maxRecDepth 100000 in
set_option maxHeartbeats 1000000 in
theorem breaksSizes1 (cs : List Value) (hcs : cs.length = 23) (P AA AB : Int) (c10 : cs[10]? = some (.int .i64 P)) (c11 : cs[11]? = some (.int .i64 AA)) (c12 : cs[12]? = some (.int .i64 AB)) (l : List SegL) (A : Option Addr) (c : Nat) (d : Int) (hd : 0 ≤ d ∧ d ≤ 255) (p : Prop) (a b : List Sp.S) (w : World) (h : Rg w A l) (kF : ∀ W, Ext w W → ∀ A c, Rg W A l → Calls Try.prog 65 #[.agg cs.toArray, .slice A l.length c] W (RetP W p)) (kC : p → ∀ W, Ext w W → Calls Try.prog 59 #[.agg cs.toArray] W (RetB W true)) (kB : p → ∀ W, Ext w W → ∀ A c, Rg W A l → Calls Try.prog 68 #[.agg cs.toArray, .slice A l.length c, .int .i64 d] W (Ret2S W a b)) (C H : Int) (hP : 0 ≤ P ∧ P ≤ 86400) (hA : 0 ≤ AA ∧ AA ≤ 86400) (hB : 0 ≤ AB ∧ AB ≤ 86400) (h30 : p → l.length ≤ 100) (bl : p → b.length ≤ 900000) (hC : 0 ≤ C ∧ C ≤ 32054400) (hH : 0 ≤ H ∧ H ≤ 32054400) (eC : Sp.size (partS (clockL l) d 86400) = C) (eH : Sp.size (partS (onlyL l 3) d 86400) = H) (hN : Sp.size b = max 0 (H - P)) (hg : ¬ AA ≤ C) :
    Calls Try.prog 23 #[.agg cs.toArray, .slice A l.length c, .int .u8 d] w (RetB w true) := by
  replace kF := Lib.hid kF
  replace kC := Lib.hid kC
  replace h := Lib.hid h
  replace kB := Lib.hid kB
  replace h30 := Lib.hid h30
  replace hN := Lib.hid hN
  replace bl := Lib.hid bl
  replace eC := Lib.hid eC
  replace eH := Lib.hid eH
  have hi := Lib.hid (su_size hcs)
  clear hcs
  have hs0 := Bx.new w cs 35
  have X0 := (Ext.refl w).alloc (.cells cs.toArray 35)
  have hg0 := h.out.alloc (.cells cs.toArray 35)
  go_enter Try.func23, Try.ntmps23
  go_wp2_with fail
  refine (awake15 _).mono ?_
  rintro e w1 ⟨rfl, x1⟩
  have hs1 := hs0.ext x1; clear hs0
  have hg1 := hg0.ext x1; clear hg0
  have X1 := X0.trans x1
  go_wp2_with (first | (refine load_box rfl 35 _ rfl _ rfl _ _ hs1 _ Try.underlying35 rfl hi.out ?_))
  refine (kF.out _ X1 _ _ hg1).mono ?_
  rintro e w2 ⟨⟨b, rfl, hb⟩, x2⟩
  have hs2 := hs1.ext x2; clear hs1
  have hg2 := hg1.ext x2; clear hg1
  have X2 := X1.trans x2
  cases b
  · clear hb
    go_wp2
    go_ret
    exact ⟨rfl, X2⟩
  · have hp := hb rfl
    clear hb
    go_wp2_with (first | (refine load_box rfl 35 _ rfl _ rfl _ _ hs2 _ Try.underlying35 rfl hi.out ?_))
    refine (kC.out hp _ X2).mono ?_
    rintro e w3 ⟨rfl, x3⟩
    have hs3 := hs2.ext x3; clear hs2
    have hg3 := hg2.ext x3; clear hg2
    have X3 := X2.trans x3
    go_wp2_with (first | (refine load_box rfl 35 _ rfl _ rfl _ _ hs3 _ Try.underlying35 rfl hi.out ?_))
    have lb := bl.out hp
    have lg := h30.out hp
    refine (kB.out hp _ X3 _ _ hg3).mono ?_
    rintro e w4 ⟨A4, cap4, B4, dap4, rfl, ⟨r4, t4⟩, x4, _⟩
    have hs4 := hs3.ext x4; clear hs3
    have hg4 := hg3.ext x4; clear hg3
    have X4 := X3.trans x4
    go_wp2_with fail
    refine (pClock hg4 (by omega) _).mono ?_
    rintro e w5 ⟨A5, cap5, rfl, r5, x5, _⟩
    have hs5 := hs4.ext x5; clear hs4
    have hg5 := hg4.ext x5; clear hg4
    have hb5 := t4.ext x5
    have X5 := X4.trans x5
    go_wp2_with fail
    refine (pOfDay r5 (by have := clock_len l; omega) _ d).mono ?_
    rintro e w6 ⟨A6, cap6, rfl, r6, x6, _⟩
    have hs6 := hs5.ext x6; clear hs5
    have hg6 := hg5.ext x6; clear hg5
    have hb6 := hb5.ext x6; clear hb5
    have hc6 := r5.ext x6
    have X6 := X5.trans x6
    go_wp2_with fail
    refine (iEq (cSize r6 (by have := partS_len (clockL l) d 86400; have := clock_len l; omega) _) eC.out).mono ?_
    rintro e w7 ⟨rfl, x7⟩
    have hs7 := hs6.ext x7; clear hs6
    have hg7 := hg6.ext x7; clear hg6
    have hb7 := hb6.ext x7; clear hb6
    have hc7 := hc6.ext x7; clear hc6
    have hk7 := r6.ext x7
    have X7 := X6.trans x7
    go_wp2_with fail
    refine (pOnly hg7 (by omega) _ 3).mono ?_
    rintro e w8 ⟨A8, cap8, rfl, r8, x8, _⟩
    have hs8 := hs7.ext x8; clear hs7
    have hg8 := hg7.ext x8; clear hg7
    have hb8 := hb7.ext x8; clear hb7
    have hc8 := hc7.ext x8; clear hc7
    have hk8 := hk7.ext x8; clear hk7
    have X8 := X7.trans x8
    go_wp2_with fail
    refine (pOfDay r8 (by have := only_len l 3; omega) _ d).mono ?_
    rintro e w9 ⟨A9, cap9, rfl, r9, x9, _⟩
    have hs9 := hs8.ext x9; clear hs8
    have hg9 := hg8.ext x9; clear hg8
    have hb9 := hb8.ext x9; clear hb8
    have hc9 := hc8.ext x9; clear hc8
    have hk9 := hk8.ext x9; clear hk8
    have ho9 := r8.ext x9
    have X9 := X8.trans x9
    go_wp2_with fail
    refine (iEq (cSize r9 (by have := partS_len (onlyL l 3) d 86400; have := only_len l 3; omega) _) eH.out).mono ?_
    rintro e w10 ⟨rfl, x10⟩
    have hs10 := hs9.ext x10; clear hs9
    have hg10 := hg9.ext x10; clear hg9
    have hb10 := hb9.ext x10; clear hb9
    have hc10 := hc9.ext x10; clear hc9
    have hk10 := hk9.ext x10; clear hk9
    have ho10 := ho9.ext x10; clear ho9
    have hr10 := r9.ext x10
    have X10 := X9.trans x10
    have z10 := hs10.cell 10 _ c10
    have z11 := hs10.cell 11 _ c11
    have z12 := hs10.cell 12 _ c12
    have q1 : IntKind.i64.wrap (H - P) = H - P := IntWalk.i64_in _ (by omega)
    have f1 : decide (AA ≤ C) = false := decide_eq_false (by omega)
    go_wp2_with fail
    refine (iEq (cSize hb10 lb _) hN.out).mono ?_
    rintro e w11 ⟨rfl, x11⟩
    have hs11 := hs10.ext x11; clear hs10
    have hg11 := hg10.ext x11; clear hg10
    have hb11 := hb10.ext x11; clear hb10
    have hc11 := hc10.ext x11; clear hc10
    have hk11 := hk10.ext x11; clear hk10
    have ho11 := ho10.ext x11; clear ho10
    have hr11 := hr10.ext x11; clear hr10
    have X11 := X10.trans x11
    go_wp2
    go_ret
    exact ⟨rfl, X11⟩

set_option maxRecDepth 100000 in
set_option maxHeartbeats 1000000 in
theorem breaksSizes2 (cs : List Value) (hcs : cs.length = 23) (P AA AB : Int) (c10 : cs[10]? = some (.int .i64 P)) (c11 : cs[11]? = some (.int .i64 AA)) (c12 : cs[12]? = some (.int .i64 AB)) (l : List SegL) (A : Option Addr) (c : Nat) (d : Int) (hd : 0 ≤ d ∧ d ≤ 255) (p : Prop) (a b : List Sp.S) (w : World) (h : Rg w A l) (kF : ∀ W, Ext w W → ∀ A c, Rg W A l → Calls Try.prog 65 #[.agg cs.toArray, .slice A l.length c] W (RetP W p)) (kC : p → ∀ W, Ext w W → Calls Try.prog 59 #[.agg cs.toArray] W (RetB W true)) (kB : p → ∀ W, Ext w W → ∀ A c, Rg W A l → Calls Try.prog 68 #[.agg cs.toArray, .slice A l.length c, .int .i64 d] W (Ret2S W a b)) (C H : Int) (hP : 0 ≤ P ∧ P ≤ 86400) (hA : 0 ≤ AA ∧ AA ≤ 86400) (hB : 0 ≤ AB ∧ AB ≤ 86400) (h30 : p → l.length ≤ 100) (bl : p → b.length ≤ 900000) (hC : 0 ≤ C ∧ C ≤ 32054400) (hH : 0 ≤ H ∧ H ≤ 32054400) (eC : Sp.size (partS (clockL l) d 86400) = C) (eH : Sp.size (partS (onlyL l 3) d 86400) = H) (hN : Sp.size b = max 0 (H - P)) (hg : AA ≤ C ∧ ¬ H < AB) :
    Calls Try.prog 23 #[.agg cs.toArray, .slice A l.length c, .int .u8 d] w (RetB w true) := by
  replace kF := Lib.hid kF
  replace kC := Lib.hid kC
  replace h := Lib.hid h
  replace kB := Lib.hid kB
  replace h30 := Lib.hid h30
  replace hN := Lib.hid hN
  replace bl := Lib.hid bl
  replace eC := Lib.hid eC
  replace eH := Lib.hid eH
  have hi := Lib.hid (su_size hcs)
  clear hcs
  have hs0 := Bx.new w cs 35
  have X0 := (Ext.refl w).alloc (.cells cs.toArray 35)
  have hg0 := h.out.alloc (.cells cs.toArray 35)
  go_enter Try.func23, Try.ntmps23
  go_wp2_with fail
  refine (awake15 _).mono ?_
  rintro e w1 ⟨rfl, x1⟩
  have hs1 := hs0.ext x1; clear hs0
  have hg1 := hg0.ext x1; clear hg0
  have X1 := X0.trans x1
  go_wp2_with (first | (refine load_box rfl 35 _ rfl _ rfl _ _ hs1 _ Try.underlying35 rfl hi.out ?_))
  refine (kF.out _ X1 _ _ hg1).mono ?_
  rintro e w2 ⟨⟨b, rfl, hb⟩, x2⟩
  have hs2 := hs1.ext x2; clear hs1
  have hg2 := hg1.ext x2; clear hg1
  have X2 := X1.trans x2
  cases b
  · clear hb
    go_wp2
    go_ret
    exact ⟨rfl, X2⟩
  · have hp := hb rfl
    clear hb
    go_wp2_with (first | (refine load_box rfl 35 _ rfl _ rfl _ _ hs2 _ Try.underlying35 rfl hi.out ?_))
    refine (kC.out hp _ X2).mono ?_
    rintro e w3 ⟨rfl, x3⟩
    have hs3 := hs2.ext x3; clear hs2
    have hg3 := hg2.ext x3; clear hg2
    have X3 := X2.trans x3
    go_wp2_with (first | (refine load_box rfl 35 _ rfl _ rfl _ _ hs3 _ Try.underlying35 rfl hi.out ?_))
    have lb := bl.out hp
    have lg := h30.out hp
    refine (kB.out hp _ X3 _ _ hg3).mono ?_
    rintro e w4 ⟨A4, cap4, B4, dap4, rfl, ⟨r4, t4⟩, x4, _⟩
    have hs4 := hs3.ext x4; clear hs3
    have hg4 := hg3.ext x4; clear hg3
    have X4 := X3.trans x4
    go_wp2_with fail
    refine (pClock hg4 (by omega) _).mono ?_
    rintro e w5 ⟨A5, cap5, rfl, r5, x5, _⟩
    have hs5 := hs4.ext x5; clear hs4
    have hg5 := hg4.ext x5; clear hg4
    have hb5 := t4.ext x5
    have X5 := X4.trans x5
    go_wp2_with fail
    refine (pOfDay r5 (by have := clock_len l; omega) _ d).mono ?_
    rintro e w6 ⟨A6, cap6, rfl, r6, x6, _⟩
    have hs6 := hs5.ext x6; clear hs5
    have hg6 := hg5.ext x6; clear hg5
    have hb6 := hb5.ext x6; clear hb5
    have hc6 := r5.ext x6
    have X6 := X5.trans x6
    go_wp2_with fail
    refine (iEq (cSize r6 (by have := partS_len (clockL l) d 86400; have := clock_len l; omega) _) eC.out).mono ?_
    rintro e w7 ⟨rfl, x7⟩
    have hs7 := hs6.ext x7; clear hs6
    have hg7 := hg6.ext x7; clear hg6
    have hb7 := hb6.ext x7; clear hb6
    have hc7 := hc6.ext x7; clear hc6
    have hk7 := r6.ext x7
    have X7 := X6.trans x7
    go_wp2_with fail
    refine (pOnly hg7 (by omega) _ 3).mono ?_
    rintro e w8 ⟨A8, cap8, rfl, r8, x8, _⟩
    have hs8 := hs7.ext x8; clear hs7
    have hg8 := hg7.ext x8; clear hg7
    have hb8 := hb7.ext x8; clear hb7
    have hc8 := hc7.ext x8; clear hc7
    have hk8 := hk7.ext x8; clear hk7
    have X8 := X7.trans x8
    go_wp2_with fail
    refine (pOfDay r8 (by have := only_len l 3; omega) _ d).mono ?_
    rintro e w9 ⟨A9, cap9, rfl, r9, x9, _⟩
    have hs9 := hs8.ext x9; clear hs8
    have hg9 := hg8.ext x9; clear hg8
    have hb9 := hb8.ext x9; clear hb8
    have hc9 := hc8.ext x9; clear hc8
    have hk9 := hk8.ext x9; clear hk8
    have ho9 := r8.ext x9
    have X9 := X8.trans x9
    go_wp2_with fail
    refine (iEq (cSize r9 (by have := partS_len (onlyL l 3) d 86400; have := only_len l 3; omega) _) eH.out).mono ?_
    rintro e w10 ⟨rfl, x10⟩
    have hs10 := hs9.ext x10; clear hs9
    have hg10 := hg9.ext x10; clear hg9
    have hb10 := hb9.ext x10; clear hb9
    have hc10 := hc9.ext x10; clear hc9
    have hk10 := hk9.ext x10; clear hk9
    have ho10 := ho9.ext x10; clear ho9
    have hr10 := r9.ext x10
    have X10 := X9.trans x10
    have z10 := hs10.cell 10 _ c10
    have z11 := hs10.cell 11 _ c11
    have z12 := hs10.cell 12 _ c12
    have q1 : IntKind.i64.wrap (H - P) = H - P := IntWalk.i64_in _ (by omega)
    have f1 : decide (AA ≤ C) = true := decide_eq_true (by omega)
    have f2 : decide (H < AB) = false := decide_eq_false (by omega)
    go_wp2_with fail
    refine (iEq (cSize hb10 lb _) hN.out).mono ?_
    rintro e w11 ⟨rfl, x11⟩
    have hs11 := hs10.ext x11; clear hs10
    have hg11 := hg10.ext x11; clear hg10
    have hb11 := hb10.ext x11; clear hb10
    have hc11 := hc10.ext x11; clear hc10
    have hk11 := hk10.ext x11; clear hk10
    have ho11 := ho10.ext x11; clear ho10
    have hr11 := hr10.ext x11; clear hr10
    have X11 := X10.trans x11
    go_wp2
    go_ret
    exact ⟨rfl, X11⟩

set_option maxRecDepth 100000 in
set_option maxHeartbeats 1000000 in
theorem breaksSizes3 (cs : List Value) (hcs : cs.length = 23) (P AA AB : Int) (c10 : cs[10]? = some (.int .i64 P)) (c11 : cs[11]? = some (.int .i64 AA)) (c12 : cs[12]? = some (.int .i64 AB)) (l : List SegL) (A : Option Addr) (c : Nat) (d : Int) (hd : 0 ≤ d ∧ d ≤ 255) (p : Prop) (a b : List Sp.S) (w : World) (h : Rg w A l) (kF : ∀ W, Ext w W → ∀ A c, Rg W A l → Calls Try.prog 65 #[.agg cs.toArray, .slice A l.length c] W (RetP W p)) (kC : p → ∀ W, Ext w W → Calls Try.prog 59 #[.agg cs.toArray] W (RetB W true)) (kB : p → ∀ W, Ext w W → ∀ A c, Rg W A l → Calls Try.prog 68 #[.agg cs.toArray, .slice A l.length c, .int .i64 d] W (Ret2S W a b)) (C H : Int) (hP : 0 ≤ P ∧ P ≤ 86400) (hA : 0 ≤ AA ∧ AA ≤ 86400) (hB : 0 ≤ AB ∧ AB ≤ 86400) (h30 : p → l.length ≤ 100) (bl : p → b.length ≤ 900000) (hC : 0 ≤ C ∧ C ≤ 32054400) (hH : 0 ≤ H ∧ H ≤ 32054400) (eC : Sp.size (partS (clockL l) d 86400) = C) (eH : Sp.size (partS (onlyL l 3) d 86400) = H) (hN : Sp.size b = max 0 (H - P) + min (AB - H) (C - H)) (hg : AA ≤ C ∧ H < AB) :
    Calls Try.prog 23 #[.agg cs.toArray, .slice A l.length c, .int .u8 d] w (RetB w true) := by
  replace kF := Lib.hid kF
  replace kC := Lib.hid kC
  replace h := Lib.hid h
  replace kB := Lib.hid kB
  replace h30 := Lib.hid h30
  replace hN := Lib.hid hN
  replace bl := Lib.hid bl
  replace eC := Lib.hid eC
  replace eH := Lib.hid eH
  have hi := Lib.hid (su_size hcs)
  clear hcs
  have hs0 := Bx.new w cs 35
  have X0 := (Ext.refl w).alloc (.cells cs.toArray 35)
  have hg0 := h.out.alloc (.cells cs.toArray 35)
  go_enter Try.func23, Try.ntmps23
  go_wp2_with fail
  refine (awake15 _).mono ?_
  rintro e w1 ⟨rfl, x1⟩
  have hs1 := hs0.ext x1; clear hs0
  have hg1 := hg0.ext x1; clear hg0
  have X1 := X0.trans x1
  go_wp2_with (first | (refine load_box rfl 35 _ rfl _ rfl _ _ hs1 _ Try.underlying35 rfl hi.out ?_))
  refine (kF.out _ X1 _ _ hg1).mono ?_
  rintro e w2 ⟨⟨b, rfl, hb⟩, x2⟩
  have hs2 := hs1.ext x2; clear hs1
  have hg2 := hg1.ext x2; clear hg1
  have X2 := X1.trans x2
  cases b
  · clear hb
    go_wp2
    go_ret
    exact ⟨rfl, X2⟩
  · have hp := hb rfl
    clear hb
    go_wp2_with (first | (refine load_box rfl 35 _ rfl _ rfl _ _ hs2 _ Try.underlying35 rfl hi.out ?_))
    refine (kC.out hp _ X2).mono ?_
    rintro e w3 ⟨rfl, x3⟩
    have hs3 := hs2.ext x3; clear hs2
    have hg3 := hg2.ext x3; clear hg2
    have X3 := X2.trans x3
    go_wp2_with (first | (refine load_box rfl 35 _ rfl _ rfl _ _ hs3 _ Try.underlying35 rfl hi.out ?_))
    have lb := bl.out hp
    have lg := h30.out hp
    refine (kB.out hp _ X3 _ _ hg3).mono ?_
    rintro e w4 ⟨A4, cap4, B4, dap4, rfl, ⟨r4, t4⟩, x4, _⟩
    have hs4 := hs3.ext x4; clear hs3
    have hg4 := hg3.ext x4; clear hg3
    have X4 := X3.trans x4
    go_wp2_with fail
    refine (pClock hg4 (by omega) _).mono ?_
    rintro e w5 ⟨A5, cap5, rfl, r5, x5, _⟩
    have hs5 := hs4.ext x5; clear hs4
    have hg5 := hg4.ext x5; clear hg4
    have hb5 := t4.ext x5
    have X5 := X4.trans x5
    go_wp2_with fail
    refine (pOfDay r5 (by have := clock_len l; omega) _ d).mono ?_
    rintro e w6 ⟨A6, cap6, rfl, r6, x6, _⟩
    have hs6 := hs5.ext x6; clear hs5
    have hg6 := hg5.ext x6; clear hg5
    have hb6 := hb5.ext x6; clear hb5
    have hc6 := r5.ext x6
    have X6 := X5.trans x6
    go_wp2_with fail
    refine (iEq (cSize r6 (by have := partS_len (clockL l) d 86400; have := clock_len l; omega) _) eC.out).mono ?_
    rintro e w7 ⟨rfl, x7⟩
    have hs7 := hs6.ext x7; clear hs6
    have hg7 := hg6.ext x7; clear hg6
    have hb7 := hb6.ext x7; clear hb6
    have hc7 := hc6.ext x7; clear hc6
    have hk7 := r6.ext x7
    have X7 := X6.trans x7
    go_wp2_with fail
    refine (pOnly hg7 (by omega) _ 3).mono ?_
    rintro e w8 ⟨A8, cap8, rfl, r8, x8, _⟩
    have hs8 := hs7.ext x8; clear hs7
    have hg8 := hg7.ext x8; clear hg7
    have hb8 := hb7.ext x8; clear hb7
    have hc8 := hc7.ext x8; clear hc7
    have hk8 := hk7.ext x8; clear hk7
    have X8 := X7.trans x8
    go_wp2_with fail
    refine (pOfDay r8 (by have := only_len l 3; omega) _ d).mono ?_
    rintro e w9 ⟨A9, cap9, rfl, r9, x9, _⟩
    have hs9 := hs8.ext x9; clear hs8
    have hg9 := hg8.ext x9; clear hg8
    have hb9 := hb8.ext x9; clear hb8
    have hc9 := hc8.ext x9; clear hc8
    have hk9 := hk8.ext x9; clear hk8
    have ho9 := r8.ext x9
    have X9 := X8.trans x9
    go_wp2_with fail
    refine (iEq (cSize r9 (by have := partS_len (onlyL l 3) d 86400; have := only_len l 3; omega) _) eH.out).mono ?_
    rintro e w10 ⟨rfl, x10⟩
    have hs10 := hs9.ext x10; clear hs9
    have hg10 := hg9.ext x10; clear hg9
    have hb10 := hb9.ext x10; clear hb9
    have hc10 := hc9.ext x10; clear hc9
    have hk10 := hk9.ext x10; clear hk9
    have ho10 := ho9.ext x10; clear ho9
    have hr10 := r9.ext x10
    have X10 := X9.trans x10
    have z10 := hs10.cell 10 _ c10
    have z11 := hs10.cell 11 _ c11
    have z12 := hs10.cell 12 _ c12
    have q1 : IntKind.i64.wrap (H - P) = H - P := IntWalk.i64_in _ (by omega)
    have f1 : decide (AA ≤ C) = true := decide_eq_true (by omega)
    have f2 : decide (H < AB) = true := decide_eq_true (by omega)
    have q2 : IntKind.i64.wrap (AB - H) = AB - H := IntWalk.i64_in _ (by omega)
    have q3 : IntKind.i64.wrap (C - H) = C - H := IntWalk.i64_in _ (by omega)
    go_wp2_with fail
    refine (iEq (cSize hb10 lb _) hN.out).mono ?_
    rintro e w11 ⟨rfl, x11⟩
    have hs11 := hs10.ext x11; clear hs10
    have hg11 := hg10.ext x11; clear hg10
    have hb11 := hb10.ext x11; clear hb10
    have hc11 := hc10.ext x11; clear hc10
    have hk11 := hk10.ext x11; clear hk10
    have ho11 := ho10.ext x11; clear ho10
    have hr11 := hr10.ext x11; clear hr10
    have X11 := X10.trans x11
    go_wp2
    go_ret
    exact ⟨rfl, X11⟩

theorem sizes15 (s : Su) (g : Sh) (ok : SuOk s) (l : List SegL) (A : Option Addr) (c : Nat) (hl : l.length ≤ maxLen) (d : Int) (hd : 0 ≤ d ∧ d ≤ 255) (w : World) (r : SuR w s g) (h : Rg w A l) :
    Calls Try.prog 23 #[.agg (s.cells g).toArray, .slice A l.length c, .int .u8 d] w (RetB w true) := by
  have a1 : Few15 s l → l.length ≤ 100 := fun p => by have := p.2.1; omega
  have a3 : ∀ W, Ext w W → ∀ A c, Rg W A l → Calls Try.prog 65 #[.agg (s.cells g).toArray, .slice A l.length c] W (RetP W (Few15 s l)) := fun W X A c h => pFew15 s g h hl c
  have a6 : Few15 s l → ∀ W, Ext w W → Calls Try.prog 59 #[.agg (s.cells g).toArray] W (RetB W (chk s)) := fun p W X => pCheck ok p.1 (r.ext X)
  cases hc : chk s
  · rw [hc] at a6
    exact breaksSizes0 (s.cells g) rfl s.paid s.after s.auto rfl rfl rfl l A c d hd _ [] [] w h a3 a6
  · rw [hc] at a6
    have a5 : Few15 s l → ∀ W, Ext w W → ∀ A c, Rg W A l → Calls Try.prog 68 #[.agg (s.cells g).toArray, .slice A l.length c, .int .i64 d] W (Ret2S W (paidD s l d) (notD s l d)) := fun p W X A c h => pBOfDay ok p.1 (r.ext X) h (by have := a1 p; omega) c d
    have e2 : notD s l d = dayNot s.paid s.after s.auto l d := if_pos hc
    have aN : Few15 s l → (notD s l d).length ≤ 900000 := fun p => by rw [e2]; have := (day_lens s.paid s.after s.auto l d (a1 p)).2; omega
    have hb := chk_times hc
    have hP : 0 ≤ s.paid ∧ s.paid ≤ 86400 := by omega
    have hA : 0 ≤ s.after ∧ s.after ≤ 86400 := by omega
    have hB : 0 ≤ s.auto ∧ s.auto ≤ 86400 := by omega
    have e := dayNot_size (AA := s.after) (AB := s.auto) hP.1 l d
    rw [← e2] at e
    have c0 := Sp.size_nonneg (partS (clockL l) d 86400)
    have c1 := Sp.size_le (partS (clockL l) d 86400)
    have h0 := Sp.size_nonneg (partS (onlyL l 3) d 86400)
    have h1 := Sp.size_le (partS (onlyL l 3) d 86400)
    by_cases q : s.after ≤ Sp.size (partS (clockL l) d 86400)
    · by_cases q3 : Sp.size (partS (onlyL l 3) d 86400) < s.auto
      · rw [if_pos ⟨q, q3⟩] at e
        exact breaksSizes3 (s.cells g) rfl s.paid s.after s.auto rfl rfl rfl l A c d hd _ _ _ w h a3 a6 a5 _ _ hP hA hB a1 aN ⟨c0, c1⟩ ⟨h0, h1⟩ rfl rfl e ⟨q, q3⟩
      · rw [if_neg (fun z => q3 z.2), Int.add_zero] at e
        exact breaksSizes2 (s.cells g) rfl s.paid s.after s.auto rfl rfl rfl l A c d hd _ _ _ w h a3 a6 a5 _ _ hP hA hB a1 aN ⟨c0, c1⟩ ⟨h0, h1⟩ rfl rfl e ⟨q, q3⟩
    · rw [if_neg (fun z => q z.1), Int.add_zero] at e
      exact breaksSizes1 (s.cells g) rfl s.paid s.after s.auto rfl rfl rfl l A c d hd _ _ _ w h a3 a6 a5 _ _ hP hA hB a1 aN ⟨c0, c1⟩ ⟨h0, h1⟩ rfl rfl e q
end Go.Proofs.Ytnhmibfgaoealaa
