/-
  Laws of layer 14: NightHas.
-/
import Derived.Test.YtnhmibfgaoealaaNd
namespace Go.Proofs.Ytnhmibfgaoealaa
open Go.RowKit
set_option linter.unusedVariables false
set_option linter.unusedSimpArgs false


set_option maxRecDepth 100000 in
set_option maxHeartbeats 1000000 in
theorem nightHas0 (cs : List Value) (hcs : cs.length = 23) (l : List Sp.S) (A : Option Addr) (c : Nat) (t : Int) (p : Prop) (R : List Sp.S) (w : World) (h : Rs w A l) (h30 : p → l.length ≤ 900000) (hR : p → R.length ≤ 900000) (kF : ∀ W, Ext w W → ∀ A c, Rs W A l → Calls Try.prog 53 #[.agg cs.toArray, .slice A l.length c] W (RetP W p)) (kO : p → ∀ W, Ext w W → ∀ A c, Rs W A l → Calls Try.prog 54 #[.agg cs.toArray, .slice A l.length c] W (RetS W R)) (kI : True) (e1 : Sp.has R t = false) (e2 : Sp.has l t = false) :
    Calls Try.prog 14 #[.agg cs.toArray, .slice A l.length c, .int .i64 t] w (RetB w true) := by
  replace kF := Lib.hid kF
  replace kO := Lib.hid kO
  replace kI := Lib.hid kI
  replace h := Lib.hid h
  replace hR := Lib.hid hR
  replace e1 := Lib.hid e1
  replace e2 := Lib.hid e2
  replace h30 := Lib.hid h30
  have hi := Lib.hid (su_size hcs)
  clear hcs
  have hs0 := Bx.new w cs 35
  have X0 := (Ext.refl w).alloc (.cells cs.toArray 35)
  have hl0 := h.out.alloc (.cells cs.toArray 35)
  go_enter Try.func14, Try.ntmps14
  go_wp2_with fail
  refine (awake14 _).mono ?_
  rintro e w1 ⟨rfl, x1⟩
  have hs1 := hs0.ext x1; clear hs0
  have hl1 := hl0.ext x1; clear hl0
  have X1 := X0.trans x1
  go_wp2_with (first | (refine load_box rfl 35 _ rfl _ rfl _ _ hs1 _ Try.underlying35 rfl hi.out ?_))
  refine (kF.out _ X1 _ _ hl1).mono ?_
  rintro e w2 ⟨⟨b, rfl, hb⟩, x2⟩
  have hs2 := hs1.ext x2; clear hs1
  have hl2 := hl1.ext x2; clear hl1
  have X2 := X1.trans x2
  cases b
  · clear hb
    go_wp2
    go_ret
    exact ⟨rfl, X2⟩
  · have hp := hb rfl
    clear hb
    go_wp2_with (first | (refine load_box rfl 35 _ rfl _ rfl _ _ hs2 _ Try.underlying35 rfl hi.out ?_))
    refine (kO.out hp _ X2 _ _ hl2).mono ?_
    rintro e w3 ⟨A3, cap3, rfl, r3, x3, _⟩
    have hs3 := hs2.ext x3; clear hs2
    have hl3 := hl2.ext x3; clear hl2
    have X3 := X2.trans x3
    go_wp2_with fail
    refine (bEq (cHas r3 (hR.out hp) t _) e1.out).mono ?_
    rintro e w4 ⟨rfl, x4⟩
    have hs4 := hs3.ext x4; clear hs3
    have hl4 := hl3.ext x4; clear hl3
    have hr4 := r3.ext x4
    have X4 := X3.trans x4
    go_wp2_with fail
    refine (bEq (cHas hl4 (h30.out hp) t _) e2.out).mono ?_
    rintro e w5 ⟨rfl, x5⟩
    have hs5 := hs4.ext x5; clear hs4
    have hl5 := hl4.ext x5; clear hl4
    have hr5 := hr4.ext x5; clear hr4
    have X5 := X4.trans x5
    go_wp2
    go_ret
    exact ⟨rfl, X5⟩

set_option maxRecDepth 100000 in
set_option maxHeartbeats 1000000 in
theorem nightHas1 (cs : List Value) (hcs : cs.length = 23) (l : List Sp.S) (A : Option Addr) (c : Nat) (t : Int) (p : Prop) (R : List Sp.S) (w : World) (h : Rs w A l) (h30 : p → l.length ≤ 900000) (hR : p → R.length ≤ 900000) (kF : ∀ W, Ext w W → ∀ A c, Rs W A l → Calls Try.prog 53 #[.agg cs.toArray, .slice A l.length c] W (RetP W p)) (kO : p → ∀ W, Ext w W → ∀ A c, Rs W A l → Calls Try.prog 54 #[.agg cs.toArray, .slice A l.length c] W (RetS W R)) (kI : p → ∀ W, Ext w W → Calls Try.prog 56 #[.agg cs.toArray, .int .i64 t] W (RetB W false)) (e1 : Sp.has R t = false) (e2 : Sp.has l t = true) :
    Calls Try.prog 14 #[.agg cs.toArray, .slice A l.length c, .int .i64 t] w (RetB w true) := by
  replace kF := Lib.hid kF
  replace kO := Lib.hid kO
  replace kI := Lib.hid kI
  replace h := Lib.hid h
  replace hR := Lib.hid hR
  replace e1 := Lib.hid e1
  replace e2 := Lib.hid e2
  replace h30 := Lib.hid h30
  have hi := Lib.hid (su_size hcs)
  clear hcs
  have hs0 := Bx.new w cs 35
  have X0 := (Ext.refl w).alloc (.cells cs.toArray 35)
  have hl0 := h.out.alloc (.cells cs.toArray 35)
  go_enter Try.func14, Try.ntmps14
  go_wp2_with fail
  refine (awake14 _).mono ?_
  rintro e w1 ⟨rfl, x1⟩
  have hs1 := hs0.ext x1; clear hs0
  have hl1 := hl0.ext x1; clear hl0
  have X1 := X0.trans x1
  go_wp2_with (first | (refine load_box rfl 35 _ rfl _ rfl _ _ hs1 _ Try.underlying35 rfl hi.out ?_))
  refine (kF.out _ X1 _ _ hl1).mono ?_
  rintro e w2 ⟨⟨b, rfl, hb⟩, x2⟩
  have hs2 := hs1.ext x2; clear hs1
  have hl2 := hl1.ext x2; clear hl1
  have X2 := X1.trans x2
  cases b
  · clear hb
    go_wp2
    go_ret
    exact ⟨rfl, X2⟩
  · have hp := hb rfl
    clear hb
    go_wp2_with (first | (refine load_box rfl 35 _ rfl _ rfl _ _ hs2 _ Try.underlying35 rfl hi.out ?_))
    refine (kO.out hp _ X2 _ _ hl2).mono ?_
    rintro e w3 ⟨A3, cap3, rfl, r3, x3, _⟩
    have hs3 := hs2.ext x3; clear hs2
    have hl3 := hl2.ext x3; clear hl2
    have X3 := X2.trans x3
    go_wp2_with fail
    refine (bEq (cHas r3 (hR.out hp) t _) e1.out).mono ?_
    rintro e w4 ⟨rfl, x4⟩
    have hs4 := hs3.ext x4; clear hs3
    have hl4 := hl3.ext x4; clear hl3
    have hr4 := r3.ext x4
    have X4 := X3.trans x4
    go_wp2_with fail
    refine (bEq (cHas hl4 (h30.out hp) t _) e2.out).mono ?_
    rintro e w5 ⟨rfl, x5⟩
    have hs5 := hs4.ext x5; clear hs4
    have hl5 := hl4.ext x5; clear hl4
    have hr5 := hr4.ext x5; clear hr4
    have X5 := X4.trans x5
    go_wp2_with (first | (refine load_box rfl 35 _ rfl _ rfl _ _ hs5 _ Try.underlying35 rfl hi.out ?_))
    refine (kI.out hp _ X5).mono ?_
    rintro e w6 ⟨rfl, x6⟩
    have hs6 := hs5.ext x6; clear hs5
    have hl6 := hl5.ext x6; clear hl5
    have hr6 := hr5.ext x6; clear hr5
    have X6 := X5.trans x6
    go_wp2
    go_ret
    exact ⟨rfl, X6⟩

set_option maxRecDepth 100000 in
set_option maxHeartbeats 1000000 in
theorem nightHas2 (cs : List Value) (hcs : cs.length = 23) (l : List Sp.S) (A : Option Addr) (c : Nat) (t : Int) (p : Prop) (R : List Sp.S) (w : World) (h : Rs w A l) (h30 : p → l.length ≤ 900000) (hR : p → R.length ≤ 900000) (kF : ∀ W, Ext w W → ∀ A c, Rs W A l → Calls Try.prog 53 #[.agg cs.toArray, .slice A l.length c] W (RetP W p)) (kO : p → ∀ W, Ext w W → ∀ A c, Rs W A l → Calls Try.prog 54 #[.agg cs.toArray, .slice A l.length c] W (RetS W R)) (kI : p → ∀ W, Ext w W → Calls Try.prog 56 #[.agg cs.toArray, .int .i64 t] W (RetB W true)) (e1 : Sp.has R t = true) (e2 : Sp.has l t = true) :
    Calls Try.prog 14 #[.agg cs.toArray, .slice A l.length c, .int .i64 t] w (RetB w true) := by
  replace kF := Lib.hid kF
  replace kO := Lib.hid kO
  replace kI := Lib.hid kI
  replace h := Lib.hid h
  replace hR := Lib.hid hR
  replace e1 := Lib.hid e1
  replace e2 := Lib.hid e2
  replace h30 := Lib.hid h30
  have hi := Lib.hid (su_size hcs)
  clear hcs
  have hs0 := Bx.new w cs 35
  have X0 := (Ext.refl w).alloc (.cells cs.toArray 35)
  have hl0 := h.out.alloc (.cells cs.toArray 35)
  go_enter Try.func14, Try.ntmps14
  go_wp2_with fail
  refine (awake14 _).mono ?_
  rintro e w1 ⟨rfl, x1⟩
  have hs1 := hs0.ext x1; clear hs0
  have hl1 := hl0.ext x1; clear hl0
  have X1 := X0.trans x1
  go_wp2_with (first | (refine load_box rfl 35 _ rfl _ rfl _ _ hs1 _ Try.underlying35 rfl hi.out ?_))
  refine (kF.out _ X1 _ _ hl1).mono ?_
  rintro e w2 ⟨⟨b, rfl, hb⟩, x2⟩
  have hs2 := hs1.ext x2; clear hs1
  have hl2 := hl1.ext x2; clear hl1
  have X2 := X1.trans x2
  cases b
  · clear hb
    go_wp2
    go_ret
    exact ⟨rfl, X2⟩
  · have hp := hb rfl
    clear hb
    go_wp2_with (first | (refine load_box rfl 35 _ rfl _ rfl _ _ hs2 _ Try.underlying35 rfl hi.out ?_))
    refine (kO.out hp _ X2 _ _ hl2).mono ?_
    rintro e w3 ⟨A3, cap3, rfl, r3, x3, _⟩
    have hs3 := hs2.ext x3; clear hs2
    have hl3 := hl2.ext x3; clear hl2
    have X3 := X2.trans x3
    go_wp2_with fail
    refine (bEq (cHas r3 (hR.out hp) t _) e1.out).mono ?_
    rintro e w4 ⟨rfl, x4⟩
    have hs4 := hs3.ext x4; clear hs3
    have hl4 := hl3.ext x4; clear hl3
    have hr4 := r3.ext x4
    have X4 := X3.trans x4
    go_wp2_with fail
    refine (bEq (cHas hl4 (h30.out hp) t _) e2.out).mono ?_
    rintro e w5 ⟨rfl, x5⟩
    have hs5 := hs4.ext x5; clear hs4
    have hl5 := hl4.ext x5; clear hl4
    have hr5 := hr4.ext x5; clear hr4
    have X5 := X4.trans x5
    go_wp2_with (first | (refine load_box rfl 35 _ rfl _ rfl _ _ hs5 _ Try.underlying35 rfl hi.out ?_))
    refine (kI.out hp _ X5).mono ?_
    rintro e w6 ⟨rfl, x6⟩
    have hs6 := hs5.ext x6; clear hs5
    have hl6 := hl5.ext x6; clear hl5
    have hr6 := hr5.ext x6; clear hr5
    have X6 := X5.trans x6
    go_wp2
    go_ret
    exact ⟨rfl, X6⟩

theorem and_le (a b : List Sp.S) : (Sp.and_ a b).length ≤ a.length + b.length := Nat.le_trans (Sp.and_length a b) (Nat.add_le_add (Sp.norm_length a) (Sp.norm_length b))
theorem nightS_len (s : Su) (l : List Sp.S) (h : l.length ≤ 1000) : (nightS s l).length ≤ 900000 := by
  unfold nightS
  split
  · unfold nightOf
    have h1 := and_le l (nightsL s.nfrom s.nto (daysL (Sp.norm l)))
    have h2 := nightsL_len s.nfrom s.nto (daysL (Sp.norm l))
    have h3 := days_len l
    omega
  · simp
theorem nightS_has (s : Su) (l : List Sp.S) (t : Int) : Sp.has (nightS s l) t = (Sp.has l t && nightIsS s t) := by
  unfold nightS nightIsS
  cases hc : chk s
  · simp; rfl
  · rw [if_pos rfl, night_has (chk_nt hc)]; simp
theorem has14 (s : Su) (g : Sh) (ok : SuOk s) (l : List Sp.S) (A : Option Addr) (c : Nat) (hl : l.length ≤ maxLen) (t : Int) (w : World) (r : SuR w s g) (h : Rs w A l) :
    Calls Try.prog 14 #[.agg (s.cells g).toArray, .slice A l.length c, .int .i64 t] w (RetB w true) := by
  have e := nightS_has s l t
  have a1 : Few14 s l → l.length ≤ 900000 := fun p => by have := p.2.1; omega
  have a2 : Few14 s l → (nightS s l).length ≤ 900000 := fun p => nightS_len s l (by have := p.2.1; omega)
  have a3 : ∀ W, Ext w W → ∀ A c, Rs W A l → Calls Try.prog 53 #[.agg (s.cells g).toArray, .slice A l.length c] W (RetP W (Few14 s l)) := fun W X A c h => pFew14 s g h hl c
  have a4 : Few14 s l → ∀ W, Ext w W → ∀ A c, Rs W A l → Calls Try.prog 54 #[.agg (s.cells g).toArray, .slice A l.length c] W (RetS W (nightS s l)) := fun p W X A c h => pNightOf ok p.1 (r.ext X) h (a1 p) c
  have a5 : Few14 s l → ∀ W, Ext w W → Calls Try.prog 56 #[.agg (s.cells g).toArray, .int .i64 t] W (RetB W (nightIsS s t)) := fun p W X => pNightIs ok p.1 (r.ext X) t
  cases h1 : Sp.has l t
  · exact nightHas0 (s.cells g) rfl l A c t _ _ w h a1 a2 a3 a4 trivial (by rw [e, h1]; rfl) h1
  · cases h2 : nightIsS s t
    · rw [h2] at a5; exact nightHas1 (s.cells g) rfl l A c t _ _ w h a1 a2 a3 a4 a5 (by rw [e, h1, h2]; rfl) h1
    · rw [h2] at a5; exact nightHas2 (s.cells g) rfl l A c t _ _ w h a1 a2 a3 a4 a5 (by rw [e, h1, h2]; rfl) h1
end Go.Proofs.Ytnhmibfgaoealaa
