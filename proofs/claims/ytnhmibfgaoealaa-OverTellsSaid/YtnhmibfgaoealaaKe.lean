/-
  breaks.OfDay by contract.
-/
import Derived.Test.YtnhmibfgaoealaaKd
import Derived.Test.YtnhmibfgaoealaaNd
import Derived.Test.YtnhmibfgaoealaaLu
namespace Go.Proofs.Ytnhmibfgaoealaa
open Go.RowKit
set_option linter.unusedVariables false
set_option linter.unusedSimpArgs false

/-- What a call leaves that hands back two slices of spans. -/
def Ret2S (w : World) (R1 R2 : List Sp.S) (e : Ending) (w' : World) : Prop := ∃ A1 c1 A2 c2, e = .returned (.tuple #[.slice A1 R1.length c1, .slice A2 R2.length c2]) ∧ (Rs w' A1 R1 ∧ Rs w' A2 R2) ∧ Ext w w' ∧ w'.ownsRow w.heap.size 42 2 (.slice A1 R1.length c1) R1.length (flat encS R1) ∧ w'.ownsRow w.heap.size 42 2 (.slice A2 R2.length c2) R2.length (flat encS R2)

theorem clock_len (l : List SegL) : (clockL l).length ≤ l.length := by unfold clockL; refine Nat.le_trans (Sp.norm_length _) ?_; simp
theorem only_len (l : List SegL) (k : Int) : (onlyL l k).length ≤ l.length := Nat.le_trans (clock_len _) (List.length_filter_le _ _)

set_option maxRecDepth 100000 in
set_option maxHeartbeats 1000000 in
theorem ofDayA0 (cs : List Value) (hcs : cs.length = 23) (P AA AB : Int) (l : List SegL) (A : Option Addr) (c : Nat) (d : Int) (hl : l.length ≤ 100000) (hl2 : l.length ≤ 10000) (w : World) (h : Rg w A l)
    (kC : ∀ W, Ext w W → Calls Try.prog 59 #[.agg cs.toArray] W (RetB W false)) :
    Calls Try.prog 68 #[.agg cs.toArray, .slice A l.length c, .int .i64 d] w (Ret2S w [] []) := by
  replace kC := Lib.hid kC
  replace h := Lib.hid h
  have hi := Lib.hid (su_size hcs)
  have hs0 := Bx.new w cs 35
  have X0 := (Ext.refl w).alloc (.cells cs.toArray 35)
  have hg0 := h.out.alloc (.cells cs.toArray 35)
  go_enter Try.func68, Try.ntmps68
  go_wp2_with (first | (refine load_box rfl 35 _ rfl _ rfl _ _ hs0 _ Try.underlying35 rfl hi.out ?_))
  refine (kC.out _ X0).mono ?_
  rintro e w1 ⟨rfl, x1⟩
  have hs1 := hs0.ext x1; clear hs0
  have hg1 := hg0.ext x1; clear hg0
  have X1 := X0.trans x1
  go_wp2
  go_ret2
  exact ⟨none, 0, none, 0, rfl, ⟨.nil, .nil⟩, X1, own_nil _ _, own_nil _ _⟩

set_option maxRecDepth 100000 in
set_option maxHeartbeats 1000000 in
theorem ofDayA1 (cs : List Value) (hcs : cs.length = 23) (P AA AB : Int) (l : List SegL) (A : Option Addr) (c : Nat) (d : Int) (hl : l.length ≤ 100000) (hl2 : l.length ≤ 10000) (w : World) (h : Rg w A l)
    (kC : ∀ W, Ext w W → Calls Try.prog 59 #[.agg cs.toArray] W (RetB W true))
    (kU : ∀ W, Ext w W → ∀ A1 A2 c1 c2, Rs W A1 (partS (clockL l) d 86400) → Rs W A2 (partS (onlyL l 3) d 86400) → (partS (clockL l) d 86400).length ≤ 100000 → (partS (onlyL l 3) d 86400).length ≤ 100000 → Calls Try.prog 102 #[.agg cs.toArray, .slice A1 (partS (clockL l) d 86400).length c1, .slice A2 (partS (onlyL l 3) d 86400).length c2] W (RetS W (dayNot P AA AB l d))) (hNl : (dayNot P AA AB l d).length ≤ 900000) :
    Calls Try.prog 68 #[.agg cs.toArray, .slice A l.length c, .int .i64 d] w (Ret2S w (dayPaid P AA AB l d) (dayNot P AA AB l d)) := by
  replace kC := Lib.hid kC
  replace h := Lib.hid h
  replace kU := Lib.hid kU
  have hi := Lib.hid (su_size hcs)
  have hs0 := Bx.new w cs 35
  have X0 := (Ext.refl w).alloc (.cells cs.toArray 35)
  have hg0 := h.out.alloc (.cells cs.toArray 35)
  have hiL : (Try.prog.info? 35).map (·.size) = some cs.length := su_size0.trans (by rw [hcs])
  have hu := Try.underlying35
  obtain ⟨ck, hck⟩ : ∃ x, partS (clockL l) d 86400 = x := ⟨_, rfl⟩
  obtain ⟨rs, hrs⟩ : ∃ x, partS (onlyL l 3) d 86400 = x := ⟨_, rfl⟩
  have l1 := partS_len (clockL l) d 86400
  have l2 := partS_len (onlyL l 3) d 86400
  have l3 := clock_len l
  have l4 := only_len l 3
  have kc := fun (w : World) (A : Option Addr) (c : Nat) (h : Rs w A (clockL l)) => pOfDay h (by omega : (clockL l).length ≤ 900000) c d
  have kr := fun (w : World) (A : Option Addr) (c : Nat) (h : Rs w A (onlyL l 3)) => pOfDay h (by omega : (onlyL l 3).length ≤ 900000) c d
  rw [hck] at l1 kc; rw [hrs] at l2 kr
  rw [hck, hrs] at kU
  have hP : dayPaid P AA AB l d = Sp.minus ck (dayNot P AA AB l d) := by unfold dayPaid; rw [hck]
  replace hP := Lib.hid hP.symm
  replace kc := Lib.hid kc; replace kr := Lib.hid kr; replace hck := Lib.hid hck; replace hrs := Lib.hid hrs
  have l5 : ck.length ≤ 900000 := by omega
  have l7 : ck.length ≤ 100000 := by omega
  have l10 : (dayNot P AA AB l d).length ≤ 900000 := hNl
  have l8 : rs.length ≤ 100000 := by omega
  replace l3 := Lib.hid l3; replace l4 := Lib.hid l4
  clear hi
  have hi := Lib.hid (su_size hcs)
  go_enter Try.func68, Try.ntmps68
  go_wp2_with (first | (refine load_box rfl 35 _ rfl _ rfl _ _ hs0 _ Try.underlying35 rfl hi.out ?_))
  refine (kC.out _ X0).mono ?_
  rintro e w1 ⟨rfl, x1⟩
  have hs1 := hs0.ext x1; clear hs0
  have hg1 := hg0.ext x1; clear hg0
  have X1 := X0.trans x1
  go_wp2_with fail
  refine (pClock hg1 (by omega) _).mono ?_
  rintro e w2 ⟨A2, cap2, rfl, r2, x2, _⟩
  have hs2 := hs1.ext x2; clear hs1
  have hg2 := hg1.ext x2; clear hg1
  have X2 := X1.trans x2
  go_wp2_with fail
  refine (kc.out _ _ _ r2).mono ?_
  rintro e w3 ⟨A3, cap3, rfl, r3, x3, _⟩
  have hs3 := hs2.ext x3; clear hs2
  have hg3 := hg2.ext x3; clear hg2
  have hc3 := r2.ext x3
  have X3 := X2.trans x3
  go_wp2_with fail
  have hB3 := hs3.lt
  refine held_start (S := fun w' => Ext w3 w') 8 rfl (by kernel_rfl) ?_
  have S0 : Ext w3 { w3 with drawn := w3.drawn + 1 } := (Ext.refl w3).drewN 1
  refine held_box (i := 0) rfl (by kernel_rfl) (by kernel_rfl) (by kernel_rfl) rfl 35 _ rfl w.heap.size rfl cs 35 (fun _ h => hs3.ext h) _ Try.underlying35 rfl hi.out S0 _ (by simp [Act.put]; rfl) ?_
  refine held_move (i := 1) rfl (by kernel_rfl) (by kernel_rfl) (by kernel_rfl) _ rfl rfl S0 _ (by simp [Act.put]; rfl) ?_
  refine held_move (i := 2) rfl (by kernel_rfl) (by kernel_rfl) (by kernel_rfl) _ rfl rfl S0 _ (by simp [Act.put]; rfl) ?_
  refine held_move (i := 4) rfl (by kernel_rfl) (by kernel_rfl) (by kernel_rfl) _ rfl rfl S0 _ (by simp [Act.put]; rfl) ?_
  refine held_all (i := 3) rfl (by kernel_rfl) rfl ?_
  go_wp2_with fail
  refine (pOnly (Rg.drewN hg3 1) hl _ 3).mono ?_
  rintro e w4 ⟨A4, cap4, rfl, r4, x4, _⟩
  have xs4 : Ext w3 w4 := S0.trans x4
  refine ⟨xs4, ?_⟩
  refine held_all (i := 5) rfl (by kernel_rfl) rfl ?_
  go_wp2_with fail
  refine (kr.out _ _ _ r4).mono ?_
  rintro e w5 ⟨A5, cap5, rfl, r5, x5, _⟩
  have xs5 : Ext w3 w5 := xs4.trans x5
  refine ⟨xs5, ?_⟩
  refine held_all (i := 6) rfl (by kernel_rfl) rfl ?_
  go_wp2_with fail
  refine (kU.out _ (X3.trans xs5) _ _ _ _ (r3.ext xs5) r5 l7 l8).mono ?_
  rintro e w6 ⟨A6, cap6, rfl, r6, x6, o6⟩
  have xs6 : Ext w3 w6 := xs5.trans x6
  refine ⟨xs6, ?_⟩
  refine held_assign (i := 7) rfl (by kernel_rfl) (by kernel_rfl) (by kernel_rfl) _ rfl rfl xs6 _ (by simp [Act.put]; rfl) ?_
  refine held_done (by kernel_rfl) ?_ _
  have hk6 := r3.ext xs6
  clear kr kc kU
  go_wp2_with fail
  refine (cMinus hk6 r6 l5 l10 _ _).mono ?_
  rintro e w7 ⟨A7, cap7, rfl, r7, x7, o7⟩
  go_wp2
  go_ret2
  exact ⟨A7, cap7, A6, cap6, by rw [← hP.out]; rfl, ⟨hP.out ▸ r7, r6.ext x7⟩, (X3.trans xs6).trans x7, hP.out ▸ own_base o7 (X3.trans xs6).size, own_base (own_below o6 x7) (X3.trans xs5).size⟩

theorem dayNot_len (P AA AB : Int) (l : List SegL) (d : Int) (hl : l.length ≤ 10000) : (dayNot P AA AB l d).length ≤ 900000 := by
  unfold dayNot unpaidL
  have l1 := partS_len (clockL l) d 86400
  have l2 := partS_len (onlyL l 3) d 86400
  have l3 := clock_len l
  have l4 := only_len l 3
  generalize partS (clockL l) d 86400 = ck at *
  generalize partS (onlyL l 3) d 86400 = rs at *
  refine Nat.le_trans (Sp.norm_length _) ?_
  have m1 := minus_le rs (Sp.first rs P)
  have m2 := first_length rs P
  have m3 := minus_le ck rs
  have m4 := last_le (Sp.minus ck rs) (AB - Sp.size rs)
  rw [List.length_append]
  split
  · omega
  · simp only [List.length_nil]; omega
def paidD (s : Su) (l : List SegL) (d : Int) : List Sp.S := if chk s = true then dayPaid s.paid s.after s.auto l d else []
def notD (s : Su) (l : List SegL) (d : Int) : List Sp.S := if chk s = true then dayNot s.paid s.after s.auto l d else []
theorem pBOfDay {s : Su} {g : Sh} (ok : SuOk s) (fw : SuFew s) {w : World} (r : SuR w s g) {A : Option Addr} {l : List SegL} (h : Rg w A l) (hl : l.length ≤ 10000) (c : Nat) (d : Int) :
    Calls Try.prog 68 #[.agg (s.cells g).toArray, .slice A l.length c, .int .i64 d] w (Ret2S w (paidD s l d) (notD s l d)) := by
  have a6 : ∀ W, Ext w W → Calls Try.prog 59 #[.agg (s.cells g).toArray] W (RetB W (chk s)) := fun W X => pCheck ok fw (r.ext X)
  unfold paidD notD
  cases hc : chk s
  · rw [hc] at a6
    exact ofDayA0 (s.cells g) rfl 0 0 0 l A c d (by omega) hl w h a6
  · rw [hc] at a6
    exact ofDayA1 (s.cells g) rfl s.paid s.after s.auto l A c d (by omega) hl w h a6 (fun W X A1 A2 c1 c2 h1 h2 l1 l2 => pUnpaid s g hc h1 h2 l1 l2 c1 c2) (dayNot_len _ _ _ l d hl)

end Go.Proofs.Ytnhmibfgaoealaa
