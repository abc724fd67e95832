/-
  breaks.Paid of a setup; awake of lumperlaw15.
-/
import Derived.Test.YtnhmibfgaoealaaGreatKv
import Derived.Test.YtnhmibfgaoealaaGreatLb
namespace Go.Proofs.YtnhmibfgaoealaaGreat
open Go.RowKit BigFrame
set_option linter.unusedVariables false
set_option linter.unusedSimpArgs false

theorem day_lens (P AA AB : Int) (l : List SegL) (d : Int) (hl : l.length ≤ 100) : (dayPaid P AA AB l d).length ≤ 900 ∧ (dayNot P AA AB l d).length ≤ 700 := by
  have l1 := partS_len (clockL l) d 86400
  have l2 := partS_len (onlyL l 3) d 86400
  have l3 := clock_len l
  have l4 := only_len l 3
  have hN : (dayNot P AA AB l d).length ≤ 700 := by
    unfold dayNot unpaidL
    generalize partS (clockL l) d 86400 = ck at *
    generalize partS (onlyL l 3) d 86400 = rs at *
    refine Nat.le_trans (Sp.norm_length _) ?_
    have m1 := minus_le rs (Sp.first rs P)
    have m2 := first_length rs P
    have m3 := minus_le ck rs
    have m4 := last_le (Sp.minus ck rs) (AB - Sp.size rs)
    rw [List.length_append]
    split
    · omega
    · simp only [List.length_nil]; omega
  refine ⟨?_, hN⟩
  unfold dayPaid
  have m1 := minus_le (partS (clockL l) d 86400) (dayNot P AA AB l d)
  omega
def paidAll (s : Su) (l : List SegL) : List Sp.S := Sp.norm ((daysL (Sp.norm (clockL l))).flatMap (paidD s l))
def notAll (s : Su) (l : List SegL) : List Sp.S := Sp.norm ((daysL (Sp.norm (clockL l))).flatMap (notD s l))
theorem paidAll_yes {s : Su} (h : chk s = true) (l : List SegL) : paidAll s l = allPaid s.paid s.after s.auto l ∧ notAll s l = allNot s.paid s.after s.auto l := by
  constructor
  · unfold paidAll allPaid
    have : paidD s l = fun d => dayPaid s.paid s.after s.auto l d := funext fun d => if_pos h
    rw [this]
  · unfold notAll allNot
    have : notD s l = fun d => dayNot s.paid s.after s.auto l d := funext fun d => if_pos h
    rw [this]
theorem flat_none {α : Type} (l : List α) : (l.flatMap fun _ => ([] : List Sp.S)) = [] := by induction l with | nil => rfl | cons x r ih => simp
theorem paidAll_no {s : Su} (h : chk s = false) (l : List SegL) : paidAll s l = [] ∧ notAll s l = [] := by
  constructor
  · unfold paidAll
    have : paidD s l = fun _ => [] := funext fun d => if_neg (by rw [h]; exact Bool.false_ne_true)
    rw [this, flat_none]; rfl
  · unfold notAll
    have : notD s l = fun _ => [] := funext fun d => if_neg (by rw [h]; exact Bool.false_ne_true)
    rw [this, flat_none]; rfl
theorem pPaid {s : Su} {g : Sh} (ok : SuOk s) (fw : SuFew s) {w : World} (r : SuR w s g) {A : Option Addr} {l : List SegL} (h : Rg w A l) (hl : l.length ≤ 100) (c : Nat) :
    Calls Tryz.prog 11 #[.agg (s.cells g).toArray, .slice A l.length c] w (Ret2R w (paidAll s l) (notAll s l)) :=
  paidA (s.cells g) rfl l A c hl (paidD s l) (notD s l) (fun d => by
    have h := day_lens s.paid s.after s.auto l d hl
    unfold paidD notD
    split
    · omega
    · simp) w h (fun W X d => pBOfDay ok fw (r.ext X) (h.ext X) (by omega) c d)

theorem Rg.new_at (w : World) (l : List SegL) (t : TypeId) (g : Nat) (hg : g = w.heap.size) : Rg (w.alloc (.cells (flat enc5 l).toArray t)) (some ⟨g, 0, none⟩) l := by
  subst hg
  exact fun _ => ⟨w.heap.size, 0, rfl, by simp, fun j hj i u hu => by
    have hi : i < 5 := by have := (List.getElem?_eq_some_iff.1 hu).1; rwa [enc5_len] at this
    have := cells_new w (flat enc5 l) t (j * 5 + i) u (by rw [flat_at enc5_len l j hj i hi]; exact hu)
    rw [add_head] at this
    rw [Nat.zero_add]; exact this⟩

def s15 : Su := { awS with paid := 600, after := 21600, auto := 1800 }
def L15 : List SegL := [⟨0, 10000, 0, 0, 0⟩, ⟨10000, 11000, 3, 0, 0⟩, ⟨11000, 30000, 1, 0, 0⟩]
theorem ok15 : SuOk s15 := by
  have b : ∀ n : Int, 0 ≤ n ∧ n ≤ 1000000 → B64 n := fun _ h => b64_small h
  refine ⟨b _ ?_, b _ ?_, b _ ?_, b _ ?_, b _ ?_, b _ ?_, b _ ?_, b _ ?_, b _ ?_, b _ ?_, b _ ?_, b _ ?_, b _ ?_, b _ ?_, b _ ?_, ⟨b _ ?_, b _ ?_⟩, ⟨by decide, by simp [awS, s15]⟩, ⟨by decide, by simp [awS, s15]⟩, ⟨by decide, by simp [awS, s15]⟩, ⟨by decide, by simp [awS, s15]⟩, ⟨by decide, by simp [awS, s15]; exact b64_small (by omega)⟩, ⟨by decide, by simp [awS, s15]⟩⟩ <;> decide
theorem fw15 : SuFew s15 := by unfold SuFew; decide
theorem n15 : notAll s15 L15 = [(10600, 11000), (29200, 30000)] := by decide +kernel
theorem p15 : Sp.size (paidAll s15 L15) = 28800 ∧ (paidAll s15 L15).length ≤ 900000 := by decide +kernel
theorem d15 : paidD s15 L15 1 = [] ∧ notD s15 L15 1 = [] := by decide +kernel
theorem z15 (l : List SegL) : paidAll zS l = [] ∧ notAll zS l = [] := paidAll_no (by decide) l
theorem a15 {g : Nat} {w : World} {A : Option Addr} (r : SuR w s15 (awH g)) (h : Rg w A L15) : Calls Tryz.prog 11 #[.agg (s15.cells (awH g)).toArray, .slice A 3 3] w (Ret2R w (paidAll s15 L15) [(10600, 11000), (29200, 30000)]) := n15 ▸ pPaid ok15 fw15 r h (by decide) 3
theorem b15 {w : World} {A : Option Addr} (h : Rg w A L15) : Calls Tryz.prog 11 #[.agg (zS.cells zH).toArray, .slice A 3 3] w (Ret2R w [] []) := by
  have := pPaid (g := zH) zOk zFew (zR w) h (by decide) 3
  rw [(z15 L15).1, (z15 L15).2] at this
  exact this
theorem c15 {g : Nat} {w : World} {A : Option Addr} (r : SuR w s15 (awH g)) (h : Rg w A L15) : Calls Tryz.prog 13 #[.agg (s15.cells (awH g)).toArray, .slice A 3 3, .int .i64 1] w (Ret2S w [] []) := by
  have := pBOfDay ok15 fw15 r h (by decide) 3 1
  rw [d15.1, d15.2] at this
  exact this

set_option maxRecDepth 100000 in
set_option maxHeartbeats 1000000 in
theorem awake15 (w : World) : Calls Tryz.prog 9 #[] w (RetB w true) := by
  have hu0 := (awR w s15 rfl rfl rfl rfl rfl rfl).alloc (.cells #[.int .i64 1, .slice none 0 0, .int .i64 1, .int .i64 1, .slice none 0 0, .slice none 0 0, .slice none 0 0, .int .i64 0, .int .i64 1, .int .i64 60, .int .i64 600, .int .i64 21600, .int .i64 1800, .int .i64 0, .int .i64 0, .int .i64 0, .int .i64 0, .int .i64 0, .slice (some ⟨w.heap.size, 0, none⟩) 1 1, .int .i64 0, .int .i64 0, .int .i64 0, .slice none 0 0] 30)
  have hs0 := Bx.new_at (w.alloc (.cells #[.int .i64 1] 3)) [.int .i64 1, .slice none 0 0, .int .i64 1, .int .i64 1, .slice none 0 0, .slice none 0 0, .slice none 0 0, .int .i64 0, .int .i64 1, .int .i64 60, .int .i64 600, .int .i64 21600, .int .i64 1800, .int .i64 0, .int .i64 0, .int .i64 0, .int .i64 0, .int .i64 0, .slice (some ⟨w.heap.size, 0, none⟩) 1 1, .int .i64 0, .int .i64 0, .int .i64 0, .slice none 0 0] 30 (w.heap.size + 1) (by simp)
  have X0 := ((Ext.refl w).alloc (.cells #[.int .i64 1] 3)).alloc (.cells #[.int .i64 1, .slice none 0 0, .int .i64 1, .int .i64 1, .slice none 0 0, .slice none 0 0, .slice none 0 0, .int .i64 0, .int .i64 1, .int .i64 60, .int .i64 600, .int .i64 21600, .int .i64 1800, .int .i64 0, .int .i64 0, .int .i64 0, .int .i64 0, .int .i64 0, .slice (some ⟨w.heap.size, 0, none⟩) 1 1, .int .i64 0, .int .i64 0, .int .i64 0, .slice none 0 0] 30)
  have hL := Rg.new_at ((w.alloc (.cells #[.int .i64 1] 3)).alloc (.cells #[.int .i64 1, .slice none 0 0, .int .i64 1, .int .i64 1, .slice none 0 0, .slice none 0 0, .slice none 0 0, .int .i64 0, .int .i64 1, .int .i64 60, .int .i64 600, .int .i64 21600, .int .i64 1800, .int .i64 0, .int .i64 0, .int .i64 0, .int .i64 0, .int .i64 0, .slice (some ⟨w.heap.size, 0, none⟩) 1 1, .int .i64 0, .int .i64 0, .int .i64 0, .slice none 0 0] 30)) L15 60 (w.heap.size + 2) (by simp)
  have hu1 := hu0.alloc (.cells (flat enc5 L15).toArray 60)
  have hs1 := hs0.alloc (.cells (flat enc5 L15).toArray 60)
  have X1 := X0.alloc (.cells (flat enc5 L15).toArray 60)
  obtain ⟨P, hP⟩ : ∃ P, paidAll s15 L15 = P := ⟨_, rfl⟩
  have hP1 := p15
  rw [hP] at hP1
  have ka := fun (w : World) (A : Option Addr) (g : Nat) (r : SuR w s15 (awH g)) (h : Rg w A L15) => a15 r h
  rw [hP] at ka
  replace ka := Lib.hid ka; replace hP1 := Lib.hid hP1
  clear hP
  go_enter Tryz.func9, Tryz.ntmps9
  go_wp2_with (first | (refine build_at rfl 30 _ rfl #[.int .i64 1, .slice none 0 0, .int .i64 1, .int .i64 1, .slice none 0 0, .slice none 0 0, .slice none 0 0, .int .i64 0, .int .i64 1, .int .i64 60, .int .i64 600, .int .i64 21600, .int .i64 1800, .int .i64 0, .int .i64 0, .int .i64 0, .int .i64 0, .int .i64 0, .slice (some ⟨w.heap.size, 0, none⟩) 1 1, .int .i64 0, .int .i64 0, .int .i64 0, .slice none 0 0] (by kernel_rfl) ?_) | (refine store_new rfl 30 _ _ rfl (w.alloc (.cells #[.int .i64 1] 3)) (w.heap.size + 1) (by simp) _ #[.int .i64 1, .slice none 0 0, .int .i64 1, .int .i64 1, .slice none 0 0, .slice none 0 0, .slice none 0 0, .int .i64 0, .int .i64 1, .int .i64 60, .int .i64 600, .int .i64 21600, .int .i64 1800, .int .i64 0, .int .i64 0, .int .i64 0, .int .i64 0, .int .i64 0, .slice (some ⟨w.heap.size, 0, none⟩) 1 1, .int .i64 0, .int .i64 0, .int .i64 0, .slice none 0 0] 30 rfl rfl rfl su_size0 rfl (by simp [Value.oneCell']) ?_) | (refine load_box rfl 30 _ rfl _ rfl _ _ hs1 _ Tryz.underlying30 rfl su_size0 ?_))
  refine (ka.out _ _ _ hu1 hL).mono ?_
  rintro e w2 ⟨A2, cap2, B2, dap2, rfl, ⟨r2, t2⟩, x2, _⟩
  have hu2 := hu1.ext x2; clear hu1
  have hs2 := hs1.ext x2; clear hs1
  have hl2 := hL.ext x2
  have X2 := X1.trans x2
  go_wp2_with fail
  refine (b15 hl2).mono ?_
  rintro e w3 ⟨A3, cap3, B3, dap3, rfl, ⟨r3, t3⟩, x3, _⟩
  have hu3 := hu2.ext x3; clear hu2
  have hs3 := hs2.ext x3; clear hs2
  have hl3 := hl2.ext x3; clear hl2
  have hp3 := r2.ext x3
  have hq3 := t2.ext x3
  have X3 := X2.trans x3
  go_wp2_with (first | (refine load_box rfl 30 _ rfl _ rfl _ _ hs3 _ Tryz.underlying30 rfl su_size0 ?_))
  refine (c15 hu3 hl3).mono ?_
  rintro e w4 ⟨A4, cap4, B4, dap4, rfl, ⟨r4, t4⟩, x4, _⟩
  have hu4 := hu3.ext x4; clear hu3
  have hs4 := hs3.ext x4; clear hs3
  have hl4 := hl3.ext x4; clear hl3
  have hp4 := hp3.ext x4; clear hp3
  have hq4 := hq3.ext x4; clear hq3
  have X4 := X3.trans x4
  go_wp2_with fail
  refine (bEq (cSame (hq4.alloc _) (Rs.new_g _ [(10600, 11000), (29200, 30000)] _ _ (by simp)) (by decide) _ _) (b' := true) (decide_eq_true rfl)).mono ?_
  rintro e w5 ⟨rfl, x5⟩
  have hu5 := (hu4.alloc _).ext x5
  have hs5 := (hs4.alloc _).ext x5
  have hl5 := (hl4.alloc _).ext x5
  have hp5 := (hp4.alloc _).ext x5
  have hq5 := (hq4.alloc _).ext x5
  have X5 := (X4.alloc _).trans x5
  go_wp2_with fail
  refine (iEq (cSize hp5 hP1.out.2 _) hP1.out.1).mono ?_
  rintro e w6 ⟨rfl, x6⟩
  have hu6 := hu5.ext x6; clear hu5
  have hs6 := hs5.ext x6; clear hs5
  have hl6 := hl5.ext x6; clear hl5
  have hp6 := hp5.ext x6; clear hp5
  have hq6 := hq5.ext x6; clear hq5
  have X6 := X5.trans x6
  go_wp2
  go_ret
  exact ⟨rfl, X6⟩


theorem intsSeg : IntsAt Tryz.prog 60 5 := ints_struct (fun _ => 1) Tryz.underlying60 (fun i f hi => by
  match i, hi with
  | 0, hi => cases hi; exact ⟨intsInt, rfl⟩
  | 1, hi => cases hi; exact ⟨intsInt, rfl⟩
  | 2, hi => cases hi; exact ⟨intsInt, rfl⟩
  | 3, hi => cases hi; exact ⟨intsInt, rfl⟩
  | 4, hi => cases hi; exact ⟨intsInt, rfl⟩
  | n + 5, hi => exact absurd hi (by simp)) (by kernel_rfl)
def mk5 : List Int → SegL
  | [a, b, c, d, e] => ⟨a, b, c, d, e⟩
  | _ => ⟨0, 0, 0, 0, 0⟩
theorem len5 {z : List Int} (h : z.length = 5) : ∃ a b c d e, z = [a, b, c, d, e] := by
  match z, h with
  | [a, b, c, d, e], _ => exact ⟨a, b, c, d, e, rfl⟩
open Go.ChangeShapes Go.WideShapes Go.ChangeAt Go.Deep in
theorem open_segs {H : Type} {enc : TypeId × Value → H} {w : World} {base : Nat} {spare : Nat → Bool} {held : Bool} {A : Option Addr} {len cap : Nat} {d : DataW H} {p : List MemPlace} (h : DataW.Trod enc Tryz.prog w base spare held 31 (.slice A len cap) d p) :
    ∃ l : List SegL, len = l.length ∧ l.length ≤ maxLen ∧ Rg w A l := by
  obtain ⟨fuel, hf⟩ := h
  obtain ⟨L, h1, h2, h3, h4⟩ := open_rows Tryz.underlying31 intsSeg (by omega) hf
  refine ⟨L.map mk5, by simpa using h1, by simpa using h2, h4.conv _ fun z hz => ?_⟩
  obtain ⟨a, b, c, d, e, rfl⟩ := len5 (h3 z hz).1
  rfl
end Go.Proofs.YtnhmibfgaoealaaGreat
