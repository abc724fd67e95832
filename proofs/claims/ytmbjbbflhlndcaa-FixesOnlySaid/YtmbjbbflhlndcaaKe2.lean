/-
  lumperref08: numbers, Put.
-/
import Derived.Test.YtmbjbbflhlndcaaKd2
namespace Go.Proofs.Ytmbjbbflhlndcaa
open Go.RowKit BigFrame
set_option linter.unusedVariables false
set_option linter.unusedSimpArgs false

theorem own_new_at {α : Type} {enc : α → List Value} {k : Nat} {S E : TypeId} {by_ : Nat} (el : El enc k S E by_) (w : World) (l : List α) (b g n : Nat) (hg : g = w.heap.size) (hn : n = l.length) (hb : b ≤ w.heap.size) (hl : l.length ≤ 4000000000) :
    (w.alloc (.cells (flat enc l).toArray E)).ownsRow b E k (.slice (some ⟨g, 0, none⟩) n n) n (flat enc l) := by
  subst hg hn
  exact own_newG el w l b hb hl
theorem RetL.of {α : Type} {enc : α → List Value} {k : Nat} {S E : TypeId} {by_ : Nat} (el : El enc k S E by_) {w w' : World} {R l : List α} {A : Option Addr} {n cap b : Nat} (hR : R = l) (hn : n = l.length) (ho : w'.ownsRow b E k (.slice A n cap) n (flat enc l)) (hb : w.heap.size ≤ b) (x : Ext w w') : RetL enc k E w R (.returned (.slice A n cap)) w' := by
  subst hR hn
  exact ⟨A, cap, rfl, Rw.own el ho, x, own_base ho hb⟩

set_option maxRecDepth 100000 in
set_option maxHeartbeats 1000000 in
theorem rNumbers (e : Ev) (w : World) : Calls Try.prog 68 #[.agg (encV e).toArray] w (RetL encN 1 3 w (numsE e)) := by
  have hs1 := Bx.new w (encV e) 23
  have X1 := Lib.hid ((Ext.refl w).alloc (.cells (encV e).toArray 23))
  have HO1 : Hid (((w.alloc (.cells (encV e).toArray 23)).alloc (.cells #[.int .i64 e.id, .int .i64 e.worker, .int .i64 e.at_, .int .i64 e.kind] 3)).ownsRow (w.alloc (.cells (encV e).toArray 23)).heap.size 3 1 (.slice (some ⟨w.heap.size + 1, 0, none⟩) 4 4) 4 (flat encN [e.id, e.worker, e.at_, e.kind])) := own_new_at elN (w.alloc (.cells (encV e).toArray 23)) [e.id, e.worker, e.at_, e.kind] (w.alloc (.cells (encV e).toArray 23)).heap.size (w.heap.size + 1) 4 (by simp) rfl (Nat.le_refl _) (by simp)
  obtain ⟨L, hL⟩ : ∃ L, numsE e = L := ⟨_, rfl⟩
  rw [hL]
  replace hL := Lib.hid hL
  have hs1' := Lib.hid hs1
  have c0 := hs1.cell 0 _ rfl; have c1 := hs1.cell 1 _ rfl; have c2 := hs1.cell 2 _ rfl; have c3 := hs1.cell 3 _ rfl
  have X1b := Lib.hid ((Ext.refl (w.alloc (.cells (encV e).toArray 23))).alloc (.cells #[.int .i64 e.id, .int .i64 e.worker, .int .i64 e.at_, .int .i64 e.kind] 3))
  have hs2 := Lib.hid (hs1.alloc (.cells #[.int .i64 e.id, .int .i64 e.worker, .int .i64 e.at_, .int .i64 e.kind] 3))
  have e3 := hs2.out.cell 3 _ rfl
  clear hs1
  go_enter Try.func68, Try.ntmps68
  by_cases k3 : e.kind = 3
  · have q3 : (e.kind == 3) = true := by rw [beq_iff_eq]; exact k3
    have q4 : (e.kind == 4) = false := by rw [beq_eq_false_iff_ne]; omega
    have hLe : Hid (L = [e.id, e.worker, e.at_, e.kind] ++ [e.fr, e.to, e.element, e.units, e.cls, e.gear]) := by show _ = _; rw [← hL.out]; unfold numsE ownE; rw [if_pos k3]
    have c4 := hs2.out.cell 4 _ rfl; have c5 := hs2.out.cell 5 _ rfl; have c6 := hs2.out.cell 6 _ rfl; have c7 := hs2.out.cell 7 _ rfl; have c8 := hs2.out.cell 8 _ rfl; have c9 := hs2.out.cell 9 _ rfl
    clear k3
    go_wp2_with (at_builtin; refine appG elN (w.alloc (.cells (encV e).toArray 23)) _ (X1b.out.alloc _) _ _ (by rfl) (by rfl) 4 _ [e.id, e.worker, e.at_, e.kind] [e.fr, e.to, e.element, e.units, e.cls, e.gear] (by rfl) (own_below HO1.out ((Ext.refl _).alloc _)) rfl (some ⟨w.heap.size + 1 + 1, 0, none⟩) 6 6 (by rfl) rfl (Rw.new_at elN ((w.alloc (.cells (encV e).toArray 23)).alloc (.cells #[.int .i64 e.id, .int .i64 e.worker, .int .i64 e.at_, .int .i64 e.kind] 3)) [e.fr, e.to, e.element, e.units, e.cls, e.gear] 3 _ (by simp)) (by simp) ?_; intro A5 c5 w5 o5 x5; have d3 := (hs1'.out.ext x5).cell 3 _ rfl)
    go_ret
    exact RetL.of elN hLe.out (by simp) o5 X1.out.size (X1.out.trans x5)
  · have q3 : (e.kind == 3) = false := by rw [beq_eq_false_iff_ne]; exact k3
    by_cases k4 : e.kind = 4
    · have q4 : (e.kind == 4) = true := by rw [beq_iff_eq]; exact k4
      have hLe : Hid (L = [e.id, e.worker, e.at_, e.kind] ++ [e.code]) := by show _ = _; rw [← hL.out]; unfold numsE ownE; rw [if_neg k3, if_pos k4]
      have c10 := hs2.out.cell 10 _ rfl
      clear k3 k4
      go_wp2_with (at_builtin; refine appG elN (w.alloc (.cells (encV e).toArray 23)) _ (X1b.out.alloc _) _ _ (by rfl) (by rfl) 4 _ [e.id, e.worker, e.at_, e.kind] [e.code] (by rfl) (own_below HO1.out ((Ext.refl _).alloc _)) rfl (some ⟨w.heap.size + 1 + 1, 0, none⟩) 1 1 (by rfl) rfl (Rw.new_at elN ((w.alloc (.cells (encV e).toArray 23)).alloc (.cells #[.int .i64 e.id, .int .i64 e.worker, .int .i64 e.at_, .int .i64 e.kind] 3)) [e.code] 3 _ (by simp)) (by simp) ?_; intro A5 c5 w5 o5 x5)
      go_ret
      exact RetL.of elN hLe.out (by simp) o5 X1.out.size (X1.out.trans x5)
    · have q4 : (e.kind == 4) = false := by rw [beq_eq_false_iff_ne]; exact k4
      have hLe : Hid (L = [e.id, e.worker, e.at_, e.kind]) := by show _ = _; rw [← hL.out]; unfold numsE ownE; rw [if_neg k3, if_neg k4]; rfl
      clear k3 k4
      go_wp2
      go_ret
      exact RetL.of elN hLe.out (by simp) HO1.out X1.out.size (X1.out.trans X1b.out)

set_option maxRecDepth 100000 in
set_option maxHeartbeats 1000000 in
theorem rEPut0 {w : World} {A : Option Addr} {b : List UInt8} (h : Rb w A b) (hb : b.length ≤ 100000000) (c : Nat) (e : Ev) (h64 : Ev64 e) (R : List UInt8) (r : Int) (h1 : fairB e = true → R = b ++ encE e ∧ r = 0) (h0 : fairB e = false → R = [] ∧ r = 80) :
    Calls Try.prog 35 #[.slice A b.length c, .agg (encV e).toArray] w (RetBE w R r) := by
  have hs0 := Bx.new w (encV e) 23
  have X0 := Lib.hid ((Ext.refl w).alloc (.cells (encV e).toArray 23))
  have HS0 := Lib.hid hs0
  have H := Lib.hid h
  replace h0 := Lib.hid h0; replace h1 := Lib.hid h1; replace h64 := Lib.hid h64
  clear hs0 h
  go_enter Try.func35, Try.ntmps35
  go_wp2_with (first | (refine load_box rfl 23 _ rfl _ rfl _ _ HS0.out _ Try.underlying23 rfl sizeV ?_))
  refine (rFair e _).mono ?_
  rintro e1 w1 ⟨rfl, x1⟩
  have HS1 := Lib.hid (HS0.out.ext x1)
  have X1 := Lib.hid (X0.out.trans x1)
  clear HS0 X0 x1
  cases hf : fairB e
  · obtain ⟨rfl, rfl⟩ := h0.out hf
    clear hf
    go_wp2_with fail
    go_ret2
    exact ⟨none, 0, rfl, Rw.nil, X1.out, own_nilG _ _⟩
  · obtain ⟨rfl, rfl⟩ := h1.out hf
    have hbd := Lib.hid (nums_bd hf h64.out)
    clear hf h0 h1
    go_wp2_with (first | (refine load_box rfl 23 _ rfl _ rfl _ _ HS1.out _ Try.underlying23 rfl sizeV ?_))
    refine (rNumbers e _).mono ?_
    rintro e1 w2 ⟨A2, c2, rfl, r2, x2, _⟩
    have lm : (numsE e).length ≤ 10 := by
      unfold numsE ownE
      split
      · simp
      · split <;> simp
    have X2 := Lib.hid (X1.out.trans x2)
    have kP := rPutY (H.out.ext X2.out) r2 (by omega) (by omega) (fun x hx => (hbd.out x hx).2) c c2 (fun x hx => (hbd.out x hx).1)
    obtain ⟨n, hn⟩ : ∃ n, (numsE e).length = n := ⟨_, rfl⟩
    rw [hn] at kP
    rw [hn]
    replace kP := Lib.hid kP
    clear lm hn r2 x2 HS1
    go_wp2_with fail
    refine kP.out.mono ?_
    rintro e1 w6 ⟨A6, c6, rfl, r6, x6, o6⟩
    go_wp2_with fail
    go_ret2
    exact ⟨A6, c6, by rw [List.length_append]; rfl, r6, X2.out.trans x6, own_base o6 X2.out.size⟩
theorem rEPutY {w : World} {A : Option Addr} {b : List UInt8} (h : Rb w A b) (hb : b.length ≤ 100000000) (c : Nat) (e : Ev) (h64 : Ev64 e) (hf : fairB e = true) :
    Calls Try.prog 35 #[.slice A b.length c, .agg (encV e).toArray] w (RetBE w (b ++ encE e) 0) := rEPut0 h hb c e h64 _ _ (fun _ => ⟨rfl, rfl⟩) (fun h => by rw [hf] at h; cases h)
theorem rEPutN {w : World} {A : Option Addr} {b : List UInt8} (h : Rb w A b) (hb : b.length ≤ 100000000) (c : Nat) (e : Ev) (h64 : Ev64 e) (hf : fairB e = false) :
    Calls Try.prog 35 #[.slice A b.length c, .agg (encV e).toArray] w (RetBE w [] 80) := rEPut0 h hb c e h64 _ _ (fun h => by rw [hf] at h; cases h) (fun _ => ⟨rfl, rfl⟩)
end Go.Proofs.Ytmbjbbflhlndcaa
