/-
  lumperref24: bytes of any plain command, Put, num.
-/
import Derived.Test.YtmbjbbflhlndcaaKh2
import Derived.Test.YtmbjbbflhlndcaaKi2
namespace Go.Proofs.Ytmbjbbflhlndcaa
open Go.RowKit BigFrame
set_option linter.unusedVariables false
set_option linter.unusedSimpArgs false

theorem rBytesC (c : Cm) (h64 : Cm64 c) (hp : plainC c = true) (w : World) : Calls Try.prog 57 #[.agg (encC c).toArray] w (RetBy w (encM c)) := by
  obtain ⟨hk, ht, ho, hev, _⟩ := plainC_iff.1 hp
  by_cases k1 : c.kind = 1
  · have hw : wholeC c = true := by unfold wholeC; simp [k1]
    rw [hw] at hev
    exact rByK1 c h64 w k1 ht hev
  by_cases k2 : c.kind = 2
  · by_cases f2 : c.fk = 2
    · have hw : wholeC c = false := by unfold wholeC; simp [k2, f2]
      have hpp : partC c = true := by unfold partC; simp [k2, f2]
      rw [hw, hpp] at hev
      simp only [Bool.false_eq_true, if_false, if_true] at hev
      exact rByK2v c h64 w k2 ht f2 hev.2.1
    · have hpp : partC c = false := by unfold partC; simp [k2, f2]
      by_cases f13 : c.fk = 1 ∨ c.fk = 3
      · have hw : wholeC c = true := by unfold wholeC; simp only [decide_eq_true_iff]; exact .inr ⟨k2, f13⟩
        rw [hw] at hev
        exact rByK2e c h64 w k2 ht f13 hev
      · have hw : wholeC c = false := by unfold wholeC; simp only [decide_eq_false_iff_not]; rintro (h | h); exact k1 h; exact f13 h.2
        rw [hw, hpp] at hev
        simp only [Bool.false_eq_true, if_false] at hev
        exact absurd k2 hev.1
  have own : ∀ l, ownC c = l → ∀ n ∈ l, 0 ≤ n := fun l h => h ▸ ho
  by_cases k3 : c.kind = 3
  · have e := own [c.worker, c.week] (by unfold ownC; simp [k3])
    exact rByK3 c h64 w k3 ht (e _ (by simp)) (e _ (by simp))
  by_cases k4 : c.kind = 4
  · exact rByK4 c h64 w k4 ht (own [c.worker] (by unfold ownC; simp [k4]) _ (by simp))
  by_cases k5 : c.kind = 5
  · exact rByK5 c h64 w k5 ht (own [c.week] (by unfold ownC; simp [k5]) _ (by simp))
  by_cases k6 : c.kind = 6
  · exact rByK6 c h64 w k6 ht (own [c.week] (by unfold ownC; simp [k6]) _ (by simp))
  by_cases k7 : c.kind = 7
  · exact rByK7 c h64 w k7 ht (own [c.week] (by unfold ownC; simp [k7]) _ (by simp))
  exact rByK8 c h64 w (by omega) ht

set_option maxRecDepth 100000 in
set_option maxHeartbeats 1000000 in
theorem rMPutN {w : World} {A : Option Addr} {b : List UInt8} (h : Rb w A b) (hb : b.length ≤ 100000000) (cb : Nat) (c : Cm) (h64 : Cm64 c) (hp : plainC c = false) :
    Calls Try.prog 20 #[.slice A b.length cb, .agg (encC c).toArray] w (RetBE w [] 240) := by
  have HB0 := Lib.hid (Bx.new w (encC c) 27)
  have X0 := Lib.hid ((Ext.refl w).alloc (.cells (encC c).toArray 27))
  clear h
  go_enter Try.func20, Try.ntmps20
  go_wp2_with (first | (refine load_box rfl 27 _ rfl _ rfl _ _ HB0.out _ Try.underlying27 rfl sizeC ?_))
  refine (rCheckC c h64 _).mono ?_
  rintro e1 w1 ⟨rfl, x1⟩
  have X1 := Lib.hid (X0.out.trans x1)
  rw [hp]
  clear hp x1 X0 HB0
  go_wp2_with fail
  go_ret2
  exact ⟨none, 0, rfl, Rw.nil, X1.out, own_nilG _ _⟩

set_option maxRecDepth 100000 in
set_option maxHeartbeats 1000000 in
theorem rMPutY {w : World} {A : Option Addr} {b : List UInt8} (h : Rb w A b) (hb : b.length ≤ 100000000) (cb : Nat) (c : Cm) (h64 : Cm64 c) (hp : plainC c = true) :
    Calls Try.prog 20 #[.slice A b.length cb, .agg (encC c).toArray] w (RetBE w (b ++ encM c) 0) := by
  have HB0 := Lib.hid (Bx.new w (encC c) 27)
  have X0 := Lib.hid ((Ext.refl w).alloc (.cells (encC c).toArray 27))
  have hM := (encM_len hp h64).1
  have kB := Lib.hid (rBytesC c h64 hp)
  obtain ⟨M, hM2⟩ : ∃ M, encM c = M := ⟨_, rfl⟩
  rw [hM2] at kB hM ⊢
  clear hM2
  replace h := Lib.hid h
  go_enter Try.func20, Try.ntmps20
  go_wp2_with (first | (refine load_box rfl 27 _ rfl _ rfl _ _ HB0.out _ Try.underlying27 rfl sizeC ?_))
  refine (rCheckC c h64 _).mono ?_
  rintro e1 w1 ⟨rfl, x1⟩
  have HB1 := Lib.hid ((HB0.out.ext x1).drewN 1); have X1 := Lib.hid ((X0.out.trans x1).drewN 1); have B1 := Lib.hid ((h.out.ext (X0.out.trans x1)).drewN 1)
  rw [hp]
  clear hp x1 X0 HB0 h h64
  go_wp2_with fail
  refine held_start (S := fun W => Bx W w.heap.size (encC c) 27) 8 rfl (by kernel_rfl) ?_
  refine held_move (i := 1) rfl (by kernel_rfl) (by kernel_rfl) (by kernel_rfl) _ rfl rfl HB1.out _ (by simp [Act.put]; rfl) ?_
  refine held_boxV (i := 3) rfl (by kernel_rfl) (by kernel_rfl) (by kernel_rfl) rfl 27 _ rfl _ rfl (encC c) 27 (fun w h => h) _ Try.underlying27 rfl sizeC HB1.out _ (by simp [Act.put]; rfl) ?_
  refine held_all (i := 0) rfl (by kernel_rfl) rfl ?_
  obtain ⟨w2, hw2⟩ : ∃ W, W = w1.drewN 1 := ⟨_, rfl⟩
  have hw3 : { w1 with drawn := w1.drawn + 1 } = w2 := hw2.symm
  rw [hw3]
  rw [← hw2] at HB1 X1 B1
  clear hw2 hw3
  go_wp2_with fail
  have O0 : Hid ((w2.alloc (.cells #[] 5)).ownsRow w2.heap.size 5 1 (.slice (some ⟨w2.heap.size, 0, none⟩) 0 0) 0 (flat encB [])) := own_emptyG w2 w2.heap.size (Nat.le_refl _)
  have HB2 := Lib.hid (HB1.out.alloc (.cells #[] 5)); have X2 := Lib.hid ((Ext.refl w2).alloc (.cells #[] 5)); have B2 := Lib.hid (B1.out.alloc (.cells #[] 5))
  refine ⟨HB2.out, ?_⟩
  refine held_all (i := 2) rfl (by kernel_rfl) rfl ?_
  refine wp_appG elB w2 _ X2.out _ _ (by rfl) 0 _ [] b (by rfl) O0.out rfl A cb b.length (by rfl) rfl B2.out (by simp; omega) ?_
  intro A3 p3 w3 o3 x3 _ _
  rw [Nat.zero_add] at o3 ⊢
  rw [List.nil_append] at o3
  have HB3 := Lib.hid (HB1.out.ext x3); have O3 := Lib.hid o3; have X3 := Lib.hid x3
  clear o3 x3 B2 X2 HB2 O0
  refine ⟨HB3.out, ?_⟩
  refine held_all (i := 4) rfl (by kernel_rfl) rfl ?_
  go_wp2_with fail
  refine (kB.out _).mono ?_
  rintro e4 w4 ⟨A4, p4, rfl, r4, x4, _⟩
  have HB4 := Lib.hid (HB3.out.ext x4); have O4 := Lib.hid (own_below O3.out x4); have X4 := Lib.hid (X3.out.trans x4); have R4 := Lib.hid r4
  clear x4 r4 O3 X3 HB3
  refine ⟨HB4.out, ?_⟩
  refine held_all (i := 5) rfl (by kernel_rfl) rfl ?_
  refine wp_appG elB w2 _ X4.out _ _ (by rfl) b.length _ b M (by rfl) O4.out rfl A4 p4 M.length (by rfl) rfl R4.out (by omega) ?_
  intro A5 p5 w5 o5 x5 _ _
  have HB5 := Lib.hid (HB1.out.ext x5); have O5 := Lib.hid o5; have X5 := Lib.hid x5
  clear o5 x5
  refine ⟨HB5.out, ?_⟩
  refine held_assign (i := 6) rfl (by kernel_rfl) (by kernel_rfl) (by kernel_rfl) _ rfl rfl HB5.out _ (by simp [Act.put]; rfl) ?_
  refine held_assign (i := 7) rfl (by kernel_rfl) (by kernel_rfl) (by kernel_rfl) _ rfl rfl HB5.out _ (by simp [Act.put]; rfl) ?_
  refine held_done (by kernel_rfl) ?_ _
  go_wp2_with fail
  go_ret2
  have ho := O5.out
  rw [← List.length_append] at ho
  exact ⟨A5, p5, by rw [List.length_append]; rfl, Rw.own elB ho, X1.out.trans X5.out, own_base ho X1.out.size⟩

/-- The number that bytes begin with, and what is behind; 0, and nothing, if there is none. -/
def numN (b : List UInt8) : Nat := match dec b with | some (n, _) => n | none => 0
def numR (b : List UInt8) : List UInt8 := match dec b with | some (_, r) => r | none => []
def RetNum (w : World) (A0 : Option Addr) (n : Nat) (r : List UInt8) (e : Ending) (w' : World) : Prop := ∃ A cap, e = .returned (.tuple #[.int .i64 n, .slice A r.length cap]) ∧ Rb w' A r ∧ r.length ≤ cap ∧ cap ≤ 9223372036854775807 ∧ Ext w w' ∧ SameBlk A0 A
set_option maxRecDepth 100000 in
theorem rNum {w : World} {A : Option Addr} {b : List UInt8} (h : Rb w A b) (hb : b.length ≤ 100000000) (c : Nat) (hc : b.length ≤ c) (hc2 : c ≤ 9223372036854775807) :
    Calls Try.prog 60 #[.slice A b.length c] w (RetNum w A (numN b) (numR b)) := by
  have k := Lib.hid (rTake h hb c hc hc2)
  have e1 : ∀ n r, dec b = some (n, r) → numN b = n ∧ numR b = r := fun n r h => by unfold numN numR; rw [h]; exact ⟨rfl, rfl⟩
  have e0 : dec b = none → numN b = 0 ∧ numR b = [] := fun h => by unfold numN numR; rw [h]; exact ⟨rfl, rfl⟩
  replace e1 := Lib.hid e1; replace e0 := Lib.hid e0
  obtain ⟨N, hN⟩ : ∃ N, numN b = N := ⟨_, rfl⟩
  obtain ⟨R, hR⟩ : ∃ R, numR b = R := ⟨_, rfl⟩
  rw [hN, hR] at e0
  rw [hN, hR]
  simp only [hN, hR] at e1
  replace hN := Lib.hid hN; replace hR := Lib.hid hR
  go_enter Try.func60, Try.ntmps60
  go_wp2_with fail
  refine k.out.mono ?_
  rintro e w1 ⟨x1, hres⟩
  cases hd : dec b with
  | none =>
    rw [hd] at hres
    simp only at hres
    subst hres
    obtain ⟨rfl, rfl⟩ := e0.out hd
    clear hd
    go_wp2_with fail
    go_ret2
    exact ⟨none, 0, rfl, Rw.nil, Nat.le_refl _, by omega, x1, fun a h => by cases h⟩
  | some q =>
    obtain ⟨n, r⟩ := q
    rw [hd] at hres
    simp only at hres
    obtain ⟨A2, c2, rfl, h1, h2, h3, h4⟩ := hres
    obtain ⟨rfl, rfl⟩ := e1.out n r hd
    clear hd
    go_wp2_with fail
    go_ret2
    exact ⟨A2, c2, rfl, h1, h2, by omega, x1, h4⟩
end Go.Proofs.Ytmbjbbflhlndcaa
