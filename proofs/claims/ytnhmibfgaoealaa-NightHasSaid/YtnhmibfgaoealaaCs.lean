/-
  Words of layer 7: numbers from one to another one, ratios, ways, elements, tiers.
-/
import Derived.Test.YtnhmibfgaoealaaCi
import Derived.Test.YtnhmibfgaoealaaCg
namespace Go.Proofs.Ytnhmibfgaoealaa
open Go.RowKit
set_option linter.unusedVariables false
set_option linter.unusedSimpArgs false

theorem Bx.new_at (w : World) (cs : List Value) (t : TypeId) (g : Nat) (hg : g = w.heap.size) : Bx (w.alloc (.cells cs.toArray t)) g cs t := by subst hg; exact Bx.new w cs t

theorem Rn.new_at (w : World) (l : List Int) (t : TypeId) (g : Nat) (hg : g = w.heap.size) : Rn (w.alloc (.cells (flat encN l).toArray t)) (some ⟨g, 0, none⟩) l := by subst hg; exact Rn.new w l t
theorem Rs.new_g (w : World) (l : List Sp.S) (t : TypeId) (g : Nat) (hg : g = w.heap.size) : Rs (w.alloc (.cells (flat encS l).toArray t)) (some ⟨g, 0, none⟩) l := by subst hg; exact Rs.new w l t
theorem within1 (lo hi x : Int) (B1 B2 : Nat) (W : World) (c1 : W.cell? ⟨B1, 0, none⟩ = some (.int .i64 lo)) (c2 : W.cell? ⟨B2, 0, none⟩ = some (.int .i64 hi)) :
    Calls Try.prog 143 #[.int .i64 x, .pointer (some ⟨B1, 0, none⟩), .pointer (some ⟨B2, 0, none⟩)] W (RetB W (!okIn lo hi x)) := by
  by_cases h : x < lo
  · have e : (!okIn lo hi x) = true := by
      have : okIn lo hi x = false := decide_eq_false (by omega)
      rw [this]; rfl
    rw [e]
    go_enter Try.func143, Try.ntmps143
    go_wp2
    go_ret
    exact ⟨rfl, Ext.refl _⟩
  · have e : (!okIn lo hi x) = decide (hi < x) := by
      by_cases h2 : hi < x
      · rw [decide_eq_true h2, show okIn lo hi x = false from decide_eq_false (by omega)]; rfl
      · rw [decide_eq_false h2, show okIn lo hi x = true from decide_eq_true (by omega)]; rfl
    rw [e]
    have f1 : decide (x < lo) = false := decide_eq_false h
    go_enter Try.func143, Try.ntmps143
    go_wp2
    go_ret
    exact ⟨rfl, Ext.refl _⟩

set_option maxRecDepth 100000 in
theorem pAll {w : World} {A : Option Addr} {l : List Int} (h : Rn w A l) (hl : l.length ≤ 9223372036854775806) (cap : Nat) (lo hi : Int) :
    Calls Try.prog 119 #[.int .i64 lo, .int .i64 hi, .slice A l.length cap] w (RetB w (l.all (okIn lo hi))) := by
  replace h := Lib.hid h
  go_enter Try.func119, Try.ntmps119
  go_wp2_with fail
  refine (cont_int l (atB (fun x => !okIn lo hi x) l) 143 #[.pointer (some ⟨w.heap.size, 0, none⟩), .pointer (some ⟨w.heap.size + 1, 0, none⟩)] (enters_of Try.func143 (by kernel_rfl) rfl)
    (fun _ W => Ext ((w.alloc (.cells #[.int .i64 lo] 3)).alloc (.cells #[.int .i64 hi] 3)) W) A cap _ hl (fun j W k => ((h.out.alloc _).alloc _).ext k) (fun j W x hx k => ?_) (Ext.refl _)).mono ?_
  · rw [atB_at hx]
    refine (within1 lo hi x _ _ W ((((Bx.new w [.int .i64 lo] 3).alloc _).ext k).cell 0 _ rfl) (((Bx.new_at (w.alloc (.cells #[.int .i64 lo] 3)) [.int .i64 hi] 3 (w.heap.size + 1) (by simp)).ext k).cell 0 _ rfl)).mono ?_
    exact fun _ _ ⟨e, x⟩ => ⟨e, k.trans x⟩
  · rintro e w' ⟨⟨b, rfl, hb⟩, j, X⟩
    have hq := none_of hb
    rw [← hq]
    go_wp2
    go_ret
    exact ⟨rfl, (((Ext.refl _).alloc _).alloc _).trans X⟩

set_option maxRecDepth 100000 in
theorem share1 (x : Int × Int) (b1 : B64 x.1) (b2 : B64 x.2) (W : World) : Calls Try.prog 146 #[.agg #[.int .i64 x.1, .int .i64 x.2]] W (RetB W (!okShare x)) := by
  obtain ⟨n, d⟩ := x
  obtain ⟨b1l, b1u⟩ := b1
  obtain ⟨b2l, b2u⟩ := b2
  replace b1l : -9223372036854775808 ≤ n := b1l
  replace b1u : n ≤ 9223372036854775807 := b1u
  replace b2u : d ≤ 9223372036854775807 := b2u
  show Calls Try.prog 146 #[.agg #[.int .i64 n, .int .i64 d]] W (RetB W (!okShare (n, d)))
  by_cases h : n < 0
  · have e : (!okShare (n, d)) = true := by
      have : okShare (n, d) = false := decide_eq_false (fun k => by have := k.1; omega)
      rw [this]; rfl
    rw [e]
    go_enter Try.func146, Try.ntmps146
    go_wp2
    go_ret
    exact ⟨rfl, (Ext.refl _).alloc _⟩
  · have f1 : decide (n < 0) = false := decide_eq_false h
    go_enter Try.func146, Try.ntmps146
    go_wp2_with fail
    refine (pRatio n d (by omega) b1u b2u _).mono ?_
    rintro e w1 ⟨rfl, x1⟩
    go_wp2
    go_ret
    exact ⟨rfl, ((Ext.refl _).alloc _).trans x1⟩

set_option maxRecDepth 100000 in
theorem pShares {w : World} {A : Option Addr} {l : List (Int × Int)} (h : Rd encS 2 w w.heap.size A l) (hl : l.length ≤ 9223372036854775806) (hb : ∀ x ∈ l, B64 x.1 ∧ B64 x.2) (cap : Nat) :
    Calls Try.prog 122 #[.slice A l.length cap] w (RetB w (l.all okShare)) := by
  replace h : Hid (Rs w A l) := h
  go_enter Try.func122, Try.ntmps122
  go_wp2_with fail
  refine (cont_ratio l (atB (fun x => !okShare x) l) 146 #[] (enters_of Try.func146 (by kernel_rfl) rfl)
    (fun _ W => Ext w W) A cap _ hl (fun j W k => h.out.ext k) (fun j W x hx k => ?_) (Ext.refl _)).mono ?_
  · rw [atB_at hx]
    exact (share1 x (hb x (List.mem_of_getElem? hx)).1 (hb x (List.mem_of_getElem? hx)).2 W).mono fun _ _ ⟨e, x⟩ => ⟨e, k.trans x⟩
  · rintro e w' ⟨⟨b, rfl, hb⟩, j, X⟩
    have hq := none_of hb
    rw [← hq]
    go_wp2
    go_ret
    exact ⟨rfl, X⟩

set_option maxRecDepth 100000 in
theorem way1 (p : Int) (p0 : 1 ≤ p) (p1 : p ≤ 16) (B : Nat) (x : Int × Int × Int) (W : World) (hp : W.cell? ⟨B, 0, none⟩ = some (.int .i64 p)) (hB : B < W.heap.size) :
    Calls Try.prog 118 #[.agg #[.int .i64 x.1, .int .i64 x.2.1, .int .i64 x.2.2], .pointer (some ⟨B, 0, none⟩)] W (RetB W (!okWay p x)) := by
  obtain ⟨a, b, m⟩ := x
  show Calls Try.prog 118 #[.agg #[.int .i64 a, .int .i64 b, .int .i64 m], .pointer (some ⟨B, 0, none⟩)] W (RetB W (!(okIn 0 (p - 1) a && okIn 0 (p - 1) b && decide (a ≠ b) && okIn 1 10000 m)))
  have k1 : ∀ (w : World) (g : Nat) (hg : g = w.heap.size), Calls Try.prog 119 #[.int .i64 0, .int .i64 (p - 1), .slice (some ⟨g, 0, none⟩) 2 2] (w.alloc (.cells #[.int .i64 a, .int .i64 b] 3)) (RetB _ _) := fun (w : World) (g : Nat) (hg : g = w.heap.size) => pAll (Rn.new_at w [a, b] 3 g hg) (by simp) 2 0 (p - 1)
  have k2 : ∀ (w : World) (g : Nat) (hg : g = w.heap.size), Calls Try.prog 119 #[.int .i64 1, .int .i64 10000, .slice (some ⟨g, 0, none⟩) 1 1] (w.alloc (.cells #[.int .i64 m] 3)) (RetB _ _) := fun (w : World) (g : Nat) (hg : g = w.heap.size) => pAll (Rn.new_at w [m] 3 g hg) (by simp) 1 1 10000
  have e1 : ([a, b] : List Int).all (okIn 0 (p - 1)) = (okIn 0 (p - 1) a && okIn 0 (p - 1) b) := by simp
  have e2 : ([m] : List Int).all (okIn 1 10000) = okIn 1 10000 m := by simp
  rw [← e1, ← e2]
  replace k1 := Lib.hid k1; replace k2 := Lib.hid k2
  clear e1 e2
  generalize hq1 : ([a, b] : List Int).all (okIn 0 (p - 1)) = q1 at k1 ⊢
  generalize hq2 : ([m] : List Int).all (okIn 1 10000) = q2 at k2 ⊢
  clear hq1 hq2
  have hne : B ≠ W.heap.size := by omega
  go_enter Try.func118, Try.ntmps118
  go_wp2_with fail
  refine (k1.out _ _ (by simp)).mono ?_
  rintro e w1 ⟨rfl, x1⟩
  have hb := ((Bx.new W [.int .i64 a, .int .i64 b, .int .i64 m] 115).alloc _).ext x1
  have c0 := hb.cell 0 _ rfl
  have c1 := hb.cell 1 _ rfl
  have c2 := hb.cell 2 _ rfl
  have X := (((Ext.refl W).alloc (.cells #[.int .i64 a, .int .i64 b, .int .i64 m] 115)).alloc _).trans x1
  cases q1
  · go_wp2
    go_ret
    exact ⟨rfl, X⟩
  · by_cases hab : a = b
    · have f1 : (a == b) = true := by simp [hab]
      go_wp2
      go_ret
      exact ⟨by simp [hab], X⟩
    · have f1 : (a == b) = false := by simp [hab]
      go_wp2_with fail
      refine (k2.out _ _ (by simp)).mono ?_
      rintro e w2 ⟨rfl, x2⟩
      go_wp2
      go_ret
      exact ⟨by simp [hab], (X.alloc _).trans x2⟩

set_option maxRecDepth 100000 in
theorem elem1 (x : (Int × Int) × (Int × Int)) (b1 : B64 x.1.1 ∧ B64 x.1.2) (b2 : B64 x.2.1 ∧ B64 x.2.2) (W : World) :
    Calls Try.prog 121 #[.agg #[.int .i64 x.1.1, .int .i64 x.1.2, .int .i64 x.2.1, .int .i64 x.2.2]] W (RetB W (!okEl x)) := by
  have k1 : ∀ (w : World) (g : Nat) (hg : g = w.heap.size), Calls Try.prog 122 #[.slice (some ⟨g, 0, none⟩) 2 2] (w.alloc (.cells #[.int .i64 x.1.1, .int .i64 x.1.2, .int .i64 x.2.1, .int .i64 x.2.2] 29)) (RetB _ _) := fun (w : World) (g : Nat) (hg : g = w.heap.size) => pShares (Rs.new_g w [x.1, x.2] 29 g hg) (by simp) (by intro y hy; simp at hy; rcases hy with rfl | rfl; exact b1; exact b2) 2
  have e1 : ([x.1, x.2] : List (Int × Int)).all okShare = okEl x := by simp [okEl]
  rw [← e1]
  generalize ([x.1, x.2] : List (Int × Int)).all okShare = q1 at k1 ⊢
  replace k1 := Lib.hid k1
  clear e1 b1 b2
  go_enter Try.func121, Try.ntmps121
  go_wp2_with fail
  refine (k1.out _ _ (by simp)).mono ?_
  rintro e w1 ⟨rfl, x1⟩
  go_wp2
  go_ret
  exact ⟨rfl, (((Ext.refl W).alloc _).alloc _).trans x1⟩

set_option maxRecDepth 100000 in
theorem tier1 (last : Int) (B : Nat) (t : Int × Int) (W : World) (hb : Bx W B [.int .i64 last] 3) :
    Calls Try.prog 124 #[.agg #[.int .i64 t.1, .int .i64 t.2], .pointer (some ⟨B, 0, none⟩)] W fun e w' => e = .returned (.bool (!okTier last t)) ∧ Bx w' B [.int .i64 t.1] 3 ∧ Below B W w' := by
  obtain ⟨n, m⟩ := t
  have hB := hb.lt
  have hne : B ≠ W.heap.size := by omega
  have c0 := hb.cell 0 _ rfl
  have z0 := hb.frozen 0
  replace hb := Lib.hid hb
  show Calls Try.prog 124 #[.agg #[.int .i64 n, .int .i64 m], .pointer (some ⟨B, 0, none⟩)] W fun e w' => e = .returned (.bool (!(decide (last < n ∧ n ≤ 1000) && okIn 0 100000 m))) ∧ Bx w' B [.int .i64 n] 3 ∧ Below B W w'
  by_cases h1 : n ≤ last
  · have f0 : decide (last < n ∧ n ≤ 1000) = false := decide_eq_false (by omega)
    go_enter Try.func124, Try.ntmps124
    go_wp2
    go_ret
    exact ⟨by first | rfl | (rw [f0]; rfl) | (rw [decide_eq_false (show ¬ n ≤ 1000 by omega)]; rfl), (hb.out.set_ 0 _).alloc _, ((Below.refl B W).setCell (p := ⟨B, 0, none⟩) (Nat.le_refl _) _).alloc (by simp; omega) _⟩
  · have f1 : decide (n ≤ last) = false := decide_eq_false h1
    by_cases h2 : 1000 < n
    · have f0 : decide (last < n ∧ n ≤ 1000) = false := decide_eq_false (by omega)
      go_enter Try.func124, Try.ntmps124
      go_wp2
      go_ret
      exact ⟨by first | rfl | (rw [f0]; rfl) | (rw [decide_eq_false (show ¬ n ≤ 1000 by omega)]; rfl), (hb.out.set_ 0 _).alloc _, ((Below.refl B W).setCell (p := ⟨B, 0, none⟩) (Nat.le_refl _) _).alloc (by simp; omega) _⟩
    · have f2 : decide (1000 < n) = false := decide_eq_false h2
      have f0 : decide (last < n ∧ n ≤ 1000) = true := decide_eq_true (by omega)
      have k2 : ∀ (w : World) (g : Nat) (hg : g = w.heap.size), Calls Try.prog 119 #[.int .i64 0, .int .i64 100000, .slice (some ⟨g, 0, none⟩) 1 1] (w.alloc (.cells #[.int .i64 m] 3)) (RetB _ _) := fun (w : World) (g : Nat) (hg : g = w.heap.size) => pAll (Rn.new_at w [m] 3 g hg) (by simp) 1 0 100000
      have e2 : ([m] : List Int).all (okIn 0 100000) = okIn 0 100000 m := by simp
      rw [← e2]; clear e2
      generalize ([m] : List Int).all (okIn 0 100000) = q2 at k2 ⊢
      replace k2 := Lib.hid k2
      go_enter Try.func124, Try.ntmps124
      go_wp2_with fail
      refine (k2.out _ _ (by simp)).mono ?_
      rintro e w1 ⟨rfl, x1⟩
      have hb1 := ((hb.out.alloc (.cells #[.int .i64 n, .int .i64 m] 125)).alloc _).ext x1
      have c1 := hb1.cell 0 _ rfl
      have z1 := hb1.frozen 0
      have hd := ((Bx.new W [.int .i64 n, .int .i64 m] 125).alloc _).ext x1
      have d0 := hd.cell 0 _ rfl
      have X := (((Below.refl B W).alloc (by omega) (.cells #[.int .i64 n, .int .i64 m] 125)).alloc (by simp; omega) _).trans (Below.mono x1 (by simp; omega))
      replace hb1 := Lib.hid hb1
      clear hd
      go_wp2
      go_ret
      exact ⟨by first | rfl | (rw [f0]; rfl), hb1.out.set_ 0 _, X.setCell (p := ⟨B, 0, none⟩) (Nat.le_refl _) _⟩
end Go.Proofs.Ytnhmibfgaoealaa
