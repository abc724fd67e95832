/-
  slices.rotateCmpFunc on a row of events.
-/
import Derived.Test.YtmbjbbflhlndcaaLf2
namespace Go.Proofs.Ytmbjbbflhlndcaa
open Go.RowKit BigFrame
set_option linter.unusedVariables false
set_option linter.unusedSimpArgs false

/-- Two stretches of like length, exchanged. -/
theorem swapRange {w0 w : World} {g cap : Nat} {A X B Y C : List Ev} (h : Own w0 w g cap (A ++ (X ++ (B ++ (Y ++ C))))) (f : Value) (a b n : Nat) (hl : (A ++ (X ++ (B ++ (Y ++ C)))).length ≤ 1000000) (ha : a = A.length) (hb : b = A.length + X.length + B.length) (hX : X.length = n) (hY : Y.length = n) :
    Calls Try.prog 124 #[.slice (some ⟨g, 0, none⟩) (A ++ (X ++ (B ++ (Y ++ C)))).length cap, .int .i64 a, .int .i64 b, .int .i64 n, f] w fun e w' => e = .returned (.tuple #[]) ∧ Own w0 w' g cap (A ++ (Y ++ (B ++ (X ++ C)))) := by
  refine (swapRange0 h f a b n hl (by omega) (by simp only [List.length_append]; omega)).mono ?_
  rintro e w' ⟨rfl, L', HO, hL, hE⟩
  refine ⟨rfl, ?_⟩
  have e : L' = A ++ (Y ++ (B ++ (X ++ C))) := by
    apply List.ext_getElem?
    intro t
    rw [hE t]
    subst ha hb hX
    by_cases h1 : t < A.length
    · rw [if_neg (by omega), if_neg (by omega), List.getElem?_append_left h1, List.getElem?_append_left h1]
    obtain ⟨t, rfl⟩ : ∃ s, t = A.length + s := ⟨t - A.length, by omega⟩
    have r : ∀ (l : List Ev) (s : Nat), (A ++ l)[A.length + s]? = l[s]? := fun l s => by rw [List.getElem?_append_right (by omega)]; congr 1; omega
    have r2 : ∀ (D l : List Ev) (s : Nat) (m : Nat), D.length = m → (D ++ l)[m + s]? = l[s]? := fun D l s m hm => by subst hm; rw [List.getElem?_append_right (by omega)]; congr 1; omega
    by_cases h2 : t < X.length
    · rw [if_pos (by omega), show A.length + t - A.length + (A.length + X.length + B.length) = A.length + (X.length + (B.length + t)) by omega, r, r, r2 _ _ _ _ rfl, r2 _ _ _ _ rfl, List.getElem?_append_left (by omega), List.getElem?_append_left (by omega)]
    obtain ⟨t, rfl⟩ : ∃ s, t = X.length + s := ⟨t - X.length, by omega⟩
    by_cases h3 : t < B.length
    · rw [if_neg (by omega), if_neg (by omega), r, r, r2 _ _ _ _ rfl, r2 _ _ _ _ hY, List.getElem?_append_left h3, List.getElem?_append_left h3]
    obtain ⟨t, rfl⟩ : ∃ s, t = B.length + s := ⟨t - B.length, by omega⟩
    by_cases h4 : t < X.length
    · rw [if_neg (by omega), if_pos (by omega), show A.length + (X.length + (B.length + t)) - (A.length + X.length + B.length) + A.length = A.length + t by omega, r, r, r2 _ _ _ _ hY, r2 _ _ _ _ rfl, List.getElem?_append_left (by omega), List.getElem?_append_left (by omega)]
    obtain ⟨t, rfl⟩ : ∃ s, t = X.length + s := ⟨t - X.length, by omega⟩
    rw [if_neg (by omega), if_neg (by omega), r, r, r2 _ _ _ _ rfl, r2 _ _ _ _ hY, r2 _ _ _ _ rfl, r2 _ _ _ _ rfl, r2 _ _ _ _ hY, r2 _ _ _ _ rfl]
  rw [← e]; exact HO

/-- What rotate has in hand: the stretches x and y lie side by side about m. -/
structure Rot (u v : List Ev) (m i j : Nat) (p : Nat) (F1 x y F2 : List Ev) : Prop where
  hx : x.length = i
  hy : y.length = j
  hm : p + F1.length + i = m
  i1 : 1 ≤ i
  j1 : 1 ≤ j
  goal : F1 ++ (y ++ (x ++ F2)) = v ++ u

set_option maxRecDepth 100000 in
set_option maxHeartbeats 2000000 in
theorem rotate0 {w0 w : World} {g cap : Nat} {P u v S : List Ev} (h : Own w0 w g cap (P ++ (u ++ (v ++ S)))) (f : Value) (a m b N : Nat) (hN : (P ++ (u ++ (v ++ S))).length = N) (hl : N ≤ 1000000) (ha : a = P.length) (hm : m = P.length + u.length) (hb : b = P.length + u.length + v.length) (hu : 1 ≤ u.length) (hv : 1 ≤ v.length) :
    Calls Try.prog 118 #[.slice (some ⟨g, 0, none⟩) N cap, .int .i64 a, .int .i64 m, .int .i64 b, f] w fun e w' => e = .returned (.tuple #[]) ∧ Own w0 w' g cap (P ++ (v ++ (u ++ S))) := by
  have hbN : b ≤ N := by rw [← hN]; simp only [List.length_append]; omega
  have ham : a < m := by omega
  have hmb : m < b := by omega
  have hst : Hid (∃ F1 x y F2, Rot u v m (m - a) (b - m) P.length F1 x y F2 ∧ Own w0 w g cap (P ++ (F1 ++ (x ++ (y ++ (F2 ++ S)))))) := ⟨[], u, v, [], ⟨by omega, by omega, by simp; omega, by omega, by omega, by simp⟩, h⟩
  have hend : Hid (∀ w' F1 x y F2, F1 ++ (y ++ (x ++ F2)) = v ++ u → Own w0 w' g cap (P ++ (F1 ++ (y ++ (x ++ (F2 ++ S))))) → Own w0 w' g cap (P ++ (v ++ (u ++ S)))) := fun w' F1 x y F2 hg ho => by
    have : P ++ (v ++ (u ++ S)) = P ++ (F1 ++ (y ++ (x ++ (F2 ++ S)))) := by
      rw [← List.append_assoc v, ← hg]; simp
    rw [this]; exact ho
  have hNN : Hid (∀ F1 x y F2, F1 ++ (y ++ (x ++ F2)) = v ++ u → (P ++ (F1 ++ (x ++ (y ++ (F2 ++ S))))).length = N) := fun F1 x y F2 hg => by
    have := congrArg List.length hg
    rw [← hN]
    simp only [List.length_append] at this ⊢
    omega
  replace ha := Lib.hid ha
  clear h hN hm hb hu hv
  go_enter Try.func118, Try.ntmps118
  go_wp2_with fail
  go_loopw [10, 11] (fun vi vj wr => ∃ (i j : Nat), vi = .int .i64 i ∧ vj = .int .i64 j ∧ i ≤ m ∧ m + j ≤ b ∧ 1 ≤ i ∧ 1 ≤ j ∧ Hid (∃ F1 x y F2, Rot u v m i j P.length F1 x y F2 ∧ Own w0 wr g cap (P ++ (F1 ++ (x ++ (y ++ (F2 ++ S))))))) (fun vi vj _ => (intOf vi).toNat + (intOf vj).toNat)
  case atStart => exact ⟨m - a, b - m, by congr 1; omega, by congr 1; omega, by omega, by omega, by omega, by omega, hst.out⟩
  case round =>
    obtain ⟨i, j, rfl, rfl, him, hjb, hi1, hj1, HI⟩ := hrel
    rcases Nat.lt_trichotomy i j with hij | hij | hij
    · have q1 : ¬ ((i : Int) = (j : Int)) := by omega
      have q2 : ¬ ((j : Int) < (i : Int)) := by omega
      obtain ⟨F1, x, y, F2, R, HO⟩ := HI.out
      have k := swapRange (A := P ++ F1) (X := x) (B := y.take (j - i)) (Y := y.drop (j - i)) (C := F2 ++ S) (w0 := w0) (w := wr) (g := g) (cap := cap) (by simpa [← List.append_assoc (y.take (j - i)), List.take_append_drop] using HO) f (m - i) (m + j - i) i
      have hlen : (P ++ F1 ++ (x ++ (y.take (j - i) ++ (y.drop (j - i) ++ (F2 ++ S))))).length = N := by
        rw [← hNN.out F1 x y F2 R.goal]
        have : y.take (j - i) ++ (y.drop (j - i) ++ (F2 ++ S)) = y ++ (F2 ++ S) := by rw [← List.append_assoc, List.take_append_drop]
        rw [this]; simp
      have hyl := R.hy
      have hxl := R.hx
      have hml := R.hm
      rw [hlen] at k
      have k := k hl (by simp only [List.length_append]; omega) (by simp only [List.length_append, List.length_take]; omega) hxl (by rw [List.length_drop]; omega)
      have HI2 : Hid (∀ w', Own w0 w' g cap (P ++ F1 ++ (y.drop (j - i) ++ (y.take (j - i) ++ (x ++ (F2 ++ S))))) → ∃ F1' x' y' F2', Rot u v m i (j - i) P.length F1' x' y' F2' ∧ Own w0 w' g cap (P ++ (F1' ++ (x' ++ (y' ++ (F2' ++ S)))))) := fun w' ho =>
        ⟨F1, y.drop (j - i), y.take (j - i), x ++ F2, ⟨by rw [List.length_drop]; omega, by rw [List.length_take]; omega, hml, hi1, by omega, by rw [← R.goal, ← List.append_assoc (y.take (j - i)), List.take_append_drop]⟩, by simpa using ho⟩
      replace HI2 := Lib.hid HI2
      have e1 : ((m - i : Nat) : Int) = (m : Int) - (i : Int) := by omega
      have e2 : ((m + j - i : Nat) : Int) = (m : Int) + (j : Int) - (i : Int) := by omega
      rw [e1, e2] at k
      replace k := Lib.hid k
      clear hlen hyl hxl hml e1 e2 R HO HI
      go_wp2_with fail
      refine k.out.mono ?_
      rintro e w' ⟨rfl, HO⟩
      have HI3 := Lib.hid (HI2.out w' HO)
      clear HO HI2 k
      go_wp2_with fail
      exact ⟨⟨i, j - i, rfl, by congr 1; omega, him, by omega, hi1, by omega, HI3⟩, by simp [intOf]; omega⟩
    · subst hij
      obtain ⟨F1, x, y, F2, R, HO⟩ := HI.out
      have k := swapRange (A := P ++ F1) (X := x) (B := []) (Y := y) (C := F2 ++ S) (w0 := w0) (w := wr) (g := g) (cap := cap) (by simpa using HO) f (m - i) m i
      have hlen : (P ++ F1 ++ (x ++ ([] ++ (y ++ (F2 ++ S))))).length = N := by
        rw [← hNN.out F1 x y F2 R.goal]
        simp
      have hyl := R.hy
      have hxl := R.hx
      have hml := R.hm
      rw [hlen] at k
      have k := k hl (by simp only [List.length_append]; omega) (by simp only [List.length_append, List.length_nil]; omega) hxl hyl
      have HI2 : Hid (∀ w', Own w0 w' g cap (P ++ F1 ++ (y ++ ([] ++ (x ++ (F2 ++ S))))) → Own w0 w' g cap (P ++ (v ++ (u ++ S)))) := fun w' ho => hend.out w' F1 x y F2 R.goal (by simpa using ho)
      replace HI2 := Lib.hid HI2
      have e1 : ((m - i : Nat) : Int) = (m : Int) - (i : Int) := by omega
      rw [e1] at k
      replace k := Lib.hid k
      clear hlen hyl hxl hml e1 R HO HI
      go_wp2_with fail
      refine k.out.mono ?_
      rintro e w' ⟨rfl, HO⟩
      have HI3 := Lib.hid (HI2.out w' HO)
      clear HO HI2 k
      go_wp2_with fail
      go_end0
      exact ⟨rfl, HI3.out⟩
    · have q1 : ¬ ((i : Int) = (j : Int)) := by omega
      have q2 : (j : Int) < (i : Int) := by omega
      obtain ⟨F1, x, y, F2, R, HO⟩ := HI.out
      have k := swapRange (A := P ++ F1) (X := x.take j) (B := x.drop j) (Y := y) (C := F2 ++ S) (w0 := w0) (w := wr) (g := g) (cap := cap) (by simpa [← List.append_assoc (x.take j), List.take_append_drop] using HO) f (m - i) m j
      have hlen : (P ++ F1 ++ (x.take j ++ (x.drop j ++ (y ++ (F2 ++ S))))).length = N := by
        rw [← hNN.out F1 x y F2 R.goal]
        have : x.take j ++ (x.drop j ++ (y ++ (F2 ++ S))) = x ++ (y ++ (F2 ++ S)) := by rw [← List.append_assoc, List.take_append_drop]
        rw [this]; simp
      have hyl := R.hy
      have hxl := R.hx
      have hml := R.hm
      rw [hlen] at k
      have k := k hl (by simp only [List.length_append]; omega) (by simp only [List.length_append, List.length_take, List.length_drop]; omega) (by rw [List.length_take]; omega) hyl
      have HI2 : Hid (∀ w', Own w0 w' g cap (P ++ F1 ++ (y ++ (x.drop j ++ (x.take j ++ (F2 ++ S))))) → ∃ F1' x' y' F2', Rot u v m (i - j) j P.length F1' x' y' F2' ∧ Own w0 w' g cap (P ++ (F1' ++ (x' ++ (y' ++ (F2' ++ S)))))) := fun w' ho =>
        ⟨F1 ++ y, x.drop j, x.take j, F2, ⟨by rw [List.length_drop]; omega, by rw [List.length_take]; omega, by rw [List.length_append]; omega, by omega, hj1, by rw [← R.goal, ← List.append_assoc (x.take j), List.take_append_drop, List.append_assoc]⟩, by simpa using ho⟩
      replace HI2 := Lib.hid HI2
      have e1 : ((m - i : Nat) : Int) = (m : Int) - (i : Int) := by omega
      rw [e1] at k
      replace k := Lib.hid k
      clear hlen hyl hxl hml e1 R HO HI
      go_wp2_with fail
      refine k.out.mono ?_
      rintro e w' ⟨rfl, HO⟩
      have HI3 := Lib.hid (HI2.out w' HO)
      clear HO HI2 k
      go_wp2_with fail
      exact ⟨⟨i - j, j, by congr 1; omega, rfl, by omega, hjb, by omega, hj1, HI3⟩, by simp [intOf]; omega⟩
end Go.Proofs.Ytmbjbbflhlndcaa
