/-
  slices.stableCmpFunc, SortStableFunc, Clone on a row of events; event.Sort.
-/
import Derived.Test.YtmbjbbflhlndcaaLn2
namespace Go.Proofs.Ytmbjbbflhlndcaa
open Go.RowKit BigFrame Go.Sort
set_option linter.unusedVariables false
set_option linter.unusedSimpArgs false

namespace Stb
section
variable {α : Type} {lt : α → α → Bool}
/-- Sorted stretches of s, none left over. -/
inductive Full (lt : α → α → Bool) (s : Nat) : List α → Prop
  | nil : Full lt s []
  | snoc {D U : List α} : Full lt s D → U.length = s → Sorted lt U → Full lt s (D ++ U)
/-- Sorted stretches of s, the last one no longer. -/
inductive Runs (lt : α → α → Bool) (s : Nat) : List α → Prop
  | last {L : List α} : L.length ≤ s → Sorted lt L → Runs lt s L
  | cons {U L : List α} : U.length = s → Sorted lt U → Runs lt s L → Runs lt s (U ++ L)
theorem Full.app {s : Nat} {D : List α} (h : Full lt s D) : ∀ {R : List α}, Runs lt s R → Runs lt s (D ++ R) := by
  induction h with
  | nil => intro R h; exact h
  | snoc hD hU sU ih => intro R h; rw [List.append_assoc]; exact ih (.cons hU sU h)
theorem Runs.two {s : Nat} (hs : 0 < s) {R : List α} (h : Runs lt s R) (hl : 2 * s ≤ R.length) : ∃ U V S, R = U ++ (V ++ S) ∧ U.length = s ∧ V.length = s ∧ Sorted lt U ∧ Sorted lt V ∧ Runs lt s S := by
  cases h with
  | last h1 h2 => omega
  | @cons U L hU sU hL =>
    rw [List.length_append] at hl
    cases hL with
    | last h1 h2 => exact ⟨U, L, [], by simp, hU, by omega, sU, h2, .last (by simp) .nil⟩
    | @cons V S hV sV hS => exact ⟨U, V, S, rfl, hU, hV, sU, sV, hS⟩
theorem Runs.one {s : Nat} (hs : 0 < s) {R : List α} (h : Runs lt s R) (hl : s < R.length) (hl2 : R.length < 2 * s) : ∃ U V, R = U ++ V ∧ U.length = s ∧ 1 ≤ V.length ∧ Sorted lt U ∧ Sorted lt V := by
  cases h with
  | last h1 h2 => omega
  | @cons U L hU sU hL =>
    rw [List.length_append] at hl hl2
    cases hL with
    | last h1 h2 => exact ⟨U, L, rfl, hU, by omega, sU, h2⟩
    | @cons V S hV sV hS => rw [List.length_append] at hl2; omega
theorem Runs.none {s : Nat} (hs : 0 < s) {R : List α} (h : Runs lt s R) (hl : R.length ≤ s) : Sorted lt R := by
  cases h with
  | last h1 h2 => exact h2
  | @cons U L hU sU hL =>
    rw [List.length_append] at hl
    have : L = [] := List.eq_nil_of_length_eq_zero (by omega)
    subst this
    simpa using sU
end
end Stb

set_option maxRecDepth 100000 in
set_option maxHeartbeats 4000000 in
theorem pStable {w0 w : World} {g cap : Nat} {L : List Ev} (h : Own w0 w g cap L) (n : Nat) (hn : L.length = n) (hl : n ≤ 1000000) :
    Calls Try.prog 91 #[.slice (some ⟨g, 0, none⟩) n cap, .int .i64 n, .func (.func 71) #[] #[]] w fun e w' => e = .returned (.tuple #[]) ∧ ∃ T, Own w0 w' g cap T ∧ T.length = n ∧ Stb.Sorted lessE T ∧ Stb.Stab lessE L T := by
  replace h := Lib.hid h
  replace hn := Lib.hid hn
  go_enter Try.func91, Try.ntmps91
  go_wp2_with fail
  go_loopw [7, 8] (fun va vb wr => ∃ (a b : Nat) (D R : List Ev), va = .int .i64 a ∧ vb = .int .i64 b ∧ b = a + 20 ∧ Hid (D.length = a) ∧ Hid (D.length + R.length = n) ∧ Hid (Stb.Full lessE 20 D) ∧ Hid (Stb.Stab lessE L (D ++ R)) ∧ Hid (Own w0 wr g cap (D ++ R)) ∧ a ≤ n) (fun va vb _ => n + 20 - (intOf vb).toNat)
  case atStart => exact ⟨0, 20, [], L, rfl, rfl, rfl, rfl, by show _ = _; have := hn.out; simpa using this, .nil, Stb.Stab.refl _, h.out, Nat.zero_le _⟩
  case round =>
    obtain ⟨a, b, D, R, rfl, rfl, hab, hD, hDR, HF, HS, HO, han⟩ := hrel
    have hab' := Lib.hid hab
    by_cases hbn : b ≤ n
    · have q1 : (b : Int) ≤ (n : Int) := by omega
      obtain ⟨U, S, hU, hUl⟩ : ∃ U S, R = U ++ S ∧ U.length = 20 := ⟨R.take 20, R.drop 20, by rw [List.take_append_drop], by have := hD.out; have := hDR.out; rw [List.length_take]; omega⟩
      subst hU
      have k := Lib.hid (pInsertion (P := D) (U := U) (S := S) HO.out a b n (by have := hDR.out; rw [List.length_append]; exact this) hl hD.out.symm (by have := hD.out; omega) (by omega))
      clear hab
      go_wp2_with fail
      refine k.out.mono ?_
      rintro e w' ⟨rfl, T, ho, t1, t2, t3⟩
      have hab := hab'.out
      have ho2 : Hid (Own w0 w' g cap ((D ++ T) ++ S)) := by show Own _ _ _ _ _; simpa using ho
      have hs2 : Hid (Stb.Stab lessE L ((D ++ T) ++ S)) := by
        refine HS.out.trans ?_
        have := (Stb.Stab.refl (lt := lessE) D).app (t3.app (Stb.Stab.refl (lt := lessE) S))
        simpa using this
      have hf2 : Hid (Stb.Full lessE 20 (D ++ T)) := .snoc HF.out (by omega) t2
      have hd2 : Hid ((D ++ T).length = b) := by show _ = _; have := hD.out; rw [List.length_append]; omega
      have hdr2 : Hid ((D ++ T).length + S.length = n) := by show _ = _; have := hDR.out; rw [List.length_append] at this ⊢; omega
      clear k ho t1 t2 t3 HO HS HF hab
      go_wp2_with fail
      have hab := hab'.out
      exact ⟨⟨b, b + 20, D ++ T, S, rfl, by congr 1, rfl, hd2, hdr2, hf2, hs2, ho2, by omega⟩, by simp [intOf]; omega⟩
    · have q1 : ¬ ((b : Int) ≤ (n : Int)) := by omega
      -- the rest
      have RST : Hid (Calls Try.prog 103 #[.slice (some ⟨g, 0, none⟩) n cap, .int .i64 a, .int .i64 n, .func (.func 71) #[] #[]] wr fun e w' => e = .returned (.tuple #[]) ∧ ∃ T, Own w0 w' g cap T ∧ T.length = n ∧ Stb.Runs lessE 20 T ∧ Stb.Stab lessE L T) := by
        by_cases hR : R = []
        · subst hR
          refine (insertion_nil 71 g cap a n n hl (by have := hD.out; have := hDR.out; simp at this; omega) (by omega) wr).mono ?_
          rintro e w' ⟨rfl, rfl⟩
          exact ⟨rfl, D ++ [], HO.out, by have := hDR.out; rw [List.length_append]; exact this, HF.out.app (.last (by simp) .nil), HS.out⟩
        · have hRl : 1 ≤ R.length := List.length_pos_iff.2 hR
          refine (pInsertion (P := D) (U := R) (S := []) (by rw [List.append_nil]; exact HO.out) a n n (by have := hDR.out; rw [List.append_nil, List.length_append]; exact this) hl hD.out.symm hDR.out.symm hRl).mono ?_
          rintro e w' ⟨rfl, T, ho, t1, t2, t3⟩
          rw [List.append_nil] at ho
          refine ⟨rfl, D ++ T, ho, by have := hDR.out; rw [List.length_append]; omega, HF.out.app (.last (by have := hDR.out; have := hD.out; omega) t2), HS.out.trans ((Stb.Stab.refl _).app t3)⟩
      clear HO HS HF hD hDR hab
      go_wp2_with fail
      refine RST.out.mono ?_
      rintro e w' ⟨rfl, T, ho, t1, t2, t3⟩
      have HO : Hid (∃ T, Own w0 w' g cap T ∧ T.length = n ∧ Stb.Runs lessE 20 T ∧ Stb.Stab lessE L T) := ⟨T, ho, t1, t2, t3⟩
      clear ho t1 t2 t3 RST
      go_wp2_with fail
      go_loopw [6] (fun vs wr => ∃ (s : Nat), vs = .int .i64 s ∧ 20 ≤ s ∧ s ≤ 2000000 ∧ Hid (∃ T, Own w0 wr g cap T ∧ T.length = n ∧ Stb.Runs lessE s T ∧ Stb.Stab lessE L T)) (fun vs _ => n - (intOf vs).toNat)
      case atStart => exact ⟨20, rfl, Nat.le_refl _, by omega, HO.out⟩
      case round =>
        clear HO T
        obtain ⟨s, rfl, h20, hs2, HT⟩ := hrel
        by_cases hsn : s < n
        · have q2 : (s : Int) < (n : Int) := by omega
          obtain ⟨T, ho, t1, t2, t3⟩ := HT.out
          have HT0 : Hid (∃ D R, D.length = 0 ∧ D.length + R.length = n ∧ Stb.Full lessE (2 * s) D ∧ Stb.Runs lessE s R ∧ Stb.Stab lessE L (D ++ R) ∧ Own w0 wr g cap (D ++ R)) := ⟨[], T, rfl, by simpa using t1, .nil, t2, t3, ho⟩
          clear ho t1 t2 t3 HT
          have hwS : IntKind.i64.wrap (2 * (s : Int)) = 2 * (s : Int) := by rw [IntKind.wrap_i64]; omega
          go_wp2_with fail
          go_loopw [7, 8] (fun va vb wr => ∃ (a b : Nat), va = .int .i64 a ∧ vb = .int .i64 b ∧ Hid (b = a + 2 * s) ∧ b ≤ 4000000 + n ∧ a ≤ n ∧ a < b ∧ Hid (∃ D R, D.length = a ∧ D.length + R.length = n ∧ Stb.Full lessE (2 * s) D ∧ Stb.Runs lessE s R ∧ Stb.Stab lessE L (D ++ R) ∧ Own w0 wr g cap (D ++ R))) (fun va vb _ => n + 1 - (intOf va).toNat)
          case atStart => exact ⟨0, 2 * s, rfl, by congr 1, by show _ = _; omega, by omega, Nat.zero_le _, by omega, HT0.out⟩
          case round =>
            clear HT0
            obtain ⟨a, b, rfl, rfl, hab, hb4, han, hab1, HD⟩ := hrel
            by_cases hbn : b ≤ n
            · have q1 : (b : Int) ≤ (n : Int) := by omega
              obtain ⟨D, R, d1, d2, d3, d4, d5, d6⟩ := HD.out
              obtain ⟨U, V, S, rfl, hU, hV, sU, sV, sS⟩ := d4.two (by omega) (by have := hab.out; omega)
              have lR := d2
              rw [List.length_append, List.length_append] at lR
              have k := pMerge (P := D) (U := U) (V := V) (S := S) d6 a (a + s) b n (by rw [List.length_append]; exact d2) hl d1.symm (by omega) (by have := hab.out; omega) (by omega) (by omega) sU sV
              unfold Merges at k
              have e1 : ((a + s : Nat) : Int) = (a : Int) + (s : Int) := by omega
              rw [e1] at k
              replace k := Lib.hid k
              have NXT : Hid (∀ w' T, Own w0 w' g cap (D ++ (T ++ S)) → T.length = U.length + V.length → Stb.Sorted lessE T → Stb.Stab lessE (U ++ V) T → ∃ D R, D.length = b ∧ D.length + R.length = n ∧ Stb.Full lessE (2 * s) D ∧ Stb.Runs lessE s R ∧ Stb.Stab lessE L (D ++ R) ∧ Own w0 w' g cap (D ++ R)) := fun w' T ho t1 t2 t3 => by
                have := hab.out
                refine ⟨D ++ T, S, by rw [List.length_append]; omega, by rw [List.length_append]; omega, .snoc d3 (by omega) t2, sS, d5.trans ?_, by simpa using ho⟩
                have := (Stb.Stab.refl (lt := lessE) D).app (t3.app (Stb.Stab.refl (lt := lessE) S))
                simpa using this
              clear d1 d2 d3 d4 d5 d6 sU sV sS lR e1 hU hV
              go_wp2_with fail
              refine k.out.mono ?_
              rintro e w' ⟨rfl, T, ho, t1, t2, t3⟩
              have HD2 := Lib.hid (NXT.out w' T ho t1 t2 t3)
              clear ho t1 t2 t3 NXT k
              have hwB : IntKind.i64.wrap ((b : Int) + 2 * (s : Int)) = (b : Int) + 2 * (s : Int) := by rw [IntKind.wrap_i64]; omega
              go_wp2_with fail
              exact ⟨⟨b, b + 2 * s, rfl, by congr 1, rfl, by omega, by omega, by omega, HD2⟩, by simp [intOf]; omega⟩
            · have q1 : ¬ ((b : Int) ≤ (n : Int)) := by omega
              have hwA : IntKind.i64.wrap ((a : Int) + (s : Int)) = (a : Int) + (s : Int) := by rw [IntKind.wrap_i64]; omega
              have hwM : IntKind.i64.wrap ((s : Int) * 2) = (s : Int) * 2 := by rw [IntKind.wrap_i64]; omega
              have OUT : Hid (∀ w', (∃ T, Own w0 w' g cap T ∧ T.length = n ∧ Stb.Runs lessE (2 * s) T ∧ Stb.Stab lessE L T) → ∃ t : Nat, Value.int .i64 ((s : Int) * 2) = .int .i64 t ∧ 20 ≤ t ∧ t ≤ 2000000 ∧ Hid (∃ T, Own w0 w' g cap T ∧ T.length = n ∧ Stb.Runs lessE t T ∧ Stb.Stab lessE L T)) := fun w' ⟨T, ho, t1, t2, t3⟩ => ⟨2 * s, by congr 1; omega, by omega, by omega, T, ho, t1, t2, t3⟩
              by_cases hm : a + s < n
              · have q3 : (a : Int) + (s : Int) < (n : Int) := by omega
                obtain ⟨D, R, d1, d2, d3, d4, d5, d6⟩ := HD.out
                obtain ⟨U, V, rfl, hU, hV, sU, sV⟩ := d4.one (by omega) (by omega) (by have := hab.out; omega)
                have lR := d2
                rw [List.length_append] at lR
                have k := pMerge (P := D) (U := U) (V := V) (S := []) (by rw [List.append_nil]; exact d6) a (a + s) n n (by rw [List.append_nil, List.length_append]; exact d2) hl d1.symm (by omega) (by omega) (by omega) (by omega) sU sV
                unfold Merges at k
                have e1 : ((a + s : Nat) : Int) = (a : Int) + (s : Int) := by omega
                rw [e1] at k
                replace k := Lib.hid k
                have NXT : Hid (∀ w' T, Own w0 w' g cap (D ++ (T ++ [])) → T.length = U.length + V.length → Stb.Sorted lessE T → Stb.Stab lessE (U ++ V) T → ∃ T, Own w0 w' g cap T ∧ T.length = n ∧ Stb.Runs lessE (2 * s) T ∧ Stb.Stab lessE L T) := fun w' T ho t1 t2 t3 => by
                  have := hab.out
                  rw [List.append_nil] at ho
                  exact ⟨D ++ T, ho, by rw [List.length_append]; omega, d3.app (.last (by omega) t2), d5.trans ((Stb.Stab.refl _).app t3)⟩
                clear d1 d2 d3 d4 d5 d6 sU sV lR e1 hU hV HD
                go_wp2_with fail
                refine k.out.mono ?_
                rintro e w' ⟨rfl, T, ho, t1, t2, t3⟩
                have HD2 := Lib.hid (OUT.out w' (NXT.out w' T ho t1 t2 t3))
                clear ho t1 t2 t3 NXT k OUT
                go_wp2_with fail
                exact ⟨HD2.out, by simp [intOf]; omega⟩
              · have q3 : ¬ ((a : Int) + (s : Int) < (n : Int)) := by omega
                have HD2 := Lib.hid (OUT.out wr (by
                  obtain ⟨D, R, d1, d2, d3, d4, d5, d6⟩ := HD.out
                  exact ⟨D ++ R, d6, by rw [List.length_append]; exact d2, d3.app (.last (by omega) (d4.none (by omega) (by omega))), d5⟩))
                clear OUT HD
                go_wp2_with fail
                exact ⟨HD2.out, by simp [intOf]; omega⟩
        · have q2 : ¬ ((s : Int) < (n : Int)) := by omega
          go_wp2_with fail
          go_end0
          obtain ⟨T, ho, t1, t2, t3⟩ := HT.out
          exact ⟨rfl, T, ho, t1, t2.none (by omega) (by omega), t3⟩
end Go.Proofs.Ytmbjbbflhlndcaa
