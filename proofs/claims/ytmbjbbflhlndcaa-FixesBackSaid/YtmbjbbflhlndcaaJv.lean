/-
  lumper/cmds.own: which numbers are its own; its map, made in whatever order.
-/
import Derived.Test.YtmbjbbflhlndcaaJu
namespace Go.Proofs.Ytmbjbbflhlndcaa
open Go.RowKit BigFrame
set_option linter.unusedVariables false
set_option linter.unusedSimpArgs false

structure ownC_St (w0 w : World) (g : Nat) (m n0 n1 n2 n3 n4 n5 n6 n7 B0 B1 B2 B3 B4 B5 : Bool) (r : Nat) (g0 g1 g2 g3 g4 g5 : Nat) (u7 u12 u19 u23 u27 u31 u35 : Value) (es : List (Int × Value)) : Prop where
  ext : Ext w0 w
  hm : m = true → u7 = .map (some r) ∧ w0.heap.size ≤ r ∧ MapAt w r es
  hB0 : B0 = true → u12 = .slice (some ⟨g0, 0, none⟩) 1 1 ∧ (m = true → g0 ≠ r) ∧ Bx w g0 (flat encA (ptrs g [1])) 88 ∧ w0.heap.size ≤ g0
  hB1 : B1 = true → u19 = .slice (some ⟨g1, 0, none⟩) 2 2 ∧ (m = true → g1 ≠ r) ∧ Bx w g1 (flat encA (ptrs g [13, 14])) 88 ∧ w0.heap.size ≤ g1
  hB2 : B2 = true → u23 = .slice (some ⟨g2, 0, none⟩) 1 1 ∧ (m = true → g2 ≠ r) ∧ Bx w g2 (flat encA (ptrs g [13])) 88 ∧ w0.heap.size ≤ g2
  hB3 : B3 = true → u27 = .slice (some ⟨g3, 0, none⟩) 1 1 ∧ (m = true → g3 ≠ r) ∧ Bx w g3 (flat encA (ptrs g [14])) 88 ∧ w0.heap.size ≤ g3
  hB4 : B4 = true → u31 = .slice (some ⟨g4, 0, none⟩) 1 1 ∧ (m = true → g4 ≠ r) ∧ Bx w g4 (flat encA (ptrs g [14])) 88 ∧ w0.heap.size ≤ g4
  hB5 : B5 = true → u35 = .slice (some ⟨g5, 0, none⟩) 1 1 ∧ (m = true → g5 ≠ r) ∧ Bx w g5 (flat encA (ptrs g [14])) 88 ∧ w0.heap.size ≤ g5
  mem : ∀ p, p ∈ es ↔ (n0 = true ∧ p = (1, .slice none 0 0)) ∨ (n1 = true ∧ p = (8, .slice none 0 0)) ∨ (n2 = true ∧ p = (2, u12)) ∨ (n3 = true ∧ p = (3, u19)) ∨ (n4 = true ∧ p = (4, u23)) ∨ (n5 = true ∧ p = (5, u27)) ∨ (n6 = true ∧ p = (6, u31)) ∨ (n7 = true ∧ p = (7, u35))
  dn0 : n0 = true → m = true
  dn1 : n1 = true → m = true
  dn2 : n2 = true → m = true ∧ B0 = true
  dn3 : n3 = true → m = true ∧ B1 = true
  dn4 : n4 = true → m = true ∧ B2 = true
  dn5 : n5 = true → m = true ∧ B3 = true
  dn6 : n6 = true → m = true ∧ B4 = true
  dn7 : n7 = true → m = true ∧ B5 = true
def ownC_I (w0 : World) (g : Nat) (f : Nat) (L : Array Bool) (a : Act) (w : World) : Prop := ∃ (m n0 n1 n2 n3 n4 n5 n6 n7 B0 B1 B2 B3 B4 B5 : Bool) (r : Nat) (g0 g1 g2 g3 g4 g5 : Nat) (u7 u12 u19 u23 u27 u31 u35 : Value) (es : List (Int × Value)), f + (b2n m + b2n n0 + b2n n1 + b2n n2 + b2n n3 + b2n n4 + b2n n5 + b2n n6 + b2n n7 + b2n B0 + b2n B1 + b2n B2 + b2n B3 + b2n B4 + b2n B5) = 17 ∧ L = #[m, n0, n1, true, true, true, true, B0, n2, true, true, true, true, true, true, B1, n3, true, true, true, B2, n4, true, true, true, B3, n5, true, true, true, B4, n6, true, true, true, B5, n7, false, false] ∧ a = ⟨#[.pointer (some ⟨g, 0, none⟩), undef, .slice none 0 0, .bool false, undef, undef, undef, u7, .pointer (some ⟨g, 0, none⟩), .pointer (some ⟨g, 0, none⟩), .pointer (some ⟨g, 1, none⟩), .pointer (some ⟨g, 1, none⟩), u12, .pointer (some ⟨g, 0, none⟩), .pointer (some ⟨g, 0, none⟩), .pointer (some ⟨g, 13, none⟩), .pointer (some ⟨g, 0, none⟩), .pointer (some ⟨g, 0, none⟩), .pointer (some ⟨g, 14, none⟩), u19, .pointer (some ⟨g, 0, none⟩), .pointer (some ⟨g, 0, none⟩), .pointer (some ⟨g, 13, none⟩), u23, .pointer (some ⟨g, 0, none⟩), .pointer (some ⟨g, 0, none⟩), .pointer (some ⟨g, 14, none⟩), u27, .pointer (some ⟨g, 0, none⟩), .pointer (some ⟨g, 0, none⟩), .pointer (some ⟨g, 14, none⟩), u31, .pointer (some ⟨g, 0, none⟩), .pointer (some ⟨g, 0, none⟩), .pointer (some ⟨g, 14, none⟩), u35, undef, undef, undef, undef, undef, undef, undef, undef, undef, undef, undef, undef], []⟩ ∧ ownC_St w0 w g m n0 n1 n2 n3 n4 n5 n6 n7 B0 B1 B2 B3 B4 B5 r g0 g1 g2 g3 g4 g5 u7 u12 u19 u23 u27 u31 u35 es

set_option maxRecDepth 100000 in
set_option maxHeartbeats 4000000 in
theorem ownC_Walk {w : World} {g : Nat} {e : Cm} (hb : Bx w g (encC e) 27) (R : List Nat) (b : Bool) (hR : ownC_Tab e.kind R b) : Calls Try.prog 53 #[.pointer (some ⟨g, 0, none⟩)] w (RetOwn w g R b) := by
  have HB := Lib.hid hb
  clear hb
  replace hR := Lib.hid hR
  go_enter Try.func53, Try.ntmps53
  go_wp2_with fail
  refine held_start (S := fun _ => True) 39 rfl (by kernel_rfl) ?_
  refine held_move (i := 3) rfl (by kernel_rfl) (by kernel_rfl) (by kernel_rfl) _ rfl rfl trivial _ (by simp [Act.put]; rfl) ?_
  refine held_takeV (i := 4) rfl (by kernel_rfl) (by kernel_rfl) (by kernel_rfl) (.pointer (some ⟨g, 0, none⟩)) rfl (fun w hT => by go_simp) trivial _ (by simp [Act.put]; rfl) ?_
  refine held_takeV (i := 5) rfl (by kernel_rfl) (by kernel_rfl) (by kernel_rfl) (.pointer (some ⟨g, 1, none⟩)) rfl (fun w hT => by go_simp) trivial _ (by simp [Act.put]; rfl) ?_
  refine held_takeV (i := 6) rfl (by kernel_rfl) (by kernel_rfl) (by kernel_rfl) (.pointer (some ⟨g, 1, none⟩)) rfl (fun w hT => by go_simp) trivial _ (by simp [Act.put]; rfl) ?_
  refine held_move (i := 9) rfl (by kernel_rfl) (by kernel_rfl) (by kernel_rfl) _ rfl rfl trivial _ (by simp [Act.put]; rfl) ?_
  refine held_takeV (i := 10) rfl (by kernel_rfl) (by kernel_rfl) (by kernel_rfl) (.pointer (some ⟨g, 0, none⟩)) rfl (fun w hT => by go_simp) trivial _ (by simp [Act.put]; rfl) ?_
  refine held_takeV (i := 11) rfl (by kernel_rfl) (by kernel_rfl) (by kernel_rfl) (.pointer (some ⟨g, 13, none⟩)) rfl (fun w hT => by go_simp) trivial _ (by simp [Act.put]; rfl) ?_
  refine held_move (i := 12) rfl (by kernel_rfl) (by kernel_rfl) (by kernel_rfl) _ rfl rfl trivial _ (by simp [Act.put]; rfl) ?_
  refine held_takeV (i := 13) rfl (by kernel_rfl) (by kernel_rfl) (by kernel_rfl) (.pointer (some ⟨g, 0, none⟩)) rfl (fun w hT => by go_simp) trivial _ (by simp [Act.put]; rfl) ?_
  refine held_takeV (i := 14) rfl (by kernel_rfl) (by kernel_rfl) (by kernel_rfl) (.pointer (some ⟨g, 14, none⟩)) rfl (fun w hT => by go_simp) trivial _ (by simp [Act.put]; rfl) ?_
  refine held_move (i := 17) rfl (by kernel_rfl) (by kernel_rfl) (by kernel_rfl) _ rfl rfl trivial _ (by simp [Act.put]; rfl) ?_
  refine held_takeV (i := 18) rfl (by kernel_rfl) (by kernel_rfl) (by kernel_rfl) (.pointer (some ⟨g, 0, none⟩)) rfl (fun w hT => by go_simp) trivial _ (by simp [Act.put]; rfl) ?_
  refine held_takeV (i := 19) rfl (by kernel_rfl) (by kernel_rfl) (by kernel_rfl) (.pointer (some ⟨g, 13, none⟩)) rfl (fun w hT => by go_simp) trivial _ (by simp [Act.put]; rfl) ?_
  refine held_move (i := 22) rfl (by kernel_rfl) (by kernel_rfl) (by kernel_rfl) _ rfl rfl trivial _ (by simp [Act.put]; rfl) ?_
  refine held_takeV (i := 23) rfl (by kernel_rfl) (by kernel_rfl) (by kernel_rfl) (.pointer (some ⟨g, 0, none⟩)) rfl (fun w hT => by go_simp) trivial _ (by simp [Act.put]; rfl) ?_
  refine held_takeV (i := 24) rfl (by kernel_rfl) (by kernel_rfl) (by kernel_rfl) (.pointer (some ⟨g, 14, none⟩)) rfl (fun w hT => by go_simp) trivial _ (by simp [Act.put]; rfl) ?_
  refine held_move (i := 27) rfl (by kernel_rfl) (by kernel_rfl) (by kernel_rfl) _ rfl rfl trivial _ (by simp [Act.put]; rfl) ?_
  refine held_takeV (i := 28) rfl (by kernel_rfl) (by kernel_rfl) (by kernel_rfl) (.pointer (some ⟨g, 0, none⟩)) rfl (fun w hT => by go_simp) trivial _ (by simp [Act.put]; rfl) ?_
  refine held_takeV (i := 29) rfl (by kernel_rfl) (by kernel_rfl) (by kernel_rfl) (.pointer (some ⟨g, 14, none⟩)) rfl (fun w hT => by go_simp) trivial _ (by simp [Act.put]; rfl) ?_
  refine held_move (i := 32) rfl (by kernel_rfl) (by kernel_rfl) (by kernel_rfl) _ rfl rfl trivial _ (by simp [Act.put]; rfl) ?_
  refine held_takeV (i := 33) rfl (by kernel_rfl) (by kernel_rfl) (by kernel_rfl) (.pointer (some ⟨g, 0, none⟩)) rfl (fun w hT => by go_simp) trivial _ (by simp [Act.put]; rfl) ?_
  refine held_takeV (i := 34) rfl (by kernel_rfl) (by kernel_rfl) (by kernel_rfl) (.pointer (some ⟨g, 14, none⟩)) rfl (fun w hT => by go_simp) trivial _ (by simp [Act.put]; rfl) ?_
  refine held_inv (ownC_I w g) ?_ 17 _ _ _ ⟨false, false, false, false, false, false, false, false, false, false, false, false, false, false, false, 0, 0, 0, 0, 0, 0, 0, undef, undef, undef, undef, undef, undef, undef, [], by simp [b2n], rfl, rfl, ?_⟩
  rotate_left
  · exact { ext := (Ext.refl w).drewN 1, hm := (fun h => nomatch h), hB0 := (fun h => nomatch h), hB1 := (fun h => nomatch h), hB2 := (fun h => nomatch h), hB3 := (fun h => nomatch h), hB4 := (fun h => nomatch h), hB5 := (fun h => nomatch h), mem := (by simp), dn0 := (fun h => nomatch h), dn1 := (fun h => nomatch h), dn2 := (fun h => nomatch h), dn3 := (fun h => nomatch h), dn4 := (fun h => nomatch h), dn5 := (fun h => nomatch h), dn6 := (fun h => nomatch h), dn7 := (fun h => nomatch h) }
  rintro f L a w1 ⟨m, n0, n1, n2, n3, n4, n5, n6, n7, B0, B1, B2, B3, B4, B5, r, g0, g1, g2, g3, g4, g5, u7, u12, u19, u23, u27, u31, u35, es, hf, rfl, rfl, st⟩
  by_cases hall : m = true ∧ n0 = true ∧ n1 = true ∧ n2 = true ∧ n3 = true ∧ n4 = true ∧ n5 = true ∧ n6 = true ∧ n7 = true ∧ B0 = true ∧ B1 = true ∧ B2 = true ∧ B3 = true ∧ B4 = true ∧ B5 = true
  · left
    obtain ⟨rfl, rfl, rfl, rfl, rfl, rfl, rfl, rfl, rfl, rfl, rfl, rfl, rfl, rfl, rfl⟩ := hall
    obtain ⟨rfl, hr, hM⟩ := st.hm rfl
    obtain ⟨rfl, _, xB0, yB0⟩ := st.hB0 rfl
    obtain ⟨rfl, _, xB1, yB1⟩ := st.hB1 rfl
    obtain ⟨rfl, _, xB2, yB2⟩ := st.hB2 rfl
    obtain ⟨rfl, _, xB3, yB3⟩ := st.hB3 rfl
    obtain ⟨rfl, _, xB4, yB4⟩ := st.hB4 rfl
    obtain ⟨rfl, _, xB5, yB5⟩ := st.hB5 rfl
    simp only [b2n_t, b2n_f] at hf
    obtain rfl : f = 2 := by omega
    have hmem := Lib.hid st.mem
    have HX := Lib.hid st.ext
    clear st
    refine held_move (i := 37) rfl (by kernel_rfl) (by kernel_rfl) (by kernel_rfl) _ rfl rfl trivial _ (by simp [Act.put]; rfl) ?_
    refine held_assign (i := 38) rfl (by kernel_rfl) (by kernel_rfl) (by kernel_rfl) _ rfl rfl trivial _ (by simp [Act.put]; rfl) ?_
    refine held_done (by kernel_rfl) ?_ _
    have ck := (HB.out.ext HX.out).cell 0 _ rfl
    have hz : (zeroValue 84).run Try.prog w1 = .ok (.slice none 0 0) w1 := by kernel_rfl
    have key : ∃ A n cap, (Instr.lookup 118 (.map (some r)) (.int .i64 e.kind) true).run Try.prog w1 = .ok (.tuple #[.slice A n cap, .bool b]) w1 ∧ Hid (n = R.length) ∧ Hid (Rw encA 1 w1 A (ptrs g R)) ∧ Hid (∀ b off, A = some ⟨b, off, none⟩ → w.heap.size ≤ b) := by
      obtain ⟨k, hk⟩ : ∃ k, e.kind = k := ⟨_, rfl⟩
      have hT := hR.out
      rw [hk] at hT ⊢
      clear hk ck
      by_cases hk1 : k = 1
      · subst hk1
        obtain ⟨rfl, rfl⟩ : R = [] ∧ b = true := by simpa [ownC_Tab] using hT
        exact ⟨_, _, _, run_lookup_some hM Try.underlying118 Try.underlying3 1 (.slice none 0 0) ((hmem.out _).2 (by simp)) (fun p hp hq => by have := (hmem.out p).1 hp; simp at this; rcases this with rfl | rfl | rfl | rfl | rfl | rfl | rfl | rfl <;> first | rfl | (simp at hq)), rfl, Rw.nil, fun _ _ h => nomatch h⟩
      by_cases hk8 : k = 8
      · subst hk8
        obtain ⟨rfl, rfl⟩ : R = [] ∧ b = true := by simpa [ownC_Tab] using hT
        exact ⟨_, _, _, run_lookup_some hM Try.underlying118 Try.underlying3 8 (.slice none 0 0) ((hmem.out _).2 (by simp)) (fun p hp hq => by have := (hmem.out p).1 hp; simp at this; rcases this with rfl | rfl | rfl | rfl | rfl | rfl | rfl | rfl <;> first | rfl | (simp at hq)), rfl, Rw.nil, fun _ _ h => nomatch h⟩
      by_cases hk2 : k = 2
      · subst hk2
        obtain ⟨rfl, rfl⟩ : R = [1] ∧ b = true := by simpa [ownC_Tab] using hT
        exact ⟨_, _, _, run_lookup_some hM Try.underlying118 Try.underlying3 2 (.slice (some ⟨g0, 0, none⟩) 1 1) ((hmem.out _).2 (by simp)) (fun p hp hq => by have := (hmem.out p).1 hp; simp at this; rcases this with rfl | rfl | rfl | rfl | rfl | rfl | rfl | rfl <;> first | rfl | (simp at hq)), rfl, rw_of_bx xB0 rfl, fun _ _ h => by cases h; exact yB0⟩
      by_cases hk3 : k = 3
      · subst hk3
        obtain ⟨rfl, rfl⟩ : R = [13, 14] ∧ b = true := by simpa [ownC_Tab] using hT
        exact ⟨_, _, _, run_lookup_some hM Try.underlying118 Try.underlying3 3 (.slice (some ⟨g1, 0, none⟩) 2 2) ((hmem.out _).2 (by simp)) (fun p hp hq => by have := (hmem.out p).1 hp; simp at this; rcases this with rfl | rfl | rfl | rfl | rfl | rfl | rfl | rfl <;> first | rfl | (simp at hq)), rfl, rw_of_bx xB1 rfl, fun _ _ h => by cases h; exact yB1⟩
      by_cases hk4 : k = 4
      · subst hk4
        obtain ⟨rfl, rfl⟩ : R = [13] ∧ b = true := by simpa [ownC_Tab] using hT
        exact ⟨_, _, _, run_lookup_some hM Try.underlying118 Try.underlying3 4 (.slice (some ⟨g2, 0, none⟩) 1 1) ((hmem.out _).2 (by simp)) (fun p hp hq => by have := (hmem.out p).1 hp; simp at this; rcases this with rfl | rfl | rfl | rfl | rfl | rfl | rfl | rfl <;> first | rfl | (simp at hq)), rfl, rw_of_bx xB2 rfl, fun _ _ h => by cases h; exact yB2⟩
      by_cases hk5 : k = 5
      · subst hk5
        obtain ⟨rfl, rfl⟩ : R = [14] ∧ b = true := by simpa [ownC_Tab] using hT
        exact ⟨_, _, _, run_lookup_some hM Try.underlying118 Try.underlying3 5 (.slice (some ⟨g3, 0, none⟩) 1 1) ((hmem.out _).2 (by simp)) (fun p hp hq => by have := (hmem.out p).1 hp; simp at this; rcases this with rfl | rfl | rfl | rfl | rfl | rfl | rfl | rfl <;> first | rfl | (simp at hq)), rfl, rw_of_bx xB3 rfl, fun _ _ h => by cases h; exact yB3⟩
      by_cases hk6 : k = 6
      · subst hk6
        obtain ⟨rfl, rfl⟩ : R = [14] ∧ b = true := by simpa [ownC_Tab] using hT
        exact ⟨_, _, _, run_lookup_some hM Try.underlying118 Try.underlying3 6 (.slice (some ⟨g4, 0, none⟩) 1 1) ((hmem.out _).2 (by simp)) (fun p hp hq => by have := (hmem.out p).1 hp; simp at this; rcases this with rfl | rfl | rfl | rfl | rfl | rfl | rfl | rfl <;> first | rfl | (simp at hq)), rfl, rw_of_bx xB4 rfl, fun _ _ h => by cases h; exact yB4⟩
      by_cases hk7 : k = 7
      · subst hk7
        obtain ⟨rfl, rfl⟩ : R = [14] ∧ b = true := by simpa [ownC_Tab] using hT
        exact ⟨_, _, _, run_lookup_some hM Try.underlying118 Try.underlying3 7 (.slice (some ⟨g5, 0, none⟩) 1 1) ((hmem.out _).2 (by simp)) (fun p hp hq => by have := (hmem.out p).1 hp; simp at this; rcases this with rfl | rfl | rfl | rfl | rfl | rfl | rfl | rfl <;> first | rfl | (simp at hq)), rfl, rw_of_bx xB5 rfl, fun _ _ h => by cases h; exact yB5⟩
      obtain ⟨rfl, rfl⟩ : R = [] ∧ b = false := by have hF := hT; simp [ownC_Tab, hk1, hk8, hk2, hk3, hk4, hk5, hk6, hk7] at hF; refine ⟨hF.1, ?_⟩; rw [hF.2]; simp; omega
      exact ⟨none, 0, 0, run_lookup_none hM Try.underlying118 Try.underlying3 k (fun p hp => by have := (hmem.out p).1 hp; simp at this; rcases this with rfl | rfl | rfl | rfl | rfl | rfl | rfl | rfl <;> exact Ne.symm (by assumption)) _ hz, rfl, Rw.nil, fun _ _ h => nomatch h⟩
    obtain ⟨A, n, cap, hl, hn, hA, hB⟩ := key
    clear hmem hM hz xB0 xB1 xB2 xB3 xB4 xB5
    go_wp2_with fail
    go_ret2
    exact ⟨A, n, cap, rfl, hn.out, hA.out, HX.out, hB.out⟩
  · right
    have hcnt : ∃ h, f = h + 1 := ⟨f - 1, by
      have := b2n_le m; have := b2n_le n0; have := b2n_le n1; have := b2n_le n2; have := b2n_le n3; have := b2n_le n4; have := b2n_le n5; have := b2n_le n6; have := b2n_le n7; have := b2n_le B0; have := b2n_le B1; have := b2n_le B2; have := b2n_le B3; have := b2n_le B4; have := b2n_le B5
      omega⟩
    obtain ⟨h, rfl⟩ := hcnt
    refine ⟨h, rfl, ?_, ?_⟩
    · cases m
      · exact List.ne_nil_of_mem (ready_mem (i := 0) (by decide) (by kernel_rfl))
      · cases B0
        · exact List.ne_nil_of_mem (ready_mem (i := 7) (by decide) (by kernel_rfl))
        · cases B1
          · exact List.ne_nil_of_mem (ready_mem (i := 15) (by decide) (by kernel_rfl))
          · cases B2
            · exact List.ne_nil_of_mem (ready_mem (i := 20) (by decide) (by kernel_rfl))
            · cases B3
              · exact List.ne_nil_of_mem (ready_mem (i := 25) (by decide) (by kernel_rfl))
              · cases B4
                · exact List.ne_nil_of_mem (ready_mem (i := 30) (by decide) (by kernel_rfl))
                · cases B5
                  · exact List.ne_nil_of_mem (ready_mem (i := 35) (by decide) (by kernel_rfl))
                  · cases n0
                    · exact List.ne_nil_of_mem (ready_mem (i := 1) (by decide) (by kernel_rfl))
                    · cases n1
                      · exact List.ne_nil_of_mem (ready_mem (i := 2) (by decide) (by kernel_rfl))
                      · cases n2
                        · exact List.ne_nil_of_mem (ready_mem (i := 8) (by decide) (by kernel_rfl))
                        · cases n3
                          · exact List.ne_nil_of_mem (ready_mem (i := 16) (by decide) (by kernel_rfl))
                          · cases n4
                            · exact List.ne_nil_of_mem (ready_mem (i := 21) (by decide) (by kernel_rfl))
                            · cases n5
                              · exact List.ne_nil_of_mem (ready_mem (i := 26) (by decide) (by kernel_rfl))
                              · cases n6
                                · exact List.ne_nil_of_mem (ready_mem (i := 31) (by decide) (by kernel_rfl))
                                · cases n7
                                  · exact List.ne_nil_of_mem (ready_mem (i := 36) (by decide) (by kernel_rfl))
                                  · exact absurd ⟨rfl, rfl, rfl, rfl, rfl, rfl, rfl, rfl, rfl, rfl, rfl, rfl, rfl, rfl, rfl⟩ hall
    · intro i hi
      have hlt : i < 39 := ready_lt hi
      have h0 : i = 0 ∨ i = 1 ∨ i = 2 ∨ i = 3 ∨ i = 4 ∨ i = 5 ∨ i = 6 ∨ i = 7 ∨ i = 8 ∨ i = 9 ∨ i = 10 ∨ i = 11 ∨ i = 12 ∨ i = 13 ∨ i = 14 ∨ i = 15 ∨ i = 16 ∨ i = 17 ∨ i = 18 ∨ i = 19 ∨ i = 20 ∨ i = 21 ∨ i = 22 ∨ i = 23 ∨ i = 24 ∨ i = 25 ∨ i = 26 ∨ i = 27 ∨ i = 28 ∨ i = 29 ∨ i = 30 ∨ i = 31 ∨ i = 32 ∨ i = 33 ∨ i = 34 ∨ i = 35 ∨ i = 36 ∨ i = 37 ∨ i = 38 := by omega
      clear hlt
      rcases h0 with rfl | rfl | rfl | rfl | rfl | rfl | rfl | rfl | rfl | rfl | rfl | rfl | rfl | rfl | rfl | rfl | rfl | rfl | rfl | rfl | rfl | rfl | rfl | rfl | rfl | rfl | rfl | rfl | rfl | rfl | rfl | rfl | rfl | rfl | rfl | rfl | rfl | rfl | rfl
      · obtain rfl : m = false := ready_self hi
        refine wpOp_in rfl rfl (wp_makeMap rfl ?_)
        have hes : es = [] := List.eq_nil_iff_forall_not_mem.2 fun p hp => by
          rcases (st.mem p).1 hp with ⟨q, _⟩ | ⟨q, _⟩ | ⟨q, _⟩ | ⟨q, _⟩ | ⟨q, _⟩ | ⟨q, _⟩ | ⟨q, _⟩ | ⟨q, _⟩
          · exact nomatch ((st.dn0 q))
          · exact nomatch ((st.dn1 q))
          · exact nomatch ((st.dn2 q).1)
          · exact nomatch ((st.dn3 q).1)
          · exact nomatch ((st.dn4 q).1)
          · exact nomatch ((st.dn5 q).1)
          · exact nomatch ((st.dn6 q).1)
          · exact nomatch ((st.dn7 q).1)
        subst hes
        refine ⟨true, n0, n1, n2, n3, n4, n5, n6, n7, B0, B1, B2, B3, B4, B5, w1.heap.size, g0, g1, g2, g3, g4, g5, _, u12, u19, u23, u27, u31, u35, [], by simp only [b2n_t, b2n_f] at hf ⊢; omega, rfl, rfl, ?_⟩
        exact { ext := st.ext.alloc _, hm := (fun _ => ⟨rfl, st.ext.size, MapAt.new w1⟩), hB0 := (fun q => ⟨(st.hB0 q).1, fun _ => Nat.ne_of_lt (st.hB0 q).2.2.1.lt, (st.hB0 q).2.2.1.alloc _, (st.hB0 q).2.2.2⟩), hB1 := (fun q => ⟨(st.hB1 q).1, fun _ => Nat.ne_of_lt (st.hB1 q).2.2.1.lt, (st.hB1 q).2.2.1.alloc _, (st.hB1 q).2.2.2⟩), hB2 := (fun q => ⟨(st.hB2 q).1, fun _ => Nat.ne_of_lt (st.hB2 q).2.2.1.lt, (st.hB2 q).2.2.1.alloc _, (st.hB2 q).2.2.2⟩), hB3 := (fun q => ⟨(st.hB3 q).1, fun _ => Nat.ne_of_lt (st.hB3 q).2.2.1.lt, (st.hB3 q).2.2.1.alloc _, (st.hB3 q).2.2.2⟩), hB4 := (fun q => ⟨(st.hB4 q).1, fun _ => Nat.ne_of_lt (st.hB4 q).2.2.1.lt, (st.hB4 q).2.2.1.alloc _, (st.hB4 q).2.2.2⟩), hB5 := (fun q => ⟨(st.hB5 q).1, fun _ => Nat.ne_of_lt (st.hB5 q).2.2.1.lt, (st.hB5 q).2.2.1.alloc _, (st.hB5 q).2.2.2⟩), mem := st.mem, dn0 := (fun q => rfl), dn1 := (fun q => rfl), dn2 := (fun q => ⟨rfl, (st.dn2 q).2⟩), dn3 := (fun q => ⟨rfl, (st.dn3 q).2⟩), dn4 := (fun q => ⟨rfl, (st.dn4 q).2⟩), dn5 := (fun q => ⟨rfl, (st.dn5 q).2⟩), dn6 := (fun q => ⟨rfl, (st.dn6 q).2⟩), dn7 := (fun q => ⟨rfl, (st.dn7 q).2⟩) }
      · obtain rfl : n0 = false := ready_self hi
        obtain rfl : m = true := ready_dep (j := 0) _ rfl (by kernel_rfl) hi
        obtain ⟨hu, hr, hM⟩ := st.hm rfl
        subst hu
        refine wpOp_in rfl rfl (wp_insert _ _ _ rfl Try.underlying118 Try.underlying3 (by rfl) 1 (by rfl) _ (by rfl) hM (fun p hp hq => ?_) rfl ?_)
        · have := (st.mem p).1 hp
          simp at this
          rcases this with ⟨_, this⟩ | ⟨_, this⟩ | ⟨_, this⟩ | ⟨_, this⟩ | ⟨_, this⟩ | ⟨_, this⟩ | ⟨_, this⟩ <;> (rw [this] at hq; simp at hq)
        intro o' hM'
        refine ⟨true, true, n1, n2, n3, n4, n5, n6, n7, B0, B1, B2, B3, B4, B5, r, g0, g1, g2, g3, g4, g5, .map (some r), u12, u19, u23, u27, u31, u35, es ++ [(1, .slice none 0 0)], by simp only [b2n_t, b2n_f] at hf ⊢; omega, rfl, rfl, ?_⟩
        exact { ext := below_put st.ext hr o', hm := (fun _ => ⟨rfl, hr, hM'⟩), hB0 := (fun q => ⟨(st.hB0 q).1, fun _ => (st.hB0 q).2.1 rfl, bx_put (st.hB0 q).2.2.1 ((st.hB0 q).2.1 rfl) o', (st.hB0 q).2.2.2⟩), hB1 := (fun q => ⟨(st.hB1 q).1, fun _ => (st.hB1 q).2.1 rfl, bx_put (st.hB1 q).2.2.1 ((st.hB1 q).2.1 rfl) o', (st.hB1 q).2.2.2⟩), hB2 := (fun q => ⟨(st.hB2 q).1, fun _ => (st.hB2 q).2.1 rfl, bx_put (st.hB2 q).2.2.1 ((st.hB2 q).2.1 rfl) o', (st.hB2 q).2.2.2⟩), hB3 := (fun q => ⟨(st.hB3 q).1, fun _ => (st.hB3 q).2.1 rfl, bx_put (st.hB3 q).2.2.1 ((st.hB3 q).2.1 rfl) o', (st.hB3 q).2.2.2⟩), hB4 := (fun q => ⟨(st.hB4 q).1, fun _ => (st.hB4 q).2.1 rfl, bx_put (st.hB4 q).2.2.1 ((st.hB4 q).2.1 rfl) o', (st.hB4 q).2.2.2⟩), hB5 := (fun q => ⟨(st.hB5 q).1, fun _ => (st.hB5 q).2.1 rfl, bx_put (st.hB5 q).2.2.1 ((st.hB5 q).2.1 rfl) o', (st.hB5 q).2.2.2⟩), mem := (fun p => by rw [List.mem_append, st.mem p]; simp; try grind), dn0 := (fun q => rfl), dn1 := (fun q => rfl), dn2 := (fun q => ⟨rfl, (st.dn2 q).2⟩), dn3 := (fun q => ⟨rfl, (st.dn3 q).2⟩), dn4 := (fun q => ⟨rfl, (st.dn4 q).2⟩), dn5 := (fun q => ⟨rfl, (st.dn5 q).2⟩), dn6 := (fun q => ⟨rfl, (st.dn6 q).2⟩), dn7 := (fun q => ⟨rfl, (st.dn7 q).2⟩) }
      · obtain rfl : n1 = false := ready_self hi
        obtain rfl : m = true := ready_dep (j := 0) _ rfl (by kernel_rfl) hi
        obtain ⟨hu, hr, hM⟩ := st.hm rfl
        subst hu
        refine wpOp_in rfl rfl (wp_insert _ _ _ rfl Try.underlying118 Try.underlying3 (by rfl) 8 (by rfl) _ (by rfl) hM (fun p hp hq => ?_) rfl ?_)
        · have := (st.mem p).1 hp
          simp at this
          rcases this with ⟨_, this⟩ | ⟨_, this⟩ | ⟨_, this⟩ | ⟨_, this⟩ | ⟨_, this⟩ | ⟨_, this⟩ | ⟨_, this⟩ <;> (rw [this] at hq; simp at hq)
        intro o' hM'
        refine ⟨true, n0, true, n2, n3, n4, n5, n6, n7, B0, B1, B2, B3, B4, B5, r, g0, g1, g2, g3, g4, g5, .map (some r), u12, u19, u23, u27, u31, u35, es ++ [(8, .slice none 0 0)], by simp only [b2n_t, b2n_f] at hf ⊢; omega, rfl, rfl, ?_⟩
        exact { ext := below_put st.ext hr o', hm := (fun _ => ⟨rfl, hr, hM'⟩), hB0 := (fun q => ⟨(st.hB0 q).1, fun _ => (st.hB0 q).2.1 rfl, bx_put (st.hB0 q).2.2.1 ((st.hB0 q).2.1 rfl) o', (st.hB0 q).2.2.2⟩), hB1 := (fun q => ⟨(st.hB1 q).1, fun _ => (st.hB1 q).2.1 rfl, bx_put (st.hB1 q).2.2.1 ((st.hB1 q).2.1 rfl) o', (st.hB1 q).2.2.2⟩), hB2 := (fun q => ⟨(st.hB2 q).1, fun _ => (st.hB2 q).2.1 rfl, bx_put (st.hB2 q).2.2.1 ((st.hB2 q).2.1 rfl) o', (st.hB2 q).2.2.2⟩), hB3 := (fun q => ⟨(st.hB3 q).1, fun _ => (st.hB3 q).2.1 rfl, bx_put (st.hB3 q).2.2.1 ((st.hB3 q).2.1 rfl) o', (st.hB3 q).2.2.2⟩), hB4 := (fun q => ⟨(st.hB4 q).1, fun _ => (st.hB4 q).2.1 rfl, bx_put (st.hB4 q).2.2.1 ((st.hB4 q).2.1 rfl) o', (st.hB4 q).2.2.2⟩), hB5 := (fun q => ⟨(st.hB5 q).1, fun _ => (st.hB5 q).2.1 rfl, bx_put (st.hB5 q).2.2.1 ((st.hB5 q).2.1 rfl) o', (st.hB5 q).2.2.2⟩), mem := (fun p => by rw [List.mem_append, st.mem p]; simp; try grind), dn0 := (fun q => rfl), dn1 := (fun q => rfl), dn2 := (fun q => ⟨rfl, (st.dn2 q).2⟩), dn3 := (fun q => ⟨rfl, (st.dn3 q).2⟩), dn4 := (fun q => ⟨rfl, (st.dn4 q).2⟩), dn5 := (fun q => ⟨rfl, (st.dn5 q).2⟩), dn6 := (fun q => ⟨rfl, (st.dn6 q).2⟩), dn7 := (fun q => ⟨rfl, (st.dn7 q).2⟩) }
      · exact Bool.noConfusion (show true = false from ready_self hi)
      · exact Bool.noConfusion (show true = false from ready_self hi)
      · exact Bool.noConfusion (show true = false from ready_self hi)
      · exact Bool.noConfusion (show true = false from ready_self hi)
      · obtain rfl : B0 = false := ready_self hi
        have hdep : n2 = false := by
          cases hq : n2
          · rfl
          · exact nomatch (st.dn2 hq).2
        subst hdep
        refine wpOp_in rfl rfl ?_
        go_wp2_with fail
        refine ⟨m, n0, n1, false, n3, n4, n5, n6, n7, true, B1, B2, B3, B4, B5, r, w1.heap.size, g1, g2, g3, g4, g5, u7, _, u19, u23, u27, u31, u35, es, by simp only [b2n_t, b2n_f] at hf ⊢; omega, rfl, rfl, ?_⟩
        exact { ext := st.ext.alloc _, hm := (fun q => ⟨(st.hm q).1, (st.hm q).2.1, (st.hm q).2.2.alloc _⟩), hB0 := (fun _ => ⟨rfl, fun q => Nat.ne_of_gt (st.hm q).2.2.lt, Bx.new w1 _ _, st.ext.size⟩), hB1 := (fun q => ⟨(st.hB1 q).1, (st.hB1 q).2.1, (st.hB1 q).2.2.1.alloc _, (st.hB1 q).2.2.2⟩), hB2 := (fun q => ⟨(st.hB2 q).1, (st.hB2 q).2.1, (st.hB2 q).2.2.1.alloc _, (st.hB2 q).2.2.2⟩), hB3 := (fun q => ⟨(st.hB3 q).1, (st.hB3 q).2.1, (st.hB3 q).2.2.1.alloc _, (st.hB3 q).2.2.2⟩), hB4 := (fun q => ⟨(st.hB4 q).1, (st.hB4 q).2.1, (st.hB4 q).2.2.1.alloc _, (st.hB4 q).2.2.2⟩), hB5 := (fun q => ⟨(st.hB5 q).1, (st.hB5 q).2.1, (st.hB5 q).2.2.1.alloc _, (st.hB5 q).2.2.2⟩), mem := (fun p => by have := st.mem p; simpa using this), dn0 := (fun q => st.dn0 q), dn1 := (fun q => st.dn1 q), dn2 := (fun q => nomatch q), dn3 := (fun q => st.dn3 q), dn4 := (fun q => st.dn4 q), dn5 := (fun q => st.dn5 q), dn6 := (fun q => st.dn6 q), dn7 := (fun q => st.dn7 q) }
      · obtain rfl : n2 = false := ready_self hi
        obtain rfl : m = true := ready_dep (j := 0) _ rfl (by kernel_rfl) hi
        obtain rfl : B0 = true := ready_dep (j := 7) _ rfl (by kernel_rfl) hi
        obtain ⟨hu, hr, hM⟩ := st.hm rfl
        subst hu
        refine wpOp_in rfl rfl (wp_insert _ _ _ rfl Try.underlying118 Try.underlying3 (by rfl) 2 (by rfl) _ (by rfl) hM (fun p hp hq => ?_) rfl ?_)
        · have := (st.mem p).1 hp
          simp at this
          rcases this with ⟨_, this⟩ | ⟨_, this⟩ | ⟨_, this⟩ | ⟨_, this⟩ | ⟨_, this⟩ | ⟨_, this⟩ | ⟨_, this⟩ <;> (rw [this] at hq; simp at hq)
        intro o' hM'
        refine ⟨true, n0, n1, true, n3, n4, n5, n6, n7, true, B1, B2, B3, B4, B5, r, g0, g1, g2, g3, g4, g5, .map (some r), u12, u19, u23, u27, u31, u35, es ++ [(2, u12)], by simp only [b2n_t, b2n_f] at hf ⊢; omega, rfl, rfl, ?_⟩
        exact { ext := below_put st.ext hr o', hm := (fun _ => ⟨rfl, hr, hM'⟩), hB0 := (fun q => ⟨(st.hB0 q).1, fun _ => (st.hB0 q).2.1 rfl, bx_put (st.hB0 q).2.2.1 ((st.hB0 q).2.1 rfl) o', (st.hB0 q).2.2.2⟩), hB1 := (fun q => ⟨(st.hB1 q).1, fun _ => (st.hB1 q).2.1 rfl, bx_put (st.hB1 q).2.2.1 ((st.hB1 q).2.1 rfl) o', (st.hB1 q).2.2.2⟩), hB2 := (fun q => ⟨(st.hB2 q).1, fun _ => (st.hB2 q).2.1 rfl, bx_put (st.hB2 q).2.2.1 ((st.hB2 q).2.1 rfl) o', (st.hB2 q).2.2.2⟩), hB3 := (fun q => ⟨(st.hB3 q).1, fun _ => (st.hB3 q).2.1 rfl, bx_put (st.hB3 q).2.2.1 ((st.hB3 q).2.1 rfl) o', (st.hB3 q).2.2.2⟩), hB4 := (fun q => ⟨(st.hB4 q).1, fun _ => (st.hB4 q).2.1 rfl, bx_put (st.hB4 q).2.2.1 ((st.hB4 q).2.1 rfl) o', (st.hB4 q).2.2.2⟩), hB5 := (fun q => ⟨(st.hB5 q).1, fun _ => (st.hB5 q).2.1 rfl, bx_put (st.hB5 q).2.2.1 ((st.hB5 q).2.1 rfl) o', (st.hB5 q).2.2.2⟩), mem := (fun p => by rw [List.mem_append, st.mem p]; simp; try grind), dn0 := (fun q => rfl), dn1 := (fun q => rfl), dn2 := (fun q => ⟨rfl, rfl⟩), dn3 := (fun q => ⟨rfl, (st.dn3 q).2⟩), dn4 := (fun q => ⟨rfl, (st.dn4 q).2⟩), dn5 := (fun q => ⟨rfl, (st.dn5 q).2⟩), dn6 := (fun q => ⟨rfl, (st.dn6 q).2⟩), dn7 := (fun q => ⟨rfl, (st.dn7 q).2⟩) }
      · exact Bool.noConfusion (show true = false from ready_self hi)
      · exact Bool.noConfusion (show true = false from ready_self hi)
      · exact Bool.noConfusion (show true = false from ready_self hi)
      · exact Bool.noConfusion (show true = false from ready_self hi)
      · exact Bool.noConfusion (show true = false from ready_self hi)
      · exact Bool.noConfusion (show true = false from ready_self hi)
      · obtain rfl : B1 = false := ready_self hi
        have hdep : n3 = false := by
          cases hq : n3
          · rfl
          · exact nomatch (st.dn3 hq).2
        subst hdep
        refine wpOp_in rfl rfl ?_
        go_wp2_with fail
        refine ⟨m, n0, n1, n2, false, n4, n5, n6, n7, B0, true, B2, B3, B4, B5, r, g0, w1.heap.size, g2, g3, g4, g5, u7, u12, _, u23, u27, u31, u35, es, by simp only [b2n_t, b2n_f] at hf ⊢; omega, rfl, rfl, ?_⟩
        exact { ext := st.ext.alloc _, hm := (fun q => ⟨(st.hm q).1, (st.hm q).2.1, (st.hm q).2.2.alloc _⟩), hB0 := (fun q => ⟨(st.hB0 q).1, (st.hB0 q).2.1, (st.hB0 q).2.2.1.alloc _, (st.hB0 q).2.2.2⟩), hB1 := (fun _ => ⟨rfl, fun q => Nat.ne_of_gt (st.hm q).2.2.lt, Bx.new w1 _ _, st.ext.size⟩), hB2 := (fun q => ⟨(st.hB2 q).1, (st.hB2 q).2.1, (st.hB2 q).2.2.1.alloc _, (st.hB2 q).2.2.2⟩), hB3 := (fun q => ⟨(st.hB3 q).1, (st.hB3 q).2.1, (st.hB3 q).2.2.1.alloc _, (st.hB3 q).2.2.2⟩), hB4 := (fun q => ⟨(st.hB4 q).1, (st.hB4 q).2.1, (st.hB4 q).2.2.1.alloc _, (st.hB4 q).2.2.2⟩), hB5 := (fun q => ⟨(st.hB5 q).1, (st.hB5 q).2.1, (st.hB5 q).2.2.1.alloc _, (st.hB5 q).2.2.2⟩), mem := (fun p => by have := st.mem p; simpa using this), dn0 := (fun q => st.dn0 q), dn1 := (fun q => st.dn1 q), dn2 := (fun q => st.dn2 q), dn3 := (fun q => nomatch q), dn4 := (fun q => st.dn4 q), dn5 := (fun q => st.dn5 q), dn6 := (fun q => st.dn6 q), dn7 := (fun q => st.dn7 q) }
      · obtain rfl : n3 = false := ready_self hi
        obtain rfl : m = true := ready_dep (j := 0) _ rfl (by kernel_rfl) hi
        obtain rfl : B1 = true := ready_dep (j := 15) _ rfl (by kernel_rfl) hi
        obtain ⟨hu, hr, hM⟩ := st.hm rfl
        subst hu
        refine wpOp_in rfl rfl (wp_insert _ _ _ rfl Try.underlying118 Try.underlying3 (by rfl) 3 (by rfl) _ (by rfl) hM (fun p hp hq => ?_) rfl ?_)
        · have := (st.mem p).1 hp
          simp at this
          rcases this with ⟨_, this⟩ | ⟨_, this⟩ | ⟨_, this⟩ | ⟨_, this⟩ | ⟨_, this⟩ | ⟨_, this⟩ | ⟨_, this⟩ <;> (rw [this] at hq; simp at hq)
        intro o' hM'
        refine ⟨true, n0, n1, n2, true, n4, n5, n6, n7, B0, true, B2, B3, B4, B5, r, g0, g1, g2, g3, g4, g5, .map (some r), u12, u19, u23, u27, u31, u35, es ++ [(3, u19)], by simp only [b2n_t, b2n_f] at hf ⊢; omega, rfl, rfl, ?_⟩
        exact { ext := below_put st.ext hr o', hm := (fun _ => ⟨rfl, hr, hM'⟩), hB0 := (fun q => ⟨(st.hB0 q).1, fun _ => (st.hB0 q).2.1 rfl, bx_put (st.hB0 q).2.2.1 ((st.hB0 q).2.1 rfl) o', (st.hB0 q).2.2.2⟩), hB1 := (fun q => ⟨(st.hB1 q).1, fun _ => (st.hB1 q).2.1 rfl, bx_put (st.hB1 q).2.2.1 ((st.hB1 q).2.1 rfl) o', (st.hB1 q).2.2.2⟩), hB2 := (fun q => ⟨(st.hB2 q).1, fun _ => (st.hB2 q).2.1 rfl, bx_put (st.hB2 q).2.2.1 ((st.hB2 q).2.1 rfl) o', (st.hB2 q).2.2.2⟩), hB3 := (fun q => ⟨(st.hB3 q).1, fun _ => (st.hB3 q).2.1 rfl, bx_put (st.hB3 q).2.2.1 ((st.hB3 q).2.1 rfl) o', (st.hB3 q).2.2.2⟩), hB4 := (fun q => ⟨(st.hB4 q).1, fun _ => (st.hB4 q).2.1 rfl, bx_put (st.hB4 q).2.2.1 ((st.hB4 q).2.1 rfl) o', (st.hB4 q).2.2.2⟩), hB5 := (fun q => ⟨(st.hB5 q).1, fun _ => (st.hB5 q).2.1 rfl, bx_put (st.hB5 q).2.2.1 ((st.hB5 q).2.1 rfl) o', (st.hB5 q).2.2.2⟩), mem := (fun p => by rw [List.mem_append, st.mem p]; simp; try grind), dn0 := (fun q => rfl), dn1 := (fun q => rfl), dn2 := (fun q => ⟨rfl, (st.dn2 q).2⟩), dn3 := (fun q => ⟨rfl, rfl⟩), dn4 := (fun q => ⟨rfl, (st.dn4 q).2⟩), dn5 := (fun q => ⟨rfl, (st.dn5 q).2⟩), dn6 := (fun q => ⟨rfl, (st.dn6 q).2⟩), dn7 := (fun q => ⟨rfl, (st.dn7 q).2⟩) }
      · exact Bool.noConfusion (show true = false from ready_self hi)
      · exact Bool.noConfusion (show true = false from ready_self hi)
      · exact Bool.noConfusion (show true = false from ready_self hi)
      · obtain rfl : B2 = false := ready_self hi
        have hdep : n4 = false := by
          cases hq : n4
          · rfl
          · exact nomatch (st.dn4 hq).2
        subst hdep
        refine wpOp_in rfl rfl ?_
        go_wp2_with fail
        refine ⟨m, n0, n1, n2, n3, false, n5, n6, n7, B0, B1, true, B3, B4, B5, r, g0, g1, w1.heap.size, g3, g4, g5, u7, u12, u19, _, u27, u31, u35, es, by simp only [b2n_t, b2n_f] at hf ⊢; omega, rfl, rfl, ?_⟩
        exact { ext := st.ext.alloc _, hm := (fun q => ⟨(st.hm q).1, (st.hm q).2.1, (st.hm q).2.2.alloc _⟩), hB0 := (fun q => ⟨(st.hB0 q).1, (st.hB0 q).2.1, (st.hB0 q).2.2.1.alloc _, (st.hB0 q).2.2.2⟩), hB1 := (fun q => ⟨(st.hB1 q).1, (st.hB1 q).2.1, (st.hB1 q).2.2.1.alloc _, (st.hB1 q).2.2.2⟩), hB2 := (fun _ => ⟨rfl, fun q => Nat.ne_of_gt (st.hm q).2.2.lt, Bx.new w1 _ _, st.ext.size⟩), hB3 := (fun q => ⟨(st.hB3 q).1, (st.hB3 q).2.1, (st.hB3 q).2.2.1.alloc _, (st.hB3 q).2.2.2⟩), hB4 := (fun q => ⟨(st.hB4 q).1, (st.hB4 q).2.1, (st.hB4 q).2.2.1.alloc _, (st.hB4 q).2.2.2⟩), hB5 := (fun q => ⟨(st.hB5 q).1, (st.hB5 q).2.1, (st.hB5 q).2.2.1.alloc _, (st.hB5 q).2.2.2⟩), mem := (fun p => by have := st.mem p; simpa using this), dn0 := (fun q => st.dn0 q), dn1 := (fun q => st.dn1 q), dn2 := (fun q => st.dn2 q), dn3 := (fun q => st.dn3 q), dn4 := (fun q => nomatch q), dn5 := (fun q => st.dn5 q), dn6 := (fun q => st.dn6 q), dn7 := (fun q => st.dn7 q) }
      · obtain rfl : n4 = false := ready_self hi
        obtain rfl : m = true := ready_dep (j := 0) _ rfl (by kernel_rfl) hi
        obtain rfl : B2 = true := ready_dep (j := 20) _ rfl (by kernel_rfl) hi
        obtain ⟨hu, hr, hM⟩ := st.hm rfl
        subst hu
        refine wpOp_in rfl rfl (wp_insert _ _ _ rfl Try.underlying118 Try.underlying3 (by rfl) 4 (by rfl) _ (by rfl) hM (fun p hp hq => ?_) rfl ?_)
        · have := (st.mem p).1 hp
          simp at this
          rcases this with ⟨_, this⟩ | ⟨_, this⟩ | ⟨_, this⟩ | ⟨_, this⟩ | ⟨_, this⟩ | ⟨_, this⟩ | ⟨_, this⟩ <;> (rw [this] at hq; simp at hq)
        intro o' hM'
        refine ⟨true, n0, n1, n2, n3, true, n5, n6, n7, B0, B1, true, B3, B4, B5, r, g0, g1, g2, g3, g4, g5, .map (some r), u12, u19, u23, u27, u31, u35, es ++ [(4, u23)], by simp only [b2n_t, b2n_f] at hf ⊢; omega, rfl, rfl, ?_⟩
        exact { ext := below_put st.ext hr o', hm := (fun _ => ⟨rfl, hr, hM'⟩), hB0 := (fun q => ⟨(st.hB0 q).1, fun _ => (st.hB0 q).2.1 rfl, bx_put (st.hB0 q).2.2.1 ((st.hB0 q).2.1 rfl) o', (st.hB0 q).2.2.2⟩), hB1 := (fun q => ⟨(st.hB1 q).1, fun _ => (st.hB1 q).2.1 rfl, bx_put (st.hB1 q).2.2.1 ((st.hB1 q).2.1 rfl) o', (st.hB1 q).2.2.2⟩), hB2 := (fun q => ⟨(st.hB2 q).1, fun _ => (st.hB2 q).2.1 rfl, bx_put (st.hB2 q).2.2.1 ((st.hB2 q).2.1 rfl) o', (st.hB2 q).2.2.2⟩), hB3 := (fun q => ⟨(st.hB3 q).1, fun _ => (st.hB3 q).2.1 rfl, bx_put (st.hB3 q).2.2.1 ((st.hB3 q).2.1 rfl) o', (st.hB3 q).2.2.2⟩), hB4 := (fun q => ⟨(st.hB4 q).1, fun _ => (st.hB4 q).2.1 rfl, bx_put (st.hB4 q).2.2.1 ((st.hB4 q).2.1 rfl) o', (st.hB4 q).2.2.2⟩), hB5 := (fun q => ⟨(st.hB5 q).1, fun _ => (st.hB5 q).2.1 rfl, bx_put (st.hB5 q).2.2.1 ((st.hB5 q).2.1 rfl) o', (st.hB5 q).2.2.2⟩), mem := (fun p => by rw [List.mem_append, st.mem p]; simp; try grind), dn0 := (fun q => rfl), dn1 := (fun q => rfl), dn2 := (fun q => ⟨rfl, (st.dn2 q).2⟩), dn3 := (fun q => ⟨rfl, (st.dn3 q).2⟩), dn4 := (fun q => ⟨rfl, rfl⟩), dn5 := (fun q => ⟨rfl, (st.dn5 q).2⟩), dn6 := (fun q => ⟨rfl, (st.dn6 q).2⟩), dn7 := (fun q => ⟨rfl, (st.dn7 q).2⟩) }
      · exact Bool.noConfusion (show true = false from ready_self hi)
      · exact Bool.noConfusion (show true = false from ready_self hi)
      · exact Bool.noConfusion (show true = false from ready_self hi)
      · obtain rfl : B3 = false := ready_self hi
        have hdep : n5 = false := by
          cases hq : n5
          · rfl
          · exact nomatch (st.dn5 hq).2
        subst hdep
        refine wpOp_in rfl rfl ?_
        go_wp2_with fail
        refine ⟨m, n0, n1, n2, n3, n4, false, n6, n7, B0, B1, B2, true, B4, B5, r, g0, g1, g2, w1.heap.size, g4, g5, u7, u12, u19, u23, _, u31, u35, es, by simp only [b2n_t, b2n_f] at hf ⊢; omega, rfl, rfl, ?_⟩
        exact { ext := st.ext.alloc _, hm := (fun q => ⟨(st.hm q).1, (st.hm q).2.1, (st.hm q).2.2.alloc _⟩), hB0 := (fun q => ⟨(st.hB0 q).1, (st.hB0 q).2.1, (st.hB0 q).2.2.1.alloc _, (st.hB0 q).2.2.2⟩), hB1 := (fun q => ⟨(st.hB1 q).1, (st.hB1 q).2.1, (st.hB1 q).2.2.1.alloc _, (st.hB1 q).2.2.2⟩), hB2 := (fun q => ⟨(st.hB2 q).1, (st.hB2 q).2.1, (st.hB2 q).2.2.1.alloc _, (st.hB2 q).2.2.2⟩), hB3 := (fun _ => ⟨rfl, fun q => Nat.ne_of_gt (st.hm q).2.2.lt, Bx.new w1 _ _, st.ext.size⟩), hB4 := (fun q => ⟨(st.hB4 q).1, (st.hB4 q).2.1, (st.hB4 q).2.2.1.alloc _, (st.hB4 q).2.2.2⟩), hB5 := (fun q => ⟨(st.hB5 q).1, (st.hB5 q).2.1, (st.hB5 q).2.2.1.alloc _, (st.hB5 q).2.2.2⟩), mem := (fun p => by have := st.mem p; simpa using this), dn0 := (fun q => st.dn0 q), dn1 := (fun q => st.dn1 q), dn2 := (fun q => st.dn2 q), dn3 := (fun q => st.dn3 q), dn4 := (fun q => st.dn4 q), dn5 := (fun q => nomatch q), dn6 := (fun q => st.dn6 q), dn7 := (fun q => st.dn7 q) }
      · obtain rfl : n5 = false := ready_self hi
        obtain rfl : m = true := ready_dep (j := 0) _ rfl (by kernel_rfl) hi
        obtain rfl : B3 = true := ready_dep (j := 25) _ rfl (by kernel_rfl) hi
        obtain ⟨hu, hr, hM⟩ := st.hm rfl
        subst hu
        refine wpOp_in rfl rfl (wp_insert _ _ _ rfl Try.underlying118 Try.underlying3 (by rfl) 5 (by rfl) _ (by rfl) hM (fun p hp hq => ?_) rfl ?_)
        · have := (st.mem p).1 hp
          simp at this
          rcases this with ⟨_, this⟩ | ⟨_, this⟩ | ⟨_, this⟩ | ⟨_, this⟩ | ⟨_, this⟩ | ⟨_, this⟩ | ⟨_, this⟩ <;> (rw [this] at hq; simp at hq)
        intro o' hM'
        refine ⟨true, n0, n1, n2, n3, n4, true, n6, n7, B0, B1, B2, true, B4, B5, r, g0, g1, g2, g3, g4, g5, .map (some r), u12, u19, u23, u27, u31, u35, es ++ [(5, u27)], by simp only [b2n_t, b2n_f] at hf ⊢; omega, rfl, rfl, ?_⟩
        exact { ext := below_put st.ext hr o', hm := (fun _ => ⟨rfl, hr, hM'⟩), hB0 := (fun q => ⟨(st.hB0 q).1, fun _ => (st.hB0 q).2.1 rfl, bx_put (st.hB0 q).2.2.1 ((st.hB0 q).2.1 rfl) o', (st.hB0 q).2.2.2⟩), hB1 := (fun q => ⟨(st.hB1 q).1, fun _ => (st.hB1 q).2.1 rfl, bx_put (st.hB1 q).2.2.1 ((st.hB1 q).2.1 rfl) o', (st.hB1 q).2.2.2⟩), hB2 := (fun q => ⟨(st.hB2 q).1, fun _ => (st.hB2 q).2.1 rfl, bx_put (st.hB2 q).2.2.1 ((st.hB2 q).2.1 rfl) o', (st.hB2 q).2.2.2⟩), hB3 := (fun q => ⟨(st.hB3 q).1, fun _ => (st.hB3 q).2.1 rfl, bx_put (st.hB3 q).2.2.1 ((st.hB3 q).2.1 rfl) o', (st.hB3 q).2.2.2⟩), hB4 := (fun q => ⟨(st.hB4 q).1, fun _ => (st.hB4 q).2.1 rfl, bx_put (st.hB4 q).2.2.1 ((st.hB4 q).2.1 rfl) o', (st.hB4 q).2.2.2⟩), hB5 := (fun q => ⟨(st.hB5 q).1, fun _ => (st.hB5 q).2.1 rfl, bx_put (st.hB5 q).2.2.1 ((st.hB5 q).2.1 rfl) o', (st.hB5 q).2.2.2⟩), mem := (fun p => by rw [List.mem_append, st.mem p]; simp; try grind), dn0 := (fun q => rfl), dn1 := (fun q => rfl), dn2 := (fun q => ⟨rfl, (st.dn2 q).2⟩), dn3 := (fun q => ⟨rfl, (st.dn3 q).2⟩), dn4 := (fun q => ⟨rfl, (st.dn4 q).2⟩), dn5 := (fun q => ⟨rfl, rfl⟩), dn6 := (fun q => ⟨rfl, (st.dn6 q).2⟩), dn7 := (fun q => ⟨rfl, (st.dn7 q).2⟩) }
      · exact Bool.noConfusion (show true = false from ready_self hi)
      · exact Bool.noConfusion (show true = false from ready_self hi)
      · exact Bool.noConfusion (show true = false from ready_self hi)
      · obtain rfl : B4 = false := ready_self hi
        have hdep : n6 = false := by
          cases hq : n6
          · rfl
          · exact nomatch (st.dn6 hq).2
        subst hdep
        refine wpOp_in rfl rfl ?_
        go_wp2_with fail
        refine ⟨m, n0, n1, n2, n3, n4, n5, false, n7, B0, B1, B2, B3, true, B5, r, g0, g1, g2, g3, w1.heap.size, g5, u7, u12, u19, u23, u27, _, u35, es, by simp only [b2n_t, b2n_f] at hf ⊢; omega, rfl, rfl, ?_⟩
        exact { ext := st.ext.alloc _, hm := (fun q => ⟨(st.hm q).1, (st.hm q).2.1, (st.hm q).2.2.alloc _⟩), hB0 := (fun q => ⟨(st.hB0 q).1, (st.hB0 q).2.1, (st.hB0 q).2.2.1.alloc _, (st.hB0 q).2.2.2⟩), hB1 := (fun q => ⟨(st.hB1 q).1, (st.hB1 q).2.1, (st.hB1 q).2.2.1.alloc _, (st.hB1 q).2.2.2⟩), hB2 := (fun q => ⟨(st.hB2 q).1, (st.hB2 q).2.1, (st.hB2 q).2.2.1.alloc _, (st.hB2 q).2.2.2⟩), hB3 := (fun q => ⟨(st.hB3 q).1, (st.hB3 q).2.1, (st.hB3 q).2.2.1.alloc _, (st.hB3 q).2.2.2⟩), hB4 := (fun _ => ⟨rfl, fun q => Nat.ne_of_gt (st.hm q).2.2.lt, Bx.new w1 _ _, st.ext.size⟩), hB5 := (fun q => ⟨(st.hB5 q).1, (st.hB5 q).2.1, (st.hB5 q).2.2.1.alloc _, (st.hB5 q).2.2.2⟩), mem := (fun p => by have := st.mem p; simpa using this), dn0 := (fun q => st.dn0 q), dn1 := (fun q => st.dn1 q), dn2 := (fun q => st.dn2 q), dn3 := (fun q => st.dn3 q), dn4 := (fun q => st.dn4 q), dn5 := (fun q => st.dn5 q), dn6 := (fun q => nomatch q), dn7 := (fun q => st.dn7 q) }
      · obtain rfl : n6 = false := ready_self hi
        obtain rfl : m = true := ready_dep (j := 0) _ rfl (by kernel_rfl) hi
        obtain rfl : B4 = true := ready_dep (j := 30) _ rfl (by kernel_rfl) hi
        obtain ⟨hu, hr, hM⟩ := st.hm rfl
        subst hu
        refine wpOp_in rfl rfl (wp_insert _ _ _ rfl Try.underlying118 Try.underlying3 (by rfl) 6 (by rfl) _ (by rfl) hM (fun p hp hq => ?_) rfl ?_)
        · have := (st.mem p).1 hp
          simp at this
          rcases this with ⟨_, this⟩ | ⟨_, this⟩ | ⟨_, this⟩ | ⟨_, this⟩ | ⟨_, this⟩ | ⟨_, this⟩ | ⟨_, this⟩ <;> (rw [this] at hq; simp at hq)
        intro o' hM'
        refine ⟨true, n0, n1, n2, n3, n4, n5, true, n7, B0, B1, B2, B3, true, B5, r, g0, g1, g2, g3, g4, g5, .map (some r), u12, u19, u23, u27, u31, u35, es ++ [(6, u31)], by simp only [b2n_t, b2n_f] at hf ⊢; omega, rfl, rfl, ?_⟩
        exact { ext := below_put st.ext hr o', hm := (fun _ => ⟨rfl, hr, hM'⟩), hB0 := (fun q => ⟨(st.hB0 q).1, fun _ => (st.hB0 q).2.1 rfl, bx_put (st.hB0 q).2.2.1 ((st.hB0 q).2.1 rfl) o', (st.hB0 q).2.2.2⟩), hB1 := (fun q => ⟨(st.hB1 q).1, fun _ => (st.hB1 q).2.1 rfl, bx_put (st.hB1 q).2.2.1 ((st.hB1 q).2.1 rfl) o', (st.hB1 q).2.2.2⟩), hB2 := (fun q => ⟨(st.hB2 q).1, fun _ => (st.hB2 q).2.1 rfl, bx_put (st.hB2 q).2.2.1 ((st.hB2 q).2.1 rfl) o', (st.hB2 q).2.2.2⟩), hB3 := (fun q => ⟨(st.hB3 q).1, fun _ => (st.hB3 q).2.1 rfl, bx_put (st.hB3 q).2.2.1 ((st.hB3 q).2.1 rfl) o', (st.hB3 q).2.2.2⟩), hB4 := (fun q => ⟨(st.hB4 q).1, fun _ => (st.hB4 q).2.1 rfl, bx_put (st.hB4 q).2.2.1 ((st.hB4 q).2.1 rfl) o', (st.hB4 q).2.2.2⟩), hB5 := (fun q => ⟨(st.hB5 q).1, fun _ => (st.hB5 q).2.1 rfl, bx_put (st.hB5 q).2.2.1 ((st.hB5 q).2.1 rfl) o', (st.hB5 q).2.2.2⟩), mem := (fun p => by rw [List.mem_append, st.mem p]; simp; try grind), dn0 := (fun q => rfl), dn1 := (fun q => rfl), dn2 := (fun q => ⟨rfl, (st.dn2 q).2⟩), dn3 := (fun q => ⟨rfl, (st.dn3 q).2⟩), dn4 := (fun q => ⟨rfl, (st.dn4 q).2⟩), dn5 := (fun q => ⟨rfl, (st.dn5 q).2⟩), dn6 := (fun q => ⟨rfl, rfl⟩), dn7 := (fun q => ⟨rfl, (st.dn7 q).2⟩) }
      · exact Bool.noConfusion (show true = false from ready_self hi)
      · exact Bool.noConfusion (show true = false from ready_self hi)
      · exact Bool.noConfusion (show true = false from ready_self hi)
      · obtain rfl : B5 = false := ready_self hi
        have hdep : n7 = false := by
          cases hq : n7
          · rfl
          · exact nomatch (st.dn7 hq).2
        subst hdep
        refine wpOp_in rfl rfl ?_
        go_wp2_with fail
        refine ⟨m, n0, n1, n2, n3, n4, n5, n6, false, B0, B1, B2, B3, B4, true, r, g0, g1, g2, g3, g4, w1.heap.size, u7, u12, u19, u23, u27, u31, _, es, by simp only [b2n_t, b2n_f] at hf ⊢; omega, rfl, rfl, ?_⟩
        exact { ext := st.ext.alloc _, hm := (fun q => ⟨(st.hm q).1, (st.hm q).2.1, (st.hm q).2.2.alloc _⟩), hB0 := (fun q => ⟨(st.hB0 q).1, (st.hB0 q).2.1, (st.hB0 q).2.2.1.alloc _, (st.hB0 q).2.2.2⟩), hB1 := (fun q => ⟨(st.hB1 q).1, (st.hB1 q).2.1, (st.hB1 q).2.2.1.alloc _, (st.hB1 q).2.2.2⟩), hB2 := (fun q => ⟨(st.hB2 q).1, (st.hB2 q).2.1, (st.hB2 q).2.2.1.alloc _, (st.hB2 q).2.2.2⟩), hB3 := (fun q => ⟨(st.hB3 q).1, (st.hB3 q).2.1, (st.hB3 q).2.2.1.alloc _, (st.hB3 q).2.2.2⟩), hB4 := (fun q => ⟨(st.hB4 q).1, (st.hB4 q).2.1, (st.hB4 q).2.2.1.alloc _, (st.hB4 q).2.2.2⟩), hB5 := (fun _ => ⟨rfl, fun q => Nat.ne_of_gt (st.hm q).2.2.lt, Bx.new w1 _ _, st.ext.size⟩), mem := (fun p => by have := st.mem p; simpa using this), dn0 := (fun q => st.dn0 q), dn1 := (fun q => st.dn1 q), dn2 := (fun q => st.dn2 q), dn3 := (fun q => st.dn3 q), dn4 := (fun q => st.dn4 q), dn5 := (fun q => st.dn5 q), dn6 := (fun q => st.dn6 q), dn7 := (fun q => nomatch q) }
      · obtain rfl : n7 = false := ready_self hi
        obtain rfl : m = true := ready_dep (j := 0) _ rfl (by kernel_rfl) hi
        obtain rfl : B5 = true := ready_dep (j := 35) _ rfl (by kernel_rfl) hi
        obtain ⟨hu, hr, hM⟩ := st.hm rfl
        subst hu
        refine wpOp_in rfl rfl (wp_insert _ _ _ rfl Try.underlying118 Try.underlying3 (by rfl) 7 (by rfl) _ (by rfl) hM (fun p hp hq => ?_) rfl ?_)
        · have := (st.mem p).1 hp
          simp at this
          rcases this with ⟨_, this⟩ | ⟨_, this⟩ | ⟨_, this⟩ | ⟨_, this⟩ | ⟨_, this⟩ | ⟨_, this⟩ | ⟨_, this⟩ <;> (rw [this] at hq; simp at hq)
        intro o' hM'
        refine ⟨true, n0, n1, n2, n3, n4, n5, n6, true, B0, B1, B2, B3, B4, true, r, g0, g1, g2, g3, g4, g5, .map (some r), u12, u19, u23, u27, u31, u35, es ++ [(7, u35)], by simp only [b2n_t, b2n_f] at hf ⊢; omega, rfl, rfl, ?_⟩
        exact { ext := below_put st.ext hr o', hm := (fun _ => ⟨rfl, hr, hM'⟩), hB0 := (fun q => ⟨(st.hB0 q).1, fun _ => (st.hB0 q).2.1 rfl, bx_put (st.hB0 q).2.2.1 ((st.hB0 q).2.1 rfl) o', (st.hB0 q).2.2.2⟩), hB1 := (fun q => ⟨(st.hB1 q).1, fun _ => (st.hB1 q).2.1 rfl, bx_put (st.hB1 q).2.2.1 ((st.hB1 q).2.1 rfl) o', (st.hB1 q).2.2.2⟩), hB2 := (fun q => ⟨(st.hB2 q).1, fun _ => (st.hB2 q).2.1 rfl, bx_put (st.hB2 q).2.2.1 ((st.hB2 q).2.1 rfl) o', (st.hB2 q).2.2.2⟩), hB3 := (fun q => ⟨(st.hB3 q).1, fun _ => (st.hB3 q).2.1 rfl, bx_put (st.hB3 q).2.2.1 ((st.hB3 q).2.1 rfl) o', (st.hB3 q).2.2.2⟩), hB4 := (fun q => ⟨(st.hB4 q).1, fun _ => (st.hB4 q).2.1 rfl, bx_put (st.hB4 q).2.2.1 ((st.hB4 q).2.1 rfl) o', (st.hB4 q).2.2.2⟩), hB5 := (fun q => ⟨(st.hB5 q).1, fun _ => (st.hB5 q).2.1 rfl, bx_put (st.hB5 q).2.2.1 ((st.hB5 q).2.1 rfl) o', (st.hB5 q).2.2.2⟩), mem := (fun p => by rw [List.mem_append, st.mem p]; simp; try grind), dn0 := (fun q => rfl), dn1 := (fun q => rfl), dn2 := (fun q => ⟨rfl, (st.dn2 q).2⟩), dn3 := (fun q => ⟨rfl, (st.dn3 q).2⟩), dn4 := (fun q => ⟨rfl, (st.dn4 q).2⟩), dn5 := (fun q => ⟨rfl, (st.dn5 q).2⟩), dn6 := (fun q => ⟨rfl, (st.dn6 q).2⟩), dn7 := (fun q => ⟨rfl, rfl⟩) }
      · have z0 : m = true := ready_dep (j := 0) _ rfl (by kernel_rfl) hi
        have z1 : n0 = true := ready_dep (j := 1) _ rfl (by kernel_rfl) hi
        have z2 : n1 = true := ready_dep (j := 2) _ rfl (by kernel_rfl) hi
        have z3 : n2 = true := ready_dep (j := 8) _ rfl (by kernel_rfl) hi
        have z4 : n3 = true := ready_dep (j := 16) _ rfl (by kernel_rfl) hi
        have z5 : n4 = true := ready_dep (j := 21) _ rfl (by kernel_rfl) hi
        have z6 : n5 = true := ready_dep (j := 26) _ rfl (by kernel_rfl) hi
        have z7 : n6 = true := ready_dep (j := 31) _ rfl (by kernel_rfl) hi
        have z8 : n7 = true := ready_dep (j := 36) _ rfl (by kernel_rfl) hi
        have z9 : B0 = true := ready_dep (j := 7) _ rfl (by kernel_rfl) hi
        have z10 : B1 = true := ready_dep (j := 15) _ rfl (by kernel_rfl) hi
        have z11 : B2 = true := ready_dep (j := 20) _ rfl (by kernel_rfl) hi
        have z12 : B3 = true := ready_dep (j := 25) _ rfl (by kernel_rfl) hi
        have z13 : B4 = true := ready_dep (j := 30) _ rfl (by kernel_rfl) hi
        have z14 : B5 = true := ready_dep (j := 35) _ rfl (by kernel_rfl) hi
        exact absurd ⟨z0, z1, z2, z3, z4, z5, z6, z7, z8, z9, z10, z11, z12, z13, z14⟩ hall
      · exact Bool.noConfusion (show false = true from ready_dep (j := 37) _ rfl (by kernel_rfl) hi)
end Go.Proofs.Ytmbjbbflhlndcaa
