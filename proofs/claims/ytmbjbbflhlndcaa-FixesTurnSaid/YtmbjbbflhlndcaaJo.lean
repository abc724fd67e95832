/-
  lumper/event.own: which numbers are its own; its map, made in whatever order.
-/
import Derived.Test.YtmbjbbflhlndcaaJn
namespace Go.Proofs.Ytmbjbbflhlndcaa
open Go.RowKit BigFrame
set_option linter.unusedVariables false
set_option linter.unusedSimpArgs false

structure ownE_St (w0 w : World) (g : Nat) (m n0 n1 n2 n3 n4 n5 n6 B0 B1 : Bool) (r : Nat) (g0 g1 : Nat) (u7 u26 u30 : Value) (es : List (Int × Value)) : Prop where
  ext : Ext w0 w
  hm : m = true → u7 = .map (some r) ∧ w0.heap.size ≤ r ∧ MapAt w r es
  hB0 : B0 = true → u26 = .slice (some ⟨g0, 0, none⟩) 6 6 ∧ (m = true → g0 ≠ r) ∧ Bx w g0 (flat encA (ptrs g [4, 5, 6, 7, 8, 9])) 88 ∧ w0.heap.size ≤ g0
  hB1 : B1 = true → u30 = .slice (some ⟨g1, 0, none⟩) 1 1 ∧ (m = true → g1 ≠ r) ∧ Bx w g1 (flat encA (ptrs g [10])) 88 ∧ w0.heap.size ≤ g1
  mem : ∀ p, p ∈ es ↔ (n0 = true ∧ p = (1, .slice none 0 0)) ∨ (n1 = true ∧ p = (2, .slice none 0 0)) ∨ (n2 = true ∧ p = (5, .slice none 0 0)) ∨ (n3 = true ∧ p = (6, .slice none 0 0)) ∨ (n4 = true ∧ p = (7, .slice none 0 0)) ∨ (n5 = true ∧ p = (3, u26)) ∨ (n6 = true ∧ p = (4, u30))
  dn0 : n0 = true → m = true
  dn1 : n1 = true → m = true
  dn2 : n2 = true → m = true
  dn3 : n3 = true → m = true
  dn4 : n4 = true → m = true
  dn5 : n5 = true → m = true ∧ B0 = true
  dn6 : n6 = true → m = true ∧ B1 = true
def ownE_I (w0 : World) (g : Nat) (f : Nat) (L : Array Bool) (a : Act) (w : World) : Prop := ∃ (m n0 n1 n2 n3 n4 n5 n6 B0 B1 : Bool) (r : Nat) (g0 g1 : Nat) (u7 u26 u30 : Value) (es : List (Int × Value)), f + (b2n m + b2n n0 + b2n n1 + b2n n2 + b2n n3 + b2n n4 + b2n n5 + b2n n6 + b2n B0 + b2n B1) = 12 ∧ L = #[m, n0, n1, n2, n3, n4, true, true, true, true, true, true, true, true, true, true, true, true, true, true, true, true, true, true, B0, n5, true, true, true, B1, n6, false, false] ∧ a = ⟨#[.pointer (some ⟨g, 0, none⟩), undef, .slice none 0 0, .bool false, undef, undef, undef, u7, .pointer (some ⟨g, 0, none⟩), .pointer (some ⟨g, 0, none⟩), .pointer (some ⟨g, 4, none⟩), .pointer (some ⟨g, 0, none⟩), .pointer (some ⟨g, 0, none⟩), .pointer (some ⟨g, 5, none⟩), .pointer (some ⟨g, 0, none⟩), .pointer (some ⟨g, 0, none⟩), .pointer (some ⟨g, 6, none⟩), .pointer (some ⟨g, 0, none⟩), .pointer (some ⟨g, 0, none⟩), .pointer (some ⟨g, 7, none⟩), .pointer (some ⟨g, 0, none⟩), .pointer (some ⟨g, 0, none⟩), .pointer (some ⟨g, 8, none⟩), .pointer (some ⟨g, 0, none⟩), .pointer (some ⟨g, 0, none⟩), .pointer (some ⟨g, 9, none⟩), u26, .pointer (some ⟨g, 0, none⟩), .pointer (some ⟨g, 0, none⟩), .pointer (some ⟨g, 10, none⟩), u30, undef, undef, undef, undef, undef, undef, undef, undef, undef, undef, undef, undef], []⟩ ∧ ownE_St w0 w g m n0 n1 n2 n3 n4 n5 n6 B0 B1 r g0 g1 u7 u26 u30 es

set_option maxRecDepth 100000 in
set_option maxHeartbeats 4000000 in
theorem ownE_Walk {w : World} {g : Nat} {e : Ev} (hb : Bx w g (encV e) 23) (R : List Nat) (b : Bool) (hR : ownE_Tab e.kind R b) : Calls Try.prog 63 #[.pointer (some ⟨g, 0, none⟩)] w (RetOwn w g R b) := by
  have HB := Lib.hid hb
  clear hb
  replace hR := Lib.hid hR
  go_enter Try.func63, Try.ntmps63
  go_wp2_with fail
  refine held_start (S := fun _ => True) 33 rfl (by kernel_rfl) ?_
  refine held_move (i := 6) rfl (by kernel_rfl) (by kernel_rfl) (by kernel_rfl) _ rfl rfl trivial _ (by simp [Act.put]; rfl) ?_
  refine held_takeV (i := 7) rfl (by kernel_rfl) (by kernel_rfl) (by kernel_rfl) (.pointer (some ⟨g, 0, none⟩)) rfl (fun w hT => by go_simp) trivial _ (by simp [Act.put]; rfl) ?_
  refine held_takeV (i := 8) rfl (by kernel_rfl) (by kernel_rfl) (by kernel_rfl) (.pointer (some ⟨g, 4, none⟩)) rfl (fun w hT => by go_simp) trivial _ (by simp [Act.put]; rfl) ?_
  refine held_move (i := 9) rfl (by kernel_rfl) (by kernel_rfl) (by kernel_rfl) _ rfl rfl trivial _ (by simp [Act.put]; rfl) ?_
  refine held_takeV (i := 10) rfl (by kernel_rfl) (by kernel_rfl) (by kernel_rfl) (.pointer (some ⟨g, 0, none⟩)) rfl (fun w hT => by go_simp) trivial _ (by simp [Act.put]; rfl) ?_
  refine held_takeV (i := 11) rfl (by kernel_rfl) (by kernel_rfl) (by kernel_rfl) (.pointer (some ⟨g, 5, none⟩)) rfl (fun w hT => by go_simp) trivial _ (by simp [Act.put]; rfl) ?_
  refine held_move (i := 12) rfl (by kernel_rfl) (by kernel_rfl) (by kernel_rfl) _ rfl rfl trivial _ (by simp [Act.put]; rfl) ?_
  refine held_takeV (i := 13) rfl (by kernel_rfl) (by kernel_rfl) (by kernel_rfl) (.pointer (some ⟨g, 0, none⟩)) rfl (fun w hT => by go_simp) trivial _ (by simp [Act.put]; rfl) ?_
  refine held_takeV (i := 14) rfl (by kernel_rfl) (by kernel_rfl) (by kernel_rfl) (.pointer (some ⟨g, 6, none⟩)) rfl (fun w hT => by go_simp) trivial _ (by simp [Act.put]; rfl) ?_
  refine held_move (i := 15) rfl (by kernel_rfl) (by kernel_rfl) (by kernel_rfl) _ rfl rfl trivial _ (by simp [Act.put]; rfl) ?_
  refine held_takeV (i := 16) rfl (by kernel_rfl) (by kernel_rfl) (by kernel_rfl) (.pointer (some ⟨g, 0, none⟩)) rfl (fun w hT => by go_simp) trivial _ (by simp [Act.put]; rfl) ?_
  refine held_takeV (i := 17) rfl (by kernel_rfl) (by kernel_rfl) (by kernel_rfl) (.pointer (some ⟨g, 7, none⟩)) rfl (fun w hT => by go_simp) trivial _ (by simp [Act.put]; rfl) ?_
  refine held_move (i := 18) rfl (by kernel_rfl) (by kernel_rfl) (by kernel_rfl) _ rfl rfl trivial _ (by simp [Act.put]; rfl) ?_
  refine held_takeV (i := 19) rfl (by kernel_rfl) (by kernel_rfl) (by kernel_rfl) (.pointer (some ⟨g, 0, none⟩)) rfl (fun w hT => by go_simp) trivial _ (by simp [Act.put]; rfl) ?_
  refine held_takeV (i := 20) rfl (by kernel_rfl) (by kernel_rfl) (by kernel_rfl) (.pointer (some ⟨g, 8, none⟩)) rfl (fun w hT => by go_simp) trivial _ (by simp [Act.put]; rfl) ?_
  refine held_move (i := 21) rfl (by kernel_rfl) (by kernel_rfl) (by kernel_rfl) _ rfl rfl trivial _ (by simp [Act.put]; rfl) ?_
  refine held_takeV (i := 22) rfl (by kernel_rfl) (by kernel_rfl) (by kernel_rfl) (.pointer (some ⟨g, 0, none⟩)) rfl (fun w hT => by go_simp) trivial _ (by simp [Act.put]; rfl) ?_
  refine held_takeV (i := 23) rfl (by kernel_rfl) (by kernel_rfl) (by kernel_rfl) (.pointer (some ⟨g, 9, none⟩)) rfl (fun w hT => by go_simp) trivial _ (by simp [Act.put]; rfl) ?_
  refine held_move (i := 26) rfl (by kernel_rfl) (by kernel_rfl) (by kernel_rfl) _ rfl rfl trivial _ (by simp [Act.put]; rfl) ?_
  refine held_takeV (i := 27) rfl (by kernel_rfl) (by kernel_rfl) (by kernel_rfl) (.pointer (some ⟨g, 0, none⟩)) rfl (fun w hT => by go_simp) trivial _ (by simp [Act.put]; rfl) ?_
  refine held_takeV (i := 28) rfl (by kernel_rfl) (by kernel_rfl) (by kernel_rfl) (.pointer (some ⟨g, 10, none⟩)) rfl (fun w hT => by go_simp) trivial _ (by simp [Act.put]; rfl) ?_
  refine held_inv (ownE_I w g) ?_ 12 _ _ _ ⟨false, false, false, false, false, false, false, false, false, false, 0, 0, 0, undef, undef, undef, [], by simp [b2n], rfl, rfl, ?_⟩
  rotate_left
  · exact { ext := (Ext.refl w).drewN 1, hm := (fun h => nomatch h), hB0 := (fun h => nomatch h), hB1 := (fun h => nomatch h), mem := (by simp), dn0 := (fun h => nomatch h), dn1 := (fun h => nomatch h), dn2 := (fun h => nomatch h), dn3 := (fun h => nomatch h), dn4 := (fun h => nomatch h), dn5 := (fun h => nomatch h), dn6 := (fun h => nomatch h) }
  rintro f L a w1 ⟨m, n0, n1, n2, n3, n4, n5, n6, B0, B1, r, g0, g1, u7, u26, u30, es, hf, rfl, rfl, st⟩
  by_cases hall : m = true ∧ n0 = true ∧ n1 = true ∧ n2 = true ∧ n3 = true ∧ n4 = true ∧ n5 = true ∧ n6 = true ∧ B0 = true ∧ B1 = true
  · left
    obtain ⟨rfl, rfl, rfl, rfl, rfl, rfl, rfl, rfl, rfl, rfl⟩ := hall
    obtain ⟨rfl, hr, hM⟩ := st.hm rfl
    obtain ⟨rfl, _, xB0, yB0⟩ := st.hB0 rfl
    obtain ⟨rfl, _, xB1, yB1⟩ := st.hB1 rfl
    simp only [b2n_t, b2n_f] at hf
    obtain rfl : f = 2 := by omega
    have hmem := Lib.hid st.mem
    have HX := Lib.hid st.ext
    clear st
    refine held_move (i := 31) rfl (by kernel_rfl) (by kernel_rfl) (by kernel_rfl) _ rfl rfl trivial _ (by simp [Act.put]; rfl) ?_
    refine held_assign (i := 32) rfl (by kernel_rfl) (by kernel_rfl) (by kernel_rfl) _ rfl rfl trivial _ (by simp [Act.put]; rfl) ?_
    refine held_done (by kernel_rfl) ?_ _
    have ck := (HB.out.ext HX.out).cell 3 _ rfl
    have hz : (zeroValue 84).run Try.prog w1 = .ok (.slice none 0 0) w1 := by kernel_rfl
    have key : ∃ A n cap, (Instr.lookup 118 (.map (some r)) (.int .i64 e.kind) true).run Try.prog w1 = .ok (.tuple #[.slice A n cap, .bool b]) w1 ∧ Hid (n = R.length) ∧ Hid (Rw encA 1 w1 A (ptrs g R)) ∧ Hid (∀ b off, A = some ⟨b, off, none⟩ → w.heap.size ≤ b) := by
      obtain ⟨k, hk⟩ : ∃ k, e.kind = k := ⟨_, rfl⟩
      have hT := hR.out
      rw [hk] at hT ⊢
      clear hk ck
      by_cases hk1 : k = 1
      · subst hk1
        obtain ⟨rfl, rfl⟩ : R = [] ∧ b = true := by simpa [ownE_Tab] using hT
        exact ⟨_, _, _, run_lookup_some hM Try.underlying118 Try.underlying3 1 (.slice none 0 0) ((hmem.out _).2 (by simp)) (fun p hp hq => by have := (hmem.out p).1 hp; simp at this; rcases this with rfl | rfl | rfl | rfl | rfl | rfl | rfl <;> first | rfl | (simp at hq)), rfl, Rw.nil, fun _ _ h => nomatch h⟩
      by_cases hk2 : k = 2
      · subst hk2
        obtain ⟨rfl, rfl⟩ : R = [] ∧ b = true := by simpa [ownE_Tab] using hT
        exact ⟨_, _, _, run_lookup_some hM Try.underlying118 Try.underlying3 2 (.slice none 0 0) ((hmem.out _).2 (by simp)) (fun p hp hq => by have := (hmem.out p).1 hp; simp at this; rcases this with rfl | rfl | rfl | rfl | rfl | rfl | rfl <;> first | rfl | (simp at hq)), rfl, Rw.nil, fun _ _ h => nomatch h⟩
      by_cases hk5 : k = 5
      · subst hk5
        obtain ⟨rfl, rfl⟩ : R = [] ∧ b = true := by simpa [ownE_Tab] using hT
        exact ⟨_, _, _, run_lookup_some hM Try.underlying118 Try.underlying3 5 (.slice none 0 0) ((hmem.out _).2 (by simp)) (fun p hp hq => by have := (hmem.out p).1 hp; simp at this; rcases this with rfl | rfl | rfl | rfl | rfl | rfl | rfl <;> first | rfl | (simp at hq)), rfl, Rw.nil, fun _ _ h => nomatch h⟩
      by_cases hk6 : k = 6
      · subst hk6
        obtain ⟨rfl, rfl⟩ : R = [] ∧ b = true := by simpa [ownE_Tab] using hT
        exact ⟨_, _, _, run_lookup_some hM Try.underlying118 Try.underlying3 6 (.slice none 0 0) ((hmem.out _).2 (by simp)) (fun p hp hq => by have := (hmem.out p).1 hp; simp at this; rcases this with rfl | rfl | rfl | rfl | rfl | rfl | rfl <;> first | rfl | (simp at hq)), rfl, Rw.nil, fun _ _ h => nomatch h⟩
      by_cases hk7 : k = 7
      · subst hk7
        obtain ⟨rfl, rfl⟩ : R = [] ∧ b = true := by simpa [ownE_Tab] using hT
        exact ⟨_, _, _, run_lookup_some hM Try.underlying118 Try.underlying3 7 (.slice none 0 0) ((hmem.out _).2 (by simp)) (fun p hp hq => by have := (hmem.out p).1 hp; simp at this; rcases this with rfl | rfl | rfl | rfl | rfl | rfl | rfl <;> first | rfl | (simp at hq)), rfl, Rw.nil, fun _ _ h => nomatch h⟩
      by_cases hk3 : k = 3
      · subst hk3
        obtain ⟨rfl, rfl⟩ : R = [4, 5, 6, 7, 8, 9] ∧ b = true := by simpa [ownE_Tab] using hT
        exact ⟨_, _, _, run_lookup_some hM Try.underlying118 Try.underlying3 3 (.slice (some ⟨g0, 0, none⟩) 6 6) ((hmem.out _).2 (by simp)) (fun p hp hq => by have := (hmem.out p).1 hp; simp at this; rcases this with rfl | rfl | rfl | rfl | rfl | rfl | rfl <;> first | rfl | (simp at hq)), rfl, rw_of_bx xB0 rfl, fun _ _ h => by cases h; exact yB0⟩
      by_cases hk4 : k = 4
      · subst hk4
        obtain ⟨rfl, rfl⟩ : R = [10] ∧ b = true := by simpa [ownE_Tab] using hT
        exact ⟨_, _, _, run_lookup_some hM Try.underlying118 Try.underlying3 4 (.slice (some ⟨g1, 0, none⟩) 1 1) ((hmem.out _).2 (by simp)) (fun p hp hq => by have := (hmem.out p).1 hp; simp at this; rcases this with rfl | rfl | rfl | rfl | rfl | rfl | rfl <;> first | rfl | (simp at hq)), rfl, rw_of_bx xB1 rfl, fun _ _ h => by cases h; exact yB1⟩
      obtain ⟨rfl, rfl⟩ : R = [] ∧ b = false := by have hF := hT; simp [ownE_Tab, hk1, hk2, hk5, hk6, hk7, hk3, hk4] at hF; refine ⟨hF.1, ?_⟩; rw [hF.2]; simp; omega
      exact ⟨none, 0, 0, run_lookup_none hM Try.underlying118 Try.underlying3 k (fun p hp => by have := (hmem.out p).1 hp; simp at this; rcases this with rfl | rfl | rfl | rfl | rfl | rfl | rfl <;> exact Ne.symm (by assumption)) _ hz, rfl, Rw.nil, fun _ _ h => nomatch h⟩
    obtain ⟨A, n, cap, hl, hn, hA, hB⟩ := key
    clear hmem hM hz xB0 xB1
    go_wp2_with fail
    go_ret2
    exact ⟨A, n, cap, rfl, hn.out, hA.out, HX.out, hB.out⟩
  · right
    have hcnt : ∃ h, f = h + 1 := ⟨f - 1, by
      have := b2n_le m; have := b2n_le n0; have := b2n_le n1; have := b2n_le n2; have := b2n_le n3; have := b2n_le n4; have := b2n_le n5; have := b2n_le n6; have := b2n_le B0; have := b2n_le B1
      omega⟩
    obtain ⟨h, rfl⟩ := hcnt
    refine ⟨h, rfl, ?_, ?_⟩
    · cases m
      · exact List.ne_nil_of_mem (ready_mem (i := 0) (by decide) (by kernel_rfl))
      · cases B0
        · exact List.ne_nil_of_mem (ready_mem (i := 24) (by decide) (by kernel_rfl))
        · cases B1
          · exact List.ne_nil_of_mem (ready_mem (i := 29) (by decide) (by kernel_rfl))
          · cases n0
            · exact List.ne_nil_of_mem (ready_mem (i := 1) (by decide) (by kernel_rfl))
            · cases n1
              · exact List.ne_nil_of_mem (ready_mem (i := 2) (by decide) (by kernel_rfl))
              · cases n2
                · exact List.ne_nil_of_mem (ready_mem (i := 3) (by decide) (by kernel_rfl))
                · cases n3
                  · exact List.ne_nil_of_mem (ready_mem (i := 4) (by decide) (by kernel_rfl))
                  · cases n4
                    · exact List.ne_nil_of_mem (ready_mem (i := 5) (by decide) (by kernel_rfl))
                    · cases n5
                      · exact List.ne_nil_of_mem (ready_mem (i := 25) (by decide) (by kernel_rfl))
                      · cases n6
                        · exact List.ne_nil_of_mem (ready_mem (i := 30) (by decide) (by kernel_rfl))
                        · exact absurd ⟨rfl, rfl, rfl, rfl, rfl, rfl, rfl, rfl, rfl, rfl⟩ hall
    · intro i hi
      have hlt : i < 33 := ready_lt hi
      have h0 : i = 0 ∨ i = 1 ∨ i = 2 ∨ i = 3 ∨ i = 4 ∨ i = 5 ∨ i = 6 ∨ i = 7 ∨ i = 8 ∨ i = 9 ∨ i = 10 ∨ i = 11 ∨ i = 12 ∨ i = 13 ∨ i = 14 ∨ i = 15 ∨ i = 16 ∨ i = 17 ∨ i = 18 ∨ i = 19 ∨ i = 20 ∨ i = 21 ∨ i = 22 ∨ i = 23 ∨ i = 24 ∨ i = 25 ∨ i = 26 ∨ i = 27 ∨ i = 28 ∨ i = 29 ∨ i = 30 ∨ i = 31 ∨ i = 32 := by omega
      clear hlt
      rcases h0 with rfl | rfl | rfl | rfl | rfl | rfl | rfl | rfl | rfl | rfl | rfl | rfl | rfl | rfl | rfl | rfl | rfl | rfl | rfl | rfl | rfl | rfl | rfl | rfl | rfl | rfl | rfl | rfl | rfl | rfl | rfl | rfl | rfl
      · obtain rfl : m = false := ready_self hi
        refine wpOp_in rfl rfl (wp_makeMap rfl ?_)
        have hes : es = [] := List.eq_nil_iff_forall_not_mem.2 fun p hp => by
          rcases (st.mem p).1 hp with ⟨q, _⟩ | ⟨q, _⟩ | ⟨q, _⟩ | ⟨q, _⟩ | ⟨q, _⟩ | ⟨q, _⟩ | ⟨q, _⟩
          · exact nomatch ((st.dn0 q))
          · exact nomatch ((st.dn1 q))
          · exact nomatch ((st.dn2 q))
          · exact nomatch ((st.dn3 q))
          · exact nomatch ((st.dn4 q))
          · exact nomatch ((st.dn5 q).1)
          · exact nomatch ((st.dn6 q).1)
        subst hes
        refine ⟨true, n0, n1, n2, n3, n4, n5, n6, B0, B1, w1.heap.size, g0, g1, _, u26, u30, [], by simp only [b2n_t, b2n_f] at hf ⊢; omega, rfl, rfl, ?_⟩
        exact { ext := st.ext.alloc _, hm := (fun _ => ⟨rfl, st.ext.size, MapAt.new w1⟩), hB0 := (fun q => ⟨(st.hB0 q).1, fun _ => Nat.ne_of_lt (st.hB0 q).2.2.1.lt, (st.hB0 q).2.2.1.alloc _, (st.hB0 q).2.2.2⟩), hB1 := (fun q => ⟨(st.hB1 q).1, fun _ => Nat.ne_of_lt (st.hB1 q).2.2.1.lt, (st.hB1 q).2.2.1.alloc _, (st.hB1 q).2.2.2⟩), mem := st.mem, dn0 := (fun q => rfl), dn1 := (fun q => rfl), dn2 := (fun q => rfl), dn3 := (fun q => rfl), dn4 := (fun q => rfl), dn5 := (fun q => ⟨rfl, (st.dn5 q).2⟩), dn6 := (fun q => ⟨rfl, (st.dn6 q).2⟩) }
      · obtain rfl : n0 = false := ready_self hi
        obtain rfl : m = true := ready_dep (j := 0) _ rfl (by kernel_rfl) hi
        obtain ⟨hu, hr, hM⟩ := st.hm rfl
        subst hu
        refine wpOp_in rfl rfl (wp_insert _ _ _ rfl Try.underlying118 Try.underlying3 (by rfl) 1 (by rfl) _ (by rfl) hM (fun p hp hq => ?_) rfl ?_)
        · have := (st.mem p).1 hp
          simp at this
          rcases this with ⟨_, this⟩ | ⟨_, this⟩ | ⟨_, this⟩ | ⟨_, this⟩ | ⟨_, this⟩ | ⟨_, this⟩ <;> (rw [this] at hq; simp at hq)
        intro o' hM'
        refine ⟨true, true, n1, n2, n3, n4, n5, n6, B0, B1, r, g0, g1, .map (some r), u26, u30, es ++ [(1, .slice none 0 0)], by simp only [b2n_t, b2n_f] at hf ⊢; omega, rfl, rfl, ?_⟩
        exact { ext := below_put st.ext hr o', hm := (fun _ => ⟨rfl, hr, hM'⟩), hB0 := (fun q => ⟨(st.hB0 q).1, fun _ => (st.hB0 q).2.1 rfl, bx_put (st.hB0 q).2.2.1 ((st.hB0 q).2.1 rfl) o', (st.hB0 q).2.2.2⟩), hB1 := (fun q => ⟨(st.hB1 q).1, fun _ => (st.hB1 q).2.1 rfl, bx_put (st.hB1 q).2.2.1 ((st.hB1 q).2.1 rfl) o', (st.hB1 q).2.2.2⟩), mem := (fun p => by rw [List.mem_append, st.mem p]; simp; try grind), dn0 := (fun q => rfl), dn1 := (fun q => rfl), dn2 := (fun q => rfl), dn3 := (fun q => rfl), dn4 := (fun q => rfl), dn5 := (fun q => ⟨rfl, (st.dn5 q).2⟩), dn6 := (fun q => ⟨rfl, (st.dn6 q).2⟩) }
      · obtain rfl : n1 = false := ready_self hi
        obtain rfl : m = true := ready_dep (j := 0) _ rfl (by kernel_rfl) hi
        obtain ⟨hu, hr, hM⟩ := st.hm rfl
        subst hu
        refine wpOp_in rfl rfl (wp_insert _ _ _ rfl Try.underlying118 Try.underlying3 (by rfl) 2 (by rfl) _ (by rfl) hM (fun p hp hq => ?_) rfl ?_)
        · have := (st.mem p).1 hp
          simp at this
          rcases this with ⟨_, this⟩ | ⟨_, this⟩ | ⟨_, this⟩ | ⟨_, this⟩ | ⟨_, this⟩ | ⟨_, this⟩ <;> (rw [this] at hq; simp at hq)
        intro o' hM'
        refine ⟨true, n0, true, n2, n3, n4, n5, n6, B0, B1, r, g0, g1, .map (some r), u26, u30, es ++ [(2, .slice none 0 0)], by simp only [b2n_t, b2n_f] at hf ⊢; omega, rfl, rfl, ?_⟩
        exact { ext := below_put st.ext hr o', hm := (fun _ => ⟨rfl, hr, hM'⟩), hB0 := (fun q => ⟨(st.hB0 q).1, fun _ => (st.hB0 q).2.1 rfl, bx_put (st.hB0 q).2.2.1 ((st.hB0 q).2.1 rfl) o', (st.hB0 q).2.2.2⟩), hB1 := (fun q => ⟨(st.hB1 q).1, fun _ => (st.hB1 q).2.1 rfl, bx_put (st.hB1 q).2.2.1 ((st.hB1 q).2.1 rfl) o', (st.hB1 q).2.2.2⟩), mem := (fun p => by rw [List.mem_append, st.mem p]; simp; try grind), dn0 := (fun q => rfl), dn1 := (fun q => rfl), dn2 := (fun q => rfl), dn3 := (fun q => rfl), dn4 := (fun q => rfl), dn5 := (fun q => ⟨rfl, (st.dn5 q).2⟩), dn6 := (fun q => ⟨rfl, (st.dn6 q).2⟩) }
      · obtain rfl : n2 = false := ready_self hi
        obtain rfl : m = true := ready_dep (j := 0) _ rfl (by kernel_rfl) hi
        obtain ⟨hu, hr, hM⟩ := st.hm rfl
        subst hu
        refine wpOp_in rfl rfl (wp_insert _ _ _ rfl Try.underlying118 Try.underlying3 (by rfl) 5 (by rfl) _ (by rfl) hM (fun p hp hq => ?_) rfl ?_)
        · have := (st.mem p).1 hp
          simp at this
          rcases this with ⟨_, this⟩ | ⟨_, this⟩ | ⟨_, this⟩ | ⟨_, this⟩ | ⟨_, this⟩ | ⟨_, this⟩ <;> (rw [this] at hq; simp at hq)
        intro o' hM'
        refine ⟨true, n0, n1, true, n3, n4, n5, n6, B0, B1, r, g0, g1, .map (some r), u26, u30, es ++ [(5, .slice none 0 0)], by simp only [b2n_t, b2n_f] at hf ⊢; omega, rfl, rfl, ?_⟩
        exact { ext := below_put st.ext hr o', hm := (fun _ => ⟨rfl, hr, hM'⟩), hB0 := (fun q => ⟨(st.hB0 q).1, fun _ => (st.hB0 q).2.1 rfl, bx_put (st.hB0 q).2.2.1 ((st.hB0 q).2.1 rfl) o', (st.hB0 q).2.2.2⟩), hB1 := (fun q => ⟨(st.hB1 q).1, fun _ => (st.hB1 q).2.1 rfl, bx_put (st.hB1 q).2.2.1 ((st.hB1 q).2.1 rfl) o', (st.hB1 q).2.2.2⟩), mem := (fun p => by rw [List.mem_append, st.mem p]; simp; try grind), dn0 := (fun q => rfl), dn1 := (fun q => rfl), dn2 := (fun q => rfl), dn3 := (fun q => rfl), dn4 := (fun q => rfl), dn5 := (fun q => ⟨rfl, (st.dn5 q).2⟩), dn6 := (fun q => ⟨rfl, (st.dn6 q).2⟩) }
      · obtain rfl : n3 = false := ready_self hi
        obtain rfl : m = true := ready_dep (j := 0) _ rfl (by kernel_rfl) hi
        obtain ⟨hu, hr, hM⟩ := st.hm rfl
        subst hu
        refine wpOp_in rfl rfl (wp_insert _ _ _ rfl Try.underlying118 Try.underlying3 (by rfl) 6 (by rfl) _ (by rfl) hM (fun p hp hq => ?_) rfl ?_)
        · have := (st.mem p).1 hp
          simp at this
          rcases this with ⟨_, this⟩ | ⟨_, this⟩ | ⟨_, this⟩ | ⟨_, this⟩ | ⟨_, this⟩ | ⟨_, this⟩ <;> (rw [this] at hq; simp at hq)
        intro o' hM'
        refine ⟨true, n0, n1, n2, true, n4, n5, n6, B0, B1, r, g0, g1, .map (some r), u26, u30, es ++ [(6, .slice none 0 0)], by simp only [b2n_t, b2n_f] at hf ⊢; omega, rfl, rfl, ?_⟩
        exact { ext := below_put st.ext hr o', hm := (fun _ => ⟨rfl, hr, hM'⟩), hB0 := (fun q => ⟨(st.hB0 q).1, fun _ => (st.hB0 q).2.1 rfl, bx_put (st.hB0 q).2.2.1 ((st.hB0 q).2.1 rfl) o', (st.hB0 q).2.2.2⟩), hB1 := (fun q => ⟨(st.hB1 q).1, fun _ => (st.hB1 q).2.1 rfl, bx_put (st.hB1 q).2.2.1 ((st.hB1 q).2.1 rfl) o', (st.hB1 q).2.2.2⟩), mem := (fun p => by rw [List.mem_append, st.mem p]; simp; try grind), dn0 := (fun q => rfl), dn1 := (fun q => rfl), dn2 := (fun q => rfl), dn3 := (fun q => rfl), dn4 := (fun q => rfl), dn5 := (fun q => ⟨rfl, (st.dn5 q).2⟩), dn6 := (fun q => ⟨rfl, (st.dn6 q).2⟩) }
      · obtain rfl : n4 = false := ready_self hi
        obtain rfl : m = true := ready_dep (j := 0) _ rfl (by kernel_rfl) hi
        obtain ⟨hu, hr, hM⟩ := st.hm rfl
        subst hu
        refine wpOp_in rfl rfl (wp_insert _ _ _ rfl Try.underlying118 Try.underlying3 (by rfl) 7 (by rfl) _ (by rfl) hM (fun p hp hq => ?_) rfl ?_)
        · have := (st.mem p).1 hp
          simp at this
          rcases this with ⟨_, this⟩ | ⟨_, this⟩ | ⟨_, this⟩ | ⟨_, this⟩ | ⟨_, this⟩ | ⟨_, this⟩ <;> (rw [this] at hq; simp at hq)
        intro o' hM'
        refine ⟨true, n0, n1, n2, n3, true, n5, n6, B0, B1, r, g0, g1, .map (some r), u26, u30, es ++ [(7, .slice none 0 0)], by simp only [b2n_t, b2n_f] at hf ⊢; omega, rfl, rfl, ?_⟩
        exact { ext := below_put st.ext hr o', hm := (fun _ => ⟨rfl, hr, hM'⟩), hB0 := (fun q => ⟨(st.hB0 q).1, fun _ => (st.hB0 q).2.1 rfl, bx_put (st.hB0 q).2.2.1 ((st.hB0 q).2.1 rfl) o', (st.hB0 q).2.2.2⟩), hB1 := (fun q => ⟨(st.hB1 q).1, fun _ => (st.hB1 q).2.1 rfl, bx_put (st.hB1 q).2.2.1 ((st.hB1 q).2.1 rfl) o', (st.hB1 q).2.2.2⟩), mem := (fun p => by rw [List.mem_append, st.mem p]; simp; try grind), dn0 := (fun q => rfl), dn1 := (fun q => rfl), dn2 := (fun q => rfl), dn3 := (fun q => rfl), dn4 := (fun q => rfl), dn5 := (fun q => ⟨rfl, (st.dn5 q).2⟩), dn6 := (fun q => ⟨rfl, (st.dn6 q).2⟩) }
      · exact Bool.noConfusion (show true = false from ready_self hi)
      · exact Bool.noConfusion (show true = false from ready_self hi)
      · exact Bool.noConfusion (show true = false from ready_self hi)
      · exact Bool.noConfusion (show true = false from ready_self hi)
      · exact Bool.noConfusion (show true = false from ready_self hi)
      · exact Bool.noConfusion (show true = false from ready_self hi)
      · exact Bool.noConfusion (show true = false from ready_self hi)
      · exact Bool.noConfusion (show true = false from ready_self hi)
      · exact Bool.noConfusion (show true = false from ready_self hi)
      · exact Bool.noConfusion (show true = false from ready_self hi)
      · exact Bool.noConfusion (show true = false from ready_self hi)
      · exact Bool.noConfusion (show true = false from ready_self hi)
      · exact Bool.noConfusion (show true = false from ready_self hi)
      · exact Bool.noConfusion (show true = false from ready_self hi)
      · exact Bool.noConfusion (show true = false from ready_self hi)
      · exact Bool.noConfusion (show true = false from ready_self hi)
      · exact Bool.noConfusion (show true = false from ready_self hi)
      · exact Bool.noConfusion (show true = false from ready_self hi)
      · obtain rfl : B0 = false := ready_self hi
        have hdep : n5 = false := by
          cases hq : n5
          · rfl
          · exact nomatch (st.dn5 hq).2
        subst hdep
        refine wpOp_in rfl rfl ?_
        go_wp2_with fail
        refine ⟨m, n0, n1, n2, n3, n4, false, n6, true, B1, r, w1.heap.size, g1, u7, _, u30, es, by simp only [b2n_t, b2n_f] at hf ⊢; omega, rfl, rfl, ?_⟩
        exact { ext := st.ext.alloc _, hm := (fun q => ⟨(st.hm q).1, (st.hm q).2.1, (st.hm q).2.2.alloc _⟩), hB0 := (fun _ => ⟨rfl, fun q => Nat.ne_of_gt (st.hm q).2.2.lt, Bx.new w1 _ _, st.ext.size⟩), hB1 := (fun q => ⟨(st.hB1 q).1, (st.hB1 q).2.1, (st.hB1 q).2.2.1.alloc _, (st.hB1 q).2.2.2⟩), mem := (fun p => by have := st.mem p; simpa using this), dn0 := (fun q => st.dn0 q), dn1 := (fun q => st.dn1 q), dn2 := (fun q => st.dn2 q), dn3 := (fun q => st.dn3 q), dn4 := (fun q => st.dn4 q), dn5 := (fun q => nomatch q), dn6 := (fun q => st.dn6 q) }
      · obtain rfl : n5 = false := ready_self hi
        obtain rfl : m = true := ready_dep (j := 0) _ rfl (by kernel_rfl) hi
        obtain rfl : B0 = true := ready_dep (j := 24) _ rfl (by kernel_rfl) hi
        obtain ⟨hu, hr, hM⟩ := st.hm rfl
        subst hu
        refine wpOp_in rfl rfl (wp_insert _ _ _ rfl Try.underlying118 Try.underlying3 (by rfl) 3 (by rfl) _ (by rfl) hM (fun p hp hq => ?_) rfl ?_)
        · have := (st.mem p).1 hp
          simp at this
          rcases this with ⟨_, this⟩ | ⟨_, this⟩ | ⟨_, this⟩ | ⟨_, this⟩ | ⟨_, this⟩ | ⟨_, this⟩ <;> (rw [this] at hq; simp at hq)
        intro o' hM'
        refine ⟨true, n0, n1, n2, n3, n4, true, n6, true, B1, r, g0, g1, .map (some r), u26, u30, es ++ [(3, u26)], by simp only [b2n_t, b2n_f] at hf ⊢; omega, rfl, rfl, ?_⟩
        exact { ext := below_put st.ext hr o', hm := (fun _ => ⟨rfl, hr, hM'⟩), hB0 := (fun q => ⟨(st.hB0 q).1, fun _ => (st.hB0 q).2.1 rfl, bx_put (st.hB0 q).2.2.1 ((st.hB0 q).2.1 rfl) o', (st.hB0 q).2.2.2⟩), hB1 := (fun q => ⟨(st.hB1 q).1, fun _ => (st.hB1 q).2.1 rfl, bx_put (st.hB1 q).2.2.1 ((st.hB1 q).2.1 rfl) o', (st.hB1 q).2.2.2⟩), mem := (fun p => by rw [List.mem_append, st.mem p]; simp; try grind), dn0 := (fun q => rfl), dn1 := (fun q => rfl), dn2 := (fun q => rfl), dn3 := (fun q => rfl), dn4 := (fun q => rfl), dn5 := (fun q => ⟨rfl, rfl⟩), dn6 := (fun q => ⟨rfl, (st.dn6 q).2⟩) }
      · exact Bool.noConfusion (show true = false from ready_self hi)
      · exact Bool.noConfusion (show true = false from ready_self hi)
      · exact Bool.noConfusion (show true = false from ready_self hi)
      · obtain rfl : B1 = false := ready_self hi
        have hdep : n6 = false := by
          cases hq : n6
          · rfl
          · exact nomatch (st.dn6 hq).2
        subst hdep
        refine wpOp_in rfl rfl ?_
        go_wp2_with fail
        refine ⟨m, n0, n1, n2, n3, n4, n5, false, B0, true, r, g0, w1.heap.size, u7, u26, _, es, by simp only [b2n_t, b2n_f] at hf ⊢; omega, rfl, rfl, ?_⟩
        exact { ext := st.ext.alloc _, hm := (fun q => ⟨(st.hm q).1, (st.hm q).2.1, (st.hm q).2.2.alloc _⟩), hB0 := (fun q => ⟨(st.hB0 q).1, (st.hB0 q).2.1, (st.hB0 q).2.2.1.alloc _, (st.hB0 q).2.2.2⟩), hB1 := (fun _ => ⟨rfl, fun q => Nat.ne_of_gt (st.hm q).2.2.lt, Bx.new w1 _ _, st.ext.size⟩), mem := (fun p => by have := st.mem p; simpa using this), dn0 := (fun q => st.dn0 q), dn1 := (fun q => st.dn1 q), dn2 := (fun q => st.dn2 q), dn3 := (fun q => st.dn3 q), dn4 := (fun q => st.dn4 q), dn5 := (fun q => st.dn5 q), dn6 := (fun q => nomatch q) }
      · obtain rfl : n6 = false := ready_self hi
        obtain rfl : m = true := ready_dep (j := 0) _ rfl (by kernel_rfl) hi
        obtain rfl : B1 = true := ready_dep (j := 29) _ rfl (by kernel_rfl) hi
        obtain ⟨hu, hr, hM⟩ := st.hm rfl
        subst hu
        refine wpOp_in rfl rfl (wp_insert _ _ _ rfl Try.underlying118 Try.underlying3 (by rfl) 4 (by rfl) _ (by rfl) hM (fun p hp hq => ?_) rfl ?_)
        · have := (st.mem p).1 hp
          simp at this
          rcases this with ⟨_, this⟩ | ⟨_, this⟩ | ⟨_, this⟩ | ⟨_, this⟩ | ⟨_, this⟩ | ⟨_, this⟩ <;> (rw [this] at hq; simp at hq)
        intro o' hM'
        refine ⟨true, n0, n1, n2, n3, n4, n5, true, B0, true, r, g0, g1, .map (some r), u26, u30, es ++ [(4, u30)], by simp only [b2n_t, b2n_f] at hf ⊢; omega, rfl, rfl, ?_⟩
        exact { ext := below_put st.ext hr o', hm := (fun _ => ⟨rfl, hr, hM'⟩), hB0 := (fun q => ⟨(st.hB0 q).1, fun _ => (st.hB0 q).2.1 rfl, bx_put (st.hB0 q).2.2.1 ((st.hB0 q).2.1 rfl) o', (st.hB0 q).2.2.2⟩), hB1 := (fun q => ⟨(st.hB1 q).1, fun _ => (st.hB1 q).2.1 rfl, bx_put (st.hB1 q).2.2.1 ((st.hB1 q).2.1 rfl) o', (st.hB1 q).2.2.2⟩), mem := (fun p => by rw [List.mem_append, st.mem p]; simp; try grind), dn0 := (fun q => rfl), dn1 := (fun q => rfl), dn2 := (fun q => rfl), dn3 := (fun q => rfl), dn4 := (fun q => rfl), dn5 := (fun q => ⟨rfl, (st.dn5 q).2⟩), dn6 := (fun q => ⟨rfl, rfl⟩) }
      · have z0 : m = true := ready_dep (j := 0) _ rfl (by kernel_rfl) hi
        have z1 : n0 = true := ready_dep (j := 1) _ rfl (by kernel_rfl) hi
        have z2 : n1 = true := ready_dep (j := 2) _ rfl (by kernel_rfl) hi
        have z3 : n2 = true := ready_dep (j := 3) _ rfl (by kernel_rfl) hi
        have z4 : n3 = true := ready_dep (j := 4) _ rfl (by kernel_rfl) hi
        have z5 : n4 = true := ready_dep (j := 5) _ rfl (by kernel_rfl) hi
        have z6 : n5 = true := ready_dep (j := 25) _ rfl (by kernel_rfl) hi
        have z7 : n6 = true := ready_dep (j := 30) _ rfl (by kernel_rfl) hi
        have z8 : B0 = true := ready_dep (j := 24) _ rfl (by kernel_rfl) hi
        have z9 : B1 = true := ready_dep (j := 29) _ rfl (by kernel_rfl) hi
        exact absurd ⟨z0, z1, z2, z3, z4, z5, z6, z7, z8, z9⟩ hall
      · exact Bool.noConfusion (show false = true from ready_dep (j := 31) _ rfl (by kernel_rfl) hi)
end Go.Proofs.Ytmbjbbflhlndcaa
