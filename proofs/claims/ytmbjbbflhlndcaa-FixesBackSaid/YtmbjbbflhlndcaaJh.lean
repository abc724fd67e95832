/-
  lumperref05.Take.
-/
import Derived.Test.YtmbjbbflhlndcaaJg
namespace Go.Proofs.Ytmbjbbflhlndcaa
open Go.RowKit BigFrame
set_option linter.unusedVariables false
set_option linter.unusedSimpArgs false

theorem valB_cons (x : UInt8) (r : List UInt8) : valB (x :: r) = x.toNat * 256 ^ r.length + valB r := by
  refine snoc_ind (p := fun r => valB (x :: r) = x.toNat * 256 ^ r.length + valB r) (by simp [valB]) (fun r c ih => ?_) r
  rw [← List.cons_append, valB_snoc, valB_snoc, ih, List.length_append, List.length_singleton, Nat.pow_succ, Nat.add_mul, Nat.mul_assoc]
  omega
theorem need_lead {x : UInt8} {r : List UInt8} : needN (valB (x :: r)) = r.length + 1 ↔ x.toNat ≠ 0 := by
  have h1 := valB_cons x r
  have h2 := valB_lt r
  have h3 := valB_lt (x :: r)
  rw [List.length_cons] at h3
  constructor
  · intro h h0
    rw [h0, Nat.zero_mul, Nat.zero_add] at h1
    have := needN_le (n := valB (x :: r)) (k := r.length) (by omega)
    omega
  · intro h
    have h4 : 256 ^ r.length ≤ valB (x :: r) := by
      have : 1 * 256 ^ r.length ≤ x.toNat * 256 ^ r.length := Nat.mul_le_mul_right _ (by omega)
      omega
    have h5 := needN_le h3
    rcases Nat.lt_or_ge (needN (valB (x :: r))) (r.length + 1) with h6 | h6
    · have h7 := lt_needN (valB (x :: r))
      have : (256 : Nat) ^ needN (valB (x :: r)) ≤ 256 ^ r.length := Nat.pow_le_pow_right (by decide) (by omega)
      omega
    · omega
theorem val_half {x : UInt8} {r : List UInt8} (h : r.length ≤ 7) : valB (x :: r) < 9223372036854775808 ↔ ¬ (r.length = 7 ∧ 128 ≤ x.toNat) := by
  have h1 := valB_cons x r
  have h2 := valB_lt r
  have hx := x.toNat_lt
  constructor
  · rintro h3 ⟨h4, h5⟩
    rw [h4] at h1
    have : 128 * 256 ^ 7 ≤ x.toNat * 256 ^ 7 := Nat.mul_le_mul_right _ h5
    have e : (128 : Nat) * 256 ^ 7 = 9223372036854775808 := by decide
    omega
  · intro h3
    rcases Nat.lt_or_ge r.length 7 with h4 | h4
    · have h5 := valB_lt (x :: r)
      have : (256 : Nat) ^ (x :: r).length ≤ 256 ^ 7 := Nat.pow_le_pow_right (by decide) (by rw [List.length_cons]; omega)
      have e : (256 : Nat) ^ 7 = 72057594037927936 := by decide
      omega
    · have h6 : r.length = 7 := by omega
      rw [h6] at h1 h2
      have : x.toNat * 256 ^ 7 ≤ 127 * 256 ^ 7 := Nat.mul_le_mul_right _ (by omega)
      have e : (127 : Nat) * 256 ^ 7 = 9151314442816847872 := by decide
      have e2 : (256 : Nat) ^ 7 = 72057594037927936 := by decide
      omega
theorem valB_mono (l m : List UInt8) : valB l ≤ valB (l ++ m) := by
  refine snoc_ind (p := fun m => valB l ≤ valB (l ++ m)) (by simp) (fun m c ih => ?_) m
  rw [← List.append_assoc, valB_snoc]; omega
theorem valB_take {l : List UInt8} {i j : Nat} (h : i ≤ j) : valB (l.take i) ≤ valB (l.take j) := by
  have : l.take j = l.take i ++ (l.drop i).take (j - i) := by
    rw [← List.take_add, show i + (j - i) = j by omega]
  rw [this]; exact valB_mono _ _

/-- What lies in one block. -/
def SameBlk (A A' : Option Addr) : Prop := ∀ a', A' = some a' → ∃ a, A = some a ∧ a.block = a'.block
theorem addr_add_block (a : Addr) (n : Nat) : (a.add n).block = a.block := by unfold Addr.add; split <;> rfl
section
variable {α : Type}
theorem slice_loP (S : TypeId) (k : Nat) {enc : α → List Value} (ht : Try.prog.underlying S = some (.slice (Try.prog.elem S))) (hs : ∀ w : World, (sizeOf (Try.prog.elem S)).run Try.prog w = .ok k w)
    {A : Option Addr} {O : List α} {n c j : Nat} (hn : n = O.length) (hj : j ≤ n) (hc : n ≤ c) : ∃ A' c' nD, Hid (nD = (O.drop j).length) ∧ (nD ≤ c' ∧ c' ≤ c ∧ SameBlk A A') ∧ (∀ w : World, (Instr.sliceAt S (.slice A n c) (some (.int .i64 j)) none none).run Try.prog w = .ok (.slice A' nD c') w) ∧ ∀ w, Rw enc k w A O → Rw enc k w A' (O.drop j) := by
  subst hn
  refine ⟨if c = j then A else A.map (·.add (j * k)), c - j, (O.drop j).length, (rfl : _ = _), ⟨by simp; omega, by omega, ?_⟩, fun w => ?_, fun w h => h.dropC hc⟩
  · intro a' h
    split at h
    · exact ⟨a', h, rfl⟩
    · cases A with
      | none => cases h
      | some a => cases h; exact ⟨a, rfl, (addr_add_block a _).symm⟩
  · rw [run_sliceAt_slice (h := ht), run_slice_l (ht := ht) (h0 := by omega) (h1 := by omega), hs w]
    simp [Result.andThen, sliced]
end
/-- What a call leaves that takes a number: what is behind lies where it lay. -/
def RetTkP (w : World) (A0 : Option Addr) (c0 : Nat) (r : Option (Nat × List UInt8)) (e : Ending) (w' : World) : Prop := Ext w w' ∧ match r with
  | none => e = .returned (.tuple #[.int .i64 0, .slice none 0 0, .int .i64 50])
  | some (n, s) => ∃ A cap, e = .returned (.tuple #[.int .i64 n, .slice A s.length cap, .int .i64 0]) ∧ Rb w' A s ∧ s.length ≤ cap ∧ cap ≤ c0 ∧ SameBlk A0 A

set_option maxRecDepth 100000 in
set_option maxHeartbeats 2000000 in
theorem rTake {w : World} {A : Option Addr} {b : List UInt8} (h : Rb w A b) (hb : b.length ≤ 100000000) (c : Nat) (hc : b.length ≤ c) (hc2 : c ≤ 9223372036854775807) : Calls Try.prog 87 #[.slice A b.length c] w (RetTkP w A c (dec b)) := by
  cases b with
  | nil =>
    clear h hb
    go_enter Try.func87, Try.ntmps87
    go_wp2_with fail
    go_ret3
    exact ⟨Ext.refl _, rfl⟩
  | cons m t =>
    have H := Lib.hid h
    obtain ⟨b0, off, m', rfl, hbB, hx, y0⟩ := Rd.atB h (Ext.refl w) (j := 0) (by simp)
    have hm' : m' = m := by have := hx.out; simpa using this.symm
    subst hm'
    have hm8 := m'.toNat_lt
    obtain ⟨q, hq⟩ : ∃ q, m'.toNat = q := ⟨_, rfl⟩
    rw [hq] at y0 hm8
    rw [Nat.add_zero] at y0
    have d4 : ((t.length + 1 : Nat) == 0) = false := by rw [beq_eq_false_iff_ne]; omega
    have d5 : (((t.length : Int) + 1) == 0) = false := by rw [beq_eq_false_iff_ne]; omega
    by_cases hbad : ¬ (m'.toNat ≤ 8 ∧ m'.toNat ≤ t.length)
    · rw [dec_far hbad]
      rw [hq] at hbad
      clear h hx hq
      by_cases h8 : 8 < q
      · have d1 : decide ((8 : Int) < (q : Int)) = true := decide_eq_true (by omega)
        go_enter Try.func87, Try.ntmps87
        go_wp2_with fail
        go_ret3
        exact ⟨Ext.refl _, rfl⟩
      · have h9 : t.length < q := by omega
        have d1 : decide ((8 : Int) < (q : Int)) = false := decide_eq_false (by omega)
        have d2 : decide (((t.length : Int) + 1) ≤ (q : Int)) = true := decide_eq_true (by omega)
        go_enter Try.func87, Try.ntmps87
        go_wp2_with fail
        go_ret3
        exact ⟨Ext.refl _, rfl⟩
    · have hg : m'.toNat ≤ 8 ∧ m'.toNat ≤ t.length := by omega
      rw [dec_cases hg.1 hg.2, hq]
      obtain ⟨R, hR⟩ : ∃ R, R = if valB (t.take q) < 9223372036854775808 ∧ needN (valB (t.take q)) = q then some (valB (t.take q), t.drop q) else none := ⟨_, rfl⟩
      rw [← hR]
      have hRy : Hid (valB (t.take q) < 9223372036854775808 ∧ needN (valB (t.take q)) = q → R = some (valB (t.take q), t.drop q)) := fun h => by rw [hR, if_pos h]
      have hRn : Hid (¬ (valB (t.take q) < 9223372036854775808 ∧ needN (valB (t.take q)) = q) → R = none) := fun h => by rw [hR, if_neg h]
      clear hR
      rw [hq] at hg
      clear h hx hbad
      obtain ⟨g8, gl⟩ := hg
      have d1 : decide ((8 : Int) < (q : Int)) = false := decide_eq_false (by omega)
      have d2 : decide (((t.length : Int) + 1) ≤ (q : Int)) = false := decide_eq_false (by omega)
      by_cases hbad : 0 < q ∧ ∃ x, t[0]? = some x ∧ (x.toNat = 0 ∨ q = 8 ∧ 128 ≤ x.toNat)
      · obtain ⟨q0, x, hx, hbad⟩ := hbad
        obtain ⟨b1, off1, x', hA1, _, hx', z0⟩ := Rd.atB H.out (Ext.refl w) (j := 1) (by simp; omega)
        cases hA1
        have : x' = x := by have := hx'.out; simp at this; rw [hx] at this; simpa using this.symm
        subst this
        have hRz : R = none := hRn.out (by
          rintro ⟨h1, h2⟩
          cases t with
          | nil => simp at hx
          | cons x2 r =>
            simp at hx; subst hx
            obtain ⟨p, rfl⟩ : ∃ p, q = p + 1 := ⟨q - 1, by omega⟩
            rw [List.take_succ_cons] at h1 h2
            have hl : (r.take p).length = p := by rw [List.length_take]; simp at gl; omega
            have e1 := need_lead (x := x2) (r := r.take p)
            have e2 := val_half (x := x2) (r := r.take p) (by omega)
            rw [hl] at e1 e2
            rcases hbad with h3 | ⟨h3, h4⟩
            · exact e1.1 h2 h3
            · exact e2.1 h1 ⟨by omega, h4⟩)
        subst hRz
        obtain ⟨y, hy⟩ : ∃ y, x'.toNat = y := ⟨_, rfl⟩
        rw [hy] at hbad z0
        clear hRy hRn hx hx' hy hq
        have f3 : decide ((0 : Int) < (q : Int)) = true := decide_eq_true (by omega)
        have f3b : decide (0 < q) = true := decide_eq_true q0
        by_cases h8 : q = 8 ∧ 128 ≤ y
        · have f1 : ((q : Int) == 8) = true := by rw [beq_iff_eq]; omega
          have f1b : (q == 8) = true := by rw [beq_iff_eq]; omega
          have f2 : decide ((128 : Int) ≤ (y : Int)) = true := decide_eq_true (by omega)
          clear h8 hbad
          go_enter Try.func87, Try.ntmps87
          go_wp2_with fail
          go_ret3
          exact ⟨Ext.refl _, rfl⟩
        · have f4 : y = 0 := by omega
          subst f4
          by_cases h9 : q = 8
          · have f1 : ((q : Int) == 8) = true := by rw [beq_iff_eq]; omega
            have f1b : (q == 8) = true := by rw [beq_iff_eq]; omega
            clear h8 hbad h9
            go_enter Try.func87, Try.ntmps87
            go_wp2_with fail
            go_ret3
            exact ⟨Ext.refl _, rfl⟩
          · have f1 : ((q : Int) == 8) = false := by rw [beq_eq_false_iff_ne]; omega
            have f1b : (q == 8) = false := by rw [beq_eq_false_iff_ne]; omega
            clear h8 hbad h9
            go_enter Try.func87, Try.ntmps87
            go_wp2_with fail
            go_ret3
            exact ⟨Ext.refl _, rfl⟩
      · have hgood : valB (t.take q) < 9223372036854775808 ∧ needN (valB (t.take q)) = q := by
          rcases Nat.eq_zero_or_pos q with h0 | h0
          · subst h0; rw [List.take_zero, valB_nil, needN_zero]; exact ⟨by decide, rfl⟩
          · cases t with
            | nil => simp at gl; omega
            | cons x2 r =>
              obtain ⟨p, rfl⟩ : ∃ p, q = p + 1 := ⟨q - 1, by omega⟩
              rw [List.take_succ_cons]
              have hl : (r.take p).length = p := by rw [List.length_take]; simp at gl; omega
              have e1 := need_lead (x := x2) (r := r.take p)
              have e2 := val_half (x := x2) (r := r.take p) (by omega)
              rw [hl] at e1 e2
              refine ⟨e2.2 ?_, e1.2 ?_⟩
              · rintro ⟨h3, h4⟩; exact hbad ⟨h0, x2, rfl, .inr ⟨by omega, h4⟩⟩
              · intro h3; exact hbad ⟨h0, x2, rfl, .inl h3⟩
        have hRs := hRy.out hgood
        subst hRs
        have hVb := hgood.1
        obtain ⟨A2, c2, n2, hn2, hc2', hr2, hR2⟩ := slice_loP 29 1 (enc := encB) elemB sizeB (A := some ⟨b0, off, none⟩) (O := m' :: t) (n := t.length + 1) (c := c) (j := q + 1) (by simp) (by omega) (by simpa using hc)
        have hR3 := hR2 w H.out
        rw [List.drop_succ_cons] at hR3 hn2
        replace hR3 := Lib.hid hR3; replace hn2 := Lib.hid hn2.out
        have hr2b : ∀ w : World, (Instr.sliceAt 29 (.slice (some ⟨b0, off, none⟩) (t.length + 1) c) (some (.int .i64 ((q : Int) + 1))) none none).run Try.prog w = .ok (.slice A2 n2 c2) w := fun w => by simpa using hr2 w
        clear hR2 hr2 hRy hRn hgood hq
        by_cases q0 : 0 < q
        · obtain ⟨b1, off1, x', hA1, _, hx', z0⟩ := Rd.atB H.out (Ext.refl w) (j := 1) (by simp; omega)
          cases hA1
          have hx2 : t[0]? = some x' := by have := hx'.out; simpa using this
          obtain ⟨y, hy⟩ : ∃ y, x'.toNat = y := ⟨_, rfl⟩
          have hbd : y ≠ 0 ∧ ¬ (q = 8 ∧ 128 ≤ y) := ⟨fun e => hbad ⟨q0, x', hx2, .inl (by omega)⟩, fun e => hbad ⟨q0, x', hx2, .inr ⟨e.1, by omega⟩⟩⟩
          rw [hy] at z0
          clear hy hx' hx2 hbad
          have f3 : decide ((0 : Int) < (q : Int)) = true := decide_eq_true (by omega)
          have f3b : decide (0 < q) = true := decide_eq_true q0
          have f4 : ((y : Int) == 0) = false := by rw [beq_eq_false_iff_ne]; omega
          have f4b : (y == 0) = false := by rw [beq_eq_false_iff_ne]; omega
          by_cases h8 : q = 8
          · have f1 : ((q : Int) == 8) = true := by rw [beq_iff_eq]; omega
            have f1b : (q == 8) = true := by rw [beq_iff_eq]; omega
            have f2 : decide ((128 : Int) ≤ (y : Int)) = false := decide_eq_false (by omega)
            clear hbd h8
            go_enter Try.func87, Try.ntmps87
            go_wp2_with fail
            go_loop [6, 7] (fun v i => ∃ k : Nat, k ≤ q ∧ i = .int .i64 ((k : Int) + 1) ∧ v = .int .i64 (valB (t.take k) : Nat)) (fun _ i => q + 2 - (intOf i).toNat)
            case atStart => exact ⟨0, Nat.zero_le _, rfl, rfl⟩
            case round =>
              obtain ⟨k, hk, rfl, rfl⟩ := hrel
              by_cases hlt : k < q
              · obtain ⟨b1, off1, x, hA1, hbB1, hx, z0⟩ := Rd.atB H.out (Ext.refl _) (j := k + 1) (by simp; omega)
                cases hA1
                have hx' : t[k]? = some x := by have := hx.out; simpa using this
                have q3 : (k : Int) + 1 < (t.length : Int) + 1 := by omega
                have q4 : (0 : Int) ≤ (k : Int) + 1 := by omega
                have q5 : decide ((k : Int) + 1 ≤ (q : Int)) = true := decide_eq_true (by omega)
                have q6 : ((k : Int) + 1).toNat = k + 1 := by omega
                have E := valB_take (l := t) (i := k + 1) (j := q) (by omega)
                rw [take_snoc hx', valB_snoc] at E
                have E2 : Hid (valB (t.take (k + 1)) = valB (t.take k) * 256 + x.toNat) := by show _ = _; rw [take_snoc hx', valB_snoc]
                obtain ⟨V, hV⟩ : ∃ V, valB (t.take k) = V := ⟨_, rfl⟩
                obtain ⟨y, hy⟩ : ∃ y, x.toNat = y := ⟨_, rfl⟩
                rw [hV, hy] at E E2
                rw [hV]
                rw [hy] at z0
                have hy2 : y < 256 := by rw [← hy]; exact x.toNat_lt
                clear hV hy hx hx'
                have E3 : (V : Int) * 256 + (y : Int) < 9223372036854775808 := by omega
                go_wp2_with fail
                exact ⟨⟨k + 1, by omega, by go_num, by rw [E2.out]; go_num⟩, by simp [intOf]; omega⟩
              · obtain rfl : k = q := by omega
                have q5 : decide ((k : Int) + 1 ≤ (k : Int)) = false := decide_eq_false (by omega)
                obtain ⟨V, hV⟩ : ∃ V, valB (t.take k) = V := ⟨_, rfl⟩
                rw [hV] at hVb ⊢
                replace hV := Lib.hid hV
                go_wp2_with fail
                go_quiet (fail)
                go_wp2_with fail
                go_ret3
                exact ⟨(Ext.refl _).drewN _, A2, c2, by rw [← hn2.out, hV.out]; rfl, (hR3.out).drewN _, by rw [← hn2.out]; exact hc2'.1, hc2'.2⟩
          · have f1 : ((q : Int) == 8) = false := by rw [beq_eq_false_iff_ne]; omega
            have f1b : (q == 8) = false := by rw [beq_eq_false_iff_ne]; omega
            clear hbd h8
            go_enter Try.func87, Try.ntmps87
            go_wp2_with fail
            go_loop [6, 7] (fun v i => ∃ k : Nat, k ≤ q ∧ i = .int .i64 ((k : Int) + 1) ∧ v = .int .i64 (valB (t.take k) : Nat)) (fun _ i => q + 2 - (intOf i).toNat)
            case atStart => exact ⟨0, Nat.zero_le _, rfl, rfl⟩
            case round =>
              obtain ⟨k, hk, rfl, rfl⟩ := hrel
              by_cases hlt : k < q
              · obtain ⟨b1, off1, x, hA1, hbB1, hx, z0⟩ := Rd.atB H.out (Ext.refl _) (j := k + 1) (by simp; omega)
                cases hA1
                have hx' : t[k]? = some x := by have := hx.out; simpa using this
                have q3 : (k : Int) + 1 < (t.length : Int) + 1 := by omega
                have q4 : (0 : Int) ≤ (k : Int) + 1 := by omega
                have q5 : decide ((k : Int) + 1 ≤ (q : Int)) = true := decide_eq_true (by omega)
                have q6 : ((k : Int) + 1).toNat = k + 1 := by omega
                have E := valB_take (l := t) (i := k + 1) (j := q) (by omega)
                rw [take_snoc hx', valB_snoc] at E
                have E2 : Hid (valB (t.take (k + 1)) = valB (t.take k) * 256 + x.toNat) := by show _ = _; rw [take_snoc hx', valB_snoc]
                obtain ⟨V, hV⟩ : ∃ V, valB (t.take k) = V := ⟨_, rfl⟩
                obtain ⟨y, hy⟩ : ∃ y, x.toNat = y := ⟨_, rfl⟩
                rw [hV, hy] at E E2
                rw [hV]
                rw [hy] at z0
                have hy2 : y < 256 := by rw [← hy]; exact x.toNat_lt
                clear hV hy hx hx'
                have E3 : (V : Int) * 256 + (y : Int) < 9223372036854775808 := by omega
                go_wp2_with fail
                exact ⟨⟨k + 1, by omega, by go_num, by rw [E2.out]; go_num⟩, by simp [intOf]; omega⟩
              · obtain rfl : k = q := by omega
                have q5 : decide ((k : Int) + 1 ≤ (k : Int)) = false := decide_eq_false (by omega)
                obtain ⟨V, hV⟩ : ∃ V, valB (t.take k) = V := ⟨_, rfl⟩
                rw [hV] at hVb ⊢
                replace hV := Lib.hid hV
                go_wp2_with fail
                go_quiet (fail)
                go_wp2_with fail
                go_ret3
                exact ⟨(Ext.refl _).drewN _, A2, c2, by rw [← hn2.out, hV.out]; rfl, (hR3.out).drewN _, by rw [← hn2.out]; exact hc2'.1, hc2'.2⟩
        · have f3 : decide ((0 : Int) < (q : Int)) = false := decide_eq_false (by omega)
          have f3b : decide (0 < q) = false := decide_eq_false q0
          have f1 : ((q : Int) == 8) = false := by rw [beq_eq_false_iff_ne]; omega
          have f1b : (q == 8) = false := by rw [beq_eq_false_iff_ne]; omega
          clear hbad
          go_enter Try.func87, Try.ntmps87
          go_wp2_with fail
          go_loop [6, 7] (fun v i => ∃ k : Nat, k ≤ q ∧ i = .int .i64 ((k : Int) + 1) ∧ v = .int .i64 (valB (t.take k) : Nat)) (fun _ i => q + 2 - (intOf i).toNat)
          case atStart => exact ⟨0, Nat.zero_le _, rfl, rfl⟩
          case round =>
            obtain ⟨k, hk, rfl, rfl⟩ := hrel
            by_cases hlt : k < q
            · obtain ⟨b1, off1, x, hA1, hbB1, hx, z0⟩ := Rd.atB H.out (Ext.refl _) (j := k + 1) (by simp; omega)
              cases hA1
              have hx' : t[k]? = some x := by have := hx.out; simpa using this
              have q3 : (k : Int) + 1 < (t.length : Int) + 1 := by omega
              have q4 : (0 : Int) ≤ (k : Int) + 1 := by omega
              have q5 : decide ((k : Int) + 1 ≤ (q : Int)) = true := decide_eq_true (by omega)
              have q6 : ((k : Int) + 1).toNat = k + 1 := by omega
              have E := valB_take (l := t) (i := k + 1) (j := q) (by omega)
              rw [take_snoc hx', valB_snoc] at E
              have E2 : Hid (valB (t.take (k + 1)) = valB (t.take k) * 256 + x.toNat) := by show _ = _; rw [take_snoc hx', valB_snoc]
              obtain ⟨V, hV⟩ : ∃ V, valB (t.take k) = V := ⟨_, rfl⟩
              obtain ⟨y, hy⟩ : ∃ y, x.toNat = y := ⟨_, rfl⟩
              rw [hV, hy] at E E2
              rw [hV]
              rw [hy] at z0
              have hy2 : y < 256 := by rw [← hy]; exact x.toNat_lt
              clear hV hy hx hx'
              have E3 : (V : Int) * 256 + (y : Int) < 9223372036854775808 := by omega
              go_wp2_with fail
              exact ⟨⟨k + 1, by omega, by go_num, by rw [E2.out]; go_num⟩, by simp [intOf]; omega⟩
            · obtain rfl : k = q := by omega
              have q5 : decide ((k : Int) + 1 ≤ (k : Int)) = false := decide_eq_false (by omega)
              obtain ⟨V, hV⟩ : ∃ V, valB (t.take k) = V := ⟨_, rfl⟩
              rw [hV] at hVb ⊢
              replace hV := Lib.hid hV
              go_wp2_with fail
              go_quiet (fail)
              go_wp2_with fail
              go_ret3
              exact ⟨(Ext.refl _).drewN _, A2, c2, by rw [← hn2.out, hV.out]; rfl, (hR3.out).drewN _, by rw [← hn2.out]; exact hc2'.1, hc2'.2⟩
end Go.Proofs.Ytmbjbbflhlndcaa
