/-
  Slices of rows; pack.Take and lumperref05.Take.
-/
import Derived.Test.YtmbjbbflhlndcaaJf
import Derived.Outline
import Derived.ScopeJumps
namespace Go.Proofs.Ytmbjbbflhlndcaa
open Go.RowKit BigFrame
set_option linter.unusedVariables false
set_option linter.unusedSimpArgs false

theorem addr_add (b off n : Nat) : (⟨b, off, none⟩ : Addr).add n = ⟨b, off + n, none⟩ := by
  unfold Addr.add
  split
  · rename_i h; subst h; rfl
  · rfl
section
variable {α : Type} {enc : α → List Value} {k : Nat} {S E : TypeId} {by_ : Nat}
theorem Rw.dropC {w : World} {A : Option Addr} {l : List α} (h : Rw enc k w A l) {j c : Nat} (hc : l.length ≤ c) : Rw enc k w (if c = j then A else A.map (·.add (j * k))) (l.drop j) := fun hne => by
  have hj : j < l.length := by
    rcases Nat.lt_or_ge j l.length with h1 | h1
    · exact h1
    · rw [List.drop_eq_nil_of_le h1] at hne; exact absurd rfl hne
  rw [if_neg (by omega)]
  exact h.drop j hne
theorem slice_loG (S : TypeId) (k : Nat) {enc : α → List Value} (ht : Try.prog.underlying S = some (.slice (Try.prog.elem S))) (hs : ∀ w : World, (sizeOf (Try.prog.elem S)).run Try.prog w = .ok k w)
    {A : Option Addr} {O : List α} {n c j : Nat} (hn : n = O.length) (hj : j ≤ n) (hc : n ≤ c) : ∃ A' c' nD, Hid (nD = (O.drop j).length) ∧ nD ≤ c' ∧ (∀ w : World, (Instr.sliceAt S (.slice A n c) (some (.int .i64 j)) none none).run Try.prog w = .ok (.slice A' nD c') w) ∧ ∀ w, Rw enc k w A O → Rw enc k w A' (O.drop j) := by
  subst hn
  refine ⟨if c = j then A else A.map (·.add (j * k)), c - j, (O.drop j).length, (rfl : _ = _), by simp; omega, fun w => ?_, fun w h => h.dropC hc⟩
  rw [run_sliceAt_slice (h := ht), run_slice_l (ht := ht) (h0 := by omega) (h1 := by omega), hs w]
  simp [Result.andThen, sliced]
theorem slice_hiG (S : TypeId) (k : Nat) {enc : α → List Value} (ht : Try.prog.underlying S = some (.slice (Try.prog.elem S))) (hs : ∀ w : World, (sizeOf (Try.prog.elem S)).run Try.prog w = .ok k w)
    {A : Option Addr} {O : List α} {n c j : Nat} (hn : n = O.length) (hj : j ≤ n) (hc : n ≤ c) : ∃ A' nT, Hid (nT = (O.take j).length) ∧ nT ≤ c ∧ (∀ w : World, (Instr.sliceAt S (.slice A n c) none (some (.int .i64 j)) none).run Try.prog w = .ok (.slice A' nT c) w) ∧ ∀ w, Rw enc k w A O → Rw enc k w A' (O.take j) := by
  subst hn
  have hm : (O.take j).length = j := by rw [List.length_take]; omega
  refine ⟨if c = 0 then A else A.map (·.add (0 * k)), (O.take j).length, (rfl : _ = _), by omega, fun w => ?_, fun w h => ?_⟩
  · rw [run_sliceAt_slice (h := ht), run_slice_h (ht := ht) (h0 := by omega) (h2 := by omega), hs w, hm]
    simp [Result.andThen, sliced]
  · have e : (if c = 0 then A else A.map (·.add (0 * k))) = A := by
      split
      · rfl
      · cases A with
        | none => rfl
        | some a => simp [Addr.add]
    rw [e]; exact h.take j
end
theorem elemB : Try.prog.underlying 29 = some (.slice (Try.prog.elem 29)) := by kernel_rfl
theorem sizeB (w : World) : (sizeOf (Try.prog.elem 29)).run Try.prog w = .ok 1 w := by kernel_rfl

/-- A scope in which the run may jump on to a label. -/
theorem wp_scope_fwd {P : Program} {a : Act} {w : World} {Q : Exit → Act → World → Prop} {c rest : Code} (l : Nat) (hf : findLabel c l = some rest)
    (h : ∀ J : Act → World → Prop, Hid (∀ a w, rest.wp P (Exit.noGoto Q) a w → J a w) → c.wp P (Exit.jump l J Q) a w) : (Code.scope c).wp P Q a w :=
  wp_scope_jumps l (fun a w => rest.wp P (Exit.noGoto Q) a w) (fun _ _ => 0) hf (h _ (fun _ _ h => h)) fun a w hJ b k cs => by
    obtain ⟨e, a₁, w₁, hq, harr⟩ := hJ b k cs
    refine ⟨e, a₁, w₁, ?_, harr⟩
    cases e with
    | goto l' => exact hq.elim
    | normal => exact hq
    | exit id => exact hq
    | ret => exact hq
    | panic ch => exact hq
    | outgrown => exact hq
theorem jump_ret {l : Nat} {J : Act → World → Prop} {Q : Exit → Act → World → Prop} {a : Act} {w : World} : Exit.jump l J Q .ret a w = Q .ret a w := rfl
/-- 64 bits, read with a sign. -/
def sgn (n : Nat) : Int := if n < 9223372036854775808 then (n : Int) else (n : Int) - 18446744073709551616
theorem or_sgn (V y : Nat) (hV : V < 72057594037927936) (hy : y < 256) : (BitVec.ofNat 64 (V * 256) ||| BitVec.ofNat 64 y).toNat = V * 256 + y := by
  rw [BitVec.toNat_or, BitVec.toNat_ofNat, BitVec.toNat_ofNat, Nat.mod_eq_of_lt (by omega), Nat.mod_eq_of_lt (by omega)]
  rw [show V * 256 = V <<< 8 from by rw [Nat.shiftLeft_eq], ← Nat.shiftLeft_add_eq_or_of_lt (by omega : y < 2 ^ 8)]
theorem wrap_sgn (n : Nat) (h : n < 18446744073709551616) : IntKind.i64.wrap (n : Int) = sgn n := by
  unfold IntKind.wrap sgn
  simp only [show IntKind.i64.bits = 64 from rfl, show IntKind.i64.signed = true from rfl, Bool.true_and, decide_eq_true_eq, ge_iff_le]
  have e : ((2 : Int) ^ 64) = 18446744073709551616 := by decide
  have e2 : ((2 : Int) ^ (64 - 1)) = 9223372036854775808 := by decide
  rw [e, e2]
  split <;> split <;> omega
theorem ofInt_wrap (z : Nat) : BitVec.ofInt 64 (wrap64 (z : Int)) = BitVec.ofNat 64 z := by
  apply BitVec.eq_of_toNat_eq
  rw [BitVec.toNat_ofInt, BitVec.toNat_ofNat]
  have e : ((2 ^ 64 : Nat) : Int) = 18446744073709551616 := by decide
  have e2 : (2 ^ 64 : Nat) = 18446744073709551616 := by decide
  unfold wrap64
  rw [e, e2]
  omega
theorem shl_or (V y : Nat) (hV : V < 72057594037927936) (hy : y < 256) : bits BinOp.or IntKind.i64 (wrap64 ((V : Int) * 256)) (y : Int) = sgn (V * 256 + y) := by
  have h := or_sgn V y hV hy
  have e := ofInt_wrap (V * 256)
  rw [show ((V * 256 : Nat) : Int) = (V : Int) * 256 from by simp] at e
  have e2 : BitVec.ofInt 64 (y : Int) = BitVec.ofNat 64 y := by simp
  show IntKind.i64.wrap ((BitVec.ofInt 64 (wrap64 ((V : Int) * 256)) ||| BitVec.ofInt 64 (y : Int)).toNat : Int) = _
  rw [e, e2, h]
  exact wrap_sgn _ (by omega)
/-- What a call leaves that takes a number. -/
def RetTk (w : World) (r : Option (Nat × List UInt8)) (e : Ending) (w' : World) : Prop := Ext w w' ∧ match r with
  | none => e = .returned (.tuple #[.int .i64 0, .slice none 0 0, .int .i64 50])
  | some (n, s) => ∃ A cap, e = .returned (.tuple #[.int .i64 n, .slice A s.length cap, .int .i64 0]) ∧ Rb w' A s ∧ s.length ≤ cap
/-- The same, and what is behind lies in a new block. -/
def RetTkF (w : World) (r : Option (Nat × List UInt8)) (e : Ending) (w' : World) : Prop := Ext w w' ∧ match r with
  | none => e = .returned (.tuple #[.int .i64 0, .slice none 0 0, .int .i64 50])
  | some (n, s) => ∃ A cap, e = .returned (.tuple #[.int .i64 n, .slice A s.length cap, .int .i64 0]) ∧ Rb w' A s ∧ s.length ≤ cap ∧ cap ≤ maxLen ∧ ∀ b off, A = some ⟨b, off, none⟩ → w.heap.size ≤ b
theorem dec_cases {m : UInt8} {t : List UInt8} (h1 : m.toNat ≤ 8) (h2 : m.toNat ≤ t.length) : dec (m :: t) = if valB (t.take m.toNat) < 9223372036854775808 ∧ needN (valB (t.take m.toNat)) = m.toNat then some (valB (t.take m.toNat), t.drop m.toNat) else none := by
  rw [dec]
  by_cases h : valB (t.take m.toNat) < 9223372036854775808 ∧ needN (valB (t.take m.toNat)) = m.toNat
  · rw [if_pos ⟨h1, h2, h.1, h.2⟩, if_pos h]
  · rw [if_neg (fun x => h ⟨x.2.2.1, x.2.2.2⟩), if_neg h]
theorem dec_far {m : UInt8} {t : List UInt8} (h : ¬ (m.toNat ≤ 8 ∧ m.toNat ≤ t.length)) : dec (m :: t) = none := by
  rw [dec, if_neg (fun x => h ⟨x.1, x.2.1⟩)]

set_option maxRecDepth 100000 in
set_option maxHeartbeats 2000000 in
theorem pTake {w : World} {A : Option Addr} {b : List UInt8} (h : Rb w A b) (hb : b.length ≤ 100000000) (c : Nat) (hc : b.length ≤ c) (hc2 : c ≤ 9223372036854775807) : Calls Try.prog 59 #[.slice A b.length c] w (RetTkF w (dec b)) := by
  cases b with
  | nil =>
    clear h hb
    go_enter Try.func59, Try.ntmps59
    go_wp2_with fail
    refine wp_scope_fwd 0 (by rfl) fun J HJ => ?_
    go_wp2_with fail
    go_step3
    refine ⟨rfl, HJ.out _ _ ?_⟩
    go_wp2_with fail
    rw [Exit.noGoto_ret]
    go_ret3
    exact ⟨Ext.refl _, rfl⟩
  | cons m t =>
    have H := Lib.hid h
    obtain ⟨b0, off, m', rfl, hbB, hx, y0⟩ := Rd.atB h (Ext.refl w) (j := 0) (by simp)
    have hm' : m' = m := by have := hx.out; simpa using this.symm
    subst hm'
    have hm8 := m'.toNat_lt
    obtain ⟨q, hq⟩ : ∃ q, m'.toNat = q := ⟨_, rfl⟩
    rw [hq] at y0 hm8
    rw [Nat.add_zero] at y0
    by_cases hbad : ¬ (m'.toNat ≤ 8 ∧ m'.toNat ≤ t.length)
    · rw [dec_far hbad]
      rw [hq] at hbad
      clear h hx hq
      by_cases h8 : 8 < q
      · have d1 : decide ((8 : Int) < (q : Int)) = true := decide_eq_true (by omega)
        go_enter Try.func59, Try.ntmps59
        go_wp2_with fail
        refine wp_scope_fwd 0 (by rfl) fun J HJ => ?_
        go_wp2_with fail
        go_step3
        refine ⟨rfl, HJ.out _ _ ?_⟩
        go_wp2_with fail
        rw [Exit.noGoto_ret]
        go_ret3
        exact ⟨Ext.refl _, rfl⟩
      · have h9 : t.length < q := by omega
        have d1 : decide ((8 : Int) < (q : Int)) = false := decide_eq_false (by omega)
        have d2 : decide (((t.length : Int) + 1) ≤ (q : Int)) = true := decide_eq_true (by omega)
        have d3 : decide (t.length + 1 ≤ q) = true := decide_eq_true (by omega)
        go_enter Try.func59, Try.ntmps59
        go_wp2_with fail
        refine wp_scope_fwd 0 (by rfl) fun J HJ => ?_
        go_wp2_with fail
        go_step3
        refine ⟨rfl, HJ.out _ _ ?_⟩
        go_wp2_with fail
        rw [Exit.noGoto_ret]
        go_ret3
        exact ⟨Ext.refl _, rfl⟩
    · have hg : m'.toNat ≤ 8 ∧ m'.toNat ≤ t.length := by omega
      rw [dec_cases hg.1 hg.2, hq]
      obtain ⟨R, hR⟩ : ∃ R, R = if valB (t.take q) < 9223372036854775808 ∧ needN (valB (t.take q)) = q then some (valB (t.take q), t.drop q) else none := ⟨_, rfl⟩
      rw [← hR]
      have hRy : Hid (valB (t.take q) < 9223372036854775808 ∧ needN (valB (t.take q)) = q → R = some (valB (t.take q), t.drop q)) := fun h => by rw [hR, if_pos h]
      have hRn : Hid (¬ (valB (t.take q) < 9223372036854775808 ∧ needN (valB (t.take q)) = q) → R = none) := fun h => by rw [hR, if_neg h]
      clear hR
      rw [hq] at hg
      clear h hx hbad
      obtain ⟨g8, gl⟩ := hg
      obtain ⟨A1, c1, n1, hn1, hc1, hr1, hR1⟩ := slice_loG 29 1 (enc := encB) elemB sizeB (A := some ⟨b0, off, none⟩) (O := m' :: t) (n := t.length + 1) (c := c) (j := 1) (by simp) (by omega) (by simpa using hc)
      have hR1' := hR1 w H.out
      rw [List.drop_one, List.tail_cons] at hn1 hR1'
      have hT := Lib.hid hR1'
      obtain rfl : n1 = t.length := hn1.out
      replace hr1 : ∀ w : World, (Instr.sliceAt 29 (.slice (some ⟨b0, off, none⟩) (t.length + 1) c) (some (.int .i64 1)) none none).run Try.prog w = .ok (.slice A1 t.length c1) w := fun w => by simpa using hr1 w
      clear hR1 hR1' hn1
      have d1 : decide ((8 : Int) < (q : Int)) = false := decide_eq_false (by omega)
      have d2 : decide (((t.length : Int) + 1) ≤ (q : Int)) = false := decide_eq_false (by omega)
      have d3 : decide (t.length + 1 ≤ q) = false := decide_eq_false (by omega)
      have d4 : ((t.length + 1 : Nat) == 0) = false := by rw [beq_eq_false_iff_ne]; omega
      go_enter Try.func59, Try.ntmps59
      go_wp2_with fail
      refine wp_scope_fwd 0 (by rfl) fun J HJ => ?_
      go_wp2_with fail
      go_step3
      go_wp2_with fail
      go_loop [5, 27] (fun v i => ∃ k : Nat, k ≤ q ∧ i = .int .i64 k ∧ v = .int .i64 (sgn (valB (t.take k)))) (fun _ i => t.length + 1 - (intOf i).toNat)
      case atStart => exact ⟨0, Nat.zero_le _, rfl, rfl⟩
      case round =>
        obtain ⟨k, hk, rfl, rfl⟩ := hrel
        by_cases hlt : k < q
        · obtain ⟨b1, off1, x, rfl, hbB1, hx, z0⟩ := Rd.atB hT.out (Ext.refl _) (j := k) (by omega)
          have q3 : (k : Int) < (t.length : Int) := by omega
          have q4 : (0 : Int) ≤ (k : Int) := by omega
          have q5 : decide ((k : Int) = (q : Int)) = false := decide_eq_false (by omega)
          have q6 : decide (k = q) = false := decide_eq_false (by omega)
          have q7 : (k == q) = false := by rw [beq_eq_false_iff_ne]; omega
          obtain ⟨V, hV⟩ : ∃ V, valB (t.take k) = V := ⟨_, rfl⟩
          rw [hV]
          replace hV := Lib.hid hV
          have hV8 : V < 72057594037927936 := by
            have := valB_lt (t.take k)
            rw [hV.out] at this
            have hk7 : (t.take k).length ≤ 7 := by rw [List.length_take]; omega
            have : (256 : Nat) ^ (t.take k).length ≤ 256 ^ 7 := Nat.pow_le_pow_right (by decide) hk7
            have : (256 : Nat) ^ 7 = 72057594037927936 := by decide
            omega
          obtain ⟨y, hy⟩ : ∃ y, x.toNat = y := ⟨_, rfl⟩
          have hy2 : y < 256 := by rw [← hy]; exact x.toNat_lt
          rw [hy] at z0
          replace hy := Lib.hid hy
          have e1 : sgn V = V := by unfold sgn; rw [if_pos (by omega)]
          have eO := shl_or V y hV8 hy2
          have E : Hid (valB (t.take (k + 1)) = V * 256 + y) := by show _ = _; rw [take_snoc hx.out, valB_snoc, hV.out, hy.out]
          rw [← E.out] at eO
          replace hV8 := Lib.hid hV8
          rw [e1]
          clear e1
          go_wp2_with fail
          exact ⟨⟨k + 1, by omega, by go_num, rfl⟩, by simp [intOf]; omega⟩
        · obtain rfl : k = q := by omega
          have hV9 : valB (t.take k) < 18446744073709551616 := by
            have := valB_lt (t.take k)
            have hk7 : (t.take k).length ≤ 8 := by rw [List.length_take]; omega
            have : (256 : Nat) ^ (t.take k).length ≤ 256 ^ 8 := Nat.pow_le_pow_right (by decide) hk7
            have : (256 : Nat) ^ 8 = 18446744073709551616 := by decide
            omega
          obtain ⟨V, hV⟩ : ∃ V, valB (t.take k) = V := ⟨_, rfl⟩
          rw [hV] at hV9 hRy hRn ⊢
          clear hV
          obtain ⟨A2, c2, n2, hn2, hc2', hr2, hR2⟩ := slice_loG 29 1 (enc := encB) elemB sizeB (A := some ⟨b0, off, none⟩) (O := m' :: t) (n := t.length + 1) (c := c) (j := 1 + k) (by simp) (by omega) (by simpa using hc)
          have hR3 := hR2 w H.out
          rw [show (m' :: t).drop (1 + k) = t.drop k by rw [Nat.add_comm, List.drop_succ_cons]] at hR3 hn2
          have hCl := pCloneB hR3 (by simp at hb ⊢; omega) c2
          have hCl : Calls Try.prog 85 #[.slice A2 n2 c2] w (fun e w' => ∃ A cap, e = .returned (.slice A n2 cap) ∧ Rb w' A (t.drop k) ∧ Ext w w' ∧ n2 ≤ cap ∧ cap ≤ maxLen ∧ ∀ b off, A = some ⟨b, off, none⟩ → w.heap.size ≤ b) := by
            rw [← hn2.out] at hCl
            refine hCl.mono fun _ _ ⟨A, cap, he, h1, h2, h3⟩ => ⟨A, cap, by rw [he, hn2.out], h1, h2, ?_, ?_, fun b off hA => ?_⟩
            · obtain ⟨A6, c6, hv, hc6, _⟩ := own_form h3
              injection hv with _ _ hcc
              rw [hcc, hn2.out]; exact hc6
            · obtain ⟨A6, c6, hv, _, hc6⟩ := own_form h3
              injection hv with _ _ hcc
              rw [hcc]; exact hc6
            · subst hA; exact (h3.lt b rfl).1
          replace hCl := Lib.hid hCl
          have hr2b : ∀ w : World, (Instr.sliceAt 29 (.slice (some ⟨b0, off, none⟩) (t.length + 1) c) (some (.int .i64 (1 + (k : Int)))) none none).run Try.prog w = .ok (.slice A2 n2 c2) w := fun w => by simpa using hr2 w
          clear hR2 hR3 hr2 H hb hk hlt
          have q4 : (0 : Int) ≤ (k : Int) := by omega
          by_cases hs : V < 9223372036854775808
          · have e1 : sgn V = V := by unfold sgn; rw [if_pos hs]
            rw [e1]
            clear e1
            have hN := Lib.hid (pNeed (V : Int) (by omega) (by omega))
            have hm8' := need_big V (by omega)
            rw [Int.toNat_natCast] at hN
            obtain ⟨z, hz⟩ : ∃ z, needN V = z := ⟨_, rfl⟩
            rw [hz] at hN hRy hRn hm8'
            by_cases hzk : z = k
            · have hR := hRy.out ⟨hs, hzk⟩
              subst hR
              have q8 : decide ((z : Int) = (k : Int)) = true := decide_eq_true (by omega)
              have q9 : decide (z = k) = true := decide_eq_true (by omega)
              have q10 : ((z : Int) == (k : Int)) = true := by rw [beq_iff_eq]; omega
              replace hs := Lib.hid hs; replace hn2 := Lib.hid hn2.out
              clear hRy hRn hzk hz
              by_cases hlt : k < t.length
              · obtain ⟨b1, off1, x, rfl, hbB1, hx, z0⟩ := Rd.atB hT.out (Ext.refl _) (j := k) hlt
                have q3 : (k : Int) < (t.length : Int) := by omega
                go_wp2_with fail
                refine (hN.out _).mono ?_
                rintro e w1 ⟨rfl, rfl⟩
                go_wp2_with fail
                refine hCl.out.mono ?_
                rintro e w2 ⟨A5, c5, rfl, r5, x5, o5⟩
                go_wp2_with fail
                rw [jump_ret]
                go_ret3
                refine ⟨x5, A5, c5, by rw [← hn2.out]; rfl, r5, by rw [← hn2.out]; exact o5.1, o5.2.1, o5.2.2⟩
              · obtain rfl : k = t.length := by omega
                go_wp2_with fail
                refine (hN.out _).mono ?_
                rintro e w1 ⟨rfl, rfl⟩
                go_wp2_with fail
                refine hCl.out.mono ?_
                rintro e w2 ⟨A5, c5, rfl, r5, x5, o5⟩
                go_wp2_with fail
                rw [jump_ret]
                go_ret3
                refine ⟨x5, A5, c5, by rw [← hn2.out]; rfl, r5, by rw [← hn2.out]; exact o5.1, o5.2.1, o5.2.2⟩
            · have hR := hRn.out (fun h => hzk h.2)
              subst hR
              have q8 : decide ((z : Int) = (k : Int)) = false := decide_eq_false (by omega)
              have q9 : decide (z = k) = false := decide_eq_false (by omega)
              have q10 : ((z : Int) == (k : Int)) = false := by rw [beq_eq_false_iff_ne]; omega
              replace hs := Lib.hid hs
              clear hRy hRn hzk hz
              by_cases hlt : k < t.length
              · obtain ⟨b1, off1, x, rfl, hbB1, hx, z0⟩ := Rd.atB hT.out (Ext.refl _) (j := k) hlt
                have q3 : (k : Int) < (t.length : Int) := by omega
                go_wp2_with fail
                refine (hN.out _).mono ?_
                rintro e w1 ⟨rfl, rfl⟩
                go_wp2_with fail
                go_step3
                go_wp2_with fail
                rw [jump_ret]
                go_ret3
                exact ⟨Ext.refl _, rfl⟩
              · obtain rfl : k = t.length := by omega
                go_wp2_with fail
                refine (hN.out _).mono ?_
                rintro e w1 ⟨rfl, rfl⟩
                go_wp2_with fail
                go_step3
                go_wp2_with fail
                rw [jump_ret]
                go_ret3
                exact ⟨Ext.refl _, rfl⟩
          · have hR := hRn.out (fun h => hs h.1)
            subst hR
            have e1 : sgn V = (V : Int) - 18446744073709551616 := by unfold sgn; rw [if_neg hs]
            have e2 : sgn V < 0 := by omega
            obtain ⟨z, hz⟩ : ∃ z, sgn V = z := ⟨_, rfl⟩
            rw [hz] at e2 ⊢
            have e3 : decide (0 ≤ z) = false := decide_eq_false (by omega)
            clear e1 hz hRy hRn hs hV9
            by_cases hlt : k < t.length
            · obtain ⟨b1, off1, x, rfl, hbB1, hx, z0⟩ := Rd.atB hT.out (Ext.refl _) (j := k) hlt
              have q3 : (k : Int) < (t.length : Int) := by omega
              go_wp2_with fail
              go_step3
              go_wp2_with fail
              rw [jump_ret]
              go_ret3
              exact ⟨Ext.refl _, rfl⟩
            · obtain rfl : k = t.length := by omega
              go_wp2_with fail
              go_step3
              go_wp2_with fail
              rw [jump_ret]
              go_ret3
              exact ⟨Ext.refl _, rfl⟩
end Go.Proofs.Ytmbjbbflhlndcaa
