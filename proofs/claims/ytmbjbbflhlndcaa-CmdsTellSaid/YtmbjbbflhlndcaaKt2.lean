/-
  cmds.Write and cmds.Read of anything; CmdsBack: the walk.
-/
import Derived.Test.YtmbjbbflhlndcaaKp2
namespace Go.Proofs.Ytmbjbbflhlndcaa
open Go.RowKit BigFrame
set_option linter.unusedVariables false
set_option linter.unusedSimpArgs false

theorem encM_le {c : Cm} (h : Cm64 c) : (encM c).length ≤ 120 := by
  have h1 := encZ_len ([c.kind] ++ ownC c) (fun n hn => by
    rcases List.mem_append.1 hn with hn | hn
    · simp at hn; subst hn; exact h.kind
    · exact own64 h n hn)
  have h3 := encZ_len [c.tear] (by intro n hn; simp at hn; subst hn; exact h.tear)
  have h4 := encZ_len [c.ev.id] (by intro n hn; simp at hn; subst hn; exact h.ev.id)
  have he : (encE c.ev).length ≤ 90 := by
    have hb : ∀ n ∈ numsE c.ev, B64 n := by
      intro n hn
      have q := h.ev
      unfold numsE ownE at hn
      split at hn
      · simp at hn
        rcases hn with rfl | rfl | rfl | rfl | rfl | rfl | rfl | rfl | rfl | rfl
        · exact q.id
        · exact q.worker
        · exact q.at_
        · exact q.kind
        · exact q.fr
        · exact q.to
        · exact q.element
        · exact q.units
        · exact q.cls
        · exact q.gear
      · split at hn
        · simp at hn
          rcases hn with rfl | rfl | rfl | rfl | rfl
          · exact q.id
          · exact q.worker
          · exact q.at_
          · exact q.kind
          · exact q.code
        · simp at hn
          rcases hn with rfl | rfl | rfl | rfl
          · exact q.id
          · exact q.worker
          · exact q.at_
          · exact q.kind
    have := encZ_len (numsE c.ev) hb
    have h2 : (numsE c.ev).length ≤ 10 := by
      unfold numsE ownE
      split
      · simp
      · split <;> simp
    unfold encE; omega
  have h2 := ownC_few c
  have hw : wholeC c = true → (ownC c).length ≤ 1 ∧ partC c = false := by
    intro hw
    unfold wholeC at hw
    rw [decide_eq_true_iff] at hw
    unfold ownC partC
    rcases hw with k | ⟨k, f⟩
    · simp [k]
    · refine ⟨by simp [k], ?_⟩
      rw [decide_eq_false_iff_not]; omega
  unfold encM
  simp only [List.length_append, List.length_singleton] at h1 h3 h4 ⊢
  cases hq : wholeC c
  · split <;> simp only [Bool.false_eq_true, if_false, List.length_nil] <;> omega
  · obtain ⟨w1, w2⟩ := hw hq
    rw [w2]
    simp only [Bool.false_eq_true, if_false, if_true, List.length_nil]
    omega
theorem encL_le {l : List Cm} (h : ∀ c ∈ l, Cm64 c) : (encL l).length ≤ 120 * l.length := by
  induction l with
  | nil => simp [encL]
  | cons c l ih =>
    have := ih fun x hx => h x (by simp [hx])
    have := encM_le (h c (by simp))
    rw [encL_cons, List.length_append, List.length_cons]; omega
theorem encL_ge {l : List Cm} (h : ∀ c ∈ l, plainC c = true) (h64 : ∀ c ∈ l, Cm64 c) : l.length ≤ (encL l).length := by
  induction l with
  | nil => simp
  | cons c l ih =>
    have := ih (fun x hx => h x (by simp [hx])) (fun x hx => h64 x (by simp [hx]))
    have := encM_pos (h c (by simp)) (h64 c (by simp))
    rw [encL_cons, List.length_append, List.length_cons]; omega
def WriteAny (w : World) (l : List Cm) (e : Ending) (w' : World) : Prop := ∃ A1 c1 V r, e = .returned (.tuple #[.slice A1 (List.length (α := UInt8) V) c1, .int .i64 r]) ∧ Rb w' A1 V ∧ (V.length ≤ c1 ∧ c1 ≤ maxLen ∧ V.length ≤ 120 * l.length) ∧ Ext w w' ∧ ((l.all plainC = true ∧ V = encL l ∧ r = 0) ∨ (l.all plainC = false ∧ V = [] ∧ r = 240))
theorem pWriteAny {w : World} {A : Option Addr} {l : List Cm} (h : Rc w A l) (h64 : ∀ c ∈ l, Cm64 c) (hl : l.length ≤ 1100000000000) (cb : Nat) :
    Calls Try.prog 23 #[.slice A l.length cb] w (WriteAny w l) := by
  have hb := encL_le h64
  cases hp : l.all plainC
  · have hp2 : ∃ c ∈ l, plainC c = false := by
      have := hp
      rw [List.all_eq_false] at this
      obtain ⟨c, hc, h⟩ := this
      exact ⟨c, hc, by simpa using h⟩
    refine (pMWriteN h h64 (by omega) hl cb hp2).mono fun e w' ⟨A1, c1, he, hr, hx, ho⟩ => ?_
    have hc := own_cap ho
    exact ⟨A1, c1, [], 240, he, hr, ⟨hc.1, hc.2, Nat.zero_le _⟩, hx, .inr ⟨hp, rfl, rfl⟩⟩
  · have hp2 : ∀ c ∈ l, plainC c = true := by simpa [List.all_eq_true] using hp
    refine (pMWriteY h h64 (by omega) hl cb hp2).mono fun e w' ⟨A1, c1, he, hr, hx, ho⟩ => ?_
    have hc := own_cap ho
    exact ⟨A1, c1, encL l, 0, he, hr, ⟨hc.1, hc.2, hb⟩, hx, .inl ⟨hp, rfl, rfl⟩⟩
def ReadAny (w : World) (b : List UInt8) (e : Ending) (w' : World) : Prop := ∃ A1 c1 Y r, e = .returned (.tuple #[.slice A1 (List.length (α := Cm) Y) c1, .int .i64 r]) ∧ Rc w' A1 Y ∧ Ext w w' ∧ ((∀ c ∈ Y, plainC c = true) ∧ (∀ c ∈ Y, Cm64 c) ∧ Y.length ≤ b.length) ∧ ((decL b.length b = some Y ∧ encL Y = b ∧ r = 0) ∨ (decL b.length b = none ∧ Y = [] ∧ r = 240))
theorem readAny_of {w : World} {b : List UInt8} {e : Ending} {w' : World} (h : RetRd w (decL b.length b) e w') : ReadAny w b e w' := by
  obtain ⟨hx, h⟩ := h
  cases hd : decL b.length b with
  | none =>
    rw [hd] at h
    exact ⟨none, 0, [], 240, h, Rw.nil, hx, ⟨by simp, by simp, Nat.zero_le _⟩, .inr ⟨hd, rfl, rfl⟩⟩
  | some Y =>
    rw [hd] at h
    obtain ⟨A1, c1, he, hr, _⟩ := h
    obtain ⟨q1, q2, q3⟩ := decL_some _ hd
    have := encL_ge q1 q2
    rw [q3] at this
    exact ⟨A1, c1, Y, 0, he, hr, hx, ⟨q1, q2, this⟩, .inl ⟨hd, q3, rfl⟩⟩
theorem pReadAny {w : World} {A : Option Addr} {b : List UInt8} (h : Rb w A b) (hb : b.length ≤ 1000000) (cb : Nat) (hc : b.length ≤ cb) (hc2 : cb ≤ maxLen) :
    Calls Try.prog 25 #[.slice A b.length cb] w (ReadAny w b) := (pMRead h hb cb hc hc2).mono fun _ _ h => readAny_of h
theorem all_take_snoc {l : List Cm} {k : Nat} {c : Cm} (h : l[k]? = some c) : (l.take (k + 1)).all plainC = ((l.take k).all plainC && plainC c) := by
  rw [take_snoc h, List.all_append]; simp

set_option maxRecDepth 100000 in
set_option maxHeartbeats 4000000 in
theorem back24 {w : World} {A1 A2 : Option Addr} {l : List Cm} {b : List UInt8} (h1 : Rc w A1 l) (h2 : Rb w A2 b) (h64 : ∀ c ∈ l, Cm64 c) (c1 c2 : Nat) (hl : l.length ≤ c1 ∧ c1 ≤ maxLen) (hb : b.length ≤ c2 ∧ c2 ≤ maxLen) :
    Calls Try.prog 4 #[.slice A1 l.length c1, .slice A2 b.length c2] w (RetB w true) := by
  replace h1 := Lib.hid h1; replace h2 := Lib.hid h2; replace h64 := Lib.hid h64
  have hml : l.length ≤ 9223372036854775807 := by unfold maxLen at hl; omega
  have hmb : b.length ≤ 9223372036854775807 := by unfold maxLen at hb; omega
  by_cases hbig : 100 < l.length ∨ 3000 < b.length
  · by_cases hbl : 100 < l.length
    · have d1 : decide ((100 : Int) < (l.length : Int)) = true := decide_eq_true (by omega)
      go_enter Try.func4, Try.ntmps4
      go_wp2_with fail
      refine (awake24 _).mono ?_
      rintro e1 w1 ⟨rfl, x1⟩
      go_wp2_with fail
      go_ret
      exact ⟨rfl, x1⟩
    · have d1 : decide ((100 : Int) < (l.length : Int)) = false := decide_eq_false (by omega)
      have d2 : decide ((3000 : Int) < (b.length : Int)) = true := decide_eq_true (by omega)
      go_enter Try.func4, Try.ntmps4
      go_wp2_with fail
      refine (awake24 _).mono ?_
      rintro e1 w1 ⟨rfl, x1⟩
      go_wp2_with fail
      go_ret
      exact ⟨rfl, x1⟩
  have d1 : decide ((100 : Int) < (l.length : Int)) = false := decide_eq_false (by omega)
  have d2 : decide ((3000 : Int) < (b.length : Int)) = false := decide_eq_false (by omega)
  have ll : l.length ≤ 100 := by omega
  have lb : b.length ≤ 3000 := by omega
  clear hbig
  go_enter Try.func4, Try.ntmps4
  go_wp2_with fail
  refine (awake24 _).mono ?_
  rintro e1 w1 ⟨rfl, x1⟩
  have L1 := Lib.hid (h1.out.ext x1); have B1 := Lib.hid (h2.out.ext x1); have X1 := Lib.hid x1
  clear x1
  go_wp2_with fail
  refine (pWriteAny L1.out h64.out (by omega) c1).mono ?_
  rintro e2 w2 ⟨A3, c3, V, r3, rfl, R3, k3, x2, D3⟩
  have L2 := Lib.hid (L1.out.ext x2); have B2 := Lib.hid (B1.out.ext x2); have X2 := Lib.hid (X1.out.trans x2)
  replace R3 := Lib.hid R3; replace D3 := Lib.hid D3; replace k3 := Lib.hid k3
  clear x2 L1 B1 X1
  go_wp2_with fail
  refine (pReadAny R3.out (by have := k3.out; omega) c3 k3.out.1 k3.out.2.1).mono ?_
  rintro e3 w3 ⟨A4, c4, X, r4, rfl, R4, x3, P4, D4⟩
  have L3 := Lib.hid (L2.out.ext x3); have B3 := Lib.hid (B2.out.ext x3); have X3 := Lib.hid (X2.out.trans x3); have V3 := Lib.hid (R3.out.ext x3)
  replace R4 := Lib.hid R4; replace D4 := Lib.hid D4; replace P4 := Lib.hid P4
  clear x3 L2 B2 X2 R3
  go_wp2_with fail
  refine (pReadAny B3.out (by omega) c2 hb.1 hb.2).mono ?_
  rintro e4 w4 ⟨A5, c5, Y, r5, rfl, R5, x4, P5, D5⟩
  have L4 := Lib.hid (L3.out.ext x4); have B4 := Lib.hid (B3.out.ext x4); have X4 := Lib.hid (X3.out.trans x4); have XX4 := Lib.hid (R4.out.ext x4)
  replace R5 := Lib.hid R5; replace D5 := Lib.hid D5; replace P5 := Lib.hid P5
  clear x4 L3 B3 X3 R4 V3
  go_wp2_with fail
  refine (pWriteAny R5.out P5.out.2.1 (by have := P5.out.2.2; omega) c5).mono ?_
  rintro e5 w5 ⟨A6, c6, U, r6, rfl, R6, k6, x5, D6⟩
  have L5 := Lib.hid (L4.out.ext x5); have B5 := Lib.hid (B4.out.ext x5); have X5 := Lib.hid (X4.out.trans x5); have XX5 := Lib.hid (XX4.out.ext x5)
  replace R6 := Lib.hid R6; replace D6 := Lib.hid D6; replace k6 := Lib.hid k6
  clear x5 L4 B4 X4 XX4 R5
  go_wp2_with fail
  go_loopw [14, 15] (fun v i wr => ∃ k : Nat, k ≤ l.length ∧ i = .int .i64 k ∧ v = .bool ((l.take k).all plainC) ∧ Hid (Ext w5 wr)) (fun _ i _ => l.length - (intOf i).toNat)
  case atStart => exact ⟨0, Nat.zero_le _, rfl, rfl, Ext.refl w5⟩
  case round =>
    obtain ⟨k, hk, rfl, rfl, HX⟩ := hrel
    by_cases hlt : k < l.length
    · obtain ⟨b0, off, c, rfl, hc, hr⟩ := Rw.range L5.out HX.out hlt
      have q3 : (k : Int) < (l.length : Int) := by omega
      have q4 : (0 : Int) ≤ (k : Int) := by omega
      have hs := all_take_snoc hc.out
      obtain ⟨Q, hQ⟩ : ∃ Q, (l.take (k + 1)).all plainC = Q := ⟨_, rfl⟩
      rw [hQ] at hs
      replace hQ := Lib.hid hQ
      have hlt2 := Lib.hid hlt
      cases hq : (l.take k).all plainC
      · have hQf : Hid (Q = false) := by show _ = _; rw [hs, hq]; rfl
        clear hs hq
        go_wp2_with fail
        go_roundw
        case rel => exact ⟨k + 1, hlt2.out, by go_num, by rw [hQ.out, hQf.out], HX.out⟩
        case measure => have := hlt2.out; simp [intOf]; omega
      · have hQf : Hid (Q = plainC c) := by show _ = _; rw [hs, hq]; rfl
        clear hs hq
        go_wp2_with (first | (refine load_midG (by rfl) 27 _ rfl b0 (off + k * 16) (by rfl) (encC c) _ hr.out Try.underlying27 rfl sizeC ?_))
        refine (pCheckC c (h64.out c (List.mem_of_getElem? hc.out)) _).mono ?_
        rintro e7 w7 ⟨rfl, x7⟩
        rw [← hQf.out]
        have HX7 := Lib.hid (HX.out.trans x7)
        clear x7 HX hr hQf hc
        go_wp2_with fail
        go_roundw
        case rel => exact ⟨k + 1, hlt2.out, by go_num, by rw [hQ.out], HX7.out⟩
        case measure => have := hlt2.out; simp [intOf]; omega
    · obtain rfl : k = l.length := by omega
      rw [List.take_length]
      have L9 := Lib.hid (L5.out.ext HX.out); have B9 := Lib.hid (B5.out.ext HX.out); have X9 := Lib.hid (X5.out.trans HX.out); have XX9 := Lib.hid (XX5.out.ext HX.out); have U9 := Lib.hid (R6.out.ext HX.out)
      clear L5 B5 X5 XX5 R6 HX
      have hU : U = encL Y ∧ r6 = 0 := by
        rcases D6.out with ⟨_, h, h'⟩ | ⟨h, _⟩
        · exact ⟨h, h'⟩
        · rw [List.all_eq_false] at h
          obtain ⟨c, hc, h⟩ := h
          exact absurd (P5.out.1 c hc) h
      obtain ⟨hU, rfl⟩ := hU
      rcases D3.out with ⟨p, hV, rfl⟩ | ⟨p, hV, rfl⟩
      · have hp2 : ∀ c ∈ l, plainC c = true := by simpa [List.all_eq_true] using p
        have hXl : X = l ∧ r4 = 0 := by
          have := decL_enc hp2 h64.out
          rw [← hV] at this
          rcases D4.out with ⟨h, _, h'⟩ | ⟨h, _⟩
          · rw [this] at h; cases h; exact ⟨rfl, h'⟩
          · rw [this] at h; cases h
        obtain ⟨rfl, rfl⟩ := hXl
        rw [p]
        clear p hV hp2 D3 D4 D6 P4 k3
        go_wp2_with fail
        refine (rSameC XX9.out L9.out (by omega) c4 c1 (by omega)).mono ?_
        rintro e8 w8 ⟨rfl, x8⟩
        have hs1 := run_str (U9.out.ext x8) c6
        have hs2 := run_str (B9.out.ext x8) c2
        have hd : decide (X = X) = true := decide_eq_true rfl
        rw [hd]
        have X10 := Lib.hid (X9.out.trans x8)
        rcases D5.out with ⟨_, hY, rfl⟩ | ⟨_, hY, rfl⟩
        · have hUb : U = b := hU.trans hY
          subst hUb
          clear hU hY hd x8 X9 U9 B9 L9 XX9 D5
          go_wp2_with fail
          go_ret
          exact ⟨rfl, X10.out⟩
        · subst hY
          clear hU hd x8 X9 U9 B9 L9 XX9 D5 hs1 hs2
          go_wp2_with fail
          go_ret
          exact ⟨rfl, X10.out⟩
      · subst hV
        have hr4 : r4 = 0 := by
          rcases D4.out with ⟨_, _, h'⟩ | ⟨h, _⟩
          · exact h'
          · simp [decL] at h
        subst hr4
        rw [p]
        clear p D3 D4 D6 P4 k3
        have hs1 := run_str U9.out c6
        have hs2 := run_str B9.out c2
        rcases D5.out with ⟨_, hY, rfl⟩ | ⟨_, hY, rfl⟩
        · have hUb : U = b := hU.trans hY
          subst hUb
          clear hU hY U9 B9 L9 XX9 D5
          go_wp2_with fail
          go_ret
          exact ⟨rfl, X9.out⟩
        · subst hY
          clear hU U9 B9 L9 XX9 D5 hs1 hs2
          go_wp2_with fail
          go_ret
          exact ⟨rfl, X9.out⟩
end Go.Proofs.Ytmbjbbflhlndcaa
