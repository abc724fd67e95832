/-
  cmds.Put.
-/
import Derived.Test.YtmbjbbflhlndcaaJx
namespace Go.Proofs.Ytmbjbbflhlndcaa
open Go.RowKit BigFrame
set_option linter.unusedVariables false
set_option linter.unusedSimpArgs false

theorem own64 {c : Cm} (h : Cm64 c) : ∀ n ∈ ownC c, B64 n := by
  intro n hn
  unfold ownC at hn
  split at hn
  · simp at hn; subst hn; exact h.fk
  · split at hn
    · simp at hn
      rcases hn with rfl | rfl
      · exact h.worker
      · exact h.week
    · split at hn
      · simp at hn; subst hn; exact h.worker
      · split at hn
        · simp at hn; subst hn; exact h.week
        · simp at hn
theorem ownC_few (c : Cm) : (ownC c).length ≤ 2 := by
  unfold ownC
  split
  · simp
  · split
    · simp
    · split
      · simp
      · split <;> simp
theorem part_whole {c : Cm} (h : partC c = true) : wholeC c = false := by
  unfold partC at h
  unfold wholeC
  simp at h ⊢
  omega

set_option maxRecDepth 100000 in
set_option maxHeartbeats 4000000 in
theorem pMPut0 {w : World} {A : Option Addr} {b : List UInt8} (h : Rb w A b) (hb : b.length ≤ 139999999999000) (cb : Nat) (c : Cm) (h64 : Cm64 c) (R : List UInt8) (r : Int) (h1 : plainC c = true → R = b ++ encM c ∧ r = 0) (h0 : plainC c = false → R = [] ∧ r = 240) :
    Calls Try.prog 19 #[.slice A b.length cb, .agg (encC c).toArray] w (RetBE w R r) := by
  have hs0 := Bx.new w (encC c) 27
  have X0 := Lib.hid ((Ext.refl w).alloc (.cells (encC c).toArray 27))
  have HS0 := Lib.hid hs0
  have H := Lib.hid h
  replace h0 := Lib.hid h0; replace h1 := Lib.hid h1; replace h64 := Lib.hid h64
  clear hs0 h
  go_enter Try.func19, Try.ntmps19
  go_wp2_with (first | (refine load_box rfl 27 _ rfl _ rfl _ _ HS0.out _ Try.underlying27 rfl sizeC ?_))
  refine (pCheckC c h64.out _).mono ?_
  rintro e1 w1 ⟨rfl, x1⟩
  have HS1 := Lib.hid (HS0.out.ext x1)
  have X1 := Lib.hid (X0.out.trans x1)
  have HX1b := Lib.hid x1
  clear HS0 X0 x1
  cases hf : plainC c
  · obtain ⟨rfl, rfl⟩ := h0.out hf
    clear hf
    go_wp2_with fail
    go_ret2
    exact ⟨none, 0, rfl, Rw.nil, X1.out, own_nilG _ _⟩
  · obtain ⟨rfl, rfl⟩ := h1.out hf
    have hpl := plainC_iff.1 hf
    have hbd : Hid (∀ n ∈ ownC c, 0 ≤ n ∧ B64 n) := fun n hn => ⟨hpl.2.2.1 n hn, own64 h64.out n hn⟩
    have ht := Lib.hid hpl.2.1
    have hk0 : Hid (0 ≤ c.kind ∧ B64 c.kind) := ⟨by have := hpl.1; omega, h64.out.kind⟩
    have hev := Lib.hid hpl.2.2.2.1
    clear hf h0 h1 hpl
    have kO := Lib.hid (pOwnC HS1.out)
    go_wp2_with fail
    refine kO.out.mono ?_
    rintro e1 w2 ⟨A2, n, cap, rfl, hn, hA, x2, hA2⟩
    have HS2 := Lib.hid (HS1.out.ext x2)
    have HX2b := Lib.hid (HX1b.out.trans x2)
    have c0 := HS2.out.cell 0 _ rfl
    have HN3 : Hid ((w2.alloc (.cells #[.int .i64 c.kind] 3)).ownsRow (w.alloc (.cells (encC c).toArray 27)).heap.size 3 1 (.slice (some ⟨w2.heap.size, 0, none⟩) 1 1) 1 (flat encN [c.kind])) := own_newG elN w2 [c.kind] (w.alloc (.cells (encC c).toArray 27)).heap.size HX2b.out.size (by simp)
    have X3b := Lib.hid (HX2b.out.alloc (.cells #[.int .i64 c.kind] 3))
    have HA := Lib.hid (hA.alloc (.cells #[.int .i64 c.kind] 3))
    have HD3 : Hid (ptrs w.heap.size (ownCx c.kind) ≠ [] → ∀ b off, A2 = some ⟨b, off, none⟩ → some b ≠ (Value.slice (some ⟨w2.heap.size, 0, none⟩) 1 1).ownBlock) := fun hne b off h e => by
      have e2 : b = w2.heap.size := by simpa [Value.ownBlock] using e
      obtain ⟨b', off', h', hb', _⟩ := hA hne
      rw [h] at h'; cases h'
      omega
    replace hn := Lib.hid hn
    clear HS1 HS2 HX1b HX2b X1 kO hA hA2 x2
    have hn6 : n ≤ 2 := by rw [hn.out, ownCx_len]; exact ownC_few c
    go_wp2_with fail
    clear c0
    go_loopw [8, 25] (fun v i wr => ∃ (k m : Nat) (A4 : Option Addr) (c4 : Nat), k ≤ n ∧ i = .int .i64 k ∧ v = .slice A4 m c4 ∧ Hid (m = ([c.kind] ++ (ownC c).take k).length) ∧ Hid (wr.ownsRow (w.alloc (.cells (encC c).toArray 27)).heap.size 3 1 (.slice A4 m c4) m (flat encN ([c.kind] ++ (ownC c).take k))) ∧ Hid (Rw encA 1 wr A2 (ptrs w.heap.size (ownCx c.kind))) ∧ Hid (ptrs w.heap.size (ownCx c.kind) ≠ [] → ∀ b off, A2 = some ⟨b, off, none⟩ → some b ≠ (Value.slice A4 m c4).ownBlock) ∧ Hid (Ext (w.alloc (.cells (encC c).toArray 27)) wr)) (fun _ i _ => n - (intOf i).toNat)
    case atStart => exact ⟨0, 1, _, 1, Nat.zero_le _, rfl, rfl, rfl, HN3.out, HA.out, HD3.out, X3b.out⟩
    case round =>
      obtain ⟨k, m, A4, c4, hkn, rfl, rfl, HM, HO, HA, HD, HX⟩ := hrel
      by_cases hlt : k < n
      · have hlt2 : k < (ptrs w.heap.size (ownCx c.kind)).length := by unfold ptrs; rw [List.length_map, ← hn.out]; exact hlt
        have hpne : ptrs w.heap.size (ownCx c.kind) ≠ [] := by intro h; rw [h] at hlt2; simp at hlt2
        obtain ⟨b1, off1, p, rfl, hbB, hx, z0⟩ := Rd.atA HA.out (Ext.refl _) hlt2
        obtain ⟨o, ho, rfl⟩ : ∃ o, (ownCx c.kind)[k]? = some o ∧ p = ⟨w.heap.size, o, none⟩ := by
          have := hx.out
          unfold ptrs at this
          rw [List.getElem?_map] at this
          cases h1 : (ownCx c.kind)[k]? with
          | none => rw [h1] at this; cases this
          | some o => rw [h1] at this; exact ⟨o, rfl, by simpa using this.symm⟩
        obtain ⟨x, hx1, hx2⟩ := ownC_vals c ho
        have y0 := ((Bx.new w (encC c) 27).ext HX.out).cell o _ hx2
        have q3 : (k : Int) < (n : Int) := by omega
        have q4 : (0 : Int) ≤ (k : Int) := by omega
        have E : Hid ([c.kind] ++ (ownC c).take (k + 1) = ([c.kind] ++ (ownC c).take k) ++ [x]) := by show _ = _; rw [take_snoc hx1, List.append_assoc]
        have lm : m ≤ 3 := by rw [HM.out, List.length_append, List.length_take]; simp; omega
        have HDx := Lib.hid (HD.out hpne)
        clear hx ho hx1 hx2 hlt2 HD
        obtain ⟨O, hO⟩ : ∃ O, [c.kind] ++ (ownC c).take k = O := ⟨_, rfl⟩
        rw [hO] at HM HO E
        clear hO
        have HXa := Lib.hid (HX.out.alloc (.cells #[.int .i64 x] 3))
        have HAa := Lib.hid (HA.out.alloc (.cells #[.int .i64 x] 3))
        go_wp2_with (at_builtin; refine appGB elN (w.alloc (.cells (encC c).toArray 27)) _ HXa.out _ _ (by rfl) (by rfl) m _ O [x] (by rfl) (own_below HO.out ((Ext.refl _).alloc _)) HM.out (some ⟨_, 0, none⟩) 1 1 (by rfl) rfl (Rn.new1 _ x _ rfl) (by rw [← HM.out]; simp; omega) ?_; intro A5 c5 w5 o5 x5 g5 v5)
        have HA5 := Lib.hid (HAa.out.moved g5 HDx.out)
        have HD5 : Hid (ptrs w.heap.size (ownCx c.kind) ≠ [] → ∀ b off, (some ⟨b1, off1, none⟩ : Option Addr) = some ⟨b, off, none⟩ → some b ≠ (Value.slice A5 (m + 1) c5).ownBlock) := fun _ b off h => by
          rcases v5 with v5 | v5
          · rw [v5]; exact HDx.out b off h
          · rw [v5]
            cases h
            intro e
            injection e with e
            simp at e
            omega
        have HM5 : Hid (m + 1 = ([c.kind] ++ (ownC c).take (k + 1)).length) := by show _ = _; rw [E.out, List.length_append, ← HM.out]; rfl
        rw [← E.out] at o5
        replace o5 := Lib.hid o5; replace x5 := Lib.hid x5
        clear HM HO HA HDx HX E HXa HAa g5 v5 hpne
        go_wp2
        go_roundw
        case rel => exact ⟨k + 1, m + 1, A5, c5, by omega, by go_num, rfl, HM5, o5, HA5, HD5, x5⟩
        case measure => simp [intOf]; omega
      · obtain rfl : k = n := by omega
        have e2 : (ownC c).take k = ownC c := List.take_of_length_le (by rw [hn.out, ownCx_len]; exact Nat.le_refl _)
        rw [e2] at HM HO
        have lm : m ≤ 3 := by rw [HM.out, List.length_append]; have := ownC_few c; simp; omega
        have HS5 := Lib.hid ((Bx.new w (encC c) 27).ext HX.out)
        clear e2 HA HD
        go_wp2_with (first | (refine load_box rfl 27 _ rfl _ rfl _ _ HS5.out _ Try.underlying27 rfl sizeC ?_))
        refine (pPart c _).mono ?_
        rintro e3 w3 ⟨rfl, x3⟩
        have HS6 := Lib.hid (HS5.out.ext x3); have HX6 := Lib.hid (HX.out.trans x3); have HO6 := Lib.hid (own_below HO.out x3)
        clear HS5 HX HO x3
        cases hp : partC c
        · have hall : Hid (∀ x ∈ [c.kind] ++ ownC c, 0 ≤ x ∧ B64 x) := fun x hx => by
            rcases List.mem_append.1 hx with hx | hx
            · simp at hx; subst hx; exact hk0.out
            · exact hbd.out x hx
          have HR6 : Hid (Rn w3 A4 ([c.kind] ++ ownC c)) := Rw.own elN (by rw [← HM.out]; exact HO6.out)
          have HXX := Lib.hid (((Ext.refl w).alloc (.cells (encC c).toArray 27)).trans HX6.out)
          clear HO6 HX6
          have lL : Hid (([c.kind] ++ ownC c).length ≤ 4) := by show _ ≤ _; have := ownC_few c; simp; omega
          have kP := pPutY (H.out.ext HXX.out) HR6.out (by omega) (by have := lL.out; omega) (fun x hx => (hall.out x hx).2) cb c4 (fun x hx => (hall.out x hx).1)
          rw [← HM.out] at kP
          have hl1 : Hid ((b ++ encZ ([c.kind] ++ ownC c)).length ≤ 139999999999100) := by
            show _ ≤ _
            have := encZ_len ([c.kind] ++ ownC c) (fun x hx => (hall.out x hx).2)
            have := lL.out
            rw [List.length_append]; omega
          obtain ⟨N1, hN1⟩ : ∃ N, (b ++ encZ ([c.kind] ++ ownC c)).length = N := ⟨_, rfl⟩
          have kP' : Calls Try.prog 55 #[.slice A b.length cb, .slice A4 m c4] w3 (fun e w' => ∃ A cap, e = .returned (.tuple #[.slice A N1 cap, .int .i64 0]) ∧ Rb w' A (b ++ encZ ([c.kind] ++ ownC c)) ∧ Ext w3 w') := kP.mono fun e w' ⟨A, cap, he, h1, h2, _⟩ => ⟨A, cap, by rw [he, hN1], h1, h2⟩
          replace kP' := Lib.hid kP'; replace hN1 := Lib.hid hN1
          clear kP lL
          go_wp2_with fail
          refine kP'.out.mono ?_
          rintro e4 w6 ⟨A6, c6, rfl, r6, x6⟩
          have HS7 := Lib.hid (HS6.out.ext x6); have X7 := Lib.hid (HXX.out.trans x6); have R6 := Lib.hid r6
          clear kP' x6 r6
          go_wp2_with (first | (refine load_box rfl 27 _ rfl _ rfl _ _ HS7.out _ Try.underlying27 rfl sizeC ?_))
          refine (pWhole c _).mono ?_
          rintro e5 w7 ⟨rfl, x7⟩
          have HS8 := Lib.hid (HS7.out.ext x7); have X8 := Lib.hid (X7.out.trans x7); have R8 := Lib.hid (R6.out.ext x7)
          clear HS7 X7 R6 x7
          cases hw : wholeC c
          · have hEnc : Hid (encM c = encZ ([c.kind] ++ ownC c) ++ encZ [c.tear]) := by show _ = _; unfold encM; rw [hp, hw]; simp
            clear hw hp
            have c15 := HS8.out.cell 15 _ rfl
            have kE := pPutY (R8.out.alloc (.cells #[.int .i64 c.tear] 3)) (Rn.new1 w7 c.tear _ rfl) (by have := hl1.out; omega) (by simp) (by intro x hx; simp at hx; subst hx; exact h64.out.tear) c6 1 (by intro x hx; simp at hx; subst hx; exact ht.out)
            rw [hN1.out] at kE
            obtain ⟨N9, hN9⟩ : ∃ N, ((b ++ encZ ([c.kind] ++ ownC c)) ++ encZ [c.tear]).length = N := ⟨_, rfl⟩
            have kE : Calls Try.prog 55 _ _ (fun e w' => ∃ A cap, e = .returned (.tuple #[.slice A N9 cap, .int .i64 0]) ∧ Rb w' A ((b ++ encZ ([c.kind] ++ ownC c)) ++ encZ [c.tear]) ∧ Ext _ w' ∧ w'.ownsRow _ 5 1 (.slice A ((b ++ encZ ([c.kind] ++ ownC c)) ++ encZ [c.tear]).length cap) ((b ++ encZ ([c.kind] ++ ownC c)) ++ encZ [c.tear]).length (flat encB ((b ++ encZ ([c.kind] ++ ownC c)) ++ encZ [c.tear]))) := kE.mono fun e w' ⟨A, cap, he, h1, h2, h3⟩ => ⟨A, cap, by rw [he, hN9], h1, h2, h3⟩
            replace kE := Lib.hid kE; replace hN9 := Lib.hid hN9
            go_wp2_with fail
            refine kE.out.mono ?_
            rintro e9 w9 ⟨A9, c9, rfl, r9, x9, o9⟩
            go_wp2_with fail
            go_ret2
            have XE := (X8.out.alloc (.cells #[.int .i64 c.tear] 3))
            have hE := hEnc.out
            have hfin : b ++ encM c = (b ++ encZ ([c.kind] ++ ownC c)) ++ encZ [c.tear] := by rw [hE]; simp only [List.append_assoc]
            rw [hfin]
            exact ⟨A9, c9, by rw [hN9.out]; rfl, r9, XE.trans x9, own_base o9 XE.size⟩
          · have hEnc : Hid (encM c = encZ ([c.kind] ++ ownC c) ++ encE c.ev ++ encZ [c.tear]) := by show _ = _; unfold encM; rw [hp, hw]; simp
            have hfv : fairB c.ev = true := by have := hev.out; rw [hw] at this; simpa using this
            have kV := pEPutY R8.out (by have := hl1.out; omega) c6 c.ev h64.out.ev hfv
            have hle := encE_len hfv h64.out.ev
            rw [hN1.out] at kV
            have hl2 : Hid ((b ++ encZ ([c.kind] ++ ownC c) ++ encE c.ev).length ≤ 139999999999200) := by show _ ≤ _; have := hl1.out; rw [List.length_append]; omega
            obtain ⟨N2, hN2⟩ : ∃ N, (b ++ encZ ([c.kind] ++ ownC c) ++ encE c.ev).length = N := ⟨_, rfl⟩
            have kV' : Calls Try.prog 32 #[.slice A6 N1 c6, .agg (encV c.ev).toArray] w7 (fun e w' => ∃ A cap, e = .returned (.tuple #[.slice A N2 cap, .int .i64 0]) ∧ Rb w' A (b ++ encZ ([c.kind] ++ ownC c) ++ encE c.ev) ∧ Ext w7 w') := kV.mono fun e w' ⟨A, cap, he, h1, h2, _⟩ => ⟨A, cap, by rw [he, hN2], h1, h2⟩
            replace kV' := Lib.hid kV'; replace hN2 := Lib.hid hN2
            clear kV hle hfv hw hp
            go_wp2_with (first | (refine wpList_load_mid rfl 23 _ rfl w.heap.size 2 (by rfl) (encV c.ev) _ (bx_range HS8.out 2 (cmEv_at c)) Try.underlying23 rfl sizeV ?_))
            refine kV'.out.mono ?_
            rintro e6 w8 ⟨A8, c8, rfl, r8, x8⟩
            have HS9 := Lib.hid (HS8.out.ext x8); have X9 := Lib.hid (X8.out.trans x8); have R9 := Lib.hid r8
            clear HS8 X8 R8 x8 r8 kV'
            have c15 := HS9.out.cell 15 _ rfl
            have kE := pPutY (R9.out.alloc (.cells #[.int .i64 c.tear] 3)) (Rn.new1 w8 c.tear _ rfl) (by have := hl2.out; omega) (by simp) (by intro x hx; simp at hx; subst hx; exact h64.out.tear) c8 1 (by intro x hx; simp at hx; subst hx; exact ht.out)
            rw [hN2.out] at kE
            obtain ⟨N9, hN9⟩ : ∃ N, ((b ++ encZ ([c.kind] ++ ownC c) ++ encE c.ev) ++ encZ [c.tear]).length = N := ⟨_, rfl⟩
            have kE : Calls Try.prog 55 _ _ (fun e w' => ∃ A cap, e = .returned (.tuple #[.slice A N9 cap, .int .i64 0]) ∧ Rb w' A ((b ++ encZ ([c.kind] ++ ownC c) ++ encE c.ev) ++ encZ [c.tear]) ∧ Ext _ w' ∧ w'.ownsRow _ 5 1 (.slice A ((b ++ encZ ([c.kind] ++ ownC c) ++ encE c.ev) ++ encZ [c.tear]).length cap) ((b ++ encZ ([c.kind] ++ ownC c) ++ encE c.ev) ++ encZ [c.tear]).length (flat encB ((b ++ encZ ([c.kind] ++ ownC c) ++ encE c.ev) ++ encZ [c.tear]))) := kE.mono fun e w' ⟨A, cap, he, h1, h2, h3⟩ => ⟨A, cap, by rw [he, hN9], h1, h2, h3⟩
            replace kE := Lib.hid kE; replace hN9 := Lib.hid hN9
            go_wp2_with fail
            refine kE.out.mono ?_
            rintro e9 w9 ⟨A9, c9, rfl, r9, x9, o9⟩
            go_wp2_with fail
            go_ret2
            have XE := (X9.out.alloc (.cells #[.int .i64 c.tear] 3))
            have hE := hEnc.out
            have hfin : b ++ encM c = (b ++ encZ ([c.kind] ++ ownC c) ++ encE c.ev) ++ encZ [c.tear] := by rw [hE]; simp only [List.append_assoc]
            rw [hfin]
            exact ⟨A9, c9, by rw [hN9.out]; rfl, r9, XE.trans x9, own_base o9 XE.size⟩
        · have hw := part_whole hp
          have c2 := HS6.out.cell 2 _ rfl
          have hid : 0 ≤ c.ev.id ∧ B64 c.ev.id := ⟨by have := hev.out; rw [hw, hp] at this; simp only [Bool.false_eq_true, if_false, if_true] at this; exact this.2.1, h64.out.ev.id⟩
          have hall : Hid (∀ x ∈ ([c.kind] ++ ownC c) ++ [c.ev.id], 0 ≤ x ∧ B64 x) := fun x hx => by
            rcases List.mem_append.1 hx with hx | hx
            · rcases List.mem_append.1 hx with hx | hx
              · simp at hx; subst hx; exact hk0.out
              · exact hbd.out x hx
            · simp at hx; subst hx; exact hid
          have HXa := Lib.hid (HX6.out.alloc (.cells #[.int .i64 c.ev.id] 3))
          have hEnc : Hid (encM c = encZ (([c.kind] ++ ownC c) ++ [c.ev.id]) ++ encZ [c.tear]) := by show _ = _; unfold encM; rw [hp, hw]; rw [encZ_append ([c.kind] ++ ownC c)]; simp
          clear hid
          go_wp2_with (at_builtin; refine appG elN (w.alloc (.cells (encC c).toArray 27)) _ HXa.out _ _ (by rfl) (by rfl) m _ ([c.kind] ++ ownC c) [c.ev.id] (by rfl) (own_below HO6.out ((Ext.refl _).alloc _)) HM.out (some ⟨_, 0, none⟩) 1 1 (by rfl) rfl (Rn.new1 _ _ _ rfl) (by rw [← HM.out]; simp; omega) ?_; intro A5 c5 w5 o5 x5)
          clear c2
          have HM5 : Hid (m + 1 = (([c.kind] ++ ownC c) ++ [c.ev.id]).length) := by show _ = _; rw [List.length_append, ← HM.out]; rfl
          obtain ⟨m5, hm5⟩ : ∃ x, m + 1 = x := ⟨_, rfl⟩
          rw [hm5] at HM5 o5 ⊢
          clear hm5
          have HR6 : Hid (Rn w5 A5 (([c.kind] ++ ownC c) ++ [c.ev.id])) := Rw.own elN (by rw [← HM5.out]; exact o5)
          have HXX := Lib.hid (((Ext.refl w).alloc (.cells (encC c).toArray 27)).trans x5)
          have HS6b := Lib.hid ((Bx.new w (encC c) 27).ext x5)
          clear HO6 HX6 HXa o5 x5 HS6
          have lL : Hid ((([c.kind] ++ ownC c) ++ [c.ev.id]).length ≤ 4) := by show _ ≤ _; have := ownC_few c; simp; omega
          have kP := pPutY (H.out.ext HXX.out) HR6.out (by omega) (by have := lL.out; omega) (fun x hx => (hall.out x hx).2) cb c5 (fun x hx => (hall.out x hx).1)
          rw [← HM5.out] at kP
          have hl1 : Hid ((b ++ encZ (([c.kind] ++ ownC c) ++ [c.ev.id])).length ≤ 139999999999100) := by
            show _ ≤ _
            have := encZ_len (([c.kind] ++ ownC c) ++ [c.ev.id]) (fun x hx => (hall.out x hx).2)
            have := lL.out
            rw [List.length_append]; omega
          obtain ⟨N1, hN1⟩ : ∃ N, (b ++ encZ (([c.kind] ++ ownC c) ++ [c.ev.id])).length = N := ⟨_, rfl⟩
          have kP' : Calls Try.prog 55 #[.slice A b.length cb, .slice A5 m5 c5] w5 (fun e w' => ∃ A cap, e = .returned (.tuple #[.slice A N1 cap, .int .i64 0]) ∧ Rb w' A (b ++ encZ (([c.kind] ++ ownC c) ++ [c.ev.id])) ∧ Ext w5 w') := kP.mono fun e w' ⟨A, cap, he, h1, h2, _⟩ => ⟨A, cap, by rw [he, hN1], h1, h2⟩
          replace kP' := Lib.hid kP'; replace hN1 := Lib.hid hN1
          clear kP lL
          go_wp2_with fail
          refine kP'.out.mono ?_
          rintro e4 w6 ⟨A6, c6, rfl, r6, x6⟩
          have HS7 := Lib.hid (HS6b.out.ext x6); have X7 := Lib.hid (HXX.out.trans x6); have R6 := Lib.hid r6
          clear kP' x6 r6
          go_wp2_with (first | (refine load_box rfl 27 _ rfl _ rfl _ _ HS7.out _ Try.underlying27 rfl sizeC ?_))
          refine (pWhole c _).mono ?_
          rintro e5 w7 ⟨rfl, x7⟩
          have HS8 := Lib.hid (HS7.out.ext x7); have X8 := Lib.hid (X7.out.trans x7); have R8 := Lib.hid (R6.out.ext x7)
          clear HS7 X7 R6 x7
          rw [hw]
          clear hw hp
          have c15 := HS8.out.cell 15 _ rfl
          have kE := pPutY (R8.out.alloc (.cells #[.int .i64 c.tear] 3)) (Rn.new1 w7 c.tear _ rfl) (by have := hl1.out; omega) (by simp) (by intro x hx; simp at hx; subst hx; exact h64.out.tear) c6 1 (by intro x hx; simp at hx; subst hx; exact ht.out)
          rw [hN1.out] at kE
          obtain ⟨N9, hN9⟩ : ∃ N, ((b ++ encZ (([c.kind] ++ ownC c) ++ [c.ev.id])) ++ encZ [c.tear]).length = N := ⟨_, rfl⟩
          have kE : Calls Try.prog 55 _ _ (fun e w' => ∃ A cap, e = .returned (.tuple #[.slice A N9 cap, .int .i64 0]) ∧ Rb w' A ((b ++ encZ (([c.kind] ++ ownC c) ++ [c.ev.id])) ++ encZ [c.tear]) ∧ Ext _ w' ∧ w'.ownsRow _ 5 1 (.slice A ((b ++ encZ (([c.kind] ++ ownC c) ++ [c.ev.id])) ++ encZ [c.tear]).length cap) ((b ++ encZ (([c.kind] ++ ownC c) ++ [c.ev.id])) ++ encZ [c.tear]).length (flat encB ((b ++ encZ (([c.kind] ++ ownC c) ++ [c.ev.id])) ++ encZ [c.tear]))) := kE.mono fun e w' ⟨A, cap, he, h1, h2, h3⟩ => ⟨A, cap, by rw [he, hN9], h1, h2, h3⟩
          replace kE := Lib.hid kE; replace hN9 := Lib.hid hN9
          go_wp2_with fail
          refine kE.out.mono ?_
          rintro e9 w9 ⟨A9, c9, rfl, r9, x9, o9⟩
          go_wp2_with fail
          go_ret2
          have XE := (X8.out.alloc (.cells #[.int .i64 c.tear] 3))
          have hE := hEnc.out
          have hfin : b ++ encM c = (b ++ encZ (([c.kind] ++ ownC c) ++ [c.ev.id])) ++ encZ [c.tear] := by rw [hE]; simp only [List.append_assoc]
          rw [hfin]
          exact ⟨A9, c9, by rw [hN9.out]; rfl, r9, XE.trans x9, own_base o9 XE.size⟩
theorem pMPutY {w : World} {A : Option Addr} {b : List UInt8} (h : Rb w A b) (hb : b.length ≤ 139999999999000) (cb : Nat) (c : Cm) (h64 : Cm64 c) (hf : plainC c = true) :
    Calls Try.prog 19 #[.slice A b.length cb, .agg (encC c).toArray] w (RetBE w (b ++ encM c) 0) := pMPut0 h hb cb c h64 _ _ (fun _ => ⟨rfl, rfl⟩) (fun h => by rw [hf] at h; cases h)
theorem pMPutN {w : World} {A : Option Addr} {b : List UInt8} (h : Rb w A b) (hb : b.length ≤ 139999999999000) (cb : Nat) (c : Cm) (h64 : Cm64 c) (hf : plainC c = false) :
    Calls Try.prog 19 #[.slice A b.length cb, .agg (encC c).toArray] w (RetBE w [] 240) := pMPut0 h hb cb c h64 _ _ (fun h => by rw [hf] at h; cases h) (fun _ => ⟨rfl, rfl⟩)
end Go.Proofs.Ytmbjbbflhlndcaa
