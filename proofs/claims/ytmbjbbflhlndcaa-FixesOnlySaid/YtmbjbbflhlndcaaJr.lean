/-
  event.Put.
-/
import Derived.Test.YtmbjbbflhlndcaaJq
namespace Go.Proofs.Ytmbjbbflhlndcaa
open Go.RowKit BigFrame
set_option linter.unusedVariables false
set_option linter.unusedSimpArgs false

theorem Rn.new1 (w : World) (z : Int) (g : Nat) (hg : g = w.heap.size) : Rn (w.alloc (.cells #[.int .i64 z] 3)) (some ⟨g, 0, none⟩) [z] := Rw.new_at elN w [z] 3 g hg

set_option maxRecDepth 100000 in
set_option maxHeartbeats 2000000 in
theorem pEPut0 {w : World} {A : Option Addr} {b : List UInt8} (h : Rb w A b) (hb : b.length ≤ 140000000000000) (c : Nat) (e : Ev) (h64 : Ev64 e) (R : List UInt8) (r : Int) (h1 : fairB e = true → R = b ++ encE e ∧ r = 0) (h0 : fairB e = false → R = [] ∧ r = 80) :
    Calls Try.prog 32 #[.slice A b.length c, .agg (encV e).toArray] w (RetBE w R r) := by
  have hs0 := Bx.new w (encV e) 23
  have X0 := Lib.hid ((Ext.refl w).alloc (.cells (encV e).toArray 23))
  have HS0 := Lib.hid hs0
  have H := Lib.hid h
  replace h0 := Lib.hid h0; replace h1 := Lib.hid h1; replace h64 := Lib.hid h64
  clear hs0 h
  go_enter Try.func32, Try.ntmps32
  go_wp2_with (first | (refine load_box rfl 23 _ rfl _ rfl _ _ HS0.out _ Try.underlying23 rfl sizeV ?_))
  refine (pFair e _).mono ?_
  rintro e1 w1 ⟨rfl, x1⟩
  have HS1 := Lib.hid (HS0.out.ext x1)
  have X1 := Lib.hid (X0.out.trans x1)
  have HX1b := Lib.hid x1
  clear HS0 X0 x1
  cases hf : fairB e
  · obtain ⟨rfl, rfl⟩ := h0.out hf
    clear hf
    go_wp2_with fail
    go_ret2
    exact ⟨none, 0, rfl, Rw.nil, X1.out, own_nilG _ _⟩
  · obtain ⟨rfl, rfl⟩ := h1.out hf
    have hbd := Lib.hid (nums_bd hf h64.out)
    clear hf h0 h1
    have c0 := HS1.out.cell 0 _ rfl; have c1 := HS1.out.cell 1 _ rfl; have c2 := HS1.out.cell 2 _ rfl; have c3 := HS1.out.cell 3 _ rfl
    have HN1 : Hid ((w1.alloc (.cells #[.int .i64 e.id, .int .i64 e.worker, .int .i64 e.at_, .int .i64 e.kind] 3)).ownsRow (w.alloc (.cells (encV e).toArray 23)).heap.size 3 1 (.slice (some ⟨w1.heap.size, 0, none⟩) 4 4) 4 (flat encN [e.id, e.worker, e.at_, e.kind])) := own_newG elN w1 [e.id, e.worker, e.at_, e.kind] (w.alloc (.cells (encV e).toArray 23)).heap.size HX1b.out.size (by simp)
    have hO := Lib.hid (pOwnE (HS1.out.alloc (.cells #[.int .i64 e.id, .int .i64 e.worker, .int .i64 e.at_, .int .i64 e.kind] 3)))
    have X2 := Lib.hid (X1.out.alloc (.cells #[.int .i64 e.id, .int .i64 e.worker, .int .i64 e.at_, .int .i64 e.kind] 3))
    have HS2 := Lib.hid (HS1.out.alloc (.cells #[.int .i64 e.id, .int .i64 e.worker, .int .i64 e.at_, .int .i64 e.kind] 3))
    clear HS1 X1
    go_wp2_with fail
    clear c0 c1 c2 c3
    refine hO.out.mono ?_
    rintro e1 w2 ⟨A2, n, cap, rfl, hn, hA, x2, hA2⟩
    replace hn := Lib.hid hn; replace hA := Lib.hid hA; replace hA2 := Lib.hid hA2
    have HS3 := Lib.hid (HS2.out.ext x2)
    have X3 := Lib.hid (X2.out.trans x2)
    have HN3 := Lib.hid (own_below HN1.out x2)
    have HD3 : Hid (∀ b off, A2 = some ⟨b, off, none⟩ → some b ≠ (Value.slice (some ⟨w1.heap.size, 0, none⟩) 4 4).ownBlock) := fun b off h => by
      have := hA2.out b off h
      simp at this
      intro e
      have e2 : b = w1.heap.size := by simpa [Value.ownBlock] using e
      omega
    have X3b := Lib.hid ((Ext.refl _).trans (Ext.trans ((show Ext (w.alloc (.cells (encV e).toArray 23)) w1 from HX1b.out).alloc (.cells #[.int .i64 e.id, .int .i64 e.worker, .int .i64 e.at_, .int .i64 e.kind] 3)) x2))
    clear HS2 X2 HN1 hO hA2 x2 HX1b
    have hn6 : n ≤ 6 := by
      rw [hn.out]; unfold ownIx; split
      · decide
      · split <;> decide
    go_wp2_with fail
    go_loopw [6, 29] (fun v i wr => ∃ (k m : Nat) (A4 : Option Addr) (c4 : Nat), k ≤ n ∧ i = .int .i64 k ∧ v = .slice A4 m c4 ∧ Hid (m = ([e.id, e.worker, e.at_, e.kind] ++ (ownE e).take k).length) ∧ Hid (wr.ownsRow (w.alloc (.cells (encV e).toArray 23)).heap.size 3 1 (.slice A4 m c4) m (flat encN ([e.id, e.worker, e.at_, e.kind] ++ (ownE e).take k))) ∧ Hid (Rw encA 1 wr A2 (ptrs w.heap.size (ownIx e.kind))) ∧ Hid (∀ b off, A2 = some ⟨b, off, none⟩ → some b ≠ (Value.slice A4 m c4).ownBlock) ∧ Hid (Ext (w.alloc (.cells (encV e).toArray 23)) wr)) (fun _ i _ => n - (intOf i).toNat)
    case atStart => exact ⟨0, 4, _, 4, Nat.zero_le _, rfl, rfl, rfl, HN3.out, hA.out, HD3.out, X3b.out⟩
    case round =>
      obtain ⟨k, m, A4, c4, hkn, rfl, rfl, HM, HO, HA, HD, HX⟩ := hrel
      by_cases hlt : k < n
      · have hlt2 : k < (ptrs w.heap.size (ownIx e.kind)).length := by unfold ptrs; rw [List.length_map, ← hn.out]; exact hlt
        obtain ⟨b1, off1, p, rfl, hbB, hx, z0⟩ := Rd.atA HA.out (Ext.refl _) hlt2
        obtain ⟨o, ho, rfl⟩ : ∃ o, (ownIx e.kind)[k]? = some o ∧ p = ⟨w.heap.size, o, none⟩ := by
          have := hx.out
          unfold ptrs at this
          rw [List.getElem?_map] at this
          cases h1 : (ownIx e.kind)[k]? with
          | none => rw [h1] at this; cases this
          | some o => rw [h1] at this; exact ⟨o, rfl, by simpa using this.symm⟩
        obtain ⟨x, hx1, hx2⟩ := own_vals e ho
        have y0 := ((Bx.new w (encV e) 23).ext HX.out).cell o _ hx2
        have q3 : (k : Int) < (n : Int) := by omega
        have q4 : (0 : Int) ≤ (k : Int) := by omega
        have E : Hid ([e.id, e.worker, e.at_, e.kind] ++ (ownE e).take (k + 1) = ([e.id, e.worker, e.at_, e.kind] ++ (ownE e).take k) ++ [x]) := by show _ = _; rw [take_snoc hx1, List.append_assoc]
        have lm : m ≤ 10 := by rw [HM.out, List.length_append, List.length_take]; simp; omega
        clear hx ho hx1 hx2 hlt2
        obtain ⟨O, hO⟩ : ∃ O, [e.id, e.worker, e.at_, e.kind] ++ (ownE e).take k = O := ⟨_, rfl⟩
        rw [hO] at HM HO E
        clear hO
        have HXa := Lib.hid (HX.out.alloc (.cells #[.int .i64 x] 3))
        have HAa := Lib.hid (HA.out.alloc (.cells #[.int .i64 x] 3))
        go_wp2_with (at_builtin; refine appGB elN (w.alloc (.cells (encV e).toArray 23)) _ HXa.out _ _ (by rfl) (by rfl) m _ O [x] (by rfl) (own_below HO.out ((Ext.refl _).alloc _)) HM.out (some ⟨_, 0, none⟩) 1 1 (by rfl) rfl (Rn.new1 _ x _ rfl) (by rw [← HM.out]; simp; omega) ?_; intro A5 c5 w5 o5 x5 g5 v5)
        have HA5 := Lib.hid (HAa.out.moved g5 HD.out)
        have HD5 : Hid (∀ b off, (some ⟨b1, off1, none⟩ : Option Addr) = some ⟨b, off, none⟩ → some b ≠ (Value.slice A5 (m + 1) c5).ownBlock) := fun b off h => by
          rcases v5 with v5 | v5
          · rw [v5]; exact HD.out b off h
          · rw [v5]
            cases h
            intro e
            injection e with e
            simp at e
            omega
        have HM5 : Hid (m + 1 = ([e.id, e.worker, e.at_, e.kind] ++ (ownE e).take (k + 1)).length) := by show _ = _; rw [E.out, List.length_append, ← HM.out]; rfl
        rw [← E.out] at o5
        replace o5 := Lib.hid o5; replace x5 := Lib.hid x5
        clear HM HO HA HD HX E HXa HAa g5 v5
        go_wp2
        go_roundw
        case rel => exact ⟨k + 1, m + 1, A5, c5, by omega, by go_num, rfl, HM5, o5, HA5, HD5, x5⟩
        case measure => simp [intOf]; omega
      · obtain rfl : k = n := by omega
        have e2 : (ownE e).take k = ownE e := List.take_of_length_le (by rw [hn.out, ownIx_len]; exact Nat.le_refl _)
        rw [e2] at HM HO
        rw [show [e.id, e.worker, e.at_, e.kind] ++ ownE e = numsE e from rfl] at HM HO
        have hm := HM.out
        have hr : Rn wr A4 (numsE e) := Rw.own elN (by rw [← hm]; exact HO.out)
        have XX := Lib.hid (((Ext.refl w).alloc (.cells (encV e).toArray 23)).trans HX.out)
        have lm : (numsE e).length ≤ 10 := by
          unfold numsE ownE
          split
          · simp
          · split <;> simp
        have kP := pPutY (H.out.ext XX.out) hr (by omega) (by omega) (fun x hx => (hbd.out x hx).2) c c4 (fun x hx => (hbd.out x hx).1)
        rw [← hm] at kP
        replace kP := Lib.hid kP
        clear e2 HM HO HA HD HX hm hr lm
        go_wp2_with fail
        refine kP.out.mono ?_
        rintro e1 w6 ⟨A6, c6, rfl, r6, x6, o6⟩
        go_wp2_with fail
        go_ret2
        exact ⟨A6, c6, by rw [List.length_append]; rfl, r6, XX.out.trans x6, own_base o6 XX.out.size⟩
theorem pEPutY {w : World} {A : Option Addr} {b : List UInt8} (h : Rb w A b) (hb : b.length ≤ 140000000000000) (c : Nat) (e : Ev) (h64 : Ev64 e) (hf : fairB e = true) :
    Calls Try.prog 32 #[.slice A b.length c, .agg (encV e).toArray] w (RetBE w (b ++ encE e) 0) := pEPut0 h hb c e h64 _ _ (fun _ => ⟨rfl, rfl⟩) (fun h => by rw [hf] at h; cases h)
theorem pEPutN {w : World} {A : Option Addr} {b : List UInt8} (h : Rb w A b) (hb : b.length ≤ 140000000000000) (c : Nat) (e : Ev) (h64 : Ev64 e) (hf : fairB e = false) :
    Calls Try.prog 32 #[.slice A b.length c, .agg (encV e).toArray] w (RetBE w [] 80) := pEPut0 h hb c e h64 _ _ (fun h => by rw [hf] at h; cases h) (fun _ => ⟨rfl, rfl⟩)
end Go.Proofs.Ytmbjbbflhlndcaa
