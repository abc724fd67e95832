/-
  lumperlaw08.awake.
-/
import Derived.Test.YtmbjbbflhlndcaaLp2
import Derived.Test.YtmbjbbflhlndcaaLq2
import Derived.Deep.Onto
namespace Go.Proofs.Ytmbjbbflhlndcaa
open Go.RowKit BigFrame
set_option linter.unusedVariables false
set_option linter.unusedSimpArgs false

theorem build_at {P : Program} {ops : Array Oper} {rest : List Oper} {o : Oper} {a : Act} {w : World} {Q : Exit → Act → World → Prop} (hgd : Region.wanted o (yielded ops a.tmps) = true) (t : TypeId) (parts : Array (Nat × Operand)) (ho : o.op = .build t parts)
    (cs : Array Value) (hb : P.built t (parts.map fun (i, x) => (i, a.eval x)).toList = some cs) (h : wpList P ops Q rest (a.put o.dst (.agg cs)) w) : wpList P ops Q (o :: rest) a w := by
  refine wpList_step fun K hK => ?_
  rw [if_pos hgd]
  refine wp_build t parts ho (by rw [hb]; rfl) ?_
  rw [hb]
  exact hK _ _ h
section
variable {α : Type} {enc : α → List Value} {k : Nat} {S E : TypeId} {by_ : Nat}
/-- What lay in the row lies there still behind an append of one element. -/
theorem own_kept (el : El enc k S E by_) {w : World} {base : Nat} {A0 : Option Addr} {n c0 : Nat} {l : List α} {y : α} (hown : w.ownsRow base E k (.slice A0 n c0) n (flat enc l)) (hn : n = l.length) (ad : Addr) (c : Nat) (hm : ∀ j u, (enc y)[j]? = some u → w.cell? (ad.add j) = some u)
    (hb : (n + 1) * by_ ≤ 140737488355328) (ty : TypeId) {v' : Value} {w' : World} (hrun : (Builtin.append_ #[S, S] ty #[.slice A0 n c0, .slice (some ad) 1 c]).run Try.prog w = .ok v' w') : Rw enc k w' A0 l := by
  subst hn
  obtain ⟨z, hinfo, hzc⟩ := el.info
  obtain ⟨i0, hi, hz0, hz1, hz2⟩ := info_parts hinfo
  have own0 := hown
  rcases hown.2 with ⟨hv, h0⟩ | ⟨g, cap, cur, hv, hg, hh, h1, h2, h3, h4⟩
  · have : l = [] := List.eq_nil_of_length_eq_zero h0
    subst this
    exact Rw.nil
  · cases hv
    have hlt : g < w.heap.size := (Array.getElem?_eq_some_iff.1 hh).1
    have hc : Came w k (some ⟨g, 0, none⟩) g 0 l.length c0 (flat enc l) := by
      refine ⟨h1, fun _ => rfl, fun _ => hlt, flat_length el.len l, fun j u hj => ?_, fun j hj => ?_⟩
      · rw [Nat.zero_add]
        have hjl : j < l.length * k := by rw [← flat_length el.len]; exact (List.getElem?_eq_some_iff.1 hj).1
        rw [own0.cellAt j hjl]; exact hj
      · have hcc : l.length * k + j < cur.size := by
          rw [h3]
          have : c0 * k = l.length * k + (c0 - l.length) * k := by rw [← Nat.add_mul, Nat.add_sub_cancel' h1]
          omega
        simp only [World.cell?, World.frozen?, hh, Option.isSome_none, Bool.false_eq_true, if_false, Nat.zero_add]
        refine ⟨by rw [Array.getElem?_eq_getElem hcc]; rfl, by simp⟩
    have hb' : l.length + 0 + 1 ≤ maxLen := by
      unfold maxLen
      have := Nat.le_mul_of_pos_right (l.length + 1) (Nat.lt_of_lt_of_le Nat.zero_lt_one el.min)
      omega
    obtain ⟨v2, w2, hr2, ho⟩ := run_append_onto (P := Try.prog) hc S ty i0 z by_ el.under hi hz0 hz1 hz2 hzc el.pos (Onto.start hc) ad c (enc y) (by rw [el.len, Nat.one_mul]) hm (el.one y) hb' hb
    rw [hrun] at hr2
    cases hr2
    intro hne
    refine ⟨g, 0, rfl, Nat.lt_of_lt_of_le hlt ho.kept.size, fun j hj i u hu => ?_⟩
    have hi' : i < k := by have := (List.getElem?_eq_some_iff.1 hu).1; rwa [el.len] at this
    have hjk : j * k + i < l.length * k := by
      have : (j + 1) * k ≤ l.length * k := Nat.mul_le_mul_right _ hj
      rw [Nat.add_mul, Nat.one_mul] at this
      omega
    have := ho.old (b' := g) (o' := 0 + j * k + i) hlt (fun j' _ _ ⟨_, e⟩ => by omega)
    rw [this]
    have h5 := own0.cellAt (j * k + i) hjk
    rw [Nat.zero_add, h5, flat_at el.len l j hj i hi']
    exact hu
/-- One element put behind a row of the call's own, of which the old slice is read again. -/
theorem appK (el : El enc k S E by_) {ops : Array Oper} {rest : List Oper} {o : Oper} {a : Act} {Q : Exit → Act → World → Prop} (w0 w : World) (X : Ext w0 w) (s x : Operand) (hgd : Region.wanted o (yielded ops a.tmps) = true)
    (ho : o.op = .call { callee := .builtin .append, args := #[s, x], argTypes := #[S, S] })
    (A0 : Option Addr) (n c0 : Nat) (l : List α) (y : α) (hs : a.eval s = .slice A0 n c0) (hown : w.ownsRow w0.heap.size E k (.slice A0 n c0) n (flat enc l)) (hnl : n = l.length) (ad : Addr) (c : Nat)
    (hx : a.eval x = .slice (some ad) 1 c) (hm : Rw enc k w (some ad) [y]) (hn : (n + 1) * by_ ≤ 140737488355328)
    (h : ∀ A' cap' w', w'.ownsRow w0.heap.size E k (.slice A' (n + 1) cap') (n + 1) (flat enc (l ++ [y])) → Ext w0 w' → Rw enc k w' A0 l → wpList Try.prog ops Q rest (a.put o.dst (.slice A' (n + 1) cap')) w') : wpList Try.prog ops Q (o :: rest) a w := by
  refine wpList_step fun K hK => ?_
  rw [if_pos hgd]
  obtain ⟨z, hinfo, hzc⟩ := el.info
  obtain ⟨i0, hi, hz0, hz1, hz2⟩ := info_parts hinfo
  obtain ⟨b, off, hA, _, hc⟩ := hm (by simp)
  cases hA
  have hcell : ∀ j u, (enc y)[j]? = some u → w.cell? ((⟨b, off, none⟩ : Addr).add j) = some u := fun j u hj => by
    have := hc 0 (by simp) j u hj
    rw [Nat.zero_mul, Nat.add_zero] at this
    by_cases h0 : j = 0
    · subst h0; simpa [Addr.add] using this
    · simpa [Addr.add, h0] using this
  have hl1 : n + 1 ≤ maxLen := by
    unfold maxLen
    have := Nat.le_mul_of_pos_right (n + 1) (Nat.lt_of_lt_of_le Nat.zero_lt_one el.min)
    omega
  obtain ⟨v', w', hrun, h2, h3, _, h4⟩ := run_append_own_at (P := Try.prog) w w0.heap.size S o.type E i0 z k by_ el.under hi hz0 hz1 hz2 hzc el.pos _ n (flat enc l) hown ⟨b, off, none⟩ 1 c (enc y) (by rw [el.len, Nat.one_mul]) hcell (el.one y) hl1 hn X.size
  have hk := own_kept el hown hnl ⟨b, off, none⟩ c hcell hn o.type hrun
  unfold Oper.wp execOp
  simp only [ho, resolve, invoke, builtin, Sem.run_bind, Sem.run_pure, Result.andThen_ok, List.map_toArray, List.map_cons, List.map_nil, hs, hx, hrun]
  obtain ⟨A', cap', hv, _⟩ := own_form h2
  subst hv
  exact hK _ _ (h A' cap' w' (by rw [flat_snoc]; exact h2) (Below.grown X h3 X.size fun g hg' => (hown.lt g hg').1) hk)
end
def e5 : Ev := ⟨5, 0, 300, 2, 0, 0, 0, 0, 0, 0, 0⟩
def e6 : Ev := ⟨6, 0, 300, 0, 0, 0, 0, 0, 0, 0, 0⟩
def e9 : Ev := ⟨9, 0, 1, 0, 0, 0, 0, 0, 0, 0, 0⟩
def e1 : Ev := ⟨0, 0, 0, 1, 0, 0, 0, 0, 0, 0, 1⟩
def e3 : Ev := ⟨0, 0, 0, 3, 0, 0, 0, 0, 0, 0, 0⟩
theorem e5_64 : Ev64 e5 := by constructor <;> (constructor <;> decide)
theorem e1_64 : Ev64 e1 := by constructor <;> (constructor <;> decide)
theorem e5_enc : encE e5 = [1, 5, 0, 2, 1, 44, 1, 2] := by decide +kernel
theorem sort3 : sortE [e5, e6, e9] = [e9, e5, e6] := by decide
@[reducible] def su8 (v : Value) : Array Value := #[.int .i64 1, .slice none 0 0, .int .i64 0, .int .i64 0, .slice none 0 0, .slice none 0 0, .slice none 0 0, .int .i64 0, .int .i64 0, .int .i64 0, .int .i64 0, .int .i64 0, .int .i64 0, .int .i64 0, .int .i64 0, .int .i64 0, .int .i64 0, .int .i64 0, v, .int .i64 0, .int .i64 0, .int .i64 0, .slice none 0 0]
def zS : Array Value := #[.int .i64 0, .slice none 0 0, .int .i64 0, .int .i64 0, .slice none 0 0, .slice none 0 0, .slice none 0 0, .int .i64 0, .int .i64 0, .int .i64 0, .int .i64 0, .int .i64 0, .int .i64 0, .int .i64 0, .int .i64 0, .int .i64 0, .int .i64 0, .int .i64 0, .slice none 0 0, .int .i64 0, .int .i64 0, .int .i64 0, .slice none 0 0]
theorem sizeS : (Try.prog.info? 55).map (·.size) = some 23 := by kernel_rfl
theorem build8 (A : Option Addr) : Try.prog.built 55 [(0, .int .i64 1), (17, .slice A 1 1)] = some (su8 (.slice A 1 1)) := by kernel_rfl
theorem one8 (A : Option Addr) : (su8 (.slice A 1 1)).all (·.oneCell') = true := by simp [Value.oneCell']
theorem suE8 (A : Option Addr) : SuE (su8 (.slice A 1 1)).toList 1 0 0 0 1 := ⟨rfl, rfl, ⟨none, 0, rfl⟩, ⟨none, 0, rfl⟩, ⟨none, 0, rfl⟩, ⟨A, 1, rfl⟩⟩

set_option maxRecDepth 100000 in
set_option maxHeartbeats 2000000 in
theorem awake08 (w : World) : Calls Try.prog 30 #[] w (RetB w true) := by
  go_enter Try.func30, Try.ntmps30
  have B1 := Lib.hid (Bx.new w (encV e5) 23)
  have X1 := Lib.hid ((Ext.refl w).alloc (.cells (encV e5).toArray 23))
  go_wp2_with (first | (refine store_newE rfl 23 _ _ (by rfl) w w.heap.size rfl (encV ev0).toArray (encV e5).toArray 23 (by rfl) (by rfl) (by rfl) sizeV rfl (cells_ok e5) ?_) | (refine load_box rfl 23 _ rfl w.heap.size rfl _ _ B1.out _ Try.underlying23 rfl sizeV ?_))
  refine (pEPutY (b := []) Rw.nil (by decide) 0 e5 e5_64 (by decide)).mono ?_
  rintro e w2 ⟨A2, c2, rfl, r2, x2, o2⟩
  have B2 := Lib.hid (B1.out.ext x2); have X2 := Lib.hid (X1.out.trans x2)
  rw [List.nil_append] at r2 o2 ⊢
  obtain ⟨by5, hby⟩ : ∃ b, encE e5 = b := ⟨_, rfl⟩
  have hbl : Hid (by5.length = 8) := by show _ = _; rw [← hby, e5_enc]; rfl
  have hdec : Hid (decE (by5 ++ [7]) = some (e5, [7])) := by show _ = _; rw [← hby]; exact decE_enc (by decide) e5_64 [7]
  rw [hby] at r2 o2 ⊢
  have hs1 : Hid (by5 = [1, 5, 0, 2, 1, 44, 1, 2]) := hby.symm.trans e5_enc
  have O3 := Lib.hid (own_below o2 ((Ext.refl w2).alloc (.cells (flat encB [7]).toArray 5)))
  have X3 := Lib.hid (x2.alloc (.cells (flat encB [7]).toArray 5))
  have R7 := Lib.hid (Rw.new_at elB w2 [7] 5 w2.heap.size rfl)
  have R2 := Lib.hid r2
  clear x2 r2 o2 B1 X1 hby
  go_wp2_with (at_builtin; refine appK elB _ _ X3.out _ _ (by rfl) (by rfl) A2 by5.length c2 by5 7 (by rfl) O3.out rfl ⟨w2.heap.size, 0, none⟩ 1 (by rfl) R7.out (by rw [hbl.out]; decide) ?_; intro A3 c3 w3 o3 x3 r3)
  have B3 := Lib.hid ((Bx.new w (encV e5) 23).ext x3)
  have XX3 := Lib.hid (((Ext.refl w).alloc (.cells (encV e5).toArray 23)).trans x3)
  have R3 := Lib.hid r3
  have RR3 := Lib.hid (Rw.own elB (by rw [List.length_append]; exact o3) : Rb w3 A3 (by5 ++ [7]))
  have hc3 := own_cap o3
  clear x3 r3 o3 O3 X3 R7 R2 B2 X2
  have kT := pETake RR3.out (by rw [List.length_append, hbl.out]; decide) c3 (by rw [List.length_append]; exact hc3.1) hc3.2
  rw [List.length_append, hdec.out] at kT
  replace kT := Lib.hid kT
  refine kT.out.mono ?_
  rintro e w4 ⟨x4, A4, c4, rfl, r4, hc4, hc4', _⟩
  have B4 := Lib.hid ((B3.out.ext x4).alloc (.cells (encV e5).toArray 23)); have X4 := Lib.hid ((XX3.out.trans x4).alloc (.cells (encV e5).toArray 23)); have R4 := Lib.hid ((R3.out.ext x4).alloc (.cells (encV e5).toArray 23))
  have S4 := Lib.hid (r4.alloc (.cells (encV e5).toArray 23))
  have C4 := Lib.hid (Bx.new w4 (encV e5) 23)
  clear x4 r4 hc4 hc4' B3 XX3 R3 RR3 kT hc3
  go_wp2_with (first | (refine store_newE rfl 23 _ _ (by rfl) w4 w4.heap.size rfl (encV ev0).toArray (encV e5).toArray 23 (by rfl) (by rfl) (by rfl) sizeV rfl (cells_ok e5) ?_))
  obtain ⟨w5, hw5⟩ : ∃ W, w4.alloc (.cells (encV e5).toArray 23) = W := ⟨_, rfl⟩
  obtain ⟨g4, hg4⟩ : ∃ g, w4.heap.size = g := ⟨_, rfl⟩
  rw [hw5] at B4 X4 R4 S4 C4 ⊢
  rw [hg4] at C4 ⊢
  clear hw5 hg4
  refine (pEPutN (A := none) (b := []) Rw.nil (by decide) 0 e1 e1_64 (by decide)).mono ?_
  rintro e w6 ⟨A6, c6, rfl, _, x6, _⟩
  have B6 := Lib.hid (B4.out.ext x6); have X6 := Lib.hid (X4.out.trans x6); have R6 := Lib.hid (R4.out.ext x6); have S6 := Lib.hid (S4.out.ext x6); have C6 := Lib.hid (C4.out.ext x6)
  clear x6 B4 X4 R4 S4 C4
  go_wp2_with fail
  refine (pETake (A := none) (b := []) Rw.nil (by decide) 0 (by decide) (by decide)).mono ?_
  rintro e w7 ⟨x7, hr7⟩
  have hr8 : e = .returned (.tuple #[.agg (encV ev0).toArray, .slice none 0 0, .int .i64 80]) := hr7
  subst hr8
  clear hr7
  have B7 := Lib.hid ((B6.out.ext x7).alloc (.cells (encV ev0).toArray 23)); have X7 := Lib.hid ((X6.out.trans x7).alloc (.cells (encV ev0).toArray 23)); have R7 := Lib.hid ((R6.out.ext x7).alloc (.cells (encV ev0).toArray 23)); have S7 := Lib.hid ((S6.out.ext x7).alloc (.cells (encV ev0).toArray 23)); have C7 := Lib.hid ((C6.out.ext x7).alloc (.cells (encV ev0).toArray 23))
  clear x7 B6 X6 R6 S6 C6
  go_wp2_with (first | (refine store_newE rfl 23 _ _ (by rfl) w7 w7.heap.size rfl (encV ev0).toArray (encV ev0).toArray 23 (by rfl) (by rfl) (by rfl) sizeV rfl (cells_ok ev0) ?_) | (refine load_box (by rfl) 23 _ rfl w.heap.size rfl _ _ B7.out _ Try.underlying23 rfl sizeV ?_))
  obtain ⟨w8, hw8⟩ : ∃ W, w7.alloc (.cells (encV ev0).toArray 23) = W := ⟨_, rfl⟩
  have hg8 : w8.heap.size = w7.heap.size + 1 := by rw [← hw8]; simp
  rw [hw8] at B7 X7 R7 S7 C7 ⊢
  rw [← hg8]
  clear hw8 hg8
  have L8 : Re (w8.alloc (.cells (flat encV [e5, e6, e9]).toArray 23)) (some ⟨w8.heap.size, 0, none⟩) [e5, e6, e9] := Rw.new_at elV w8 [e5, e6, e9] 23 w8.heap.size rfl
  refine (pSort (w := w8.alloc (.cells (flat encV [e5, e6, e9]).toArray 23)) L8 (by decide) 3).mono ?_
  rw [sort3]
  rintro e w9 ⟨A9, c9, rfl, r9, x9, _⟩
  have y9 := ((Ext.refl w8).alloc (.cells (flat encV [e5, e6, e9]).toArray 23)).trans x9
  have B9 := Lib.hid (B7.out.ext y9); have X9 := Lib.hid (X7.out.trans y9); have R9 := Lib.hid (R7.out.ext y9); have S9 := Lib.hid (S7.out.ext y9); have C9 := Lib.hid (C7.out.ext y9)
  have L9 := Lib.hid r9
  clear x9 y9 r9 L8 B7 X7 R7 S7 C7
  go_upto_region 9 with fail
  have SU := Lib.hid (Bx.new (w9.alloc (.cells #[.int .i64 1] 3)) (su8 (.slice (some ⟨w9.heap.size, 0, none⟩) 1 1)).toList 55)
  have Y := Lib.hid (((Ext.refl w9).alloc (.cells #[.int .i64 1] 3)).alloc (.cells (su8 (.slice (some ⟨w9.heap.size, 0, none⟩) 1 1)).toList.toArray 55))
  go_upto_region 10 with (first | (refine build_at rfl 55 _ rfl (su8 (.slice (some ⟨w9.heap.size, 0, none⟩) 1 1)) (build8 _) ?_) | (refine store_newE rfl 55 _ _ (by rfl) (w9.alloc (.cells #[.int .i64 1] 3)) (w9.heap.size + 1) (by simp) _ (su8 (.slice (some ⟨w9.heap.size, 0, none⟩) 1 1)) 55 rfl (by rfl) (by rfl) sizeS rfl (one8 _) ?_) | fail)
  have B10 := Lib.hid (B9.out.ext Y.out); have X10 := Lib.hid (X9.out.trans Y.out); have R10 := Lib.hid (R9.out.ext Y.out); have S10 := Lib.hid (S9.out.ext Y.out); have C10 := Lib.hid (C9.out.ext Y.out); have L10 := Lib.hid (L9.out.ext Y.out)
  have hgs : (w9.alloc (.cells #[.int .i64 1] 3)).heap.size = w9.heap.size + 1 := by simp
  rw [hgs] at SU
  clear hgs B9 X9 R9 S9 C9 L9 Y
  obtain ⟨w10, hw10⟩ : ∃ W, (w9.alloc (.cells #[.int .i64 1] 3)).alloc (.cells (su8 (.slice (some ⟨w9.heap.size, 0, none⟩) 1 1)).toList.toArray 55) = W := ⟨_, rfl⟩
  have hw11 : (w9.alloc (.cells #[.int .i64 1] 3)).alloc (.cells (su8 (.slice (some ⟨w9.heap.size, 0, none⟩) 1 1)) 55) = w10 := hw10
  rw [hw10] at SU B10 X10 R10 S10 C10 L10
  rw [hw11]
  clear hw10 hw11
  obtain ⟨A1, hA1⟩ : ∃ A, (some ⟨w9.heap.size, 0, none⟩ : Option Addr) = A := ⟨_, rfl⟩
  obtain ⟨g13, hg13⟩ : ∃ g, w9.heap.size + 1 = g := ⟨_, rfl⟩
  rw [hg13] at SU ⊢
  rw [hA1] at SU
  try rw [hA1]
  clear hg13 hA1
  have hs5 := run_str R10.out c2
  have hbe : (by5 == [1, 5, 0, 2, 1, 44, 1, 2]) = true := by rw [hs1.out]; decide
  have hs7 : (convert 29 9 (.slice A4 1 c4)).run Try.prog w10 = .ok (.string ⟨#[7]⟩) w10 := run_str S10.out c4
  have hq : ∀ w, (Op.equalIn 10000 23 (.agg (encV e5).toArray) (.agg (encV e5).toArray)).run Try.prog w = .ok true w := fun w => by
    have := eqInV e5 e5 w
    rwa [decide_eq_true (rfl : e5 = e5)] at this
  obtain ⟨bL, oL, hAL, hbL, hcL⟩ := L10.out (by simp)
  subst hAL
  have l0 : w10.cell? ⟨bL, oL, none⟩ = some (.int .i64 9) := hcL 0 (by decide) 0 (.int .i64 9) rfl
  have l2 : w10.cell? ⟨bL, oL + 22, none⟩ = some (.int .i64 6) := hcL 2 (by decide) 0 (.int .i64 6) rfl
  clear hcL
  dsimp only [List.append]
  go_wp2_with (first | (refine load_box (by rfl) 23 _ rfl g4 rfl _ _ C10.out _ Try.underlying23 rfl sizeV ?_) | (refine load_box (by rfl) 23 _ rfl w.heap.size rfl _ _ B10.out _ Try.underlying23 rfl sizeV ?_) | (refine load_boxE (by rfl) 55 _ rfl g13 rfl _ (su8 (.slice A1 1 1)) rfl _ SU.out _ Try.underlying55 rfl sizeS ?_))
  have k1 := pCheckE (suE8 A1) e5 w10
  have hc1 : checkE 1 0 0 0 1 e5 = true := by decide
  rw [hc1] at k1
  refine k1.mono ?_
  rintro e w11 ⟨rfl, x11⟩
  have X11 := Lib.hid (X10.out.trans x11); have SU11 := Lib.hid (SU.out.ext x11)
  clear k1 hc1 hs5 hbe hs7 hq l0 l2 x11 X10 SU B10 C10 R10 S10 L10
  go_wp2_with (first | (refine load_boxE (by rfl) 55 _ rfl g13 rfl _ (su8 (.slice A1 1 1)) rfl _ SU11.out _ Try.underlying55 rfl sizeS ?_))
  have k2 := pCheckE (suE8 A1) e3 w11
  have hc2 : checkE 1 0 0 0 1 e3 = false := by decide
  rw [hc2] at k2
  refine k2.mono ?_
  rintro e w12 ⟨rfl, x12⟩
  have X12 := Lib.hid (X11.out.trans x12)
  clear k2 hc2 x12 X11 SU11
  go_wp2_with fail
  go_ret
  exact ⟨rfl, X12.out⟩
end Go.Proofs.Ytmbjbbflhlndcaa
