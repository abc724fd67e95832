/-
  lumperlaw08.EventBack: its walk.
-/
import Derived.Test.YtmbjbbflhlndcaaLt2
namespace Go.Proofs.Ytmbjbbflhlndcaa
open Go.RowKit BigFrame
set_option linter.unusedVariables false
set_option linter.unusedSimpArgs false

theorem suE_of (s : Su) (h : Sh) : SuE (s.cells h) s.places s.elements.length s.classes.length s.gears.length s.rates.length := ⟨rfl, rfl, ⟨_, _, rfl⟩, ⟨_, _, rfl⟩, ⟨_, _, rfl⟩, ⟨_, _, rfl⟩⟩
/-- lumperlaw08.few. -/
theorem pFew08 {cs : List Value} (hlen : cs.length = 23) {F : Bool} (kF : ∀ W, Calls Try.prog 61 #[.agg cs.toArray] W (RetB W F)) (w : World) : Calls Try.prog 31 #[.agg cs.toArray] w (RetB w F) := by
  have B0 := Lib.hid (Bx.new w cs 55)
  have X0 := Lib.hid ((Ext.refl w).alloc (.cells cs.toArray 55))
  have hsz : (Try.prog.info? 55).map (·.size) = some cs.toArray.size := by rw [sizeS]; simp [hlen]
  replace hsz := Lib.hid hsz; replace kF := Lib.hid kF; replace hlen := Lib.hid hlen
  go_enter Try.func31, Try.ntmps31
  go_wp2_with (first | (refine load_box (by rfl) 55 _ rfl w.heap.size rfl _ _ B0.out _ Try.underlying55 rfl hsz.out ?_))
  refine (kF.out _).mono ?_
  rintro e w' ⟨rfl, x⟩
  have X1 := Lib.hid (X0.out.trans x)
  clear x X0
  go_wp2_with fail
  go_ret
  exact ⟨rfl, X1.out⟩
theorem fewB (s : Su) (h : Sh) : ∃ F : Bool, (F = true ↔ SuFew s) ∧ ∀ W, Calls Try.prog 61 #[.agg (s.cells h).toArray] W (RetB W F) :=
  ⟨decide (s.ways.length ≤ 100 ∧ s.elements.length ≤ 100 ∧ s.classes.length ≤ 100 ∧ s.gears.length ≤ 100 ∧ s.rates.length ≤ 100 ∧ s.tiers.length ≤ 100), decide_eq_true_iff, fun W => fewA _ _ _ _ _ _ _ _ _ _ _ _ _ _ _ _ _ h.wA h.eA h.cA h.gA h.rA h.tA s.ways.length h.wC s.elements.length h.eC s.classes.length h.cC s.gears.length h.gC s.rates.length h.rC s.tiers.length h.tC W⟩

/-- What event.Put leaves, whatever the event. -/
theorem pEPutAny {w : World} (e : Ev) (h64 : Ev64 e) : Calls Try.prog 32 #[.slice none 0 0, .agg (encV e).toArray] w (RetBE w (if fairB e then encE e else []) (if fairB e then 0 else 80)) := by
  cases hf : fairB e with
  | false => exact pEPutN (A := none) (b := []) Rw.nil (by simp) 0 e h64 hf
  | true =>
    have := pEPutY (w := w) (A := none) (b := []) Rw.nil (by simp) 0 e h64 hf
    exact this

/-- What event.Take hands back. -/
def evT (b : List UInt8) : Ev := match decE b with | some (x, _) => x | none => ev0
def rsT (b : List UInt8) : List UInt8 := match decE b with | some (_, r) => r | none => []
def erT (b : List UInt8) : Int := match decE b with | some _ => 0 | none => 80
theorem pETakeAny {w : World} {A : Option Addr} {b : List UInt8} (h : Rb w A b) (hb : b.length ≤ 100000000) (c : Nat) (hc : b.length ≤ c) (hc2 : c ≤ maxLen) : Calls Try.prog 33 #[.slice A b.length c] w fun e w' => Ext w w' ∧ ∃ A' c', e = .returned (.tuple #[.agg (encV (evT b)).toArray, .slice A' (rsT b).length c', .int .i64 (erT b)]) ∧ Rb w' A' (rsT b) := by
  refine (pETake h hb c hc hc2).mono ?_
  rintro e w' ⟨x, h⟩
  refine ⟨x, ?_⟩
  unfold evT rsT erT
  cases hd : decE b with
  | none => rw [hd] at h; exact ⟨none, 0, h, Rw.nil⟩
  | some q =>
    obtain ⟨y, r⟩ := q
    rw [hd] at h
    obtain ⟨A', c', he, hr, _⟩ := h
    exact ⟨A', c', he, hr⟩
theorem ev0_64' : Ev64 ev0 := by constructor <;> (constructor <;> decide)
theorem evT_64 (b : List UInt8) : Ev64 (evT b) := by
  unfold evT
  cases hd : decE b with
  | none => exact ev0_64'
  | some q =>
    obtain ⟨y, r⟩ := q
    exact (decE_some hd).2.1

set_option maxRecDepth 100000 in
set_option maxHeartbeats 4000000 in
theorem back08 {cs : List Value} {pl : Int} {ne nc ng nr : Nat} (hsE : SuE cs pl ne nc ng nr) {F : Bool} (kF : ∀ W, Calls Try.prog 61 #[.agg cs.toArray] W (RetB W F)) (a : Ev) (h64 : Ev64 a) {w : World} {A : Option Addr} {b : List UInt8} (hb : Rb w A b) (c : Nat) (hc : b.length ≤ c ∧ c ≤ maxLen) :
    Calls Try.prog 8 #[.agg cs.toArray, .agg (encV a).toArray, .slice A b.length c] w (RetB w true) := by
  obtain ⟨W0, hW0⟩ : ∃ W0, (w.alloc (.cells cs.toArray 55)).alloc (.cells (encV a).toArray 23) = W0 := ⟨_, rfl⟩
  have BS : Hid (Bx W0 w.heap.size cs 55) := by rw [← hW0]; exact (Bx.new w cs 55).alloc _
  have BE : Hid (Bx W0 (w.heap.size + 1) (encV a) 23) := by
    rw [← hW0]
    have := Bx.new (w.alloc (.cells cs.toArray 55)) (encV a) 23
    rwa [show (w.alloc (.cells cs.toArray 55)).heap.size = w.heap.size + 1 from by simp] at this
  have X0 : Hid (Ext w W0) := by rw [← hW0]; exact ((Ext.refl w).alloc _).alloc _
  have R0 := Lib.hid (hb.ext X0.out)
  have hsz : (Try.prog.info? 55).map (·.size) = some cs.toArray.size := by rw [sizeS]; simp [hsE.len]
  replace hsz := Lib.hid hsz; replace kF := Lib.hid kF; replace hsE := Lib.hid hsE; replace hW0 := Lib.hid hW0; replace hc := Lib.hid hc
  clear hb
  go_enter Try.func8, Try.ntmps8
  go_wp2_with fail
  rw [hW0.out]
  refine (awake08 _).mono ?_
  rintro e1 w1 ⟨rfl, y1⟩
  have BS1 := Lib.hid (BS.out.ext y1); have BE1 := Lib.hid (BE.out.ext y1); have R1 := Lib.hid (R0.out.ext y1); have X1 := Lib.hid (X0.out.trans y1)
  clear y1 BS BE R0 X0 hW0
  go_wp2_with (first | (refine load_box (by rfl) 55 _ rfl w.heap.size rfl _ _ BS1.out _ Try.underlying55 rfl hsz.out ?_))
  refine (pFew08 hsE.out.len kF.out _).mono ?_
  rintro e2 w2 ⟨rfl, y2⟩
  have BS2 := Lib.hid (BS1.out.ext y2); have BE2 := Lib.hid (BE1.out.ext y2); have R2 := Lib.hid (R1.out.ext y2); have X2 := Lib.hid (X1.out.trans y2)
  clear y2 BS1 BE1 R1 X1 kF
  cases F with
  | false =>
    go_wp2_with fail
    go_ret
    exact ⟨rfl, X2.out⟩
  | true =>
    by_cases hbl : 1000 < b.length
    · have d1 : decide ((1000 : Int) < (b.length : Int)) = true := decide_eq_true (by omega)
      go_wp2_with fail
      go_ret
      exact ⟨rfl, X2.out⟩
    · have d1 : decide ((1000 : Int) < (b.length : Int)) = false := decide_eq_false (by omega)
      have lb : b.length ≤ 1000 := by omega
      replace lb := Lib.hid lb
      clear hbl
      go_wp2_with (first | (refine load_box (by rfl) 23 _ rfl (w.heap.size + 1) rfl _ _ BE2.out _ Try.underlying23 rfl sizeV ?_))
      refine (pEPutAny a h64).mono ?_
      obtain ⟨V, hV⟩ : ∃ V, (if fairB a then encE a else []) = V := ⟨_, rfl⟩
      obtain ⟨r, hr⟩ : ∃ r : Int, (if fairB a then 0 else 80 : Int) = r := ⟨_, rfl⟩
      rw [hV, hr]
      have lV : Hid (V.length ≤ 90) := by
        show _ ≤ _
        rw [← hV]
        split
        · next h => exact (encE_len h h64).1
        · simp
      rintro e3 w3 ⟨A8, c8, rfl, r8, y3, _⟩
      have R8 := Lib.hid r8; have BS3 := Lib.hid (BS2.out.ext y3); have BE3 := Lib.hid (BE2.out.ext y3); have R3 := Lib.hid (R2.out.ext y3); have X3 := Lib.hid (X2.out.trans y3)
      replace hV := Lib.hid hV; replace hr := Lib.hid hr
      clear r8 y3 BS2 BE2 R2 X2
      go_wp2_with (at_builtin; first | (refine appG elB w3 _ x4 _ _ (by rfl) (by rfl) V.length _ V b (by rfl) o4 rfl A c b.length (by rfl) rfl (R3.out.ext x4) (by have := lb.out; have := lV.out; omega) ?_; intro A5 c5 w5 o5 x5) | (refine appG elB w3 _ ((Ext.refl w3).alloc _) _ _ (by rfl) (by rfl) 0 _ [] V (by rfl) (own_emptyG w3 _ (Nat.le_refl _)) rfl A8 c8 V.length (by rfl) rfl (R8.out.alloc _) (by have := lV.out; simp; omega) ?_; intro A4 c4 w4 o4 x4; rw [Nat.zero_add, List.nil_append] at o4; rw [Nat.zero_add]))
      have RR5 : Hid (Rb w5 A5 (V ++ b)) := Rw.own elB (by rw [List.length_append]; exact o5)
      have cc5 := own_cap o5
      have BS5 := Lib.hid (BS3.out.ext x5); have BE5 := Lib.hid (BE3.out.ext x5); have R5 := Lib.hid (R3.out.ext x5); have X5 := Lib.hid (X3.out.trans x5); have V5 := Lib.hid (R8.out.ext x5)
      have kT := pETakeAny RR5.out (by rw [List.length_append]; have := lb.out; have := lV.out; omega) c5 (by rw [List.length_append]; exact cc5.1) cc5.2
      rw [List.length_append] at kT
      refine kT.mono ?_
      obtain ⟨E1, hE1⟩ : ∃ E, evT (V ++ b) = E := ⟨_, rfl⟩
      obtain ⟨S1, hS1⟩ : ∃ E, rsT (V ++ b) = E := ⟨_, rfl⟩
      obtain ⟨q1, hq1⟩ : ∃ E, erT (V ++ b) = E := ⟨_, rfl⟩
      rw [hE1, hS1, hq1]
      replace hE1 := Lib.hid hE1; replace hS1 := Lib.hid hS1; replace hq1 := Lib.hid hq1
      rintro e6 w6 ⟨y6, A6, c6, rfl, r6⟩
      have BS6 := Lib.hid ((BS5.out.ext y6).alloc (.cells (encV E1).toArray 23)); have BE6 := Lib.hid ((BE5.out.ext y6).alloc (.cells (encV E1).toArray 23)); have R6 := Lib.hid ((R5.out.ext y6).alloc (.cells (encV E1).toArray 23)); have X6 := Lib.hid ((X5.out.trans y6).alloc (.cells (encV E1).toArray 23)); have T6 := Lib.hid (r6.alloc (.cells (encV E1).toArray 23))
      have C6 := Lib.hid (Bx.new w6 (encV E1) 23)
      clear kT RR5 cc5 y6 r6 BS5 BE5 R5 X5 V5 BS3 BE3 R3 X3 R8 o4 x4 o5 x5
      go_wp2_with (first | (refine store_newE rfl 23 _ _ (by rfl) w6 w6.heap.size rfl (encV ev0).toArray (encV E1).toArray 23 (by rfl) (by rfl) (by rfl) sizeV rfl (cells_ok E1) ?_))
      obtain ⟨w7, hw7⟩ : ∃ W, w6.alloc (.cells (encV E1).toArray 23) = W := ⟨_, rfl⟩
      obtain ⟨g6, hg6⟩ : ∃ g, w6.heap.size = g := ⟨_, rfl⟩
      rw [hw7] at BS6 BE6 R6 X6 T6 C6 ⊢
      rw [hg6] at C6 ⊢
      clear hw7 hg6
      have hcc := hc.out
      have hll := lb.out
      refine (pETakeAny R6.out (by omega) c hcc.1 hcc.2).mono ?_
      obtain ⟨E2, hE2⟩ : ∃ E, evT b = E := ⟨_, rfl⟩
      obtain ⟨S2, hS2⟩ : ∃ E, rsT b = E := ⟨_, rfl⟩
      obtain ⟨q2, hq2⟩ : ∃ E, erT b = E := ⟨_, rfl⟩
      have h642 : Hid (Ev64 E2) := by rw [← hE2]; exact evT_64 b
      rw [hE2, hS2, hq2]
      replace hE2 := Lib.hid hE2; replace hS2 := Lib.hid hS2; replace hq2 := Lib.hid hq2
      rintro e8 w8 ⟨y8, A8', c8', rfl, r8⟩
      have BS8 := Lib.hid ((BS6.out.ext y8).alloc (.cells (encV E2).toArray 23)); have BE8 := Lib.hid ((BE6.out.ext y8).alloc (.cells (encV E2).toArray 23)); have R8 := Lib.hid ((R6.out.ext y8).alloc (.cells (encV E2).toArray 23)); have X8 := Lib.hid ((X6.out.trans y8).alloc (.cells (encV E2).toArray 23)); have T8 := Lib.hid ((T6.out.ext y8).alloc (.cells (encV E2).toArray 23)); have C8 := Lib.hid ((C6.out.ext y8).alloc (.cells (encV E2).toArray 23)); have U8 := Lib.hid (r8.alloc (.cells (encV E2).toArray 23))
      have D8 := Lib.hid (Bx.new w8 (encV E2) 23)
      clear y8 r8 BS6 BE6 R6 X6 T6 C6
      go_wp2_with (first | (refine store_newE rfl 23 _ _ (by rfl) w8 w8.heap.size rfl (encV ev0).toArray (encV E2).toArray 23 (by rfl) (by rfl) (by rfl) sizeV rfl (cells_ok E2) ?_) | (refine load_box (by rfl) 23 _ rfl w8.heap.size rfl _ _ D8.out _ Try.underlying23 rfl sizeV ?_))
      obtain ⟨w9, hw9⟩ : ∃ W, w8.alloc (.cells (encV E2).toArray 23) = W := ⟨_, rfl⟩
      obtain ⟨g8, hg8⟩ : ∃ g, w8.heap.size = g := ⟨_, rfl⟩
      rw [hw9] at BS8 BE8 R8 X8 T8 C8 U8 D8 ⊢
      rw [hg8] at D8 ⊢
      clear hw9 hg8
      refine (pEPutAny E2 h642.out).mono ?_
      obtain ⟨V2, hV2⟩ : ∃ V, (if fairB E2 then encE E2 else []) = V := ⟨_, rfl⟩
      obtain ⟨r2, hr2⟩ : ∃ r : Int, (if fairB E2 then 0 else 80 : Int) = r := ⟨_, rfl⟩
      rw [hV2, hr2]
      replace hV2 := Lib.hid hV2; replace hr2 := Lib.hid hr2
      rintro e9 w10 ⟨A9, c9, rfl, r9, y9, _⟩
      have BS9 := Lib.hid (BS8.out.ext y9); have BE9 := Lib.hid (BE8.out.ext y9); have R9 := Lib.hid (R8.out.ext y9); have X9 := Lib.hid (X8.out.trans y9); have T9 := Lib.hid (T8.out.ext y9); have C9 := Lib.hid (C8.out.ext y9); have U9 := Lib.hid (U8.out.ext y9); have D9 := Lib.hid (D8.out.ext y9); have P9 := Lib.hid r9
      clear y9 r9 BS8 BE8 R8 X8 T8 C8 U8 D8 hcc hll
      go_upto_region 8 with fail
      go_cut [18] from 55 (fun v wc => v = .bool true ∧ Hid (Ext w10 wc))
      case first =>
        cases hf : fairB a with
        | true =>
          have hd : decE (V ++ b) = some (a, b) := by rw [← hV.out, if_pos hf]; exact decE_enc hf h64 b
          obtain rfl : a = E1 := by rw [← hE1.out]; unfold evT; rw [hd]
          obtain rfl : b = S1 := by rw [← hS1.out]; unfold rsT; rw [hd]
          obtain rfl : 0 = q1 := by rw [← hq1.out]; unfold erT; rw [hd]
          obtain rfl : 0 = r := by rw [← hr.out, if_pos hf]
          have hq := fun W => eqInV a a W
          rw [decide_eq_true (rfl : a = a)] at hq
          have s1 := run_str T9.out c6; have s2 := run_str R9.out c
          clear hd hf hE1 hS1 hq1 hr hV
          go_wp2_with (first | (refine load_box (by rfl) 23 _ rfl g6 rfl _ _ C9.out _ Try.underlying23 rfl sizeV ?_) | (refine load_box (by rfl) 23 _ rfl (w.heap.size + 1) rfl _ _ BE9.out _ Try.underlying23 rfl sizeV ?_))
          go_meet
          case rel => exact ⟨rfl, Ext.refl _⟩
        | false =>
          have hVz : ((V.length : Int) == 0) = true := by rw [← hV.out, hf]; rfl
          obtain rfl : 80 = r := by rw [← hr.out, hf]; rfl
          have hce : checkE pl ne nc ng nr a = false := by unfold checkE; rw [hf]; rfl
          have kc := pCheckE hsE.out a w10
          rw [hce] at kc
          replace kc := Lib.hid kc
          clear hf hE1 hS1 hq1 hr hV hce
          go_wp2_with (first | (refine load_box (by rfl) 55 _ rfl w.heap.size rfl _ _ BS9.out _ Try.underlying55 rfl hsz.out ?_) | (refine load_box (by rfl) 23 _ rfl (w.heap.size + 1) rfl _ _ BE9.out _ Try.underlying23 rfl sizeV ?_))
          refine kc.out.mono ?_
          rintro e11 w11 ⟨rfl, x11⟩
          replace x11 := Lib.hid x11
          go_wp2_with fail
          go_meet
          case rel => exact ⟨rfl, x11⟩
      case rest =>
        obtain ⟨rfl, X11⟩ := hcut
        obtain ⟨w11, hw11⟩ : ∃ W, wc = W := ⟨_, rfl⟩
        rw [hw11] at X11 ⊢
        clear hw11
        have R11 := Lib.hid (R9.out.ext X11.out); have U11 := Lib.hid (U9.out.ext X11.out); have D11 := Lib.hid (D9.out.ext X11.out); have P11 := Lib.hid (P9.out.ext X11.out); have XF := Lib.hid (X9.out.trans X11.out)
        clear BS9 BE9 R9 X9 T9 C9 U9 D9 P9 X11
        cases hd : decE b with
        | none =>
          obtain rfl : ev0 = E2 := by rw [← hE2.out]; unfold evT; rw [hd]
          obtain rfl : 80 = q2 := by rw [← hq2.out]; unfold erT; rw [hd]
          have hq : ∀ w, (Op.equalIn 10000 23 (.agg (encV ev0).toArray) (.agg #[.int .i64 0, .int .i64 0, .int .i64 0, .int .i64 0, .int .i64 0, .int .i64 0, .int .i64 0, .int .i64 0, .int .i64 0, .int .i64 0, .int .i64 0])).run Try.prog w = .ok true w := fun W => by
            have := eqInV ev0 ev0 W
            rw [decide_eq_true (rfl : ev0 = ev0)] at this
            exact this
          clear hd
          go_wp2_with (first | (refine load_box (by rfl) 23 _ rfl g8 rfl _ _ D11.out _ Try.underlying23 rfl sizeV ?_))
          go_ret
          exact ⟨rfl, XF.out⟩
        | some pr =>
          obtain ⟨y, mo⟩ := pr
          obtain ⟨hfy, hy64, hbe⟩ := decE_some hd
          obtain rfl : y = E2 := by rw [← hE2.out]; unfold evT; rw [hd]
          obtain rfl : mo = S2 := by rw [← hS2.out]; unfold rsT; rw [hd]
          obtain rfl : 0 = q2 := by rw [← hq2.out]; unfold erT; rw [hd]
          obtain rfl : encE y = V2 := by rw [← hV2.out, if_pos hfy]
          obtain rfl : 0 = r2 := by rw [← hr2.out, if_pos hfy]
          obtain ⟨V3, hV3⟩ : ∃ V, encE y = V := ⟨_, rfl⟩
          rw [hV3] at P11 hbe ⊢
          have lbe : b.length = V3.length + mo.length := by rw [hbe, List.length_append]
          have s1 := run_str P11.out c9; have s2 := run_str U11.out c8'; have s3 := run_str R11.out c
          have hll := lb.out
          have hadd := fun W => run_string_add_lists (P := Try.prog) (w := W) V3 mo (by omega) (by omega)
          have hT : (V3 ++ mo == b) = true := beq_iff_eq.2 hbe.symm
          clear hd hE2 hS2 hq2 hV2 hr2 hfy hy64 hbe lbe hll hV3
          go_wp2_with fail
          go_ret
          exact ⟨rfl, XF.out⟩
theorem back08' (s : Su) (g : Sh) (a : Ev) (h64 : Ev64 a) {w : World} {A : Option Addr} {b : List UInt8} (hb : Rb w A b) (c : Nat) (hc : b.length ≤ c ∧ c ≤ maxLen) :
    Calls Try.prog 8 #[.agg (s.cells g).toArray, .agg (encV a).toArray, .slice A b.length c] w (RetB w true) := by
  obtain ⟨F, _, kF⟩ := fewB s g
  exact back08 (suE_of s g) kF a h64 hb c hc
end Go.Proofs.Ytmbjbbflhlndcaa
