/-
  lumperlaw08.EventCuts, EventThree: their walks.
-/
import Derived.Test.YtmbjbbflhlndcaaLr2
import Derived.BigQuiet
namespace Go.Proofs.Ytmbjbbflhlndcaa
open Go.RowKit BigFrame
set_option linter.unusedVariables false
set_option linter.unusedSimpArgs false

theorem cut_none {e : Ev} (hf : fairB e = true) (h64 : Ev64 e) {j : Nat} (hj : j < (encE e).length) : decE ((encE e).take j) = none := by
  cases hd : decE ((encE e).take j) with
  | none => rfl
  | some q =>
    obtain ⟨x, r⟩ := q
    obtain ⟨hx, hx64, hb⟩ := decE_some hd
    have h1 := decE_enc hf h64 []
    rw [List.append_nil] at h1
    have h2 := decE_enc hx hx64 (r ++ (encE e).drop j)
    rw [← List.append_assoc, ← hb, List.take_append_drop, h1] at h2
    have h3 : ([] : List UInt8) = r ++ (encE e).drop j := by
      have := Option.some.inj h2
      exact (Prod.mk.inj this).2
    have := congrArg List.length h3
    rw [List.length_append, List.length_drop, List.length_nil] at this
    omega

set_option maxRecDepth 100000 in
set_option maxHeartbeats 2000000 in
theorem cuts08 (e : Ev) (h64 : Ev64 e) (x : Int) (hx : 0 ≤ x ∧ x ≤ 255) (w : World) : Calls Try.prog 9 #[.agg (encV e).toArray, .int .u8 x] w (RetB w true) := by
  obtain ⟨x0, x1⟩ := hx
  have B0 := Lib.hid (Bx.new w (encV e) 23)
  have X0 := Lib.hid ((Ext.refl w).alloc (.cells (encV e).toArray 23))
  go_enter Try.func9, Try.ntmps9
  go_wp2_with fail
  refine (awake08 _).mono ?_
  rintro e1 w1 ⟨rfl, y1⟩
  have B1 := Lib.hid (B0.out.ext y1); have X1 := Lib.hid (X0.out.trans y1)
  clear y1 B0 X0
  go_wp2_with (first | (refine load_box (by rfl) 23 _ rfl w.heap.size rfl _ _ B1.out _ Try.underlying23 rfl sizeV ?_))
  cases hf : fairB e with
  | false =>
    refine (pEPutN (A := none) (b := []) Rw.nil (by simp) 0 e h64 hf).mono ?_
    rintro e2 w2 ⟨A2, c2, rfl, _, y2, _⟩
    have X2 := Lib.hid (X1.out.trans y2)
    clear y2 X1 B1 hf
    go_wp2_with fail
    go_ret
    exact ⟨rfl, X2.out⟩
  | true =>
    refine (pEPutY (A := none) (b := []) Rw.nil (by simp) 0 e h64 hf).mono ?_
    rintro e2 w2 ⟨A2, c2, rfl, r2, y2, o2⟩
    rw [List.nil_append] at r2 o2 ⊢
    have X2 := Lib.hid (X1.out.trans y2)
    have hl := encE_len hf h64
    have hc := own_cap o2
    have hn := fun (j : Nat) (hj : j < (encE e).length) => cut_none hf h64 hj
    obtain ⟨b, hb⟩ : ∃ b, encE e = b := ⟨_, rfl⟩
    rw [hb] at r2 hl hc hn ⊢
    have R2 := Lib.hid r2
    clear y2 X1 B1 hf hb o2 r2
    have z0 : ((b.length : Int) == 0) = false := by rw [beq_eq_false_iff_ne]; omega
    obtain ⟨K, hK⟩ : ∃ K : Nat, x % (b.length : Int) = K := ⟨(x % (b.length : Int)).toNat, by have := Int.emod_nonneg x (show (b.length : Int) ≠ 0 by omega); omega⟩
    have hKl : K < b.length := by have := Int.emod_lt_of_pos x (show (0 : Int) < (b.length : Int) by omega); omega
    have hnK := hn K hKl
    obtain ⟨A4, hA4, hs4⟩ := slice_hiS R2.out (Nat.le_of_lt hKl) hc.1
    have hKt : Hid ((b.take K).length = K) := by show _ = _; rw [List.length_take]; omega
    have hl2 := Lib.hid hl; have hc2 := Lib.hid hc
    have kT := pETake (hs4 w2 R2.out) (by rw [hKt.out]; omega) c2 (by rw [hKt.out]; omega) hc.2
    rw [hKt.out, hnK] at kT
    replace kT := Lib.hid kT
    clear hn hs4 hnK
    have n0 : ¬ ((b.length : Int) = 0) := by omega
    go_wp2_with fail
    refine kT.out.mono ?_
    rintro e3 w3 ⟨y3, hr⟩
    have hr3 : e3 = .returned (.tuple #[.agg (encV ev0).toArray, .slice none 0 0, .int .i64 80]) := hr
    subst hr3
    have X3 := Lib.hid ((X2.out.trans y3).alloc (.cells (encV ev0).toArray 23))
    clear hr y3 kT X2 R2
    go_wp2_with (first | (refine store_newE rfl 23 _ _ (by rfl) w3 w3.heap.size rfl (encV ev0).toArray (encV ev0).toArray 23 (by rfl) (by rfl) (by rfl) sizeV rfl (cells_ok ev0) ?_))
    go_ret
    exact ⟨rfl, X3.out⟩

/-- A world behind w. -/
def Later (w : World) : Type := { w' : World // Ext w w' }
instance later_some (w : World) : Nonempty (Later w) := ⟨⟨w, Ext.refl w⟩⟩
theorem wp_region_later {P : Program} {id : Nat} {Q : Exit → Act → World → Prop} {a : Act} {w : World} {l : List Oper} (w0 : World) (hX : Ext w0 w) (hm : P.follows .mixedOrders = true) (hB : Region.lexB .any l.toArray = true)
    (h : wpQuiet P l.toArray (fun w' => ∃ e : Later w0, w' = e.1) (fun a' => ∀ w', (∃ e : Later w0, w' = e.1) → Q .normal a' w') l a) : (Code.region id l.toArray true).wp P Q a w :=
  wp_region_quiet (C := fun w' => ∃ e : Later w0, w' = e.1) hm hB ⟨⟨_, hX.drewN 1⟩, rfl⟩ (by simpa using h)
theorem later_bool {P : Program} {f : FuncId} {args : Array Value} {w0 : World} {e : Later w0} {b : Bool} (h : Calls P f args e.1 (RetB e.1 b)) : Calls P f args e.1 fun x w'' => x = .returned (.bool b) ∧ ∃ e' : Later w0, w'' = e'.1 :=
  h.mono fun _ w'' ⟨he, hx⟩ => ⟨he, ⟨w'', e.2.trans hx⟩, rfl⟩
/-- A whole struct read out of its block, in a region that draws. -/
theorem quiet_box {P : Program} {ops : Array Oper} {C : World → Prop} {Q : Act → Prop} {a : Act} {o : Oper} {rest : List Oper} (hw : Region.wanted o (yielded ops a.tmps) = true) (ty : TypeId) (x : Operand) (ho : o.op = .load ty x)
    (g : Nat) (hx : a.eval x = .pointer (some ⟨g, 0, none⟩)) (cs : List Value) (t : TypeId) (hg : ∀ w, C w → Bx w g cs t) (d : TypeDesc)
    (hu : P.underlying ty = some d) (hd : (match d with | .struct _ | .array _ _ => true | _ => false) = true) (hi : (P.info? ty).map (·.size) = some cs.toArray.size)
    (a' : Act) (ha : a.put o.dst (.agg cs.toArray) = a') (h : wpQuiet P ops C Q rest a') : wpQuiet P ops C Q (o :: rest) a :=
  wpQuiet_want hw fun K hK => ⟨_, fun w hw => by
    unfold Oper.quietAt execOp
    simp only [ho, hx, Instr.loadAt, Instr.sureAddr, Sem.run_bind, Sem.run_pure, Result.andThen_ok, run_loadVar_row w g t ty cs.toArray (0, 0) d (hg w hw) hu hd hi]
    exact ⟨rfl, rfl⟩, hK _ (ha ▸ h)⟩

theorem less_three (a b c : Ev) : (!lessE a b || !lessE b c || lessE a c) = true ∧ lessE a a = false := by
  refine ⟨?_, ordE.irr a⟩
  unfold lessE
  by_cases h1 : a.at_ < b.at_ ∨ a.at_ = b.at_ ∧ a.id < b.id
  · by_cases h2 : b.at_ < c.at_ ∨ b.at_ = c.at_ ∧ b.id < c.id
    · have h3 : a.at_ < c.at_ ∨ a.at_ = c.at_ ∧ a.id < c.id := by omega
      simp [h3]
    · simp [h2]
  · simp [h1]
theorem less_two (a b : Ev) : ((lessE a b != lessE b a) == !decide (a.at_ = b.at_ ∧ a.id = b.id)) = true := by
  unfold lessE
  rcases Int.lt_trichotomy a.at_ b.at_ with h | h | h
  · have h1 : a.at_ < b.at_ ∨ a.at_ = b.at_ ∧ a.id < b.id := by omega
    have h2 : ¬ (b.at_ < a.at_ ∨ b.at_ = a.at_ ∧ b.id < a.id) := by omega
    have h3 : ¬ (a.at_ = b.at_ ∧ a.id = b.id) := by omega
    rw [decide_eq_true h1, decide_eq_false h2, decide_eq_false h3]; rfl
  · rcases Int.lt_trichotomy a.id b.id with k | k | k
    · have h1 : a.at_ < b.at_ ∨ a.at_ = b.at_ ∧ a.id < b.id := by omega
      have h2 : ¬ (b.at_ < a.at_ ∨ b.at_ = a.at_ ∧ b.id < a.id) := by omega
      have h3 : ¬ (a.at_ = b.at_ ∧ a.id = b.id) := by omega
      rw [decide_eq_true h1, decide_eq_false h2, decide_eq_false h3]; rfl
    · have h1 : ¬ (a.at_ < b.at_ ∨ a.at_ = b.at_ ∧ a.id < b.id) := by omega
      have h2 : ¬ (b.at_ < a.at_ ∨ b.at_ = a.at_ ∧ b.id < a.id) := by omega
      rw [decide_eq_false h1, decide_eq_false h2, decide_eq_true ⟨h, k⟩]; rfl
    · have h1 : ¬ (a.at_ < b.at_ ∨ a.at_ = b.at_ ∧ a.id < b.id) := by omega
      have h2 : b.at_ < a.at_ ∨ b.at_ = a.at_ ∧ b.id < a.id := by omega
      have h3 : ¬ (a.at_ = b.at_ ∧ a.id = b.id) := by omega
      rw [decide_eq_false h1, decide_eq_true h2, decide_eq_false h3]; rfl
  · have h1 : ¬ (a.at_ < b.at_ ∨ a.at_ = b.at_ ∧ a.id < b.id) := by omega
    have h2 : b.at_ < a.at_ ∨ b.at_ = a.at_ ∧ b.id < a.id := by omega
    have h3 : ¬ (a.at_ = b.at_ ∧ a.id = b.id) := by omega
    rw [decide_eq_false h1, decide_eq_true h2, decide_eq_false h3]; rfl

set_option maxRecDepth 100000 in
set_option maxHeartbeats 4000000 in
theorem three08 (a b c : Ev) (w : World) : Calls Try.prog 12 #[.agg (encV a).toArray, .agg (encV b).toArray, .agg (encV c).toArray] w (RetB w true) := by
  obtain ⟨W0, hW0⟩ : ∃ W0, ((w.alloc (.cells (encV a).toArray 23)).alloc (.cells (encV b).toArray 23)).alloc (.cells (encV c).toArray 23) = W0 := ⟨_, rfl⟩
  have BA : Hid (Bx W0 w.heap.size (encV a) 23) := by rw [← hW0]; exact ((Bx.new w (encV a) 23).alloc _).alloc _
  have BB : Hid (Bx W0 (w.heap.size + 1) (encV b) 23) := by
    rw [← hW0]
    have := (Bx.new (w.alloc (.cells (encV a).toArray 23)) (encV b) 23).alloc (.cells (encV c).toArray 23)
    rwa [show (w.alloc (.cells (encV a).toArray 23)).heap.size = w.heap.size + 1 from by simp] at this
  have BC : Hid (Bx W0 (w.heap.size + 2) (encV c) 23) := by
    rw [← hW0]
    have := Bx.new ((w.alloc (.cells (encV a).toArray 23)).alloc (.cells (encV b).toArray 23)) (encV c) 23
    rwa [show ((w.alloc (.cells (encV a).toArray 23)).alloc (.cells (encV b).toArray 23)).heap.size = w.heap.size + 2 from by simp] at this
  have X0 : Hid (Ext w W0) := by rw [← hW0]; exact (((Ext.refl w).alloc _).alloc _).alloc _
  obtain ⟨f3, f4⟩ := less_three a b c
  have f2 := less_two a b
  obtain ⟨A, hA⟩ : ∃ A, decide (a.at_ = b.at_ ∧ a.id = b.id) = A := ⟨_, rfl⟩
  rw [hA] at f2
  replace hA := Lib.hid hA; replace f2 := Lib.hid f2; replace f3 := Lib.hid f3; replace f4 := Lib.hid f4
  replace hW0 := Lib.hid hW0
  go_enter Try.func12, Try.ntmps12
  go_wp2_with fail
  rw [hW0.out]
  refine (awake08 _).mono ?_
  rintro e1 w1 ⟨rfl, y1⟩
  have BA1 := Lib.hid (BA.out.ext y1); have BB1 := Lib.hid (BB.out.ext y1); have BC1 := Lib.hid (BC.out.ext y1); have X1 := Lib.hid (X0.out.trans y1)
  clear y1 BA BB BC X0
  go_upto_region 2 with fail
  go_cut [8] from 11 (fun v wc => v = .bool A ∧ wc = w1)
  case first =>
    have a0 := BA1.out.cell 0 _ rfl; have a2 := BA1.out.cell 2 _ rfl; have b0 := BB1.out.cell 0 _ rfl; have b2 := BB1.out.cell 2 _ rfl
    by_cases h1 : a.at_ = b.at_
    · by_cases h2 : a.id = b.id
      · have q1 : (a.at_ == b.at_) = true := by rw [beq_iff_eq]; exact h1
        have q2 : (a.id == b.id) = true := by rw [beq_iff_eq]; exact h2
        have hAv : A = true := by rw [← hA.out]; exact decide_eq_true ⟨h1, h2⟩
        clear h1 h2
        go_wp2_with fail
        go_meet
        case rel => exact ⟨by rw [hAv], rfl⟩
      · have q1 : (a.at_ == b.at_) = true := by rw [beq_iff_eq]; exact h1
        have q2 : (a.id == b.id) = false := by rw [beq_eq_false_iff_ne]; exact h2
        have hAv : A = false := by rw [← hA.out]; exact decide_eq_false fun h => h2 h.2
        clear h1 h2
        go_wp2_with fail
        go_meet
        case rel => exact ⟨by rw [hAv], rfl⟩
    · have q1 : (a.at_ == b.at_) = false := by rw [beq_eq_false_iff_ne]; exact h1
      have hAv : A = false := by rw [← hA.out]; exact decide_eq_false fun h => h1 h.1
      clear h1
      go_wp2_with fail
      go_meet
      case rel => exact ⟨by rw [hAv], rfl⟩
  case rest =>
    obtain ⟨rfl, rfl⟩ := hcut
    obtain ⟨L1, hL1⟩ : ∃ L, lessE a b = L := ⟨_, rfl⟩
    obtain ⟨L2, hL2⟩ : ∃ L, lessE b c = L := ⟨_, rfl⟩
    obtain ⟨L3, hL3⟩ : ∃ L, lessE a c = L := ⟨_, rfl⟩
    obtain ⟨L4, hL4⟩ : ∃ L, lessE b a = L := ⟨_, rfl⟩
    have k1 : Hid (∀ W, Calls Try.prog 38 #[.agg (encV a).toArray, .agg (encV b).toArray] W (RetB W L1)) := fun W => hL1 ▸ pLess a b W
    have k2 : Hid (∀ W, Calls Try.prog 38 #[.agg (encV b).toArray, .agg (encV c).toArray] W (RetB W L2)) := fun W => hL2 ▸ pLess b c W
    have k3 : Hid (∀ W, Calls Try.prog 38 #[.agg (encV a).toArray, .agg (encV c).toArray] W (RetB W L3)) := fun W => hL3 ▸ pLess a c W
    have k4 : Hid (∀ W, Calls Try.prog 38 #[.agg (encV b).toArray, .agg (encV a).toArray] W (RetB W L4)) := fun W => hL4 ▸ pLess b a W
    have k5 : Hid (∀ W, Calls Try.prog 38 #[.agg (encV a).toArray, .agg (encV a).toArray] W (RetB W false)) := fun W => f4.out ▸ pLess a a W
    rw [hL1, hL4] at f2
    rw [hL1, hL2, hL3] at f3
    clear hL1 hL2 hL3 hL4 f4 hA
    go_upto_region 3 with fail
    obtain ⟨u1, hu1⟩ : ∃ u, wc = u := ⟨_, rfl⟩
    rw [hu1] at BA1 BB1 BC1 X1 ⊢
    clear hu1
    have f3h := f3.out
    go_cut [9] from 23 (fun v wc2 => v = .bool true ∧ Hid (Ext u1 wc2))
    case first =>
      have xr := Ext.refl u1
      go_wp2_with (first | (refine load_box (by rfl) 23 _ rfl (w.heap.size) rfl _ _ (BA1.out.ext (Ext.refl u1)) _ Try.underlying23 rfl sizeV ?_) | (refine load_box (by rfl) 23 _ rfl (w.heap.size + 1) rfl _ _ (BB1.out.ext (Ext.refl u1)) _ Try.underlying23 rfl sizeV ?_) | (refine load_box (by rfl) 23 _ rfl (w.heap.size + 2) rfl _ _ (BC1.out.ext (Ext.refl u1)) _ Try.underlying23 rfl sizeV ?_))
      refine (k1.out _).mono ?_
      rintro e2 u2 ⟨rfl, x2⟩
      replace x2 := Lib.hid x2
      cases L1 with
      | false =>
        go_wp2_with fail
        go_meet
        case rel => exact ⟨rfl, x2⟩
      | true =>
        go_wp2_with (first | (refine load_box (by rfl) 23 _ rfl (w.heap.size) rfl _ _ (BA1.out.ext x2.out) _ Try.underlying23 rfl sizeV ?_) | (refine load_box (by rfl) 23 _ rfl (w.heap.size + 1) rfl _ _ (BB1.out.ext x2.out) _ Try.underlying23 rfl sizeV ?_) | (refine load_box (by rfl) 23 _ rfl (w.heap.size + 2) rfl _ _ (BC1.out.ext x2.out) _ Try.underlying23 rfl sizeV ?_))
        refine (k2.out _).mono ?_
        rintro e3 u3 ⟨rfl, x3⟩
        replace x3 := Lib.hid (x2.out.trans x3)
        cases L2 with
        | false =>
          go_wp2_with fail
          go_meet
          case rel => exact ⟨rfl, x3⟩
        | true =>
          obtain rfl : L3 = true := by simpa using f3h
          go_wp2_with (first | (refine load_box (by rfl) 23 _ rfl (w.heap.size) rfl _ _ (BA1.out.ext x3.out) _ Try.underlying23 rfl sizeV ?_) | (refine load_box (by rfl) 23 _ rfl (w.heap.size + 1) rfl _ _ (BB1.out.ext x3.out) _ Try.underlying23 rfl sizeV ?_) | (refine load_box (by rfl) 23 _ rfl (w.heap.size + 2) rfl _ _ (BC1.out.ext x3.out) _ Try.underlying23 rfl sizeV ?_))
          refine (k3.out _).mono ?_
          rintro e4 u4 ⟨rfl, x4⟩
          replace x4 := Lib.hid (x3.out.trans x4)
          go_wp2_with fail
          go_meet
          case rel => exact ⟨rfl, x4⟩
    case rest =>
      obtain ⟨rfl, X2⟩ := hcut
      clear k2 k3 f3 f3h BC1
      have BA2 := Lib.hid (BA1.out.ext X2.out); have BB2 := Lib.hid (BB1.out.ext X2.out)
      have XX := Lib.hid (X1.out.trans X2.out)
      have KEY : ∀ (L1 L4 A : Bool), ((L1 != L4) == !A) = true → True := fun _ _ _ _ => trivial
      have hq : Hid (((L1 != L4) == !A) = true) := f2
      clear BA1 BB1 X1 X2 KEY f2
      obtain ⟨u2, hu2⟩ : ∃ u, wc = u := ⟨_, rfl⟩
      rw [hu2] at BA2 BB2 XX ⊢
      clear hu2
      go_wp2_with fail
      have hq2 := hq.out
      clear hq
      cases A <;> cases L1 <;> cases L4 <;> first | (exact absurd hq2 (by decide)) | skip
      all_goals
        clear hq2
        refine wp_region_later u2 (Ext.refl _) (by kernel_rfl) (by kernel_rfl) ?_
        go_big_quiet_step (fail)
        go_big_quiet_step (fail)
        refine quiet_box (by rfl) 23 _ rfl (w.heap.size) rfl (encV a) _ (fun W ⟨e, he⟩ => by subst he; exact BA2.out.ext e.2) _ Try.underlying23 rfl sizeV _ (by simp [Act.put]; rfl) ?_
        refine quiet_box (by rfl) 23 _ rfl (w.heap.size + 1) rfl (encV b) _ (fun W ⟨e, he⟩ => by subst he; exact BB2.out.ext e.2) _ Try.underlying23 rfl sizeV _ (by simp [Act.put]; rfl) ?_
        go_big_quiet_step (exact later_bool (k1.out _))
        refine quiet_box (by rfl) 23 _ rfl (w.heap.size + 1) rfl (encV b) _ (fun W ⟨e, he⟩ => by subst he; exact BB2.out.ext e.2) _ Try.underlying23 rfl sizeV _ (by simp [Act.put]; rfl) ?_
        refine quiet_box (by rfl) 23 _ rfl (w.heap.size) rfl (encV a) _ (fun W ⟨e, he⟩ => by subst he; exact BA2.out.ext e.2) _ Try.underlying23 rfl sizeV _ (by simp [Act.put]; rfl) ?_
        go_big_quiet_step (exact later_bool (k4.out _))
        go_big_quiet_step (fail)
        go_big_quiet_step (fail)
        go_big_quiet_step (fail)
        go_big_quiet_step (fail)
        go_big_quiet_step (fail)
        go_big_quiet_step (fail)
        go_big_quiet_step (fail)
        go_big_quiet_step (fail)
        go_big_quiet_step (fail)
        refine quiet_box (by rfl) 23 _ rfl (w.heap.size) rfl (encV a) _ (fun W ⟨e, he⟩ => by subst he; exact BA2.out.ext e.2) _ Try.underlying23 rfl sizeV _ (by simp [Act.put]; rfl) ?_
        refine quiet_box (by rfl) 23 _ rfl (w.heap.size) rfl (encV a) _ (fun W ⟨e, he⟩ => by subst he; exact BA2.out.ext e.2) _ Try.underlying23 rfl sizeV _ (by simp [Act.put]; rfl) ?_
        go_big_quiet_step (exact later_bool (k5.out _))
        go_big_quiet_step (fail)
        go_big_quiet_step (fail)
        go_big_quiet_step (fail)
        refine wpQuiet_nil ?_
        rintro _ ⟨e, rfl⟩
        have X3 := Lib.hid (XX.out.trans e.2)
        go_wp2_with fail
        go_ret
        exact ⟨rfl, X3.out⟩
end Go.Proofs.Ytmbjbbflhlndcaa
