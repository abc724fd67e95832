/-
  event.Take.
-/
import Derived.Test.YtmbjbbflhlndcaaJs
import Derived.Laws.Tables
import Derived.Deep.WholeRow
namespace Go.Proofs.Ytmbjbbflhlndcaa
open Go.RowKit BigFrame
set_option linter.unusedVariables false
set_option linter.unusedSimpArgs false

theorem bx_setRow {w : World} {g : Nat} {cs cs' : List Value} {t : TypeId} (h : Bx w g cs t) : Bx (w.setRow g cs'.toArray) g cs' t := setRow_heap w g cs.toArray cs'.toArray t (0, 0) h
theorem bx_setRow_other {w : World} {g k : Nat} {cs : List Value} {t : TypeId} (h : Bx w k cs t) (hne : k ≠ g) (c : Array Value) : Bx (w.setRow g c) k cs t := by
  unfold Bx at h ⊢; rw [setRow_other w g k c hne]; exact h
theorem below_setRow {B g : Nat} {a w : World} (h : Below B a w) (hg : B ≤ g) (c : Array Value) : Below B a (w.setRow g c) :=
  h.trans ⟨rfl, rfl, rfl, by simp, fun k hk => setRow_other w g k c (by omega)⟩
theorem rw_setRow {α : Type} {enc : α → List Value} {k : Nat} {w : World} {A : Option Addr} {l : List α} (h : Rw enc k w A l) {g : Nat} (c : Array Value) (hg : ∀ b off, A = some ⟨b, off, none⟩ → b ≠ g) : Rw enc k (w.setRow g c) A l := fun hne => by
  obtain ⟨b, off, hA, hb, hc⟩ := h hne
  refine ⟨b, off, hA, by simpa using hb, fun i hi q v hv => ?_⟩
  rw [cell_setRow_other w g c _ (by exact hg b off hA)]
  exact hc i hi q v hv
theorem cells_ok (e : Ev) : (encV e).toArray.all (·.oneCell') = true := by
  rw [Array.all_eq_true_iff_forall_mem]
  intro v hv
  exact elV.one e v (by simpa using hv)

theorem held_boxV {P : Program} {ops : Array Oper} {Q : Exit → Act → World → Prop} {S : World → Prop} {i fuel : Nat} {o : Oper} {listed : Array Bool} {a : Act} {w : World} (hi : ops[i]? = some o) (hs : Region.noSelect ops = true) (hf : Region.free .any ops listed i = true) (hr : (Region.ready .any ops listed).contains i = true)
    (hw : Region.wanted o (yielded ops a.tmps) = true) (ty : TypeId) (x : Operand) (ho : o.op = .load ty x) (g : Nat) (hx : a.eval x = .pointer (some ⟨g, 0, none⟩)) (cs : List Value) (t : TypeId) (hg : ∀ w, S w → Bx w g cs t) (d : TypeDesc)
    (hu : P.underlying ty = some d) (hd : (match d with | .struct _ | .array _ _ => true | _ => false) = true) (hz : (P.info? ty).map (·.size) = some cs.toArray.size) (hS : S w) (a' : Act) (ha : a.put o.dst (.agg cs.toArray) = a')
    (h : wpAnyH P .any ops (NoPanic Q) S fuel (listed.setIfInBounds i true) a' w) : wpAnyH P .any ops (NoPanic Q) S (fuel + 1) listed a w :=
  wpAnyH_take hi hs hf hr (fun _ _ _ h => h) (.inl ⟨hw, fun w hS => by
    unfold execOp
    simp only [ho, hx, Instr.loadAt, Instr.sureAddr, Sem.run_bind, Sem.run_pure, Result.andThen_ok, run_loadVar_row w g t ty cs.toArray (0, 0) d (hg w hS) hu hd hz]⟩) hS (ha ▸ h)
/-- A struct, a slice and a number, handed back. -/
theorem results_ev {fn : Func} {p q r : Tmp} (h : fn.results = #[.cell p 23, .tmp q, .tmp r]) (tmps : Array Value) (w : World) (g : Nat) (e : Ev) (v u : Value)
    (hp : tmps.getD p undef = .pointer (some ⟨g, 0, none⟩)) (hb : Bx w g (encV e) 23) (hq : tmps.getD q undef = v) (hr : tmps.getD r undef = u) : (results fn tmps).run Try.prog w = .ok (.tuple #[.agg (encV e).toArray, v, u]) w := by
  have hp' : tmps[p]?.getD undef = .pointer (some ⟨g, 0, none⟩) := by simpa using hp
  have hq' : tmps[q]?.getD undef = v := by simpa using hq
  have hr' : tmps[r]?.getD undef = u := by simpa using hr
  have k := run_loadVar_row (P := Try.prog) w g 23 23 (encV e).toArray (0, 0) _ hb Try.underlying23 rfl sizeV
  simp [results, h, hp', hq', hr', asAddr, k]
/-- What a call leaves that takes an event. -/
def RetEv (w : World) (r : Option (Ev × List UInt8)) (err : Int) (e : Ending) (w' : World) : Prop := Ext w w' ∧ match r with
  | none => e = .returned (.tuple #[.agg (encV ev0).toArray, .slice none 0 0, .int .i64 err])
  | some (x, s) => ∃ A cap, e = .returned (.tuple #[.agg (encV x).toArray, .slice A s.length cap, .int .i64 0]) ∧ Rb w' A s ∧ s.length ≤ cap ∧ cap ≤ maxLen
def RetEvF (w : World) (r : Option (Ev × List UInt8)) (err : Int) (e : Ending) (w' : World) : Prop := Ext w w' ∧ match r with
  | none => e = .returned (.tuple #[.agg (encV ev0).toArray, .slice none 0 0, .int .i64 err])
  | some (x, s) => ∃ A cap, e = .returned (.tuple #[.agg (encV x).toArray, .slice A s.length cap, .int .i64 0]) ∧ Rb w' A s ∧ s.length ≤ cap ∧ cap ≤ maxLen ∧ New w A
def four (l : List Nat) : Ev := ⟨((l[0]?).getD 0 : Nat), ((l[1]?).getD 0 : Nat), ((l[2]?).getD 0 : Nat), ((l[3]?).getD 0 : Nat), 0, 0, 0, 0, 0, 0, 0⟩
theorem set_four {l : List Nat} (h : l.length = 4) : setN [0, 1, 2, 3] l (encV ev0) = encV (four l) := by
  match l, h with
  | [a, b, c, d], _ => rfl
theorem set_own {l m : List Nat} (h : l.length = 4) (hm : m.length = cntE ((l[3]?).getD 0 : Nat)) : setN (ownIx (four l).kind) m (encV (four l)) = encV (mkE l m) := by
  match l, h with
  | [a, b, c, d], _ =>
    have hk : (four [a, b, c, d]).kind = (d : Int) := rfl
    simp only [List.getElem?_cons_zero, List.getElem?_cons_succ, Option.getD_some] at hm
    rw [hk]
    unfold cntE at hm
    unfold ownIx
    by_cases h3 : (d : Int) = 3
    · rw [if_pos h3] at hm ⊢
      match m, hm with
      | [x0, x1, x2, x3, x4, x5], _ =>
        have : mkE [a, b, c, d] [x0, x1, x2, x3, x4, x5] = ⟨a, b, c, d, x0, x1, x2, x3, x4, x5, 0⟩ := by
          unfold mkE
          simp only [List.getElem?_cons_zero, List.getElem?_cons_succ, Option.getD_some]
          rw [if_pos h3]
        rw [this]; rfl
    · rw [if_neg h3] at hm ⊢
      by_cases h4 : (d : Int) = 4
      · rw [if_pos h4] at hm ⊢
        match m, hm with
        | [x0], _ =>
          have : mkE [a, b, c, d] [x0] = ⟨a, b, c, d, 0, 0, 0, 0, 0, 0, x0⟩ := by
            unfold mkE
            simp only [List.getElem?_cons_zero, List.getElem?_cons_succ, Option.getD_some]
            rw [if_neg h3, if_pos h4]
          rw [this]; rfl
      · rw [if_neg h4] at hm ⊢
        match m, hm with
        | [], _ =>
          have : mkE [a, b, c, d] [] = ⟨a, b, c, d, 0, 0, 0, 0, 0, 0, 0⟩ := by
            unfold mkE
            simp only [List.getElem?_cons_zero, List.getElem?_cons_succ, Option.getD_some]
            rw [if_neg h3, if_neg h4]
          rw [this]; rfl
theorem ownIx_cnt (k : Int) : (ownIx k).length = cntE k := by
  unfold ownIx cntE
  split
  · rfl
  · split <;> rfl
theorem own4 (w : World) (g : Nat) : Rw encA 1 (w.alloc (.cells #[.pointer (some ⟨g, 0, none⟩), .pointer (some ⟨g, 1, none⟩), .pointer (some ⟨g, 2, none⟩), .pointer (some ⟨g, 3, none⟩)] 88)) (some ⟨w.heap.size, 0, none⟩) (ptrs g [0, 1, 2, 3]) := Rw.new_at elA w (ptrs g [0, 1, 2, 3]) 88 _ rfl

theorem Bx.new_at (w : World) (cs : List Value) (t : TypeId) (g : Nat) (hg : g = w.heap.size) : Bx (w.alloc (.cells cs.toArray t)) g cs t := by subst hg; exact Bx.new w cs t
theorem decE_none1 {b : List UInt8} (h : decN 4 b = none) : decE b = none := by unfold decE; rw [h]
theorem mkE_kind (l m : List Nat) : (mkE l m).kind = ((l[3]?).getD 0 : Nat) := by
  unfold mkE
  simp only
  split
  · rfl
  · split <;> rfl
theorem decE_bad {b : List UInt8} {l : List Nat} {r : List UInt8} (h : decN 4 b = some (l, r)) (hk : ¬ (1 ≤ (four l).kind ∧ (four l).kind ≤ 7)) : decE b = none := by
  unfold decE
  rw [h]
  simp only
  cases decN (cntE ((l[3]?).getD 0 : Nat)) r with
  | none => rfl
  | some y =>
    obtain ⟨m, s⟩ := y
    simp only
    rw [if_neg]
    intro hf
    have := (fairB_iff.1 hf).1
    rw [mkE_kind] at this
    exact hk this
theorem decE_none3 {b : List UInt8} {l : List Nat} {r : List UInt8} (h : decN 4 b = some (l, r)) (h2 : decN (ownIx (four l).kind).length r = none) : decE b = none := by
  unfold decE
  rw [h]
  simp only
  rw [ownIx_cnt] at h2
  rw [show cntE ((l[3]?).getD 0 : Nat) = cntE (four l).kind from rfl, h2]
theorem decE_last {b : List UInt8} {l m : List Nat} {r s : List UInt8} (h : decN 4 b = some (l, r)) (h2 : decN (ownIx (four l).kind).length r = some (m, s)) : decE b = if fairB (mkE l m) = true then some (mkE l m, s) else none := by
  unfold decE
  rw [h]
  simp only
  rw [ownIx_cnt] at h2
  rw [show cntE ((l[3]?).getD 0 : Nat) = cntE (four l).kind from rfl, h2]

set_option maxRecDepth 100000 in
set_option maxHeartbeats 4000000 in
theorem pETake {w : World} {A : Option Addr} {b : List UInt8} (h : Rb w A b) (hb : b.length ≤ 100000000) (c : Nat) (hc : b.length ≤ c) (hc2 : c ≤ maxLen) : Calls Try.prog 33 #[.slice A b.length c] w (RetEvF w (decE b) 80) := by
  obtain ⟨R, hR⟩ : ∃ R, decE b = R := ⟨_, rfl⟩
  rw [hR]
  replace hR := Lib.hid hR
  have V1 : Ext w (w.alloc (.cells #[.slice A b.length c] 29)) := (Ext.refl w).alloc _
  have HX4 := Lib.hid ((((Bx.new w [.slice A b.length c] 29).alloc (.cells #[.int .i64 0, .int .i64 0, .int .i64 0, .int .i64 0, .int .i64 0, .int .i64 0, .int .i64 0, .int .i64 0, .int .i64 0, .int .i64 0, .int .i64 0] 23)).alloc (.cells #[.int .i64 0, .int .i64 0, .int .i64 0, .int .i64 0, .int .i64 0, .int .i64 0, .int .i64 0, .int .i64 0, .int .i64 0, .int .i64 0, .int .i64 0] 23)).alloc (.cells #[.pointer (some ⟨w.heap.size + 1 + 1, 0, none⟩), .pointer (some ⟨w.heap.size + 1 + 1, 1, none⟩), .pointer (some ⟨w.heap.size + 1 + 1, 2, none⟩), .pointer (some ⟨w.heap.size + 1 + 1, 3, none⟩)] 88))
  have HR4 := Lib.hid (((Bx.new_at (w.alloc (.cells #[.slice A b.length c] 29)) (encV ev0) 23 (w.heap.size + 1) (by simp)).alloc (.cells #[.int .i64 0, .int .i64 0, .int .i64 0, .int .i64 0, .int .i64 0, .int .i64 0, .int .i64 0, .int .i64 0, .int .i64 0, .int .i64 0, .int .i64 0] 23)).alloc (.cells #[.pointer (some ⟨w.heap.size + 1 + 1, 0, none⟩), .pointer (some ⟨w.heap.size + 1 + 1, 1, none⟩), .pointer (some ⟨w.heap.size + 1 + 1, 2, none⟩), .pointer (some ⟨w.heap.size + 1 + 1, 3, none⟩)] 88))
  have HB4 := Lib.hid ((Bx.new_at ((w.alloc (.cells #[.slice A b.length c] 29)).alloc (.cells #[.int .i64 0, .int .i64 0, .int .i64 0, .int .i64 0, .int .i64 0, .int .i64 0, .int .i64 0, .int .i64 0, .int .i64 0, .int .i64 0, .int .i64 0] 23)) (encV ev0) 23 (w.heap.size + 1 + 1) (by simp)).alloc (.cells #[.pointer (some ⟨w.heap.size + 1 + 1, 0, none⟩), .pointer (some ⟨w.heap.size + 1 + 1, 1, none⟩), .pointer (some ⟨w.heap.size + 1 + 1, 2, none⟩), .pointer (some ⟨w.heap.size + 1 + 1, 3, none⟩)] 88))
  have HP4 := Lib.hid (Rw.new_at elA (((w.alloc (.cells #[.slice A b.length c] 29)).alloc (.cells #[.int .i64 0, .int .i64 0, .int .i64 0, .int .i64 0, .int .i64 0, .int .i64 0, .int .i64 0, .int .i64 0, .int .i64 0, .int .i64 0, .int .i64 0] 23)).alloc (.cells #[.int .i64 0, .int .i64 0, .int .i64 0, .int .i64 0, .int .i64 0, .int .i64 0, .int .i64 0, .int .i64 0, .int .i64 0, .int .i64 0, .int .i64 0] 23)) (ptrs (w.heap.size + 1 + 1) [0, 1, 2, 3]) 88 (w.heap.size + 1 + 1 + 1) (by simp))
  have XX4 := Lib.hid ((((V1.alloc (.cells #[.int .i64 0, .int .i64 0, .int .i64 0, .int .i64 0, .int .i64 0, .int .i64 0, .int .i64 0, .int .i64 0, .int .i64 0, .int .i64 0, .int .i64 0] 23)).alloc (.cells #[.int .i64 0, .int .i64 0, .int .i64 0, .int .i64 0, .int .i64 0, .int .i64 0, .int .i64 0, .int .i64 0, .int .i64 0, .int .i64 0, .int .i64 0] 23)).alloc (.cells #[.pointer (some ⟨w.heap.size + 1 + 1, 0, none⟩), .pointer (some ⟨w.heap.size + 1 + 1, 1, none⟩), .pointer (some ⟨w.heap.size + 1 + 1, 2, none⟩), .pointer (some ⟨w.heap.size + 1 + 1, 3, none⟩)] 88)))
  have k1 := Lib.hid (pTkE (w0 := w) (n := 4) (cap := 4) XX4.out (by omega : w.heap.size ≤ w.heap.size + 1 + 1) (Nat.le_refl _) (by omega) HB4.out HX4.out (h.ext XX4.out) hb hc hc2 HP4.out rfl (fun blk off h => by cases h; exact ⟨by omega, by omega⟩) (by decide) (by decide))
  have hb' := Lib.hid hb
  clear h hb hc hc2 V1 XX4 HX4 HB4 HP4
  go_enter Try.func33, Try.ntmps33
  go_wp2_with fail
  refine k1.out.mono ?_
  rintro e1 w5 ⟨x5, t5, hpost⟩
  have X5 := Lib.hid x5
  have HR5 := Lib.hid (bx_two HR4.out t5 (by omega) (by omega))
  clear k1 HR4 x5
  have t5s := t5.size
  clear t5
  simp at t5s
  cases hd : decN 4 b with
  | none =>
    have hpost1 : e1 = .returned (.bool false) := by rw [show ([0, 1, 2, 3] : List Nat).length = 4 from rfl, hd] at hpost; exact hpost
    clear hpost
    subst hpost1
    have hRn : R = none := by rw [← hR.out]; exact decE_none1 hd
    clear hd
    subst hRn
    go_wp2_with (first | (refine wpList_store_row (by rfl) 23 _ _ (by rfl) (w.heap.size + 1) (encV ev0).toArray (by rfl) (by rfl) 23 _ HR5.out sizeV rfl (cells_ok ev0) ?_))
    refine bodyPost_ret (results_ev rfl _ _ (w.heap.size + 1) ev0 (.slice none 0 0) (.int .i64 80) rfl (bx_setRow HR5.out) rfl rfl) rfl ?_
    exact ⟨below_setRow X5.out (by omega) _, rfl⟩
  | some q =>
    obtain ⟨l, r⟩ := q
    have hl4 := (decN_some hd).2.1
    have hrb : r.length ≤ b.length := by
      have := (decN_some hd).1
      rw [this, List.length_append]; omega
    rw [show ([0, 1, 2, 3] : List Nat).length = 4 from rfl, hd] at hpost
    simp only at hpost
    obtain ⟨rfl, hB, Ar, cr, hX, hRr, hcr, hcr2, hNw⟩ := hpost
    rw [set_four hl4] at hB
    have hNw : ∀ blk off, Ar = some ⟨blk, off, none⟩ → w.heap.size + 1 + 1 + 1 + 1 ≤ blk := by
      rcases hNw with ⟨h, _⟩ | h
      · simp at h
      · intro blk off e; have := h blk off e; simp at this; exact this
    have HB5 := Lib.hid hB; have HX5 := Lib.hid hX; have HRr := Lib.hid hRr; have HNw := Lib.hid hNw
    have hcr' := Lib.hid hcr; have hcr2' := Lib.hid hcr2; replace hd := Lib.hid hd; replace hl4 := Lib.hid hl4
    have hrb' : Hid (r.length ≤ 100000000) := Nat.le_trans hrb hb'.out
    clear hB hX hRr hNw hcr hcr2 hrb
    have kO := Lib.hid (pOwnE HB5.out)
    go_wp2_with fail
    refine kO.out.mono ?_
    rintro e2 w6 ⟨A2, n2, cap2, rfl, hn2, hA2, x6, hf2⟩
    have HB6 := Lib.hid (HB5.out.ext x6); have HX6 := Lib.hid (HX5.out.ext x6); have HR6 := Lib.hid (HR5.out.ext x6); have X6 := Lib.hid (X5.out.trans x6); have HRr6 := Lib.hid (HRr.out.ext x6)
    have x6s := x6.size
    have k2 := Lib.hid (pTkE (w0 := w) (n := n2) (cap := cap2) X6.out (by omega : w.heap.size ≤ w.heap.size + 1 + 1) (Nat.le_refl _) (by omega) HB6.out HX6.out HRr6.out hrb'.out hcr'.out hcr2'.out hA2 hn2 (fun blk off h => by have := hf2 blk off h; exact ⟨by omega, by omega⟩) (by
      intro o ho
      unfold ownIx at ho
      split at ho
      · simp at ho; rcases ho with rfl | rfl | rfl | rfl | rfl | rfl <;> (show _ < 11; decide)
      · split at ho
        · simp at ho; subst ho; (show _ < 11; decide)
        · simp at ho) (by unfold ownIx; split
                          · decide
                          · split <;> decide))
    replace hn2 := Lib.hid hn2
    clear kO HB5 HX5 HR5 X5 HRr hA2 hf2 x6
    by_cases hk : 1 ≤ (four l).kind ∧ (four l).kind ≤ 7
    · have dk : decide (1 ≤ (four l).kind ∧ (four l).kind ≤ 7) = true := decide_eq_true hk
      rw [dk]
      clear dk hk
      go_wp2_with fail
      refine k2.out.mono ?_
      rintro e3 w7 ⟨x7, t7, hpost⟩
      have X7 := Lib.hid x7
      have HR7 := Lib.hid (bx_two HR6.out t7 (by omega) (by omega))
      clear k2 x7 HR6 X6 t7
      cases hd2 : decN (ownIx (four l).kind).length r with
      | none =>
        rw [hd2] at hpost
        simp only at hpost
        subst hpost
        have hRn : R = none := by rw [← hR.out]; exact decE_none3 hd.out hd2
        clear hd2 hd
        subst hRn
        go_wp2_with (first | (refine wpList_store_row (by rfl) 23 _ _ (by rfl) (w.heap.size + 1) (encV ev0).toArray (by rfl) (by rfl) 23 _ HR7.out sizeV rfl (cells_ok ev0) ?_))
        refine bodyPost_ret (results_ev rfl _ _ (w.heap.size + 1) ev0 (.slice none 0 0) (.int .i64 80) rfl (bx_setRow HR7.out) rfl rfl) rfl ?_
        exact ⟨below_setRow X7.out (by omega) _, rfl⟩
      | some q =>
        obtain ⟨m, s⟩ := q
        have hml := (decN_some hd2).2.1
        rw [hd2] at hpost
        simp only at hpost
        obtain ⟨rfl, hB, As, cs, hX, hRs, hcs, hcs2, hNs⟩ := hpost
        rw [set_own hl4.out (by rw [hml, ownIx_cnt]; rfl)] at hB
        have hNs : ∀ blk off, As = some ⟨blk, off, none⟩ → w.heap.size + 1 + 1 + 1 + 1 ≤ blk := by
          rcases hNs with ⟨_, h⟩ | h
          · rw [h]; exact HNw.out
          · intro blk off e; have := h blk off e; omega
        have hlast := decE_last hd.out hd2
        rw [hR.out] at hlast
        have HB7 := Lib.hid hB; have HX7 := Lib.hid hX; have HRs := Lib.hid hRs; have HNs := Lib.hid hNs
        have hcs' := Lib.hid hcs; have hcs2' := Lib.hid hcs2; replace hlast := Lib.hid hlast
        clear hB hX hRs hNs hcs hcs2 hd2 hd HNw hml HB6 HX6 HRr6 hn2
        obtain ⟨ev, hev⟩ : ∃ e, mkE l m = e := ⟨_, rfl⟩
        rw [hev] at hlast HB7
        clear hev
        go_wp2_with (first | (refine load_box rfl 23 _ rfl _ rfl _ _ HB7.out _ Try.underlying23 rfl sizeV ?_))
        refine (pFair ev _).mono ?_
        rintro e4 w8 ⟨rfl, x8⟩
        have HB8 := Lib.hid (HB7.out.ext x8); have HX8 := Lib.hid (HX7.out.ext x8); have HR8 := Lib.hid (HR7.out.ext x8); have X8 := Lib.hid (X7.out.trans x8); have HRs8 := Lib.hid (HRs.out.ext x8)
        clear HB7 HX7 HR7 X7 HRs x8
        cases hf : fairB ev
        · have hRn : R = none := by rw [hlast.out, hf]; rfl
          clear hf hlast
          subst hRn
          go_wp2_with (first | (refine wpList_store_row (by rfl) 23 _ _ (by rfl) (w.heap.size + 1) (encV ev0).toArray (by rfl) (by rfl) 23 _ HR8.out sizeV rfl (cells_ok ev0) ?_))
          refine bodyPost_ret (results_ev rfl _ _ (w.heap.size + 1) ev0 (.slice none 0 0) (.int .i64 80) rfl (bx_setRow HR8.out) rfl rfl) rfl ?_
          exact ⟨below_setRow X8.out (by omega) _, rfl⟩
        · have hRs : R = some (ev, s) := by rw [hlast.out, hf]; rfl
          clear hf hlast
          subst hRs
          go_wp2_with fail
          have HS0 : Hid (Bx (w8.drewN 1) (w.heap.size + 1 + 1) (encV ev) 23 ∧ Bx (w8.drewN 1) w.heap.size [.slice As s.length cs] 29) := ⟨HB8.out.drewN 1, HX8.out.drewN 1⟩
          have HR9 := Lib.hid (HR8.out.drewN 1); have X9 := Lib.hid (X8.out.drewN 1); have HRs9 := Lib.hid (HRs8.out.drewN 1)
          clear HB8 HX8 HR8 X8 HRs8
          refine held_start (S := fun W => Bx W (w.heap.size + 1 + 1) (encV ev) 23 ∧ Bx W w.heap.size [.slice As s.length cs] 29) 5 rfl (by kernel_rfl) ?_
          refine held_boxV (i := 0) rfl (by kernel_rfl) (by kernel_rfl) (by kernel_rfl) rfl 23 _ rfl _ rfl (encV ev) 23 (fun w h => h.1) _ Try.underlying23 rfl sizeV HS0.out _ (by simp [Act.put]; rfl) ?_
          refine held_takeV (i := 1) rfl (by kernel_rfl) (by kernel_rfl) (by kernel_rfl) (.slice As s.length cs) rfl (fun w hT => by have cc := hT.2.cell 0 _ rfl; go_simp) HS0.out _ (by simp [Act.put]; rfl) ?_
          refine held_all (i := 2) rfl (by kernel_rfl) rfl ?_
          refine wp_store_row 23 _ _ rfl (w.heap.size + 1) (encV ev).toArray (by rfl) (by rfl) 23 (encV ev0).toArray HR9.out sizeV rfl (cells_ok ev) ?_
          have HS1 : Hid (Bx ((w8.drewN 1).setRow (w.heap.size + 1) (encV ev).toArray) (w.heap.size + 1 + 1) (encV ev) 23 ∧ Bx ((w8.drewN 1).setRow (w.heap.size + 1) (encV ev).toArray) w.heap.size [.slice As s.length cs] 29) := ⟨bx_setRow_other HS0.out.1 (by omega) _, bx_setRow_other HS0.out.2 (by omega) _⟩
          refine ⟨HS1.out, ?_⟩
          refine held_assign (i := 3) rfl (by kernel_rfl) (by kernel_rfl) (by kernel_rfl) _ rfl rfl HS1.out _ (by simp [Act.put]; rfl) ?_
          refine held_assign (i := 4) rfl (by kernel_rfl) (by kernel_rfl) (by kernel_rfl) _ rfl rfl HS1.out _ (by simp [Act.put]; rfl) ?_
          refine held_done (by kernel_rfl) ?_ _
          go_wp2
          refine bodyPost_ret (results_ev rfl _ _ (w.heap.size + 1) ev (.slice As s.length cs) (.int .i64 0) rfl (bx_setRow HR9.out) rfl rfl) rfl ?_
          exact ⟨below_setRow X9.out (by omega) _, As, cs, rfl, rw_setRow HRs9.out _ (fun blk off h => by have := HNs.out blk off h; omega), hcs'.out, hcs2'.out, fun blk off h => by have := HNs.out blk off h; omega⟩
    · have dk : decide (1 ≤ (four l).kind ∧ (four l).kind ≤ 7) = false := decide_eq_false hk
      rw [dk]
      have hRn : R = none := by rw [← hR.out]; exact decE_bad hd.out hk
      clear dk hk hd k2
      subst hRn
      go_wp2_with (first | (refine wpList_store_row (by rfl) 23 _ _ (by rfl) (w.heap.size + 1) (encV ev0).toArray (by rfl) (by rfl) 23 _ HR6.out sizeV rfl (cells_ok ev0) ?_))
      refine bodyPost_ret (results_ev rfl _ _ (w.heap.size + 1) ev0 (.slice none 0 0) (.int .i64 80) rfl (bx_setRow HR6.out) rfl rfl) rfl ?_
      exact ⟨below_setRow X6.out (by omega) _, rfl⟩
end Go.Proofs.Ytmbjbbflhlndcaa
