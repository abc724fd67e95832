/-
  cmds.Take.
-/
import Derived.Test.YtmbjbbflhlndcaaKa2
import Derived.Test.YtmbjbbflhlndcaaJt
namespace Go.Proofs.Ytmbjbbflhlndcaa
open Go.RowKit BigFrame
set_option linter.unusedVariables false
set_option linter.unusedSimpArgs false

theorem cells_okC (c : Cm) : (encC c).toArray.all (·.oneCell') = true := by
  rw [Array.all_eq_true_iff_forall_mem]
  intro v hv
  exact elC.one c v (by simpa using hv)
theorem results_cm {fn : Func} {p q r : Tmp} (h : fn.results = #[.cell p 27, .tmp q, .tmp r]) (tmps : Array Value) (w : World) (g : Nat) (e : Cm) (v u : Value)
    (hp : tmps.getD p undef = .pointer (some ⟨g, 0, none⟩)) (hb : Bx w g (encC e) 27) (hq : tmps.getD q undef = v) (hr : tmps.getD r undef = u) : (results fn tmps).run Try.prog w = .ok (.tuple #[.agg (encC e).toArray, v, u]) w := by
  have hp' : tmps[p]?.getD undef = .pointer (some ⟨g, 0, none⟩) := by simpa using hp
  have hq' : tmps[q]?.getD undef = v := by simpa using hq
  have hr' : tmps[r]?.getD undef = u := by simpa using hr
  have k := run_loadVar_row (P := Try.prog) w g 27 27 (encC e).toArray (0, 0) _ hb Try.underlying27 rfl sizeC
  simp [results, h, hp', hq', hr', asAddr, k]
def RetCmF (w : World) (r : Option (Cm × List UInt8)) (err : Int) (e : Ending) (w' : World) : Prop := Ext w w' ∧ match r with
  | none => e = .returned (.tuple #[.agg (encC cm0).toArray, .slice none 0 0, .int .i64 err])
  | some (x, s) => ∃ A cap, e = .returned (.tuple #[.agg (encC x).toArray, .slice A s.length cap, .int .i64 0]) ∧ Rb w' A s ∧ s.length ≤ cap ∧ cap ≤ maxLen ∧ New w A
theorem setC_own {k : Int} {m : List Nat} (hm : m.length = (ownCx k).length) : setN (ownCx k) m (encC { cm0 with kind := k }) = encC (mkC k m) := by
  unfold ownCx at hm ⊢
  unfold mkC
  by_cases k2 : k = 2
  · rw [if_pos k2] at hm ⊢
    rw [if_pos k2]
    match m, hm with
    | [x], _ => rfl
  · rw [if_neg k2] at hm ⊢
    rw [if_neg k2]
    by_cases k3 : k = 3
    · rw [if_pos k3] at hm ⊢
      rw [if_pos k3]
      match m, hm with
      | [x, y], _ => rfl
    · rw [if_neg k3] at hm ⊢
      rw [if_neg k3]
      by_cases k4 : k = 4
      · rw [if_pos k4] at hm ⊢
        rw [if_pos k4]
        match m, hm with
        | [x], _ => rfl
      · rw [if_neg k4] at hm ⊢
        rw [if_neg k4]
        by_cases k5 : k = 5 ∨ k = 6 ∨ k = 7
        · rw [if_pos k5] at hm ⊢
          rw [if_pos k5]
          match m, hm with
          | [x], _ => rfl
        · rw [if_neg k5] at hm ⊢
          rw [if_neg k5]
          match m, hm with
          | [], _ => rfl
theorem ownCx_lt {k : Int} : ∀ o ∈ ownCx k, o < 16 := by
  intro o ho
  unfold ownCx at ho
  split at ho
  · simp at ho; omega
  · split at ho
    · simp at ho; omega
    · split at ho
      · simp at ho; omega
      · split at ho
        · simp at ho; omega
        · simp at ho
theorem ownCx_few (k : Int) : (ownCx k).length ≤ 10 := by
  unfold ownCx
  split
  · decide
  · split
    · decide
    · split
      · decide
      · split <;> decide
theorem store_newE {P : Program} {ops : Array Oper} {rest : List Oper} {o : Oper} {a : Act} {w : World} {Q : Exit → Act → World → Prop} (hgd : Region.wanted o (yielded ops a.tmps) = true) (ty : TypeId) (x y : Operand) (ho : o.op = .store ty x y)
    (w0 : World) (g : Nat) (hg : g = w0.heap.size) (c c' : Array Value) (t : TypeId) (hw : w = w0.alloc (.cells c t)) (hx : a.eval x = .pointer (some ⟨g, 0, none⟩)) (hy : a.eval y = .agg c') (hi : (P.info? ty).map (·.size) = some c'.size) (hc : c.size = c'.size) (h1 : c'.all (·.oneCell') = true)
    (h : wpList P ops Q rest (a.put o.dst undef) (w0.alloc (.cells c' t))) : wpList P ops Q (o :: rest) a w := by
  subst hg; subst hw
  refine wpList_step fun K hK => ?_
  rw [if_pos hgd]
  refine wp_store_row ty x y ho w0.heap.size c' hx hy t c (heap_alloc_last w0 _) hi hc h1 ?_
  rw [World.setRow_alloc_new]
  exact hK _ _ h

theorem load_boxE {P : Program} {ops : Array Oper} {rest : List Oper} {o : Oper} {a : Act} {w : World} {Q : Exit → Act → World → Prop} (hgd : Region.wanted o (yielded ops a.tmps) = true) (ty : TypeId) (x : Operand) (ho : o.op = .load ty x)
    (g : Nat) (hx : a.eval x = .pointer (some ⟨g, 0, none⟩)) (cs : List Value) (c : Array Value) (hc : cs.toArray = c) (t : TypeId) (hg : Bx w g cs t) (d : TypeDesc)
    (hu : P.underlying ty = some d) (hd : (match d with | .struct _ | .array _ _ => true | _ => false) = true) (hi : (P.info? ty).map (·.size) = some c.size)
    (h : wpList P ops Q rest (a.put o.dst (.agg c)) w) : wpList P ops Q (o :: rest) a w := by
  subst hc
  exact load_box hgd ty x ho g hx cs t hg d hu hd hi h
set_option maxRecDepth 100000 in
set_option maxHeartbeats 2000000 in
theorem pMTake {w : World} {A : Option Addr} {b : List UInt8} (h : Rb w A b) (hb : b.length ≤ 100000000) (c : Nat) (hc : b.length ≤ c) (hc2 : c ≤ maxLen) : Calls Try.prog 21 #[.slice A b.length c] w (RetCmF w (decC b) 240) := by
  obtain ⟨R, hR⟩ : ∃ R, decC b = R := ⟨_, rfl⟩
  rw [hR]
  replace hR := Lib.hid hR
  have V1 : Ext w (w.alloc (.cells #[.slice A b.length c] 29)) := (Ext.refl w).alloc _
  have HX3 := Lib.hid (((Bx.new w [.slice A b.length c] 29).alloc (.cells #[.int .i64 0, .int .i64 0, .int .i64 0, .int .i64 0, .int .i64 0, .int .i64 0, .int .i64 0, .int .i64 0, .int .i64 0, .int .i64 0, .int .i64 0, .int .i64 0, .int .i64 0, .int .i64 0, .int .i64 0, .int .i64 0] 27)).alloc (.cells #[.int .i64 0, .int .i64 0, .int .i64 0, .int .i64 0, .int .i64 0, .int .i64 0, .int .i64 0, .int .i64 0, .int .i64 0, .int .i64 0, .int .i64 0, .int .i64 0, .int .i64 0, .int .i64 0, .int .i64 0, .int .i64 0] 27))
  have HR3 := Lib.hid ((Bx.new_at (w.alloc (.cells #[.slice A b.length c] 29)) (encC cm0) 27 (w.heap.size + 1) (by simp)).alloc (.cells #[.int .i64 0, .int .i64 0, .int .i64 0, .int .i64 0, .int .i64 0, .int .i64 0, .int .i64 0, .int .i64 0, .int .i64 0, .int .i64 0, .int .i64 0, .int .i64 0, .int .i64 0, .int .i64 0, .int .i64 0, .int .i64 0] 27))
  have HB3 := Lib.hid (Bx.new_at ((w.alloc (.cells #[.slice A b.length c] 29)).alloc (.cells #[.int .i64 0, .int .i64 0, .int .i64 0, .int .i64 0, .int .i64 0, .int .i64 0, .int .i64 0, .int .i64 0, .int .i64 0, .int .i64 0, .int .i64 0, .int .i64 0, .int .i64 0, .int .i64 0, .int .i64 0, .int .i64 0] 27)) (encC cm0) 27 (w.heap.size + 1 + 1) (by simp))
  have XX3 := Lib.hid ((V1.alloc (.cells #[.int .i64 0, .int .i64 0, .int .i64 0, .int .i64 0, .int .i64 0, .int .i64 0, .int .i64 0, .int .i64 0, .int .i64 0, .int .i64 0, .int .i64 0, .int .i64 0, .int .i64 0, .int .i64 0, .int .i64 0, .int .i64 0] 27)).alloc (.cells #[.int .i64 0, .int .i64 0, .int .i64 0, .int .i64 0, .int .i64 0, .int .i64 0, .int .i64 0, .int .i64 0, .int .i64 0, .int .i64 0, .int .i64 0, .int .i64 0, .int .i64 0, .int .i64 0, .int .i64 0, .int .i64 0] 27))
  have HP4 := Lib.hid (Rw.new_at elA (((w.alloc (.cells #[.slice A b.length c] 29)).alloc (.cells #[.int .i64 0, .int .i64 0, .int .i64 0, .int .i64 0, .int .i64 0, .int .i64 0, .int .i64 0, .int .i64 0, .int .i64 0, .int .i64 0, .int .i64 0, .int .i64 0, .int .i64 0, .int .i64 0, .int .i64 0, .int .i64 0] 27)).alloc (.cells #[.int .i64 0, .int .i64 0, .int .i64 0, .int .i64 0, .int .i64 0, .int .i64 0, .int .i64 0, .int .i64 0, .int .i64 0, .int .i64 0, .int .i64 0, .int .i64 0, .int .i64 0, .int .i64 0, .int .i64 0, .int .i64 0] 27)) (ptrs (w.heap.size + 1 + 1) [0]) 88 (w.heap.size + 1 + 1 + 1) (by simp))
  have k1 := Lib.hid (pTkC (w0 := w) (n := 1) (cap := 1) (XX3.out.alloc (.cells #[.pointer (some ⟨w.heap.size + 1 + 1, 0, none⟩)] 88)) (by omega : w.heap.size ≤ w.heap.size + 1 + 1) (Nat.le_refl _) (by omega) (HB3.out.alloc (.cells #[.pointer (some ⟨w.heap.size + 1 + 1, 0, none⟩)] 88)) (HX3.out.alloc (.cells #[.pointer (some ⟨w.heap.size + 1 + 1, 0, none⟩)] 88)) ((h.ext XX3.out).alloc (.cells #[.pointer (some ⟨w.heap.size + 1 + 1, 0, none⟩)] 88)) hb hc hc2 HP4.out rfl (fun blk off h => by cases h; exact ⟨by omega, by omega⟩) (by intro o ho; simp at ho; subst ho; show _ < 16; decide) (by decide))
  have HR4 := Lib.hid (HR3.out.alloc (.cells #[.pointer (some ⟨w.heap.size + 1 + 1, 0, none⟩)] 88))
  have hb' := Lib.hid hb
  clear h hb hc hc2 V1 XX3 HX3 HB3 HP4 HR3
  go_enter Try.func21, Try.ntmps21
  go_wp2_with fail
  refine wp_scope_fwd 0 (by rfl) fun J HJ => ?_
  go_wp2_with fail
  refine k1.out.mono ?_
  rintro e1 w5 ⟨x5, t5, hpost⟩
  have X5 := Lib.hid x5
  have HR5 := Lib.hid (bx_two HR4.out t5 (by omega) (by omega))
  clear k1 HR4 x5
  have t5s := t5.size
  clear t5
  simp at t5s
  cases hd : decN 1 b with
  | none =>
    have hpost1 : e1 = .returned (.bool false) := by rw [show ([0] : List Nat).length = 1 from rfl, hd] at hpost; exact hpost
    clear hpost
    subst hpost1
    have hRn : R = none := by rw [← hR.out]; unfold decC; rw [hd]
    clear hd
    subst hRn
    go_wp2_with fail
    go_step3
    refine ⟨rfl, HJ.out _ _ ?_⟩
    go_wp2_with (first | (refine wpList_store_row (by rfl) 27 _ _ (by rfl) (w.heap.size + 1) (encC cm0).toArray (by rfl) (by rfl) 27 _ HR5.out sizeC rfl (cells_okC cm0) ?_))
    rw [Exit.noGoto_ret]
    refine bodyPost_ret (results_cm rfl _ _ (w.heap.size + 1) cm0 (.slice none 0 0) (.int .i64 240) rfl (bx_setRow HR5.out) rfl rfl) rfl ?_
    exact ⟨below_setRow X5.out (by omega) _, rfl⟩
  | some q =>
    obtain ⟨l, r⟩ := q
    have hrb : r.length ≤ b.length := by
      have := (decN_some hd).1
      rw [this, List.length_append]; omega
    obtain ⟨x, rfl, _, hx⟩ := decN_1 hd
    rw [show ([0] : List Nat).length = 1 from rfl, hd] at hpost
    simp only at hpost
    obtain ⟨rfl, hB, Ar, cr, hX, hRr, hcr, hcr2, hNw⟩ := hpost
    have hk64 : Hid (B64 (nth [x] 0)) := b64_nat hx
    have hB : Bx w5 (w.heap.size + 1 + 1) (encC { cm0 with kind := nth [x] 0 }) 27 := hB
    have hR2 : Hid (R = if 1 ≤ nth [x] 0 ∧ nth [x] 0 ≤ 8 then match decN (ownCx (nth [x] 0)).length r with
        | none => none
        | some (m, s) => match decF (mkC (nth [x] 0) m) s with
          | none => none
          | some (c, t) => decG c t
        else none) := by show _ = _; rw [← hR.out]; unfold decC; rw [hd]; rfl
    obtain ⟨kd, hkd⟩ : ∃ k, nth [x] 0 = k := ⟨_, rfl⟩
    rw [hkd] at hB hR2 hk64
    have HB5 := Lib.hid hB; have HX5 := Lib.hid hX; have HRr := Lib.hid hRr
    replace hcr := Lib.hid hcr; replace hcr2 := Lib.hid hcr2
    have hr8 : Hid (r.length ≤ 100000000) := Nat.le_trans hrb hb'.out
    clear hB hX hRr hrb hkd hx hd hR hNw
    have kO := Lib.hid (pOwnC HB5.out)
    go_wp2_with fail
    refine kO.out.mono ?_
    rintro e2 w6 ⟨A2, n2, cap2, rfl, hn2, hA2, x6, hf2⟩
    have HB6 := Lib.hid (HB5.out.ext x6); have HX6 := Lib.hid (HX5.out.ext x6); have HR6 := Lib.hid (HR5.out.ext x6); have X6 := Lib.hid (X5.out.trans x6); have HRr6 := Lib.hid (HRr.out.ext x6)
    have x6s := x6.size
    have k2 := Lib.hid (pTkC (w0 := w) (n := n2) (cap := cap2) X6.out (by omega : w.heap.size ≤ w.heap.size + 1 + 1) (Nat.le_refl _) (by omega) HB6.out HX6.out HRr6.out hr8.out hcr.out hcr2.out hA2 hn2 (fun blk off h => by have := hf2 blk off h; exact ⟨by omega, by omega⟩) (fun o ho => ownCx_lt o ho) (ownCx_few _))
    replace hn2 := Lib.hid hn2
    clear kO HB5 HX5 HR5 X5 HRr hA2 hf2 x6
    by_cases hk : 1 ≤ kd ∧ kd ≤ 8
    case neg =>
      have dk : decide (1 ≤ ({ cm0 with kind := kd } : Cm).kind ∧ ({ cm0 with kind := kd } : Cm).kind ≤ 8) = false := decide_eq_false hk
      rw [dk]
      have hRn : R = none := by rw [hR2.out, if_neg hk]
      clear dk hk k2 hR2
      subst hRn
      go_wp2_with fail
      go_step3
      refine ⟨rfl, HJ.out _ _ ?_⟩
      go_wp2_with (first | (refine wpList_store_row (by rfl) 27 _ _ (by rfl) (w.heap.size + 1) (encC cm0).toArray (by rfl) (by rfl) 27 _ HR6.out sizeC rfl (cells_okC cm0) ?_))
      rw [Exit.noGoto_ret]
      refine bodyPost_ret (results_cm rfl _ _ (w.heap.size + 1) cm0 (.slice none 0 0) (.int .i64 240) rfl (bx_setRow HR6.out) rfl rfl) rfl ?_
      exact ⟨below_setRow X6.out (by omega) _, rfl⟩
    have dk : decide (1 ≤ ({ cm0 with kind := kd } : Cm).kind ∧ ({ cm0 with kind := kd } : Cm).kind ≤ 8) = true := decide_eq_true hk
    rw [dk]
    have hR3 := hR2.out
    rw [if_pos hk] at hR3
    replace hR3 := Lib.hid hR3
    clear dk hk hR2
    go_wp2_with fail
    refine k2.out.mono ?_
    rintro e3 w7 ⟨x7, t7, hpost⟩
    have X7 := Lib.hid x7
    have HR7 := Lib.hid (bx_two HR6.out t7 (by omega) (by omega))
    have t7s := t7.size
    clear k2 x7 HR6 X6 t7
    cases hd2 : decN (ownCx kd).length r with
    | none =>
      rw [show (ownCx ({ cm0 with kind := kd } : Cm).kind).length = (ownCx kd).length from rfl, hd2] at hpost
      simp only at hpost
      subst hpost
      have hRn : R = none := by rw [hR3.out, hd2]
      clear hd2 hR3
      subst hRn
      go_wp2_with fail
      go_step3
      refine ⟨rfl, HJ.out _ _ ?_⟩
      go_wp2_with (first | (refine wpList_store_row (by rfl) 27 _ _ (by rfl) (w.heap.size + 1) (encC cm0).toArray (by rfl) (by rfl) 27 _ HR7.out sizeC rfl (cells_okC cm0) ?_))
      rw [Exit.noGoto_ret]
      refine bodyPost_ret (results_cm rfl _ _ (w.heap.size + 1) cm0 (.slice none 0 0) (.int .i64 240) rfl (bx_setRow HR7.out) rfl rfl) rfl ?_
      exact ⟨below_setRow X7.out (by omega) _, rfl⟩
    | some q =>
      obtain ⟨m, s⟩ := q
      obtain ⟨hrs, hml, hmb⟩ := decN_some hd2
      have hsr : s.length ≤ r.length := by rw [hrs, List.length_append]; omega
      rw [show (ownCx ({ cm0 with kind := kd } : Cm).kind).length = (ownCx kd).length from rfl, hd2] at hpost
      simp only at hpost
      obtain ⟨rfl, hB, As, cs, hX, hRs, hcs, hcs2, hNs⟩ := hpost
      rw [setC_own hml] at hB
      have hR4 : Hid (R = match decF (mkC kd m) s with
          | none => none
          | some (c, t) => decG c t) := by show _ = _; rw [hR3.out, hd2]
      have c64m := Lib.hid (mkC_64 hk64.out hmb)
      have hme := (mkC_kind kd m).2.1
      obtain ⟨cm, hcm⟩ : ∃ c, mkC kd m = c := ⟨_, rfl⟩
      rw [hcm] at hB hR4 c64m hme
      replace hme := Lib.hid hme
      have HBm := Lib.hid hB; have HXm := Lib.hid hX; have HRm := Lib.hid hRs
      replace hcr := Lib.hid hcs; replace hcr2 := Lib.hid hcs2
      replace hr8 : Hid (s.length ≤ 100000000) := Nat.le_trans hsr hr8.out
      clear hB hX hRs hd2 hR3 hrs hml hmb hsr hcm HB6 HX6 HRr6 hn2 hNs hcs hcs2 hk64
      go_wp2_with (first | (refine load_box rfl 27 _ rfl _ rfl _ _ HBm.out _ Try.underlying27 rfl sizeC ?_))
      refine (pPart cm _).mono ?_
      rintro e4 w8 ⟨rfl, x8⟩
      have HBp := Lib.hid (HBm.out.ext x8); have HXp := Lib.hid (HXm.out.ext x8); have HRp := Lib.hid (HRm.out.ext x8); have HRRp := Lib.hid (HR7.out.ext x8); have Xp := Lib.hid (X7.out.trans x8)
      have x8s := x8.size
      clear HBm HXm HRm HR7 X7 x8
      cases hp : partC cm
      · go_wp2_with (first | (refine load_box rfl 27 _ rfl _ rfl _ _ HBp.out _ Try.underlying27 rfl sizeC ?_))
        refine (pWhole cm _).mono ?_
        rintro e5 wz ⟨rfl, xz⟩
        have HBZ := Lib.hid (HBp.out.ext xz); have HXZ := Lib.hid (HXp.out.ext xz); have HRZ := Lib.hid (HRp.out.ext xz); have HRRZ := Lib.hid (HRRp.out.ext xz); have XZ := Lib.hid (Xp.out.trans xz)
        have xzs := xz.size
        clear HBp HXp HRp HRRp Xp xz
        cases hw : wholeC cm
        · have hlast : Hid (R = decG cm s) := by show _ = _; rw [hR4.out]; unfold decF; rw [hp, hw]; rfl
          have c64 := c64m
          obtain ⟨cz, hcz⟩ : ∃ c, cm = c := ⟨_, rfl⟩
          obtain ⟨rz, hrz⟩ : ∃ c, s = c := ⟨_, rfl⟩
          rw [hcz] at hlast c64 HBZ
          rw [hrz] at hlast HXZ HRZ hr8 hcr
          clear hcz hrz hR4 hp hw c64m hme
          have kt := Lib.hid (pTkC (w0 := w) (n := 1) (cap := 1) (XZ.out.alloc (.cells #[.pointer (some ⟨w.heap.size + 1 + 1, 15, none⟩)] 88)) (by omega : w.heap.size ≤ w.heap.size + 1 + 1) (Nat.le_refl _) (by omega) (HBZ.out.alloc (.cells #[.pointer (some ⟨w.heap.size + 1 + 1, 15, none⟩)] 88)) (HXZ.out.alloc (.cells #[.pointer (some ⟨w.heap.size + 1 + 1, 15, none⟩)] 88)) (HRZ.out.alloc (.cells #[.pointer (some ⟨w.heap.size + 1 + 1, 15, none⟩)] 88)) hr8.out hcr.out hcr2.out (Rw.new_at elA wz (ptrs (w.heap.size + 1 + 1) [15]) 88 _ rfl) rfl (fun blk off h => by cases h; exact ⟨by omega, by omega⟩) (by intro o ho; simp at ho; subst ho; show _ < 16; decide) (by decide))
          go_wp2_with fail
          refine kt.out.mono ?_
          rintro e7 w7 ⟨x7, t7, hpost⟩
          have X7 := Lib.hid x7
          have HR7 := Lib.hid (bx_two (HRRZ.out.alloc (.cells #[.pointer (some ⟨w.heap.size + 1 + 1, 15, none⟩)] 88)) t7 (by omega) (by omega))
          have t7s := t7.size
          clear kt x7 t7
          simp at t7s
          cases hd7 : decN 1 rz with
          | none =>
            have hpost1 : e7 = .returned (.bool false) := by rw [show ([15] : List Nat).length = 1 from rfl, hd7] at hpost; exact hpost
            clear hpost
            subst hpost1
            have hRn : R = none := by rw [hlast.out]; unfold decG; rw [hd7]
            clear hd7 hlast
            subst hRn
            go_wp2_with fail
            go_step3
            go_wp2_with (first | (refine wpList_store_row (by rfl) 27 _ _ (by rfl) (w.heap.size + 1) (encC cm0).toArray (by rfl) (by rfl) 27 _ HR7.out sizeC rfl (cells_okC cm0) ?_))
            rw [jump_ret]
            refine bodyPost_ret (results_cm rfl _ _ (w.heap.size + 1) cm0 (.slice none 0 0) (.int .i64 240) rfl (bx_setRow HR7.out) rfl rfl) rfl ?_
            exact ⟨below_setRow X7.out (by omega) _, rfl⟩
          | some q =>
            obtain ⟨l7, s⟩ := q
            obtain ⟨x, rfl, _, hx⟩ := decN_1 hd7
            rw [show ([15] : List Nat).length = 1 from rfl, hd7] at hpost
            simp only at hpost
            obtain ⟨rfl, hB, As, cs, hX, hRs, hcs, hcs2, hNs⟩ := hpost
            have hNs : ∀ blk off, As = some ⟨blk, off, none⟩ → w.heap.size + 1 + 1 + 1 ≤ blk := by
              rcases hNs with ⟨h, _⟩ | h
              · simp at h
              · intro blk off e; have := h blk off e; simp at this; omega
            have h64c : Cm64 { cz with tear := nth [x] 0 } := ⟨c64.out.kind, c64.out.fk, c64.out.ev, c64.out.worker, c64.out.week, b64_nat hx⟩
            have hG : R = if plainC { cz with tear := nth [x] 0 } = true then some ({ cz with tear := nth [x] 0 }, s) else none := by rw [hlast.out]; unfold decG; rw [hd7]
            have hB : Bx w7 (w.heap.size + 1 + 1) (encC { cz with tear := nth [x] 0 }) 27 := hB
            obtain ⟨cf, hcf⟩ : ∃ cf, ({ cz with tear := nth [x] 0 } : Cm) = cf := ⟨_, rfl⟩
            rw [hcf] at h64c hG hB
            have HB7 := Lib.hid hB; have HX7 := Lib.hid hX; have HRs := Lib.hid hRs; have HNs := Lib.hid hNs
            have hcs' := Lib.hid hcs; have hcs2' := Lib.hid hcs2; replace hG := Lib.hid hG
            clear hB hX hRs hNs hcs hcs2 hd7 hlast hcf
            go_wp2_with (first | (refine load_box rfl 27 _ rfl _ rfl _ _ HB7.out _ Try.underlying27 rfl sizeC ?_))
            refine (pCheckC cf h64c _).mono ?_
            rintro e8 w8 ⟨rfl, x8⟩
            have HB8 := Lib.hid (HB7.out.ext x8); have HX8 := Lib.hid (HX7.out.ext x8); have HR8 := Lib.hid (HR7.out.ext x8); have X8 := Lib.hid (X7.out.trans x8); have HRs8 := Lib.hid (HRs.out.ext x8)
            clear HB7 HX7 HR7 X7 HRs x8
            cases hf : plainC cf
            · have hRn : R = none := by rw [hG.out, hf]; rfl
              clear hf hG
              subst hRn
              go_wp2_with fail
              go_step3
              go_wp2_with (first | (refine wpList_store_row (by rfl) 27 _ _ (by rfl) (w.heap.size + 1) (encC cm0).toArray (by rfl) (by rfl) 27 _ HR8.out sizeC rfl (cells_okC cm0) ?_))
              rw [jump_ret]
              refine bodyPost_ret (results_cm rfl _ _ (w.heap.size + 1) cm0 (.slice none 0 0) (.int .i64 240) rfl (bx_setRow HR8.out) rfl rfl) rfl ?_
              exact ⟨below_setRow X8.out (by omega) _, rfl⟩
            · have hRs : R = some (cf, s) := by rw [hG.out, hf]; rfl
              clear hf hG
              subst hRs
              go_wp2_with fail
              have HS0 : Hid (Bx (w8.drewN 1) (w.heap.size + 1 + 1) (encC cf) 27 ∧ Bx (w8.drewN 1) w.heap.size [.slice As s.length cs] 29) := ⟨HB8.out.drewN 1, HX8.out.drewN 1⟩
              have HR9 := Lib.hid (HR8.out.drewN 1); have X9 := Lib.hid (X8.out.drewN 1); have HRs9 := Lib.hid (HRs8.out.drewN 1)
              clear HB8 HX8 HR8 X8 HRs8
              refine held_start (S := fun W => Bx W (w.heap.size + 1 + 1) (encC cf) 27 ∧ Bx W w.heap.size [.slice As s.length cs] 29) 5 rfl (by kernel_rfl) ?_
              refine held_boxV (i := 0) rfl (by kernel_rfl) (by kernel_rfl) (by kernel_rfl) rfl 27 _ rfl _ rfl (encC cf) 27 (fun w h => h.1) _ Try.underlying27 rfl sizeC HS0.out _ (by simp [Act.put]; rfl) ?_
              refine held_takeV (i := 1) rfl (by kernel_rfl) (by kernel_rfl) (by kernel_rfl) (.slice As s.length cs) rfl (fun w hT => by have cc := hT.2.cell 0 _ rfl; go_simp) HS0.out _ (by simp [Act.put]; rfl) ?_
              refine held_all (i := 2) rfl (by kernel_rfl) rfl ?_
              refine wp_store_row 27 _ _ rfl (w.heap.size + 1) (encC cf).toArray (by rfl) (by rfl) 27 (encC cm0).toArray HR9.out sizeC rfl (cells_okC cf) ?_
              have HS1 : Hid (Bx ((w8.drewN 1).setRow (w.heap.size + 1) (encC cf).toArray) (w.heap.size + 1 + 1) (encC cf) 27 ∧ Bx ((w8.drewN 1).setRow (w.heap.size + 1) (encC cf).toArray) w.heap.size [.slice As s.length cs] 29) := ⟨bx_setRow_other HS0.out.1 (by omega) _, bx_setRow_other HS0.out.2 (by omega) _⟩
              refine ⟨HS1.out, ?_⟩
              refine held_assign (i := 3) rfl (by kernel_rfl) (by kernel_rfl) (by kernel_rfl) _ rfl rfl HS1.out _ (by simp [Act.put]; rfl) ?_
              refine held_assign (i := 4) rfl (by kernel_rfl) (by kernel_rfl) (by kernel_rfl) _ rfl rfl HS1.out _ (by simp [Act.put]; rfl) ?_
              refine held_done (by kernel_rfl) ?_ _
              go_wp2
              rw [jump_ret]
              refine bodyPost_ret (results_cm rfl _ _ (w.heap.size + 1) cf (.slice As s.length cs) (.int .i64 0) rfl (bx_setRow HR9.out) rfl rfl) rfl ?_
              exact ⟨below_setRow X9.out (by omega) _, As, cs, rfl, rw_setRow HRs9.out _ (fun blk off h => by have := HNs.out blk off h; omega), hcs'.out, hcs2'.out, fun blk off h => by have := HNs.out blk off h; omega⟩
        · have cx := HXZ.out.cell 0 _ rfl
          have hfx := HXZ.out.frozen 0
          have kE := Lib.hid (pETake HRZ.out hr8.out cs hcr.out hcr2.out)
          go_wp2_with fail
          refine kE.out.mono ?_
          rintro e6 wq ⟨xq, hres⟩
          have HBq := Lib.hid (HBZ.out.ext xq); have HXq := Lib.hid (HXZ.out.ext xq); have HRRq := Lib.hid (HRRZ.out.ext xq); have Xq := Lib.hid (XZ.out.trans xq)
          have xqs := xq.size
          clear HBZ HXZ HRZ HRRZ XZ xq kE cx hfx
          cases hde : decE s with
          | none =>
            rw [hde] at hres
            simp only at hres
            subst hres
            have hRn : R = none := by rw [hR4.out]; unfold decF; rw [hp, hw, hde]; rfl
            clear hde hR4 hp hw
            have Xq2 := Lib.hid (Xq.out.alloc (.cells (encV ev0).toArray 23)); have HRRq2 := Lib.hid (HRRq.out.alloc (.cells (encV ev0).toArray 23))
            subst hRn
            go_wp2_with (first | (refine store_newE rfl 23 _ _ (by rfl) wq wq.heap.size rfl (encV ev0).toArray (encV ev0).toArray 23 (by rfl) (by rfl) (by rfl) sizeV rfl (cells_ok ev0) ?_))
            go_step3
            refine ⟨rfl, HJ.out _ _ ?_⟩
            go_wp2_with (first | (refine wpList_store_row (by rfl) 27 _ _ (by rfl) (w.heap.size + 1) (encC cm0).toArray (by rfl) (by rfl) 27 _ HRRq2.out sizeC rfl (cells_okC cm0) ?_))
            rw [Exit.noGoto_ret]
            refine bodyPost_ret (results_cm rfl _ _ (w.heap.size + 1) cm0 (.slice none 0 0) (.int .i64 240) rfl (bx_setRow HRRq2.out) rfl rfl) rfl ?_
            exact ⟨below_setRow Xq2.out (by omega) _, rfl⟩
          | some q =>
            obtain ⟨ev, t⟩ := q
            rw [hde] at hres
            simp only at hres
            obtain ⟨Az, cz', rfl, hRt, hcz, hcz2, hNz⟩ := hres
            obtain ⟨hfe, he64, hst⟩ := decE_some hde
            have hlast : Hid (R = decG { cm with ev := ev } t) := by show _ = _; rw [hR4.out]; unfold decF; rw [hp, hw, hde]; rfl
            have c64 : Hid (Cm64 { cm with ev := ev }) := ⟨c64m.out.kind, c64m.out.fk, he64, c64m.out.worker, c64m.out.week, c64m.out.tear⟩
            replace hr8 : Hid (t.length ≤ 100000000) := by
              show _ ≤ _
              have := hr8.out
              rw [hst, List.length_append] at this; omega
            replace hcr := Lib.hid hcz; replace hcr2 := Lib.hid hcz2
            clear hde hR4 hp hw hfe he64 hst hcz hcz2 c64m
            have HE := Lib.hid (Bx.new wq (encV ev) 23)
            have HBa := HBq.out.alloc (.cells (encV ev).toArray 23); have HXa := HXq.out.alloc (.cells (encV ev).toArray 23); have HRRa := HRRq.out.alloc (.cells (encV ev).toArray 23); have Xa := Xq.out.alloc (.cells (encV ev).toArray 23)
            have HRta := hRt.alloc (.cells (encV ev).toArray 23)
            have hth := Lib.hid (bx_there HBa 2 11 (by show 13 ≤ 16; decide))
            have hbl := HBq.out.lt; have hxl := HXq.out.lt; have hrl := HRRq.out.lt
            have cx : ((wq.alloc (.cells (encV ev).toArray 23)).setCells (w.heap.size + 1 + 1) 2 (encV ev)).cell? ⟨w.heap.size, 0, none⟩ = some (.slice As s.length cs) := (bx_setCells_other HXa (by omega) 2 (encV ev)).cell 0 _ rfl
            replace cx := Lib.hid cx
            have fx : ((wq.alloc (.cells (encV ev).toArray 23)).setCells (w.heap.size + 1 + 1) 2 (encV ev)).frozen? ⟨w.heap.size, 0, none⟩ = false := (bx_setCells_other HXa (by omega) 2 (encV ev)).frozen 0
            replace fx := Lib.hid fx
            have HBb : Hid (Bx (((wq.alloc (.cells (encV ev).toArray 23)).setCells (w.heap.size + 1 + 1) 2 (encV ev)).setCell ⟨w.heap.size, 0, none⟩ (.slice Az t.length cz')) (w.heap.size + 1 + 1) (encC { cm with ev := ev }) 27) := by
              have := bx_setCells HBa 2 (encV ev)
              rw [setEv] at this
              exact bx_set_other this (by omega) _ _
            have HXb : Hid (Bx (((wq.alloc (.cells (encV ev).toArray 23)).setCells (w.heap.size + 1 + 1) 2 (encV ev)).setCell ⟨w.heap.size, 0, none⟩ (.slice Az t.length cz')) w.heap.size [.slice Az t.length cz'] 29) := (bx_setCells_other HXa (by omega) 2 (encV ev)).set_ 0 (.slice Az t.length cz')
            have HRRb : Hid (Bx (((wq.alloc (.cells (encV ev).toArray 23)).setCells (w.heap.size + 1 + 1) 2 (encV ev)).setCell ⟨w.heap.size, 0, none⟩ (.slice Az t.length cz')) (w.heap.size + 1) (encC cm0) 27) := bx_set_other (bx_setCells_other HRRa (by omega) 2 (encV ev)) (by omega) _ _
            have HRb : Hid (Rb (((wq.alloc (.cells (encV ev).toArray 23)).setCells (w.heap.size + 1 + 1) 2 (encV ev)).setCell ⟨w.heap.size, 0, none⟩ (.slice Az t.length cz')) Az t) := (rw_setCells HRta 2 (encV ev) (fun blk off h => by have := hNz blk off h; omega)).set_ _ (fun blk off h => by have := hNz blk off h; omega)
            have Xb : Hid (Ext w (((wq.alloc (.cells (encV ev).toArray 23)).setCells (w.heap.size + 1 + 1) 2 (encV ev)).setCell ⟨w.heap.size, 0, none⟩ (.slice Az t.length cz'))) := (below_setCells (by omega) (encV ev) 2 _ Xa).setCell (p := ⟨w.heap.size, 0, none⟩) (Nat.le_refl _) _
            have sz : ((((wq.alloc (.cells (encV ev).toArray 23)).setCells (w.heap.size + 1 + 1) 2 (encV ev)).setCell ⟨w.heap.size, 0, none⟩ (.slice Az t.length cz'))).heap.size = wq.heap.size + 1 := by simp [size_setCells]
            clear HBa HXa HRRa Xa HRta hRt HBq HXq HRRq Xq
            replace sz := Lib.hid sz
            replace hNz := Lib.hid hNz
            clear hbl hxl hrl
            obtain ⟨EV, hEV⟩ : ∃ c, (encV ev).toArray = c := ⟨_, rfl⟩
            have hEV' : (encV ev).toArray = EV := hEV
            rw [hEV]
            replace hEV := Lib.hid hEV
            have sE : Hid ((Try.prog.info? 23).map (·.size) = some EV.size) := by show _ = _; rw [← hEV.out]; exact sizeV
            have oE : Hid (EV.all (·.oneCell') = true) := by show _ = _; rw [← hEV.out]; exact cells_ok ev
            have zE : Hid ((encV ev0).toArray.size = EV.size) := by show _ = _; rw [← hEV.out]; rfl
            clear hEV'
            have HE2 : Hid (Bx (wq.alloc (.cells EV 23)) wq.heap.size (encV ev) 23) := by show Bx _ _ _ _; rw [← hEV.out]; exact HE.out
            have hth2 : Hid ((wq.alloc (.cells EV 23)).there (w.heap.size + 1 + 1) 2 EV.size) := by show World.there _ _ _ _; rw [← hEV.out]; exact hth.out
            have cx2 : ((wq.alloc (.cells EV 23)).setCells (w.heap.size + 1 + 1) 2 EV.toList).cell? ⟨w.heap.size, 0, none⟩ = some (.slice As s.length cs) := by rw [← hEV.out]; exact cx.out
            have fx2 : ((wq.alloc (.cells EV 23)).setCells (w.heap.size + 1 + 1) 2 EV.toList).frozen? ⟨w.heap.size, 0, none⟩ = false := by rw [← hEV.out]; exact fx.out
            go_wp2_with (first | (refine store_newE rfl 23 _ _ (by rfl) wq wq.heap.size rfl (encV ev0).toArray EV 23 (by rfl) (by rfl) (by rfl) sE.out zE.out oE.out ?_) | (refine load_boxE rfl 23 _ (by rfl) wq.heap.size (by rfl) (encV ev) EV hEV.out 23 HE2.out _ Try.underlying23 rfl sE.out ?_) | (refine wpList_store_mid rfl 23 _ _ (by rfl) (w.heap.size + 1 + 1) 2 EV (by rfl) (by rfl) hth2.out sE.out oE.out ?_))
            obtain ⟨wz, hwz⟩ : ∃ W, ((wq.alloc (.cells EV 23)).setCells (w.heap.size + 1 + 1) 2 EV.toList).setCell ⟨w.heap.size, 0, none⟩ (.slice Az t.length cz') = W := ⟨_, rfl⟩
            have hsz : ((wq.alloc (.cells EV 23)).setCells (w.heap.size + 1 + 1) 2 EV.toList).heap.size = wz.heap.size := by rw [← hwz]; simp
            have hwz2 : (((wq.alloc (.cells (encV ev).toArray 23)).setCells (w.heap.size + 1 + 1) 2 (encV ev)).setCell ⟨w.heap.size, 0, none⟩ (.slice Az t.length cz')) = wz := by rw [← hwz, ← hEV.out]
            rw [hsz, hwz]
            rw [hwz2] at HBb HXb HRRb HRb Xb sz
            have HBZ := HBb; have HXZ := HXb; have HRRZ := HRRb; have HRZ := HRb; have XZ := Xb
            have xzs := sz.out
            clear HBb HXb HRRb HRb Xb sz hwz hwz2 hsz HE HE2 hth hth2 cx cx2 fx fx2 hEV sE oE zE hNz
            obtain ⟨cz, hcz⟩ : ∃ c, ({ cm with ev := ev } : Cm) = c := ⟨_, rfl⟩
            obtain ⟨rz, hrz⟩ : ∃ c, t = c := ⟨_, rfl⟩
            rw [hcz] at hlast c64 HBZ
            rw [hrz] at hlast HXZ HRZ hr8 hcr
            clear hcz hrz hme
            have kt := Lib.hid (pTkC (w0 := w) (n := 1) (cap := 1) (XZ.out.alloc (.cells #[.pointer (some ⟨w.heap.size + 1 + 1, 15, none⟩)] 88)) (by omega : w.heap.size ≤ w.heap.size + 1 + 1) (Nat.le_refl _) (by omega) (HBZ.out.alloc (.cells #[.pointer (some ⟨w.heap.size + 1 + 1, 15, none⟩)] 88)) (HXZ.out.alloc (.cells #[.pointer (some ⟨w.heap.size + 1 + 1, 15, none⟩)] 88)) (HRZ.out.alloc (.cells #[.pointer (some ⟨w.heap.size + 1 + 1, 15, none⟩)] 88)) hr8.out hcr.out hcr2.out (Rw.new_at elA wz (ptrs (w.heap.size + 1 + 1) [15]) 88 _ rfl) rfl (fun blk off h => by cases h; exact ⟨by omega, by omega⟩) (by intro o ho; simp at ho; subst ho; show _ < 16; decide) (by decide))
            refine kt.out.mono ?_
            rintro e7 w7 ⟨x7, t7, hpost⟩
            have X7 := Lib.hid x7
            have HR7 := Lib.hid (bx_two (HRRZ.out.alloc (.cells #[.pointer (some ⟨w.heap.size + 1 + 1, 15, none⟩)] 88)) t7 (by omega) (by omega))
            have t7s := t7.size
            clear kt x7 t7
            simp at t7s
            cases hd7 : decN 1 rz with
            | none =>
              have hpost1 : e7 = .returned (.bool false) := by rw [show ([15] : List Nat).length = 1 from rfl, hd7] at hpost; exact hpost
              clear hpost
              subst hpost1
              have hRn : R = none := by rw [hlast.out]; unfold decG; rw [hd7]
              clear hd7 hlast
              subst hRn
              go_wp2_with fail
              go_step3
              go_wp2_with (first | (refine wpList_store_row (by rfl) 27 _ _ (by rfl) (w.heap.size + 1) (encC cm0).toArray (by rfl) (by rfl) 27 _ HR7.out sizeC rfl (cells_okC cm0) ?_))
              rw [jump_ret]
              refine bodyPost_ret (results_cm rfl _ _ (w.heap.size + 1) cm0 (.slice none 0 0) (.int .i64 240) rfl (bx_setRow HR7.out) rfl rfl) rfl ?_
              exact ⟨below_setRow X7.out (by omega) _, rfl⟩
            | some q =>
              obtain ⟨l7, s⟩ := q
              obtain ⟨x, rfl, _, hx⟩ := decN_1 hd7
              rw [show ([15] : List Nat).length = 1 from rfl, hd7] at hpost
              simp only at hpost
              obtain ⟨rfl, hB, As, cs, hX, hRs, hcs, hcs2, hNs⟩ := hpost
              have hNs : ∀ blk off, As = some ⟨blk, off, none⟩ → w.heap.size + 1 + 1 + 1 ≤ blk := by
                rcases hNs with ⟨h, _⟩ | h
                · simp at h
                · intro blk off e; have := h blk off e; simp at this; omega
              have h64c : Cm64 { cz with tear := nth [x] 0 } := ⟨c64.out.kind, c64.out.fk, c64.out.ev, c64.out.worker, c64.out.week, b64_nat hx⟩
              have hG : R = if plainC { cz with tear := nth [x] 0 } = true then some ({ cz with tear := nth [x] 0 }, s) else none := by rw [hlast.out]; unfold decG; rw [hd7]
              have hB : Bx w7 (w.heap.size + 1 + 1) (encC { cz with tear := nth [x] 0 }) 27 := hB
              obtain ⟨cf, hcf⟩ : ∃ cf, ({ cz with tear := nth [x] 0 } : Cm) = cf := ⟨_, rfl⟩
              rw [hcf] at h64c hG hB
              have HB7 := Lib.hid hB; have HX7 := Lib.hid hX; have HRs := Lib.hid hRs; have HNs := Lib.hid hNs
              have hcs' := Lib.hid hcs; have hcs2' := Lib.hid hcs2; replace hG := Lib.hid hG
              clear hB hX hRs hNs hcs hcs2 hd7 hlast hcf
              go_wp2_with (first | (refine load_box rfl 27 _ rfl _ rfl _ _ HB7.out _ Try.underlying27 rfl sizeC ?_))
              refine (pCheckC cf h64c _).mono ?_
              rintro e8 w8 ⟨rfl, x8⟩
              have HB8 := Lib.hid (HB7.out.ext x8); have HX8 := Lib.hid (HX7.out.ext x8); have HR8 := Lib.hid (HR7.out.ext x8); have X8 := Lib.hid (X7.out.trans x8); have HRs8 := Lib.hid (HRs.out.ext x8)
              clear HB7 HX7 HR7 X7 HRs x8
              cases hf : plainC cf
              · have hRn : R = none := by rw [hG.out, hf]; rfl
                clear hf hG
                subst hRn
                go_wp2_with fail
                go_step3
                go_wp2_with (first | (refine wpList_store_row (by rfl) 27 _ _ (by rfl) (w.heap.size + 1) (encC cm0).toArray (by rfl) (by rfl) 27 _ HR8.out sizeC rfl (cells_okC cm0) ?_))
                rw [jump_ret]
                refine bodyPost_ret (results_cm rfl _ _ (w.heap.size + 1) cm0 (.slice none 0 0) (.int .i64 240) rfl (bx_setRow HR8.out) rfl rfl) rfl ?_
                exact ⟨below_setRow X8.out (by omega) _, rfl⟩
              · have hRs : R = some (cf, s) := by rw [hG.out, hf]; rfl
                clear hf hG
                subst hRs
                go_wp2_with fail
                have HS0 : Hid (Bx (w8.drewN 1) (w.heap.size + 1 + 1) (encC cf) 27 ∧ Bx (w8.drewN 1) w.heap.size [.slice As s.length cs] 29) := ⟨HB8.out.drewN 1, HX8.out.drewN 1⟩
                have HR9 := Lib.hid (HR8.out.drewN 1); have X9 := Lib.hid (X8.out.drewN 1); have HRs9 := Lib.hid (HRs8.out.drewN 1)
                clear HB8 HX8 HR8 X8 HRs8
                refine held_start (S := fun W => Bx W (w.heap.size + 1 + 1) (encC cf) 27 ∧ Bx W w.heap.size [.slice As s.length cs] 29) 5 rfl (by kernel_rfl) ?_
                refine held_boxV (i := 0) rfl (by kernel_rfl) (by kernel_rfl) (by kernel_rfl) rfl 27 _ rfl _ rfl (encC cf) 27 (fun w h => h.1) _ Try.underlying27 rfl sizeC HS0.out _ (by simp [Act.put]; rfl) ?_
                refine held_takeV (i := 1) rfl (by kernel_rfl) (by kernel_rfl) (by kernel_rfl) (.slice As s.length cs) rfl (fun w hT => by have cc := hT.2.cell 0 _ rfl; go_simp) HS0.out _ (by simp [Act.put]; rfl) ?_
                refine held_all (i := 2) rfl (by kernel_rfl) rfl ?_
                refine wp_store_row 27 _ _ rfl (w.heap.size + 1) (encC cf).toArray (by rfl) (by rfl) 27 (encC cm0).toArray HR9.out sizeC rfl (cells_okC cf) ?_
                have HS1 : Hid (Bx ((w8.drewN 1).setRow (w.heap.size + 1) (encC cf).toArray) (w.heap.size + 1 + 1) (encC cf) 27 ∧ Bx ((w8.drewN 1).setRow (w.heap.size + 1) (encC cf).toArray) w.heap.size [.slice As s.length cs] 29) := ⟨bx_setRow_other HS0.out.1 (by omega) _, bx_setRow_other HS0.out.2 (by omega) _⟩
                refine ⟨HS1.out, ?_⟩
                refine held_assign (i := 3) rfl (by kernel_rfl) (by kernel_rfl) (by kernel_rfl) _ rfl rfl HS1.out _ (by simp [Act.put]; rfl) ?_
                refine held_assign (i := 4) rfl (by kernel_rfl) (by kernel_rfl) (by kernel_rfl) _ rfl rfl HS1.out _ (by simp [Act.put]; rfl) ?_
                refine held_done (by kernel_rfl) ?_ _
                go_wp2
                rw [jump_ret]
                refine bodyPost_ret (results_cm rfl _ _ (w.heap.size + 1) cf (.slice As s.length cs) (.int .i64 0) rfl (bx_setRow HR9.out) rfl rfl) rfl ?_
                exact ⟨below_setRow X9.out (by omega) _, As, cs, rfl, rw_setRow HRs9.out _ (fun blk off h => by have := HNs.out blk off h; omega), hcs'.out, hcs2'.out, fun blk off h => by have := HNs.out blk off h; omega⟩
      · go_wp2_with fail
        have kp := Lib.hid (pTkC (w0 := w) (n := 1) (cap := 1) (Xp.out.alloc (.cells #[.pointer (some ⟨w.heap.size + 1 + 1, 2, none⟩)] 88)) (by omega : w.heap.size ≤ w.heap.size + 1 + 1) (Nat.le_refl _) (by omega) (HBp.out.alloc (.cells #[.pointer (some ⟨w.heap.size + 1 + 1, 2, none⟩)] 88)) (HXp.out.alloc (.cells #[.pointer (some ⟨w.heap.size + 1 + 1, 2, none⟩)] 88)) (HRp.out.alloc (.cells #[.pointer (some ⟨w.heap.size + 1 + 1, 2, none⟩)] 88)) hr8.out hcr.out hcr2.out (Rw.new_at elA w8 (ptrs (w.heap.size + 1 + 1) [2]) 88 _ rfl) rfl (fun blk off h => by cases h; exact ⟨by omega, by omega⟩) (by intro o ho; simp at ho; subst ho; show _ < 16; decide) (by decide))
        refine kp.out.mono ?_
        rintro e9 w9 ⟨x9, t9, hpost⟩
        have X9 := Lib.hid x9
        have HR9 := Lib.hid (bx_two (HRRp.out.alloc (.cells #[.pointer (some ⟨w.heap.size + 1 + 1, 2, none⟩)] 88)) t9 (by omega) (by omega))
        have t9s := t9.size
        clear kp x9 t9 HRRp Xp HBp HXp HRp
        simp at t9s
        cases hd9 : decN 1 s with
        | none =>
          have hpost1 : e9 = .returned (.bool false) := by rw [show ([2] : List Nat).length = 1 from rfl, hd9] at hpost; exact hpost
          clear hpost
          subst hpost1
          have hRn : R = none := by rw [hR4.out]; unfold decF; rw [hp, hd9]; rfl
          clear hd9 hp hR4
          subst hRn
          go_wp2_with fail
          go_step3
          refine ⟨rfl, HJ.out _ _ ?_⟩
          go_wp2_with (first | (refine wpList_store_row (by rfl) 27 _ _ (by rfl) (w.heap.size + 1) (encC cm0).toArray (by rfl) (by rfl) 27 _ HR9.out sizeC rfl (cells_okC cm0) ?_))
          rw [Exit.noGoto_ret]
          refine bodyPost_ret (results_cm rfl _ _ (w.heap.size + 1) cm0 (.slice none 0 0) (.int .i64 240) rfl (bx_setRow HR9.out) rfl rfl) rfl ?_
          exact ⟨below_setRow X9.out (by omega) _, rfl⟩
        | some q =>
          obtain ⟨l9, t⟩ := q
          have htr : t.length ≤ s.length := by
            have := (decN_some hd9).1
            rw [this, List.length_append]; omega
          obtain ⟨y, rfl, _, hy⟩ := decN_1 hd9
          rw [show ([2] : List Nat).length = 1 from rfl, hd9] at hpost
          simp only at hpost
          obtain ⟨rfl, hB, Az, cz', hX, hRt, hct, hct2, hNt⟩ := hpost
          have eS : setN [2] [y] (encC cm) = encC { cm with ev := { ev0 with id := nth [y] 0 } } := by rw [← hme.out]; rfl
          rw [eS] at hB
          have hlast : Hid (R = decG { cm with ev := { ev0 with id := nth [y] 0 } } t) := by show _ = _; rw [hR4.out]; unfold decF; rw [hp, hd9]; rfl
          have z64 : B64 0 := by first | decide | (unfold B64; decide) | exact ⟨by decide, by decide⟩
          have c64 : Hid (Cm64 { cm with ev := { ev0 with id := nth [y] 0 } }) := ⟨c64m.out.kind, c64m.out.fk, ⟨b64_nat hy, z64, z64, z64, z64, z64, z64, z64, z64, z64, z64⟩, c64m.out.worker, c64m.out.week, c64m.out.tear⟩
          have hw : wholeC { cm with ev := { ev0 with id := nth [y] 0 } } = false := part_whole (c := { cm with ev := { ev0 with id := nth [y] 0 } }) hp
          replace hr8 : Hid (t.length ≤ 100000000) := Nat.le_trans htr hr8.out
          replace hcr := Lib.hid hct; replace hcr2 := Lib.hid hct2
          obtain ⟨cz, hcz⟩ : ∃ c, ({ cm with ev := { ev0 with id := nth [y] 0 } } : Cm) = c := ⟨_, rfl⟩
          obtain ⟨rz, hrz⟩ : ∃ c, t = c := ⟨_, rfl⟩
          rw [hcz] at hlast c64 hB hw
          rw [hrz] at hlast hX hRt hr8 hcr
          have HB9 := Lib.hid hB; have HX9 := Lib.hid hX; have HRt9 := Lib.hid hRt
          clear hcz hrz hme hd9 hp hR4 eS z64 hB hX hRt hct hct2 hNt htr hy c64m
          go_wp2_with (first | (refine load_box rfl 27 _ rfl _ rfl _ _ HB9.out _ Try.underlying27 rfl sizeC ?_))
          refine (pWhole cz _).mono ?_
          rintro e5 wz ⟨rfl, xz⟩
          have HBZ := Lib.hid (HB9.out.ext xz); have HXZ := Lib.hid (HX9.out.ext xz); have HRZ := Lib.hid (HRt9.out.ext xz); have HRRZ := Lib.hid (HR9.out.ext xz); have XZ := Lib.hid (X9.out.trans xz)
          have xzs := xz.size
          clear HB9 HX9 HRt9 HR9 X9 xz
          rw [hw]
          clear hw
          have kt := Lib.hid (pTkC (w0 := w) (n := 1) (cap := 1) (XZ.out.alloc (.cells #[.pointer (some ⟨w.heap.size + 1 + 1, 15, none⟩)] 88)) (by omega : w.heap.size ≤ w.heap.size + 1 + 1) (Nat.le_refl _) (by omega) (HBZ.out.alloc (.cells #[.pointer (some ⟨w.heap.size + 1 + 1, 15, none⟩)] 88)) (HXZ.out.alloc (.cells #[.pointer (some ⟨w.heap.size + 1 + 1, 15, none⟩)] 88)) (HRZ.out.alloc (.cells #[.pointer (some ⟨w.heap.size + 1 + 1, 15, none⟩)] 88)) hr8.out hcr.out hcr2.out (Rw.new_at elA wz (ptrs (w.heap.size + 1 + 1) [15]) 88 _ rfl) rfl (fun blk off h => by cases h; exact ⟨by omega, by omega⟩) (by intro o ho; simp at ho; subst ho; show _ < 16; decide) (by decide))
          go_wp2_with fail
          refine kt.out.mono ?_
          rintro e7 w7 ⟨x7, t7, hpost⟩
          have X7 := Lib.hid x7
          have HR7 := Lib.hid (bx_two (HRRZ.out.alloc (.cells #[.pointer (some ⟨w.heap.size + 1 + 1, 15, none⟩)] 88)) t7 (by omega) (by omega))
          have t7s := t7.size
          clear kt x7 t7
          simp at t7s
          cases hd7 : decN 1 rz with
          | none =>
            have hpost1 : e7 = .returned (.bool false) := by rw [show ([15] : List Nat).length = 1 from rfl, hd7] at hpost; exact hpost
            clear hpost
            subst hpost1
            have hRn : R = none := by rw [hlast.out]; unfold decG; rw [hd7]
            clear hd7 hlast
            subst hRn
            go_wp2_with fail
            go_step3
            go_wp2_with (first | (refine wpList_store_row (by rfl) 27 _ _ (by rfl) (w.heap.size + 1) (encC cm0).toArray (by rfl) (by rfl) 27 _ HR7.out sizeC rfl (cells_okC cm0) ?_))
            rw [jump_ret]
            refine bodyPost_ret (results_cm rfl _ _ (w.heap.size + 1) cm0 (.slice none 0 0) (.int .i64 240) rfl (bx_setRow HR7.out) rfl rfl) rfl ?_
            exact ⟨below_setRow X7.out (by omega) _, rfl⟩
          | some q =>
            obtain ⟨l7, s⟩ := q
            obtain ⟨x, rfl, _, hx⟩ := decN_1 hd7
            rw [show ([15] : List Nat).length = 1 from rfl, hd7] at hpost
            simp only at hpost
            obtain ⟨rfl, hB, As, cs, hX, hRs, hcs, hcs2, hNs⟩ := hpost
            have hNs : ∀ blk off, As = some ⟨blk, off, none⟩ → w.heap.size + 1 + 1 + 1 ≤ blk := by
              rcases hNs with ⟨h, _⟩ | h
              · simp at h
              · intro blk off e; have := h blk off e; simp at this; omega
            have h64c : Cm64 { cz with tear := nth [x] 0 } := ⟨c64.out.kind, c64.out.fk, c64.out.ev, c64.out.worker, c64.out.week, b64_nat hx⟩
            have hG : R = if plainC { cz with tear := nth [x] 0 } = true then some ({ cz with tear := nth [x] 0 }, s) else none := by rw [hlast.out]; unfold decG; rw [hd7]
            have hB : Bx w7 (w.heap.size + 1 + 1) (encC { cz with tear := nth [x] 0 }) 27 := hB
            obtain ⟨cf, hcf⟩ : ∃ cf, ({ cz with tear := nth [x] 0 } : Cm) = cf := ⟨_, rfl⟩
            rw [hcf] at h64c hG hB
            have HB7 := Lib.hid hB; have HX7 := Lib.hid hX; have HRs := Lib.hid hRs; have HNs := Lib.hid hNs
            have hcs' := Lib.hid hcs; have hcs2' := Lib.hid hcs2; replace hG := Lib.hid hG
            clear hB hX hRs hNs hcs hcs2 hd7 hlast hcf
            go_wp2_with (first | (refine load_box rfl 27 _ rfl _ rfl _ _ HB7.out _ Try.underlying27 rfl sizeC ?_))
            refine (pCheckC cf h64c _).mono ?_
            rintro e8 w8 ⟨rfl, x8⟩
            have HB8 := Lib.hid (HB7.out.ext x8); have HX8 := Lib.hid (HX7.out.ext x8); have HR8 := Lib.hid (HR7.out.ext x8); have X8 := Lib.hid (X7.out.trans x8); have HRs8 := Lib.hid (HRs.out.ext x8)
            clear HB7 HX7 HR7 X7 HRs x8
            cases hf : plainC cf
            · have hRn : R = none := by rw [hG.out, hf]; rfl
              clear hf hG
              subst hRn
              go_wp2_with fail
              go_step3
              go_wp2_with (first | (refine wpList_store_row (by rfl) 27 _ _ (by rfl) (w.heap.size + 1) (encC cm0).toArray (by rfl) (by rfl) 27 _ HR8.out sizeC rfl (cells_okC cm0) ?_))
              rw [jump_ret]
              refine bodyPost_ret (results_cm rfl _ _ (w.heap.size + 1) cm0 (.slice none 0 0) (.int .i64 240) rfl (bx_setRow HR8.out) rfl rfl) rfl ?_
              exact ⟨below_setRow X8.out (by omega) _, rfl⟩
            · have hRs : R = some (cf, s) := by rw [hG.out, hf]; rfl
              clear hf hG
              subst hRs
              go_wp2_with fail
              have HS0 : Hid (Bx (w8.drewN 1) (w.heap.size + 1 + 1) (encC cf) 27 ∧ Bx (w8.drewN 1) w.heap.size [.slice As s.length cs] 29) := ⟨HB8.out.drewN 1, HX8.out.drewN 1⟩
              have HR9 := Lib.hid (HR8.out.drewN 1); have X9 := Lib.hid (X8.out.drewN 1); have HRs9 := Lib.hid (HRs8.out.drewN 1)
              clear HB8 HX8 HR8 X8 HRs8
              refine held_start (S := fun W => Bx W (w.heap.size + 1 + 1) (encC cf) 27 ∧ Bx W w.heap.size [.slice As s.length cs] 29) 5 rfl (by kernel_rfl) ?_
              refine held_boxV (i := 0) rfl (by kernel_rfl) (by kernel_rfl) (by kernel_rfl) rfl 27 _ rfl _ rfl (encC cf) 27 (fun w h => h.1) _ Try.underlying27 rfl sizeC HS0.out _ (by simp [Act.put]; rfl) ?_
              refine held_takeV (i := 1) rfl (by kernel_rfl) (by kernel_rfl) (by kernel_rfl) (.slice As s.length cs) rfl (fun w hT => by have cc := hT.2.cell 0 _ rfl; go_simp) HS0.out _ (by simp [Act.put]; rfl) ?_
              refine held_all (i := 2) rfl (by kernel_rfl) rfl ?_
              refine wp_store_row 27 _ _ rfl (w.heap.size + 1) (encC cf).toArray (by rfl) (by rfl) 27 (encC cm0).toArray HR9.out sizeC rfl (cells_okC cf) ?_
              have HS1 : Hid (Bx ((w8.drewN 1).setRow (w.heap.size + 1) (encC cf).toArray) (w.heap.size + 1 + 1) (encC cf) 27 ∧ Bx ((w8.drewN 1).setRow (w.heap.size + 1) (encC cf).toArray) w.heap.size [.slice As s.length cs] 29) := ⟨bx_setRow_other HS0.out.1 (by omega) _, bx_setRow_other HS0.out.2 (by omega) _⟩
              refine ⟨HS1.out, ?_⟩
              refine held_assign (i := 3) rfl (by kernel_rfl) (by kernel_rfl) (by kernel_rfl) _ rfl rfl HS1.out _ (by simp [Act.put]; rfl) ?_
              refine held_assign (i := 4) rfl (by kernel_rfl) (by kernel_rfl) (by kernel_rfl) _ rfl rfl HS1.out _ (by simp [Act.put]; rfl) ?_
              refine held_done (by kernel_rfl) ?_ _
              go_wp2
              rw [jump_ret]
              refine bodyPost_ret (results_cm rfl _ _ (w.heap.size + 1) cf (.slice As s.length cs) (.int .i64 0) rfl (bx_setRow HR9.out) rfl rfl) rfl ?_
              exact ⟨below_setRow X9.out (by omega) _, As, cs, rfl, rw_setRow HRs9.out _ (fun blk off h => by have := HNs.out blk off h; omega), hcs'.out, hcs2'.out, fun blk off h => by have := HNs.out blk off h; omega⟩
end Go.Proofs.Ytmbjbbflhlndcaa
