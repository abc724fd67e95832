/-
  CmdsApart: the walk.
-/
import Derived.Test.YtmbjbbflhlndcaaKp2
namespace Go.Proofs.Ytmbjbbflhlndcaa
open Go.RowKit BigFrame
set_option linter.unusedVariables false
set_option linter.unusedSimpArgs false

theorem pMPutNilY (w : World) (c : Cm) (h64 : Cm64 c) (hf : plainC c = true) : Calls Try.prog 19 #[.slice none 0 0, .agg (encC c).toArray] w (RetBE w (encM c) 0) := by
  have := pMPutY (w := w) (A := none) (b := []) Rw.nil (by simp) 0 c h64 hf
  exact this
theorem pMPutNilN (w : World) (c : Cm) (h64 : Cm64 c) (hf : plainC c = false) : Calls Try.prog 19 #[.slice none 0 0, .agg (encC c).toArray] w (RetBE w [] 240) := by
  have := pMPutN (w := w) (A := none) (b := []) Rw.nil (by simp) 0 c h64 hf
  exact this
theorem apart_iff {a b : Cm} (ha : plainC a = true) (ha64 : Cm64 a) (hb : plainC b = true) (hb64 : Cm64 b) : (encM a).take (min (encM a).length (encM b).length) = (encM b).take (min (encM a).length (encM b).length) ↔ a = b := by
  have pre : ∀ x y : List UInt8, x = y.take x.length → y = x ++ y.drop x.length := fun x y h => by
    have := List.take_append_drop x.length y
    rw [← h] at this
    exact this.symm
  constructor
  · intro h
    rcases Nat.le_total (encM a).length (encM b).length with hl | hl
    · rw [Nat.min_eq_left hl, List.take_length] at h
      exact (encM_inj ha ha64 hb hb64 (r := (encM b).drop (encM a).length) (s := []) (by rw [List.append_nil]; exact (pre _ _ h).symm)).1
    · rw [Nat.min_eq_right hl, List.take_length] at h
      exact (encM_inj hb hb64 ha ha64 (r := (encM a).drop (encM b).length) (s := []) (by rw [List.append_nil]; exact (pre _ _ h.symm).symm)).1.symm
  · rintro rfl; rfl
theorem run_eql_op {a : Act} {o : Oper} {w : World} (T ty2 : TypeId) (x y : Operand) (ho : o.op = .binOp .eql T x y ty2) (xs ys : Array Value) (hx : a.eval x = .agg xs) (hy : a.eval y = .agg ys) (hg : Try.prog.eqGuardType Try.prog.depth T = false) (b : Bool)
    (hq : ∀ w, (Op.equalIn 10000 T (.agg xs) (.agg ys)).run Try.prog w = .ok b w) : (execOp a.eval o).run Try.prog w = .ok (.value (.bool b)) w := by
  unfold execOp
  simp only [ho, hx, hy]
  go_simp

set_option maxRecDepth 100000 in
set_option maxHeartbeats 2000000 in
theorem apart24 (a b : Cm) (ha : Cm64 a) (hb : Cm64 b) (w : World) : Calls Try.prog 7 #[.agg (encC a).toArray, .agg (encC b).toArray] w (RetB w true) := by
  obtain ⟨W2, hW2⟩ : ∃ W2, W2 = (w.alloc (.cells (encC a).toArray 27)).alloc (.cells (encC b).toArray 27) := ⟨_, rfl⟩
  have HA0 : Hid (Bx W2 w.heap.size (encC a) 27) := by rw [hW2]; exact (Bx.new w (encC a) 27).alloc _
  have HB0 : Hid (Bx W2 (w.heap.size + 1) (encC b) 27) := by
    have := Bx.new (w.alloc (.cells (encC a).toArray 27)) (encC b) 27
    rw [show (w.alloc (.cells (encC a).toArray 27)).heap.size = w.heap.size + 1 from by simp] at this
    rw [hW2]; exact this
  have X0 : Hid (Ext w W2) := by rw [hW2]; exact ((Ext.refl w).alloc _).alloc _
  go_enter Try.func7, Try.ntmps7
  go_wp2_with fail
  rw [← hW2]
  clear hW2
  refine (awake24 _).mono ?_
  rintro e1 w1 ⟨rfl, x1⟩
  have HA1 := Lib.hid (HA0.out.ext x1); have HB1 := Lib.hid (HB0.out.ext x1); have X1 := Lib.hid (X0.out.trans x1)
  clear HA0 HB0 X0 x1
  go_wp2_with (first | (refine load_box rfl 27 _ rfl _ rfl _ _ HA1.out _ Try.underlying27 rfl sizeC ?_))
  cases hpa : plainC a
  · refine (pMPutNilN _ a ha hpa).mono ?_
    rintro e2 w2 ⟨A2, c2, rfl, _, x2, _⟩
    have HA2 := Lib.hid (HA1.out.ext x2); have HB2 := Lib.hid (HB1.out.ext x2); have X2 := Lib.hid (X1.out.trans x2)
    clear HA1 HB1 X1 x2
    go_wp2_with (first | (refine load_box rfl 27 _ rfl _ rfl _ _ HB2.out _ Try.underlying27 rfl sizeC ?_))
    have kB : Hid (Calls Try.prog 19 #[.slice none 0 0, .agg (encC b).toArray] w2 fun x w' => (∃ A n cap r, x = .returned (.tuple #[.slice A n cap, .int .i64 r])) ∧ Ext w2 w') := by
      show Calls _ _ _ _ _
      cases hpb : plainC b
      · exact (pMPutNilN _ b hb hpb).mono fun _ _ ⟨A, cap, he, _, hx, _⟩ => ⟨⟨A, _, cap, 240, he⟩, hx⟩
      · exact (pMPutNilY _ b hb hpb).mono fun _ _ ⟨A, cap, he, _, hx, _⟩ => ⟨⟨A, _, cap, 0, he⟩, hx⟩
    refine kB.out.mono ?_
    rintro e3 w3 ⟨⟨A3, n3, c3, r3, rfl⟩, x3⟩
    have HA3 := Lib.hid (HA2.out.ext x3); have X3 := Lib.hid (X2.out.trans x3)
    clear HA2 HB2 X2 x3 kB
    go_wp2_with (first | (refine load_box (by rfl) 27 _ rfl _ rfl _ _ HA3.out _ Try.underlying27 rfl sizeC ?_))
    refine (pCheckC a ha _).mono ?_
    rintro e4 w4 ⟨rfl, x4⟩
    rw [hpa]
    clear hpa
    go_wp2_with fail
    go_ret
    exact ⟨rfl, X3.out.trans x4⟩
  · refine (pMPutNilY _ a ha hpa).mono ?_
    rintro e2 w2 ⟨A2, c2, rfl, r2, x2, o2⟩
    have HA2 := Lib.hid (HA1.out.ext x2); have HB2 := Lib.hid (HB1.out.ext x2); have X2 := Lib.hid (X1.out.trans x2)
    have hc2 := own_cap o2
    clear HA1 HB1 X1 x2 o2
    go_wp2_with (first | (refine load_box rfl 27 _ rfl _ rfl _ _ HB2.out _ Try.underlying27 rfl sizeC ?_))
    cases hpb : plainC b
    · refine (pMPutNilN _ b hb hpb).mono ?_
      rintro e3 w3 ⟨A3, c3, rfl, _, x3, _⟩
      have HA3 := Lib.hid (HA2.out.ext x3); have HB3 := Lib.hid (HB2.out.ext x3); have X3 := Lib.hid (X2.out.trans x3)
      clear HA2 HB2 X2 x3
      go_wp2_with (first | (refine load_box (by rfl) 27 _ rfl _ rfl _ _ HA3.out _ Try.underlying27 rfl sizeC ?_))
      refine (pCheckC a ha _).mono ?_
      rintro e4 w4 ⟨rfl, x4⟩
      have HB4 := Lib.hid (HB3.out.ext x4)
      rw [hpa]
      clear hpa
      go_wp2_with (first | (refine load_box (by rfl) 27 _ rfl _ rfl _ _ HB4.out _ Try.underlying27 rfl sizeC ?_))
      refine (pCheckC b hb _).mono ?_
      rintro e5 w5 ⟨rfl, x5⟩
      rw [hpb]
      clear hpb
      go_wp2_with fail
      go_ret
      exact ⟨rfl, (X3.out.trans x4).trans x5⟩
    · refine (pMPutNilY _ b hb hpb).mono ?_
      rintro e3 w3 ⟨A3, c3, rfl, r3, x3, o3⟩
      have HA3 := Lib.hid (HA2.out.ext x3); have HB3 := Lib.hid (HB2.out.ext x3); have X3 := Lib.hid (X2.out.trans x3); have R2 := Lib.hid (r2.ext x3); have R3 := Lib.hid r3
      have hc3 := own_cap o3
      clear HA2 HB2 X2 x3 o3 r2 r3
      have hiff := Lib.hid (apart_iff hpa ha hpb hb)
      have la := (encM_len hpa ha).1; have lb := (encM_len hpb hb).1
      obtain ⟨x, hx⟩ : ∃ x, encM a = x := ⟨_, rfl⟩
      obtain ⟨y, hy⟩ : ∃ y, encM b = y := ⟨_, rfl⟩
      rw [hx] at hiff R2 la hc2 ⊢
      rw [hy] at hiff R3 lb hc3 ⊢
      clear hx hy hpa hpb
      go_wp2_with fail
      have hmin : min (x.length : Int) (y.length : Int) = ((min x.length y.length : Nat) : Int) := by omega
      rw [hmin]
      clear hmin
      obtain ⟨n, hn⟩ : ∃ n, min x.length y.length = n := ⟨_, rfl⟩
      rw [hn] at hiff ⊢
      have hnx : n ≤ x.length := by omega
      have hny : n ≤ y.length := by omega
      obtain ⟨A4, hA4, hs4⟩ := slice_hiS R2.out hnx hc2.1
      obtain ⟨A5, hA5, hs5⟩ := slice_hiS R3.out hny hc3.1
      have hg := eqGuardC
      obtain ⟨B, hB1, hB2⟩ : ∃ B : Bool, (x.take n == y.take n) = B ∧ decide (a = b) = B := by
        refine ⟨decide (a = b), ?_, rfl⟩
        by_cases he : a = b
        · rw [decide_eq_true he, beq_iff_eq]; exact hiff.out.2 he
        · rw [decide_eq_false he, beq_eq_false_iff_ne]; exact fun h => he (hiff.out.1 h)
      have HS : Hid ((Bx (w3.drewN 1) w.heap.size (encC a) 27 ∧ Bx (w3.drewN 1) (w.heap.size + 1) (encC b) 27) ∧ Rb (w3.drewN 1) A2 x ∧ Rb (w3.drewN 1) A3 y) := ⟨⟨HA3.out.drewN 1, HB3.out.drewN 1⟩, R2.out.drewN 1, R3.out.drewN 1⟩
      have X4 := Lib.hid (X3.out.drewN 1)
      have tx : (x.take n).length = n := by rw [List.length_take]; omega
      have ty : (y.take n).length = n := by rw [List.length_take]; omega
      have kx : ∀ w : World, Rb w A2 x → (convert 29 9 (.slice A4 n c2)).run Try.prog w = .ok (.string ⟨(x.take n).toArray⟩) w := fun w h => by
        have := run_str (hs4 w h) c2
        rw [tx] at this; exact this
      have ky : ∀ w : World, Rb w A3 y → (convert 29 9 (.slice A5 n c3)).run Try.prog w = .ok (.string ⟨(y.take n).toArray⟩) w := fun w h => by
        have := run_str (hs5 w h) c3
        rw [ty] at this; exact this
      replace hA4 := Lib.hid hA4; replace hA5 := Lib.hid hA5; replace kx := Lib.hid kx; replace ky := Lib.hid ky; replace hB1 := Lib.hid hB1; replace hB2 := Lib.hid hB2; replace hn := Lib.hid hn
      clear HA3 HB3 X3 R2 R3 hs4 hs5 tx ty hiff
      refine held_start (S := fun W => (Bx W w.heap.size (encC a) 27 ∧ Bx W (w.heap.size + 1) (encC b) 27) ∧ Rb W A2 x ∧ Rb W A3 y) 17 rfl (by kernel_rfl) ?_
      refine held_move (i := 0) rfl (by kernel_rfl) (by kernel_rfl) (by kernel_rfl) _ rfl rfl HS.out _ (by simp [Act.put]; rfl) ?_
      refine held_move (i := 1) rfl (by kernel_rfl) (by kernel_rfl) (by kernel_rfl) _ rfl rfl HS.out _ (by simp [Act.put]; rfl) ?_
      refine held_move (i := 2) rfl (by kernel_rfl) (by kernel_rfl) (by kernel_rfl) _ rfl rfl HS.out _ (by simp [Act.put]; rfl) ?_
      refine held_move (i := 3) rfl (by kernel_rfl) (by kernel_rfl) (by kernel_rfl) _ rfl rfl HS.out _ (by simp [Act.put]; rfl) ?_
      refine held_takeV (i := 4) rfl (by kernel_rfl) (by kernel_rfl) (by kernel_rfl) (.slice A4 n c2) rfl (fun w _ => by have := hA4.out w; go_simp) HS.out _ (by simp [Act.put]; rfl) ?_
      refine held_takeV (i := 5) rfl (by kernel_rfl) (by kernel_rfl) (by kernel_rfl) (.string ⟨(x.take n).toArray⟩) rfl (fun w h => by have := kx.out w h.2.1; go_simp) HS.out _ (by simp [Act.put]; rfl) ?_
      refine held_move (i := 6) rfl (by kernel_rfl) (by kernel_rfl) (by kernel_rfl) _ rfl rfl HS.out _ (by simp [Act.put]; rfl) ?_
      refine held_move (i := 7) rfl (by kernel_rfl) (by kernel_rfl) (by kernel_rfl) _ rfl rfl HS.out _ (by simp [Act.put]; rfl) ?_
      refine held_takeV (i := 8) rfl (by kernel_rfl) (by kernel_rfl) (by kernel_rfl) (.slice A5 n c3) rfl (fun w _ => by have := hA5.out w; go_simp) HS.out _ (by simp [Act.put]; rfl) ?_
      refine held_takeV (i := 9) rfl (by kernel_rfl) (by kernel_rfl) (by kernel_rfl) (.string ⟨(y.take n).toArray⟩) rfl (fun w h => by have := ky.out w h.2.2; go_simp) HS.out _ (by simp [Act.put]; rfl) ?_
      refine held_takeV (i := 10) rfl (by kernel_rfl) (by kernel_rfl) (by kernel_rfl) (.bool B) rfl (fun w h => by have := hB1.out; go_simp) HS.out _ (by simp [Act.put]; rfl) ?_
      refine held_boxV (i := 11) rfl (by kernel_rfl) (by kernel_rfl) (by kernel_rfl) rfl 27 _ rfl _ rfl (encC a) 27 (fun w h => h.1.1) _ Try.underlying27 rfl sizeC HS.out _ (by simp [Act.put]; rfl) ?_
      refine held_boxV (i := 12) rfl (by kernel_rfl) (by kernel_rfl) (by kernel_rfl) rfl 27 _ rfl _ rfl (encC b) 27 (fun w h => h.1.2) _ Try.underlying27 rfl sizeC HS.out _ (by simp [Act.put]; rfl) ?_
      refine held_takeV (i := 13) rfl (by kernel_rfl) (by kernel_rfl) (by kernel_rfl) (.bool B) rfl (fun w h => run_eql_op 27 _ _ _ rfl (encC a).toArray (encC b).toArray rfl rfl hg _ (fun w => by rw [← hB2.out]; exact eqInC a b w)) HS.out _ (by simp [Act.put]; rfl) ?_
      refine held_takeV (i := 14) rfl (by kernel_rfl) (by kernel_rfl) (by kernel_rfl) (.bool true) rfl (fun w h => by go_simp) HS.out _ (by simp [Act.put]; rfl) ?_
      refine held_takeV (i := 15) rfl (by kernel_rfl) (by kernel_rfl) (by kernel_rfl) (.bool true) rfl (fun w h => by go_simp) HS.out _ (by simp [Act.put]; rfl) ?_
      refine held_assign (i := 16) rfl (by kernel_rfl) (by kernel_rfl) (by kernel_rfl) _ rfl rfl HS.out _ (by simp [Act.put]; rfl) ?_
      refine held_done (by kernel_rfl) ?_ _
      go_wp2
      go_ret
      exact ⟨rfl, X4.out⟩
end Go.Proofs.Ytmbjbbflhlndcaa
