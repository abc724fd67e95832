/-
  Words for layer 11: the day put behind the others (the closure in Days).
  Words for layer 11: the days that have some.
-/
import Derived.RangeFuncBox
import Derived.Test.YtnhmibfgaoealaaGreatPw
namespace Go.Proofs.YtnhmibfgaoealaaGreat
open Go.RowKit


theorem info_int : (Tryz.prog.info? 3).map (fun i => (i.zero, i.size, i.bytes)) = some (some (.int .i64 0), 1, 8) := by kernel_rfl

theorem app_int {ops : Array Oper} {rest : List Oper} {o : Oper} {a : Act} {Q : Exit → Act → World → Prop} (w : World) (s x : Operand) (hgd : o.guard = none)
    (ho : o.op = .call { callee := .builtin .append, args := #[s, x], argTypes := #[27, 27] })
    (base n : Nat) (v : Value) (l : List Int) (hs : a.eval s = v) (hown : w.ownsRow base 3 1 v n (flat encN l)) (p : Int) (g c : Nat)
    (hx : a.eval x = .slice (some ⟨g, 0, none⟩) 1 c) (h0 : w.cell? ⟨g, 0, none⟩ = some (.int .i64 p))
    (hn : n ≤ 4000000000000) (hbase : base ≤ w.heap.size)
    (h : ∀ v' w', w'.ownsRow base 3 1 v' (n + 1) (flat encN (l ++ [p])) → w.grownBy w' v.ownBlock → wpList Tryz.prog ops Q rest (a.put o.dst v') w') : wpList Tryz.prog ops Q (o :: rest) a w := by
  obtain ⟨i0, hi, hz0, hz1, hz2⟩ := info_parts info_int
  refine wpList_append_at w hgd s x 27 ho base 3 i0 (.int .i64 0) 1 8 Tryz.underlying27 hi hz0 hz1 hz2 rfl (by decide) v n (flat encN l) hs hown ⟨g, 0, none⟩ 1 c [.int .i64 p] hx rfl ?_ ?_ (by unfold maxLen; omega) (by omega) hbase ?_
  · intro j u hu
    match j, hu with
    | 0, hu => simp at hu; subst hu; simpa [Addr.add] using h0
    | j + 1, hu => simp at hu
  · intro u hu; simp at hu; subst hu; rfl
  · intro v' w' ho' hg _
    exact h v' w' (by rw [flat_append]; exact ho') hg

theorem own_lastN {w : World} {base e n cap : Nat} {A : Option Addr} {o : List Int} {p : Int} (h : w.ownsRow base e 1 (.slice A n cap) n (flat encN (o ++ [p]))) (hn : n = o.length + 1) :
    ∃ g, A = some ⟨g, 0, none⟩ ∧ w.cell? ⟨g, o.length, none⟩ = some (.int .i64 p) := by
  subst hn
  have hr : Rn w A (o ++ [p]) := Rn.own (by simpa using h)
  obtain ⟨b, off, q, rfl, _, hq, hc⟩ := hr.atN (Below.refl _ _) (show o.length < (o ++ [p]).length by simp)
  have : q = p := by have := hq.out; simp at this; exact this.symm
  subst this
  rcases h.2 with ⟨h0, _⟩ | ⟨g, _, _, h0, _⟩
  · cases h0
  · cases h0
    exact ⟨_, rfl, by simpa using hc⟩

theorem put_done {W w1 : World} {n₀ B k m : Nat} {v v' : Value} {xs ys : List Value} {tmp : Obj} (hv : Boxed W B 27 v) (hrow : W.ownsRow n₀ 3 1 v k xs) (hn₀ : n₀ ≤ W.heap.size) (hB : B < n₀)
    (hown' : w1.ownsRow n₀ 3 1 v' m ys) (hgrow : (W.alloc tmp).grownBy w1 v.ownBlock) :
    Boxed w1 B 27 v ∧ Boxed (w1.setCell ⟨B, 0, none⟩ v') B 27 v' ∧ (w1.setCell ⟨B, 0, none⟩ v').ownsRow n₀ 3 1 v' m ys ∧ (Below B W (w1.setCell ⟨B, 0, none⟩ v') ∧ Mid (B + 1) n₀ W (w1.setCell ⟨B, 0, none⟩ v')) := by
  have hte : 27 ≠ 3 := by decide
  have hv1 : Boxed w1 B 27 v := (hv.alloc tmp).kept hgrow (hv.not_row hte hrow)
  have hr : ∀ g, v.ownBlock = some g → n₀ ≤ g := fun g hg => (hrow.lt g hg).1
  exact ⟨hv1, hv1.set v', hown'.kept (grownBy_setCell' w1 B v') (.inr (hv1.not_row hte hown').symm),
    (((Below.refl B W).alloc (by omega) tmp).grown hgrow (by simp; omega) fun g hg => by have := hr g hg; omega).setCell (p := ⟨B, 0, none⟩) (Nat.le_refl _) v',
    (((Mid.refl (B + 1) n₀ W).alloc hn₀ tmp).grown hn₀ hgrow fun g hg => .inr (hr g hg)).grown hn₀ (grownBy_setCell' w1 B v') fun g hg => by cases hg; exact .inl (Nat.lt_succ_self _)⟩

set_option maxRecDepth 100000 in
theorem pPut (n₀ B : Nat) (out : List Int) (v : Value) (d : Int) (w : World) (hv : Boxed w B 27 v) (hown : w.ownsRow n₀ 3 1 v out.length (flat encN out)) (hn₀ : n₀ ≤ w.heap.size) (hB : B < n₀) (hl : out.length ≤ 4000000000) :
    Calls Tryz.prog 72 #[.int .i64 d, .pointer (some ⟨B, 0, none⟩)] w fun e w' => (∃ r, e = .returned r) ∧ ∃ v', Boxed w' B 27 v' ∧ w'.ownsRow n₀ 3 1 v' (putL out d).length (flat encN (putL out d)) ∧ Below B w w' ∧ Mid (B + 1) n₀ w w' := by
  have hc := hv.cell
  have hfz := hv.frozen
  obtain ⟨A, cap, rfl, _, _⟩ := own_form hown
  rcases List.eq_nil_or_concat out with rfl | ⟨o, x, ho⟩
  · have HV := Lib.hid hv; have HO := Lib.hid hown
    rw [putL_nil]
    clear hv hown
    go_enter Tryz.func72, Tryz.ntmps72
    go_wp2_with (at_builtin; refine app_int _ _ _ rfl rfl n₀ 0 _ [] rfl (HO.out.alloc _) d w.heap.size 1 rfl (by go_simp) (by omega) (by simp; omega) ?_; intro v' w1 hown' hgrow; obtain ⟨A', cap', rfl, _, _⟩ := own_form hown'; obtain ⟨b1, b2, b3, b5⟩ := put_done HV.out HO.out hn₀ hB hown' hgrow; have k1 := b1.cell; have k2 := b1.frozen; replace b2 := Lib.hid b2; replace b3 := Lib.hid b3; replace b5 := Lib.hid b5; clear b1 hown' hgrow)
    go_end0
    exact ⟨⟨_, rfl⟩, _, b2.out, b3.out, b5.out.1, b5.out.2⟩
  · rw [List.concat_eq_append] at ho
    subst ho
    rw [show (o ++ [x]).length = o.length + 1 from by simp] at hown hl hc hv
    obtain ⟨g, rfl, hg⟩ := own_lastN hown rfl
    have HV := Lib.hid hv; have HO := Lib.hid hown
    have f0 : ((o.length : Int) + 1 == 0) = false := beq_false_of_ne (by omega)
    have q1 : IntKind.i64.wrap (o.length : Int) = o.length := IntWalk.i64_in _ (by omega)
    have q2 : (o.length : Int) < (o.length : Int) + 1 := by omega
    have q3 : (0 : Int) ≤ (o.length : Int) := by omega
    by_cases h : x < d
    · rw [putL_lt h, show (o ++ [x] ++ [d]).length = o.length + 1 + 1 from by simp]
      clear hv hown
      go_enter Tryz.func72, Tryz.ntmps72
      go_wp2_with (at_builtin; refine app_int _ _ _ rfl rfl n₀ (o.length + 1) _ (o ++ [x]) rfl (HO.out.alloc _) d w.heap.size 1 rfl (by go_simp) (by omega) (by simp; omega) ?_; intro v' w1 hown' hgrow; obtain ⟨A', cap', rfl, _, _⟩ := own_form hown'; obtain ⟨b1, b2, b3, b5⟩ := put_done HV.out HO.out hn₀ hB hown' hgrow; have k1 := b1.cell; have k2 := b1.frozen; replace b2 := Lib.hid b2; replace b3 := Lib.hid b3; replace b5 := Lib.hid b5; clear b1 hown' hgrow)
      go_end0
      exact ⟨⟨_, rfl⟩, _, b2.out, b3.out, b5.out.1, b5.out.2⟩
    · rw [putL_ge (by omega), show (o ++ [x]).length = o.length + 1 from by simp]
      have f1 : decide (x < d) = false := decide_eq_false h
      clear hv hown
      go_enter Tryz.func72, Tryz.ntmps72
      go_wp2
      go_end0
      exact ⟨⟨_, rfl⟩, _, HV.out, HO.out, Below.refl _ _, Mid.refl _ _ _⟩
end Go.Proofs.YtnhmibfgaoealaaGreat
namespace Go.Proofs.YtnhmibfgaoealaaGreat
open Go.RowKit


theorem results_cell1 {fn : Func} {p : Tmp} (h : fn.results = #[.cell p 27]) (tmps : Array Value) (w : World) (g : Nat) (v : Value)
    (hp : tmps.getD p undef = .pointer (some ⟨g, 0, none⟩)) (hc : w.cell? ⟨g, 0, none⟩ = some v) : (results fn tmps).run Tryz.prog w = .ok v w := by
  have hp' : tmps[p]?.getD undef = .pointer (some ⟨g, 0, none⟩) := by simpa using hp
  have u := Tryz.underlying27
  simp [results, h, hp', asAddr]
  go_simp

set_option maxRecDepth 100000 in
set_option maxHeartbeats 1000000 in
theorem pDays {w : World} {A : Option Addr} {l : List Sp.S} (h : Rs w A l) (hl : l.length ≤ 900000) (cap : Nat) : Calls Tryz.prog 31 #[.slice A l.length cap] w fun e w' => ∃ A' cap', e = .returned (.slice A' (daysL (Sp.norm l)).length cap') ∧ Rn w' A' (daysL (Sp.norm l)) ∧ Ext w w' := by
  obtain ⟨N, hN, lN, bN⟩ : ∃ N, Sp.norm l = N ∧ N.length ≤ 900000 ∧ Hid (∀ s ∈ N, 0 ≤ s.1 ∧ s.1 < s.2 ∧ s.2 ≤ 32054400) := ⟨_, rfl, Nat.le_trans (Sp.norm_length l) hl, (Sp.norm_plain l).bd⟩
  rw [hN]
  have hN := Lib.hid hN
  go_enter Tryz.func31, Tryz.ntmps31
  go_wp2_with fail
  refine ((hN.out ▸ cNorm (h.alloc _) hl _ : Calls _ _ _ _ (RetS _ N))).mono ?_
  rintro e w1 ⟨A1, cap1, rfl, r1, x1, o1⟩
  have hB : w.heap.size < w1.heap.size := by have := x1.size; simp at this; omega
  have hbx : Boxed w1 w.heap.size 27 (.slice none 0 0) := (x1.block w.heap.size (by simp)).trans (heap_alloc_new w _)
  go_wp2_with fail
  go_loopw [12] (fun i wr => ∃ (k : Nat) (v : Value), k ≤ N.length ∧ i = .int .i64 k ∧ Hid (Boxed wr w.heap.size 27 v) ∧ Hid (wr.ownsRow w1.heap.size 3 1 v (daysL (N.take k)).length (flat encN (daysL (N.take k)))) ∧ Hid (Below w.heap.size w1 wr) ∧ Hid (Mid (w.heap.size + 1) w1.heap.size w1 wr)) (fun i _ => N.length - (intOf i).toNat)
  case atStart => exact ⟨0, _, Nat.zero_le _, rfl, hbx, ⟨rfl, .inl ⟨rfl, rfl⟩⟩, Below.refl _ _, Mid.refl _ _ _⟩
  case round =>
    obtain ⟨k, v, hk, rfl, HV, HO, HM, HR⟩ := hrel
    by_cases hlt : k < N.length
    · obtain ⟨A2, cap2, rfl, _, _⟩ := own_form HO.out
      obtain ⟨b, off, p, q, rfl, hbB, hx, c0, c1⟩ := Rd.atS r1 (Ext.refl w1) hlt
      have hgb : w.heap.size + 1 ≤ b := by
        rcases o1.2 with ⟨h0, _⟩ | ⟨g, _, _, h0, hg, _⟩
        · cases h0
        · cases h0; simpa using hg
      have d0 := (HR.out.cell (p := ⟨b, off + k * 2, none⟩) hgb hbB).trans c0
      have d1 := (HR.out.cell (p := ⟨b, off + k * 2 + 1, none⟩) hgb hbB).trans c1
      obtain ⟨p0, p1, p2⟩ := bN.out _ (List.mem_of_getElem? hx.out)
      replace p0 : 0 ≤ p := p0
      replace p1 : p < q := p1
      replace p2 : q ≤ 32054400 := p2
      clear c0 c1
      go_wp2_with fail
      refine (pDay p _).mono ?_
      rintro e w3 ⟨rfl, x3⟩
      have e1 : w3.cell? ⟨wr.heap.size, 1, none⟩ = some (.int .i64 q) := (x3.cell (p := ⟨wr.heap.size, 1, none⟩) (by simp)).trans (cells_new wr [.int .i64 p, .int .i64 q] 49 1 _ rfl)
      go_wp2_with fail
      refine (pDay (q - 1) _).mono ?_
      rintro e w4 ⟨rfl, x4⟩
      have u1 := dayOf_bd p
      have u2 := dayOf_bd (q - 1)
      have u3 : dayOf p ≤ dayOf (q - 1) := dayOf_mono (by omega)
      obtain ⟨M, hM, hM2⟩ : ∃ M : Nat, dayOf (q - 1) - dayOf p + 1 = (M : Int) ∧ Hid (spanN (p, q) = M) := ⟨(dayOf (q - 1) - dayOf p + 1).toNat, by omega, (rfl : _ = _)⟩
      have hM3 : M ≤ 371 := by omega
      have Xr : Ext wr w4 := (((Ext.refl _).alloc _).trans x3).trans x4
      have hD := daysL_len (N.take k)
      obtain ⟨D, hDD⟩ : ∃ D, daysL (N.take k) = D := ⟨_, rfl⟩
      rw [hDD] at hD HO HV
      have hDl : D.length ≤ 371 * 900000 := by have : (N.take k).length ≤ 900000 := by simp; omega
                                               omega
      replace hDD := Lib.hid hDD
      go_wp2_with fail
      go_loopw [26] (fun i wi => ∃ (m : Nat) (v : Value), m ≤ M ∧ i = .int .i64 m ∧ Hid (Boxed wi w.heap.size 27 v) ∧ Hid (wi.ownsRow w1.heap.size 3 1 v (putsN D (dayOf p) m).length (flat encN (putsN D (dayOf p) m))) ∧ Hid (Below w.heap.size w1 wi) ∧ Hid (Mid (w.heap.size + 1) w1.heap.size w1 wi)) (fun i _ => M - (intOf i).toNat)
      case atStart => exact ⟨0, _, Nat.zero_le _, rfl, (Xr.block w.heap.size HV.out.lt).trans HV.out, own_below HO.out Xr, HM.out.trans (Below.mono Xr (by have := HM.out.size; omega)), HR.out.below (Nat.le_refl _) Xr⟩
      case round =>
        obtain ⟨m, v, hm, rfl, HV2, HO2, HM2, HR2⟩ := hrel
        by_cases hlt2 : m < M
        · have hl2 := putsN_len D (dayOf p) m
          go_wp2_with fail
          refine (pPut w1.heap.size w.heap.size (putsN D (dayOf p) m) v (dayOf p + m) _ HV2.out HO2.out HR2.out.size hB (by omega)).mono ?_
          rintro e w5 ⟨⟨r, rfl⟩, v5, hv5, ho5, m1, m2⟩
          rw [← putsN_succ] at ho5
          replace hv5 := Lib.hid hv5; replace ho5 := Lib.hid ho5
          have m3 := Lib.hid (HM2.out.trans m1); have m4 := Lib.hid (HR2.out.trans m2)
          clear m1 m2
          go_wp2
          go_roundw
          case rel => exact ⟨m + 1, v5, by omega, by go_num, hv5, ho5, m3, m4⟩
          case measure => simp [intOf]; omega
        · obtain rfl : m = M := by omega
          have H1 : Hid (daysL (N.take (k + 1)) = putsN D (dayOf p) m) := by show _ = _; rw [take_snoc hx.out, daysL_snoc, hDD.out, hM2.out]
          have H2 := HO2.out
          rw [← H1.out] at H2
          replace H2 := Lib.hid H2
          clear HO2
          go_wp2
          go_roundw
          case rel => exact ⟨k + 1, v, by omega, by go_num, HV2, H2, HM2, HR2⟩
          case measure => simp [intOf]; omega
    · obtain rfl : k = N.length := by omega
      rw [List.take_length] at HO
      obtain ⟨A2, cap2, rfl, _, _⟩ := own_form HO.out
      have c1 := HV.out.cell
      have f1 := HV.out.frozen
      go_wp2
      have hbx2 := (HV.out.set (.slice A2 (daysL N).length cap2)).cell
      refine bodyPost_ret (results_cell1 rfl _ _ w.heap.size _ rfl hbx2) rfl ⟨A2, cap2, rfl, ?_, ?_⟩
      · exact Rn.own (HO.out.kept (grownBy_setCell' wr w.heap.size _) (.inr (HV.out.not_row (by decide) HO.out).symm))
      · have X1 : Ext w w1 := ((Ext.refl w).alloc _).trans x1
        have M2 : Below w.heap.size w1 (wr.setCell ⟨w.heap.size, 0, none⟩ (.slice A2 (daysL N).length cap2)) := HM.out.setCell (p := ⟨w.heap.size, 0, none⟩) (Nat.le_refl _) _
        exact Below.trans X1 M2
end Go.Proofs.YtnhmibfgaoealaaGreat
