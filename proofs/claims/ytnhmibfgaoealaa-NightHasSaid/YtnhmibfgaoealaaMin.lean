import Derived.Test.YtnhmibfgaoealaaIte
namespace Go.Proofs.Ytnhmibfgaoealaa
open Go.RowKit Go.Shelf

attribute [local go_sem] Oper.semAt_some

theorem others_length {lo : Int} (N : List Sp.S) (f : Int) (_h : Sp.PlainFrom lo N) : (Sp.othersFrom f N).length ≤ N.length + 1 := by
  induction N generalizing lo f with
  | nil => unfold Sp.othersFrom; split <;> simp
  | cons s r ih =>
    unfold Sp.othersFrom
    have := ih s.2 _h.2.2.2
    split <;> simp <;> omega

/-- A round that puts something behind the row in box B. -/
theorem kp_appended {W wA : World} {n₀ B g' cap' : Nat} {t e : TypeId} {size n m : Nat} {v : Value} {xs ys : List Value} {tmp : Obj} (hv : Boxed W B t v) (hte : t ≠ e) (hrow : W.ownsRow n₀ e size v n xs) (hn₀ : n₀ ≤ W.heap.size) (hBn : B < n₀)
    (hown' : wA.ownsRow n₀ e size (.slice (some ⟨g', 0, none⟩) m cap') m ys) (hgrow : (W.alloc tmp).grownBy wA v.ownBlock) (hv' : (Value.slice (some ⟨g', 0, none⟩) m cap').ownBlock = v.ownBlock ∨ (Value.slice (some ⟨g', 0, none⟩) m cap').ownBlock = some (W.alloc tmp).heap.size) :
    Boxed wA B t v ∧ KeepsOthers W (wA.setCell ⟨B, 0, none⟩ (.slice (some ⟨g', 0, none⟩) m cap')) ∧ KpB B W (wA.setCell ⟨B, 0, none⟩ (.slice (some ⟨g', 0, none⟩) m cap')) ∧
      Boxed (wA.setCell ⟨B, 0, none⟩ (.slice (some ⟨g', 0, none⟩) m cap')) B t (.slice (some ⟨g', 0, none⟩) m cap') ∧ (wA.setCell ⟨B, 0, none⟩ (.slice (some ⟨g', 0, none⟩) m cap')).ownsRow n₀ e size (.slice (some ⟨g', 0, none⟩) m cap') m ys ∧ Below B W wA := by
  have hb : Below B W wA := ((Below.refl B W).alloc (by omega) tmp).grown hgrow (by simp; omega) (fun k hk => by have := (hrow.lt k hk).1; omega)
  have hv1 : Boxed wA B t v := (hv.alloc tmp).kept hgrow (hv.not_row hte hrow)
  have hg' := (hown'.lt g' rfl)
  have hne : B ≠ g' := by omega
  have hcell : (wA.setCell ⟨B, 0, none⟩ (.slice (some ⟨g', 0, none⟩) m cap')).cell? ⟨B, 0, none⟩ = some (.slice (some ⟨g', 0, none⟩) m cap') := (hv1.set _).cell
  have hsz : (wA.setCell ⟨B, 0, none⟩ (.slice (some ⟨g', 0, none⟩) m cap')).heap.size = wA.heap.size := by simp [World.setCell]
  refine ⟨hv1, ?_, ⟨by rw [hsz]; exact hb.size, fun hg => ⟨by rw [hsz]; exact hv1.lt, fun k hk => ?_⟩, fun k c ty fr hkB hc hr => ?_⟩, hv1.set _, own_set_other hown' _ (fun h => hne (by cases h; rfl)), hb⟩
  · refine ((KeepsOthers.alloc W tmp).trans (KeepsOthers.of_grownBy hgrow fun j o hj ho => ?_)).trans (KeepsOthers.setCell _ _ _)
    rcases hrow.2 with ⟨rfl, _⟩ | ⟨g, cap, cur, rfl, _, hh, _⟩
    · simp [Value.ownBlock] at hj
    · simp [Value.ownBlock] at hj
      subst hj
      rw [Below.heap_alloc W tmp g (Array.getElem?_eq_some_iff.1 hh).1, hh] at ho
      cases ho; rfl
  · obtain ⟨o, n', c, h⟩ := hk
    rw [hcell] at h; cases h
    rw [hsz]; exact hg'.2
  · have hlt := (Array.getElem?_eq_some_iff.1 hc).1
    have hnr : some k ≠ v.ownBlock := by
      intro h
      rcases hrow.2 with ⟨rfl, _⟩ | ⟨g, cap, cur, rfl, _⟩
      · simp [Value.ownBlock] at h
      · simp [Value.ownBlock] at h
        exact hr ⟨0, n, cap, by rw [hv.cell, h]⟩
    refine ⟨?_, ?_⟩
    · rw [Below.heap_setCell wA _ _ k (by simpa using hkB), hgrow.block k (by simp; omega) hnr, Below.heap_alloc W tmp k hlt]
      exact hc
    · rintro ⟨o, n', c', h⟩
      rw [hcell] at h; cases h
      rcases hv' with h | h
      · exact hnr h
      · simp [Value.ownBlock] at h; omega

set_option maxRecDepth 100000 in
set_option maxHeartbeats 2000000 in
theorem minus_any (a b : List Sp.S) (A1 A2 : Option Addr) (c1 c2 : Nat) (w : World) (h1 : Rd encS 2 w w.heap.size A1 a) (h2 : Rd encS 2 w w.heap.size A2 b) (l1 : a.length ≤ 1000000000000) (l2 : b.length ≤ 900000000000) (hl : (Sp.norm a).length * ((Sp.norm b).length + 1) ≤ 1000000000000) :
    Calls Try.prog 41 #[.slice A1 a.length c1, .slice A2 b.length c2] w fun e w' => ∃ A' cap', e = .returned (.slice A' (Sp.minus a b).length cap') ∧
      w'.ownsRow w.heap.size 42 2 (.slice A' (Sp.minus a b).length cap') (Sp.minus a b).length (flat encS (Sp.minus a b)) ∧ Below w.heap.size w w' := by
  have hc2 := fun W hb hB => norm_at (B := w.heap.size) (w := w) (wr := W) hb hB b A2 c2
  obtain ⟨R, hR⟩ : ∃ R, R = Sp.minus a b := ⟨_, rfl⟩
  rw [← hR]
  obtain ⟨Nb, hNb⟩ : ∃ N, N = Sp.norm b := ⟨_, rfl⟩
  rw [← hNb] at hc2 hl
  have hP : Hid (Sp.Plain Nb) := by rw [hNb]; exact Sp.norm_plain b
  have hNl : Nb.length ≤ 900000000000 := by rw [hNb]; exact Nat.le_trans (Sp.norm_length b) l2
  obtain ⟨O, hO⟩ : ∃ O, O = Sp.othersFrom 0 Nb := ⟨_, rfl⟩
  have hOl : O.length ≤ Nb.length + 1 := by rw [hO]; exact others_length Nb 0 hP.out
  have HR : Hid (R = Sp.and_ a O) := by rw [hR, hO, hNb]; rfl
  have hOn : (Sp.norm O).length ≤ Nb.length + 1 := Nat.le_trans (Sp.norm_length O) hOl
  have hl2 : (Sp.norm a).length * (Sp.norm O).length ≤ 1000000000000 := Nat.le_trans (Nat.mul_le_mul_left _ hOn) hl
  have HC2 := Lib.hid hc2; have HO := Lib.hid hO; clear hc2 hNb hR hO
  have H1 := Lib.hid h1; have H2 := Lib.hid h2; clear h1 h2
  have HL2 := Lib.hid hl2; clear hl2 hl hOn
  refine (callsIn_wide (n := 6)).1 ?_
  refine callsIn_of_wp_marks Try.func41 rfl trivial ?_ rfl
  simp only [Try.ntmps41, List.size_toArray, List.length_cons, List.length_nil, Nat.reduceAdd, Nat.reduceSub, Array.replicate_succ, Array.replicate_zero, List.push_toArray, List.append_toArray, List.nil_append, List.cons_append]
  have hB0 : Below w.heap.size w (w.alloc (.cells #[.slice none 0 0] 40)) := (Below.refl _ _).alloc (Nat.le_refl _) _
  have HB0 := Lib.hid hB0; clear hB0
  gi_wp2_with (first | (refine ⟨trivial, ?_⟩; gi_at_call 34; refine (callsIn_wide.2 (HC2.out _ HB0.out (by simp) ((H2.out.below HB0.out).more (by simp)) (by omega))).mono ?_; rintro e w1 ⟨A3, cap3, rfl, _, ho3, hb3, hb4⟩) | (refine ⟨trivial, ?_⟩; gi_at_call 80; refine (others_in Fence.wide _ trivial rfl _ _ _ _).mono ?_; rintro e w' ⟨rfl, rfl⟩))
  have hlt1 : w.heap.size < w1.heap.size := Nat.lt_of_lt_of_le (by simp) hb4.out.size
  obtain ⟨W0, hW0⟩ : ∃ W0, W0 = w1.alloc (.cells #[.slice A3 Nb.length cap3] 40) := ⟨_, rfl⟩
  have hs0 : W0.heap.size = w1.heap.size + 1 := by rw [hW0]; simp
  have hB1 : Below w.heap.size w W0 := by rw [hW0]; exact hb3.out.alloc hb3.out.size _
  have hBs : W0.cell? ⟨w1.heap.size, 0, none⟩ = some (.slice A3 Nb.length cap3) := by rw [hW0]; simp
  have hBx : Boxed W0 w.heap.size 40 (.slice none 0 0) := by
    rw [hW0]
    exact Boxed.alloc ((hb4.out.block w.heap.size (by simp)).trans (heap_alloc_new w _)) _
  have ho4 : W0.ownsRow (w.heap.size + 1) 42 2 (.slice A3 Nb.length cap3) Nb.length (flat encS Nb) := by
    rw [hW0]; have := ho3.out.alloc (.cells #[.slice A3 Nb.length cap3] 40); rw [World.size_alloc] at this; exact this
  have hRd : ∀ W, Below W0.heap.size W0 W → RdB w.heap.size A3 Nb W := by
    intro W hW
    have hx : Boxed W w.heap.size 40 (.slice none 0 0) := (hW.block w.heap.size (by omega)).trans hBx
    have hno : ∀ k, ¬ RowOf w.heap.size k W := by
      rintro k ⟨o, n, c, hc⟩
      rw [hx.cell] at hc
      cases hc
    exact RdB.of_own (own_below ho4 hW) rfl ⟨hx.lt, fun k hk => absurd hk (hno k)⟩ (by omega) hno
  rw [← hW0]
  clear hW0
  refine wpIn_rangeFunc_ownH rfl (by omega) (gf := 109) (lb := #[.pointer (some ⟨w1.heap.size, 0, none⟩)]) rfl trivial (enters_of Try.func109 (by kernel_rfl) rfl)
    (others_stops Fence.wide _ trivial rfl (by omega) w1.heap.size w.heap.size A3 cap3 Nb (by omega) W0 (by omega) hBs hRd) KpB.trans (KpB.putObj (by omega)) (Below.refl _ _) (fun _ => rfl)
    (fun pre W => (∃ v, Boxed W w.heap.size 40 v ∧ W.ownsRow W0.heap.size 42 2 v pre.length (flat encS pre) ∧ True) ∧ Below w.heap.size w W)
    (fun _ _ _ => False)
    (OwnFrom.and (Own.from (holdsRow_own W0.heap.size w.heap.size 40 42 2 (fun pre : List Sp.S => pre.length) (fun pre => flat encS pre) (fun _ _ => True)) _) (ownFrom_below (Nat.le_refl _) (by omega)))
    (fun _ _ _ _ _ hs _ _ => hs)
    ⟨⟨_, hBx, World.ownsRow_nil _ _ _ _, trivial⟩, hB1⟩
    (fun x a' W => ∃ Bx, W.heap[Bx]? = some (.cells #[.int .i64 x.1, .int .i64 x.2] 42 (0, 0)) ∧ a' = { tmps := #[.slice A1 a.length c1, .slice A2 b.length c2, undef, undef, .slice none 0 0, .pointer (some ⟨w.heap.size, 0, none⟩), .pointer (some ⟨Bx, 0, none⟩), .slice A2 b.length c2, .slice A3 Nb.length cap3, .func (.func 109) #[] #[.pointer (some ⟨w1.heap.size, 0, none⟩)], .agg #[.int .i64 x.1, .int .i64 x.2], undef, undef, undef, undef, undef, undef, undef], defers := [] })
    (fun x a' _ X Y row hs hg hr => by
      obtain ⟨Bx, hh, he⟩ := hs
      refine ⟨Bx, (hg.block Bx (Array.getElem?_eq_some_iff.1 hh).1 (fun e => ?_)).trans hh, he⟩
      obtain ⟨_, o, ho, hc⟩ := hr Bx e.symm
      rw [hh] at ho; cases ho; cases hc)
    ?assign ?body ?done ?stop
  case assign =>
    rintro l pre x W K ⟨⟨v, hv, hrow, _⟩, hB⟩ hK
    have HV := Lib.hid hv; have HRow := Lib.hid hrow; have HB := Lib.hid hB; have HK := Lib.hid hK; clear hv hrow hB hK
    gi_wp2
    exact HK.out _ _ ((KeepsOthers.alloc _ _).from _) ((KpB.refl _ _).alloc HV.out.lt _) ⟨⟨v, HV.out.alloc _, HRow.out.alloc _, trivial⟩, HB.out.alloc HB.out.size _⟩ ⟨W.heap.size, heap_alloc_new W _, rfl⟩
  case body =>
    rintro l pre x a' W hl ⟨r, hr⟩ ⟨⟨v, hv, hrow, _⟩, hB⟩ ⟨Bx, hX, rfl⟩ hlt
    have hc := hv.cell
    have x0 : W.cell? ⟨Bx, 0, none⟩ = some (.int .i64 x.1) := by simp [World.cell?, hX]
    have x1 : W.cell? ⟨Bx, 1, none⟩ = some (.int .i64 x.2) := by simp [World.cell?, hX]
    obtain ⟨i0, hi, hz0, hz1, hz2⟩ := info_parts info_span
    have hsW := hB.size
    have hWl : W0.heap.size ≤ W.heap.size := Nat.le_trans hl (Nat.le_of_lt (Array.getElem?_eq_some_iff.1 hr).1)
    clear hr
    have HRow := Lib.hid hrow; have HV := Lib.hid hv; have HB := Lib.hid hB; clear hrow hv hB hX
    have hn1 : pre.length ≤ 1000000000000 := by
      have := HO.out
      rw [← this] at hlt
      omega
    gi_wp2_with (gi_at_builtin; refine wpListIn_append_at _ rfl _ _ 40 rfl W0.heap.size 42 i0 (.agg #[.int .i64 0, .int .i64 0]) 2 16 Try.underlying40 hi hz0 hz1 hz2 rfl (by decide) _ _ _ rfl (HRow.out.alloc _) ⟨W.heap.size, 0, none⟩ 1 1 [.int .i64 x.1, .int .i64 x.2] rfl rfl (cells_new_at _ _ _ _ rfl) (by simp [Value.oneCell']) (by unfold maxLen; omega) (by omega) (by simp; omega) ?_; intro v' wA hown' hgrow hv'; obtain ⟨g', cap', rfl⟩ := ownsRow_succ hown'; obtain ⟨hv1, hk1, hk2, hk3, hk4, hk5⟩ := kp_appended HV.out (by decide) HRow.out hWl (by omega) hown' hgrow hv'; have hc1 := hv1.cell; have hf1 := hv1.frozen)
    exact ⟨hk1.from _, hk2, ⟨_, hk3, by rw [flat_snoc, List.length_append]; exact hk4, trivial⟩, (HB.out.trans hk5).setCell (by simp) _⟩
  case done =>
    rintro D ys W hD rfl ⟨⟨v, hv, hrow, _⟩, hB⟩ hK
    rw [← HO.out] at hrow
    obtain ⟨A5, cap5, rfl, _, _⟩ := own_form hrow
    have hc := hv.cell
    have HRow := Lib.hid hrow; have HB := Lib.hid hB; have HK := Lib.hid hK; clear hrow hB hK
    have hsW : w.heap.size ≤ W.heap.size := HB.out.size
    gi_wp2_with (refine ⟨trivial, ?_⟩; gi_at_call 39; refine (callsIn_wide.2 (and_any a O A1 A5 c1 cap5 _ ((H1.out.below HB.out).more hsW) (Rd.of_own encS_len HRow.out) l1 (by omega) HL2.out)).mono ?_; rw [← HR.out]; rintro e w5 ⟨A6, cap6, rfl, ho6, hb6⟩)
    have hK5 : w5.heap[D]? = some (.deferred (some [])) := (hb6.block D (Array.getElem?_eq_some_iff.1 HK.out).1).trans HK.out
    refine ⟨by simp, .inl ⟨_, _, rfl, run_takeDeferred hK5, ?_⟩⟩
    exact ⟨_, results_tmp rfl _ _ _, A6, cap6, rfl, ownsRow_putObj (own_base ho6 hsW) _ hK5 rfl, (HB.out.trans (hb6.mono hsW)).trans (belowK_b (w := w) (Nat.le_refl _) w5 D _ _ (by omega) hK5 rfl rfl)⟩
  case stop =>
    rintro D c pre W _ _ h _
    exact h.elim
end Go.Proofs.Ytnhmibfgaoealaa
