/-
  breaks.Paid by contract.
-/
import Derived.Test.YtnhmibfgaoealaaKf
namespace Go.Proofs.Ytnhmibfgaoealaa
open Go.RowKit BigFrame
set_option linter.unusedVariables false
set_option linter.unusedSimpArgs false

def Ret2R (w : World) (R1 R2 : List Sp.S) (e : Ending) (w' : World) : Prop := ∃ A1 c1 A2 c2, e = .returned (.tuple #[.slice A1 R1.length c1, .slice A2 R2.length c2]) ∧ (Rs w' A1 R1 ∧ Rs w' A2 R2) ∧ Ext w w' ∧ True
theorem results_cell2 {fn : Func} {p q : Tmp} (h : fn.results = #[.cell p 40, .cell q 40]) (tmps : Array Value) (w : World) (g1 g2 : Nat) (v1 v2 : Value)
    (hp : tmps.getD p undef = .pointer (some ⟨g1, 0, none⟩)) (hq : tmps.getD q undef = .pointer (some ⟨g2, 0, none⟩)) (hc : w.cell? ⟨g1, 0, none⟩ = some v1) (hd : w.cell? ⟨g2, 0, none⟩ = some v2) : (results fn tmps).run Try.prog w = .ok (.tuple #[v1, v2]) w := by
  have hp' : tmps[p]?.getD undef = .pointer (some ⟨g1, 0, none⟩) := by simpa using hp
  have hq' : tmps[q]?.getD undef = .pointer (some ⟨g2, 0, none⟩) := by simpa using hq
  have u := Try.underlying40
  simp [results, h, hp', hq', asAddr]
  go_simp
theorem Rn.at_move2 {w w' : World} {A : Option Addr} {l : List Int} {B n₀ : Nat} {t : TypeId} {v u : Value} (h : Rn w A l) (hn : w.heap.size ≤ n₀) (hb : Boxed w B t v) (hb2 : Boxed w (B + 1) t u) (hv : ∀ k n, v ≠ .int k n) (hu : ∀ k n, u ≠ .int k n) (hm : Below B w w') (hr : Mid (B + 2) n₀ w w') {j : Nat} (hj : j < l.length) :
    ∃ b off p, A = some ⟨b, off, none⟩ ∧ Hid (l[j]? = some p) ∧ w'.cell? ⟨b, off + j, none⟩ = some (.int .i64 p) := by
  obtain ⟨b, off, p, rfl, hlt, hx, hc⟩ := Rd.atN h (Ext.refl w) hj
  refine ⟨b, off, p, rfl, hx, ?_⟩
  have no : ∀ (B : Nat) (v : Value), Boxed w B t v → (∀ k n, v ≠ .int k n) → b ≠ B := by
    intro B v hb hv e
    subst e
    have hc0 : (World.cell? w ⟨b, off + j, none⟩) = (#[v] : Array Value)[off + j]? := by simp [World.cell?, show w.heap[b]? = _ from hb]
    rw [hc] at hc0
    by_cases h0 : off + j = 0
    · rw [h0] at hc0; simp at hc0; exact absurd hc0.symm (hv _ _)
    · rw [Array.getElem?_eq_none (by simp; omega)] at hc0; cases hc0
  have n1 := no B v hb hv
  have n2 := no (B + 1) u hb2 hu
  by_cases h1 : b < B
  · exact (hm.cell (p := ⟨b, off + j, none⟩) h1).trans hc
  · exact (hr.cell (p := ⟨b, off + j, none⟩) (by show B + 2 ≤ b; omega) (by show b < n₀; omega)).trans hc
theorem fmap_snoc {α : Type} (f : α → List Sp.S) (l : List α) (x : α) : (l ++ [x]).flatMap f = l.flatMap f ++ f x := by simp

theorem paid_done {w wr w5 w6 : World} {A5 A6 Ap An : Option Addr} {c5 c6 n1 n2 cp cn : Nat} {P N : List Sp.S} (X5 : Ext w wr) (x5 : Ext wr.drew w5) (x6 : Ext w5 w6) (hp : Boxed wr (w.heap.size + 2) 40 (.slice Ap n1 cp)) (hn : Boxed wr (w.heap.size + 3) 40 (.slice An n2 cn)) (hle : w.heap.size + 3 < wr.heap.size)
    (o5 : w5.ownsRow wr.drew.heap.size 42 2 (.slice A5 P.length c5) P.length (flat encS P)) (o6 : w6.ownsRow w5.heap.size 42 2 (.slice A6 N.length c6) N.length (flat encS N)) :
    ((w6.setCell ⟨w.heap.size + 2, 0, none⟩ (.slice A5 P.length c5)).setCell ⟨w.heap.size + 3, 0, none⟩ (.slice A6 N.length c6)).cell? ⟨w.heap.size + 2, 0, none⟩ = some (.slice A5 P.length c5) ∧ ((w6.setCell ⟨w.heap.size + 2, 0, none⟩ (.slice A5 P.length c5)).setCell ⟨w.heap.size + 3, 0, none⟩ (.slice A6 N.length c6)).cell? ⟨w.heap.size + 3, 0, none⟩ = some (.slice A6 N.length c6) ∧
    Rs ((w6.setCell ⟨w.heap.size + 2, 0, none⟩ (.slice A5 P.length c5)).setCell ⟨w.heap.size + 3, 0, none⟩ (.slice A6 N.length c6)) A5 P ∧ Rs ((w6.setCell ⟨w.heap.size + 2, 0, none⟩ (.slice A5 P.length c5)).setCell ⟨w.heap.size + 3, 0, none⟩ (.slice A6 N.length c6)) A6 N ∧
    Ext w ((w6.setCell ⟨w.heap.size + 2, 0, none⟩ (.slice A5 P.length c5)).setCell ⟨w.heap.size + 3, 0, none⟩ (.slice A6 N.length c6)) := by
  have hte : 40 ≠ 42 := by decide
  have X : Ext wr w6 := (((Ext.refl wr).drewN 1).trans x5).trans x6
  have hp6 : Boxed w6 (w.heap.size + 2) 40 _ := (X.block _ hp.lt).trans hp
  have hn6 : Boxed w6 (w.heap.size + 3) 40 _ := (X.block _ hn.lt).trans hn
  have o56 := own_below o5 x6
  have hp7 := hp6.set (.slice A5 P.length c5)
  have hn7 : Boxed (w6.setCell ⟨w.heap.size + 2, 0, none⟩ (.slice A5 P.length c5)) (w.heap.size + 3) 40 _ := hn6.other (by omega) _
  have a7 := o56.kept (grownBy_setCell' w6 (w.heap.size + 2) (.slice A5 P.length c5)) (.inr (hp6.not_row hte o56).symm)
  have b7 := o6.kept (grownBy_setCell' w6 (w.heap.size + 2) (.slice A5 P.length c5)) (.inr (hp6.not_row hte o6).symm)
  have a8 := a7.kept (grownBy_setCell' _ (w.heap.size + 3) (.slice A6 N.length c6)) (.inr (hn7.not_row hte a7).symm)
  have b8 := b7.kept (grownBy_setCell' _ (w.heap.size + 3) (.slice A6 N.length c6)) (.inr (hn7.not_row hte b7).symm)
  exact ⟨(hp7.other (by omega) _).cell, (hn7.set _).cell, Rs.own a8, Rs.own b8, ((X5.trans X).setCell (p := ⟨w.heap.size + 2, 0, none⟩) (by show w.heap.size ≤ w.heap.size + 2; omega) _).setCell (p := ⟨w.heap.size + 3, 0, none⟩) (by show w.heap.size ≤ w.heap.size + 3; omega) _⟩
set_option maxRecDepth 100000 in
set_option maxHeartbeats 2000000 in
theorem paidA (cs : List Value) (hcs : cs.length = 23) (l : List SegL) (A : Option Addr) (c : Nat) (hl : l.length ≤ 100) (pd nd : Int → List Sp.S) (bpn : ∀ d, (pd d).length ≤ 900 ∧ (nd d).length ≤ 900) (w : World) (h : Rg w A l)
    (kO : ∀ W, Ext w W → ∀ d, Calls Try.prog 68 #[.agg cs.toArray, .slice A l.length c, .int .i64 d] W (Ret2S W (pd d) (nd d))) :
    Calls Try.prog 66 #[.agg cs.toArray, .slice A l.length c] w (Ret2R w (Sp.norm ((daysL (Sp.norm (clockL l))).flatMap pd)) (Sp.norm ((daysL (Sp.norm (clockL l))).flatMap nd))) := by
  have hi := Lib.hid (su_size hcs)
  have hDl := days_len (clockL l)
  have kc := fun (w : World) (A : Option Addr) (c : Nat) (h : Rs w A (clockL l)) => cDays h (by have := clock_len l; omega : (clockL l).length ≤ 900000) c
  obtain ⟨D, hD⟩ : ∃ D, daysL (Sp.norm (clockL l)) = D := ⟨_, rfl⟩
  rw [hD] at hDl kc ⊢
  clear hD
  have hPk : ∀ k, ((D.take k).flatMap pd).length ≤ 900000 := fun k => by
    have h1 := flatMap_len pd 900 (D.take k) fun d _ => (bpn d).1
    have h2 : (D.take k).length ≤ 371 := Nat.le_trans (List.length_take_le' _ _) hDl
    omega
  have hNk : ∀ k, ((D.take k).flatMap nd).length ≤ 900000 := fun k => by
    have h1 := flatMap_len nd 900 (D.take k) fun d _ => (bpn d).2
    have h2 : (D.take k).length ≤ 371 := Nat.le_trans (List.length_take_le' _ _) hDl
    omega
  replace kc := Lib.hid kc; replace kO := Lib.hid kO; replace h := Lib.hid h; replace hPk := Lib.hid hPk; replace hNk := Lib.hid hNk; replace bpn := Lib.hid bpn
  have hs0 : Bx ((((w.alloc (.cells cs.toArray 35)).alloc (.cells #[.slice A l.length c] 69)).alloc (.cells #[.slice none 0 0] 40)).alloc (.cells #[.slice none 0 0] 40)) w.heap.size cs 35 := (((Bx.new w cs 35).alloc _).alloc _).alloc _
  have hg0 : Boxed ((((w.alloc (.cells cs.toArray 35)).alloc (.cells #[.slice A l.length c] 69)).alloc (.cells #[.slice none 0 0] 40)).alloc (.cells #[.slice none 0 0] 40)) (w.heap.size + 1) 69 (.slice A l.length c) := by have := ((Boxed.new (w.alloc (.cells cs.toArray 35)) 69 (.slice A l.length c)).alloc (.cells #[.slice none 0 0] 40)).alloc (.cells #[.slice none 0 0] 40); simpa using this
  have hp0 : Boxed ((((w.alloc (.cells cs.toArray 35)).alloc (.cells #[.slice A l.length c] 69)).alloc (.cells #[.slice none 0 0] 40)).alloc (.cells #[.slice none 0 0] 40)) (w.heap.size + 2) 40 (.slice none 0 0) := by have := (Boxed.new ((w.alloc (.cells cs.toArray 35)).alloc (.cells #[.slice A l.length c] 69)) 40 (.slice none 0 0)).alloc (.cells #[.slice none 0 0] 40); simpa using this
  have hn0 : Boxed ((((w.alloc (.cells cs.toArray 35)).alloc (.cells #[.slice A l.length c] 69)).alloc (.cells #[.slice none 0 0] 40)).alloc (.cells #[.slice none 0 0] 40)) (w.heap.size + 3) 40 (.slice none 0 0) := by have := Boxed.new (((w.alloc (.cells cs.toArray 35)).alloc (.cells #[.slice A l.length c] 69)).alloc (.cells #[.slice none 0 0] 40)) 40 (.slice none 0 0); simpa using this
  have X0 := ((((Ext.refl w).alloc (.cells cs.toArray 35)).alloc (.cells #[.slice A l.length c] 69)).alloc (.cells #[.slice none 0 0] 40)).alloc (.cells #[.slice none 0 0] 40)
  have cg := hg0.cell
  go_enter Try.func66, Try.ntmps66
  go_wp2_with fail
  refine (pClock (h.out.ext X0) (by omega) _).mono ?_
  rintro e w1 ⟨A1, c1, rfl, r1, x1, _⟩
  go_wp2_with fail
  refine (kc.out _ _ _ r1).mono ?_
  rintro e w2 ⟨A2, c2, rfl, r2, x2, _⟩
  have x12 := x1.trans x2
  have X2 := X0.trans x12
  have hs2 := Lib.hid (hs0.ext x12)
  have hg2 : Hid (Boxed w2 (w.heap.size + 1) 69 _) := (x12.block _ hg0.lt).trans hg0
  have hp2 : Hid (Boxed w2 (w.heap.size + 2) 40 _) := (x12.block _ hp0.lt).trans hp0
  have hn2 : Hid (Boxed w2 (w.heap.size + 3) 40 _) := (x12.block _ hn0.lt).trans hn0
  have hBn : w.heap.size + 3 < w2.heap.size := hn2.out.lt
  clear hs0 hg0 hp0 hn0 cg x12 x1 x2 X0
  go_wp2_with fail
  go_loopw [15] (fun i wr => ∃ (k : Nat) (vp vn : Value), k ≤ D.length ∧ i = .int .i64 k ∧ Hid (Boxed wr (w.heap.size + 2) 40 vp) ∧ Hid (Boxed wr (w.heap.size + 3) 40 vn) ∧ Hid (wr.ownsRow w2.heap.size 42 2 vp ((D.take k).flatMap pd).length (flat encS ((D.take k).flatMap pd))) ∧ Hid (wr.ownsRow w2.heap.size 42 2 vn ((D.take k).flatMap nd).length (flat encS ((D.take k).flatMap nd))) ∧ Hid (Apart vn vp) ∧ Hid (Below (w.heap.size + 2) w2 wr) ∧ Hid (Mid (w.heap.size + 4) w2.heap.size w2 wr)) (fun i _ => D.length - (intOf i).toNat)
  case atStart => exact ⟨0, _, _, Nat.zero_le _, rfl, hp2, hn2, own_nil _ _, own_nil _ _, .inl rfl, Below.refl _ _, Mid.refl _ _ _⟩
  case round =>
    obtain ⟨k, vp, vn, hk, rfl, HP, HN, OP, ON, AP, HM, HR⟩ := hrel
    have X5 : Ext w wr := Below.trans X2 (Below.mono HM.out (by omega))
    by_cases hlt : k < D.length
    · obtain ⟨b, off, d, rfl, hx, c0⟩ := Rn.at_move2 r2 (Nat.le_refl _) hp2.out hn2.out (fun _ _ h => by cases h) (fun _ _ h => by cases h) HM.out HR.out hlt
      have hq0 : (0 : Int) ≤ (k : Int) := by omega
      have hq1 : (k : Int) < (D.length : Int) := by omega
      have E1 : Hid ((D.take (k + 1)).flatMap pd = (D.take k).flatMap pd ++ pd d) := by show _ = _; rw [take_snoc hx.out, fmap_snoc]
      have E2 : Hid ((D.take (k + 1)).flatMap nd = (D.take k).flatMap nd ++ nd d) := by show _ = _; rw [take_snoc hx.out, fmap_snoc]
      go_wp2_with fail
      refine (bput cs hcs l A c w2.heap.size w.heap.size (w.heap.size + 1) (w.heap.size + 2) (w.heap.size + 3) _ _ (pd d) (nd d) vp vn d wr ((HM.out.block w.heap.size (by omega)).trans hs2.out) ((HM.out.block (w.heap.size + 1) (by omega)).trans hg2.out) (h.out.ext X5) HP.out HN.out OP.out ON.out AP.out (by omega) hBn HR.out.size (by have := hPk.out k; omega) (by have := hNk.out k; omega) (by have := (bpn.out d).1; omega) (by have := (bpn.out d).2; omega) (kO.out wr X5 d)).mono ?_
      rintro e w5 ⟨⟨r, rfl⟩, vp5, vn5, hp5, hn5, op5, on5, ap5, m1, m2⟩
      rw [← E1.out] at op5; rw [← E2.out] at on5
      replace hp5 := Lib.hid hp5; replace hn5 := Lib.hid hn5; replace op5 := Lib.hid op5; replace on5 := Lib.hid on5; replace ap5 := Lib.hid ap5
      have m3 := Lib.hid (HM.out.trans m1); have m4 := Lib.hid (HR.out.trans m2)
      clear m1 m2 HP HN OP ON AP HM HR X5
      go_wp2
      go_roundw
      case rel => exact ⟨k + 1, vp5, vn5, by omega, by go_num, hp5, hn5, op5, on5, ap5, m3, m4⟩
      case measure => simp [intOf]; omega
    · obtain rfl : k = D.length := by omega
      have lP := hPk.out D.length
      have lN := hNk.out D.length
      rw [List.take_length] at OP ON lP lN
      obtain ⟨P, hP⟩ : ∃ P, D.flatMap pd = P := ⟨_, rfl⟩
      obtain ⟨N, hN⟩ : ∃ N, D.flatMap nd = N := ⟨_, rfl⟩
      rw [hP] at OP lP; rw [hN] at ON lN
      replace hP := Lib.hid hP; replace hN := Lib.hid hN
      obtain ⟨Ap, cp, rfl, _, _⟩ := own_form OP.out
      obtain ⟨An, cn, rfl, _, _⟩ := own_form ON.out
      have kp := HP.out.cell
      have kn := HN.out.cell
      have hr : w2.heap.size ≤ wr.heap.size := HR.out.size
      have rP : Hid (Rs wr Ap P) := Rs.own OP.out
      have rN : Hid (Rs wr An N) := Rs.own ON.out
      clear HM HR AP hs2 hg2 r2 hPk hNk
      go_wp2_with fail
      refine held_start (S := fun _ => True) 6 rfl (by kernel_rfl) ?_
      refine held_two (i := 0) (j := 2) rfl rfl (by kernel_rfl) rfl rfl ?_ ?_
      · go_wp2_with fail
        refine held_two (i := 1) (j := 2) rfl rfl (by kernel_rfl) rfl rfl ?_ ?_
        · go_wp2_with fail
          refine (cNorm (Rs.drewN rP.out 1) lP _).mono ?_
          rintro e w5 ⟨A5, c5, rfl, r5, x5, o5⟩
          have kp5 := (x5.cell (p := ⟨w.heap.size + 2, 0, none⟩) HP.out.lt).trans kp
          have kn5 := (x5.cell (p := ⟨w.heap.size + 3, 0, none⟩) HN.out.lt).trans kn
          have rN5 := rN.out.ext (((Ext.refl wr).drewN 1).trans x5)
          refine held_all (i := 2) rfl (by kernel_rfl) rfl ?_
          go_wp2_with fail
          refine held_all (i := 3) rfl (by kernel_rfl) rfl ?_
          go_wp2_with fail
          refine (cNorm rN5 lN _).mono ?_
          rintro e w6 ⟨A6, c6, rfl, r6, x6, o6⟩
          have D6 := Lib.hid (paid_done X5 x5 x6 HP.out HN.out (by omega) o5 o6)
          have hp6 : Boxed w6 (w.heap.size + 2) 40 _ := ((((Ext.refl wr).drewN 1).trans x5).trans x6).block _ HP.out.lt |>.trans HP.out
          have hn6 : Boxed w6 (w.heap.size + 3) 40 _ := ((((Ext.refl wr).drewN 1).trans x5).trans x6).block _ HN.out.lt |>.trans HN.out
          have kp6 := hp6.cell
          have kn6 := hn6.cell
          have zp6 := hp6.frozen
          have zn6 := hn6.frozen
          clear hp6 hn6
          refine held_all (i := 4) rfl (by kernel_rfl) rfl ?_
          go_wp2_with fail
          refine held_all (i := 5) rfl (by kernel_rfl) rfl ?_
          go_wp2_with fail
          refine held_done (by kernel_rfl) ?_ _
          go_wp2
          refine bodyPost_ret (results_cell2 rfl _ _ (w.heap.size + 2) (w.heap.size + 3) _ _ rfl rfl D6.out.1 D6.out.2.1) rfl ⟨A5, c5, A6, c6, by rw [hP.out, hN.out], ⟨by rw [hP.out]; exact D6.out.2.2.1, by rw [hN.out]; exact D6.out.2.2.2.1⟩, D6.out.2.2.2.2, trivial⟩
        · go_wp2_with fail
          refine held_all (i := 1) rfl (by kernel_rfl) rfl ?_
          go_wp2_with fail
          refine (cNorm (Rs.drewN rP.out 1) lP _).mono ?_
          rintro e w5 ⟨A5, c5, rfl, r5, x5, o5⟩
          have kp5 := (x5.cell (p := ⟨w.heap.size + 2, 0, none⟩) HP.out.lt).trans kp
          have kn5 := (x5.cell (p := ⟨w.heap.size + 3, 0, none⟩) HN.out.lt).trans kn
          have rN5 := rN.out.ext (((Ext.refl wr).drewN 1).trans x5)
          refine held_all (i := 3) rfl (by kernel_rfl) rfl ?_
          go_wp2_with fail
          refine (cNorm rN5 lN _).mono ?_
          rintro e w6 ⟨A6, c6, rfl, r6, x6, o6⟩
          have D6 := Lib.hid (paid_done X5 x5 x6 HP.out HN.out (by omega) o5 o6)
          have hp6 : Boxed w6 (w.heap.size + 2) 40 _ := ((((Ext.refl wr).drewN 1).trans x5).trans x6).block _ HP.out.lt |>.trans HP.out
          have hn6 : Boxed w6 (w.heap.size + 3) 40 _ := ((((Ext.refl wr).drewN 1).trans x5).trans x6).block _ HN.out.lt |>.trans HN.out
          have kp6 := hp6.cell
          have kn6 := hn6.cell
          have zp6 := hp6.frozen
          have zn6 := hn6.frozen
          clear hp6 hn6
          refine held_all (i := 4) rfl (by kernel_rfl) rfl ?_
          go_wp2_with fail
          refine held_all (i := 5) rfl (by kernel_rfl) rfl ?_
          go_wp2_with fail
          refine held_done (by kernel_rfl) ?_ _
          go_wp2
          refine bodyPost_ret (results_cell2 rfl _ _ (w.heap.size + 2) (w.heap.size + 3) _ _ rfl rfl D6.out.1 D6.out.2.1) rfl ⟨A5, c5, A6, c6, by rw [hP.out, hN.out], ⟨by rw [hP.out]; exact D6.out.2.2.1, by rw [hN.out]; exact D6.out.2.2.2.1⟩, D6.out.2.2.2.2, trivial⟩
      · go_wp2_with fail
        refine held_all (i := 0) rfl (by kernel_rfl) rfl ?_
        go_wp2_with fail
        refine held_all (i := 1) rfl (by kernel_rfl) rfl ?_
        go_wp2_with fail
        refine (cNorm (Rs.drewN rP.out 1) lP _).mono ?_
        rintro e w5 ⟨A5, c5, rfl, r5, x5, o5⟩
        have kp5 := (x5.cell (p := ⟨w.heap.size + 2, 0, none⟩) HP.out.lt).trans kp
        have kn5 := (x5.cell (p := ⟨w.heap.size + 3, 0, none⟩) HN.out.lt).trans kn
        have rN5 := rN.out.ext (((Ext.refl wr).drewN 1).trans x5)
        refine held_all (i := 3) rfl (by kernel_rfl) rfl ?_
        go_wp2_with fail
        refine (cNorm rN5 lN _).mono ?_
        rintro e w6 ⟨A6, c6, rfl, r6, x6, o6⟩
        have D6 := Lib.hid (paid_done X5 x5 x6 HP.out HN.out (by omega) o5 o6)
        have hp6 : Boxed w6 (w.heap.size + 2) 40 _ := ((((Ext.refl wr).drewN 1).trans x5).trans x6).block _ HP.out.lt |>.trans HP.out
        have hn6 : Boxed w6 (w.heap.size + 3) 40 _ := ((((Ext.refl wr).drewN 1).trans x5).trans x6).block _ HN.out.lt |>.trans HN.out
        have kp6 := hp6.cell
        have kn6 := hn6.cell
        have zp6 := hp6.frozen
        have zn6 := hn6.frozen
        clear hp6 hn6
        refine held_all (i := 4) rfl (by kernel_rfl) rfl ?_
        go_wp2_with fail
        refine held_all (i := 5) rfl (by kernel_rfl) rfl ?_
        go_wp2_with fail
        refine held_done (by kernel_rfl) ?_ _
        go_wp2
        refine bodyPost_ret (results_cell2 rfl _ _ (w.heap.size + 2) (w.heap.size + 3) _ _ rfl rfl D6.out.1 D6.out.2.1) rfl ⟨A5, c5, A6, c6, by rw [hP.out, hN.out], ⟨by rw [hP.out]; exact D6.out.2.2.1, by rw [hN.out]; exact D6.out.2.2.2.1⟩, D6.out.2.2.2.2, trivial⟩

end Go.Proofs.Ytnhmibfgaoealaa
