/-
  Words for layer 14: the spans of a day that are by night, the nights put one behind the other.
-/
import Derived.Test.YtnhmibfgaoealaaCv
import Derived.Test.YtnhmibfgaoealaaDb
import Derived.Test.YtnhmibfgaoealaaTw
import Derived.Test.YtnhmibfgaoealaaPz
namespace Go.Proofs.Ytnhmibfgaoealaa
open Go.RowKit
set_option linter.unusedVariables false
set_option linter.unusedSimpArgs false

/-- What a call leaves that hands back a slice of spans. -/
def RetR (w : World) (R : List Sp.S) (e : Ending) (w' : World) : Prop := ∃ A cap, e = .returned (.slice A R.length cap) ∧ Rs w' A R ∧ Ext w w'

def RetW (w : World) (R : List Sp.S) (e : Ending) (w' : World) : Prop := ∃ g cap, e = .returned (.slice (some ⟨g, 0, none⟩) R.length cap) ∧ Rs w' (some ⟨g, 0, none⟩) R ∧ Ext w w' ∧ w.heap.size ≤ g
set_option maxRecDepth 100000 in
theorem windowsA (v_pl v_wy v_p1 v_p2 v_el v_cl v_ge v_al v_un v_ca v_pb v_aa v_ab v_dr v_do v_wr v_ra v_di v_le v_fa v_ti : Value) (F T : Int) (w : World) : Calls Try.prog 86 #[.agg #[v_pl, v_wy, v_p1, v_p2, v_el, v_cl, v_ge, v_al, v_un, v_ca, v_pb, v_aa, v_ab, v_dr, v_do, v_wr, .int .i64 F, .int .i64 T, v_ra, v_di, v_le, v_fa, v_ti]] w (RetW w (winds F T)) := by
  by_cases h : T < F
  · have e : winds F T = [(0, T), (F, 86400)] := if_pos h
    rw [e]
    go_enter Try.func86, Try.ntmps86
    go_wp2
    go_ret
    exact ⟨_, 2, rfl, Rs.new_g _ [(0, T), (F, 86400)] _ _ (by simp), ((Ext.refl w).alloc _).alloc _, by omega⟩
  · have e : winds F T = [(F, T)] := if_neg h
    rw [e]
    have f1 : decide (T < F) = false := decide_eq_false h
    go_enter Try.func86, Try.ntmps86
    go_wp2
    go_ret
    exact ⟨_, 1, rfl, Rs.new_g _ [(F, T)] _ _ (by simp), ((Ext.refl w).alloc _).alloc _, by omega⟩

theorem Rs.moved {w w' : World} {A : Option Addr} {l : List Sp.S} {row : Option Nat} (h : Rs w A l) (hg : w.grownBy w' row) (hne : ∀ b off, A = some ⟨b, off, none⟩ → some b ≠ row) : Rs w' A l := fun hl => by
  obtain ⟨b, off, hA, hb, hc⟩ := h hl
  exact ⟨b, off, hA, Nat.lt_of_lt_of_le hb hg.size, fun j hj i u hu => hg.cell (hc j hj i u hu) (hne b off hA)⟩

theorem nput_done {W w1 : World} {n₀ B k m : Nat} {v v' : Value} {xs ys : List Value} {tmp : Obj} (hv : Boxed W B 40 v) (hrow : W.ownsRow n₀ 42 2 v k xs) (hn₀ : n₀ ≤ W.heap.size) (hB : B < n₀)
    (hown' : w1.ownsRow n₀ 42 2 v' m ys) (hgrow : (W.alloc tmp).grownBy w1 v.ownBlock) :
    Boxed w1 B 40 v ∧ Boxed (w1.setCell ⟨B, 0, none⟩ v') B 40 v' ∧ (w1.setCell ⟨B, 0, none⟩ v').ownsRow n₀ 42 2 v' m ys ∧ (Below B W (w1.setCell ⟨B, 0, none⟩ v') ∧ Mid (B + 1) n₀ W (w1.setCell ⟨B, 0, none⟩ v')) := by
  have hte : 40 ≠ 42 := by decide
  have hv1 : Boxed w1 B 40 v := (hv.alloc tmp).kept hgrow (hv.not_row hte hrow)
  have hr : ∀ g, v.ownBlock = some g → n₀ ≤ g := fun g hg => (hrow.lt g hg).1
  exact ⟨hv1, hv1.set v', hown'.kept (grownBy_setCell' w1 B v') (.inr (hv1.not_row hte hown').symm),
    (((Below.refl B W).alloc (by omega) tmp).grown hgrow (by simp; omega) fun g hg => by have := hr g hg; omega).setCell (p := ⟨B, 0, none⟩) (Nat.le_refl _) v',
    (((Mid.refl (B + 1) n₀ W).alloc hn₀ tmp).grown hn₀ hgrow fun g hg => .inr (hr g hg)).grown hn₀ (grownBy_setCell' w1 B v') fun g hg => by cases hg; exact .inl (Nat.lt_succ_self _)⟩

def nK (d : Int) (l : List Sp.S) : List Sp.S := (l.filter fun w => decide (w.1 < w.2)).map fun w => (d * 86400 + w.1, d * 86400 + w.2)
theorem nK_winds (F T d : Int) : nights1 F T d = nK d (winds F T) := rfl
theorem nK_yes {d : Int} {l : List Sp.S} {x : Sp.S} (h : x.1 < x.2) : nK d (l ++ [x]) = nK d l ++ [(d * 86400 + x.1, d * 86400 + x.2)] := by
  unfold nK; rw [List.filter_append, List.map_append]; simp [h]
theorem nK_no {d : Int} {l : List Sp.S} {x : Sp.S} (h : ¬ x.1 < x.2) : nK d (l ++ [x]) = nK d l := by
  unfold nK; rw [List.filter_append, List.map_append]; simp [h]
theorem winds_bd {F T : Int} (h : okNT F T) : (winds F T).length ≤ 2 ∧ ∀ s ∈ winds F T, (0 ≤ s.1 ∧ s.1 ≤ 86400) ∧ 0 ≤ s.2 ∧ s.2 ≤ 86400 := by
  unfold okNT at h
  unfold winds
  split
  · refine ⟨by simp, fun s hs => ?_⟩
    simp at hs
    rcases hs with rfl | rfl
    · exact ⟨⟨by omega, by omega⟩, by show 0 ≤ T; omega, by show T ≤ 86400; omega⟩
    · exact ⟨⟨by show 0 ≤ F; omega, by show F ≤ 86400; omega⟩, by omega, by omega⟩
  · refine ⟨by simp, fun s hs => ?_⟩
    simp at hs
    subst hs
    exact ⟨⟨by show 0 ≤ F; omega, by show F ≤ 86400; omega⟩, by show 0 ≤ T; omega, by show T ≤ 86400; omega⟩
theorem own_boxed {w : World} {n₀ g : Nat} {v : Value} {m : Nat} {xs : List Value} (h : w.ownsRow n₀ 42 2 v m xs) (hg : w.heap.size ≤ g) : some g ≠ v.ownBlock := fun e => by
  have := (h.lt g e.symm).2; omega

set_option maxRecDepth 100000 in
set_option maxHeartbeats 1000000 in
theorem nput (v_pl v_wy v_p1 v_p2 v_el v_cl v_ge v_al v_un v_ca v_pb v_aa v_ab v_dr v_do v_wr v_ra v_di v_le v_fa v_ti : Value) (F T : Int) (hFT : okNT F T) (n₀ B C : Nat) (out : List Sp.S) (v : Value) (d : Int) (d0 : 0 ≤ d) (d1 : d ≤ 370) (w : World) (hs : Bx w C [v_pl, v_wy, v_p1, v_p2, v_el, v_cl, v_ge, v_al, v_un, v_ca, v_pb, v_aa, v_ab, v_dr, v_do, v_wr, .int .i64 F, .int .i64 T, v_ra, v_di, v_le, v_fa, v_ti] 35) (hC : C < B)
    (hv : Boxed w B 40 v) (hown : w.ownsRow n₀ 42 2 v out.length (flat encS out)) (hn₀ : n₀ ≤ w.heap.size) (hB : B < n₀) (hl : out.length ≤ 1000) :
    Calls Try.prog 85 #[.int .i64 d, .pointer (some ⟨C, 0, none⟩), .pointer (some ⟨B, 0, none⟩)] w fun e w' => (∃ r, e = .returned r) ∧ ∃ v', Boxed w' B 40 v' ∧ w'.ownsRow n₀ 42 2 v' (out ++ nights1 F T d).length (flat encS (out ++ nights1 F T d)) ∧ Below B w w' ∧ Mid (B + 1) n₀ w w' := by
  rw [nK_winds]
  have kW := fun w => windowsA v_pl v_wy v_p1 v_p2 v_el v_cl v_ge v_al v_un v_ca v_pb v_aa v_ab v_dr v_do v_wr v_ra v_di v_le v_fa v_ti F T w
  obtain ⟨L, hL, lL, bL⟩ : ∃ L, winds F T = L ∧ L.length ≤ 2 ∧ Hid (∀ s ∈ L, (0 ≤ s.1 ∧ s.1 ≤ 86400) ∧ 0 ≤ s.2 ∧ s.2 ≤ 86400) := ⟨_, rfl, (winds_bd hFT).1, (winds_bd hFT).2⟩
  rw [hL] at kW ⊢
  replace kW := Lib.hid kW; replace hv := Lib.hid hv; replace hown := Lib.hid hown; replace hs := Lib.hid hs
  clear hL hFT
  go_enter Try.func85, Try.ntmps85
  go_wp2_with (first | (refine load_box rfl 35 _ rfl _ rfl _ _ hs.out _ Try.underlying35 rfl (by kernel_rfl) ?_))
  refine (kW.out _).mono ?_
  rintro e w1 ⟨g1, cap1, rfl, r1, x1, hg1⟩
  have hw1 : w.heap.size ≤ w1.heap.size := x1.size
  go_wp2_with fail
  go_loopw [9] (fun i wr => ∃ (k : Nat) (v : Value), k ≤ L.length ∧ i = .int .i64 k ∧ Hid (Boxed wr B 40 v) ∧ Hid (wr.ownsRow n₀ 42 2 v (out ++ nK d (L.take k)).length (flat encS (out ++ nK d (L.take k)))) ∧ Hid (Below B w wr) ∧ Hid (Mid (B + 1) n₀ w wr) ∧ Hid (Rs wr (some ⟨g1, 0, none⟩) L) ∧ Hid (some g1 ≠ v.ownBlock) ∧ (out ++ nK d (L.take k)).length ≤ 1000 + k) (fun i _ => L.length - (intOf i).toNat)
  case atStart => exact ⟨0, v, Nat.zero_le _, rfl, (x1.block B hv.out.lt).trans hv.out, (by show World.ownsRow _ _ _ _ _ _ _; rw [show out ++ nK d (L.take 0) = out from by simp [nK]]; exact own_below hown.out x1), Below.mono x1 (by omega), (Mid.refl _ _ _).below hn₀ x1, r1, own_boxed hown.out hg1, by simp [nK]; omega⟩
  case round =>
    clear hv hown
    obtain ⟨k, v, hk, rfl, HV, HO, HM, HR, HW, HN, lk⟩ := hrel
    by_cases hlt : k < L.length
    · obtain ⟨O, hO⟩ : ∃ O, out ++ nK d (L.take k) = O := ⟨_, rfl⟩
      rw [hO] at HO lk
      replace hO := Lib.hid hO
      obtain ⟨A2, cap2, rfl, _, _⟩ := own_form HO.out
      obtain ⟨b, off, p, q, hA, hbB, hx, c0, c1⟩ := Rd.atS HW.out (Ext.refl wr) hlt
      cases hA
      rw [Nat.zero_add] at c0 c1
      have hb := bL.out (p, q) (List.mem_of_getElem? hx.out)
      obtain ⟨⟨p0, p1⟩, q0, q1⟩ : (0 ≤ p ∧ p ≤ 86400) ∧ 0 ≤ q ∧ q ≤ 86400 := hb
      have hBr := HV.out.lt
      have cB := HV.out.cell
      have zB := HV.out.frozen
      have hwr : w.heap.size ≤ wr.heap.size := HR.out.size
      by_cases hpq : p < q
      · have E : Hid (nK d (L.take (k + 1)) = nK d (L.take k) ++ [(d * 86400 + p, d * 86400 + q)]) := by show _ = _; rw [take_snoc hx.out]; exact nK_yes hpq
        have hVa := Lib.hid (HV.out.alloc (.cells #[.int .i64 p, .int .i64 q] 42))
        have hOa := Lib.hid (HO.out.alloc (.cells #[.int .i64 p, .int .i64 q] 42))
        go_wp2_with (at_builtin; refine app_spans _ _ _ rfl rfl n₀ O.length _ O [(d * 86400 + p, d * 86400 + q)] rfl (hOa.out.alloc _) _ 1 rfl (Rs.new_g _ [(d * 86400 + p, d * 86400 + q)] _ _ (by simp)) (by simp only [List.length_cons, List.length_nil]; omega) (by simp; omega) ?_; intro v' w5 hown' hgrow hob; obtain ⟨A', cap', rfl, _, _⟩ := own_form hown'; obtain ⟨b1, b2, b3, b4, b5⟩ := nput_done hVa.out hOa.out (by simp; omega) hB hown' hgrow; have k1 := b1.cell; have k2 := b1.frozen; have hW5 : Rs w5 (some ⟨g1, 0, none⟩) L := ((HW.out.alloc _).alloc _).moved hgrow (fun b off e => by cases e; exact HN.out); replace b2 := Lib.hid b2; replace b3 := Lib.hid b3; replace b4 := Lib.hid b4; replace b5 := Lib.hid b5; replace hW5 := Lib.hid hW5; replace hob := Lib.hid hob; clear b1 hown' hgrow hVa hOa HO HV)
        have lk' : (out ++ nK d (L.take (k + 1))).length = O.length + 1 := by rw [E.out, ← List.append_assoc, hO.out, List.length_append]; rfl
        have eN : Hid (out ++ nK d (L.take (k + 1)) = O ++ [(d * 86400 + p, d * 86400 + q)]) := by show _ = _; rw [E.out, ← List.append_assoc, hO.out]
        have b6 : Hid (World.ownsRow (w5.setCell ⟨B, 0, none⟩ (.slice A' (O.length + 1) cap')) n₀ 42 2 (.slice A' (O.length + 1) cap') (out ++ nK d (L.take (k + 1))).length (flat encS (out ++ nK d (L.take (k + 1))))) := by show World.ownsRow _ _ _ _ _ _ _; rw [lk', eN.out]; exact b3.out
        have hW6 : Hid (Rs (w5.setCell ⟨B, 0, none⟩ (.slice A' (O.length + 1) cap')) (some ⟨g1, 0, none⟩) L) := hW5.out.moved (grownBy_setCell' w5 B _) (fun b off e => by cases e; intro h; cases h; omega)
        have hN6 : Hid (some g1 ≠ (Value.slice A' (O.length + 1) cap').ownBlock) := by
          rcases hob.out with h | h
          · exact fun e => HN.out (e.trans h)
          · exact fun e => by have e2 := e.trans h; simp at e2; omega
        clear b3 hW5 hob
        go_roundw
        case rel => exact ⟨k + 1, _, by omega, by go_num, b2, b6, Below.trans ((HM.out).alloc (by omega) _) b4.out, Mid.trans (HR.out.alloc hn₀ _) b5.out, hW6, hN6, by omega⟩
        case measure => simp [intOf]; omega
      · have f1 : decide (p < q) = false := decide_eq_false hpq
        have E : Hid (nK d (L.take (k + 1)) = nK d (L.take k)) := by show _ = _; rw [take_snoc hx.out]; exact nK_no hpq
        have HO2 : Hid (wr.ownsRow n₀ 42 2 (Value.slice A2 O.length cap2) (out ++ nK d (L.take (k + 1))).length (flat encS (out ++ nK d (L.take (k + 1))))) := by show World.ownsRow _ _ _ _ _ _ _; rw [E.out, hO.out]; exact HO.out
        go_wp2
        go_roundw
        case rel => exact ⟨k + 1, _, by omega, by go_num, HV.out.alloc _, HO2.out.alloc _, (HM.out).alloc (by omega) _, HR.out.alloc hn₀ _, HW.out.alloc _, HN, by rw [E.out, hO.out]; omega⟩
        case measure => simp [intOf]; omega
    · obtain rfl : k = L.length := by omega
      rw [List.take_length] at HO
      go_wp2
      go_end0
      exact ⟨⟨_, rfl⟩, _, HV.out, HO.out, HM.out, HR.out⟩
end Go.Proofs.Ytnhmibfgaoealaa

