/-
  Words for layer 14: the spans of a day that are by night, the nights put one behind the other.
  night.Of and night.Is by contract.
  night.Of, night.Is, and few of lumperlaw14, of a setup.
-/
import Derived.Test.YtnhmibfgaoealaaGreatMn
import Derived.Test.YtnhmibfgaoealaaGreatMl
import Derived.Test.YtnhmibfgaoealaaGreatTw
import Derived.Test.YtnhmibfgaoealaaGreatPz
namespace Go.Proofs.YtnhmibfgaoealaaGreat
open Go.RowKit
set_option linter.unusedVariables false
set_option linter.unusedSimpArgs false

/-- What a call leaves that hands back a slice of spans. -/
def RetR (w : World) (R : List Sp.S) (e : Ending) (w' : World) : Prop := ∃ A cap, e = .returned (.slice A R.length cap) ∧ Rs w' A R ∧ Ext w w'

def RetW (w : World) (R : List Sp.S) (e : Ending) (w' : World) : Prop := ∃ g cap, e = .returned (.slice (some ⟨g, 0, none⟩) R.length cap) ∧ Rs w' (some ⟨g, 0, none⟩) R ∧ Ext w w' ∧ w.heap.size ≤ g
set_option maxRecDepth 100000 in
theorem windowsA (v_pl v_wy v_p1 v_p2 v_el v_cl v_ge v_al v_un v_ca v_pb v_aa v_ab v_dr v_do v_wr v_ra v_di v_le v_fa v_ti : Value) (F T : Int) (w : World) : Calls Tryz.prog 66 #[.agg #[v_pl, v_wy, v_p1, v_p2, v_el, v_cl, v_ge, v_al, v_un, v_ca, v_pb, v_aa, v_ab, v_dr, v_do, v_wr, .int .i64 F, .int .i64 T, v_ra, v_di, v_le, v_fa, v_ti]] w (RetW w (winds F T)) := by
  by_cases h : T < F
  · have e : winds F T = [(0, T), (F, 86400)] := if_pos h
    rw [e]
    go_enter Tryz.func66, Tryz.ntmps66
    go_wp2
    go_ret
    exact ⟨_, 2, rfl, Rs.new_g _ [(0, T), (F, 86400)] _ _ (by simp), ((Ext.refl w).alloc _).alloc _, by omega⟩
  · have e : winds F T = [(F, T)] := if_neg h
    rw [e]
    have f1 : decide (T < F) = false := decide_eq_false h
    go_enter Tryz.func66, Tryz.ntmps66
    go_wp2
    go_ret
    exact ⟨_, 1, rfl, Rs.new_g _ [(F, T)] _ _ (by simp), ((Ext.refl w).alloc _).alloc _, by omega⟩

theorem Rs.moved {w w' : World} {A : Option Addr} {l : List Sp.S} {row : Option Nat} (h : Rs w A l) (hg : w.grownBy w' row) (hne : ∀ b off, A = some ⟨b, off, none⟩ → some b ≠ row) : Rs w' A l := fun hl => by
  obtain ⟨b, off, hA, hb, hc⟩ := h hl
  exact ⟨b, off, hA, Nat.lt_of_lt_of_le hb hg.size, fun j hj i u hu => hg.cell (hc j hj i u hu) (hne b off hA)⟩

theorem nput_done {W w1 : World} {n₀ B k m : Nat} {v v' : Value} {xs ys : List Value} {tmp : Obj} (hv : Boxed W B 34 v) (hrow : W.ownsRow n₀ 49 2 v k xs) (hn₀ : n₀ ≤ W.heap.size) (hB : B < n₀)
    (hown' : w1.ownsRow n₀ 49 2 v' m ys) (hgrow : (W.alloc tmp).grownBy w1 v.ownBlock) :
    Boxed w1 B 34 v ∧ Boxed (w1.setCell ⟨B, 0, none⟩ v') B 34 v' ∧ (w1.setCell ⟨B, 0, none⟩ v').ownsRow n₀ 49 2 v' m ys ∧ (Below B W (w1.setCell ⟨B, 0, none⟩ v') ∧ Mid (B + 1) n₀ W (w1.setCell ⟨B, 0, none⟩ v')) := by
  have hte : 34 ≠ 49 := by decide
  have hv1 : Boxed w1 B 34 v := (hv.alloc tmp).kept hgrow (hv.not_row hte hrow)
  have hr : ∀ g, v.ownBlock = some g → n₀ ≤ g := fun g hg => (hrow.lt g hg).1
  exact ⟨hv1, hv1.set v', hown'.kept (grownBy_setCell' w1 B v') (.inr (hv1.not_row hte hown').symm),
    (((Below.refl B W).alloc (by omega) tmp).grown hgrow (by simp; omega) fun g hg => by have := hr g hg; omega).setCell (p := ⟨B, 0, none⟩) (Nat.le_refl _) v',
    (((Mid.refl (B + 1) n₀ W).alloc hn₀ tmp).grown hn₀ hgrow fun g hg => .inr (hr g hg)).grown hn₀ (grownBy_setCell' w1 B v') fun g hg => by cases hg; exact .inl (Nat.lt_succ_self _)⟩

def nK (d : Int) (l : List Sp.S) : List Sp.S := (l.filter fun w => decide (w.1 < w.2)).map fun w => (d * 86400 + w.1, d * 86400 + w.2)
theorem nK_winds (F T d : Int) : nights1 F T d = nK d (winds F T) := rfl
theorem nK_yes {d : Int} {l : List Sp.S} {x : Sp.S} (h : x.1 < x.2) : nK d (l ++ [x]) = nK d l ++ [(d * 86400 + x.1, d * 86400 + x.2)] := by
  unfold nK; rw [List.filter_append, List.map_append]; simp [h]
theorem nK_no {d : Int} {l : List Sp.S} {x : Sp.S} (h : ¬ x.1 < x.2) : nK d (l ++ [x]) = nK d l := by
  unfold nK; rw [List.filter_append, List.map_append]; simp [h]
theorem winds_bd {F T : Int} (h : okNT F T) : (winds F T).length ≤ 2 ∧ ∀ s ∈ winds F T, (0 ≤ s.1 ∧ s.1 ≤ 86400) ∧ 0 ≤ s.2 ∧ s.2 ≤ 86400 := by
  unfold okNT at h
  unfold winds
  split
  · refine ⟨by simp, fun s hs => ?_⟩
    simp at hs
    rcases hs with rfl | rfl
    · exact ⟨⟨by omega, by omega⟩, by show 0 ≤ T; omega, by show T ≤ 86400; omega⟩
    · exact ⟨⟨by show 0 ≤ F; omega, by show F ≤ 86400; omega⟩, by omega, by omega⟩
  · refine ⟨by simp, fun s hs => ?_⟩
    simp at hs
    subst hs
    exact ⟨⟨by show 0 ≤ F; omega, by show F ≤ 86400; omega⟩, by show 0 ≤ T; omega, by show T ≤ 86400; omega⟩
theorem own_boxed {w : World} {n₀ g : Nat} {v : Value} {m : Nat} {xs : List Value} (h : w.ownsRow n₀ 49 2 v m xs) (hg : w.heap.size ≤ g) : some g ≠ v.ownBlock := fun e => by
  have := (h.lt g e.symm).2; omega

set_option maxRecDepth 100000 in
set_option maxHeartbeats 1000000 in
theorem nput (v_pl v_wy v_p1 v_p2 v_el v_cl v_ge v_al v_un v_ca v_pb v_aa v_ab v_dr v_do v_wr v_ra v_di v_le v_fa v_ti : Value) (F T : Int) (hFT : okNT F T) (n₀ B C : Nat) (out : List Sp.S) (v : Value) (d : Int) (d0 : 0 ≤ d) (d1 : d ≤ 370) (w : World) (hs : Bx w C [v_pl, v_wy, v_p1, v_p2, v_el, v_cl, v_ge, v_al, v_un, v_ca, v_pb, v_aa, v_ab, v_dr, v_do, v_wr, .int .i64 F, .int .i64 T, v_ra, v_di, v_le, v_fa, v_ti] 30) (hC : C < B)
    (hv : Boxed w B 34 v) (hown : w.ownsRow n₀ 49 2 v out.length (flat encS out)) (hn₀ : n₀ ≤ w.heap.size) (hB : B < n₀) (hl : out.length ≤ 1000) :
    Calls Tryz.prog 65 #[.int .i64 d, .pointer (some ⟨C, 0, none⟩), .pointer (some ⟨B, 0, none⟩)] w fun e w' => (∃ r, e = .returned r) ∧ ∃ v', Boxed w' B 34 v' ∧ w'.ownsRow n₀ 49 2 v' (out ++ nights1 F T d).length (flat encS (out ++ nights1 F T d)) ∧ Below B w w' ∧ Mid (B + 1) n₀ w w' := by
  rw [nK_winds]
  have kW := fun w => windowsA v_pl v_wy v_p1 v_p2 v_el v_cl v_ge v_al v_un v_ca v_pb v_aa v_ab v_dr v_do v_wr v_ra v_di v_le v_fa v_ti F T w
  obtain ⟨L, hL, lL, bL⟩ : ∃ L, winds F T = L ∧ L.length ≤ 2 ∧ Hid (∀ s ∈ L, (0 ≤ s.1 ∧ s.1 ≤ 86400) ∧ 0 ≤ s.2 ∧ s.2 ≤ 86400) := ⟨_, rfl, (winds_bd hFT).1, (winds_bd hFT).2⟩
  rw [hL] at kW ⊢
  replace kW := Lib.hid kW; replace hv := Lib.hid hv; replace hown := Lib.hid hown; replace hs := Lib.hid hs
  clear hL hFT
  go_enter Tryz.func65, Tryz.ntmps65
  go_wp2_with (first | (refine load_box rfl 30 _ rfl _ rfl _ _ hs.out _ Tryz.underlying30 rfl (by kernel_rfl) ?_))
  refine (kW.out _).mono ?_
  rintro e w1 ⟨g1, cap1, rfl, r1, x1, hg1⟩
  have hw1 : w.heap.size ≤ w1.heap.size := x1.size
  go_wp2_with fail
  go_loopw [9] (fun i wr => ∃ (k : Nat) (v : Value), k ≤ L.length ∧ i = .int .i64 k ∧ Hid (Boxed wr B 34 v) ∧ Hid (wr.ownsRow n₀ 49 2 v (out ++ nK d (L.take k)).length (flat encS (out ++ nK d (L.take k)))) ∧ Hid (Below B w wr) ∧ Hid (Mid (B + 1) n₀ w wr) ∧ Hid (Rs wr (some ⟨g1, 0, none⟩) L) ∧ Hid (some g1 ≠ v.ownBlock) ∧ (out ++ nK d (L.take k)).length ≤ 1000 + k) (fun i _ => L.length - (intOf i).toNat)
  case atStart => exact ⟨0, v, Nat.zero_le _, rfl, (x1.block B hv.out.lt).trans hv.out, (by show World.ownsRow _ _ _ _ _ _ _; rw [show out ++ nK d (L.take 0) = out from by simp [nK]]; exact own_below hown.out x1), Below.mono x1 (by omega), (Mid.refl _ _ _).below hn₀ x1, r1, own_boxed hown.out hg1, by simp [nK]; omega⟩
  case round =>
    clear hv hown
    obtain ⟨k, v, hk, rfl, HV, HO, HM, HR, HW, HN, lk⟩ := hrel
    by_cases hlt : k < L.length
    · obtain ⟨O, hO⟩ : ∃ O, out ++ nK d (L.take k) = O := ⟨_, rfl⟩
      rw [hO] at HO lk
      replace hO := Lib.hid hO
      obtain ⟨A2, cap2, rfl, _, _⟩ := own_form HO.out
      obtain ⟨b, off, p, q, hA, hbB, hx, c0, c1⟩ := Rd.atS HW.out (Ext.refl wr) hlt
      cases hA
      rw [Nat.zero_add] at c0 c1
      have hb := bL.out (p, q) (List.mem_of_getElem? hx.out)
      obtain ⟨⟨p0, p1⟩, q0, q1⟩ : (0 ≤ p ∧ p ≤ 86400) ∧ 0 ≤ q ∧ q ≤ 86400 := hb
      have hBr := HV.out.lt
      have cB := HV.out.cell
      have zB := HV.out.frozen
      have hwr : w.heap.size ≤ wr.heap.size := HR.out.size
      by_cases hpq : p < q
      · have E : Hid (nK d (L.take (k + 1)) = nK d (L.take k) ++ [(d * 86400 + p, d * 86400 + q)]) := by show _ = _; rw [take_snoc hx.out]; exact nK_yes hpq
        have hVa := Lib.hid (HV.out.alloc (.cells #[.int .i64 p, .int .i64 q] 49))
        have hOa := Lib.hid (HO.out.alloc (.cells #[.int .i64 p, .int .i64 q] 49))
        go_wp2_with (at_builtin; refine app_spans _ _ _ rfl rfl n₀ O.length _ O [(d * 86400 + p, d * 86400 + q)] rfl (hOa.out.alloc _) _ 1 rfl (Rs.new_g _ [(d * 86400 + p, d * 86400 + q)] _ _ (by simp)) (by simp only [List.length_cons, List.length_nil]; omega) (by simp; omega) ?_; intro v' w5 hown' hgrow hob; obtain ⟨A', cap', rfl, _, _⟩ := own_form hown'; obtain ⟨b1, b2, b3, b4, b5⟩ := nput_done hVa.out hOa.out (by simp; omega) hB hown' hgrow; have k1 := b1.cell; have k2 := b1.frozen; have hW5 : Rs w5 (some ⟨g1, 0, none⟩) L := ((HW.out.alloc _).alloc _).moved hgrow (fun b off e => by cases e; exact HN.out); replace b2 := Lib.hid b2; replace b3 := Lib.hid b3; replace b4 := Lib.hid b4; replace b5 := Lib.hid b5; replace hW5 := Lib.hid hW5; replace hob := Lib.hid hob; clear b1 hown' hgrow hVa hOa HO HV)
        have lk' : (out ++ nK d (L.take (k + 1))).length = O.length + 1 := by rw [E.out, ← List.append_assoc, hO.out, List.length_append]; rfl
        have eN : Hid (out ++ nK d (L.take (k + 1)) = O ++ [(d * 86400 + p, d * 86400 + q)]) := by show _ = _; rw [E.out, ← List.append_assoc, hO.out]
        have b6 : Hid (World.ownsRow (w5.setCell ⟨B, 0, none⟩ (.slice A' (O.length + 1) cap')) n₀ 49 2 (.slice A' (O.length + 1) cap') (out ++ nK d (L.take (k + 1))).length (flat encS (out ++ nK d (L.take (k + 1))))) := by show World.ownsRow _ _ _ _ _ _ _; rw [lk', eN.out]; exact b3.out
        have hW6 : Hid (Rs (w5.setCell ⟨B, 0, none⟩ (.slice A' (O.length + 1) cap')) (some ⟨g1, 0, none⟩) L) := hW5.out.moved (grownBy_setCell' w5 B _) (fun b off e => by cases e; intro h; cases h; omega)
        have hN6 : Hid (some g1 ≠ (Value.slice A' (O.length + 1) cap').ownBlock) := by
          rcases hob.out with h | h
          · exact fun e => HN.out (e.trans h)
          · exact fun e => by have e2 := e.trans h; simp at e2; omega
        clear b3 hW5 hob
        go_roundw
        case rel => exact ⟨k + 1, _, by omega, by go_num, b2, b6, Below.trans ((HM.out).alloc (by omega) _) b4.out, Mid.trans (HR.out.alloc hn₀ _) b5.out, hW6, hN6, by omega⟩
        case measure => simp [intOf]; omega
      · have f1 : decide (p < q) = false := decide_eq_false hpq
        have E : Hid (nK d (L.take (k + 1)) = nK d (L.take k)) := by show _ = _; rw [take_snoc hx.out]; exact nK_no hpq
        have HO2 : Hid (wr.ownsRow n₀ 49 2 (Value.slice A2 O.length cap2) (out ++ nK d (L.take (k + 1))).length (flat encS (out ++ nK d (L.take (k + 1))))) := by show World.ownsRow _ _ _ _ _ _ _; rw [E.out, hO.out]; exact HO.out
        go_wp2
        go_roundw
        case rel => exact ⟨k + 1, _, by omega, by go_num, HV.out.alloc _, HO2.out.alloc _, (HM.out).alloc (by omega) _, HR.out.alloc hn₀ _, HW.out.alloc _, HN, by rw [E.out, hO.out]; omega⟩
        case measure => simp [intOf]; omega
    · obtain rfl : k = L.length := by omega
      rw [List.take_length] at HO
      go_wp2
      go_end0
      exact ⟨⟨_, rfl⟩, _, HV.out, HO.out, HM.out, HR.out⟩
end Go.Proofs.YtnhmibfgaoealaaGreat
namespace Go.Proofs.YtnhmibfgaoealaaGreat
open Go.RowKit
set_option linter.unusedVariables false
set_option linter.unusedSimpArgs false

theorem Rn.at_move {w w' : World} {A : Option Addr} {l : List Int} {B n₀ : Nat} {t : TypeId} {v : Value} (h : Rn w A l) (hn : w.heap.size ≤ n₀) (hb : Boxed w B t v) (hv : ∀ k n, v ≠ .int k n) (hm : Below B w w') (hr : Mid (B + 1) n₀ w w') {j : Nat} (hj : j < l.length) :
    ∃ b off p, A = some ⟨b, off, none⟩ ∧ Hid (l[j]? = some p) ∧ w'.cell? ⟨b, off + j, none⟩ = some (.int .i64 p) := by
  obtain ⟨b, off, p, rfl, hlt, hx, hc⟩ := Rd.atN h (Ext.refl w) hj
  refine ⟨b, off, p, rfl, hx, ?_⟩
  rcases Nat.lt_trichotomy b B with h1 | h1 | h1
  · exact (hm.cell (p := ⟨b, off + j, none⟩) h1).trans hc
  · subst h1
    have hc0 : (World.cell? w ⟨b, off + j, none⟩) = (#[v] : Array Value)[off + j]? := by simp [World.cell?, show w.heap[b]? = _ from hb]
    rw [hc] at hc0
    by_cases h0 : off + j = 0
    · rw [h0] at hc0; simp at hc0; exact absurd hc0.symm (hv _ _)
    · rw [Array.getElem?_eq_none (by simp; omega)] at hc0; cases hc0
  · exact (hr.cell (p := ⟨b, off + j, none⟩) h1 (by show b < n₀; omega)).trans hc

theorem nightsL_snoc (F T : Int) (l : List Int) (d : Int) : nightsL F T (l ++ [d]) = nightsL F T l ++ nights1 F T d := by simp [nightsL]
theorem nights1_len (F T d : Int) : (nights1 F T d).length ≤ 2 := by
  unfold nights1
  rw [List.length_map]
  refine Nat.le_trans (List.length_filter_le _ _) ?_
  unfold winds; split <;> simp
theorem nightsL_len (F T : Int) (l : List Int) : (nightsL F T l).length ≤ l.length * 2 := by
  unfold nightsL
  exact flatMap_len _ 2 l fun d _ => nights1_len F T d

set_option maxRecDepth 100000 in
set_option maxHeartbeats 1000000 in
theorem ofA_no (v_pl v_wy v_p1 v_p2 v_el v_cl v_ge v_al v_un v_ca v_pb v_aa v_ab v_dr v_do v_wr v_ra v_di v_le v_fa v_ti : Value) (F T : Int) (w : World) (A : Option Addr) (n cap : Nat) (k1 : ∀ (W : World), Ext w W → Calls Tryz.prog 22 #[.agg #[v_pl, v_wy, v_p1, v_p2, v_el, v_cl, v_ge, v_al, v_un, v_ca, v_pb, v_aa, v_ab, v_dr, v_do, v_wr, .int .i64 F, .int .i64 T, v_ra, v_di, v_le, v_fa, v_ti]] W (RetB W false)) :
    Calls Tryz.prog 27 #[.agg #[v_pl, v_wy, v_p1, v_p2, v_el, v_cl, v_ge, v_al, v_un, v_ca, v_pb, v_aa, v_ab, v_dr, v_do, v_wr, .int .i64 F, .int .i64 T, v_ra, v_di, v_le, v_fa, v_ti], .slice A n cap] w (RetS w []) := by
  replace k1 := Lib.hid k1
  go_enter Tryz.func27, Tryz.ntmps27
  have hs0 := Bx.new w [v_pl, v_wy, v_p1, v_p2, v_el, v_cl, v_ge, v_al, v_un, v_ca, v_pb, v_aa, v_ab, v_dr, v_do, v_wr, .int .i64 F, .int .i64 T, v_ra, v_di, v_le, v_fa, v_ti] 30
  have X0 := (Ext.refl w).alloc (.cells #[v_pl, v_wy, v_p1, v_p2, v_el, v_cl, v_ge, v_al, v_un, v_ca, v_pb, v_aa, v_ab, v_dr, v_do, v_wr, .int .i64 F, .int .i64 T, v_ra, v_di, v_le, v_fa, v_ti] 30)
  go_wp2_with (first | (refine load_box rfl 30 _ rfl _ rfl _ _ hs0 _ Tryz.underlying30 rfl (by kernel_rfl) ?_))
  refine (k1.out _ X0).mono ?_
  rintro e w1 ⟨rfl, x1⟩
  go_wp2
  go_ret
  exact ⟨none, 0, rfl, .nil, X0.trans x1, own_nil _ _⟩

set_option maxRecDepth 100000 in
set_option maxHeartbeats 2000000 in
theorem ofA_yes (v_pl v_wy v_p1 v_p2 v_el v_cl v_ge v_al v_un v_ca v_pb v_aa v_ab v_dr v_do v_wr v_ra v_di v_le v_fa v_ti : Value) (F T : Int) (hFT : okNT F T) (w : World) (A : Option Addr) (l : List Sp.S) (h : Rs w A l) (hl : l.length ≤ 900000) (cap : Nat) (k1 : ∀ (W : World), Ext w W → Calls Tryz.prog 22 #[.agg #[v_pl, v_wy, v_p1, v_p2, v_el, v_cl, v_ge, v_al, v_un, v_ca, v_pb, v_aa, v_ab, v_dr, v_do, v_wr, .int .i64 F, .int .i64 T, v_ra, v_di, v_le, v_fa, v_ti]] W (RetB W true)) :
    Calls Tryz.prog 27 #[.agg #[v_pl, v_wy, v_p1, v_p2, v_el, v_cl, v_ge, v_al, v_un, v_ca, v_pb, v_aa, v_ab, v_dr, v_do, v_wr, .int .i64 F, .int .i64 T, v_ra, v_di, v_le, v_fa, v_ti], .slice A l.length cap] w (RetS w (nightOf F T l)) := by
  have hDb : ∀ d ∈ daysL (Sp.norm l), 0 ≤ d ∧ d ≤ 370 := fun d hd => by
    obtain ⟨t, _, _, rfl⟩ := ((days_spec l).2 d).1 hd
    exact dayOf_bd t
  have hDl := days_len l
  have hN : Hid (nightOf F T l = Sp.and_ l (nightsL F T (daysL (Sp.norm l)))) := rfl
  have kD := fun (w : World) (A : Option Addr) (h : Rs w A l) => cDays h hl cap
  obtain ⟨R, hR⟩ : ∃ R, nightOf F T l = R := ⟨_, rfl⟩
  rw [hR] at hN ⊢
  obtain ⟨D, hD⟩ : ∃ D, daysL (Sp.norm l) = D := ⟨_, rfl⟩
  rw [hD] at hDb hDl hN kD
  clear hR hD
  replace hDb := Lib.hid hDb; replace kD := Lib.hid kD
  replace k1 := Lib.hid k1
  replace h := Lib.hid h
  go_enter Tryz.func27, Tryz.ntmps27
  have hs0 := Bx.new w [v_pl, v_wy, v_p1, v_p2, v_el, v_cl, v_ge, v_al, v_un, v_ca, v_pb, v_aa, v_ab, v_dr, v_do, v_wr, .int .i64 F, .int .i64 T, v_ra, v_di, v_le, v_fa, v_ti] 30
  have X0 := (Ext.refl w).alloc (.cells #[v_pl, v_wy, v_p1, v_p2, v_el, v_cl, v_ge, v_al, v_un, v_ca, v_pb, v_aa, v_ab, v_dr, v_do, v_wr, .int .i64 F, .int .i64 T, v_ra, v_di, v_le, v_fa, v_ti] 30)
  go_wp2_with (first | (refine load_box rfl 30 _ rfl _ rfl _ _ hs0 _ Tryz.underlying30 rfl (by kernel_rfl) ?_))
  refine (k1.out _ X0).mono ?_
  rintro e w1 ⟨rfl, x1⟩
  have X1 := X0.trans x1
  have hs1 := hs0.ext x1
  have hC : w.heap.size < w1.heap.size := hs1.lt
  go_wp2_with fail
  have hB0 := Boxed.new w1 34 (.slice none 0 0)
  refine (kD.out _ _ ((h.out.ext X1).alloc _)).mono ?_
  rintro e w2 ⟨A2, cap2, rfl, r2, x2, _⟩
  have X2 := (X1.alloc _).trans x2
  have hs2 := Lib.hid ((hs1.alloc _).ext x2)
  have hB2 : Boxed w2 w1.heap.size 34 (.slice none 0 0) := (x2.block w1.heap.size (by simp)).trans hB0
  have hBn : w1.heap.size < w2.heap.size := hB2.lt
  have hB2h := Lib.hid hB2
  clear hs0 hs1 hB0 hB2
  go_wp2_with fail
  go_loopw [17] (fun i wr => ∃ (k : Nat) (v : Value), k ≤ D.length ∧ i = .int .i64 k ∧ Hid (Boxed wr w1.heap.size 34 v) ∧ Hid (wr.ownsRow w2.heap.size 49 2 v (nightsL F T (D.take k)).length (flat encS (nightsL F T (D.take k)))) ∧ Hid (Below w1.heap.size w2 wr) ∧ Hid (Mid (w1.heap.size + 1) w2.heap.size w2 wr)) (fun i _ => D.length - (intOf i).toNat)
  case atStart => exact ⟨0, _, Nat.zero_le _, rfl, hB2h, own_nil _ _, Below.refl _ _, Mid.refl _ _ _⟩
  case round =>
    obtain ⟨k, v, hk, rfl, HV, HO, HM, HR⟩ := hrel
    by_cases hlt : k < D.length
    · obtain ⟨b, off, d, rfl, hx, c0⟩ := Rn.at_move r2 (Nat.le_refl _) hB2h.out (fun _ _ h => by cases h) HM.out HR.out hlt
      obtain ⟨d0, d1⟩ := hDb.out d (List.mem_of_getElem? hx.out)
      have hO := nightsL_len F T (D.take k)
      have hO2 : (nightsL F T (D.take k)).length ≤ 1000 := Nat.le_trans hO (by have : (D.take k).length ≤ 371 := Nat.le_trans (List.length_take_le' _ _) hDl; omega)
      have hq0 : (0 : Int) ≤ (k : Int) := by omega
      have hq1 : (k : Int) < (D.length : Int) := by omega
      have E : Hid (nightsL F T (D.take (k + 1)) = nightsL F T (D.take k) ++ nights1 F T d) := by show _ = _; rw [take_snoc hx.out, nightsL_snoc]
      go_wp2_with fail
      refine (nput v_pl v_wy v_p1 v_p2 v_el v_cl v_ge v_al v_un v_ca v_pb v_aa v_ab v_dr v_do v_wr v_ra v_di v_le v_fa v_ti F T hFT w2.heap.size w1.heap.size w.heap.size (nightsL F T (D.take k)) v d d0 d1 wr ((HM.out.block w.heap.size hC).trans hs2.out) hC HV.out HO.out HR.out.size hBn hO2).mono ?_
      rintro e w5 ⟨⟨r, rfl⟩, v5, hv5, ho5, m1, m2⟩
      rw [← E.out] at ho5
      replace hv5 := Lib.hid hv5; replace ho5 := Lib.hid ho5
      have m3 := Lib.hid (HM.out.trans m1); have m4 := Lib.hid (HR.out.trans m2)
      clear m1 m2 HV HO HM HR
      go_wp2
      go_roundw
      case rel => exact ⟨k + 1, v5, by omega, by go_num, hv5, ho5, m3, m4⟩
      case measure => simp [intOf]; omega
    · obtain rfl : k = D.length := by omega
      rw [List.take_length] at HO
      have hO := nightsL_len F T D
      obtain ⟨NL, hNL⟩ : ∃ NL, nightsL F T D = NL := ⟨_, rfl⟩
      rw [hNL] at HO hO
      have hN2 : Hid (R = Sp.and_ l NL) := by show _ = _; rw [← hNL]; exact hN.out
      obtain ⟨A3, cap3, rfl, _, _⟩ := own_form HO.out
      have cB := HV.out.cell
      have X5 : Ext w wr := Below.trans X2 (Below.mono HM.out (Nat.le_of_lt hC))
      have h5 := h.out.ext X5
      clear hNL hN
      go_wp2_with fail
      refine (cAnd h5 (Rs.own HO.out) hl (by omega) _ _).mono ?_
      rintro e w6 ⟨A6, cap6, rfl, r6, x6, o6⟩
      rw [← hN2.out] at r6 o6 ⊢
      go_wp2
      go_ret
      exact ⟨A6, cap6, rfl, r6, X5.trans x6, own_base o6 X5.size⟩

theorem winds_len (F T : Int) : (winds F T).length ≤ 2 := by unfold winds; split <;> simp
end Go.Proofs.YtnhmibfgaoealaaGreat
namespace Go.Proofs.YtnhmibfgaoealaaGreat
open Go.RowKit
set_option linter.unusedVariables false
set_option linter.unusedSimpArgs false

def nightS (s : Su) (l : List Sp.S) : List Sp.S := if chk s = true then nightOf s.nfrom s.nto l else []
def nightIsS (s : Su) (t : Int) : Bool := chk s && nightIs s.nfrom s.nto t
theorem chk_nt {s : Su} (h : chk s = true) : okNT s.nfrom s.nto := by
  have := chk_times h
  unfold okNT; omega

theorem pNightOf {s : Su} {h : Sh} (ok : SuOk s) (fw : SuFew s) {w : World} (r : SuR w s h) {A : Option Addr} {l : List Sp.S} (hA : Rs w A l) (hl : l.length ≤ 900000) (cap : Nat) :
    Calls Tryz.prog 27 #[.agg (s.cells h).toArray, .slice A l.length cap] w (RetS w (nightS s l)) := by
  unfold nightS
  cases hc : chk s
  · exact ofA_no _ _ _ _ _ _ _ _ _ _ _ _ _ _ _ _ _ _ _ _ _ s.nfrom s.nto w A l.length cap (fun W X => by have := pCheck ok fw (r.ext X); rw [hc] at this; exact this)
  · exact ofA_yes _ _ _ _ _ _ _ _ _ _ _ _ _ _ _ _ _ _ _ _ _ s.nfrom s.nto (chk_nt hc) w A l hA hl cap (fun W X => by have := pCheck ok fw (r.ext X); rw [hc] at this; exact this)
theorem su_size0 : (Tryz.prog.info? 30).map (·.size) = some 23 := by kernel_rfl
theorem su_size {cs : List Value} (h : cs.length = 23) : (Tryz.prog.info? 30).map (·.size) = some cs.toArray.size := su_size0.trans (by rw [show cs.toArray.size = 23 from by simpa using h])
/-- A Bool that is true only if p. -/
def RetP (w : World) (p : Prop) (e : Ending) (w' : World) : Prop := (∃ b : Bool, e = .returned (.bool b) ∧ (b = true → p)) ∧ Ext w w'
/-- What few of layer 14 lets through. -/
def Few14 (s : Su) (l : List Sp.S) : Prop := SuFew s ∧ l.length ≤ 30 ∧ ∀ x ∈ l, 0 ≤ x.1 ∧ x.1 ≤ 33000000 ∧ x.2 ≤ 33000000

end Go.Proofs.YtnhmibfgaoealaaGreat
