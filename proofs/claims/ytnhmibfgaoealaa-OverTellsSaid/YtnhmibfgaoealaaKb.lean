/-
  The seconds of segments: stream.Clock, stream.Only; few of layers 15 and 16.
-/
import Derived.Test.YtnhmibfgaoealaaKa
import Derived.Test.YtnhmibfgaoealaaDd
import Derived.Test.YtnhmibfgaoealaaMo
namespace Go.Proofs.Ytnhmibfgaoealaa
open Go.RowKit
set_option linter.unusedVariables false
set_option linter.unusedSimpArgs false

def enc5 (x : SegL) : List Value := [.int .i64 x.from_, .int .i64 x.to, .int .i64 x.kind, .int .i64 x.id, .int .i64 x.code]
theorem enc5_len (x : SegL) : (enc5 x).length = 5 := rfl
/-- The slice at A reads as these segments. -/
def Rg (w : World) (A : Option Addr) (l : List SegL) : Prop := Rd enc5 5 w w.heap.size A l
theorem Rg.ext {w w' : World} {A : Option Addr} {l : List SegL} (h : Rg w A l) (k : Ext w w') : Rg w' A l := (Rd.below h k).more k.size
theorem Rg.alloc {w : World} {A : Option Addr} {l : List SegL} (h : Rg w A l) (o : Obj) : Rg (w.alloc o) A l := h.ext ((Ext.refl w).alloc o)
theorem Rg.drewN {w : World} {A : Option Addr} {l : List SegL} (h : Rg w A l) (n : Nat) : Rg (w.drewN n) A l := h.ext ((Ext.refl w).drewN n)
theorem Rg.atG {w w' : World} {A : Option Addr} {l : List SegL} (h : Rg w A l) (hX : Ext w w') {j : Nat} (hj : j < l.length) :
    ∃ b off x, A = some ⟨b, off, none⟩ ∧ b < w.heap.size ∧ Hid (l[j]? = some x) ∧ w'.cell? ⟨b, off + j * 5, none⟩ = some (.int .i64 x.from_) ∧ w'.cell? ⟨b, off + j * 5 + 1, none⟩ = some (.int .i64 x.to) ∧ w'.cell? ⟨b, off + j * 5 + 2, none⟩ = some (.int .i64 x.kind) ∧ w'.cell? ⟨b, off + j * 5 + 3, none⟩ = some (.int .i64 x.id) ∧ w'.cell? ⟨b, off + j * 5 + 4, none⟩ = some (.int .i64 x.code) := by
  obtain ⟨b, off, x, hA, hlt, hx, hc⟩ := (Rd.below h hX).at_ hj
  exact ⟨b, off, x, hA, hlt, hx, hc 0 _ rfl, hc 1 _ rfl, hc 2 _ rfl, hc 3 _ rfl, hc 4 _ rfl⟩

theorem keep_yes {q : SegL → Bool} {l : List SegL} {x : SegL} (h : q x = true) : ((l ++ [x]).filter q).map SegL.span = (l.filter q).map SegL.span ++ [(x.from_, x.to)] := by
  rw [List.filter_append, List.map_append]; simp [h, SegL.span]
theorem keep_no {q : SegL → Bool} {l : List SegL} {x : SegL} (h : q x = false) : ((l ++ [x]).filter q).map SegL.span = (l.filter q).map SegL.span := by
  rw [List.filter_append, List.map_append]; simp [h]

set_option maxRecDepth 100000 in
set_option maxHeartbeats 1000000 in
theorem pSpans (q : SegL → Bool) (g : Nat) (lb : Array Value) (eg : ∀ args w, (callFunc g args).run Try.prog w = .ok (.enter g args) w) {w : World} (kg : ∀ W x, Ext w W → Calls Try.prog g (#[.agg #[.int .i64 x.from_, .int .i64 x.to, .int .i64 x.kind, .int .i64 x.id, .int .i64 x.code]] ++ lb) W (RetB W (q x)))
    {A : Option Addr} {l : List SegL} (h : Rg w A l) (hl : l.length ≤ 100000) (c : Nat) :
    Calls Try.prog 100 #[.slice A l.length c, .func (.func g) #[] lb] w (RetS w (Sp.norm ((l.filter q).map SegL.span))) := by
  replace h := Lib.hid h; replace kg := Lib.hid kg
  go_enter Try.func100, Try.ntmps100
  go_wp2_with fail
  go_loopw [10, 5] (fun i v wr => ∃ (k n : Nat) (A2 : Option Addr) (c2 : Nat), k ≤ l.length ∧ i = .int .i64 k ∧ v = .slice A2 n c2 ∧ Hid (n = (((l.take k).filter q).map SegL.span).length) ∧ Hid (wr.ownsRow w.heap.size 42 2 (.slice A2 n c2) n (flat encS (((l.take k).filter q).map SegL.span))) ∧ Hid (Ext w wr) ∧ n ≤ k) (fun i _ _ => l.length - (intOf i).toNat)
  case atStart => exact ⟨0, 0, none, 0, Nat.zero_le _, rfl, rfl, rfl, own_nil _ _, Ext.refl _, Nat.le_refl _⟩
  case round =>
    obtain ⟨k, n, A2, c2, hk, rfl, rfl, HN, HO, HX, nk⟩ := hrel
    by_cases hlt : k < l.length
    · obtain ⟨b, off, x, rfl, hbB, hx, y0, y1, y2, y3, y4⟩ := h.out.atG HX.out hlt
      have hcall := Lib.hid fun W X => kg.out W x X
      cases hq : q x
      · rw [hq] at hcall
        have E : Hid (((l.take (k + 1)).filter q).map SegL.span = ((l.take k).filter q).map SegL.span) := by show _ = _; rw [take_snoc hx.out]; exact keep_no hq
        go_wp2_with (go_at_fn g; refine (hcall.out _ (HX.out.alloc _)).mono ?_; rintro e w2 ⟨rfl, x2⟩)
        rw [← E.out] at HN HO
        have HO2 := Lib.hid (own_below (HO.out.alloc _) x2)
        have X2 := Lib.hid ((HX.out.alloc _).trans x2)
        clear HO x2
        go_roundw
        case rel => exact ⟨k + 1, n, A2, c2, by omega, by go_num, rfl, HN, HO2, X2, by omega⟩
        case measure => simp [intOf]; omega
      · rw [hq] at hcall
        have E : Hid (((l.take (k + 1)).filter q).map SegL.span = ((l.take k).filter q).map SegL.span ++ [(x.from_, x.to)]) := by show _ = _; rw [take_snoc hx.out]; exact keep_yes hq
        obtain ⟨O, hO⟩ : ∃ O, ((l.take k).filter q).map SegL.span = O := ⟨_, rfl⟩
        rw [hO] at HN HO E
        clear hO
        have hn := HN.out
        subst hn
        obtain ⟨_, _, hv, hc1, hc2⟩ := own_form HO.out
        cases hv
        replace hc1 := Lib.hid hc1; replace hc2 := Lib.hid hc2
        clear HN
        go_wp2_with (first | (go_at_fn g; refine (hcall.out _ (HX.out.alloc _)).mono ?_; rintro e w2 ⟨rfl, x2⟩; have hb := (Bx.new wr [.int .i64 x.from_, .int .i64 x.to, .int .i64 x.kind, .int .i64 x.id, .int .i64 x.code] 78).ext x2; have v0 := hb.cell 0 _ rfl; have v1 := hb.cell 1 _ rfl; have X2 := Lib.hid ((HX.out.alloc (.cells #[.int .i64 x.from_, .int .i64 x.to, .int .i64 x.kind, .int .i64 x.id, .int .i64 x.code] 78)).trans x2); have HO2 := Lib.hid (own_below (HO.out.alloc _) x2); replace hb := Lib.hid hb; clear HO HX x2) | (at_builtin; refine app_row w _ (X2.out.alloc _) _ _ rfl rfl O.length _ O [(x.from_, x.to)] rfl (HO2.out.alloc _) rfl _ 1 rfl (Rs.new_g _ [(x.from_, x.to)] _ _ (by simp)) (by simp; omega) ?_; intro A4 c4 w3 o4 x3))
        rw [← E.out] at o4
        have e4 : (((l.take (k + 1)).filter q).map SegL.span).length = O.length + 1 := by rw [E.out, List.length_append]; rfl
        replace o4 := Lib.hid o4; replace x3 := Lib.hid x3
        go_roundw
        case rel => exact ⟨k + 1, _, A4, c4, by omega, by go_num, by rw [e4], rfl, o4, x3, by omega⟩
        case measure => simp [intOf]; omega
    · obtain rfl : k = l.length := by omega
      rw [List.take_length] at HN HO
      obtain ⟨O, hO⟩ : ∃ O, (l.filter q).map SegL.span = O := ⟨_, rfl⟩
      rw [hO] at HN HO
      replace hO := Lib.hid hO
      have hn := HN.out
      subst hn
      obtain ⟨A3, c3, hv, hc1, hc2⟩ := own_form HO.out
      cases hv
      go_wp2_with fail
      refine (pClip _ _ _ hc1 hc2 _).mono ?_
      rintro e w2 ⟨rfl, x2⟩
      go_wp2_with fail
      refine (cNorm (Rs.ext (Rs.own HO.out) x2) (by omega) _).mono ?_
      rintro e w3 ⟨A4, c4, rfl, r4, x4, o4⟩
      go_wp2
      go_ret
      show RetS w (Sp.norm ((l.filter q).map SegL.span)) _ _
      rw [hO.out]
      exact ⟨A4, c4, rfl, r4, (HX.out.trans x2).trans x4, own_base o4 (Nat.le_trans HX.out.size x2.size)⟩
end Go.Proofs.Ytnhmibfgaoealaa

