import Derived.Test.YtnhmibfgaoealaaGreatMb
import Derived.Test.YtnhmibfgaoealaaGreatProg
import Derived.Lib.Hide
import Derived.Deep.QuietTactic
import Derived.BigQuiet
import Derived.RegionTactic
import Derived.BigRegion
namespace Go.Proofs.YtnhmibfgaoealaaGreat
open Go.RowKit

/-- What the sort does: proved elsewhere. -/
def SortSaid : Prop := ∀ (l : List Sp.S) (A : Option Addr) (cap base : Nat) (w : World), w.ownsRow base 49 2 (.slice A l.length cap) l.length (flat encS l) → l.length ≤ 1000000000000 →
  Calls Tryz.prog 60 #[.slice A l.length cap, .func (.func 61) #[] #[]] w fun e w' => e = .returned (.tuple #[]) ∧
    ∃ m : List Sp.S, Hid (m.Perm l) ∧ Hid (m.Pairwise fun a b => a.1 ≤ b.1) ∧ Hid (w'.ownsRow base 49 2 (.slice A l.length cap) l.length (flat encS m)) ∧ Below base w w'

theorem clip_ite (p q : Int) : Sp.clip (p, q) = (if p < 0 then 0 else p, if 32054400 < q then 32054400 else q) := by
  simp only [Sp.clip, Sp.MT]
  congr 1 <;> split <;> omega

set_option maxRecDepth 100000 in
set_option maxHeartbeats 400000 in
theorem norm_any (hsort : Hid SortSaid) (l : List Sp.S) (A : Option Addr) (cap : Nat) (w : World) (h : Rd encS 2 w w.heap.size A l) (hl : l.length ≤ 1000000000000) :
    Calls Tryz.prog 23 #[.slice A l.length cap] w fun e w' => ∃ A' cap', e = .returned (.slice A' (Sp.norm l).length cap') ∧
      w'.ownsRow w.heap.size 49 2 (.slice A' (Sp.norm l).length cap') (Sp.norm l).length (flat encS (Sp.norm l)) ∧ Below w.heap.size w w' := by
  obtain ⟨i0, hi, hz0, hz1, hz2⟩ := info_parts info_span
  go_enter Tryz.func23, Tryz.ntmps23
  go_wp2
  go_loopw [3, 12] (fun v i wr => ∃ k : Nat, k ≤ l.length ∧ i = .int .i64 k ∧ wr.ownsRow w.heap.size 49 2 v (Sp.some_ (l.take k)).length (flat encS (Sp.some_ (l.take k))) ∧ Below w.heap.size w wr) (fun _ i _ => l.length - (intOf i).toNat)
  case atStart => exact ⟨0, Nat.zero_le _, rfl, World.ownsRow_nil _ _ _ _, Below.refl _ _⟩
  case round =>
    obtain ⟨k, hk, rfl, hown, hb⟩ := hrel
    have HO := Lib.hid hown; clear hown
    by_cases hlt : k < l.length
    · obtain ⟨b, off, p, q, rfl, hbB, hx, c0, c1⟩ := h.atS hb hlt
      have HB := Lib.hid hb; clear hb
      have HH := Lib.hid h; clear h
      have hlk : (Sp.some_ (l.take k)).length ≤ k := Nat.le_trans (List.length_filter_le _ _) (by simp; omega)
      go_wp2_with (at_builtin; refine wpList_append_own _ rfl _ _ 34 rfl w.heap.size 49 i0 (.agg #[.int .i64 0, .int .i64 0]) 2 16 Tryz.underlying34 hi hz0 hz1 hz2 rfl (by decide) _ _ _ rfl ((HO.out.alloc _).alloc _) ⟨wr.heap.size + 1, 0, none⟩ 1 1 [.int .i64 (if p < 0 then 0 else p), .int .i64 (if 32054400 < q then 32054400 else q)] rfl rfl (cells_new_at _ _ _ _ (by simp)) (by simp [Value.oneCell']) (by unfold maxLen; omega) (by omega) (by have := HB.out.size; simp; omega) ?_; intro v' w1 hown' hgrow _)
      · have hlt2 : (if p < 0 then 0 else p) < if 32054400 < q then 32054400 else q := by assumption
        have e1 : Sp.some_ (l.take (k + 1)) = Sp.some_ (l.take k) ++ [(if p < 0 then 0 else p, if 32054400 < q then 32054400 else q)] := by
          rw [take_snoc hx.out, Sp.some_snoc, clip_ite, if_pos hlt2]
        have H1 : Hid (w1.ownsRow w.heap.size 49 2 v' (Sp.some_ (l.take (k + 1))).length (flat encS (Sp.some_ (l.take (k + 1))))) := by
          rw [e1, flat_snoc, List.length_append]; exact hown'
        have H2 : Hid (Below w.heap.size w w1) := ((HB.out.alloc HB.out.size _).alloc (by have := HB.out.size; simp; omega) _).grown hgrow (by have := HB.out.size; simp; omega) (fun g hg => (HO.out.lt g hg).1)
        clear hown' hgrow e1
        go_wp2
        go_roundw
        case rel => exact ⟨k + 1, by omega, by go_num, H1.out, H2.out⟩
        case measure => simp [intOf]; omega
      · have hlt2 : ¬ (if p < 0 then 0 else p) < if 32054400 < q then 32054400 else q := by simpa using ‹(if 32054400 < q then 32054400 else q) ≤ if p < 0 then 0 else p›
        have e1 : Sp.some_ (l.take (k + 1)) = Sp.some_ (l.take k) := by
          rw [take_snoc hx.out, Sp.some_snoc, clip_ite, if_neg hlt2, List.append_nil]
        go_wp2
        go_roundw
        case rel => exact ⟨k + 1, by omega, by go_num, by rw [e1]; exact HO.out.alloc _, HB.out.alloc HB.out.size _⟩
        case measure => simp [intOf]; omega
    · obtain rfl : k = l.length := by omega
      rw [List.take_length] at HO
      obtain ⟨L, hL⟩ : ∃ L, L = Sp.some_ l := ⟨_, rfl⟩
      rw [← hL] at HO
      have HL := Lib.hid hL; clear hL
      have HB := Lib.hid hb; clear hb
      have hLl : L.length ≤ 1000000000000 := by rw [HL.out]; exact Nat.le_trans (Sp.some_length l) hl
      obtain ⟨A3, cap3, rfl, _, _⟩ := own_form HO.out
      clear h
      go_wp2_with (go_at_call 60; refine (hsort.out L A3 cap3 _ _ HO.out hLl).mono ?_; rintro e w2 ⟨rfl, m, hp, hs, ho2, hb2⟩)
      have hml : m.length = L.length := hp.out.length_eq
      have HB2 : Hid (Below w.heap.size w w2) := HB.out.trans hb2
      have hR : Hid (Rd encS 2 w2 w2.heap.size A3 m) := Rd.of_own' encS_len ho2.out hml.symm
      have HM := Lib.hid hml; clear hml hb2 ho2
      go_loopw [6, 37] (fun v i wx => ∃ k : Nat, k ≤ L.length ∧ i = .int .i64 k ∧ wx.ownsRow w2.heap.size 49 2 v ((m.take k).foldl Sp.stepM []).length (flat encS ((m.take k).foldl Sp.stepM [])) ∧ Below w2.heap.size w2 wx) (fun _ i _ => L.length - (intOf i).toNat)
      case atStart => exact ⟨0, Nat.zero_le _, rfl, World.ownsRow_nil _ _ _ _, Below.refl _ _⟩
      case round =>
        obtain ⟨k, hk, rfl, hown, hb⟩ := hrel
        have HO2 := Lib.hid hown; clear hown
        have HB3 := Lib.hid hb; clear hb
        by_cases hlt : k < L.length
        · have hkm : k < m.length := by rw [HM.out]; exact hlt
          obtain ⟨b, off, p, q, rfl, hbB, hx, c0, c1⟩ := hR.out.atS HB3.out hkm
          clear hkm
          have hsz := HB3.out.size
          have hlen := Sp.foldM_length (m.take k) []
          have hlt2 : (m.take k).length ≤ k := by simp; omega
          obtain ⟨M, hM⟩ : ∃ M, M = (m.take k).foldl Sp.stepM [] := ⟨_, rfl⟩
          rw [← hM] at HO2 hlen
          have hMl : M.length ≤ k := by simp at hlen; omega
          have hstep : (m.take (k + 1)).foldl Sp.stepM [] = Sp.stepM M (p, q) := by rw [take_snoc hx.out, List.foldl_append, ← hM]; rfl
          have HS := Lib.hid hstep
          clear hM hlen hlt2 hstep
          obtain ⟨A6, cap6, rfl, _, _⟩ := own_form HO2.out
          rcases List.eq_nil_or_concat M with rfl | ⟨o, ⟨x1, x2⟩, hMc⟩
          · go_wp2_with fail
            go_quiet (fail)
            go_wp2_with (at_builtin; refine wpList_append_own _ rfl _ _ 34 rfl w2.heap.size 49 i0 (.agg #[.int .i64 0, .int .i64 0]) 2 16 Tryz.underlying34 hi hz0 hz1 hz2 rfl (by decide) _ _ _ rfl ((own_drewN (HO2.out.alloc _) _).alloc _) ⟨wr.heap.size + 1, 0, none⟩ 1 1 [.int .i64 p, .int .i64 q] rfl rfl (cells_new_at _ _ _ _ (by simp)) (by simp [Value.oneCell']) (by unfold maxLen; omega) (by omega) (by simp; omega) ?_; intro v' w1 hown' hgrow _)
            have H1 : Hid (w1.ownsRow w2.heap.size 49 2 v' ((m.take (k + 1)).foldl Sp.stepM []).length (flat encS ((m.take (k + 1)).foldl Sp.stepM []))) := by
              rw [HS.out, show Sp.stepM [] (p, q) = [] ++ [(p, q)] from rfl, flat_snoc, List.length_append]; exact hown'
            have H2 : Hid (Below w2.heap.size w2 w1) := ((below_drewN (HB3.out.alloc hsz _) _).alloc (by simp; omega) _).grown hgrow (by simp; omega) (fun g hg => (HO2.out.lt g hg).1)
            clear hown' hgrow
            go_wp2
            go_roundw
            case rel => exact ⟨k + 1, by omega, by go_num, H1.out, H2.out⟩
            case measure => simp [intOf]; omega
          · rw [List.concat_eq_append] at hMc
            subst hMc
            rw [show (o ++ [(x1, x2)]).length = o.length + 1 from by simp] at HO2 hMl
            obtain ⟨g, rfl, hgb, hgl, d0, d1, f1, f0⟩ := own_lastS HO2.out rfl
            have hne : g ≠ wr.heap.size := by omega
            have hok : o.length + 1 ≤ 1000000000000 := by omega
            have q1 : IntKind.i64.wrap (o.length : Int) = o.length := IntWalk.i64_in _ (by omega)
            have q2 : (o.length : Int) < (o.length : Int) + 1 := by omega
            have q3 : (0 : Int) ≤ (o.length : Int) := by omega
            by_cases hle : p ≤ x2
            · go_wp2_with fail
              go_quiet (fail)
              go_wp2_with fail
              go_region
              have H1 : Hid (∀ W : World, W = ((wr.alloc (.cells #[.int .i64 p, .int .i64 q] 49)).drewN (nq + 1)).setCell ⟨g, o.length * 2 + 1, none⟩ (.int .i64 (if x2 < q then q else x2)) →
                  W.ownsRow w2.heap.size 49 2 (.slice (some ⟨g, 0, none⟩) (o.length + 1) cap6) ((m.take (k + 1)).foldl Sp.stepM []).length (flat encS ((m.take (k + 1)).foldl Sp.stepM [])) ∧ Below w2.heap.size w2 W) := by
                rintro W rfl
                refine ⟨?_, (below_drewN (HB3.out.alloc hsz _) _).setCell hgb _⟩
                rw [HS.out, Sp.stepM_snoc, if_pos hle, show max x2 q = if x2 < q then q else x2 from by split <;> omega, ← flat_setS, show (o ++ [(x1, if x2 < q then q else x2)]).length = o.length + 1 from by simp]
                exact own_set (own_drewN (HO2.out.alloc _) _) _ _
              clear HS
              go_wp2
              go_roundw
              case rel =>
                rw [show (o ++ [(x1, x2)]).length = o.length + 1 from by simp]
                exact ⟨k + 1, by omega, by go_num, H1.out _ rfl⟩
              case measure => simp [intOf]; omega
            · have hle2 : decide (p ≤ x2) = false := by simpa using hle
              have hle3 := Lib.hid hle; clear hle
              go_wp2_with fail
              go_quiet (fail)
              go_wp2_with (at_builtin; refine wpList_append_own _ rfl _ _ 34 rfl w2.heap.size 49 i0 (.agg #[.int .i64 0, .int .i64 0]) 2 16 Tryz.underlying34 hi hz0 hz1 hz2 rfl (by decide) _ _ _ rfl ((own_drewN (HO2.out.alloc _) _).alloc _) ⟨wr.heap.size + 1, 0, none⟩ 1 1 [.int .i64 p, .int .i64 q] rfl rfl (cells_new_at _ _ _ _ (by simp)) (by simp [Value.oneCell']) (by unfold maxLen; omega) (by omega) (by simp; omega) ?_; intro v' w1 hown' hgrow _)
              have H1 : Hid (w1.ownsRow w2.heap.size 49 2 v' ((m.take (k + 1)).foldl Sp.stepM []).length (flat encS ((m.take (k + 1)).foldl Sp.stepM []))) := by
                rw [HS.out, Sp.stepM_snoc, if_neg (by have := hle3.out; omega), flat_snoc, show (o ++ [(x1, x2)] ++ [(p, q)]).length = o.length + 1 + 1 from by simp]; exact hown'
              have H2 : Hid (Below w2.heap.size w2 w1) := ((below_drewN (HB3.out.alloc hsz _) _).alloc (by simp; omega) _).grown hgrow (by simp; omega) (fun g hg => (HO2.out.lt g hg).1)
              clear hown' hgrow
              go_wp2
              go_roundw
              case rel => exact ⟨k + 1, by omega, by go_num, H1.out, H2.out⟩
              case measure => simp [intOf]; omega
        · obtain rfl : k = L.length := by omega
          have hfin : (m.take L.length).foldl Sp.stepM [] = Sp.norm l := by
            rw [← HM.out, List.take_length]
            exact Sp.merge_norm (by rw [← HL.out]; exact hp.out) hs.out
          rw [hfin] at HO2
          clear hfin
          have HF : Hid (Below w.heap.size w wr) := HB2.out.trans (HB3.out.mono HB2.out.size)
          have HG : Hid (w.heap.size ≤ w2.heap.size) := HB2.out.size
          obtain ⟨A6, cap6, rfl, _, _⟩ := own_form HO2.out
          go_wp2
          go_ret
          exact ⟨A6, cap6, rfl, own_base HO2.out HG.out, HF.out⟩
end Go.Proofs.YtnhmibfgaoealaaGreat
