/-
  And
  Anb
-/
import Derived.Test.YtnhmibfgaoealaaGreatSor
namespace Go.Proofs.YtnhmibfgaoealaaGreat
open Go.RowKit

/-- A norm's call, in a world that keeps what lay below a number. -/
theorem norm_at {B : Nat} {w wr : World} (hb : Below B w wr) (hB : B ≤ wr.heap.size) (l : List Sp.S) (A : Option Addr) (cap : Nat) (h : Rd encS 2 wr wr.heap.size A l) (hl : l.length ≤ 1000000000000) :
    Calls Tryz.prog 23 #[.slice A l.length cap] wr fun e w' => ∃ A' cap', e = .returned (.slice A' (Sp.norm l).length cap') ∧
      Hid (Rd encS 2 w' w'.heap.size A' (Sp.norm l)) ∧ Hid (w'.ownsRow wr.heap.size 49 2 (.slice A' (Sp.norm l).length cap') (Sp.norm l).length (flat encS (Sp.norm l))) ∧ Hid (Below B w w') ∧ Hid (Below wr.heap.size wr w') := by
  refine (norm_all l A cap wr h hl).mono ?_
  rintro e w' ⟨A', cap', rfl, ho, hbw⟩
  exact ⟨A', cap', rfl, Rd.of_own encS_len ho, ho, hb.trans (hbw.mono hB), hbw⟩

theorem sumLen_snoc (l : List Sp.S) (s : Sp.S) : Sp.sumLen (l ++ [s]) = Sp.sumLen l + (s.2 - s.1) := by simp [Sp.sumLen]

theorem sumLen_take_le {l : List Sp.S} (h : Sp.Plain l) (k : Nat) : 0 ≤ Sp.sumLen (l.take k) ∧ Sp.sumLen (l.take k) ≤ 32054400 := by
  have hp : ∀ (lo : Int) (l : List Sp.S) (k : Nat), Sp.PlainFrom lo l → Sp.PlainFrom lo (l.take k) := by
    intro lo l
    induction l generalizing lo with
    | nil => intro k _; simp [Sp.PlainFrom]
    | cons s r ih =>
      intro k hk
      cases k with
      | zero => trivial
      | succ k => exact ⟨hk.1, hk.2.1, hk.2.2.1, ih _ k hk.2.2.2⟩
  have h1 := hp 0 l k h
  have h2 := Sp.sumLen_le h1 (by decide)
  exact ⟨Sp.sumLen_nonneg h1, by simpa [Sp.MT] using h2⟩

set_option maxRecDepth 100000 in
set_option maxHeartbeats 400000 in
theorem size_any (l : List Sp.S) (A : Option Addr) (cap : Nat) (w : World) (h : Rd encS 2 w w.heap.size A l) (hl : l.length ≤ 1000000000000) :
    Calls Tryz.prog 26 #[.slice A l.length cap] w fun e w' => e = .returned (.int .i64 (Sp.size l)) ∧ Below w.heap.size w w' := by
  have hP := Lib.hid (Sp.norm_plain l)
  have hL : (Sp.norm l).length ≤ 1000000000000 := Nat.le_trans (Sp.norm_length l) hl
  obtain ⟨R, hR⟩ : ∃ R, R = Sp.size l := ⟨_, rfl⟩
  rw [← hR]
  have hcall := fun W hb hB => norm_at (B := w.heap.size) (w := w) (wr := W) hb hB l A cap
  have HC := Lib.hid hcall; clear hcall
  obtain ⟨N, hN⟩ : ∃ N, N = Sp.norm l := ⟨_, rfl⟩
  rw [← hN] at hP hL
  have HR : Hid (R = Sp.sumLen N) := by rw [hR, hN]; rfl
  have HN := Lib.hid hN; clear hN hR
  go_enter Tryz.func26, Tryz.ntmps26
  go_wp2_with (go_at_call 23; refine (HC.out w (Below.refl _ _) (Nat.le_refl _) h hl).mono ?_; rw [← HN.out]; rintro e w1 ⟨A1, cap1, rfl, hR1, _, hb1, _⟩)
  go_loopw [2, 8] (fun v i wr => ∃ k : Nat, k ≤ N.length ∧ i = .int .i64 k ∧ v = .int .i64 (Sp.sumLen (N.take k)) ∧ Below w1.heap.size w1 wr) (fun _ i _ => N.length - (intOf i).toNat)
  case atStart => exact ⟨0, Nat.zero_le _, rfl, rfl, Below.refl _ _⟩
  case round =>
    obtain ⟨k, hk, rfl, rfl, hb⟩ := hrel
    by_cases hlt : k < N.length
    · obtain ⟨b, off, p, q, rfl, hbB, hx, c0, c1⟩ := hR1.out.atS hb hlt
      have HB := Lib.hid hb; clear hb
      obtain ⟨s0, s1⟩ := sumLen_take_le hP.out k
      obtain ⟨t0, t1⟩ := sumLen_take_le hP.out (k + 1)
      have hbd := Sp.PlainFrom.bd hP.out (p, q) (List.mem_of_getElem? hx.out)
      simp only [Sp.MT] at hbd
      rw [take_snoc hx.out, sumLen_snoc] at t0 t1
      have hs : Sp.sumLen (N.take (k + 1)) = Sp.sumLen (N.take k) + (q - p) := by rw [take_snoc hx.out, sumLen_snoc]
      have HS := Lib.hid hs; clear hs
      obtain ⟨Z, hZ⟩ : ∃ Z, Z = Sp.sumLen (N.take k) := ⟨_, rfl⟩
      rw [← hZ] at s0 s1 t0 t1 HS ⊢
      clear hZ
      simp only at hbd t0 t1
      obtain ⟨g1, g2, g3⟩ := hbd
      go_wp2
      go_roundw
      case rel => exact ⟨k + 1, by omega, by go_num, by rw [HS.out], HB.out.alloc HB.out.size _⟩
      case measure => simp [intOf]; omega
    · obtain rfl : k = N.length := by omega
      have hfin : Hid (Below w.heap.size w wr) := hb1.out.trans (hb.mono hb1.out.size)
      rw [List.take_length, ← HR.out]
      clear hb h
      go_wp2
      go_ret
      exact ⟨rfl, hfin.out⟩
end Go.Proofs.YtnhmibfgaoealaaGreat
namespace Go.Proofs.YtnhmibfgaoealaaGreat
open Go.RowKit

def pairs (x : Sp.S) (b : List Sp.S) : List Sp.S := b.map fun t => (max x.1 t.1, min x.2 t.2)
def cross (a b : List Sp.S) : List Sp.S := a.flatMap fun s => pairs s b
theorem pairs_length (x : Sp.S) (b : List Sp.S) : (pairs x b).length = b.length := by simp [pairs]
theorem pairs_snoc {x1 x2 p q : Int} {b : List Sp.S} {j : Nat} (h : b[j]? = some (p, q)) : pairs (x1, x2) (b.take (j + 1)) = pairs (x1, x2) (b.take j) ++ [(max x1 p, min x2 q)] := by
  rw [take_snoc h, pairs, List.map_append]; rfl
theorem cross_snoc {a b : List Sp.S} {k : Nat} {x : Sp.S} (h : a[k]? = some x) : cross (a.take (k + 1)) b = cross (a.take k) b ++ pairs x b := by
  rw [take_snoc h, cross, List.flatMap_append]; simp [cross]
theorem cross_length (a b : List Sp.S) : (cross a b).length = a.length * b.length := by
  induction a with
  | nil => simp [cross]
  | cons x r ih => rw [cross, List.flatMap_cons, List.length_append, pairs_length, List.length_cons, Nat.add_mul]; show _ + (cross r b).length = _; rw [ih]; omega
theorem and_cross (a b : List Sp.S) : Sp.and_ a b = Sp.norm (cross (Sp.norm a) (Sp.norm b)) := rfl
theorem cross_bound {k j x y M : Nat} (hk : k < x) (hj : j ≤ y) (h : x * y ≤ M) : k * y + j ≤ M := by
  have := Nat.mul_le_mul_right y (show k + 1 ≤ x from hk)
  rw [Nat.add_mul] at this; omega

set_option maxRecDepth 100000 in
set_option maxHeartbeats 1000000 in
theorem and_any (a b : List Sp.S) (A1 A2 : Option Addr) (c1 c2 : Nat) (w : World) (h1 : Rd encS 2 w w.heap.size A1 a) (h2 : Rd encS 2 w w.heap.size A2 b) (l1 : a.length ≤ 1000000000000) (l2 : b.length ≤ 1000000000000) (hl : (Sp.norm a).length * (Sp.norm b).length ≤ 1000000000000) :
    Calls Tryz.prog 67 #[.slice A1 a.length c1, .slice A2 b.length c2] w fun e w' => ∃ A' cap', e = .returned (.slice A' (Sp.and_ a b).length cap') ∧
      w'.ownsRow w.heap.size 49 2 (.slice A' (Sp.and_ a b).length cap') (Sp.and_ a b).length (flat encS (Sp.and_ a b)) ∧ Below w.heap.size w w' := by
  obtain ⟨R, hR⟩ : ∃ R, R = Sp.and_ a b := ⟨_, rfl⟩
  rw [← hR]
  have hc1 := fun W hb hB => norm_at (B := w.heap.size) (w := w) (wr := W) hb hB a A1 c1
  have hc2 := fun W hb hB => norm_at (B := w.heap.size) (w := w) (wr := W) hb hB b A2 c2
  have hc3 := fun W hb hB => norm_at (B := w.heap.size) (w := w) (wr := W) hb hB
  obtain ⟨Na, hNa⟩ : ∃ N, N = Sp.norm a := ⟨_, rfl⟩
  obtain ⟨Nb, hNb⟩ : ∃ N, N = Sp.norm b := ⟨_, rfl⟩
  rw [← hNa] at hc1 hl
  rw [← hNb] at hc2 hl
  have hNa1 : Na.length ≤ 1000000000000 := by rw [hNa]; exact Nat.le_trans (Sp.norm_length a) l1
  have hNb1 : Nb.length ≤ 1000000000000 := by rw [hNb]; exact Nat.le_trans (Sp.norm_length b) l2
  have HR : Hid (R = Sp.norm (cross Na Nb)) := by rw [hR, hNa, hNb]; rfl
  have HC1 := Lib.hid hc1; have HC2 := Lib.hid hc2; have HC3 := Lib.hid hc3; clear hc1 hc2 hc3 hNa hNb hR
  have H1 := Lib.hid h1; have H2 := Lib.hid h2; clear h1 h2
  go_enter Tryz.func67, Tryz.ntmps67
  go_wp2_with (go_at_call 23; refine (HC1.out w (Below.refl _ _) (Nat.le_refl _) H1.out l1).mono ?_; rintro e w1 ⟨A3, cap3, rfl, hR1, _, hb1, _⟩)
  go_loopw [5, 13] (fun v i wr => ∃ k : Nat, k ≤ Na.length ∧ i = .int .i64 k ∧ wr.ownsRow w1.heap.size 49 2 v (cross (Na.take k) Nb).length (flat encS (cross (Na.take k) Nb)) ∧ Below w1.heap.size w1 wr) (fun _ i _ => Na.length - (intOf i).toNat)
  case atStart => exact ⟨0, Nat.zero_le _, rfl, World.ownsRow_nil _ _ _ _, Below.refl _ _⟩
  case round =>
    obtain ⟨k, hk, rfl, hown, hb⟩ := hrel
    have HO := Lib.hid hown; clear hown
    by_cases hlt : k < Na.length
    · obtain ⟨b1, off1, x1, x2, rfl, hbB, hx, c0, c1⟩ := hR1.out.atS hb hlt
      have HB := Lib.hid hb; clear hb
      obtain ⟨wo, rfl⟩ : ∃ wo, wo = wr := ⟨_, rfl⟩
      have hsz1 : Hid (w1.heap.size ≤ wo.heap.size) := HB.out.size
      have hsz : Hid (w.heap.size ≤ wo.heap.size) := Nat.le_trans hb1.out.size hsz1.out
      have HBo : Hid (Below w.heap.size w wo) := hb1.out.trans (HB.out.mono hb1.out.size)
      go_wp2_with (go_at_call 23; refine (HC2.out _ (HBo.out.alloc hsz.out _) (by have := hsz.out; simp; omega) (H2.out.below (HBo.out.alloc hsz.out _) |>.more (by have := hsz.out; simp; omega)) l2).mono ?_; rintro e w2 ⟨A4, cap4, rfl, _, ho4, _, hb2⟩)
      have hwo2 : Hid (wo.heap.size + 1 ≤ w2.heap.size) := by have := hb2.out.size; rw [World.size_alloc] at this; exact this
      have hk0 : w2.cell? ⟨wo.heap.size, 0, none⟩ = some (.int .i64 x1) := by
        have := hb2.out.cell (p := ⟨wo.heap.size, 0, none⟩) (by simp)
        rw [this]; simp
      have hk1 : w2.cell? ⟨wo.heap.size, 1, none⟩ = some (.int .i64 x2) := by
        have := hb2.out.cell (p := ⟨wo.heap.size, 1, none⟩) (by simp)
        rw [this]; simp
      have HK0 := Lib.hid hk0; have HK1 := Lib.hid hk1; clear hk0 hk1 c0 c1
      go_loopw [5, 20] (fun v i wx => ∃ j : Nat, j ≤ Nb.length ∧ i = .int .i64 j ∧ wx.ownsRow w1.heap.size 49 2 v (cross (Na.take k) Nb ++ pairs (x1, x2) (Nb.take j)).length (flat encS (cross (Na.take k) Nb ++ pairs (x1, x2) (Nb.take j))) ∧ Below w1.heap.size w1 wx ∧ Mid wo.heap.size w2.heap.size w2 wx ∧ (∀ g, v.ownBlock = some g → g < wo.heap.size ∨ w2.heap.size ≤ g)) (fun _ i _ => Nb.length - (intOf i).toNat)
      case atStart =>
        refine ⟨0, Nat.zero_le _, rfl, ?_, (HB.out.alloc hsz1.out _).trans (hb2.out.mono (by have := hsz1.out; simp; omega)), Mid.refl _ _ _, ?_⟩
        · simp only [List.take_zero, pairs, List.map_nil, List.append_nil]
          exact own_below (HO.out.alloc _) hb2.out
        · intro g hg; exact .inl (HO.out.lt g hg).2
      case round =>
        obtain ⟨j, hj, rfl, hown2, hB2, hM2, hblk⟩ := hrel
        have HO2 := Lib.hid hown2; have HB2 := Lib.hid hB2; have HM2 := Lib.hid hM2; have HBK := Lib.hid hblk; clear hown2 hB2 hM2 hblk
        by_cases hlt2 : j < Nb.length
        · obtain ⟨g, p, q, rfl, hg0, hg1, hy, d0, d1⟩ := own_atS ho4.out hlt2
          have k0 : wr.cell? ⟨wo.heap.size, 0, none⟩ = some (.int .i64 x1) := (HM2.out.cell (p := ⟨wo.heap.size, 0, none⟩) (Nat.le_refl _) (by have := hwo2.out; simp; omega)).trans HK0.out
          have k1 : wr.cell? ⟨wo.heap.size, 1, none⟩ = some (.int .i64 x2) := (HM2.out.cell (p := ⟨wo.heap.size, 1, none⟩) (Nat.le_refl _) (by have := hwo2.out; simp; omega)).trans HK1.out
          have d0' := (HM2.out.cell (p := ⟨g, j * 2, none⟩) (by simp at hg0; simp; omega) hg1).trans d0
          have d1' := (HM2.out.cell (p := ⟨g, j * 2 + 1, none⟩) (by simp at hg0; simp; omega) hg1).trans d1
          have hsw := HM2.out.size
          have hne1 : wo.heap.size < wr.heap.size := by have := hwo2.out; omega
          have hne2 : g < wr.heap.size := by omega
          have hNl : (cross (Na.take k) Nb ++ pairs (x1, x2) (Nb.take j)).length ≤ 1000000000000 := by
            rw [List.length_append, cross_length, pairs_length, List.length_take, List.length_take, Nat.min_eq_left hk, Nat.min_eq_left hj]
            exact cross_bound hlt hj hl
          have HNl := Lib.hid hNl; clear hNl d0 d1
          go_wp2_with (at_builtin; refine app_span _ _ _ rfl rfl w1.heap.size _ _ _ rfl ((HO2.out.alloc _).alloc _) (max x1 p) (min x2 q) (wr.heap.size + 1) 1 rfl (by go_simp) (by go_simp) (by have := HNl.out; omega) (by have := HB2.out.size; simp; omega) ?_; intro v' w3 hown' hgrow hv')
          have hbk' : Hid (∀ g, v'.ownBlock = some g → g < wo.heap.size ∨ w2.heap.size ≤ g) := by
            intro g hg
            rcases hv' with h | h
            · rw [h] at hg; exact HBK.out g hg
            · rw [h] at hg; simp at hg; omega
          have H3 : Hid (w3.ownsRow w1.heap.size 49 2 v' (cross (Na.take k) Nb ++ pairs (x1, x2) (Nb.take (j + 1))).length (flat encS (cross (Na.take k) Nb ++ pairs (x1, x2) (Nb.take (j + 1))))) := by
            rw [pairs_snoc hy.out, ← List.append_assoc, List.length_append]
            exact hown'
          have H4 : Hid (Below w1.heap.size w1 w3) := ((HB2.out.alloc HB2.out.size _).alloc (by have := HB2.out.size; simp; omega) _).grown hgrow (by have := HB2.out.size; simp; omega) (fun g hg => (HO2.out.lt g hg).1)
          have H5 : Hid (Mid wo.heap.size w2.heap.size w2 w3) := ((HM2.out.alloc (Nat.le_refl _) _).alloc (Nat.le_refl _) _).grown (Nat.le_refl _) hgrow HBK.out
          clear hown' hgrow hv'
          go_wp2
          go_roundw
          case rel => exact ⟨j + 1, by omega, by go_num, H3.out, H4.out, H5.out, hbk'.out⟩
          case measure => simp [intOf]; omega
        · obtain rfl : j = Nb.length := by omega
          rw [List.take_length, ← cross_snoc hx.out] at HO2
          go_wp2
          go_roundw
          case rel => exact ⟨k + 1, by omega, by go_num, HO2.out, HB2.out⟩
          case measure => simp [intOf]; omega
    · obtain rfl : k = Na.length := by omega
      rw [List.take_length] at HO
      have HBo : Hid (Below w.heap.size w wr) := hb1.out.trans (hb.mono hb1.out.size)
      clear hb
      obtain ⟨A5, cap5, rfl, _, _⟩ := own_form HO.out
      have hlen : (cross Na Nb).length ≤ 1000000000000 := by rw [cross_length]; exact hl
      obtain ⟨C, hC⟩ : ∃ C, C = cross Na Nb := ⟨_, rfl⟩
      rw [← hC] at HO HR hlen ⊢
      clear hC
      go_wp2_with (go_at_call 23; refine (HC3.out _ HBo.out HBo.out.size C A5 cap5 (Rd.of_own encS_len HO.out) hlen).mono ?_; rw [← HR.out]; rintro e w2 ⟨A6, cap6, rfl, _, ho6, hb6, _⟩)
      go_ret
      exact ⟨A6, cap6, rfl, own_base ho6.out HBo.out.size, hb6.out⟩
end Go.Proofs.YtnhmibfgaoealaaGreat
