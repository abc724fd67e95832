/-
  Fst
  Has
-/
import Derived.Test.YtnhmibfgaoealaaGreatMd
import Derived.Test.YtnhmibfgaoealaaGreatLay
import Derived.Lib.SliceRun
namespace Go.Proofs.YtnhmibfgaoealaaGreat
open Go.RowKit

theorem firstP_cons (s : Sp.S) (r : List Sp.S) {m e : Int} (h : 0 < m) (he : min s.2 (s.1 + min m Sp.MT) = e) : Sp.firstP (s :: r) m = (s.1, e) :: Sp.firstP r (m - (e - s.1)) := by
  rw [Sp.firstP, if_neg (by omega), he]
theorem drop_cons {α : Type} {l : List α} {k : Nat} {x : α} (h : l[k]? = some x) : l.drop k = x :: l.drop (k + 1) := by
  obtain ⟨hk, rfl⟩ := List.getElem?_eq_some_iff.1 h
  exact List.drop_eq_getElem_cons hk

theorem first_step {N D : List Sp.S} {n m p q e : Int} {k : Nat} (hx : N[k]? = some (p, q)) (h : Sp.firstP N n = D ++ Sp.firstP (N.drop k) m) (hm : 0 < m) (he : min q (p + min m Sp.MT) = e) :
    Sp.firstP N n = (D ++ [(p, e)]) ++ Sp.firstP (N.drop (k + 1)) (m - (e - p)) := by
  rw [h, drop_cons hx, firstP_cons (p, q) _ hm he, List.append_assoc]; rfl

theorem firstP_length (p : List Sp.S) (n : Int) : (Sp.firstP p n).length ≤ p.length := by
  induction p generalizing n with
  | nil => simp [Sp.firstP]
  | cons s r ih =>
    unfold Sp.firstP
    split
    · simp
    · have := ih (n - (min s.2 (s.1 + min n Sp.MT) - s.1)); simp; omega

set_option maxRecDepth 100000 in
set_option maxHeartbeats 1000000 in
theorem first_any (l : List Sp.S) (A : Option Addr) (cap : Nat) (n : Int) (w : World) (h : Rd encS 2 w w.heap.size A l) (hl : l.length ≤ 1000000000000) (hn : -9223372036854775808 ≤ n ∧ n ≤ 9223372036854775807) :
    Calls Tryz.prog 70 #[.slice A l.length cap, .int .i64 n] w fun e w' => ∃ A' cap', e = .returned (.slice A' (Sp.first l n).length cap') ∧
      w'.ownsRow w.heap.size 49 2 (.slice A' (Sp.first l n).length cap') (Sp.first l n).length (flat encS (Sp.first l n)) ∧ Below w.heap.size w w' := by
  have hP := Lib.hid (Sp.norm_plain l)
  have hL : (Sp.norm l).length ≤ 1000000000000 := Nat.le_trans (Sp.norm_length l) hl
  obtain ⟨R, hR⟩ : ∃ R, R = Sp.first l n := ⟨_, rfl⟩
  rw [← hR]
  have hcall := fun W hb hB => norm_at (B := w.heap.size) (w := w) (wr := W) hb hB l A cap
  have HC := Lib.hid hcall; clear hcall
  obtain ⟨N, hN⟩ : ∃ N, N = Sp.norm l := ⟨_, rfl⟩
  rw [← hN] at hP hL
  have HR : Hid (R = Sp.firstP N n) := by rw [hR, hN]; rfl
  have HN := Lib.hid hN; clear hN hR
  go_enter Tryz.func70, Tryz.ntmps70
  go_wp2_with (go_at_call 23; refine (HC.out w (Below.refl _ _) (Nat.le_refl _) h hl).mono ?_; rw [← HN.out]; rintro e w1 ⟨A1, cap1, rfl, hR1, _, hb1, _⟩)
  go_loopw [1, 4, 10] (fun nv v i wr => ∃ (k : Nat) (m : Int) (D : List Sp.S), k ≤ N.length ∧ i = .int .i64 k ∧ nv = .int .i64 m ∧ (-9223372036854775808 ≤ m ∧ m ≤ 9223372036854775807) ∧ Hid (Sp.firstP N n = D ++ Sp.firstP (N.drop k) m) ∧ D.length ≤ k ∧ wr.ownsRow w1.heap.size 49 2 v D.length (flat encS D) ∧ Below w1.heap.size w1 wr) (fun _ _ i _ => N.length - (intOf i).toNat)
  case atStart => exact ⟨0, n, [], Nat.zero_le _, rfl, rfl, hn, (rfl : _ = _), Nat.le_refl _, World.ownsRow_nil _ _ _ _, Below.refl _ _⟩
  case round =>
    obtain ⟨k, m, D, hk, rfl, rfl, ⟨m1, m2⟩, hD, hDk, hown, hb⟩ := hrel
    have HO := Lib.hid hown; clear hown
    by_cases hlt : k < N.length
    · obtain ⟨b, off, p, q, rfl, hbB, hx, c0, c1⟩ := hR1.out.atS hb hlt
      have HB := Lib.hid hb; clear hb
      have hbd := Sp.PlainFrom.bd hP.out (p, q) (List.mem_of_getElem? hx.out)
      simp only [Sp.MT] at hbd
      obtain ⟨g1, g2, g3⟩ := hbd
      by_cases hm0 : m ≤ 0
      · have hRD : Hid (R = D) := by
          show R = D
          rw [HR.out, hD.out, Sp.firstP_nonpos _ hm0, List.append_nil]
        have HF : Hid (Below w.heap.size w wr) := hb1.out.trans (HB.out.mono hb1.out.size)
        rw [← hRD.out] at HO
        obtain ⟨A5, cap5, rfl, _, _⟩ := own_form HO.out
        have HG : Hid (w.heap.size ≤ w1.heap.size) := hb1.out.size
        go_wp2
        go_ret
        exact ⟨A5, cap5, rfl, own_base (HO.out.alloc _) HG.out, HF.out.alloc HF.out.size _⟩
      · by_cases hbig : 32054400 < m
        · have hmin : min q (p + min m 32054400) = q := by omega
          have hst := Lib.hid (first_step (e := q) hx.out hD.out (by omega) (by simp only [Sp.MT]; omega))
          clear hD
          go_wp2_with (at_builtin; refine app_span _ _ _ rfl rfl w1.heap.size _ _ _ rfl ((HO.out.alloc _).alloc _) p q (wr.heap.size + 1) 1 rfl (by go_simp) (by go_simp) (by omega) (by have := HB.out.size; simp; omega) ?_; intro v' w3 hown' hgrow _)
          have H3 : Hid (w3.ownsRow w1.heap.size 49 2 v' (D ++ [(p, q)]).length (flat encS (D ++ [(p, q)]))) := by rw [List.length_append]; exact hown'
          have H4 : Hid (Below w1.heap.size w1 w3) := ((HB.out.alloc HB.out.size _).alloc (by have := HB.out.size; simp; omega) _).grown hgrow (by have := HB.out.size; simp; omega) (fun g hg => (HO.out.lt g hg).1)
          clear hown' hgrow
          go_wp2
          go_roundw
          case rel => exact ⟨k + 1, m - (q - p), D ++ [(p, q)], by omega, by go_num, by go_num, by omega, hst.out, by simp; omega, H3.out, H4.out⟩
          case measure => simp [intOf]; omega
        · by_cases hq : q ≤ p + m
          · have hmin : min q (p + min m 32054400) = q := by omega
            have hst := Lib.hid (first_step (e := q) hx.out hD.out (by omega) (by simp only [Sp.MT]; omega))
            clear hD
            go_wp2_with (at_builtin; refine app_span _ _ _ rfl rfl w1.heap.size _ _ _ rfl ((HO.out.alloc _).alloc _) p q (wr.heap.size + 1) 1 rfl (by go_simp) (by go_simp) (by omega) (by have := HB.out.size; simp; omega) ?_; intro v' w3 hown' hgrow _)
            have H3 : Hid (w3.ownsRow w1.heap.size 49 2 v' (D ++ [(p, q)]).length (flat encS (D ++ [(p, q)]))) := by rw [List.length_append]; exact hown'
            have H4 : Hid (Below w1.heap.size w1 w3) := ((HB.out.alloc HB.out.size _).alloc (by have := HB.out.size; simp; omega) _).grown hgrow (by have := HB.out.size; simp; omega) (fun g hg => (HO.out.lt g hg).1)
            clear hown' hgrow
            go_wp2
            go_roundw
            case rel => exact ⟨k + 1, m - (q - p), D ++ [(p, q)], by omega, by go_num, by go_num, by omega, hst.out, by simp; omega, H3.out, H4.out⟩
            case measure => simp [intOf]; omega
          · have hmin : min q (p + min m 32054400) = p + m := by omega
            have hst := Lib.hid (first_step (e := p + m) hx.out hD.out (by omega) (by simp only [Sp.MT]; omega))
            clear hD
            go_wp2_with (at_builtin; refine app_span _ _ _ rfl rfl w1.heap.size _ _ _ rfl ((HO.out.alloc _).alloc _) p (p + m) (wr.heap.size + 1) 1 rfl (by go_simp) (by go_simp) (by omega) (by have := HB.out.size; simp; omega) ?_; intro v' w3 hown' hgrow _)
            have H3 : Hid (w3.ownsRow w1.heap.size 49 2 v' (D ++ [(p, p + m)]).length (flat encS (D ++ [(p, p + m)]))) := by rw [List.length_append]; exact hown'
            have H4 : Hid (Below w1.heap.size w1 w3) := ((HB.out.alloc HB.out.size _).alloc (by have := HB.out.size; simp; omega) _).grown hgrow (by have := HB.out.size; simp; omega) (fun g hg => (HO.out.lt g hg).1)
            clear hown' hgrow
            go_wp2
            go_roundw
            case rel => exact ⟨k + 1, m - (p + m - p), D ++ [(p, p + m)], by omega, by go_num, by go_num, by omega, hst.out, by simp; omega, H3.out, H4.out⟩
            case measure => simp [intOf]; omega
    · obtain rfl : k = N.length := by omega
      have hRD : Hid (R = D) := by
        show R = D
        rw [HR.out, hD.out, List.drop_length]; simp [Sp.firstP]
      have HF : Hid (Below w.heap.size w wr) := hb1.out.trans (hb.mono hb1.out.size)
      rw [← hRD.out] at HO
      obtain ⟨A5, cap5, rfl, _, _⟩ := own_form HO.out
      have HG : Hid (w.heap.size ≤ w1.heap.size) := hb1.out.size
      clear hb h
      go_wp2
      go_ret
      exact ⟨A5, cap5, rfl, own_base HO.out HG.out, HF.out⟩
end Go.Proofs.YtnhmibfgaoealaaGreat
namespace Go.Proofs.YtnhmibfgaoealaaGreat
open Go.RowKit Go.Shelf Go.Proofs

end Go.Proofs.YtnhmibfgaoealaaGreat
