import Derived.Test.YtnhmibfgaoealaaRi
namespace Go.Proofs.Ytnhmibfgaoealaa
open Go.RowKit

theorem rd_new1 (w : World) (p q : Int) (t : TypeId) : Rd encS 2 (w.alloc (.cells #[.int .i64 p, .int .i64 q] t)) (w.alloc (.cells #[.int .i64 p, .int .i64 q] t)).heap.size (some ⟨w.heap.size, 0, none⟩) [(p, q)] := fun _ =>
  ⟨w.heap.size, 0, rfl, by simp, fun j hj i u hu => by
    simp at hj; subst hj
    match i, hu with
    | 0, hu => simp [encS] at hu; subst hu; simp
    | 1, hu => simp [encS] at hu; subst hu; simp
    | i + 2, hu => simp [encS] at hu⟩

set_option maxHeartbeats 400000 in
theorem rfirst_any (l : List Sp.S) (A : Option Addr) (cap : Nat) (n : Int) (w : World) (h : Rd encS 2 w w.heap.size A l) (hl : l.length ≤ 4000000000000) (hn : -9223372036854775808 ≤ n ∧ n ≤ 9223372036854775807) :
    Calls Try.prog 44 #[.slice A l.length cap, .int .i64 n] w fun e w' => ∃ A' cap', e = .returned (.slice A' (Sp.first l n).length cap') ∧
      w'.ownsRow w.heap.size 42 2 (.slice A' (Sp.first l n).length cap') (Sp.first l n).length (flat encS (Sp.first l n)) ∧ Below w.heap.size w w' := by
  have hF := Sp.first_at l n
  rw [← hF]
  have c1 := rnorm_any l A cap w h hl
  have hP := Lib.hid (Sp.norm_plain l)
  have hL := Nat.le_trans (Sp.norm_length l) hl
  have c3 := fun W (hb : Below w.heap.size w W) x A2 h2 => rand_any l [(0, x)] A A2 cap 1 W ((h.below hb).more hb.size) h2 hl (by simp)
  obtain ⟨N, hN⟩ : ∃ N, N = Sp.norm l := ⟨_, rfl⟩
  rw [← hN] at c1 hP hL ⊢
  have C1 := Lib.hid c1; have C3 := Lib.hid c3; clear c1 c3 hN hF h
  have c2 := fun W A1 cap1 h1 => at_any N A1 cap1 n W hP.out h1 hL hn
  have C2 := Lib.hid c2; clear c2
  obtain ⟨x, hx⟩ : ∃ x, x = Sp.at_ N n := ⟨_, rfl⟩
  rw [← hx] at C2 ⊢
  clear hx
  go_enter Try.func44, Try.ntmps44
  go_wp2_with fail
  refine C1.out.mono ?_
  rintro e w1 ⟨A1, cap1, rfl, ho1, hb1⟩
  have HO1 := Lib.hid ho1; have HB1 := Lib.hid hb1; clear ho1 hb1
  go_wp2_with fail
  refine (C2.out _ A1 cap1 (Rd.of_own encS_len HO1.out)).mono ?_
  rintro e w2 ⟨rfl, hb2⟩
  have HB2 := Lib.hid (HB1.out.trans (hb2.mono HB1.out.size)); clear hb2
  have HB3 := Lib.hid (HB2.out.alloc HB2.out.size (.cells #[.int .i64 0, .int .i64 x] 42))
  go_wp2_with fail
  refine (C3.out _ HB3.out x (some ⟨w2.heap.size, 0, none⟩) (rd_new1 w2 0 x 42)).mono ?_
  rintro e w3 ⟨A3, cap3, rfl, ho3, hb3⟩
  have HB4 := Lib.hid (HB3.out.trans (hb3.mono HB3.out.size)); have HO3 := Lib.hid (own_base ho3 HB3.out.size); clear hb3 ho3
  go_wp2
  go_ret
  exact ⟨A3, cap3, rfl, HO3.out, HB4.out⟩

set_option maxHeartbeats 400000 in
theorem rlast_any (l : List Sp.S) (A : Option Addr) (cap : Nat) (n : Int) (w : World) (h : Rd encS 2 w w.heap.size A l) (hl : l.length ≤ 4000000000000) (hn : -9223372036854775808 ≤ n ∧ n ≤ 9223372036854775807) :
    Calls Try.prog 46 #[.slice A l.length cap, .int .i64 n] w fun e w' => ∃ A' cap', e = .returned (.slice A' (Sp.last l n).length cap') ∧
      w'.ownsRow w.heap.size 42 2 (.slice A' (Sp.last l n).length cap') (Sp.last l n).length (flat encS (Sp.last l n)) ∧ Below w.heap.size w w' := by
  by_cases h1 : n < 1
  · have e : Sp.last l n = [] := by unfold Sp.last; rw [if_pos (by omega)]
    rw [e]
    clear h e
    go_enter Try.func46, Try.ntmps46
    go_wp2
    go_ret
    exact ⟨none, 0, rfl, World.ownsRow_nil _ _ _ _, Below.refl _ _⟩
  · have c0 := rsize_any l A cap w h hl
    have c1 := fun W (hb : Below w.heap.size w W) => rnorm_any l A cap W ((h.below hb).more hb.size) hl
    have hP := Lib.hid (Sp.norm_plain l)
    have hL := Nat.le_trans (Sp.norm_length l) hl
    have s1 := Sp.size_nonneg l
    have s2 := Sp.size_le l
    simp only [Sp.MT] at s2
    have c3 := fun W (hb : Below w.heap.size w W) x A2 h2 => rminus_any l [(0, x)] A A2 cap 1 W ((h.below hb).more hb.size) h2 hl (by simp)
    have C3 := Lib.hid c3; clear c3 h
    have hall := fun h2 => Sp.last_all l n h2 (by omega)
    have hlast := fun h2 => Sp.last_at l n (by omega) h2
    obtain ⟨Z, hZ⟩ : ∃ Z, Z = Sp.size l := ⟨_, rfl⟩
    rw [← hZ] at c0 s1 s2 hall hlast
    clear hZ
    by_cases h2 : Z ≤ n
    · have he := hall h2
      rw [← he]
      have C0 := Lib.hid c0; have C1 := Lib.hid c1; clear c0 c1 hall hlast he C3
      go_enter Try.func46, Try.ntmps46
      go_wp2_with fail
      refine C0.out.mono ?_
      rintro e w1 ⟨rfl, hb1⟩
      have HB1 := Lib.hid hb1; clear hb1
      go_wp2_with fail
      refine (C1.out _ HB1.out).mono ?_
      rintro e w2 ⟨A2, cap2, rfl, ho2, hb2⟩
      have HB2 := Lib.hid (HB1.out.trans (hb2.mono HB1.out.size)); have HO2 := Lib.hid (own_base ho2 HB1.out.size); clear hb2 ho2
      go_wp2
      go_ret
      exact ⟨A2, cap2, rfl, HO2.out, HB2.out⟩
    · have he := hlast (by omega)
      rw [← he]
      obtain ⟨N, hN⟩ : ∃ N, N = Sp.norm l := ⟨_, rfl⟩
      rw [← hN] at c1 hP hL ⊢
      clear hall hlast he hN
      have c2 := fun W A1 cap1 h1 => at_any N A1 cap1 (Z - n) W hP.out h1 hL (by omega)
      obtain ⟨x, hx⟩ : ∃ x, x = Sp.at_ N (Z - n) := ⟨_, rfl⟩
      rw [← hx] at c2 ⊢
      have C0 := Lib.hid c0; have C1 := Lib.hid c1; have C2 := Lib.hid c2; clear c0 c1 c2 hx
      have h3 : n < Z := by omega
      go_enter Try.func46, Try.ntmps46
      go_wp2_with fail
      refine C0.out.mono ?_
      rintro e w0 ⟨rfl, hb0⟩
      have HB0 := Lib.hid hb0; clear hb0
      go_wp2_with fail
      refine (C1.out _ HB0.out).mono ?_
      rintro e w1 ⟨A1, cap1, rfl, ho1, hb1⟩
      have HO1 := Lib.hid ho1; have HB1 := Lib.hid (HB0.out.trans (hb1.mono HB0.out.size)); clear ho1 hb1
      go_wp2_with fail
      refine (C2.out _ A1 cap1 (Rd.of_own encS_len HO1.out)).mono ?_
      rintro e w2 ⟨rfl, hb2⟩
      have HB2 := Lib.hid (HB1.out.trans (hb2.mono HB1.out.size)); clear hb2
      have HB3 := Lib.hid (HB2.out.alloc HB2.out.size (.cells #[.int .i64 0, .int .i64 x] 42))
      go_wp2_with fail
      refine (C3.out _ HB3.out x (some ⟨w2.heap.size, 0, none⟩) (rd_new1 w2 0 x 42)).mono ?_
      rintro e w3 ⟨A3, cap3, rfl, ho3, hb3⟩
      have HB4 := Lib.hid (HB3.out.trans (hb3.mono HB3.out.size)); have HO3 := Lib.hid (own_base ho3 HB3.out.size); clear hb3 ho3
      go_wp2
      go_ret
      exact ⟨A3, cap3, rfl, HO3.out, HB4.out⟩
end Go.Proofs.Ytnhmibfgaoealaa
