import Derived.Test.YtnhmibfgaoealaaMin
import Derived.Test.YtnhmibfgaoealaaHas
namespace Go.Proofs.Ytnhmibfgaoealaa
open Go.RowKit

theorem mul_small {x y : Nat} (hx : x ≤ 900000) (hy : y ≤ 900001) : x * y ≤ 1000000000000 := Nat.le_trans (Nat.mul_le_mul hx hy) (by decide)

theorem and_a (a b : List Sp.S) (A1 A2 : Option Addr) (c1 c2 : Nat) (w : World) (h1 : Rd encS 2 w w.heap.size A1 a) (h2 : Rd encS 2 w w.heap.size A2 b) (l1 : a.length ≤ 900000) (l2 : b.length ≤ 900000) :
    Calls Try.prog 39 #[.slice A1 a.length c1, .slice A2 b.length c2] w fun e w' => ∃ A' cap', e = .returned (.slice A' (Sp.and_ a b).length cap') ∧
      w'.ownsRow w.heap.size 42 2 (.slice A' (Sp.and_ a b).length cap') (Sp.and_ a b).length (flat encS (Sp.and_ a b)) ∧ Below w.heap.size w w' :=
  and_any a b A1 A2 c1 c2 w h1 h2 (by omega) (by omega) (mul_small (Nat.le_trans (Sp.norm_length a) l1) (by have := Sp.norm_length b; omega))

theorem minus_a (a b : List Sp.S) (A1 A2 : Option Addr) (c1 c2 : Nat) (w : World) (h1 : Rd encS 2 w w.heap.size A1 a) (h2 : Rd encS 2 w w.heap.size A2 b) (l1 : a.length ≤ 900000) (l2 : b.length ≤ 900000) :
    Calls Try.prog 41 #[.slice A1 a.length c1, .slice A2 b.length c2] w fun e w' => ∃ A' cap', e = .returned (.slice A' (Sp.minus a b).length cap') ∧
      w'.ownsRow w.heap.size 42 2 (.slice A' (Sp.minus a b).length cap') (Sp.minus a b).length (flat encS (Sp.minus a b)) ∧ Below w.heap.size w w' :=
  minus_any a b A1 A2 c1 c2 w h1 h2 (by omega) (by omega) (mul_small (Nat.le_trans (Sp.norm_length a) l1) (by have := Sp.norm_length b; omega))

theorem first_length (l : List Sp.S) (n : Int) : (Sp.first l n).length ≤ l.length := Nat.le_trans (firstP_length _ _) (Sp.norm_length l)

set_option maxHeartbeats 400000 in
theorem last_any (l : List Sp.S) (A : Option Addr) (cap : Nat) (n : Int) (w : World) (h : Rd encS 2 w w.heap.size A l) (hl : l.length ≤ 900000) (hn : -9223372036854775808 ≤ n ∧ n ≤ 9223372036854775807) :
    Calls Try.prog 45 #[.slice A l.length cap, .int .i64 n] w fun e w' => ∃ A' cap', e = .returned (.slice A' (Sp.last l n).length cap') ∧
      w'.ownsRow w.heap.size 42 2 (.slice A' (Sp.last l n).length cap') (Sp.last l n).length (flat encS (Sp.last l n)) ∧ Below w.heap.size w w' := by
  by_cases h0 : n ≤ 0
  · have e : Sp.last l n = [] := by unfold Sp.last; rw [if_pos h0]
    rw [e]
    clear h e
    go_enter Try.func45, Try.ntmps45
    go_wp2
    go_ret
    exact ⟨none, 0, rfl, World.ownsRow_nil _ _ _ _, Below.refl _ _⟩
  · obtain ⟨R, hR⟩ : ∃ R, R = Sp.last l n := ⟨_, rfl⟩
    rw [← hR]
    have s1 := Sp.size_nonneg l
    have s2 := Sp.size_le l
    simp only [Sp.MT] at s2
    obtain ⟨m, hm⟩ : ∃ m, m = Sp.size l - min n 32054400 := ⟨_, rfl⟩
    have HR : Hid (R = Sp.minus l (Sp.first l m)) := by
      show _ = _
      rw [hR, hm]; unfold Sp.last; rw [if_neg h0]; simp only [Sp.MT]
    obtain ⟨Z, hZ⟩ : ∃ Z, Z = Sp.size l := ⟨_, rfl⟩
    have c1 := fun W (hb : Below w.heap.size w W) => size_any l A cap W ((h.below hb).more hb.size) (by omega)
    rw [← hZ] at c1 hm s1 s2
    have c2 := fun W (hb : Below w.heap.size w W) => first_any l A cap m W ((h.below hb).more hb.size) (by omega) (by omega)
    have hF := first_length l m
    obtain ⟨Fl, hFl⟩ : ∃ F, F = Sp.first l m := ⟨_, rfl⟩
    rw [← hFl] at c2 HR hF
    have c3 := fun W (hb : Below w.heap.size w W) A2 cap2 h2 => minus_a l Fl A A2 cap cap2 W ((h.below hb).more hb.size) h2 hl (by omega)
    rw [← HR] at c3
    have C1 := Lib.hid c1; have C2 := Lib.hid c2; have C3 := Lib.hid c3; have HM := Lib.hid hm.symm; clear c1 c2 c3 hR hZ hFl h HR
    have hwr : -9223372036854775808 ≤ Z - min n 32054400 ∧ Z - min n 32054400 ≤ 9223372036854775807 := by omega
    clear hm hF
    go_enter Try.func45, Try.ntmps45
    go_wp2_with fail
    refine (C1.out _ (Below.refl _ _)).mono ?_
    rintro e w1 ⟨rfl, hb1⟩
    have HB1 := Lib.hid hb1; clear hb1
    go_wp2_with fail
    rw [HM.out]
    refine (C2.out _ HB1.out).mono ?_
    rintro e w2 ⟨A2, cap2, rfl, ho2, hb2⟩
    have HB2 := Lib.hid (HB1.out.trans (hb2.mono HB1.out.size)); have HO2 := Lib.hid ho2; clear hb2 ho2
    go_wp2_with fail
    refine (C3.out _ HB2.out A2 cap2 (Rd.of_own encS_len HO2.out)).mono ?_
    rintro e w3 ⟨A3, cap3, rfl, ho3, hb3⟩
    have HB3 := Lib.hid (HB2.out.trans (hb3.mono HB2.out.size)); have HO3 := Lib.hid (own_base ho3 HB2.out.size); clear hb3 ho3
    go_wp2
    go_ret
    exact ⟨A3, cap3, rfl, HO3.out, HB3.out⟩
end Go.Proofs.Ytnhmibfgaoealaa
