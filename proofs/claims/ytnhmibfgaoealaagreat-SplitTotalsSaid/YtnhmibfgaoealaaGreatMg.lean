/-
  Rea
  Plain theory: from one place where something changes to the next one.
  Rof
-/
import Derived.Test.YtnhmibfgaoealaaGreatMb
import Derived.Test.YtnhmibfgaoealaaGreatMa
namespace Go.Proofs.YtnhmibfgaoealaaGreat
open Go.RowKit

def inT (p q t : Int) : Bool := Sp.okT t && Sp.inB (p, q) t
theorem inT_iff {p q t : Int} : inT p q t = true ↔ (0 ≤ t ∧ t < 32054400) ∧ p ≤ t ∧ t < q := by rw [inT, Bool.and_eq_true, Sp.okT_iff, Sp.inB_iff]; rfl

set_option maxHeartbeats 400000 in
theorem in_any (p q t : Int) (w : World) : Calls Tryz.prog 138 #[.agg #[.int .i64 p, .int .i64 q], .int .i64 t] w fun e w' => e = .returned (.bool (inT p q t)) ∧ Below w.heap.size w w' := by
  have fin : ∀ (n : Nat), Below w.heap.size w ((w.alloc (.cells #[.int .i64 p, .int .i64 q] 49)).drewN n) := fun n => below_drewN ((Below.refl _ _).alloc (Nat.le_refl _) _) n
  have FIN := Lib.hid fin; clear fin
  by_cases h1 : 0 ≤ t
  · by_cases h2 : t < 32054400
    · by_cases h3 : p ≤ t
      · have e : inT p q t = decide (t < q) := by rw [Bool.eq_iff_iff, inT_iff]; simp; omega
        rw [e]; clear e
        go_enter Tryz.func138, Tryz.ntmps138
        go_wp2
        go_ret
        exact ⟨rfl, FIN.out 0⟩
      · have e : inT p q t = false := by rw [Bool.eq_false_iff, ne_eq, inT_iff]; omega
        rw [e]; clear e
        have h3 : decide (p ≤ t) = false := by simpa using h3
        go_enter Tryz.func138, Tryz.ntmps138
        go_wp2
        go_ret
        exact ⟨rfl, FIN.out 0⟩
    · have e : inT p q t = false := by rw [Bool.eq_false_iff, ne_eq, inT_iff]; omega
      rw [e]; clear e
      have h2 : decide (t < 32054400) = false := by simpa using h2
      go_enter Tryz.func138, Tryz.ntmps138
      go_wp2
      go_ret
      exact ⟨rfl, FIN.out 0⟩
  · have e : inT p q t = false := by rw [Bool.eq_false_iff, ne_eq, inT_iff]; omega
    rw [e]; clear e
    have h1 : decide (0 ≤ t) = false := by simpa using h1
    go_enter Tryz.func138, Tryz.ntmps138
    go_wp2
    go_ret
    exact ⟨rfl, FIN.out 0⟩

theorem hasT_snoc {l : List Sp.S} {k : Nat} {p q : Int} (h : l[k]? = some (p, q)) (t : Int) : (Sp.okT t && Sp.hasB (l.take (k + 1)) t) = ((Sp.okT t && Sp.hasB (l.take k) t) || inT p q t) := by
  rw [take_snoc h, Sp.hasB_append, inT]
  cases Sp.okT t <;> simp [Sp.hasB]

set_option maxRecDepth 100000 in
set_option maxHeartbeats 400000 in
theorem has3_any (l : List Sp.S) (A : Option Addr) (cap : Nat) (t : Int) (w : World) (h : Rd encS 2 w w.heap.size A l) (hl : l.length ≤ 4000000000000) :
    Calls Tryz.prog 106 #[.slice A l.length cap, .int .i64 t] w fun e w' => e = .returned (.bool (Sp.okT t && Sp.hasB l t)) ∧ Below w.heap.size w w' := by
  obtain ⟨R, hR⟩ : ∃ R, R = (Sp.okT t && Sp.hasB l t) := ⟨_, rfl⟩
  rw [← hR]
  have HR := Lib.hid hR; clear hR
  go_enter Tryz.func106, Tryz.ntmps106
  go_wp2
  go_loopw [5] (fun i wr => ∃ k : Nat, k ≤ l.length ∧ i = .int .i64 k ∧ Hid ((Sp.okT t && Sp.hasB (l.take k) t) = false) ∧ Below w.heap.size w wr) (fun i _ => l.length - (intOf i).toNat)
  case atStart => exact ⟨0, Nat.zero_le _, rfl, (by simp [Sp.hasB] : _ = false), Below.refl _ _⟩
  case round =>
    obtain ⟨k, hk, rfl, hno, hb⟩ := hrel
    by_cases hlt : k < l.length
    · obtain ⟨b, off, p, q, rfl, hbB, hx, c0, c1⟩ := h.atS hb hlt
      have HB := Lib.hid hb; clear hb
      have HH := Lib.hid h; clear h
      have hs := Lib.hid (hasT_snoc hx.out t)
      cases hin : inT p q t
      · have hc := fun w' => in_any p q t w'
        rw [hin] at hc
        go_wp2_with (go_at_call 138; refine (hc _).mono ?_; rintro e w1 ⟨rfl, hb1⟩)
        go_roundw
        case rel => exact ⟨k + 1, by omega, by go_num, (by rw [hs.out, hno.out, hin]; rfl : _ = false), HB.out.trans (hb1.mono HB.out.size)⟩
        case measure => simp [intOf]; omega
      · have hc := fun w' => in_any p q t w'
        rw [hin] at hc
        have hRt : R = true := by
          rw [HR.out, ← List.take_append_drop (k + 1) l, Sp.hasB_append]
          have := hs.out
          rw [hin, Bool.or_true, Bool.and_eq_true] at this
          rw [this.1, this.2]; rfl
        subst hRt
        clear HR
        go_wp2_with (go_at_call 138; refine (hc _).mono ?_; rintro e w1 ⟨rfl, hb1⟩)
        go_ret
        exact ⟨rfl, HB.out.trans (hb1.mono HB.out.size)⟩
    · obtain rfl : k = l.length := by omega
      rw [List.take_length] at hno
      obtain rfl : R = false := by rw [HR.out]; exact hno.out
      clear HR
      go_wp2
      go_ret
      exact ⟨rfl, hb⟩
end Go.Proofs.YtnhmibfgaoealaaGreat
namespace Go.Proofs.YtnhmibfgaoealaaGreat.Sp

def aft1 (t out : Int) (s : S) : Int :=
  let o := if t < s.1 then min out s.1 else out
  if t < s.2 then min o s.2 else o
def aft (t : Int) (l : List S) : Int := l.foldl (aft1 t) MT

theorem aft1_le (t out : Int) (s : S) : aft1 t out s ≤ out := by
  unfold aft1; dsimp only; split <;> split <;> omega
theorem aft1_gt (t out : Int) (s : S) (h : t < out) : t < aft1 t out s := by
  unfold aft1; dsimp only; split <;> split <;> omega
theorem aft_le_ (t : Int) (l : List S) (o : Int) : l.foldl (aft1 t) o ≤ o := by
  induction l generalizing o with
  | nil => exact Int.le_refl _
  | cons s r ih => rw [List.foldl_cons]; have := ih (aft1 t o s); have := aft1_le t o s; omega
theorem aft_gt_ (t : Int) (l : List S) (o : Int) (h : t < o) : t < l.foldl (aft1 t) o := by
  induction l generalizing o with
  | nil => exact h
  | cons s r ih => rw [List.foldl_cons]; exact ih _ (aft1_gt t o s h)
theorem aft_le (t : Int) (l : List S) : aft t l ≤ MT := aft_le_ t l MT
theorem aft_gt (t : Int) (l : List S) (h : t < MT) : t < aft t l := aft_gt_ t l MT h
theorem aft_snoc (t : Int) (l : List S) (s : S) : aft t (l ++ [s]) = aft1 t (aft t l) s := by simp [aft, List.foldl_append]

theorem aft_same_ (t u : Int) (l : List S) (o : Int) (h1 : t ≤ u) (h2 : u < l.foldl (aft1 t) o) : hasB l u = hasB l t := by
  induction l generalizing o with
  | nil => rfl
  | cons s r ih =>
    rw [List.foldl_cons] at h2
    have h3 := aft_le_ t r (aft1 t o s)
    rw [hasB_cons, hasB_cons, ih _ h2]
    congr 1
    have h4 : u < aft1 t o s := by omega
    rw [Bool.eq_iff_iff, inB_iff, inB_iff]
    unfold aft1 at h4
    dsimp only at h4
    revert h4
    split <;> split <;> omega
theorem aft_same {t u : Int} {l : List S} (h1 : t ≤ u) (h2 : u < aft t l) : hasB l u = hasB l t := aft_same_ t u l MT h1 h2

/-- The spans of a set, up to a time. -/
def Upto (P : Int → Bool) (t : Int) (out : List S) : Prop := Plain out ∧ (∀ x ∈ out, x.2 ≤ t) ∧ ∀ u, hasB out u = (okT u && decide (u < t) && P u)

theorem upto_start (P : Int → Bool) : Upto P 0 [] := ⟨plain_nil, by simp, fun u => by
  by_cases h : 0 ≤ u
  · simp [hasB, show ¬ u < 0 by omega]
  · simp [hasB, okT, h]⟩

theorem upto_skip {P : Int → Bool} {t nx : Int} {out : List S} (h : Upto P t out) (hn : t < nx) (hP : ∀ u, t ≤ u → u < nx → P u = false) : Upto P nx out := by
  refine ⟨h.1, fun x hx => by have := h.2.1 x hx; omega, fun u => ?_⟩
  rw [h.2.2]
  by_cases h1 : u < t
  · simp [h1, show u < nx by omega]
  · by_cases h2 : u < nx
    · simp [h1, h2, hP u (by omega) h2]
    · simp [h1, h2]

theorem upto_new {P : Int → Bool} {t nx : Int} {out : List S} (h : Upto P t out) (h0 : 0 ≤ t) (hn : t < nx) (hm : nx ≤ MT) (hP : ∀ u, t ≤ u → u < nx → P u = true) (hl : ∀ x ∈ out, x.2 ≠ t) : Upto P nx (out ++ [(t, nx)]) := by
  refine ⟨plainFrom_snoc.2 ⟨h.1, h0, hn, hm, fun y hy => by have := h.2.1 y hy; have := hl y hy; show y.2 + 1 ≤ t; omega⟩, fun x hx => ?_, fun u => ?_⟩
  · rcases List.mem_append.1 hx with hx | hx
    · have := h.2.1 x hx; omega
    · simp at hx; subst hx; exact Int.le_refl _
  · rw [hasB_append, h.2.2, hasB_cons, hasB_nil, Bool.or_false]
    by_cases h1 : u < t
    · have : inB (t, nx) u = false := by simp [inB]; omega
      simp [h1, this, show u < nx by omega]
    · by_cases h2 : u < nx
      · have h3 : inB (t, nx) u = true := by rw [inB_iff]; exact ⟨by show t ≤ u; omega, h2⟩
        have h4 : okT u = true := okT_iff.2 ⟨by omega, by omega⟩
        simp [h1, h2, h3, h4, hP u (by omega) h2]
      · have : inB (t, nx) u = false := by simp [inB]; omega
        simp [h1, h2, this]

theorem upto_grow {P : Int → Bool} {t nx f : Int} {o : List S} (h : Upto P t (o ++ [(f, t)])) (h0 : 0 ≤ t) (hn : t < nx) (hm : nx ≤ MT) (hP : ∀ u, t ≤ u → u < nx → P u = true) : Upto P nx (o ++ [(f, nx)]) := by
  obtain ⟨a, b, c, d, e⟩ := plainFrom_snoc.1 h.1
  simp only at b c d e
  refine ⟨plainFrom_snoc.2 ⟨a, b, by show f < nx; omega, hm, e⟩, fun x hx => ?_, fun u => ?_⟩
  · rcases List.mem_append.1 hx with hx | hx
    · have := h.2.1 x (by simp [hx]); omega
    · simp at hx; subst hx; exact Int.le_refl _
  · have hu := h.2.2 u
    rw [hasB_append, hasB_cons, hasB_nil, Bool.or_false] at hu ⊢
    by_cases h1 : u < t
    · have : inB (f, nx) u = inB (f, t) u := by rw [Bool.eq_iff_iff, inB_iff, inB_iff]; simp only; omega
      rw [this, hu]
      simp [h1, show u < nx by omega]
    · have ho : inB (f, t) u = false := by simp [inB]; omega
      rw [ho, Bool.or_false] at hu
      rw [hu]
      by_cases h2 : u < nx
      · have h3 : inB (f, nx) u = true := by rw [inB_iff]; exact ⟨by show f ≤ u; omega, h2⟩
        have h4 : okT u = true := okT_iff.2 ⟨by omega, by omega⟩
        simp [h1, h2, h3, h4, hP u (by omega) h2]
      · have : inB (f, nx) u = false := by simp [inB]; omega
        simp [h1, h2, this]

theorem upto_end {P : Int → Bool} {t : Int} {out : List S} (h : Upto P t out) (ht : MT ≤ t) (u : Int) : hasB out u = (okT u && P u) := by
  rw [h.2.2]
  by_cases hk : okT u = true
  · have := (okT_iff.1 hk).2
    simp [show u < t by omega]
  · simp at hk; simp [hk]

theorem plain_length_le {l : List S} (h : Plain l) : l.length ≤ MTn := by
  rw [plain_len h (Int.le_refl 0) MTn MTn_le]; exact cnt_le _ _
theorem MTn_val : MTn = 32054400 := by have := MTn_eq; simp only [MT] at this; omega
end Go.Proofs.YtnhmibfgaoealaaGreat.Sp
namespace Go.Proofs.YtnhmibfgaoealaaGreat
open Go.RowKit

set_option maxRecDepth 100000 in
set_option maxHeartbeats 400000 in
theorem after_any (l : List Sp.S) (A : Option Addr) (cap : Nat) (t : Int) (w : World) (h : Rd encS 2 w w.heap.size A l) (hl : l.length ≤ 4000000000000) :
    Calls Tryz.prog 105 #[.slice A l.length cap, .int .i64 t] w fun e w' => e = .returned (.int .i64 (Sp.aft t l)) ∧ w = w' := by
  obtain ⟨R, hR⟩ : ∃ R, R = Sp.aft t l := ⟨_, rfl⟩
  rw [← hR]
  have HR := Lib.hid hR; clear hR
  go_enter Tryz.func105, Tryz.ntmps105
  go_wp2
  go_loop [5, 6] (fun v i => ∃ k : Nat, k ≤ l.length ∧ i = .int .i64 k ∧ v = .int .i64 (Sp.aft t (l.take k))) (fun _ i => l.length - (intOf i).toNat)
  case atStart => exact ⟨0, Nat.zero_le _, rfl, rfl⟩
  case round =>
    obtain ⟨k, hk, rfl, rfl⟩ := hrel
    by_cases hlt : k < l.length
    · obtain ⟨b, off, p, q, rfl, hbB, hx, c0, c1⟩ := h.atS (Below.refl _ _) hlt
      have HH := Lib.hid h; clear h
      have hs : Hid (Sp.aft t (l.take (k + 1)) = Sp.aft1 t (Sp.aft t (l.take k)) (p, q)) := by show _ = _; rw [take_snoc hx.out, Sp.aft_snoc]
      obtain ⟨Z, hZ⟩ : ∃ Z, Z = Sp.aft t (l.take k) := ⟨_, rfl⟩
      rw [← hZ] at hs ⊢
      clear hZ
      by_cases h1 : t < p
      · by_cases h2 : t < q
        · have he : Hid (Sp.aft1 t Z (p, q) = min (min Z p) q) := by show _ = _; unfold Sp.aft1; simp only [if_pos h1, if_pos h2]
          go_wp2
          go_round
          case rel => exact ⟨k + 1, by omega, by go_num, by rw [hs.out, he.out, min_ite, min_ite]⟩
          case measure => simp [intOf]; omega
        · have he : Hid (Sp.aft1 t Z (p, q) = min Z p) := by show _ = _; unfold Sp.aft1; simp only [if_pos h1, if_neg h2]
          go_wp2
          go_round
          case rel => exact ⟨k + 1, by omega, by go_num, by rw [hs.out, he.out, min_ite]⟩
          case measure => simp [intOf]; omega
      · by_cases h2 : t < q
        · have he : Hid (Sp.aft1 t Z (p, q) = min Z q) := by show _ = _; unfold Sp.aft1; simp only [if_neg h1, if_pos h2]
          go_wp2
          go_round
          case rel => exact ⟨k + 1, by omega, by go_num, by rw [hs.out, he.out, min_ite]⟩
          case measure => simp [intOf]; omega
        · have he : Hid (Sp.aft1 t Z (p, q) = Z) := by show _ = _; unfold Sp.aft1; simp only [if_neg h1, if_neg h2]
          go_wp2
          go_round
          case rel => exact ⟨k + 1, by omega, by go_num, by rw [hs.out, he.out]⟩
          case measure => simp [intOf]; omega
    · obtain rfl : k = l.length := by omega
      rw [List.take_length, ← HR.out]
      go_wp2
      go_ret
      exact ⟨rfl, rfl⟩

/-- What a second is asked: in a's set, and in b's as is asked. -/
def ask (a b : List Sp.S) (both : Bool) (u : Int) : Bool := Sp.hasB a u && (Sp.hasB b u == both)

theorem ask_same {a b : List Sp.S} {both : Bool} {t u : Int} (h1 : t ≤ u) (h2 : u < min (Sp.aft t a) (Sp.aft t b)) : ask a b both u = ask a b both t := by
  unfold ask
  rw [Sp.aft_same (l := a) h1 (by omega), Sp.aft_same (l := b) h1 (by omega)]

set_option maxRecDepth 100000 in
set_option maxHeartbeats 1000000 in
theorem of_any (a b : List Sp.S) (A1 A2 : Option Addr) (c1 c2 : Nat) (both : Bool) (w : World) (h1 : Rd encS 2 w w.heap.size A1 a) (h2 : Rd encS 2 w w.heap.size A2 b) (l1 : a.length ≤ 4000000000000) (l2 : b.length ≤ 4000000000000) :
    Calls Tryz.prog 75 #[.slice A1 a.length c1, .slice A2 b.length c2, .bool both] w fun e w' => ∃ A' cap' R, e = .returned (.slice A' R.length cap') ∧
      Sp.Plain R ∧ (∀ u, Sp.hasB R u = (Sp.okT u && ask a b both u)) ∧ w'.ownsRow w.heap.size 49 2 (.slice A' R.length cap') R.length (flat encS R) ∧ Below w.heap.size w w' := by
  have k1 := fun W (hb : Below w.heap.size w W) t => after_any a A1 c1 t W ((h1.below hb).more hb.size) l1
  have k2 := fun W (hb : Below w.heap.size w W) t => after_any b A2 c2 t W ((h2.below hb).more hb.size) l2
  have k3 := fun W (hb : Below w.heap.size w W) t => has3_any a A1 c1 t W ((h1.below hb).more hb.size) l1
  have k4 := fun W (hb : Below w.heap.size w W) t => has3_any b A2 c2 t W ((h2.below hb).more hb.size) l2
  have K1 := Lib.hid k1; have K2 := Lib.hid k2; have K3 := Lib.hid k3; have K4 := Lib.hid k4; clear k1 k2 k3 k4 h1 h2
  go_enter Tryz.func75, Tryz.ntmps75
  go_wp2
  go_loopw [7, 8] (fun v i wr => ∃ (t : Int) (O : List Sp.S), 0 ≤ t ∧ t ≤ 32054400 ∧ i = .int .i64 t ∧ Hid (Sp.Upto (ask a b both) t O) ∧ O.length ≤ 32054400 ∧ wr.ownsRow w.heap.size 49 2 v O.length (flat encS O) ∧ Below w.heap.size w wr) (fun _ i _ => (32054400 - intOf i).toNat)
  case atStart => exact ⟨0, [], Int.le_refl _, by omega, rfl, Sp.upto_start _, by simp, World.ownsRow_nil _ _ _ _, Below.refl _ _⟩
  case round =>
    obtain ⟨t, O, t0, t1, rfl, hU, hOl, hown, hb⟩ := hrel
    have HO := Lib.hid hown; have HB := Lib.hid hb; clear hown hb
    by_cases hlt : t < 32054400
    · have n1 := Sp.aft_gt t a (by simp only [Sp.MT]; omega)
      have n2 := Sp.aft_gt t b (by simp only [Sp.MT]; omega)
      have n3 := Sp.aft_le t a
      have n4 := Sp.aft_le t b
      have hsame := Lib.hid (fun u (x1 : t ≤ u) x2 => ask_same (a := a) (b := b) (both := both) (t := t) (u := u) x1 x2)
      have K1t := fun W hb => K1.out W hb t
      have K2t := fun W hb => K2.out W hb t
      have K3t := fun W hb => K3.out W hb t
      have K4t := fun W hb => K4.out W hb t
      have hok : Sp.okT t = true := Sp.okT_iff.2 ⟨t0, by simp only [Sp.MT]; omega⟩
      rw [hok] at K3t K4t
      simp only [Bool.true_and] at K3t K4t
      obtain ⟨X, hX⟩ : ∃ X, X = Sp.aft t a := ⟨_, rfl⟩
      obtain ⟨Y, hY⟩ : ∃ Y, Y = Sp.aft t b := ⟨_, rfl⟩
      rw [← hX] at n1 n3 hsame K1t
      rw [← hY] at n2 n4 hsame K2t
      simp only [Sp.MT] at n3 n4
      obtain ⟨nx, hnx⟩ : ∃ nx, nx = min X Y := ⟨_, rfl⟩
      have m1 : t < nx := by omega
      have m2 : nx ≤ 32054400 := by omega
      rw [← hnx] at hsame
      have HX := Lib.hid hnx.symm
      have hmi : (if Y < X then Y else X) = nx := by rw [← min_ite]; exact hnx.symm
      have hmi2 : min X Y = nx := hnx.symm
      have K1' := Lib.hid K1t; have K2' := Lib.hid K2t
      clear hX hY hnx K1t K2t K1 K2 K3 K4 HX
      cases hA : Sp.hasB a t
      · have hP : Hid (Sp.Upto (ask a b both) nx O) := Sp.upto_skip hU.out m1 (fun u x1 x2 => by rw [hsame.out u x1 x2]; unfold ask; rw [hA]; rfl)
        rw [hA] at K3t
        have K3' := Lib.hid K3t; clear K3t K4t hA hok
        go_wp2_with fail
        refine (K1'.out _ HB.out).mono ?_
        rintro e w1 ⟨rfl, rfl⟩
        go_wp2_with fail
        refine (K2'.out _ HB.out).mono ?_
        rintro e w1 ⟨rfl, rfl⟩
        go_wp2_with fail
        refine (K3'.out _ HB.out).mono ?_
        rintro e w1 ⟨rfl, hb1⟩
        have HB1 := Lib.hid (HB.out.trans (hb1.mono HB.out.size)); have HO1 := Lib.hid (own_below HO.out hb1); clear hb1
        go_wp2
        go_roundw
        case rel => exact ⟨nx, O, by omega, by omega, rfl, hP.out, hOl, HO1.out, HB1.out⟩
        case measure => simp [intOf]; omega
      · rw [hA] at K3t
        have K3' := Lib.hid K3t; clear K3t
        by_cases hy : Sp.hasB b t = both
        · have hP : Hid (∀ u, t ≤ u → u < nx → ask a b both u = true) := fun u x1 x2 => by rw [hsame.out u x1 x2]; unfold ask; rw [hA, hy]; simp
          rw [hy] at K4t
          have K4' := Lib.hid K4t; clear K4t hA hy hok hsame
          go_wp2_with fail
          refine (K1'.out _ HB.out).mono ?_
          rintro e w1 ⟨rfl, rfl⟩
          go_wp2_with fail
          refine (K2'.out _ HB.out).mono ?_
          rintro e w1 ⟨rfl, rfl⟩
          go_wp2_with fail
          refine (K3'.out _ HB.out).mono ?_
          rintro e w1 ⟨rfl, hb1⟩
          have HB1 := Lib.hid (HB.out.trans (hb1.mono HB.out.size)); have HO1 := Lib.hid (own_below HO.out hb1); clear hb1
          go_wp2_with fail
          refine (K4'.out _ HB1.out).mono ?_
          rintro e w2 ⟨rfl, hb2⟩
          have HB2 := Lib.hid (HB1.out.trans (hb2.mono HB1.out.size)); have HO2 := Lib.hid (own_below HO1.out hb2); clear hb2
          obtain ⟨A6, cap6, rfl, _, _⟩ := own_form HO.out
          rcases List.eq_nil_or_concat O with rfl | ⟨o, ⟨f, e⟩, hOc⟩
          · have HU2 : Hid (Sp.Upto (ask a b both) nx ([] ++ [(t, nx)])) := Sp.upto_new hU.out t0 m1 m2 hP.out (by simp)
            have hlen2 : ([] ++ [(t, nx)] : List Sp.S).length ≤ 32054400 := by simp
            go_wp2_with (at_builtin; refine app_span _ _ _ rfl rfl w.heap.size _ _ _ rfl (HO2.out.alloc _) t nx w2.heap.size 1 rfl (by go_simp) (by go_simp) (by omega) (by have := HB2.out.size; simp; omega) ?_; intro v' w3 hown' hgrow _)
            have H3 : Hid (w3.ownsRow w.heap.size 49 2 v' (([] : List Sp.S) ++ [(t, nx)]).length (flat encS (([] : List Sp.S) ++ [(t, nx)]))) := by rw [List.length_append]; exact hown'
            have H4 : Hid (Below w.heap.size w w3) := (HB2.out.alloc HB2.out.size _).grown hgrow (by have := HB2.out.size; simp; omega) (fun g hg => (HO2.out.lt g hg).1)
            clear hown' hgrow
            go_wp2
            go_roundw
            case rel => exact ⟨nx, ([] : List Sp.S) ++ [(t, nx)], by omega, by omega, rfl, HU2.out, hlen2, H3.out, H4.out⟩
            case measure => simp [intOf]; omega
          · rw [List.concat_eq_append] at hOc
            subst hOc
            rw [show (o ++ [(f, e)]).length = o.length + 1 from by simp] at HO HO1 HO2 hOl
            obtain ⟨g, rfl, hgb, hgl, d0, d1, f1, f0⟩ := own_lastS HO2.out rfl
            have hne : g ≠ w2.heap.size := by omega
            have q1 : IntKind.i64.wrap (o.length : Int) = o.length := IntWalk.i64_in _ (by omega)
            have q2 : (o.length : Int) < (o.length : Int) + 1 := by omega
            have q3 : (0 : Int) ≤ (o.length : Int) := by omega
            by_cases het : e = t
            · subst het
              have HU2 : Hid (Sp.Upto (ask a b both) nx (o ++ [(f, nx)])) := Sp.upto_grow hU.out t0 m1 m2 hP.out
              have hee : (e == e) = true := by simp
              go_wp2
              go_roundw
              case rel =>
                refine ⟨nx, o ++ [(f, nx)], by omega, by omega, rfl, HU2.out, by simp; omega, ?_, HB2.out.setCell hgb _⟩
                rw [show (o ++ [(f, nx)]).length = o.length + 1 from by simp, ← flat_setS o f e nx]
                exact own_set HO2.out _ _
              case measure => simp [intOf]; omega
            · have hee : (e == t) = false := by simpa using het
              have HU2 : Hid (Sp.Upto (ask a b both) nx ((o ++ [(f, e)]) ++ [(t, nx)])) := by
                refine Sp.upto_new hU.out t0 m1 m2 hP.out fun x hx => ?_
                rcases List.mem_append.1 hx with hx | hx
                · have h1 := (Sp.plainFrom_snoc.1 hU.out.1).2.2.2.2 x hx
                  have h2 := (Sp.plainFrom_snoc.1 hU.out.1).2.2.1
                  have h3 := hU.out.2.1 (f, e) (by simp)
                  simp only at h1 h2 h3; omega
                · simp at hx; subst hx; exact het
              have hlen2 : ((o ++ [(f, e)]) ++ [(t, nx)]).length ≤ 32054400 := by
                have := Sp.plain_length_le HU2.out.1; rw [Sp.MTn_val] at this; exact this
              have hl5 : (o ++ [(f, e)]).length = o.length + 1 := by simp
              have HL5 := Lib.hid hl5; clear hl5 het
              go_wp2_with (at_builtin; refine app_span _ _ _ rfl rfl w.heap.size _ _ _ rfl (HO2.out.alloc _) t nx w2.heap.size 1 rfl (by go_simp) (by go_simp) (by omega) (by have := HB2.out.size; simp; omega) ?_; intro v' w3 hown' hgrow _)
              have H3 : Hid (w3.ownsRow w.heap.size 49 2 v' ((o ++ [(f, e)]) ++ [(t, nx)]).length (flat encS ((o ++ [(f, e)]) ++ [(t, nx)]))) := by rw [List.length_append, HL5.out]; exact hown'
              have H4 : Hid (Below w.heap.size w w3) := (HB2.out.alloc HB2.out.size _).grown hgrow (by have := HB2.out.size; simp; omega) (fun g hg => (HO2.out.lt g hg).1)
              clear hown' hgrow
              go_wp2
              go_roundw
              case rel => exact ⟨nx, (o ++ [(f, e)]) ++ [(t, nx)], by omega, by omega, rfl, HU2.out, hlen2, H3.out, H4.out⟩
              case measure => simp [intOf]; omega
        · have hy2 : Sp.hasB b t = !both := by cases h1 : Sp.hasB b t <;> cases both <;> simp_all
          have hP : Hid (Sp.Upto (ask a b both) nx O) := Sp.upto_skip hU.out m1 (fun u x1 x2 => by rw [hsame.out u x1 x2]; unfold ask; rw [hA, hy2]; cases both <;> rfl)
          rw [hy2] at K4t
          have K4' := Lib.hid K4t; clear K4t hA hy hy2 hok hsame
          have hne : ((!both) == both) = false := by cases both <;> rfl
          go_wp2_with fail
          refine (K1'.out _ HB.out).mono ?_
          rintro e w1 ⟨rfl, rfl⟩
          go_wp2_with fail
          refine (K2'.out _ HB.out).mono ?_
          rintro e w1 ⟨rfl, rfl⟩
          go_wp2_with fail
          refine (K3'.out _ HB.out).mono ?_
          rintro e w1 ⟨rfl, hb1⟩
          have HB1 := Lib.hid (HB.out.trans (hb1.mono HB.out.size)); have HO1 := Lib.hid (own_below HO.out hb1); clear hb1
          go_wp2_with fail
          refine (K4'.out _ HB1.out).mono ?_
          rintro e w2 ⟨rfl, hb2⟩
          have HB2 := Lib.hid (HB1.out.trans (hb2.mono HB1.out.size)); have HO2 := Lib.hid (own_below HO1.out hb2); clear hb2
          go_wp2
          go_roundw
          case rel => exact ⟨nx, O, by omega, by omega, rfl, hP.out, hOl, HO2.out, HB2.out⟩
          case measure => simp [intOf]; omega
    · have hte : t = 32054400 := by omega
      have hR := Lib.hid (fun u => Sp.upto_end hU.out (by simp only [Sp.MT]; omega) u)
      obtain ⟨A5, cap5, rfl, _, _⟩ := own_form HO.out
      clear hte
      go_wp2
      go_ret
      exact ⟨A5, cap5, O, rfl, hU.out.1, hR.out, HO.out, HB.out⟩
end Go.Proofs.YtnhmibfgaoealaaGreat
