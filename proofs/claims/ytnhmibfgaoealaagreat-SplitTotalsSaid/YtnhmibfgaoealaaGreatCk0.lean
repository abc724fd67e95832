/-
  Which numbers of a setup may be, in plain words.
-/
import Derived.Test.YtnhmibfgaoealaaGreatMb
namespace Go.Proofs.YtnhmibfgaoealaaGreat
open Go.RowKit
set_option linter.unusedVariables false
set_option linter.unusedSimpArgs false

def okIn (lo hi n : Int) : Bool := decide (lo ≤ n ∧ n ≤ hi)
def okShare (r : Int × Int) : Bool := decide (0 ≤ r.1 ∧ r.1 ≤ 2147483647 ∧ 1 ≤ r.2 ∧ r.2 ≤ 2147483647 ∧ Nat.gcd r.1.toNat r.2.toNat = 1)
def okWay (p : Int) (x : Int × Int × Int) : Bool := okIn 0 (p - 1) x.1 && okIn 0 (p - 1) x.2.1 && decide (x.1 ≠ x.2.1) && okIn 1 10000 x.2.2
def okEl (x : (Int × Int) × (Int × Int)) : Bool := okShare x.1 && okShare x.2
def okTier (last : Int) (t : Int × Int) : Bool := decide (last < t.1 ∧ t.1 ≤ 1000) && okIn 0 100000 t.2
def okTiers : Int → List (Int × Int) → Bool
  | _, [] => true
  | last, t :: r => okTier last t && okTiers t.1 r

theorem okIn_iff {lo hi n : Int} : okIn lo hi n = true ↔ lo ≤ n ∧ n ≤ hi := by unfold okIn; simp
theorem gcd_step (a b : Nat) : Nat.gcd b (a % b) = Nat.gcd a b := by rw [Nat.gcd_comm b, ← Nat.gcd_rec, Nat.gcd_comm]
theorem div_gcd {n d : Nat} (n0 : 0 < n) (d0 : 0 < d) : (n / Nat.gcd n d = n) ↔ Nat.gcd n d = 1 := by
  have g0 : 0 < Nat.gcd n d := Nat.gcd_pos_of_pos_left _ n0
  constructor
  · intro h
    by_cases h1 : Nat.gcd n d = 1
    · exact h1
    · have := Nat.div_lt_self n0 (show 1 < Nat.gcd n d by omega)
      omega
  · intro h; rw [h, Nat.div_one]
theorem div_gcd2 {n d : Nat} (h : Nat.gcd n d = 1) : n / Nat.gcd n d = n ∧ d / Nat.gcd n d = d := by rw [h]; simp
def atB {α : Type} (q : α → Bool) (zs : List α) (j : Nat) : Bool := match zs[j]? with | some x => q x | none => false
theorem atB_at {α : Type} {q : α → Bool} {zs : List α} {j : Nat} {x : α} (h : zs[j]? = some x) : atB q zs j = q x := by unfold atB; rw [h]
theorem atB_iff {α : Type} (q : α → Bool) (zs : List α) : (∃ j, j < zs.length ∧ atB q zs j = true) ↔ zs.any q = true := by
  constructor
  · rintro ⟨j, hj, h⟩
    rw [atB_at (List.getElem?_eq_getElem hj)] at h
    exact List.any_eq_true.2 ⟨_, List.getElem_mem hj, h⟩
  · intro h
    obtain ⟨x, hx, h⟩ := List.any_eq_true.1 h
    obtain ⟨j, hj, rfl⟩ := List.getElem_of_mem hx
    exact ⟨j, hj, by rw [atB_at (List.getElem?_eq_getElem hj)]; exact h⟩
theorem any_of {α : Type} {b : Bool} {q : α → Bool} {zs : List α} (h : b = true ↔ ∃ j, j < zs.length ∧ atB q zs j = true) : b = zs.any q := by
  rw [atB_iff] at h
  rw [Bool.eq_iff_iff]; exact h
theorem none_of {α : Type} {b : Bool} {q : α → Bool} {zs : List α} (h : b = true ↔ ∃ j, j < zs.length ∧ atB (fun x => !q x) zs j = true) : (!b) = zs.all q := by
  rw [any_of h]; clear h
  induction zs with
  | nil => rfl
  | cons x r ih => rw [List.any_cons, List.all_cons, ← ih]; cases q x <;> simp
/-- The place that the last tier, ahead of the j-th, had. -/
def lastOf (l : List (Int × Int)) : Nat → Int
  | 0 => -1
  | j + 1 => match l[j]? with | some t => t.1 | none => -1
def badTier (l : List (Int × Int)) (j : Nat) : Bool := match l[j]? with | some t => !okTier (lastOf l j) t | none => false
theorem tiers_aux (l : List (Int × Int)) (last : Int) : okTiers last l = true ↔ ∀ j t, l[j]? = some t → okTier (match j with | 0 => last | i + 1 => match l[i]? with | some u => u.1 | none => -1) t = true := by
  induction l generalizing last with
  | nil => simp [okTiers]
  | cons x r ih =>
    rw [okTiers, Bool.and_eq_true, ih]
    constructor
    · rintro ⟨h1, h2⟩ j t ht
      match j with
      | 0 => simp at ht; subst ht; exact h1
      | 1 => exact h2 0 t (by simpa using ht)
      | i + 2 => exact h2 (i + 1) t (by simpa using ht)
    · intro h
      refine ⟨h 0 x rfl, fun j t ht => ?_⟩
      match j with
      | 0 => exact h 1 t (by simpa using ht)
      | i + 1 => exact h (i + 2) t (by simpa using ht)
theorem tiers_of {b : Bool} {l : List (Int × Int)} (h : b = true ↔ ∃ j, j < l.length ∧ badTier l j = true) : (!b) = okTiers (-1) l := by
  rw [Bool.eq_iff_iff, tiers_aux]
  constructor
  · intro hb j t ht
    have hj : j < l.length := (List.getElem?_eq_some_iff.1 ht).1
    have hn : ¬ badTier l j = true := fun hc => by rw [h.2 ⟨j, hj, hc⟩] at hb; cases hb
    unfold badTier at hn
    rw [ht] at hn
    have : okTier (lastOf l j) t = true := by simpa using hn
    cases j <;> exact this
  · intro hb
    cases b with
    | false => rfl
    | true =>
      obtain ⟨j, hj, hc⟩ := h.1 rfl
      unfold badTier at hc
      rw [List.getElem?_eq_getElem hj] at hc
      have := hb j _ (List.getElem?_eq_getElem hj)
      have hc2 : okTier (lastOf l j) l[j] = false := by simpa using hc
      cases j <;> exact absurd (hc2.symm.trans this) (by decide)
def encN (n : Int) : List Value := [.int .i64 n]
theorem encN_len (n : Int) : (encN n).length = 1 := rfl
/-- The slice at A reads as these numbers. -/
def Rn (w : World) (A : Option Addr) (l : List Int) : Prop := Rd encN 1 w w.heap.size A l
theorem Rn.ext {w w' : World} {A : Option Addr} {l : List Int} (h : Rn w A l) (k : Ext w w') : Rn w' A l := (Rd.below h k).more k.size
theorem Rn.alloc {w : World} {A : Option Addr} {l : List Int} (h : Rn w A l) (o : Obj) : Rn (w.alloc o) A l := h.ext ((Ext.refl w).alloc o)
theorem Rn.nil {w : World} {A : Option Addr} : Rn w A [] := Rd.nil
theorem Rn.own {w : World} {A : Option Addr} {n cap base e : Nat} {l : List Int} (h : w.ownsRow base e 1 (.slice A n cap) l.length (flat encN l)) : Rn w A l := Rd.of_own encN_len h
theorem Rd.atN {w w' : World} {B : Nat} {A : Option Addr} {l : List Int} (h : Rd encN 1 w B A l) (hb : Below B w w') {j : Nat} (hj : j < l.length) :
    ∃ b off p, A = some ⟨b, off, none⟩ ∧ b < B ∧ Hid (l[j]? = some p) ∧ w'.cell? ⟨b, off + j, none⟩ = some (.int .i64 p) := by
  obtain ⟨b, off, x, hA, hlt, hx, hc⟩ := (h.below hb).at_ hj
  have := hc 0 _ rfl
  exact ⟨b, off, x, hA, hlt, hx, by simpa using this⟩

theorem Rn.drewN {w : World} {A : Option Addr} {l : List Int} (h : Rn w A l) (n : Nat) : Rn (w.drewN n) A l := h.ext ((Ext.refl w).drewN n)
theorem Rn.new (w : World) (l : List Int) (t : TypeId) : Rn (w.alloc (.cells (flat encN l).toArray t)) (some ⟨w.heap.size, 0, none⟩) l := fun _ =>
  ⟨w.heap.size, 0, rfl, by simp, fun j hj i u hu => by
    have hi : i < 1 := by have := (List.getElem?_eq_some_iff.1 hu).1; rwa [encN_len] at this
    have := cells_new w (flat encN l) t (j * 1 + i) u (by rw [flat_at encN_len l j hj i hi]; exact hu)
    rw [add_head] at this
    rw [Nat.zero_add]; exact this⟩
def enc3 (x : Int × Int × Int) : List Value := [.int .i64 x.1, .int .i64 x.2.1, .int .i64 x.2.2]
def enc4 (x : (Int × Int) × (Int × Int)) : List Value := [.int .i64 x.1.1, .int .i64 x.1.2, .int .i64 x.2.1, .int .i64 x.2.2]
end Go.Proofs.YtnhmibfgaoealaaGreat
