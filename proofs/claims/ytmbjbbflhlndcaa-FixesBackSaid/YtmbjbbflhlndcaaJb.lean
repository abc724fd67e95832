/-
  Numbers as bytes: plain theory.
-/
import Derived.Test.YtmbjbbflhlndcaaJa
namespace Go.Proofs.Ytmbjbbflhlndcaa
open Go.RowKit
set_option linter.unusedVariables false
set_option linter.unusedSimpArgs false

theorem snoc_ind {α : Type} {p : List α → Prop} (h0 : p []) (h1 : ∀ l x, p l → p (l ++ [x])) (l : List α) : p l := by
  have h : ∀ m : List α, p m.reverse := fun m => by
    induction m with
    | nil => exact h0
    | cons x m ih => rw [List.reverse_cons]; exact h1 _ _ ih
  have := h l.reverse
  rwa [List.reverse_reverse] at this
/-- A number's bytes without how many, the highest first. -/
def digs (n : Nat) : List UInt8 := if h : n = 0 then [] else digs (n / 256) ++ [UInt8.ofNat n]
termination_by n
decreasing_by omega
theorem digs_zero : digs 0 = [] := by unfold digs; rfl
theorem digs_pos {n : Nat} (h : 0 < n) : digs n = digs (n / 256) ++ [UInt8.ofNat n] := by
  rw [digs, dif_neg (by omega)]
def needN (n : Nat) : Nat := (digs n).length
theorem needN_zero : needN 0 = 0 := by unfold needN; rw [digs_zero]; rfl
theorem needN_pos {n : Nat} (h : 0 < n) : needN n = needN (n / 256) + 1 := by unfold needN; rw [digs_pos h]; simp
def valB (l : List UInt8) : Nat := l.foldl (fun a c => a * 256 + c.toNat) 0
theorem valB_nil : valB [] = 0 := rfl
theorem valB_snoc (l : List UInt8) (c : UInt8) : valB (l ++ [c]) = valB l * 256 + c.toNat := by simp [valB]
theorem u8_ofNat_toNat (n : Nat) : (UInt8.ofNat n).toNat = n % 256 := by simp [UInt8.toNat_ofNat]
theorem valB_digs (n : Nat) : valB (digs n) = n := by
  induction n using Nat.strongRecOn with
  | ind n ih =>
    rcases Nat.eq_zero_or_pos n with h | h
    · subst h; rw [digs_zero]; rfl
    · rw [digs_pos h, valB_snoc, ih _ (by omega), u8_ofNat_toNat]; omega
theorem needN_le {n k : Nat} (h : n < 256 ^ k) : needN n ≤ k := by
  induction k generalizing n with
  | zero => have : n = 0 := by simpa using h
            subst this; rw [needN_zero]; exact Nat.le_refl _
  | succ k ih =>
    rcases Nat.eq_zero_or_pos n with h0 | h0
    · subst h0; rw [needN_zero]; omega
    · rw [needN_pos h0]
      have := ih (n := n / 256) (by rw [Nat.pow_succ] at h; omega)
      omega
theorem lt_needN (n : Nat) : n < 256 ^ needN n := by
  induction n using Nat.strongRecOn with
  | ind n ih =>
    rcases Nat.eq_zero_or_pos n with h | h
    · subst h; rw [needN_zero]; decide
    · rw [needN_pos h, Nat.pow_succ]
      have := ih (n / 256) (by omega)
      omega
theorem needN_least {n k : Nat} (h : k < needN n) : 256 ^ k ≤ n := by
  induction k generalizing n with
  | zero => rcases Nat.eq_zero_or_pos n with h0 | h0
            · subst h0; rw [needN_zero] at h; omega
            · rw [Nat.pow_zero]; omega
  | succ k ih =>
    rcases Nat.eq_zero_or_pos n with h0 | h0
    · subst h0; rw [needN_zero] at h; omega
    · rw [needN_pos h0] at h
      have := ih (n := n / 256) (by omega)
      rw [Nat.pow_succ]; omega
theorem valB_lt (l : List UInt8) : valB l < 256 ^ l.length := by
  refine snoc_ind (p := fun l => valB l < 256 ^ l.length) (by decide) (fun l c ih => ?_) l
  rw [valB_snoc, List.length_append, List.length_singleton, Nat.pow_succ]
  have := c.toNat_lt
  omega
theorem digs_val {l : List UInt8} (h : needN (valB l) = l.length) : digs (valB l) = l := by
  revert h
  refine snoc_ind (p := fun l => needN (valB l) = l.length → digs (valB l) = l) (fun _ => by rw [valB_nil, digs_zero]) (fun l c ih h => ?_) l
  rw [valB_snoc] at h ⊢
  have hc := c.toNat_lt
  rcases Nat.eq_zero_or_pos (valB l * 256 + c.toNat) with h0 | h0
  · rw [h0, needN_zero] at h; simp at h
  · rw [needN_pos h0] at h
    have e : (valB l * 256 + c.toNat) / 256 = valB l := by omega
    rw [e] at h
    rw [digs_pos h0, e, ih (by simpa using h)]
    congr 2
    apply UInt8.toNat_inj.1
    rw [u8_ofNat_toNat]; omega
/-- The place of a byte. -/
theorem digs_at (n : Nat) {i : Nat} (h : i < needN n) : (digs n)[i]? = some (UInt8.ofNat (n / 256 ^ (needN n - 1 - i))) := by
  induction n using Nat.strongRecOn generalizing i with
  | ind n ih =>
    rcases Nat.eq_zero_or_pos n with h0 | h0
    · subst h0; rw [needN_zero] at h; omega
    · rw [digs_pos h0]
      have hn := needN_pos h0
      by_cases hi : i < needN (n / 256)
      · rw [List.getElem?_append_left (by exact hi), ih _ (by omega) hi, hn]
        congr 2
        rw [show needN (n / 256) + 1 - 1 - i = (needN (n / 256) - 1 - i) + 1 by omega, Nat.pow_succ, Nat.mul_comm, ← Nat.div_div_eq_div_mul]
      · have : i = needN (n / 256) := by omega
        subst this
        rw [List.getElem?_append_right (by exact Nat.le_refl _)]
        rw [hn]
        unfold needN
        simp
theorem needN_8 {n : Nat} (h : n < 9223372036854775808) : needN n ≤ 8 := needN_le (by rw [show (256 : Nat) ^ 8 = 18446744073709551616 from by decide]; omega)
/-- A number's bytes. -/
def one (n : Nat) : List UInt8 := UInt8.ofNat (needN n) :: digs n
theorem one_len (n : Nat) : (one n).length = 1 + needN n := by unfold one needN; simp; omega
/-- The number that bytes begin with, and what is behind. -/
def dec : List UInt8 → Option (Nat × List UInt8)
  | [] => none
  | m :: r => if m.toNat ≤ 8 ∧ m.toNat ≤ r.length ∧ valB (r.take m.toNat) < 9223372036854775808 ∧ needN (valB (r.take m.toNat)) = m.toNat then some (valB (r.take m.toNat), r.drop m.toNat) else none
theorem dec_one {n : Nat} (h : n < 9223372036854775808) (r : List UInt8) : dec (one n ++ r) = some (n, r) := by
  have h8 := needN_8 h
  have hm : (UInt8.ofNat (needN n)).toNat = needN n := by rw [u8_ofNat_toNat]; omega
  have ht : (digs n ++ r).take (needN n) = digs n := List.take_left
  have hd : (digs n ++ r).drop (needN n) = r := List.drop_left
  unfold one
  rw [List.cons_append, dec, hm, ht, hd, valB_digs, if_pos ⟨h8, by unfold needN; simp, h, rfl⟩]
theorem dec_some {b : List UInt8} {n : Nat} {r : List UInt8} (h : dec b = some (n, r)) : b = one n ++ r ∧ n < 9223372036854775808 := by
  cases b with
  | nil => simp [dec] at h
  | cons m t =>
    rw [dec] at h
    split at h
    · rename_i hc
      obtain ⟨h1, h2, h3, h4⟩ := hc
      injection h with h
      injection h with e1 e2
      subst e1 e2
      refine ⟨?_, h3⟩
      have hl : (t.take m.toNat).length = m.toNat := by simp; omega
      have := digs_val (l := t.take m.toNat) (by rw [h4, hl])
      unfold one
      rw [h4, this, List.cons_append, List.take_append_drop]
      congr 1
      apply UInt8.toNat_inj.1
      rw [u8_ofNat_toNat]
      have := m.toNat_lt; omega
    · cases h
theorem one_inj {m n : Nat} (hm : m < 9223372036854775808) (hn : n < 9223372036854775808) {r s : List UInt8} (h : one m ++ r = one n ++ s) : m = n ∧ r = s := by
  have h1 := dec_one hm r
  rw [h, dec_one hn s] at h1
  injection h1 with h1
  injection h1 with a b
  exact ⟨a.symm, b.symm⟩
theorem dec_len {b : List UInt8} {n : Nat} {r : List UInt8} (h : dec b = some (n, r)) : r.length < b.length := by
  rw [(dec_some h).1, List.length_append, one_len]; omega
/-- Numbers' bytes, one behind the other. -/
def encNs (l : List Nat) : List UInt8 := l.flatMap one
/-- So many numbers, and what is behind. -/
def decN : Nat → List UInt8 → Option (List Nat × List UInt8)
  | 0, b => some ([], b)
  | k + 1, b => match dec b with
    | none => none
    | some (n, r) => match decN k r with
      | none => none
      | some (l, t) => some (n :: l, t)
theorem decN_enc {l : List Nat} (h : ∀ n ∈ l, n < 9223372036854775808) (r : List UInt8) : decN l.length (encNs l ++ r) = some (l, r) := by
  induction l with
  | nil => rfl
  | cons n l ih =>
    rw [List.length_cons, decN, show encNs (n :: l) = one n ++ encNs l from List.flatMap_cons, List.append_assoc, dec_one (h n (by simp))]
    have e := ih fun x hx => h x (by simp [hx])
    simp only [e]
theorem decN_some {k : Nat} {b : List UInt8} {l : List Nat} {r : List UInt8} (h : decN k b = some (l, r)) : b = encNs l ++ r ∧ l.length = k ∧ ∀ n ∈ l, n < 9223372036854775808 := by
  induction k generalizing b l with
  | zero => simp only [decN] at h; cases h; exact ⟨rfl, rfl, by simp⟩
  | succ k ih =>
    rw [decN] at h
    cases h1 : dec b with
    | none => rw [h1] at h; cases h
    | some x =>
      obtain ⟨n, t⟩ := x
      rw [h1] at h
      simp only at h
      cases h2 : decN k t with
      | none => rw [h2] at h; cases h
      | some y =>
        obtain ⟨l', t'⟩ := y
        rw [h2] at h
        simp only at h
        cases h
        obtain ⟨e1, e2, e3⟩ := ih h2
        obtain ⟨f1, f2⟩ := dec_some h1
        refine ⟨by rw [f1, e1, show encNs (n :: l') = one n ++ encNs l' from List.flatMap_cons, List.append_assoc], by rw [List.length_cons, e2], ?_⟩
        intro x hx
        rcases List.mem_cons.1 hx with rfl | hx
        · exact f2
        · exact e3 x hx
theorem encN_append (l m : List Nat) : encNs (l ++ m) = encNs l ++ encNs m := by simp [encNs]
theorem decN_append (j k : Nat) (b : List UInt8) : decN (j + k) b = match decN j b with
    | none => none
    | some (l, r) => match decN k r with
      | none => none
      | some (m, t) => some (l ++ m, t) := by
  induction j generalizing b with
  | zero => rw [Nat.zero_add]; simp only [decN]; cases decN k b <;> rfl
  | succ j ih =>
    rw [Nat.succ_add, decN, decN]
    cases dec b with
    | none => rfl
    | some x =>
      obtain ⟨n, t⟩ := x
      simp only
      rw [ih]
      cases decN j t with
      | none => rfl
      | some y =>
        obtain ⟨l, r⟩ := y
        simp only
        cases decN k r with
        | none => rfl
        | some z => rfl
end Go.Proofs.Ytmbjbbflhlndcaa
