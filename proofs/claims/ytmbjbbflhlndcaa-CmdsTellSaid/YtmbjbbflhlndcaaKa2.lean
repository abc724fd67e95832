/-
  Commands read from bytes: plain theory.
-/
import Derived.Test.YtmbjbbflhlndcaaJy
namespace Go.Proofs.Ytmbjbbflhlndcaa
open Go.RowKit BigFrame
set_option linter.unusedVariables false
set_option linter.unusedSimpArgs false

def nth (l : List Nat) (i : Nat) : Int := ((l[i]?).getD 0 : Nat)
def mkC (k : Int) (m : List Nat) : Cm := if k = 2 then { cm0 with kind := k, fk := nth m 0 } else if k = 3 then { cm0 with kind := k, worker := nth m 0, week := nth m 1 } else if k = 4 then { cm0 with kind := k, worker := nth m 0 } else if k = 5 ∨ k = 6 ∨ k = 7 then { cm0 with kind := k, week := nth m 0 } else { cm0 with kind := k }
theorem mkC_kind (k : Int) (m : List Nat) : (mkC k m).kind = k ∧ (mkC k m).ev = ev0 ∧ (mkC k m).tear = 0 := by
  unfold mkC
  split
  · exact ⟨rfl, rfl, rfl⟩
  · split
    · exact ⟨rfl, rfl, rfl⟩
    · split
      · exact ⟨rfl, rfl, rfl⟩
      · split <;> exact ⟨rfl, rfl, rfl⟩
/-- The event's part of a command. -/
def decF (c : Cm) (s : List UInt8) : Option (Cm × List UInt8) :=
  if partC c = true then match decN 1 s with
    | none => none
    | some (i, t) => some ({ c with ev := { ev0 with id := nth i 0 } }, t)
  else if wholeC c = true then match decE s with
    | none => none
    | some (e, t) => some ({ c with ev := e }, t)
  else some (c, s)
def decG (c : Cm) (t : List UInt8) : Option (Cm × List UInt8) := match decN 1 t with
  | none => none
  | some (x, u) => if plainC { c with tear := nth x 0 } = true then some ({ c with tear := nth x 0 }, u) else none
/-- The command that bytes begin with, and what is behind. -/
def decC (b : List UInt8) : Option (Cm × List UInt8) := match decN 1 b with
  | none => none
  | some (l, r) => if 1 ≤ nth l 0 ∧ nth l 0 ≤ 8 then match decN (ownCx (nth l 0)).length r with
    | none => none
    | some (m, s) => match decF (mkC (nth l 0) m) s with
      | none => none
      | some (c, t) => decG c t
    else none
theorem decN_one {n : Int} (h0 : 0 ≤ n) (h : B64 n) (r : List UInt8) : decN 1 (encZ [n] ++ r) = some ([n.toNat], r) := by
  unfold B64 at h
  have := decN_enc (l := [n.toNat]) (by intro x hx; simp at hx; subst hx; omega) r
  exact this
theorem decN_ints {l : List Int} (h0 : ∀ n ∈ l, 0 ≤ n) (h : ∀ n ∈ l, B64 n) (r : List UInt8) : decN l.length (encZ l ++ r) = some (l.map Int.toNat, r) := by
  have := decN_enc (l := l.map Int.toNat) (by intro x hx; obtain ⟨y, hy, rfl⟩ := List.mem_map.1 hx; have := h y hy; unfold B64 at this; omega) r
  rw [List.length_map] at this
  exact this
theorem nth0 {n : Int} (h : 0 ≤ n) : nth [n.toNat] 0 = n := by unfold nth; simp only [List.getElem?_cons_zero, Option.getD_some]; omega
theorem plain_mk {c : Cm} (h : plainC c = true) : { mkC c.kind ((ownC c).map Int.toNat) with ev := c.ev, tear := c.tear } = c := by
  obtain ⟨hk, ht, ho, _, h1, h2, h3⟩ := plainC_iff.1 h
  unfold mkC
  unfold ownC at ho ⊢
  by_cases k2 : c.kind = 2
  · rw [if_pos k2] at ho ⊢
    rw [if_pos k2]
    have w1 := h2 (by omega); have w2 := h3 (by omega)
    have := ho c.fk (by simp)
    rcases c with ⟨a, b, d, e, f, g⟩
    simp only at *
    subst w1 w2
    simp [nth, cm0]; omega
  · rw [if_neg k2] at ho ⊢
    rw [if_neg k2]
    have f1 := h1 k2
    by_cases k3 : c.kind = 3
    · rw [if_pos k3] at ho ⊢
      rw [if_pos k3]
      have a1 := ho c.worker (by simp); have a2 := ho c.week (by simp)
      rcases c with ⟨a, b, d, e, f, g⟩
      simp only at *
      subst f1
      simp [nth, cm0]; omega
    · rw [if_neg k3] at ho ⊢
      rw [if_neg k3]
      by_cases k4 : c.kind = 4
      · rw [if_pos k4] at ho ⊢
        rw [if_pos k4]
        have a1 := ho c.worker (by simp)
        have w2 := h3 (by omega)
        rcases c with ⟨a, b, d, e, f, g⟩
        simp only at *
        subst f1 w2
        simp [nth, cm0]; omega
      · rw [if_neg k4] at ho ⊢
        rw [if_neg k4]
        have w1 := h2 ⟨k3, k4⟩
        by_cases k5 : c.kind = 5 ∨ c.kind = 6 ∨ c.kind = 7
        · rw [if_pos k5] at ho ⊢
          rw [if_pos k5]
          have a1 := ho c.week (by simp)
          rcases c with ⟨a, b, d, e, f, g⟩
          simp only at *
          subst f1 w1
          simp [nth, cm0]; omega
        · rw [if_neg k5]
          have w2 := h3 ⟨k3, k5⟩
          rcases c with ⟨a, b, d, e, f, g⟩
          simp only at *
          subst f1 w1 w2
          simp [cm0]
theorem wp_same (c : Cm) (e : Ev) (t : Int) : wholeC { c with ev := e, tear := t } = wholeC c ∧ partC { c with ev := e, tear := t } = partC c := ⟨rfl, rfl⟩
theorem decC_enc {c : Cm} (h : plainC c = true) (h64 : Cm64 c) (r : List UInt8) : decC (encM c ++ r) = some (c, r) := by
  obtain ⟨hk, ht, ho, hev, _⟩ := plainC_iff.1 h
  have hmk := plain_mk h
  obtain ⟨M, hM⟩ : ∃ M, mkC c.kind ((ownC c).map Int.toNat) = M := ⟨_, rfl⟩
  rw [hM] at hmk
  have hMe : M.ev = ev0 ∧ M.tear = 0 := by rw [← hM]; exact ⟨(mkC_kind _ _).2.1, (mkC_kind _ _).2.2⟩
  have hw : wholeC M = wholeC c := by rw [← hmk]; rfl
  have hp : partC M = partC c := by rw [← hmk]; rfl
  have e0 : encM c ++ r = encZ [c.kind] ++ (encZ (ownC c) ++ ((if partC c = true then encZ [c.ev.id] else []) ++ ((if wholeC c = true then encE c.ev else []) ++ (encZ [c.tear] ++ r)))) := by
    unfold encM
    rw [encZ_append]
    simp only [List.append_assoc]
  have d1 := decN_one (n := c.kind) (by omega) h64.kind (encZ (ownC c) ++ ((if partC c = true then encZ [c.ev.id] else []) ++ ((if wholeC c = true then encE c.ev else []) ++ (encZ [c.tear] ++ r))))
  have d2 := decN_ints ho (own64 h64) ((if partC c = true then encZ [c.ev.id] else []) ++ ((if wholeC c = true then encE c.ev else []) ++ (encZ [c.tear] ++ r)))
  rw [← ownCx_len] at d2
  unfold decC
  rw [e0, d1]
  simp only
  rw [nth0 (show 0 ≤ c.kind by omega), if_pos hk, d2]
  simp only
  rw [hM]
  have d4 := decN_one ht h64.tear r
  have hG : ∀ x : Cm, { x with tear := c.tear } = c → decG x (encZ [c.tear] ++ r) = some (c, r) := fun x hx => by
    unfold decG
    rw [d4]
    simp only
    rw [nth0 ht, hx, if_pos h]
  unfold decF
  rw [hp, hw]
  cases hpc : partC c
  · simp only [Bool.false_eq_true, if_false]
    cases hwc : wholeC c
    · simp only [Bool.false_eq_true, if_false, List.nil_append]
      rw [hwc, hpc] at hev
      simp only [Bool.false_eq_true, if_false] at hev
      exact hG M (by rw [← hev.2] at hMe; rw [← hmk]; congr 1; exact hMe.1)
    · rw [hwc] at hev
      simp only [if_true] at hev
      simp only [if_true, List.nil_append]
      rw [decE_enc hev h64.ev]
      simp only
      exact hG _ hmk
  · have hwc := part_whole hpc
    rw [hwc, hpc] at hev
    simp only [Bool.false_eq_true, if_false, if_true] at hev
    simp only [hwc, Bool.false_eq_true, if_false, if_true, List.nil_append]
    rw [decN_one hev.2.1 h64.ev.id]
    simp only
    rw [nth0 hev.2.1, ← hev.1]
    exact hG _ hmk

theorem own_mk {k : Int} {m : List Nat} (h : m.length = (ownCx k).length) (e : Ev) (t : Int) : ownC { mkC k m with ev := e, tear := t } = m.map (fun (n : Nat) => (n : Int)) := by
  have hk : ({ mkC k m with ev := e, tear := t } : Cm).kind = k := (mkC_kind k m).1
  unfold ownC
  rw [hk]
  unfold ownCx at h
  unfold mkC
  by_cases k2 : k = 2
  · rw [if_pos k2] at h
    simp only [k2, if_true]
    match m, h with
    | [x], _ => rfl
  · rw [if_neg k2] at h
    simp only [k2, if_false]
    by_cases k3 : k = 3
    · rw [if_pos k3] at h
      simp only [k3, if_true]
      match m, h with
      | [x, y], _ => rfl
    · rw [if_neg k3] at h
      simp only [k3, if_false]
      by_cases k4 : k = 4
      · rw [if_pos k4] at h
        simp only [k4, if_true]
        match m, h with
        | [x], _ => rfl
      · rw [if_neg k4] at h
        simp only [k4, if_false]
        by_cases k5 : k = 5 ∨ k = 6 ∨ k = 7
        · rw [if_pos k5] at h
          simp only [k5, if_true]
          match m, h with
          | [x], _ => rfl
        · rw [if_neg k5] at h
          simp only [k5, if_false]
          match m, h with
          | [], _ => rfl
theorem b64_nat {n : Nat} (h : n < 9223372036854775808) : B64 (n : Int) := by unfold B64; omega
theorem b64_nth {l : List Nat} (h : ∀ n ∈ l, n < 9223372036854775808) (i : Nat) : B64 (nth l i) := by
  unfold nth
  cases hl : l[i]? with
  | none => unfold B64; simp
  | some x => exact b64_nat (h x (List.mem_of_getElem? hl))
theorem ev0_64 : Ev64 ev0 := by
  have q : B64 0 := by unfold B64; omega
  exact ⟨q, q, q, q, q, q, q, q, q, q, q⟩
theorem mkC_64 {k : Int} {m : List Nat} (hk : B64 k) (h : ∀ n ∈ m, n < 9223372036854775808) : Cm64 (mkC k m) := by
  have q : B64 0 := by unfold B64; omega
  have n0 := b64_nth h 0; have n1 := b64_nth h 1
  unfold mkC
  split
  · exact ⟨hk, n0, ev0_64, q, q, q⟩
  · split
    · exact ⟨hk, q, ev0_64, n0, n1, q⟩
    · split
      · exact ⟨hk, q, ev0_64, n0, q, q⟩
      · split
        · exact ⟨hk, q, ev0_64, q, n0, q⟩
        · exact ⟨hk, q, ev0_64, q, q, q⟩
theorem decN_1 {b : List UInt8} {l : List Nat} {r : List UInt8} (h : decN 1 b = some (l, r)) : ∃ x : Nat, l = [x] ∧ b = encZ [(x : Int)] ++ r ∧ x < 9223372036854775808 := by
  obtain ⟨e, hl, hb⟩ := decN_some h
  match l, hl with
  | [x], _ => exact ⟨x, rfl, by rw [e]; simp [encZ], hb x (by simp)⟩
theorem decF_some {c c' : Cm} {s t : List UInt8} (h : decF c s = some (c', t)) (hc : c.ev = ev0) : ∃ e, c' = { c with ev := e } ∧ (Ev64 e) ∧ s = ((if partC c' = true then encZ [c'.ev.id] else []) ++ (if wholeC c' = true then encE c'.ev else [])) ++ t := by
  unfold decF at h
  cases hp : partC c
  · rw [hp] at h
    simp only [Bool.false_eq_true, if_false] at h
    cases hw : wholeC c
    · rw [hw] at h
      simp only [Bool.false_eq_true, if_false] at h
      cases h
      exact ⟨ev0, by rw [← hc], ev0_64, by rw [hp, hw]; simp⟩
    · rw [hw] at h
      simp only [if_true] at h
      cases hd : decE s with
      | none => rw [hd] at h; cases h
      | some q =>
        obtain ⟨e, u⟩ := q
        rw [hd] at h
        simp only at h
        cases h
        obtain ⟨h1, h2, h3⟩ := decE_some hd
        have q1 : partC { c with ev := e } = false := hp
        have q2 : wholeC { c with ev := e } = true := hw
        exact ⟨e, rfl, h2, by rw [q1, q2]; simpa using h3⟩
  · rw [hp] at h
    simp only [if_true] at h
    cases hd : decN 1 s with
    | none => rw [hd] at h; cases h
    | some q =>
      obtain ⟨i, u⟩ := q
      rw [hd] at h
      simp only at h
      cases h
      obtain ⟨x, rfl, hs, hx⟩ := decN_1 hd
      have q1 : partC { c with ev := { ev0 with id := nth [x] 0 } } = true := hp
      have q2 : wholeC { c with ev := { ev0 with id := nth [x] 0 } } = false := part_whole hp
      refine ⟨_, rfl, ?_, ?_⟩
      · have q : B64 0 := by unfold B64; omega
        exact ⟨b64_nat hx, q, q, q, q, q, q, q, q, q, q⟩
      · rw [q1, q2]
        simp only [if_true, Bool.false_eq_true, if_false, List.append_nil]
        exact hs
theorem decC_some {b : List UInt8} {c : Cm} {r : List UInt8} (h : decC b = some (c, r)) : plainC c = true ∧ Cm64 c ∧ b = encM c ++ r := by
  unfold decC at h
  cases h1 : decN 1 b with
  | none => rw [h1] at h; cases h
  | some q =>
    obtain ⟨l, r0⟩ := q
    rw [h1] at h
    simp only at h
    split at h
    · rename_i hk
      obtain ⟨x, rfl, hb, hx⟩ := decN_1 h1
      cases h2 : decN (ownCx (nth [x] 0)).length r0 with
      | none => rw [h2] at h; cases h
      | some q =>
        obtain ⟨m, s⟩ := q
        rw [h2] at h
        simp only at h
        obtain ⟨hr0, hml, hmb⟩ := decN_some h2
        cases h3 : decF (mkC (nth [x] 0) m) s with
        | none => rw [h3] at h; cases h
        | some q =>
          obtain ⟨c1, t⟩ := q
          rw [h3] at h
          simp only at h
          obtain ⟨e, hc1, he64, hs⟩ := decF_some h3 (mkC_kind _ _).2.1
          unfold decG at h
          cases h4 : decN 1 t with
          | none => rw [h4] at h; cases h
          | some q =>
            obtain ⟨y, u⟩ := q
            rw [h4] at h
            simp only at h
            obtain ⟨z, rfl, ht, hz⟩ := decN_1 h4
            split at h
            · rename_i hpl
              cases h
              have hk64 : B64 (nth [x] 0) := b64_nth (by intro n hn; simp at hn; subst hn; exact hx) 0
              have hm64 := mkC_64 hk64 hmb
              refine ⟨hpl, ?_, ?_⟩
              · rw [hc1]
                exact ⟨hm64.kind, hm64.fk, he64, hm64.worker, hm64.week, b64_nat hz⟩
              · have ho : ownC { c1 with tear := nth [z] 0 } = m.map (fun (n : Nat) => (n : Int)) := by rw [hc1]; exact own_mk hml e (nth [z] 0)
                have hkk : ({ c1 with tear := nth [z] 0 } : Cm).kind = (x : Int) := by rw [hc1]; exact (mkC_kind _ _).1
                have q1 : partC { c1 with tear := nth [z] 0 } = partC c1 := rfl
                have q2 : wholeC { c1 with tear := nth [z] 0 } = wholeC c1 := rfl
                have q3 : ({ c1 with tear := nth [z] 0 } : Cm).ev = c1.ev := rfl
                have q4 : ({ c1 with tear := nth [z] 0 } : Cm).tear = (z : Int) := rfl
                obtain ⟨C, hC⟩ : ∃ C, ({ c1 with tear := nth [z] 0 } : Cm) = C := ⟨_, rfl⟩
                rw [hC] at ho hkk q1 q2 q3 q4 ⊢
                unfold encM
                rw [ho, hkk, encZ_append, encZ_nat, q1, q2, q3, q4, hb, hr0, hs, ht]
                simp only [List.append_assoc]
            · cases h
    · cases h
/-- Commands' bytes are told apart. -/
theorem encM_inj {c d : Cm} (hc : plainC c = true) (hc64 : Cm64 c) (hd : plainC d = true) (hd64 : Cm64 d) {r s : List UInt8} (h : encM c ++ r = encM d ++ s) : c = d ∧ r = s := by
  have h1 := decC_enc hc hc64 r
  rw [h, decC_enc hd hd64 s] at h1
  injection h1 with h1
  injection h1 with a b
  exact ⟨a.symm, b.symm⟩
theorem encM_len {c : Cm} (h : plainC c = true) (h64 : Cm64 c) : (encM c).length ≤ 140 ∧ 1 ≤ (encM c).length := by
  have h1 := encZ_len ([c.kind] ++ ownC c) (fun n hn => by
    rcases List.mem_append.1 hn with hn | hn
    · simp at hn; subst hn; exact h64.kind
    · exact own64 h64 n hn)
  have h2 := ownC_few c
  have h3 := encZ_len [c.tear] (by intro n hn; simp at hn; subst hn; exact h64.tear)
  have h4 : 1 ≤ (encZ [c.tear]).length := by
    have : encZ [c.tear] = one c.tear.toNat := by simp [encZ, encNs]
    rw [this, one_len]; omega
  have h5 : (if partC c = true then encZ [c.ev.id] else []).length ≤ 9 := by
    split
    · exact encZ_len [c.ev.id] (by intro n hn; simp at hn; subst hn; exact h64.ev.id)
    · simp
  have h6 : (if wholeC c = true then encE c.ev else []).length ≤ 90 := by
    split
    · rename_i hw
      have := (plainC_iff.1 h).2.2.2.1
      rw [hw] at this
      simp only [if_true] at this
      exact (encE_len this h64.ev).1
    · simp
  unfold encM
  simp only [List.length_append, List.length_singleton] at h1 h3 ⊢
  omega
end Go.Proofs.Ytmbjbbflhlndcaa
