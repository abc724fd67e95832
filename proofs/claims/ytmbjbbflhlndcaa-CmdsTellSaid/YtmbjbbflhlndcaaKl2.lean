/-
  lumperref24.Take: plain theory.
-/
import Derived.Test.YtmbjbbflhlndcaaKj2
namespace Go.Proofs.Ytmbjbbflhlndcaa
open Go.RowKit BigFrame
set_option linter.unusedVariables false
set_option linter.unusedSimpArgs false

def evN (b : List UInt8) : Ev := match decE b with | some (e, _) => e | none => ev0
def evR (b : List UInt8) : List UInt8 := match decE b with | some (_, r) => r | none => []
theorem numN_one {n : Int} (h0 : 0 ≤ n) (h : B64 n) (s : List UInt8) : ((numN (one n.toNat ++ s) : Nat) : Int) = n ∧ numR (one n.toNat ++ s) = s := by
  unfold B64 at h
  have := dec_one (n := n.toNat) (by omega) s
  unfold numN numR
  rw [this]
  exact ⟨by simp only; omega, rfl⟩
theorem evN_enc {e : Ev} (hf : fairB e = true) (h64 : Ev64 e) (s : List UInt8) : evN (encE e ++ s) = e ∧ evR (encE e ++ s) = s := by
  unfold evN evR
  rw [decE_enc hf h64]
  exact ⟨rfl, rfl⟩
theorem numN_64 (b : List UInt8) : B64 (numN b) := by
  unfold numN
  cases h : dec b with
  | none => unfold B64; simp
  | some x => obtain ⟨n, r⟩ := x; have := (dec_some h).2; unfold B64; simp only; omega
theorem evN_64 (b : List UInt8) : Ev64 (evN b) := by
  unfold evN
  cases h : decE b with
  | none => exact ev0_64
  | some x => obtain ⟨e, r⟩ := x; exact (decE_some h).2.1
theorem numR_le (b : List UInt8) : (numR b).length ≤ b.length := by
  unfold numR
  cases h : dec b with
  | none => exact Nat.zero_le _
  | some x => obtain ⟨n, r⟩ := x; have := dec_len h; simp only; omega
theorem evR_le (b : List UInt8) : (evR b).length ≤ b.length := by
  unfold evR
  cases h : decE b with
  | none => exact Nat.zero_le _
  | some x => obtain ⟨e, r⟩ := x; have := (decE_some h).2.2; simp only; rw [this, List.length_append]; omega
/-- The command that bytes may begin with, but for its Tear, and what is behind. -/
def cmOf (b : List UInt8) : Cm × List UInt8 :=
  if (numN b : Int) = 1 then ({ cm0 with kind := numN b, ev := evN (numR b) }, evR (numR b))
  else if (numN b : Int) = 2 then
    if (numN (numR b) : Int) = 2 then ({ cm0 with kind := numN b, fk := numN (numR b), ev := { ev0 with id := numN (numR (numR b)) } }, numR (numR (numR b)))
    else ({ cm0 with kind := numN b, fk := numN (numR b), ev := evN (numR (numR b)) }, evR (numR (numR b)))
  else if (numN b : Int) = 3 then ({ cm0 with kind := numN b, worker := numN (numR b), week := numN (numR (numR b)) }, numR (numR (numR b)))
  else if (numN b : Int) = 4 then ({ cm0 with kind := numN b, worker := numN (numR b) }, numR (numR b))
  else if (numN b : Int) = 5 ∨ (numN b : Int) = 6 ∨ (numN b : Int) = 7 then ({ cm0 with kind := numN b, week := numN (numR b) }, numR (numR b))
  else ({ cm0 with kind := numN b }, numR b)
def cmT (b : List UInt8) : Cm := { (cmOf b).1 with tear := numN (cmOf b).2 }
theorem cmT_64 (b : List UInt8) : Cm64 (cmT b) := by
  have z : B64 0 := by unfold B64; omega
  have q := numN_64
  have hid : ∀ s, Ev64 { ev0 with id := (numN s : Int) } := fun s => ⟨q s, z, z, z, z, z, z, z, z, z, z⟩
  unfold cmT cmOf
  split
  · exact ⟨q _, z, evN_64 _, z, z, q _⟩
  · split
    · split
      · exact ⟨q _, q _, hid _, z, z, q _⟩
      · exact ⟨q _, q _, evN_64 _, z, z, q _⟩
    · split
      · exact ⟨q _, z, ev0_64, q _, q _, q _⟩
      · split
        · exact ⟨q _, z, ev0_64, q _, z, q _⟩
        · split
          · exact ⟨q _, z, ev0_64, z, q _, q _⟩
          · exact ⟨q _, z, ev0_64, z, z, q _⟩
def refT (b : List UInt8) : Option (Cm × List UInt8) :=
  if plainC (cmT b) = true then if b.take (encM (cmT b)).length = encM (cmT b) then some (cmT b, b.drop (encM (cmT b)).length) else none else none
theorem cmT_enc {c : Cm} (h : plainC c = true) (h64 : Cm64 c) (r : List UInt8) : cmT (encM c ++ r) = c := by
  obtain ⟨hk, ht, ho, hev, hfk, hwo, hwe⟩ := plainC_iff.1 h
  have own : ∀ l, ownC c = l → ∀ n ∈ l, 0 ≤ n := fun l h => h ▸ ho
  have T := numN_one ht h64.tear r
  have e0 : ∀ s, ((numN (one c.kind.toNat ++ s) : Nat) : Int) = c.kind ∧ numR (one c.kind.toNat ++ s) = s := numN_one (by omega) h64.kind
  by_cases k1 : c.kind = 1
  · have hw : wholeC c = true := by unfold wholeC; simp [k1]
    have hp : partC c = false := by unfold partC; simp [k1]
    have e1 : ownC c = [] := by unfold ownC; simp [k1]
    rw [hw] at hev
    have f := evN_enc hev h64.ev (one c.tear.toNat ++ r)
    have e : encM c ++ r = one c.kind.toNat ++ (encE c.ev ++ (one c.tear.toNat ++ r)) := by
      unfold encM; rw [e1, hp, hw]; simp [encZ_one]
    have b1 := hfk (by omega); have b2 := hwo (by omega); have b3 := hwe (by omega)
    unfold cmT cmOf
    rw [e, (e0 _).1, (e0 _).2, if_pos k1, f.1, f.2, T.1]
    rcases c with ⟨c0, c1, c2, c3, c4, c5⟩
    simp only at *
    subst b1 b2 b3
    rfl
  by_cases k2 : c.kind = 2
  · have e1 : ownC c = [c.fk] := by unfold ownC; simp [k2]
    have h0 := own _ e1 c.fk (by simp)
    have b2 := hwo (by omega); have b3 := hwe (by omega)
    by_cases f2 : c.fk = 2
    · have hw : wholeC c = false := by unfold wholeC; simp [k2, f2]
      have hp : partC c = true := by unfold partC; simp [k2, f2]
      rw [hw, hp] at hev
      simp only [Bool.false_eq_true, if_false, if_true] at hev
      have e : encM c ++ r = one c.kind.toNat ++ (one c.fk.toNat ++ (one c.ev.id.toNat ++ (one c.tear.toNat ++ r))) := by
        unfold encM; rw [e1, hp, hw]; simp [encZ, encNs]
      have g1 := numN_one h0 h64.fk (one c.ev.id.toNat ++ (one c.tear.toNat ++ r))
      have g2 := numN_one hev.2.1 h64.ev.id (one c.tear.toNat ++ r)
      unfold cmT cmOf
      rw [e, (e0 _).1, (e0 _).2, if_neg k1, if_pos k2, g1.1, g1.2, if_pos f2, g2.1, g2.2, T.1]
      have hh := hev.1
      rcases c with ⟨c0, c1, c2, c3, c4, c5⟩
      simp only at *
      subst b2 b3
      rw [← hh]
      rfl
    · have hp : partC c = false := by unfold partC; simp [k2, f2]
      have f13 : c.fk = 1 ∨ c.fk = 3 := by
        by_cases f13 : c.fk = 1 ∨ c.fk = 3
        · exact f13
        · have hw : wholeC c = false := by unfold wholeC; simp only [decide_eq_false_iff_not]; rintro (h | h); exact k1 h; exact f13 h.2
          rw [hw, hp] at hev
          simp only [Bool.false_eq_true, if_false] at hev
          exact absurd k2 hev.1
      have hw : wholeC c = true := by unfold wholeC; simp only [decide_eq_true_iff]; exact .inr ⟨k2, f13⟩
      rw [hw] at hev
      have f := evN_enc hev h64.ev (one c.tear.toNat ++ r)
      have e : encM c ++ r = one c.kind.toNat ++ (one c.fk.toNat ++ (encE c.ev ++ (one c.tear.toNat ++ r))) := by
        unfold encM; rw [e1, hp, hw]; simp [encZ, encNs]
      have g1 := numN_one h0 h64.fk (encE c.ev ++ (one c.tear.toNat ++ r))
      unfold cmT cmOf
      rw [e, (e0 _).1, (e0 _).2, if_neg k1, if_pos k2, g1.1, g1.2, if_neg f2, f.1, f.2, T.1]
      rcases c with ⟨c0, c1, c2, c3, c4, c5⟩
      simp only at *
      subst b2 b3
      rfl
  have hw : wholeC c = false := by unfold wholeC; simp [k1, k2]
  have hp : partC c = false := by unfold partC; simp [k2]
  have b1 := hfk k2
  rw [hw, hp] at hev
  simp only [Bool.false_eq_true, if_false] at hev
  have bv := hev.2
  by_cases k3 : c.kind = 3
  · have e1 : ownC c = [c.worker, c.week] := by unfold ownC; simp [k3]
    have h0 := own _ e1 c.worker (by simp); have h1 := own _ e1 c.week (by simp)
    have e : encM c ++ r = one c.kind.toNat ++ (one c.worker.toNat ++ (one c.week.toNat ++ (one c.tear.toNat ++ r))) := by
      unfold encM; rw [e1, hp, hw]; simp [encZ, encNs]
    have g1 := numN_one h0 h64.worker (one c.week.toNat ++ (one c.tear.toNat ++ r))
    have g2 := numN_one h1 h64.week (one c.tear.toNat ++ r)
    unfold cmT cmOf
    rw [e, (e0 _).1, (e0 _).2, if_neg k1, if_neg k2, if_pos k3, g1.1, g1.2, g2.1, g2.2, T.1]
    rcases c with ⟨c0, c1, c2, c3, c4, c5⟩
    simp only at *
    subst b1 bv
    rfl
  by_cases k4 : c.kind = 4
  · have e1 : ownC c = [c.worker] := by unfold ownC; simp [k4]
    have h0 := own _ e1 c.worker (by simp)
    have b3 := hwe (by omega)
    have e : encM c ++ r = one c.kind.toNat ++ (one c.worker.toNat ++ (one c.tear.toNat ++ r)) := by
      unfold encM; rw [e1, hp, hw]; simp [encZ, encNs]
    have g1 := numN_one h0 h64.worker (one c.tear.toNat ++ r)
    unfold cmT cmOf
    rw [e, (e0 _).1, (e0 _).2, if_neg k1, if_neg k2, if_neg k3, if_pos k4, g1.1, g1.2, T.1]
    rcases c with ⟨c0, c1, c2, c3, c4, c5⟩
    simp only at *
    subst b1 bv b3
    rfl
  have b2 := hwo ⟨k3, k4⟩
  by_cases k5 : c.kind = 5 ∨ c.kind = 6 ∨ c.kind = 7
  · have e1 : ownC c = [c.week] := by unfold ownC; rw [if_neg k2, if_neg k3, if_neg k4, if_pos k5]
    have h0 := own _ e1 c.week (by simp)
    have e : encM c ++ r = one c.kind.toNat ++ (one c.week.toNat ++ (one c.tear.toNat ++ r)) := by
      unfold encM; rw [e1, hp, hw]; simp [encZ, encNs]
    have g1 := numN_one h0 h64.week (one c.tear.toNat ++ r)
    unfold cmT cmOf
    rw [e, (e0 _).1, (e0 _).2, if_neg k1, if_neg k2, if_neg k3, if_neg k4, if_pos k5, g1.1, g1.2, T.1]
    rcases c with ⟨c0, c1, c2, c3, c4, c5⟩
    simp only at *
    subst b1 bv b2
    rfl
  · have e1 : ownC c = [] := by unfold ownC; rw [if_neg k2, if_neg k3, if_neg k4, if_neg k5]
    have b3 := hwe ⟨k3, k5⟩
    have e : encM c ++ r = one c.kind.toNat ++ (one c.tear.toNat ++ r) := by
      unfold encM; rw [e1, hp, hw]; simp [encZ, encNs]
    unfold cmT cmOf
    rw [e, (e0 _).1, (e0 _).2, if_neg k1, if_neg k2, if_neg k3, if_neg k4, if_neg k5, T.1]
    rcases c with ⟨c0, c1, c2, c3, c4, c5⟩
    simp only at *
    subst b1 bv b2 b3
    rfl
theorem refT_eq (b : List UInt8) : refT b = decC b := by
  cases hd : decC b with
  | some x =>
    obtain ⟨c, r⟩ := x
    obtain ⟨hp, h64, hb⟩ := decC_some hd
    have he : cmT b = c := by rw [hb]; exact cmT_enc hp h64 r
    unfold refT
    rw [he, if_pos hp]
    have ht : b.take (encM c).length = encM c := by rw [hb]; exact List.take_left
    have hdr : b.drop (encM c).length = r := by rw [hb]; exact List.drop_left
    rw [if_pos ht, hdr]
  | none =>
    unfold refT
    split
    · rename_i hf
      split
      · rename_i ht
        have := decC_enc hf (cmT_64 b) (b.drop (encM (cmT b)).length)
        obtain ⟨E, hE⟩ : ∃ E, encM (cmT b) = E := ⟨_, rfl⟩
        rw [hE] at ht this
        have e2 : E ++ b.drop E.length = b := by
          conv => lhs; lhs; rw [← ht]
          exact List.take_append_drop _ _
        rw [e2, hd] at this
        cases this
      · rfl
    · rfl
end Go.Proofs.Ytmbjbbflhlndcaa
