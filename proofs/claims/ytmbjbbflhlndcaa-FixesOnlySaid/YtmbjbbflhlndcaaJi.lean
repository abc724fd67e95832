/-
  Events: plain theory, and events in memory.
-/
import Derived.Test.YtmbjbbflhlndcaaJe
namespace Go.Proofs.Ytmbjbbflhlndcaa
open Go.RowKit BigFrame
set_option linter.unusedVariables false
set_option linter.unusedSimpArgs false

structure Ev where
  id : Int
  worker : Int
  at_ : Int
  kind : Int
  fr : Int
  to : Int
  element : Int
  units : Int
  cls : Int
  gear : Int
  code : Int
  deriving DecidableEq
def ev0 : Ev := ⟨0, 0, 0, 0, 0, 0, 0, 0, 0, 0, 0⟩
def encV (e : Ev) : List Value := [.int .i64 e.id, .int .i64 e.worker, .int .i64 e.at_, .int .i64 e.kind, .int .i64 e.fr, .int .i64 e.to, .int .i64 e.element, .int .i64 e.units, .int .i64 e.cls, .int .i64 e.gear, .int .i64 e.code]
theorem elV : El encV 11 63 23 88 where
  under := Try.underlying63
  info := ⟨.agg #[.int .i64 0, .int .i64 0, .int .i64 0, .int .i64 0, .int .i64 0, .int .i64 0, .int .i64 0, .int .i64 0, .int .i64 0, .int .i64 0, .int .i64 0], by kernel_rfl, rfl⟩
  len := fun _ => rfl
  one := fun x u h => by simp [encV] at h; rcases h with rfl | rfl | rfl | rfl | rfl | rfl | rfl | rfl | rfl | rfl | rfl <;> rfl
  pos := by decide
  few := by decide
abbrev Rv := Rw encV 11
/-- All numbers have 64 bits. -/
structure Ev64 (e : Ev) : Prop where
  id : B64 e.id
  worker : B64 e.worker
  at_ : B64 e.at_
  kind : B64 e.kind
  fr : B64 e.fr
  to : B64 e.to
  element : B64 e.element
  units : B64 e.units
  cls : B64 e.cls
  gear : B64 e.gear
  code : B64 e.code

/-- An event's own numbers. -/
def ownE (e : Ev) : List Int := if e.kind = 3 then [e.fr, e.to, e.element, e.units, e.cls, e.gear] else if e.kind = 4 then [e.code] else []
def fairB (e : Ev) : Bool := decide ((1 ≤ e.kind ∧ e.kind ≤ 7) ∧ (0 ≤ e.id ∧ e.id ≤ 100000) ∧ 0 ≤ e.worker ∧ (0 ≤ e.at_ ∧ e.at_ ≤ 31449599) ∧ (0 ≤ e.fr ∧ 0 ≤ e.to ∧ 0 ≤ e.element ∧ 0 ≤ e.units ∧ 0 ≤ e.cls ∧ 0 ≤ e.gear ∧ 0 ≤ e.code) ∧
  (e.kind ≠ 3 → e.fr = 0 ∧ e.to = 0 ∧ e.element = 0 ∧ e.units = 0 ∧ e.cls = 0 ∧ e.gear = 0) ∧ (e.kind ≠ 4 → e.code = 0))
theorem fairB_iff {e : Ev} : fairB e = true ↔ (1 ≤ e.kind ∧ e.kind ≤ 7) ∧ (0 ≤ e.id ∧ e.id ≤ 100000) ∧ 0 ≤ e.worker ∧ (0 ≤ e.at_ ∧ e.at_ ≤ 31449599) ∧ (0 ≤ e.fr ∧ 0 ≤ e.to ∧ 0 ≤ e.element ∧ 0 ≤ e.units ∧ 0 ≤ e.cls ∧ 0 ≤ e.gear ∧ 0 ≤ e.code) ∧
  (e.kind ≠ 3 → e.fr = 0 ∧ e.to = 0 ∧ e.element = 0 ∧ e.units = 0 ∧ e.cls = 0 ∧ e.gear = 0) ∧ (e.kind ≠ 4 → e.code = 0) := by
  unfold fairB; exact decide_eq_true_iff
def numsE (e : Ev) : List Int := [e.id, e.worker, e.at_, e.kind] ++ ownE e
/-- An event's bytes. -/
def encE (e : Ev) : List UInt8 := encZ (numsE e)
/-- How many own numbers. -/
def cntE (k : Int) : Nat := if k = 3 then 6 else if k = 4 then 1 else 0
def mkE (l m : List Nat) : Ev :=
  let z := fun (l : List Nat) (i : Nat) => ((l[i]?).getD 0 : Int)
  if z l 3 = 3 then ⟨z l 0, z l 1, z l 2, z l 3, z m 0, z m 1, z m 2, z m 3, z m 4, z m 5, 0⟩
  else if z l 3 = 4 then ⟨z l 0, z l 1, z l 2, z l 3, 0, 0, 0, 0, 0, 0, z m 0⟩
  else ⟨z l 0, z l 1, z l 2, z l 3, 0, 0, 0, 0, 0, 0, 0⟩
/-- The event that bytes begin with, and what is behind. -/
def decE (b : List UInt8) : Option (Ev × List UInt8) := match decN 4 b with
  | none => none
  | some (l, r) => match decN (cntE ((l[3]?).getD 0 : Nat)) r with
    | none => none
    | some (m, s) => if fairB (mkE l m) = true then some (mkE l m, s) else none
theorem encZ_nat (l : List Nat) : encZ (l.map (fun (n : Nat) => (n : Int))) = encNs l := by
  unfold encZ
  rw [List.map_map]
  congr 1
  induction l with
  | nil => rfl
  | cons x l ih => simp; exact ih
theorem nums_bd {e : Ev} (h : fairB e = true) (h64 : Ev64 e) : ∀ n ∈ numsE e, 0 ≤ n ∧ B64 n := by
  rw [fairB_iff] at h
  obtain ⟨⟨k1, k2⟩, ⟨i1, i2⟩, w1, ⟨a1, a2⟩, ⟨f1, f2, f3, f4, f5, f6, f7⟩, _, _⟩ := h
  intro n hn
  unfold numsE ownE at hn
  split at hn
  · simp at hn
    rcases hn with rfl | rfl | rfl | rfl | rfl | rfl | rfl | rfl | rfl | rfl
    · exact ⟨i1, h64.id⟩
    · exact ⟨w1, h64.worker⟩
    · exact ⟨a1, h64.at_⟩
    · exact ⟨by omega, h64.kind⟩
    · exact ⟨f1, h64.fr⟩
    · exact ⟨f2, h64.to⟩
    · exact ⟨f3, h64.element⟩
    · exact ⟨f4, h64.units⟩
    · exact ⟨f5, h64.cls⟩
    · exact ⟨f6, h64.gear⟩
  · split at hn
    · simp at hn
      rcases hn with rfl | rfl | rfl | rfl | rfl
      · exact ⟨i1, h64.id⟩
      · exact ⟨w1, h64.worker⟩
      · exact ⟨a1, h64.at_⟩
      · exact ⟨by omega, h64.kind⟩
      · exact ⟨f7, h64.code⟩
    · simp at hn
      rcases hn with rfl | rfl | rfl | rfl
      · exact ⟨i1, h64.id⟩
      · exact ⟨w1, h64.worker⟩
      · exact ⟨a1, h64.at_⟩
      · exact ⟨by omega, h64.kind⟩
theorem toNat_cast {n : Int} (h : 0 ≤ n) : ((n.toNat : Nat) : Int) = n := by omega
theorem decE_enc {e : Ev} (h : fairB e = true) (h64 : Ev64 e) (r : List UInt8) : decE (encE e ++ r) = some (e, r) := by
  have hb := nums_bd h h64
  have hf := fairB_iff.1 h
  obtain ⟨⟨k1, k2⟩, ⟨i1, i2⟩, w1, ⟨a1, a2⟩, ⟨f1, f2, f3, f4, f5, f6, f7⟩, g1, g2⟩ := hf
  have e0 : encE e = encNs [e.id.toNat, e.worker.toNat, e.at_.toNat, e.kind.toNat] ++ encNs ((ownE e).map Int.toNat) := by
    unfold encE numsE encZ
    rw [List.map_append, encN_append]; rfl
  have b4 : ∀ n ∈ [e.id.toNat, e.worker.toNat, e.at_.toNat, e.kind.toNat], n < 9223372036854775808 := by
    intro n hn
    have h1 := h64.id; have h2 := h64.worker; have h3 := h64.at_; have h4 := h64.kind
    unfold B64 at h1 h2 h3 h4
    simp at hn
    rcases hn with rfl | rfl | rfl | rfl <;> omega
  have bo : ∀ n ∈ (ownE e).map Int.toNat, n < 9223372036854775808 := by
    intro n hn
    obtain ⟨x, hx, rfl⟩ := List.mem_map.1 hn
    have := (hb x (by unfold numsE; exact List.mem_append_right _ hx)).2
    unfold B64 at this
    omega
  have hc : cntE e.kind = ((ownE e).map Int.toNat).length := by
    unfold cntE ownE
    split
    · rfl
    · split <;> rfl
  have d1 := decN_enc b4 (encNs ((ownE e).map Int.toNat) ++ r)
  have d2 := decN_enc bo r
  rw [← hc] at d2
  have hk : (((([e.id.toNat, e.worker.toNat, e.at_.toNat, e.kind.toNat] : List Nat)[3]?).getD 0 : Nat) : Int) = e.kind := toNat_cast (by omega)
  have hm : mkE [e.id.toNat, e.worker.toNat, e.at_.toNat, e.kind.toNat] ((ownE e).map Int.toNat) = e := by
    have t1 := toNat_cast i1; have t2 := toNat_cast w1; have t3 := toNat_cast a1; have t4 := toNat_cast (show 0 ≤ e.kind by omega)
    have t5 := toNat_cast f1; have t6 := toNat_cast f2; have t7 := toNat_cast f3; have t8 := toNat_cast f4; have t9 := toNat_cast f5; have t10 := toNat_cast f6; have t11 := toNat_cast f7
    unfold mkE
    simp only [List.getElem?_cons_zero, List.getElem?_cons_succ, Option.getD_some, t1, t2, t3, t4]
    by_cases h3 : e.kind = 3
    · rw [if_pos h3]
      have h4 := g2 (by omega)
      unfold ownE
      rw [if_pos h3]
      simp only [List.map_cons, List.map_nil, List.getElem?_cons_zero, List.getElem?_cons_succ, Option.getD_some, t5, t6, t7, t8, t9, t10]
      cases e; simp_all
    · rw [if_neg h3]
      obtain ⟨z1, z2, z3, z4, z5, z6⟩ := g1 h3
      by_cases h4 : e.kind = 4
      · rw [if_pos h4]
        unfold ownE
        rw [if_neg h3, if_pos h4]
        simp only [List.map_cons, List.map_nil, List.getElem?_cons_zero, Option.getD_some, t11]
        cases e; simp_all
      · rw [if_neg h4]
        have z7 := g2 h4
        cases e; simp_all
  unfold decE
  rw [e0, List.append_assoc]
  rw [show (4 : Nat) = [e.id.toNat, e.worker.toNat, e.at_.toNat, e.kind.toNat].length from rfl, d1]
  simp only
  rw [hk, d2]
  simp only
  rw [hm, if_pos h]
theorem decE_some {b : List UInt8} {e : Ev} {r : List UInt8} (h : decE b = some (e, r)) : fairB e = true ∧ Ev64 e ∧ b = encE e ++ r := by
  unfold decE at h
  cases h1 : decN 4 b with
  | none => rw [h1] at h; cases h
  | some x =>
    obtain ⟨l, t⟩ := x
    rw [h1] at h
    simp only at h
    cases h2 : decN (cntE ((l[3]?).getD 0 : Nat)) t with
    | none => rw [h2] at h; cases h
    | some y =>
      obtain ⟨m, s⟩ := y
      rw [h2] at h
      simp only at h
      split at h
      · rename_i hf
        cases h
        obtain ⟨e1, l1, b1⟩ := decN_some h1
        obtain ⟨e2, l2, b2⟩ := decN_some h2
        obtain ⟨x0, x1, x2, x3, rfl⟩ : ∃ a b c d, l = [a, b, c, d] := by
          match l, l1 with
          | [a, b, c, d], _ => exact ⟨a, b, c, d, rfl⟩
        have c0 := b1 x0 (by simp); have c1 := b1 x1 (by simp); have c2 := b1 x2 (by simp); have c3 := b1 x3 (by simp)
        have q : ∀ n : Nat, n < 9223372036854775808 → B64 (n : Int) := fun n hn => by unfold B64; omega
        have q0 : B64 0 := by unfold B64; omega
        simp only [List.getElem?_cons_zero, List.getElem?_cons_succ, Option.getD_some] at l2
        refine ⟨hf, ?_⟩
        have hmk : mkE [x0, x1, x2, x3] m = if (x3 : Int) = 3 then ⟨x0, x1, x2, x3, ((m[0]?).getD 0 : Nat), ((m[1]?).getD 0 : Nat), ((m[2]?).getD 0 : Nat), ((m[3]?).getD 0 : Nat), ((m[4]?).getD 0 : Nat), ((m[5]?).getD 0 : Nat), 0⟩ else if (x3 : Int) = 4 then ⟨x0, x1, x2, x3, 0, 0, 0, 0, 0, 0, ((m[0]?).getD 0 : Nat)⟩ else ⟨x0, x1, x2, x3, 0, 0, 0, 0, 0, 0, 0⟩ := by
          unfold mkE; rfl
        by_cases h3 : (x3 : Int) = 3
        · rw [hmk, if_pos h3]
          have : cntE (x3 : Int) = 6 := by unfold cntE; rw [if_pos h3]
          rw [this] at l2
          obtain ⟨y0, y1, y2, y3, y4, y5, rfl⟩ : ∃ a b c d e f, m = [a, b, c, d, e, f] := by
            match m, l2 with
            | [a, b, c, d, e, f], _ => exact ⟨a, b, c, d, e, f, rfl⟩
          have c4 := b2 y0 (by simp); have c5 := b2 y1 (by simp); have c6 := b2 y2 (by simp); have c7 := b2 y3 (by simp); have c8 := b2 y4 (by simp); have c9 := b2 y5 (by simp)
          refine ⟨⟨q _ c0, q _ c1, q _ c2, q _ c3, q _ c4, q _ c5, q _ c6, q _ c7, q _ c8, q _ c9, q0⟩, ?_⟩
          rw [e1, e2, ← List.append_assoc]
          congr 1
          unfold encE numsE ownE
          simp only [h3, if_true]
          rw [← h3, ← encN_append, ← encZ_nat]
          simp [h3]
        · rw [hmk, if_neg h3]
          by_cases h4 : (x3 : Int) = 4
          · rw [if_pos h4]
            have : cntE (x3 : Int) = 1 := by unfold cntE; rw [if_neg h3, if_pos h4]
            rw [this] at l2
            obtain ⟨y0, rfl⟩ : ∃ a, m = [a] := by
              match m, l2 with
              | [a], _ => exact ⟨a, rfl⟩
            have c4 := b2 y0 (by simp)
            refine ⟨⟨q _ c0, q _ c1, q _ c2, q _ c3, q0, q0, q0, q0, q0, q0, q _ c4⟩, ?_⟩
            rw [e1, e2, ← List.append_assoc]
            congr 1
            unfold encE numsE ownE
            simp only [h3, h4, if_true, if_false]
            rw [← h4, ← encN_append, ← encZ_nat]
            simp [h4]
          · rw [if_neg h4]
            have : cntE (x3 : Int) = 0 := by unfold cntE; rw [if_neg h3, if_neg h4]
            rw [this] at l2
            obtain rfl : m = [] := List.eq_nil_of_length_eq_zero l2
            refine ⟨⟨q _ c0, q _ c1, q _ c2, q _ c3, q0, q0, q0, q0, q0, q0, q0⟩, ?_⟩
            rw [e1, e2, ← List.append_assoc]
            congr 1
            unfold encE numsE ownE
            simp only [h3, h4, if_false]
            rw [← encN_append, ← encZ_nat]
            simp
      · cases h
theorem encE_len {e : Ev} (h : fairB e = true) (h64 : Ev64 e) : (encE e).length ≤ 90 ∧ 4 ≤ (encE e).length := by
  have hb := nums_bd h h64
  have h1 := encZ_len (numsE e) fun n hn => (hb n hn).2
  have h2 : (numsE e).length ≤ 10 := by
    unfold numsE ownE
    split
    · simp
    · split <;> simp
  have h3 : encE e = one e.id.toNat ++ (one e.worker.toNat ++ (one e.at_.toNat ++ (one e.kind.toNat ++ encZ (ownE e)))) := by
    unfold encE numsE
    rw [encZ_append]
    simp [encZ, encNs, List.append_assoc]
  refine ⟨by unfold encE; omega, ?_⟩
  rw [h3]
  simp only [List.length_append, one_len]
  omega
end Go.Proofs.Ytmbjbbflhlndcaa
