/-
  lumperref08: take, at; the plain theory of its Take.
-/
import Derived.Test.YtmbjbbflhlndcaaKe2
import Derived.Test.YtmbjbbflhlndcaaSm
import Derived.Test.YtmbjbbflhlndcaaJh
namespace Go.Proofs.Ytmbjbbflhlndcaa
open Go.RowKit BigFrame
set_option linter.unusedVariables false
set_option linter.unusedSimpArgs false

/-- At most so many numbers that bytes begin with. -/
def numbs : Nat → List UInt8 → List Nat
  | 0, _ => []
  | k + 1, b => match dec b with
    | none => []
    | some (n, r) => n :: numbs k r
theorem numbs_len (k : Nat) (b : List UInt8) : (numbs k b).length ≤ k := by
  induction k generalizing b with
  | zero => exact Nat.le_refl _
  | succ k ih =>
    rw [numbs]
    cases dec b with
    | none => exact Nat.zero_le _
    | some x => obtain ⟨n, r⟩ := x; have := ih r; simp; omega
theorem numbs_bd (k : Nat) (b : List UInt8) : ∀ n ∈ numbs k b, n < 9223372036854775808 := by
  induction k generalizing b with
  | zero => intro n hn; cases hn
  | succ k ih =>
    rw [numbs]
    cases h : dec b with
    | none => intro n hn; cases hn
    | some x =>
      obtain ⟨n, r⟩ := x
      intro m hm
      rcases List.mem_cons.1 hm with rfl | hm
      · exact (dec_some h).2
      · exact ih r m hm
theorem numbs_enc {l : List Nat} (h : ∀ n ∈ l, n < 9223372036854775808) (j : Nat) (r : List UInt8) : numbs (l.length + j) (encNs l ++ r) = l ++ numbs j r := by
  induction l with
  | nil => simp [encNs]
  | cons n l ih =>
    rw [List.length_cons, Nat.add_right_comm, numbs, show encNs (n :: l) = one n ++ encNs l from List.flatMap_cons, List.append_assoc, dec_one (h n (by simp))]
    simp only
    rw [ih fun x hx => h x (by simp [hx])]
    rfl
/-- The event that the first numbers may be. -/
def evOf (l : List Nat) : Ev := if nth l 3 = 3 then ⟨nth l 0, nth l 1, nth l 2, nth l 3, nth l 4, nth l 5, nth l 6, nth l 7, nth l 8, nth l 9, 0⟩
  else if nth l 3 = 4 then ⟨nth l 0, nth l 1, nth l 2, nth l 3, 0, 0, 0, 0, 0, 0, nth l 4⟩
  else ⟨nth l 0, nth l 1, nth l 2, nth l 3, 0, 0, 0, 0, 0, 0, 0⟩
theorem evOf_64 {l : List Nat} (h : ∀ n ∈ l, n < 9223372036854775808) : Ev64 (evOf l) := by
  have q := b64_nth h
  have z : B64 0 := by unfold B64; omega
  unfold evOf
  split
  · exact ⟨q 0, q 1, q 2, q 3, q 4, q 5, q 6, q 7, q 8, q 9, z⟩
  · split
    · exact ⟨q 0, q 1, q 2, q 3, z, z, z, z, z, z, q 4⟩
    · exact ⟨q 0, q 1, q 2, q 3, z, z, z, z, z, z, z⟩
theorem evOf_nums {e : Ev} (hf : fairB e = true) (m : List Nat) : evOf ((numsE e).map Int.toNat ++ m) = e := by
  obtain ⟨⟨k1, k2⟩, ⟨i1, i2⟩, w1, ⟨a1, a2⟩, ⟨f1, f2, f3, f4, f5, f6, f7⟩, g1, g2⟩ := fairB_iff.1 hf
  have t1 := toNat_cast i1; have t2 := toNat_cast w1; have t3 := toNat_cast a1; have t4 := toNat_cast (show 0 ≤ e.kind by omega)
  have t5 := toNat_cast f1; have t6 := toNat_cast f2; have t7 := toNat_cast f3; have t8 := toNat_cast f4; have t9 := toNat_cast f5; have t10 := toNat_cast f6; have t11 := toNat_cast f7
  have hk : nth ((numsE e).map Int.toNat ++ m) 3 = e.kind := by unfold nth numsE; simp [t4]
  unfold evOf
  rw [hk]
  by_cases h3 : e.kind = 3
  · rw [if_pos h3]
    have h4 := g2 (by omega)
    unfold numsE ownE nth
    rw [if_pos h3]
    rcases e with ⟨x0, x1, x2, x3, x4, x5, x6, x7, x8, x9, x10⟩
    simp only at *
    subst h4
    simp [t1, t2, t3, t5, t6, t7, t8, t9, t10]
  · rw [if_neg h3]
    obtain ⟨z1, z2, z3, z4, z5, z6⟩ := g1 h3
    by_cases h4 : e.kind = 4
    · rw [if_pos h4]
      unfold numsE ownE nth
      rw [if_neg h3, if_pos h4]
      rcases e with ⟨x0, x1, x2, x3, x4, x5, x6, x7, x8, x9, x10⟩
      simp only at *
      subst z1 z2 z3 z4 z5 z6
      simp [t1, t2, t3, t11]
    · rw [if_neg h4]
      have z7 := g2 h4
      unfold numsE nth
      rcases e with ⟨x0, x1, x2, x3, x4, x5, x6, x7, x8, x9, x10⟩
      simp only at *
      subst z1 z2 z3 z4 z5 z6 z7
      simp [t1, t2, t3]
/-- By trying whether it is put so. -/
def refE (b : List UInt8) : Option (Ev × List UInt8) :=
  if fairB (evOf (numbs 10 b)) = true then if b.take (encE (evOf (numbs 10 b))).length = encE (evOf (numbs 10 b)) then some (evOf (numbs 10 b), b.drop (encE (evOf (numbs 10 b))).length) else none else none
theorem refE_eq (b : List UInt8) : refE b = decE b := by
  cases hd : decE b with
  | some x =>
    obtain ⟨e, r⟩ := x
    obtain ⟨hf, h64, hb⟩ := decE_some hd
    have hbd := nums_bd hf h64
    have hl : (numsE e).length ≤ 10 := by
      unfold numsE ownE
      split
      · simp
      · split <;> simp
    have hn := numbs_enc (l := (numsE e).map Int.toNat) (fun n hn => by
      obtain ⟨x, hx, rfl⟩ := List.mem_map.1 hn
      have := (hbd x hx).2
      unfold B64 at this; omega) (10 - (numsE e).length) r
    rw [List.length_map, show (numsE e).length + (10 - (numsE e).length) = 10 from by omega] at hn
    have he : evOf (numbs 10 b) = e := by
      rw [hb]
      unfold encE encZ
      rw [hn]
      exact evOf_nums hf _
    unfold refE
    rw [he, if_pos hf]
    have ht : b.take (encE e).length = encE e := by rw [hb]; exact List.take_left
    have hdr : b.drop (encE e).length = r := by rw [hb]; exact List.drop_left
    rw [if_pos ht, hdr]
  | none =>
    unfold refE
    split
    · rename_i hf
      split
      · rename_i ht
        have := decE_enc hf (evOf_64 (numbs_bd 10 b)) (b.drop (encE (evOf (numbs 10 b))).length)
        obtain ⟨E, hE⟩ : ∃ E, encE (evOf (numbs 10 b)) = E := ⟨_, rfl⟩
        rw [hE] at ht this
        have e2 : E ++ b.drop E.length = b := by
          conv => lhs; lhs; rw [← ht]
          exact List.take_append_drop _ _
        rw [e2, hd] at this
        cases this
      · rfl
    · rfl
def intsOf (l : List Nat) : List Int := l.map (fun (n : Nat) => (n : Int))
theorem intsOf_len (l : List Nat) : (intsOf l).length = l.length := by simp [intsOf]

theorem SameBlk.trans {A B C : Option Addr} (h : SameBlk A B) (k : SameBlk B C) : SameBlk A C := fun a ha => by
  obtain ⟨b, hb, e⟩ := k a ha
  obtain ⟨c, hc, e2⟩ := h b hb
  exact ⟨c, hc, e2.trans e⟩
theorem Rw.blk {α : Type} {enc : α → List Value} {k : Nat} {w : World} {A : Option Addr} {l : List α} (h : Rw enc k w A l) (hl : l ≠ []) {a : Addr} (ha : A = some a) : a.block < w.heap.size := by
  obtain ⟨b, off, hA, hb, _⟩ := h hl
  rw [ha] at hA
  cases hA
  exact hb

set_option maxRecDepth 100000 in
set_option maxHeartbeats 1000000 in
theorem rTakes {w : World} {A : Option Addr} {b : List UInt8} (h : Rb w A b) (hb : b.length ≤ 100000000) (c : Nat) (hc : b.length ≤ c) (hc2 : c ≤ 9223372036854775807) :
    Calls Try.prog 69 #[.slice A b.length c] w (RetL encN 1 3 w (intsOf (numbs 10 b))) := by
  replace h := Lib.hid h; replace hb := Lib.hid hb; replace hc := Lib.hid hc; replace hc2 := Lib.hid hc2
  obtain ⟨R, hR⟩ : ∃ R, numbs 10 b = R := ⟨_, rfl⟩
  rw [hR]
  replace hR := Lib.hid hR
  go_enter Try.func69, Try.ntmps69
  go_wp2_with fail
  go_loopw [0, 3] (fun v o wr => ∃ (A1 : Option Addr) (r : List UInt8) (c1 : Nat) (D : List Nat) (n : Nat) (A2 : Option Addr) (c2 : Nat), v = .slice A1 r.length c1 ∧ o = .slice A2 n c2 ∧ Hid (n = D.length) ∧ n ≤ 10 ∧ Hid (r.length ≤ b.length) ∧ Hid (r.length ≤ c1) ∧ Hid (c1 ≤ 9223372036854775807) ∧ Hid (R = D ++ numbs (10 - n) r) ∧ Hid (Rb wr A1 r) ∧ Hid (wr.ownsRow w.heap.size 3 1 (.slice A2 n c2) n (flat encN (intsOf D))) ∧ Hid (Ext w wr) ∧ Hid (SameBlk A A1)) (fun _ o _ => 10 - lenV o)
  case atStart => exact ⟨A, b, c, [], 0, none, 0, rfl, rfl, rfl, by omega, Nat.le_refl _, hc.out, hc2.out, by show _ = _; rw [← hR.out]; rfl, h.out, own_nilG _ _, Ext.refl w, fun a h => ⟨a, h, rfl⟩⟩
  case round =>
    obtain ⟨A1, r, c1, D, n, A2, c2, rfl, rfl, HN, hn10, HL, hc3, hc4, HR, HB, HO, HX, HD⟩ := hrel
    by_cases hlt : n < 10
    · have kT := Lib.hid (rTake HB.out (Nat.le_trans HL.out hb.out) c1 hc3.out hc4.out)
      have q1 : decide ((n : Int) < 10) = true := decide_eq_true (by omega)
      go_wp2_with fail
      refine kT.out.mono ?_
      rintro e w3 ⟨x3, hres⟩
      obtain ⟨g, hg⟩ : ∃ g, 10 - n = g + 1 := ⟨9 - n, by omega⟩
      have HR2 := HR.out
      rw [hg, numbs] at HR2
      cases hd : dec r with
      | none =>
        rw [hd] at hres HR2
        simp only at hres HR2
        subst hres
        rw [List.append_nil] at HR2
        replace HR2 := Lib.hid HR2
        have HO3 := Lib.hid (own_below HO.out x3)
        have X3 := Lib.hid (HX.out.trans x3)
        have hnD := HN.out
        subst hnD
        clear hd hg HR kT x3 HO HX HB
        go_wp2_with fail
        go_ret
        exact RetL.of elN (by rw [HR2.out]) (by rw [intsOf_len]) HO3.out (Nat.le_refl _) X3.out
      | some q =>
        obtain ⟨x, t⟩ := q
        rw [hd] at hres HR2
        simp only at hres HR2
        obtain ⟨A3, c3, rfl, hRt, hc3', hc4', hN3⟩ := hres
        have hlen := dec_len hd
        have hRt' := Lib.hid hRt; have hN3' := Lib.hid (SameBlk.trans HD.out hN3); have hc3'' := Lib.hid hc3'; have hc4'' := Lib.hid hc4'
        have hlen' := Lib.hid hlen
        replace HR2 := Lib.hid HR2
        have W4 := Lib.hid (own_below HO.out (x3.alloc (.cells #[.int .i64 (x : Int)] 3)))
        have X4 := Lib.hid ((HX.out.trans x3).alloc (.cells #[.int .i64 (x : Int)] 3))
        have HN' := Lib.hid HN.out
        clear hd HR kT x3 HO HX HB hRt hN3 hlen hc3' hc4' HD HN
        go_wp2_with (at_builtin; refine appGB elN w _ X4.out _ _ (by rfl) (by rfl) n _ (intsOf D) [(x : Int)] (by rfl) W4.out (by rw [intsOf_len]; exact HN'.out) (some ⟨w3.heap.size, 0, none⟩) 1 1 (by rfl) rfl (Rw.new_at elN w3 [(x : Int)] 3 _ rfl) (by rw [intsOf_len, ← HN'.out]; simp; omega) ?_; intro A5 c5 w5 o5 x5 g5 _)
        have HD5 : Hid (SameBlk A A3) := hN3'
        have hR5 : Hid (Rb w5 A3 t) := Rw.moved (hRt'.out.alloc _) g5 (fun blk off hA hb => by
          obtain ⟨a, ha, hblk⟩ := hN3'.out _ hA
          have h1 := (W4.out.lt blk (by exact hb.symm)).1
          have h2 := Rw.blk h.out (by intro e; subst e; have h3 := hlen'.out; have h4 := HL.out; simp at h4; subst h4; simp at h3) ha
          simp only at hblk
          omega)
        have hL5 : Hid (t.length ≤ b.length) := Nat.le_trans (Nat.le_of_lt hlen'.out) HL.out
        have HD6 : Hid (n + 1 = (D ++ [x]).length) := by show _ = _; rw [List.length_append, ← HN'.out]; rfl
        have HR6 : Hid (R = (D ++ [x]) ++ numbs (10 - (n + 1)) t) := by show _ = _; rw [HR2.out, show 10 - (n + 1) = g by omega]; simp
        have o6 : Hid (w5.ownsRow w.heap.size 3 1 (.slice A5 (n + 1) c5) (n + 1) (flat encN (intsOf (D ++ [x])))) := by show World.ownsRow _ _ _ _ _ _ _; rw [show intsOf (D ++ [x]) = intsOf D ++ [(x : Int)] by simp [intsOf]]; exact o5
        clear W4 X4 g5 HR2 hRt' o5
        go_wp2_with fail
        exact ⟨⟨A3, t, c3, D ++ [x], n + 1, A5, c5, rfl, rfl, HD6, by omega, hL5, hc3'', Nat.le_trans hc4''.out hc4.out, HR6, hR5, o6, x5, HD5⟩, by show 10 - (n + 1) < 10 - n; omega⟩
    · obtain rfl : n = 10 := by omega
      have hRD : Hid (R = D) := by show _ = _; rw [HR.out]; simp [numbs]
      have q1 : decide (((10 : Nat) : Int) < 10) = false := by decide
      clear HR HB
      go_wp2_with fail
      go_ret
      have hnD := HN.out
      exact RetL.of elN (by rw [hRD.out]) (by rw [intsOf_len]; exact hnD) HO.out (Nat.le_refl _) HX.out
end Go.Proofs.Ytmbjbbflhlndcaa
