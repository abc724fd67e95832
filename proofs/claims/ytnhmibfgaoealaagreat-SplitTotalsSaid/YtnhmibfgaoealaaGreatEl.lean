/-
  lumperref16.Of.
-/
import Derived.Test.YtnhmibfgaoealaaGreatEx
import Derived.Test.YtnhmibfgaoealaaGreatOw
namespace Go.Proofs.YtnhmibfgaoealaaGreat
open Go.RowKit BigFrame
set_option linter.unusedVariables false
set_option linter.unusedSimpArgs false

/-- A struct of three slices, laid behind block m; each owns a row behind m. -/
structure Aux (m B : Nat) (l1 l2 l3 : List Sp.S) (x1 x2 x3 : Value) (W : World) : Prop where
  bx : Bx W B [x1, x2, x3] 74
  o1 : W.ownsRow m 49 2 x1 l1.length (flat encS l1)
  o2 : W.ownsRow m 49 2 x2 l2.length (flat encS l2)
  o3 : W.ownsRow m 49 2 x3 l3.length (flat encS l3)
  le : m ≤ B
theorem Aux.grown {m B : Nat} {l1 l2 l3 : List Sp.S} {x1 x2 x3 v : Value} {W W' : World} (h : Aux m B l1 l2 l3 x1 x2 x3 W) (hg : W.grownBy W' v.ownBlock) (hv : ∀ g, v.ownBlock = some g → g < m) : Aux m B l1 l2 l3 x1 x2 x3 W' := by
  have ne : ∀ {u : Value} {n : Nat} {xs : List Value}, W.ownsRow m 49 2 u n xs → u.ownBlock = none ∨ u.ownBlock ≠ v.ownBlock := fun {u n xs} o => by
    cases hu : u.ownBlock with
    | none => exact .inl rfl
    | some g =>
      refine .inr fun e => ?_
      have h1 := (o.lt g hu).1
      have h2 := hv g e.symm
      omega
  exact ⟨bx_grown h.bx hg fun e => by have := hv B e.symm; have := h.le; omega, h.o1.kept hg (ne h.o1), h.o2.kept hg (ne h.o2), h.o3.kept hg (ne h.o3), h.le⟩
theorem Aux.setB {m B C i : Nat} {l1 l2 l3 : List Sp.S} {x1 x2 x3 u : Value} {W : World} (h : Aux m B l1 l2 l3 x1 x2 x3 W) (hC : C < m) : Aux m B l1 l2 l3 x1 x2 x3 (W.setCell ⟨C, i, none⟩ u) := by
  have le := h.le
  exact ⟨(Below.heap_setCell _ _ _ B (by show B ≠ C; omega)).trans h.bx, own_setB h.o1 hC u, own_setB h.o2 hC u, own_setB h.o3 hC u, h.le⟩

/-- What the loads of a round of the reference read. -/
def OfS (cs : List Value) (B b off : Nat) (d : Int) (w : World) : Prop := Bx w B cs 30 ∧ w.cell? ⟨b, off, none⟩ = some (.int .i64 d) ∧ b < w.heap.size
theorem OfS.ext {cs : List Value} {B b off : Nat} {d : Int} {w w' : World} (h : OfS cs B b off d w) (X : Ext w w') : OfS cs B b off d w' := ⟨h.1.ext X, (X.cell (p := ⟨b, off, none⟩) h.2.2).trans h.2.1, Nat.lt_of_lt_of_le h.2.2 X.size⟩
theorem drew_back {w w' : World} (X : Ext w w') : Ext (w.drewN 1) w' := ⟨X.os, X.tape, X.output, X.size, X.block⟩
theorem own_box3 {m B n : Nat} {v : Value} {xs : List Value} {W : World} {cs : List Value} (o : W.ownsRow m 49 2 v n xs) (hb : Bx W B cs 74) (x1 x2 x3 : Value) : (((W.setCell ⟨B, 0, none⟩ x1).setCell ⟨B, 1, none⟩ x2).setCell ⟨B, 2, none⟩ x3).ownsRow m 49 2 v n xs := by
  have ne : v.ownBlock = none ∨ v.ownBlock ≠ some B := by
    rcases o.2 with ⟨rfl, _⟩ | ⟨g, cap, cur, rfl, _, hgb, _⟩
    · exact .inl rfl
    · refine .inr fun e => ?_
      simp [Value.ownBlock] at e
      subst e
      rw [show W.heap[g]? = _ from hb] at hgb
      cases hgb
  have gr : ∀ (X : World) (i : Nat) (u : Value), X.grownBy (X.setCell ⟨B, i, none⟩ u) (some B) := fun X i u => ⟨rfl, rfl, rfl, (KeepsWalks.setCell X _ u).size, fun k _ hk => Below.heap_setCell _ _ _ k (fun e => hk (by rw [e]))⟩
  exact ((o.kept (gr _ _ _) ne).kept (gr _ _ _) ne).kept (gr _ _ _) ne

theorem rs_box3 {A0 : Option Addr} {m : List Sp.S} {B : Nat} {W : World} (r : Rs W A0 m) (hb : Bx W B [.slice none 0 0, .slice none 0 0, .slice none 0 0] 74) (x1 x2 x3 : Value) : Rs (((W.setCell ⟨B, 0, none⟩ x1).setCell ⟨B, 1, none⟩ x2).setCell ⟨B, 2, none⟩ x3) A0 m := by
  have ne : m ≠ [] → ∀ b off, A0 = some ⟨b, off, none⟩ → b ≠ B := fun hm b off hA hbB => by
    obtain ⟨b', off', hA', hb', hc⟩ := r hm
    rw [hA] at hA'; cases hA'
    subst hbB
    have hl0 : 0 < m.length := List.length_pos_iff.2 hm
    have := hc 0 hl0 0 _ rfl
    simp only [World.cell?, show W.heap[b]? = _ from hb] at this
    match off, this with
    | 0, this => simp at this
    | 1, this => simp at this
    | 2, this => simp at this
    | n + 3, this => simp at this
  have gr : ∀ (X : World) (i : Nat) (u : Value), X.grownBy (X.setCell ⟨B, i, none⟩ u) (some B) := fun X i u => ⟨rfl, rfl, rfl, (KeepsWalks.setCell X _ u).size, fun k _ hk => Below.heap_setCell _ _ _ k (fun e => hk (by rw [e]))⟩
  by_cases hm : m = []
  · subst hm; exact Rs.nil
  · exact ((r.moved (gr _ _ _) fun b off hA e => ne hm b off hA (by cases e; rfl)).moved (gr _ _ _) fun b off hA e => ne hm b off hA (by cases e; rfl)).moved (gr _ _ _) fun b off hA e => ne hm b off hA (by cases e; rfl)
theorem rNormN {w : World} {A : Option Addr} {l : List Sp.S} (h : Rs w A l) (hl : l.length ≤ 900000) (n : Nat) (hn : l.length = n) (cap : Nat) : Calls Tryz.prog 35 #[.slice A n cap] w (RetS w (Sp.norm l)) := by subst hn; exact rNorm h hl cap

set_option maxRecDepth 100000 in
set_option maxHeartbeats 8000000 in
theorem rOverA (cs : List Value) (hcs : cs.length = 23) (R O V : Int) (c13 : cs[13]? = some (.int .i64 R)) (c14 : cs[14]? = some (.int .i64 O)) (c15 : cs[15]? = some (.int .i64 V)) (bR : 0 ≤ R ∧ R ≤ 86400) (bO : 0 ≤ O ∧ O ≤ 86400) (bV : B64 V)
    (l : List Sp.S) (hl : l.length ≤ 90000) (A : Option Addr) (c : Nat) (n : Int) (w : World) (h : Rs w A l) (kC : ∀ W, Ext w W → Calls Tryz.prog 40 #[.agg cs.toArray] W (RetB W true)) :
    Calls Tryz.prog 51 #[.agg cs.toArray, .slice A l.length c, .int .i64 n] w fun e w' => ∃ A1 c1 A2 c2 A3 c3, e = .returned (.agg #[.slice A1 (Sp.first (refR (partS l n 604800) R) V).length c1, .slice A2 (Sp.norm (Sp.minus (refR (partS l n 604800) R) (Sp.first (refR (partS l n 604800) R) V) ++ refO (partS l n 604800) R O)).length c2, .slice A3 (Sp.norm (refD (partS l n 604800) O)).length c3]) ∧
      (Rs w' A1 (Sp.first (refR (partS l n 604800) R) V) ∧ Rs w' A2 (Sp.norm (Sp.minus (refR (partS l n 604800) R) (Sp.first (refR (partS l n 604800) R) V) ++ refO (partS l n 604800) R O)) ∧ Rs w' A3 (Sp.norm (refD (partS l n 604800) O))) ∧ Ext w w' := by
  have kW := fun W (X : Ext w W) => rOfWeek (h.ext X) (by omega) c n
  have hPl := partS_len l n 604800
  have hPp := partS_plain l n 604800
  obtain ⟨P, hP⟩ : ∃ P, P = partS l n 604800 := ⟨_, rfl⟩
  rw [← hP] at kW hPl hPp ⊢
  replace hPl : P.length ≤ 90001 := by omega
  clear hP
  have hDl := days_len P
  have hcs2 := Lib.hid hcs
  have HRf : Hid (refR P R = (daysL (Sp.norm P)).flatMap (fun d => cutR R (partS P d 86400) 0) ∧ refO P R O = (daysL (Sp.norm P)).flatMap (fun d => cutO R O (partS P d 86400) 0) ∧ refD P O = (daysL (Sp.norm P)).flatMap (fun d => cutD O (partS P d 86400) 0)) := ⟨rfl, rfl, rfl⟩
  have HLen : Hid (∀ k, ((daysL (Sp.norm P)).take k).length ≤ 371) := fun k => Nat.le_trans (by rw [List.length_take]; omega) hDl
  have HTot : Hid (∀ k (f : Int → List Sp.S), (∀ d, (f d).length = (partS P d 86400).length) → (((daysL (Sp.norm P)).take k).flatMap f).length ≤ 90742) := fun k f hf => by
    have h1 := parts_total hPp ((days_spec P).1.sublist (List.take_sublist k _)) f (fun d => Nat.le_of_eq (hf d))
    have h2 := HLen.out k
    omega
  replace hPp := Lib.hid hPp
  obtain ⟨D, hD⟩ : ∃ D, D = daysL (Sp.norm P) := ⟨_, rfl⟩
  have kD := fun W (A0 : Option Addr) (c0 : Nat) (hr : Rs W A0 P) => rDays hr (by omega) c0
  rw [← hD] at kD hDl HRf HLen HTot
  clear hD
  have hi := Lib.hid (su_size hcs)
  have hs0 := (Bx.new w cs 30).alloc (.cells #[.slice none 0 0, .slice none 0 0, .slice none 0 0] 74)
  have h60 := Bx.new_at (w.alloc (.cells cs.toArray 30)) [.slice none 0 0, .slice none 0 0, .slice none 0 0] 74 (w.heap.size + 1) (by simp)
  have X0 := ((Ext.refl w).alloc (.cells cs.toArray 30)).alloc (.cells #[.slice none 0 0, .slice none 0 0, .slice none 0 0] 74)
  replace kC := Lib.hid kC; replace kW := Lib.hid kW; replace kD := Lib.hid kD; replace h60 := Lib.hid h60
  clear hcs h hl
  go_enter Tryz.func51, Tryz.ntmps51
  go_wp2_with (first | (refine load_box rfl 30 _ rfl _ rfl _ _ hs0 _ Tryz.underlying30 rfl hi.out ?_))
  refine (kC.out _ X0).mono ?_
  rintro _ w1 ⟨rfl, x1⟩
  have hs1 := Lib.hid (hs0.ext x1); have h61 := Lib.hid (h60.out.ext x1)
  have X1 := X0.trans x1
  clear hs0 h60 X0 x1
  go_wp2_with fail
  refine (kW.out _ X1).mono ?_
  rintro _ w2 ⟨A2, c2, rfl, r2, x2, _⟩
  have hs2 := Lib.hid (hs1.out.ext x2); have h62 := Lib.hid (h61.out.ext x2)
  have X2 := X1.trans x2
  clear hs1 h61 X1 x2
  replace r2 := Lib.hid r2
  go_wp2_with fail
  refine (kD.out _ _ _ r2.out).mono ?_
  rintro _ w3 ⟨A3, c3, rfl, r3, x3⟩
  obtain ⟨W4, hW4⟩ : ∃ W, W = w3.alloc (.cells #[.slice none 0 0, .slice none 0 0, .slice none 0 0] 74) := ⟨_, rfl⟩
  have XA : Ext w3 W4 := by rw [hW4]; exact (Ext.refl w3).alloc _
  have hs4 := Lib.hid ((hs2.out.ext x3).ext XA); have h64 := Lib.hid ((h62.out.ext x3).ext XA)
  have X4 := Lib.hid ((X2.trans x3).trans XA)
  have HP : Hid (Rd encS 2 W4 w3.heap.size A2 P) := Rd.below (r2.out.ext x3) XA
  have HD : Hid (Rd encN 1 W4 w3.heap.size A3 D) := Rd.below r3 XA
  have hz : W4.heap.size = w3.heap.size + 1 := by rw [hW4]; simp
  have hz3 : w.heap.size + 1 < w3.heap.size := by have := (h62.out.ext x3).lt; omega
  have T0 : Hid (Tri (w3.heap.size + 1) w3.heap.size [] [] [] (.slice none 0 0) (.slice none 0 0) (.slice none 0 0) W4) := Tri.new _ _ _ (by rw [hW4]; exact Bx.new w3 [.slice none 0 0, .slice none 0 0, .slice none 0 0] 74) (by omega) (by omega)
  clear hs2 h62 X2 x3 r2 r3 XA kC kW kD
  go_wp2_with fail
  rw [← hW4]
  replace hW4 := Lib.hid hW4
  go_loopw [11] (fun iv wr => ∃ (k : Nat) (v1 v2 v3 : Value), k ≤ D.length ∧ iv = .int .i64 k ∧ Hid (Tri (w3.heap.size + 1) w3.heap.size ((D.take k).flatMap fun d => cutR R (partS P d 86400) 0) ((D.take k).flatMap fun d => cutO R O (partS P d 86400) 0) ((D.take k).flatMap fun d => cutD O (partS P d 86400) 0) v1 v2 v3 wr) ∧ Hid (Below w3.heap.size W4 wr)) (fun iv _ => D.length - (intOf iv).toNat)
  case atStart => exact ⟨0, _, _, _, Nat.zero_le _, rfl, T0.out, Below.refl _ _⟩
  case round =>
    obtain ⟨k, v1, v2, v3, hk, rfl, HT, HX⟩ := hrel
    have hs5 : Hid (Bx wr w.heap.size cs 30) := (HX.out.block _ (by omega)).trans hs4.out
    have hPl2 : Hid (∀ d, (partS P d 86400).length ≤ 90002) := fun d => Nat.le_trans (partS_len P d 86400) (by omega)
    by_cases hlt : k < D.length
    · obtain ⟨b, off, d, rfl, hbB, hx, d0⟩ := Rd.atN HD.out HX.out hlt
      have q3 : (k : Int) < (D.length : Int) := by omega
      have q4 : (0 : Int) ≤ (k : Int) := by omega
      have hwr : w3.heap.size + 1 ≤ wr.heap.size := HT.out.le
      have hPr : Hid (Rs wr A2 P) := (HP.out.below HX.out).more (by omega)
      obtain ⟨Q, hQ⟩ : ∃ Q, partS P d 86400 = Q := ⟨_, rfl⟩
      have hQp : Sp.Plain Q := by rw [← hQ]; exact partS_plain _ _ _
      have hQl : Q.length ≤ 90002 := by rw [← hQ]; exact hPl2.out d
      have kO := fun W (A0 : Option Addr) (c0 : Nat) (hr : Rs W A0 P) => rOfDay hr (by omega) c0 d
      rw [hQ] at kO
      obtain ⟨q1, hq1⟩ : ∃ q, cutR R Q 0 = q := ⟨_, rfl⟩
      obtain ⟨q2, hq2⟩ : ∃ q, cutO R O Q 0 = q := ⟨_, rfl⟩
      obtain ⟨q3', hq3⟩ : ∃ q, cutD O Q 0 = q := ⟨_, rfl⟩
      have kQ := fun W (A0 : Option Addr) (c0 : Nat) (hr : Rs W A0 Q) => rCutA cs hcs2.out R O c13 c14 bR bO Q (by omega) (fun x hx2 => by have := Sp.PlainFrom.bd hQp x hx2; simp only [Sp.MT] at this; omega) A0 c0 W hr
      rw [hq1, hq2, hq3] at kQ
      have m1 : q1.length ≤ 90002 := by rw [← hq1, cutR_len]; exact hQl
      have m2 : q2.length ≤ 90002 := by rw [← hq2, cutO_len]; exact hQl
      have m3 : q3'.length ≤ 90002 := by rw [← hq3, cutD_len]; exact hQl
      obtain ⟨L1, hL1⟩ : ∃ L, ((D.take k).flatMap fun d => cutR R (partS P d 86400) 0) = L := ⟨_, rfl⟩
      obtain ⟨L2, hL2⟩ : ∃ L, ((D.take k).flatMap fun d => cutO R O (partS P d 86400) 0) = L := ⟨_, rfl⟩
      obtain ⟨L3, hL3⟩ : ∃ L, ((D.take k).flatMap fun d => cutD O (partS P d 86400) 0) = L := ⟨_, rfl⟩
      have E1 : Hid (((D.take (k + 1)).flatMap fun d => cutR R (partS P d 86400) 0) = L1 ++ q1) := by show _ = _; rw [take_snoc hx.out, List.flatMap_append, hL1]; simp [hQ, hq1]
      have E2 : Hid (((D.take (k + 1)).flatMap fun d => cutO R O (partS P d 86400) 0) = L2 ++ q2) := by show _ = _; rw [take_snoc hx.out, List.flatMap_append, hL2]; simp [hQ, hq2]
      have E3 : Hid (((D.take (k + 1)).flatMap fun d => cutD O (partS P d 86400) 0) = L3 ++ q3') := by show _ = _; rw [take_snoc hx.out, List.flatMap_append, hL3]; simp [hQ, hq3]
      have n1 : L1.length ≤ 90742 := by rw [← hL1]; exact HTot.out k _ fun d => by rw [cutR_len]
      have n2 : L2.length ≤ 90742 := by rw [← hL2]; exact HTot.out k _ fun d => by rw [cutO_len]
      have n3 : L3.length ≤ 90742 := by rw [← hL3]; exact HTot.out k _ fun d => by rw [cutD_len]
      rw [hL1, hL2, hL3] at HT
      obtain ⟨A1, c1, rfl, _, _⟩ := own_form HT.out.o1
      obtain ⟨A4, c4, rfl, _, _⟩ := own_form HT.out.o2
      obtain ⟨A5, c5, rfl, _, _⟩ := own_form HT.out.o3
      have V1 := Lib.hid (fun g hg => (HT.out.o1.lt g hg).2)
      have V2 := Lib.hid (fun g hg => (HT.out.o2.lt g hg).2)
      have V3 := Lib.hid (fun g hg => (HT.out.o3.lt g hg).2)
      have HS : Hid (OfS cs w.heap.size b (off + k) d (wr.drewN 1)) := ⟨hs5.out, d0, by have : wr.heap.size = (wr.drewN 1).heap.size := rfl; omega⟩
      have XD := Lib.hid ((Ext.refl wr).drewN 1)
      replace kO := Lib.hid kO; replace kQ := Lib.hid kQ
      clear hQ hQp hQl hq1 hq2 hq3 hL1 hL2 hL3 hs5 hx
      go_wp2_with fail
      refine held_start (S := OfS cs w.heap.size b (off + k) d) 10 rfl (by kernel_rfl) ?_
      refine held_box (i := 0) rfl (by kernel_rfl) (by kernel_rfl) (by kernel_rfl) rfl 30 _ rfl _ rfl cs 30 (fun w h => h.1) _ Tryz.underlying30 rfl hi.out HS.out _ (by simp [Act.put]; rfl) ?_
      refine held_move (i := 1) rfl (by kernel_rfl) (by kernel_rfl) (by kernel_rfl) _ rfl rfl HS.out _ (by simp [Act.put]; rfl) ?_
      refine held_move (i := 2) rfl (by kernel_rfl) (by kernel_rfl) (by kernel_rfl) _ rfl rfl HS.out _ (by simp [Act.put]; rfl) ?_
      refine held_move (i := 3) rfl (by kernel_rfl) (by kernel_rfl) (by kernel_rfl) _ rfl rfl HS.out _ (by simp [Act.put]; rfl) ?_
      refine wpAnyH_take (i := 4) (v := .pointer (some ⟨b, off + k, none⟩)) rfl (by kernel_rfl) (by kernel_rfl) (by kernel_rfl) (fun _ _ _ h => h) (.inl ⟨rfl, fun w _ => by first | (go_simp; done) | (go_simp; rfl)⟩) HS.out ?_
      simp only [Act.put, List.setIfInBounds_toArray, List.set_cons_zero, List.set_cons_succ]
      refine wpAnyH_take (i := 5) (v := .int .i64 d) rfl (by kernel_rfl) (by kernel_rfl) (by kernel_rfl) (fun _ _ _ h => h) (.inl ⟨rfl, fun w hT => by have cc := hT.2.1; first | (go_simp; done) | (go_simp; rfl)⟩) HS.out ?_
      simp only [Act.put, List.setIfInBounds_toArray, List.set_cons_zero, List.set_cons_succ]
      refine held_two (i := 6) (j := 8) rfl rfl (by kernel_rfl) rfl rfl ?_ ?_
      · go_wp2_with fail
        refine (kO.out _ _ _ (hPr.out.drewN 1)).mono ?_
        rintro _ y1 ⟨a1, e1, rfl, r1, x1, _⟩
        have HS1 := Lib.hid (HS.out.ext x1); have XX1 := Lib.hid (XD.out.trans x1); have hR1 := Lib.hid r1
        refine ⟨HS1.out, ?_⟩
        refine held_two (i := 7) (j := 8) rfl rfl (by kernel_rfl) rfl rfl ?_ ?_
        · go_wp2_with fail
          refine (kQ.out _ _ _ hR1.out).mono ?_
          rintro _ y2 ⟨g1, e1, g2, e2, g3, e3, rfl, ⟨o1, o2, o3⟩, x2⟩
          have HS2 := Lib.hid (HS1.out.ext x2)
          have oo1 := Lib.hid (own_base o1 (show wr.heap.size ≤ _ from XX1.out.size)); have oo2 := Lib.hid (own_base o2 (show wr.heap.size ≤ _ from XX1.out.size)); have oo3 := Lib.hid (own_base o3 (show wr.heap.size ≤ _ from XX1.out.size))
          have XX2 := Lib.hid (XX1.out.trans x2)
          clear o1 o2 o3
          refine ⟨HS2.out, ?_⟩
          refine held_all (i := 8) rfl (by kernel_rfl) rfl ?_
          go_wp2_with fail
          obtain ⟨y3, hy3⟩ : ∃ W, W = (y2).alloc (.cells #[.slice none 0 0, .slice none 0 0, .slice none 0 0] 74) := ⟨_, rfl⟩
          have x3 : Ext (y2) y3 := (by rw [hy3]; exact (Ext.refl _).alloc _)
          have hb3 : Hid (Bx y3 (y2).heap.size [.slice none 0 0, .slice none 0 0, .slice none 0 0] 74) := (by rw [hy3]; exact Bx.new _ [.slice none 0 0, .slice none 0 0, .slice none 0 0] 74)
          have HS3 := Lib.hid (HS2.out.ext x3); have hl3 := Lib.hid (XX2.out.size)
          have oq1 := Lib.hid (own_below oo1.out x3)
          have oq2 := Lib.hid (own_below oo2.out x3)
          have oq3 := Lib.hid (own_below oo3.out x3)
          have XX3 := Lib.hid (XX2.out.trans x3)
          rw [← hy3]
          replace hy3 := Lib.hid hy3
          refine ⟨HS3.out, ?_⟩
          refine held_all (i := 9) rfl (by kernel_rfl) rfl ?_
          have c0 := hb3.out.cell 0 _ rfl; have c1' := hb3.out.cell 1 _ rfl; have c2' := hb3.out.cell 2 _ rfl
          have z0 := hb3.out.frozen 0; have z1 := hb3.out.frozen 1; have z2 := hb3.out.frozen 2
          have hB12 : wr.heap.size ≤ (y2).heap.size := hl3.out
          have XE : Hid (Ext wr ((((y3).setCell ⟨(y2).heap.size, 0, none⟩ (.slice g1 q1.length e1)).setCell ⟨(y2).heap.size, 1, none⟩ (.slice g2 q2.length e2)).setCell ⟨(y2).heap.size, 2, none⟩ (.slice g3 q3'.length e3))) := ((XX3.out.setCell (p := ⟨(y2).heap.size, 0, none⟩) hB12 _).setCell (p := ⟨(y2).heap.size, 1, none⟩) hB12 _).setCell (p := ⟨(y2).heap.size, 2, none⟩) hB12 _
          have AX : Hid (Aux wr.heap.size (y2).heap.size q1 q2 q3' (.slice g1 q1.length e1) (.slice g2 q2.length e2) (.slice g3 q3'.length e3) ((((y3).setCell ⟨(y2).heap.size, 0, none⟩ (.slice g1 q1.length e1)).setCell ⟨(y2).heap.size, 1, none⟩ (.slice g2 q2.length e2)).setCell ⟨(y2).heap.size, 2, none⟩ (.slice g3 q3'.length e3))) := ⟨((hb3.out.set_ 0 (.slice g1 q1.length e1)).set_ 1 (.slice g2 q2.length e2)).set_ 2 (.slice g3 q3'.length e3), own_box3 oq1.out hb3.out _ _ _, own_box3 oq2.out hb3.out _ _ _, own_box3 oq3.out hb3.out _ _ _, hB12⟩
          have HSE : Hid (OfS cs w.heap.size b (off + k) d ((((y3).setCell ⟨(y2).heap.size, 0, none⟩ (.slice g1 q1.length e1)).setCell ⟨(y2).heap.size, 1, none⟩ (.slice g2 q2.length e2)).setCell ⟨(y2).heap.size, 2, none⟩ (.slice g3 q3'.length e3))) := HS.out.ext (drew_back XE.out)
          go_wp2_with fail
          refine ⟨HSE.out, ?_⟩
          refine held_done (by kernel_rfl) ?_ _
          have TE := Lib.hid (HT.out.ext XE.out)
          have HB := Lib.hid (Below.trans HX.out (Below.mono XE.out (by omega)))
          have nn0 := TE.out.bx.cell 0 _ rfl
          have bb0 := AX.out.bx.cell 0 _ rfl
          clear HS XE
          go_wp2_with (at_builtin; first | (refine app_tri (w3.heap.size + 1) _ T2.out.le _ _ rfl rfl _ (.slice A5 L3.length c5) L3 q3' rfl T2.out.o3 _ _ _ rfl (Rs.own AX2.out.o3) rfl (by omega) ?_; intro B3 f3 u3 o3 g3 y3; have p3 : u3.ownsRow (w3.heap.size + 1) 49 2 (.slice B3 (L3.length + q3'.length) f3) ((D.take (k + 1)).flatMap fun d => cutD O (partS P d 86400) 0).length (flat encS ((D.take (k + 1)).flatMap fun d => cutD O (partS P d 86400) 0)) := (by rw [E3.out, List.length_append]; exact o3); have P3 := T2.out.set3 p3 g3 y3 T2.out; have s3 := P3.1.cell 2 _ rfl; have t3 := P3.1.frozen 2; have Y3 := Lib.hid (tri_below (i := 2) (u := .slice B3 (L3.length + q3'.length) f3) Y2.out T2.out.o3 T2.out.lt T2.out.le g3); have T3 := Lib.hid P3.2; have AX3 := Lib.hid ((AX2.out.grown g3 V3.out).setB (C := w3.heap.size) (i := 2) (u := .slice B3 (L3.length + q3'.length) f3) (by omega)); clear o3 p3 P3 g3 y3) | (refine app_tri (w3.heap.size + 1) _ T1.out.le _ _ rfl rfl _ (.slice A4 L2.length c4) L2 q2 rfl T1.out.o2 _ _ _ rfl (Rs.own AX1.out.o2) rfl (by omega) ?_; intro B2 f2 u2 o2 g2 y2; have p2 : u2.ownsRow (w3.heap.size + 1) 49 2 (.slice B2 (L2.length + q2.length) f2) ((D.take (k + 1)).flatMap fun d => cutO R O (partS P d 86400) 0).length (flat encS ((D.take (k + 1)).flatMap fun d => cutO R O (partS P d 86400) 0)) := (by rw [E2.out, List.length_append]; exact o2); have P2 := T1.out.set2 p2 g2 y2 T1.out; have s2 := P2.1.cell 1 _ rfl; have t2 := P2.1.frozen 1; have Y2 := Lib.hid (tri_below (i := 1) (u := .slice B2 (L2.length + q2.length) f2) Y1.out T1.out.o2 T1.out.lt T1.out.le g2); have T2 := Lib.hid P2.2; have AX2 := Lib.hid ((AX1.out.grown g2 V2.out).setB (C := w3.heap.size) (i := 1) (u := .slice B2 (L2.length + q2.length) f2) (by omega)); have nn2 := T2.out.bx.cell 2 _ rfl; have bb2 := AX2.out.bx.cell 2 _ rfl; clear o2 p2 P2 g2 y2) | (refine app_tri (w3.heap.size + 1) _ TE.out.le _ _ rfl rfl _ (.slice A1 L1.length c1) L1 q1 rfl TE.out.o1 _ _ _ rfl (Rs.own AX.out.o1) rfl (by omega) ?_; intro B1 f1 u1 o1 g1 y1; have p1 : u1.ownsRow (w3.heap.size + 1) 49 2 (.slice B1 (L1.length + q1.length) f1) ((D.take (k + 1)).flatMap fun d => cutR R (partS P d 86400) 0).length (flat encS ((D.take (k + 1)).flatMap fun d => cutR R (partS P d 86400) 0)) := (by rw [E1.out, List.length_append]; exact o1); have P1 := TE.out.set1 p1 g1 y1 TE.out; have s1 := P1.1.cell 0 _ rfl; have t1 := P1.1.frozen 0; have Y1 := Lib.hid (tri_below (i := 0) (u := .slice B1 (L1.length + q1.length) f1) HB.out TE.out.o1 TE.out.lt TE.out.le g1); have T1 := Lib.hid P1.2; have AX1 := Lib.hid ((AX.out.grown g1 V1.out).setB (C := w3.heap.size) (i := 0) (u := .slice B1 (L1.length + q1.length) f1) (by omega)); have nn1 := T1.out.bx.cell 1 _ rfl; have bb1 := AX1.out.bx.cell 1 _ rfl; clear o1 p1 P1 g1 y1))
          go_roundw
          case rel => exact ⟨k + 1, _, _, _, by omega, by go_num, T3, Y3⟩
          case measure => simp [intOf]; omega
        · go_wp2_with fail
          obtain ⟨y2, hy2⟩ : ∃ W, W = (y1).alloc (.cells #[.slice none 0 0, .slice none 0 0, .slice none 0 0] 74) := ⟨_, rfl⟩
          have x2 : Ext (y1) y2 := (by rw [hy2]; exact (Ext.refl _).alloc _)
          have hb2 : Hid (Bx y2 (y1).heap.size [.slice none 0 0, .slice none 0 0, .slice none 0 0] 74) := (by rw [hy2]; exact Bx.new _ [.slice none 0 0, .slice none 0 0, .slice none 0 0] 74)
          have HS2 := Lib.hid (HS1.out.ext x2); have hl2 := Lib.hid (XX1.out.size)
          have hR2 := Lib.hid (Rs.ext hR1.out x2)
          have XX2 := Lib.hid (XX1.out.trans x2)
          rw [← hy2]
          replace hy2 := Lib.hid hy2
          refine ⟨HS2.out, ?_⟩
          refine held_all (i := 7) rfl (by kernel_rfl) rfl ?_
          go_wp2_with fail
          refine (kQ.out _ _ _ hR2.out).mono ?_
          rintro _ y3 ⟨g1, e1, g2, e2, g3, e3, rfl, ⟨o1, o2, o3⟩, x3⟩
          have HS3 := Lib.hid (HS2.out.ext x3)
          have oo1 := Lib.hid (own_base o1 (show wr.heap.size ≤ _ from XX2.out.size)); have oo2 := Lib.hid (own_base o2 (show wr.heap.size ≤ _ from XX2.out.size)); have oo3 := Lib.hid (own_base o3 (show wr.heap.size ≤ _ from XX2.out.size))
          have XX3 := Lib.hid (XX2.out.trans x3)
          have hb3 := Lib.hid (hb2.out.ext x3)
          clear o1 o2 o3
          refine ⟨HS3.out, ?_⟩
          refine held_all (i := 9) rfl (by kernel_rfl) rfl ?_
          have c0 := hb3.out.cell 0 _ rfl; have c1' := hb3.out.cell 1 _ rfl; have c2' := hb3.out.cell 2 _ rfl
          have z0 := hb3.out.frozen 0; have z1 := hb3.out.frozen 1; have z2 := hb3.out.frozen 2
          have hB12 : wr.heap.size ≤ (y1).heap.size := hl2.out
          have XE : Hid (Ext wr ((((y3).setCell ⟨(y1).heap.size, 0, none⟩ (.slice g1 q1.length e1)).setCell ⟨(y1).heap.size, 1, none⟩ (.slice g2 q2.length e2)).setCell ⟨(y1).heap.size, 2, none⟩ (.slice g3 q3'.length e3))) := ((XX3.out.setCell (p := ⟨(y1).heap.size, 0, none⟩) hB12 _).setCell (p := ⟨(y1).heap.size, 1, none⟩) hB12 _).setCell (p := ⟨(y1).heap.size, 2, none⟩) hB12 _
          have AX : Hid (Aux wr.heap.size (y1).heap.size q1 q2 q3' (.slice g1 q1.length e1) (.slice g2 q2.length e2) (.slice g3 q3'.length e3) ((((y3).setCell ⟨(y1).heap.size, 0, none⟩ (.slice g1 q1.length e1)).setCell ⟨(y1).heap.size, 1, none⟩ (.slice g2 q2.length e2)).setCell ⟨(y1).heap.size, 2, none⟩ (.slice g3 q3'.length e3))) := ⟨((hb3.out.set_ 0 (.slice g1 q1.length e1)).set_ 1 (.slice g2 q2.length e2)).set_ 2 (.slice g3 q3'.length e3), own_box3 oo1.out hb3.out _ _ _, own_box3 oo2.out hb3.out _ _ _, own_box3 oo3.out hb3.out _ _ _, hB12⟩
          have HSE : Hid (OfS cs w.heap.size b (off + k) d ((((y3).setCell ⟨(y1).heap.size, 0, none⟩ (.slice g1 q1.length e1)).setCell ⟨(y1).heap.size, 1, none⟩ (.slice g2 q2.length e2)).setCell ⟨(y1).heap.size, 2, none⟩ (.slice g3 q3'.length e3))) := HS.out.ext (drew_back XE.out)
          go_wp2_with fail
          refine ⟨HSE.out, ?_⟩
          refine held_done (by kernel_rfl) ?_ _
          have TE := Lib.hid (HT.out.ext XE.out)
          have HB := Lib.hid (Below.trans HX.out (Below.mono XE.out (by omega)))
          have nn0 := TE.out.bx.cell 0 _ rfl
          have bb0 := AX.out.bx.cell 0 _ rfl
          clear HS XE
          go_wp2_with (at_builtin; first | (refine app_tri (w3.heap.size + 1) _ T2.out.le _ _ rfl rfl _ (.slice A5 L3.length c5) L3 q3' rfl T2.out.o3 _ _ _ rfl (Rs.own AX2.out.o3) rfl (by omega) ?_; intro B3 f3 u3 o3 g3 y3; have p3 : u3.ownsRow (w3.heap.size + 1) 49 2 (.slice B3 (L3.length + q3'.length) f3) ((D.take (k + 1)).flatMap fun d => cutD O (partS P d 86400) 0).length (flat encS ((D.take (k + 1)).flatMap fun d => cutD O (partS P d 86400) 0)) := (by rw [E3.out, List.length_append]; exact o3); have P3 := T2.out.set3 p3 g3 y3 T2.out; have s3 := P3.1.cell 2 _ rfl; have t3 := P3.1.frozen 2; have Y3 := Lib.hid (tri_below (i := 2) (u := .slice B3 (L3.length + q3'.length) f3) Y2.out T2.out.o3 T2.out.lt T2.out.le g3); have T3 := Lib.hid P3.2; have AX3 := Lib.hid ((AX2.out.grown g3 V3.out).setB (C := w3.heap.size) (i := 2) (u := .slice B3 (L3.length + q3'.length) f3) (by omega)); clear o3 p3 P3 g3 y3) | (refine app_tri (w3.heap.size + 1) _ T1.out.le _ _ rfl rfl _ (.slice A4 L2.length c4) L2 q2 rfl T1.out.o2 _ _ _ rfl (Rs.own AX1.out.o2) rfl (by omega) ?_; intro B2 f2 u2 o2 g2 y2; have p2 : u2.ownsRow (w3.heap.size + 1) 49 2 (.slice B2 (L2.length + q2.length) f2) ((D.take (k + 1)).flatMap fun d => cutO R O (partS P d 86400) 0).length (flat encS ((D.take (k + 1)).flatMap fun d => cutO R O (partS P d 86400) 0)) := (by rw [E2.out, List.length_append]; exact o2); have P2 := T1.out.set2 p2 g2 y2 T1.out; have s2 := P2.1.cell 1 _ rfl; have t2 := P2.1.frozen 1; have Y2 := Lib.hid (tri_below (i := 1) (u := .slice B2 (L2.length + q2.length) f2) Y1.out T1.out.o2 T1.out.lt T1.out.le g2); have T2 := Lib.hid P2.2; have AX2 := Lib.hid ((AX1.out.grown g2 V2.out).setB (C := w3.heap.size) (i := 1) (u := .slice B2 (L2.length + q2.length) f2) (by omega)); have nn2 := T2.out.bx.cell 2 _ rfl; have bb2 := AX2.out.bx.cell 2 _ rfl; clear o2 p2 P2 g2 y2) | (refine app_tri (w3.heap.size + 1) _ TE.out.le _ _ rfl rfl _ (.slice A1 L1.length c1) L1 q1 rfl TE.out.o1 _ _ _ rfl (Rs.own AX.out.o1) rfl (by omega) ?_; intro B1 f1 u1 o1 g1 y1; have p1 : u1.ownsRow (w3.heap.size + 1) 49 2 (.slice B1 (L1.length + q1.length) f1) ((D.take (k + 1)).flatMap fun d => cutR R (partS P d 86400) 0).length (flat encS ((D.take (k + 1)).flatMap fun d => cutR R (partS P d 86400) 0)) := (by rw [E1.out, List.length_append]; exact o1); have P1 := TE.out.set1 p1 g1 y1 TE.out; have s1 := P1.1.cell 0 _ rfl; have t1 := P1.1.frozen 0; have Y1 := Lib.hid (tri_below (i := 0) (u := .slice B1 (L1.length + q1.length) f1) HB.out TE.out.o1 TE.out.lt TE.out.le g1); have T1 := Lib.hid P1.2; have AX1 := Lib.hid ((AX.out.grown g1 V1.out).setB (C := w3.heap.size) (i := 0) (u := .slice B1 (L1.length + q1.length) f1) (by omega)); have nn1 := T1.out.bx.cell 1 _ rfl; have bb1 := AX1.out.bx.cell 1 _ rfl; clear o1 p1 P1 g1 y1))
          go_roundw
          case rel => exact ⟨k + 1, _, _, _, by omega, by go_num, T3, Y3⟩
          case measure => simp [intOf]; omega
      · go_wp2_with fail
        obtain ⟨y1, hy1⟩ : ∃ W, W = (wr.alloc (.cells #[.slice none 0 0, .slice none 0 0, .slice none 0 0] 74)).drew := ⟨_, rfl⟩
        have x1 : Ext (wr.drewN 1) y1 := (by rw [hy1]; exact drew_back (((Ext.refl wr).alloc _).drewN 1))
        have hb1 : Hid (Bx y1 wr.heap.size [.slice none 0 0, .slice none 0 0, .slice none 0 0] 74) := (by rw [hy1]; exact (Bx.new wr [.slice none 0 0, .slice none 0 0, .slice none 0 0] 74).drewN 1)
        have HS1 := Lib.hid (HS.out.ext x1); have hl1 := Lib.hid (XD.out.size)
        have hP1 := Lib.hid (Rs.ext (hPr.out.drewN 1) x1)
        have XX1 := Lib.hid (XD.out.trans x1)
        rw [← hy1]
        replace hy1 := Lib.hid hy1
        refine ⟨HS1.out, ?_⟩
        refine held_all (i := 6) rfl (by kernel_rfl) rfl ?_
        go_wp2_with fail
        refine (kO.out _ _ _ hP1.out).mono ?_
        rintro _ y2 ⟨a2, e2, rfl, r2, x2, _⟩
        have HS2 := Lib.hid (HS1.out.ext x2); have XX2 := Lib.hid (XX1.out.trans x2); have hR2 := Lib.hid r2
        have hb2 := Lib.hid (hb1.out.ext x2)
        refine ⟨HS2.out, ?_⟩
        refine held_all (i := 7) rfl (by kernel_rfl) rfl ?_
        go_wp2_with fail
        refine (kQ.out _ _ _ hR2.out).mono ?_
        rintro _ y3 ⟨g1, e1, g2, e2, g3, e3, rfl, ⟨o1, o2, o3⟩, x3⟩
        have HS3 := Lib.hid (HS2.out.ext x3)
        have oo1 := Lib.hid (own_base o1 (show wr.heap.size ≤ _ from XX2.out.size)); have oo2 := Lib.hid (own_base o2 (show wr.heap.size ≤ _ from XX2.out.size)); have oo3 := Lib.hid (own_base o3 (show wr.heap.size ≤ _ from XX2.out.size))
        have XX3 := Lib.hid (XX2.out.trans x3)
        have hb3 := Lib.hid (hb2.out.ext x3)
        clear o1 o2 o3
        refine ⟨HS3.out, ?_⟩
        refine held_all (i := 9) rfl (by kernel_rfl) rfl ?_
        have c0 := hb3.out.cell 0 _ rfl; have c1' := hb3.out.cell 1 _ rfl; have c2' := hb3.out.cell 2 _ rfl
        have z0 := hb3.out.frozen 0; have z1 := hb3.out.frozen 1; have z2 := hb3.out.frozen 2
        have hB12 : wr.heap.size ≤ wr.heap.size := hl1.out
        have XE : Hid (Ext wr ((((y3).setCell ⟨wr.heap.size, 0, none⟩ (.slice g1 q1.length e1)).setCell ⟨wr.heap.size, 1, none⟩ (.slice g2 q2.length e2)).setCell ⟨wr.heap.size, 2, none⟩ (.slice g3 q3'.length e3))) := ((XX3.out.setCell (p := ⟨wr.heap.size, 0, none⟩) hB12 _).setCell (p := ⟨wr.heap.size, 1, none⟩) hB12 _).setCell (p := ⟨wr.heap.size, 2, none⟩) hB12 _
        have AX : Hid (Aux wr.heap.size wr.heap.size q1 q2 q3' (.slice g1 q1.length e1) (.slice g2 q2.length e2) (.slice g3 q3'.length e3) ((((y3).setCell ⟨wr.heap.size, 0, none⟩ (.slice g1 q1.length e1)).setCell ⟨wr.heap.size, 1, none⟩ (.slice g2 q2.length e2)).setCell ⟨wr.heap.size, 2, none⟩ (.slice g3 q3'.length e3))) := ⟨((hb3.out.set_ 0 (.slice g1 q1.length e1)).set_ 1 (.slice g2 q2.length e2)).set_ 2 (.slice g3 q3'.length e3), own_box3 oo1.out hb3.out _ _ _, own_box3 oo2.out hb3.out _ _ _, own_box3 oo3.out hb3.out _ _ _, hB12⟩
        have HSE : Hid (OfS cs w.heap.size b (off + k) d ((((y3).setCell ⟨wr.heap.size, 0, none⟩ (.slice g1 q1.length e1)).setCell ⟨wr.heap.size, 1, none⟩ (.slice g2 q2.length e2)).setCell ⟨wr.heap.size, 2, none⟩ (.slice g3 q3'.length e3))) := HS.out.ext (drew_back XE.out)
        go_wp2_with fail
        refine ⟨HSE.out, ?_⟩
        refine held_done (by kernel_rfl) ?_ _
        have TE := Lib.hid (HT.out.ext XE.out)
        have HB := Lib.hid (Below.trans HX.out (Below.mono XE.out (by omega)))
        have nn0 := TE.out.bx.cell 0 _ rfl
        have bb0 := AX.out.bx.cell 0 _ rfl
        clear HS XE
        go_wp2_with (at_builtin; first | (refine app_tri (w3.heap.size + 1) _ T2.out.le _ _ rfl rfl _ (.slice A5 L3.length c5) L3 q3' rfl T2.out.o3 _ _ _ rfl (Rs.own AX2.out.o3) rfl (by omega) ?_; intro B3 f3 u3 o3 g3 y3; have p3 : u3.ownsRow (w3.heap.size + 1) 49 2 (.slice B3 (L3.length + q3'.length) f3) ((D.take (k + 1)).flatMap fun d => cutD O (partS P d 86400) 0).length (flat encS ((D.take (k + 1)).flatMap fun d => cutD O (partS P d 86400) 0)) := (by rw [E3.out, List.length_append]; exact o3); have P3 := T2.out.set3 p3 g3 y3 T2.out; have s3 := P3.1.cell 2 _ rfl; have t3 := P3.1.frozen 2; have Y3 := Lib.hid (tri_below (i := 2) (u := .slice B3 (L3.length + q3'.length) f3) Y2.out T2.out.o3 T2.out.lt T2.out.le g3); have T3 := Lib.hid P3.2; have AX3 := Lib.hid ((AX2.out.grown g3 V3.out).setB (C := w3.heap.size) (i := 2) (u := .slice B3 (L3.length + q3'.length) f3) (by omega)); clear o3 p3 P3 g3 y3) | (refine app_tri (w3.heap.size + 1) _ T1.out.le _ _ rfl rfl _ (.slice A4 L2.length c4) L2 q2 rfl T1.out.o2 _ _ _ rfl (Rs.own AX1.out.o2) rfl (by omega) ?_; intro B2 f2 u2 o2 g2 y2; have p2 : u2.ownsRow (w3.heap.size + 1) 49 2 (.slice B2 (L2.length + q2.length) f2) ((D.take (k + 1)).flatMap fun d => cutO R O (partS P d 86400) 0).length (flat encS ((D.take (k + 1)).flatMap fun d => cutO R O (partS P d 86400) 0)) := (by rw [E2.out, List.length_append]; exact o2); have P2 := T1.out.set2 p2 g2 y2 T1.out; have s2 := P2.1.cell 1 _ rfl; have t2 := P2.1.frozen 1; have Y2 := Lib.hid (tri_below (i := 1) (u := .slice B2 (L2.length + q2.length) f2) Y1.out T1.out.o2 T1.out.lt T1.out.le g2); have T2 := Lib.hid P2.2; have AX2 := Lib.hid ((AX1.out.grown g2 V2.out).setB (C := w3.heap.size) (i := 1) (u := .slice B2 (L2.length + q2.length) f2) (by omega)); have nn2 := T2.out.bx.cell 2 _ rfl; have bb2 := AX2.out.bx.cell 2 _ rfl; clear o2 p2 P2 g2 y2) | (refine app_tri (w3.heap.size + 1) _ TE.out.le _ _ rfl rfl _ (.slice A1 L1.length c1) L1 q1 rfl TE.out.o1 _ _ _ rfl (Rs.own AX.out.o1) rfl (by omega) ?_; intro B1 f1 u1 o1 g1 y1; have p1 : u1.ownsRow (w3.heap.size + 1) 49 2 (.slice B1 (L1.length + q1.length) f1) ((D.take (k + 1)).flatMap fun d => cutR R (partS P d 86400) 0).length (flat encS ((D.take (k + 1)).flatMap fun d => cutR R (partS P d 86400) 0)) := (by rw [E1.out, List.length_append]; exact o1); have P1 := TE.out.set1 p1 g1 y1 TE.out; have s1 := P1.1.cell 0 _ rfl; have t1 := P1.1.frozen 0; have Y1 := Lib.hid (tri_below (i := 0) (u := .slice B1 (L1.length + q1.length) f1) HB.out TE.out.o1 TE.out.lt TE.out.le g1); have T1 := Lib.hid P1.2; have AX1 := Lib.hid ((AX.out.grown g1 V1.out).setB (C := w3.heap.size) (i := 0) (u := .slice B1 (L1.length + q1.length) f1) (by omega)); have nn1 := T1.out.bx.cell 1 _ rfl; have bb1 := AX1.out.bx.cell 1 _ rfl; clear o1 p1 P1 g1 y1))
        go_roundw
        case rel => exact ⟨k + 1, _, _, _, by omega, by go_num, T3, Y3⟩
        case measure => simp [intOf]; omega
    · obtain rfl : k = D.length := by omega
      have hwr : w3.heap.size + 1 ≤ wr.heap.size := HT.out.le
      rw [List.take_length] at HT
      rw [← HRf.out.1, ← HRf.out.2.1, ← HRf.out.2.2] at HT
      have n1 : (refR P R).length ≤ 90742 := by rw [HRf.out.1]; have := HTot.out D.length (fun d => cutR R (partS P d 86400) 0) (fun d => by rw [cutR_len]); rwa [List.take_length] at this
      have n2 : (refO P R O).length ≤ 90742 := by rw [HRf.out.2.1]; have := HTot.out D.length (fun d => cutO R O (partS P d 86400) 0) (fun d => by rw [cutO_len]); rwa [List.take_length] at this
      have n3 : (refD P O).length ≤ 90742 := by rw [HRf.out.2.2]; have := HTot.out D.length (fun d => cutD O (partS P d 86400) 0) (fun d => by rw [cutD_len]); rwa [List.take_length] at this
      obtain ⟨L1, hL1⟩ : ∃ L, refR P R = L := ⟨_, rfl⟩
      obtain ⟨L2, hL2⟩ : ∃ L, refO P R O = L := ⟨_, rfl⟩
      obtain ⟨L3, hL3⟩ : ∃ L, refD P O = L := ⟨_, rfl⟩
      rw [hL1] at HT n1
      rw [hL2] at HT n2
      rw [hL3] at HT n3
      obtain ⟨A1, c1, rfl, _, _⟩ := own_form HT.out.o1
      obtain ⟨A4, c4, rfl, _, _⟩ := own_form HT.out.o2
      obtain ⟨A5, c5, rfl, _, _⟩ := own_form HT.out.o3
      have V2 := Lib.hid (fun g hg => (HT.out.o2.lt g hg).2)
      have V3 := Lib.hid (fun g hg => (HT.out.o3.lt g hg).2)
      have z15 := hs5.out.cell 15 _ c15
      have e0 := HT.out.bx.cell 0 _ rfl
      have h65 : Hid (Bx wr (w.heap.size + 1) [.slice none 0 0, .slice none 0 0, .slice none 0 0] 74) := (HX.out.block _ (by omega)).trans h64.out
      have XF : Hid (Ext w wr) := Below.trans X4.out (Below.mono HX.out (by omega))
      have hrl := Nat.le_trans (first_length L1 V) n1
      have kF := rFirst (Rs.own HT.out.o1) (by omega) bV c1
      obtain ⟨rg, hrg⟩ : ∃ r, Sp.first L1 V = r := ⟨_, rfl⟩
      rw [hrg] at kF hrl
      have HG : Hid (Sp.first (refR P R) V = rg ∧ refR P R = L1 ∧ refO P R O = L2 ∧ refD P O = L3) := ⟨by rw [hL1]; exact hrg, hL1, hL2, hL3⟩
      replace kF := Lib.hid kF
      clear HX hs5 hPl2 hL1 hL2 hL3 hrg HP HD hs4 h64 X4 T0 HRf HLen HTot hW4
      go_wp2_with fail
      refine kF.out.mono ?_
      rintro _ w5 ⟨A6, c6, rfl, r5, x5, o5⟩
      have T5 := Lib.hid (HT.out.ext x5); have h66 := Lib.hid (h65.out.ext x5); have XF5 := Lib.hid (XF.out.trans x5)
      have e5 := T5.out.bx.cell 0 _ rfl
      have hsz5 : wr.heap.size ≤ w5.heap.size := x5.size
      have kM := rMinus (Rs.own T5.out.o1) r5 (by omega) (by omega) c1 c6
      have hml := minus_le L1 rg
      obtain ⟨rs, hrs⟩ : ∃ r, Sp.minus L1 rg = r := ⟨_, rfl⟩
      rw [hrs] at kM hml
      have HM : Hid (Sp.minus L1 rg = rs) := hrs
      replace kM := Lib.hid kM; replace o5 := Lib.hid o5
      clear hrs HT h65 XF x5 r5 e0 z15 kF
      go_wp2_with fail
      refine kM.out.mono ?_
      rintro _ w6 ⟨A7, c7, rfl, _, x6, o6⟩
      have T6 := Lib.hid (T5.out.ext x6); have h67 := Lib.hid (h66.out.ext x6); have XF6 := Lib.hid (XF5.out.trans x6)
      have o56 := Lib.hid (own_below o5.out x6)
      have V5 := Lib.hid (fun g hg => (o5.out.lt g hg).2)
      have hsz6 : w5.heap.size ≤ w6.heap.size := x6.size
      replace o6 := Lib.hid o6
      clear T5 h66 XF5 x6 o5 e5 kM
      have HS : Hid ((fun w' => Bx w' w3.heap.size [.slice A1 L1.length c1, .slice A4 L2.length c4, .slice A5 L3.length c5] 74) (w6.drewN 1)) := T6.out.bx.drewN 1
      go_wp2_with fail
      refine held_start (S := fun w' => Bx w' w3.heap.size [.slice A1 L1.length c1, .slice A4 L2.length c4, .slice A5 L3.length c5] 74) 11 rfl (by kernel_rfl) ?_
      refine held_move (i := 0) rfl (by kernel_rfl) (by kernel_rfl) (by kernel_rfl) _ rfl rfl HS.out _ (by simp [Act.put]; rfl) ?_
      refine held_move (i := 1) rfl (by kernel_rfl) (by kernel_rfl) (by kernel_rfl) _ rfl rfl HS.out _ (by simp [Act.put]; rfl) ?_
      refine wpAnyH_take (i := 2) (v := .pointer (some ⟨w3.heap.size, 1, none⟩)) rfl (by kernel_rfl) (by kernel_rfl) (by kernel_rfl) (fun _ _ _ h => h) (.inl ⟨rfl, fun w _ => by first | (go_simp; done) | (go_simp; rfl)⟩) HS.out ?_
      simp only [Act.put, List.setIfInBounds_toArray, List.set_cons_zero, List.set_cons_succ]
      refine wpAnyH_take (i := 3) (v := .slice A4 L2.length c4) rfl (by kernel_rfl) (by kernel_rfl) (by kernel_rfl) (fun _ _ _ h => h) (.inl ⟨rfl, fun w hT => by have cc := hT.cell 1 _ rfl; first | (go_simp; done) | (go_simp; rfl)⟩) HS.out ?_
      simp only [Act.put, List.setIfInBounds_toArray, List.set_cons_zero, List.set_cons_succ]
      refine wpAnyH_take (i := 6) (v := .pointer (some ⟨w3.heap.size, 2, none⟩)) rfl (by kernel_rfl) (by kernel_rfl) (by kernel_rfl) (fun _ _ _ h => h) (.inl ⟨rfl, fun w _ => by first | (go_simp; done) | (go_simp; rfl)⟩) HS.out ?_
      simp only [Act.put, List.setIfInBounds_toArray, List.set_cons_zero, List.set_cons_succ]
      refine wpAnyH_take (i := 7) (v := .slice A5 L3.length c5) rfl (by kernel_rfl) (by kernel_rfl) (by kernel_rfl) (fun _ _ _ h => h) (.inl ⟨rfl, fun w hT => by have cc := hT.cell 2 _ rfl; first | (go_simp; done) | (go_simp; rfl)⟩) HS.out ?_
      simp only [Act.put, List.setIfInBounds_toArray, List.set_cons_zero, List.set_cons_succ]
      refine held_all (i := 4) rfl (by kernel_rfl) rfl ?_
      refine wp_app_two w5.heap.size _ (show w5.heap.size ≤ w6.heap.size from hsz6) _ _ rfl rs.length 0 (.slice A7 rs.length c7) (.slice none 0 0) rs [] L2 rfl (own_drewN o6.out 1) (World.ownsRow_nil _ _ _ _) (.inl rfl) A4 c4 L2.length rfl ((Rs.own T6.out.o2).drewN 1) rfl (by omega) ?_
      intro A8 c8 w7 own1 _ _ g7
      have lo : ∀ g, (Value.slice A7 rs.length c7).ownBlock = some g → w5.heap.size ≤ g := fun g hg => (o6.out.lt g hg).1
      have ne3 : (Value.slice A5 L3.length c5).ownBlock = none ∨ (Value.slice A5 L3.length c5).ownBlock ≠ (Value.slice A7 rs.length c7).ownBlock := by
        cases hu : (Value.slice A5 L3.length c5).ownBlock with
        | none => exact .inl rfl
        | some g => exact .inr fun e => by have h1 := V3.out g hu; have h2 := lo g e.symm; omega
      have ne5 : (Value.slice A6 rg.length c6).ownBlock = none ∨ (Value.slice A6 rg.length c6).ownBlock ≠ (Value.slice A7 rs.length c7).ownBlock := by
        cases hu : (Value.slice A6 rg.length c6).ownBlock with
        | none => exact .inl rfl
        | some g => exact .inr fun e => by have h1 := V5.out g hu; have h2 := lo g e.symm; omega
      have g7' : w6.grownBy w7 (Value.slice A7 rs.length c7).ownBlock := ⟨g7.os, g7.tape, g7.output, g7.size, g7.block⟩
      have S7 : Hid (Bx w7 w3.heap.size [.slice A1 L1.length c1, .slice A4 L2.length c4, .slice A5 L3.length c5] 74) := bx_grown T6.out.bx g7' fun e => by have := lo _ e.symm; omega
      have h68 : Hid (Bx w7 (w.heap.size + 1) [.slice none 0 0, .slice none 0 0, .slice none 0 0] 74) := bx_grown h67.out g7' fun e => by have := lo _ e.symm; omega
      have r7 : Hid (Rs w7 A5 L3) := Rs.own (T6.out.o3.kept g7' ne3)
      have o57 := Lib.hid (o56.out.kept g7' ne5)
      have XF7 : Hid (Ext w w7) := XF6.out.grown g7' XF6.out.size fun g hg => by have := lo g hg; have := XF6.out.size; omega
      have hcat : Hid (Rs w7 A8 (rs ++ L2)) := Rd.of_own' encS_len own1 (by rw [List.length_append])
      clear T6 h67 XF6 o56 o6 own1 g7 g7' ne3 ne5 lo HS
      refine ⟨S7.out, ?_⟩
      refine held_all (i := 5) rfl (by kernel_rfl) rfl ?_
      go_wp2_with fail
      refine (rNormN hcat.out (by rw [List.length_append]; omega) _ (by rw [List.length_append]) _).mono ?_
      rintro _ w8 ⟨A9, c9, rfl, r8, x8, _⟩
      have S8 := Lib.hid (S7.out.ext x8); have h69 := Lib.hid (h68.out.ext x8); have r78 := Lib.hid (r7.out.ext x8); have o58 := Lib.hid (own_below o57.out x8); have XF8 := Lib.hid (XF7.out.trans x8)
      replace r8 := Lib.hid r8
      clear S7 h68 r7 o57 XF7 x8 hcat
      refine ⟨S8.out, ?_⟩
      refine held_all (i := 8) rfl (by kernel_rfl) rfl ?_
      go_wp2_with fail
      refine (rNorm r78.out (by omega) _).mono ?_
      rintro _ w9 ⟨A10, c10, rfl, r9, x9, _⟩
      have S9 := Lib.hid (S8.out.ext x9); have h70 := Lib.hid (h69.out.ext x9); have r89 := Lib.hid (r8.out.ext x9); have r59 := Lib.hid (Rs.own (own_below o58.out x9)); have XF9 := Lib.hid (XF8.out.trans x9)
      replace r9 := Lib.hid r9
      clear S8 h69 r8 o58 XF8 x9 r78
      refine ⟨S9.out, ?_⟩
      refine wpAnyH_take (i := 9) (v := .agg #[.slice A6 rg.length c6, .slice A9 (Sp.norm (rs ++ L2)).length c9, .slice A10 (Sp.norm L3).length c10]) rfl (by kernel_rfl) (by kernel_rfl) (by kernel_rfl) (fun _ _ _ h => h) (.inl ⟨rfl, fun w _ => by first | (go_simp; done) | (go_simp; rfl)⟩) S9.out ?_
      simp only [Act.put, List.setIfInBounds_toArray, List.set_cons_zero, List.set_cons_succ]
      refine held_all (i := 10) rfl (by kernel_rfl) rfl ?_
      have f0 := h70.out.cell 0 _ rfl; have f1 := h70.out.cell 1 _ rfl; have f2 := h70.out.cell 2 _ rfl
      have g0 := h70.out.frozen 0; have g1 := h70.out.frozen 1; have g2 := h70.out.frozen 2
      have hB := Lib.hid (((h70.out.set_ 0 (.slice A6 rg.length c6)).set_ 1 (.slice A9 (Sp.norm (rs ++ L2)).length c9)).set_ 2 (.slice A10 (Sp.norm L3).length c10))
      have q1 := Lib.hid (rs_box3 r59.out h70.out (.slice A6 rg.length c6) (.slice A9 (Sp.norm (rs ++ L2)).length c9) (.slice A10 (Sp.norm L3).length c10))
      have q2 := Lib.hid (rs_box3 r89.out h70.out (.slice A6 rg.length c6) (.slice A9 (Sp.norm (rs ++ L2)).length c9) (.slice A10 (Sp.norm L3).length c10))
      have q3 := Lib.hid (rs_box3 r9.out h70.out (.slice A6 rg.length c6) (.slice A9 (Sp.norm (rs ++ L2)).length c9) (.slice A10 (Sp.norm L3).length c10))
      have SE : Hid (Bx ((((w9).setCell ⟨w.heap.size + 1, 0, none⟩ (.slice A6 rg.length c6)).setCell ⟨w.heap.size + 1, 1, none⟩ (.slice A9 (Sp.norm (rs ++ L2)).length c9)).setCell ⟨w.heap.size + 1, 2, none⟩ (.slice A10 (Sp.norm L3).length c10)) w3.heap.size [.slice A1 L1.length c1, .slice A4 L2.length c4, .slice A5 L3.length c5] 74) := (((Below.heap_setCell _ _ _ _ (by show w3.heap.size ≠ w.heap.size + 1; omega)).trans (Below.heap_setCell _ _ _ _ (by show w3.heap.size ≠ w.heap.size + 1; omega))).trans (Below.heap_setCell _ _ _ _ (by show w3.heap.size ≠ w.heap.size + 1; omega))).trans S9.out
      have XE : Hid (Ext w ((((w9).setCell ⟨w.heap.size + 1, 0, none⟩ (.slice A6 rg.length c6)).setCell ⟨w.heap.size + 1, 1, none⟩ (.slice A9 (Sp.norm (rs ++ L2)).length c9)).setCell ⟨w.heap.size + 1, 2, none⟩ (.slice A10 (Sp.norm L3).length c10))) := ((XF9.out.setCell (p := ⟨w.heap.size + 1, 0, none⟩) (by show w.heap.size ≤ w.heap.size + 1; omega) _).setCell (p := ⟨w.heap.size + 1, 1, none⟩) (by show w.heap.size ≤ w.heap.size + 1; omega) _).setCell (p := ⟨w.heap.size + 1, 2, none⟩) (by show w.heap.size ≤ w.heap.size + 1; omega) _
      clear S9 h70 r89 r59 r9 XF9
      go_wp2_with fail
      refine ⟨SE.out, ?_⟩
      refine held_done (by kernel_rfl) ?_ _
      go_wp2
      refine bodyPost_ret (results_row rfl _ _ (w.heap.size + 1) [.slice A6 rg.length c6, .slice A9 (Sp.norm (rs ++ L2)).length c9, .slice A10 (Sp.norm L3).length c10] rfl hB.out rfl) rfl ?_
      rw [HG.out.1, HG.out.2.1, HG.out.2.2.1, HG.out.2.2.2, HM.out]
      exact ⟨A6, c6, A9, c9, A10, c10, rfl, ⟨q1.out, q2.out, q3.out⟩, XE.out⟩

set_option maxRecDepth 100000 in
set_option maxHeartbeats 1000000 in
theorem rOverNo (cs : List Value) (hcs : cs.length = 23) (l : List Sp.S) (A : Option Addr) (c : Nat) (n : Int) (w : World) (kC : ∀ W, Ext w W → Calls Tryz.prog 40 #[.agg cs.toArray] W (RetB W false)) :
    Calls Tryz.prog 51 #[.agg cs.toArray, .slice A l.length c, .int .i64 n] w fun e w' => e = .returned (.agg #[.slice none 0 0, .slice none 0 0, .slice none 0 0]) ∧ Ext w w' := by
  have hi := Lib.hid (su_size hcs)
  have hs0 := (Bx.new w cs 30).alloc (.cells #[.slice none 0 0, .slice none 0 0, .slice none 0 0] 74)
  have h60 := Bx.new_at (w.alloc (.cells cs.toArray 30)) [.slice none 0 0, .slice none 0 0, .slice none 0 0] 74 (w.heap.size + 1) (by simp)
  have X0 := ((Ext.refl w).alloc (.cells cs.toArray 30)).alloc (.cells #[.slice none 0 0, .slice none 0 0, .slice none 0 0] 74)
  replace kC := Lib.hid kC; replace h60 := Lib.hid h60
  clear hcs
  go_enter Tryz.func51, Tryz.ntmps51
  go_wp2_with (first | (refine load_box rfl 30 _ rfl _ rfl _ _ hs0 _ Tryz.underlying30 rfl hi.out ?_))
  refine (kC.out _ X0).mono ?_
  rintro _ w1 ⟨rfl, x1⟩
  have h6 := Lib.hid (h60.out.ext x1)
  have X1 := X0.trans x1
  have f0 := h6.out.cell 0 _ rfl; have f1 := h6.out.cell 1 _ rfl; have f2 := h6.out.cell 2 _ rfl
  have g0 := h6.out.frozen 0; have g1 := h6.out.frozen 1; have g2 := h6.out.frozen 2
  have hB := Lib.hid (((h6.out.set_ 0 (.slice none 0 0)).set_ 1 (.slice none 0 0)).set_ 2 (.slice none 0 0))
  have XE := Lib.hid (((X1.setCell (p := ⟨w.heap.size + 1, 0, none⟩) (by show w.heap.size ≤ w.heap.size + 1; omega) (.slice none 0 0)).setCell (p := ⟨w.heap.size + 1, 1, none⟩) (by show w.heap.size ≤ w.heap.size + 1; omega) (.slice none 0 0)).setCell (p := ⟨w.heap.size + 1, 2, none⟩) (by show w.heap.size ≤ w.heap.size + 1; omega) (.slice none 0 0))
  clear hs0 h60 X0 x1 X1 h6 hi kC
  go_wp2
  refine bodyPost_ret (results_row rfl _ _ (w.heap.size + 1) [.slice none 0 0, .slice none 0 0, .slice none 0 0] rfl hB.out rfl) rfl ?_
  exact ⟨rfl, XE.out⟩
theorem pROver {s : Su} {g : Sh} (ok : SuOk s) {w : World} (r : SuR w s g) {A : Option Addr} {l : List Sp.S} (h : Rs w A l) (hl : l.length ≤ 90000) (c : Nat) (n : Int) :
    Calls Tryz.prog 51 #[.agg (s.cells g).toArray, .slice A l.length c, .int .i64 n] w (fun e w' => ∃ A1 c1 A2 c2 A3 c3, e = .returned (.agg #[.slice A1 (oR s l n).length c1, .slice A2 (oO s l n).length c2, .slice A3 (oD s l n).length c3]) ∧ (Rs w' A1 (oR s l n) ∧ Rs w' A2 (oO s l n) ∧ Rs w' A3 (oD s l n)) ∧ Ext w w') := by
  have kC : ∀ W, Ext w W → Calls Tryz.prog 40 #[.agg (s.cells g).toArray] W (RetB W (chk s)) := fun W X => pRChk ok (r.ext X)
  cases hc : chk s
  · rw [hc] at kC
    rw [(o_no hc l n).1, (o_no hc l n).2.1, (o_no hc l n).2.2]
    refine (rOverNo (s.cells g) rfl l A c n w kC).mono ?_
    rintro _ w' ⟨rfl, X⟩
    exact ⟨none, 0, none, 0, none, 0, rfl, ⟨Rs.nil, Rs.nil, Rs.nil⟩, X⟩
  · rw [hc] at kC
    have hb := chk_times hc
    have e := o_yes hc l n
    have k := rOverA (s.cells g) rfl s.dreg s.dover s.wreg rfl rfl rfl (by omega) (by omega) ok.wreg l hl A c n w h kC
    rw [ref_reg, ref_over _ _ (show s.dreg ≤ s.dover by omega), ref_double] at k
    rw [e.1, e.2.1, e.2.2]
    exact k
end Go.Proofs.YtnhmibfgaoealaaGreat
