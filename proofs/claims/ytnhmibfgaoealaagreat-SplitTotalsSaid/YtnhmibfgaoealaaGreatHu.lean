/-
  lumperref17.Parts by contract.
  awake of lumperlaw17; arrays compared.
-/
import Derived.Test.YtnhmibfgaoealaaGreatHw
import Derived.ChangeKeysEq
namespace Go.Proofs.YtnhmibfgaoealaaGreat
open Go.RowKit BigFrame
set_option linter.unusedVariables false
set_option linter.unusedSimpArgs false

theorem rAdd' {cat : Int} {w : World} {A1 A2 : Option Addr} {o : List Pt} {l : List Sp.S} (O : List Pt) (hO : addP o (tag cat l) = O) (h1 : Ps w A1 o) (h2 : Rs w A2 l) (bo : o.length ≤ 10000000) (bl : l.length ≤ 10000000) (c1 c2 : Nat) (hc1 : o.length ≤ c1) :
    Calls Tryz.prog 54 #[.slice A1 o.length c1, .slice A2 l.length c2, .int .i64 cat] w (fun e w' => ∃ A c, O.length ≤ c ∧ e = .returned (.slice A O.length c) ∧ Ps w' A O ∧ Ext w w') := by
  subst hO
  exact rAdd h1 h2 bo bl c1 c2 hc1 cat

set_option maxRecDepth 100000 in
set_option maxHeartbeats 1000000 in
theorem rPartsNo (cs : List Value) (hcs : cs.length = 23) (A : Option Addr) (len c : Nat) (n : Int) (w : World) (kC : ∀ W, Ext w W → Calls Tryz.prog 40 #[.agg cs.toArray] W (RetB W false)) :
    Calls Tryz.prog 19 #[.agg cs.toArray, .slice A len c, .int .i64 n] w fun e w' => e = .returned (.slice none 0 0) ∧ Ext w w' := by
  have hi := Lib.hid (su_size hcs)
  have hs0 := Bx.new w cs 30
  have X0 := (Ext.refl w).alloc (.cells cs.toArray 30)
  replace kC := Lib.hid kC
  clear hcs
  go_enter Tryz.func19, Tryz.ntmps19
  go_wp2_with (first | (refine load_box rfl 30 _ rfl _ rfl _ _ hs0 _ Tryz.underlying30 rfl hi.out ?_))
  refine (kC.out _ X0).mono ?_
  rintro e w1 ⟨rfl, x1⟩
  go_wp2
  go_ret
  exact ⟨rfl, X0.trans x1⟩

def refAll (N R O D dk : List Sp.S) : List Pt := addP (addP (addP (addP (addP (addP (addP [] (tag 0 N)) (tag 1 (Sp.minus R dk))) (tag 2 (Sp.minus O dk))) (tag 3 (Sp.minus D dk))) (tag 4 (Sp.and_ R dk))) (tag 5 (Sp.and_ O dk))) (tag 6 (Sp.and_ D dk))
set_option maxRecDepth 100000 in
set_option maxHeartbeats 8000000 in
theorem rPartsYes (cs : List Value) (hcs : cs.length = 23) (l : List SegL) (A : Option Addr) (c : Nat) (n : Int) (P N R O D dk : List Sp.S) (w : World) (h : Rg w A l)
    (kC : ∀ W, Ext w W → Calls Tryz.prog 40 #[.agg cs.toArray] W (RetB W true))
    (kP : ∀ W, Ext w W → Rg W A l → Calls Tryz.prog 12 #[.agg cs.toArray, .slice A l.length c] W (Ret2R W P N))
    (kO : ∀ W, Ext w W → ∀ A c, Rs W A P → Calls Tryz.prog 51 #[.agg cs.toArray, .slice A P.length c, .int .i64 n] W (fun e w' => ∃ A1 c1 A2 c2 A3 c3, e = .returned (.agg #[.slice A1 R.length c1, .slice A2 O.length c2, .slice A3 D.length c3]) ∧ (Rs w' A1 R ∧ Rs w' A2 O ∧ Rs w' A3 D) ∧ Ext W w'))
    (kN : ∀ W, Ext w W → ∀ A c, Rs W A (partS P n 604800) → Calls Tryz.prog 52 #[.agg cs.toArray, .slice A (partS P n 604800).length c] W (fun e w' => ∃ A c, e = .returned (.slice A dk.length c) ∧ Rs w' A dk ∧ Ext W w'))
    (bP : P.length ≤ 90000) (bN : N.length ≤ 90000) (bR : R.length ≤ 190000) (bO : O.length ≤ 190000) (bD : D.length ≤ 190000) (bd : dk.length ≤ 100000) :
    Calls Tryz.prog 19 #[.agg cs.toArray, .slice A l.length c, .int .i64 n] w (RetPs w (refAll (partS N n 604800) R O D dk)) := by
  have bNn := partS_len N n 604800
  have kW := fun W (A0 : Option Addr) (c0 : Nat) (hr : Rs W A0 N) => rOfWeek hr (by omega) c0 n
  have kV := fun W (A0 : Option Addr) (c0 : Nat) (hr : Rs W A0 P) => rOfWeek hr (by omega) c0 n
  obtain ⟨RR, hRR⟩ : ∃ RR, refAll (partS N n 604800) R O D dk = RR := ⟨_, rfl⟩
  rw [hRR]
  unfold refAll at hRR
  obtain ⟨PW, hPW⟩ : ∃ PW, partS P n 604800 = PW := ⟨_, rfl⟩
  rw [hPW] at kN kV
  clear hPW
  obtain ⟨L0, hL0⟩ : ∃ L, partS N n 604800 = L := ⟨_, rfl⟩
  rw [hL0] at bNn kW hRR
  have lb0 : L0.length ≤ 400000 := by omega
  clear bNn
  have k1 := fun W (A1 A2 : Option Addr) (c1 c2 : Nat) (r1 : Rs W A1 R) (r2 : Rs W A2 dk) => rMinus r1 r2 (by omega) (by omega) c1 c2
  have b1 := minus_le R dk
  obtain ⟨L1, hL1⟩ : ∃ L, Sp.minus R dk = L := ⟨_, rfl⟩
  rw [hL1] at k1 b1 hRR
  have lb1 : L1.length ≤ 400000 := by omega
  clear b1
  replace k1 := Lib.hid k1
  have k2 := fun W (A1 A2 : Option Addr) (c1 c2 : Nat) (r1 : Rs W A1 O) (r2 : Rs W A2 dk) => rMinus r1 r2 (by omega) (by omega) c1 c2
  have b2 := minus_le O dk
  obtain ⟨L2, hL2⟩ : ∃ L, Sp.minus O dk = L := ⟨_, rfl⟩
  rw [hL2] at k2 b2 hRR
  have lb2 : L2.length ≤ 400000 := by omega
  clear b2
  replace k2 := Lib.hid k2
  have k3 := fun W (A1 A2 : Option Addr) (c1 c2 : Nat) (r1 : Rs W A1 D) (r2 : Rs W A2 dk) => rMinus r1 r2 (by omega) (by omega) c1 c2
  have b3 := minus_le D dk
  obtain ⟨L3, hL3⟩ : ∃ L, Sp.minus D dk = L := ⟨_, rfl⟩
  rw [hL3] at k3 b3 hRR
  have lb3 : L3.length ≤ 400000 := by omega
  clear b3
  replace k3 := Lib.hid k3
  have k4 := fun W (A1 A2 : Option Addr) (c1 c2 : Nat) (r1 : Rs W A1 R) (r2 : Rs W A2 dk) => rAnd r1 r2 (by omega) (by omega) c1 c2
  have b4 := and_len R dk
  obtain ⟨L4, hL4⟩ : ∃ L, Sp.and_ R dk = L := ⟨_, rfl⟩
  rw [hL4] at k4 b4 hRR
  have lb4 : L4.length ≤ 400000 := by omega
  clear b4
  replace k4 := Lib.hid k4
  have k5 := fun W (A1 A2 : Option Addr) (c1 c2 : Nat) (r1 : Rs W A1 O) (r2 : Rs W A2 dk) => rAnd r1 r2 (by omega) (by omega) c1 c2
  have b5 := and_len O dk
  obtain ⟨L5, hL5⟩ : ∃ L, Sp.and_ O dk = L := ⟨_, rfl⟩
  rw [hL5] at k5 b5 hRR
  have lb5 : L5.length ≤ 400000 := by omega
  clear b5
  replace k5 := Lib.hid k5
  have k6 := fun W (A1 A2 : Option Addr) (c1 c2 : Nat) (r1 : Rs W A1 D) (r2 : Rs W A2 dk) => rAnd r1 r2 (by omega) (by omega) c1 c2
  have b6 := and_len D dk
  obtain ⟨L6, hL6⟩ : ∃ L, Sp.and_ D dk = L := ⟨_, rfl⟩
  rw [hL6] at k6 b6 hRR
  have lb6 : L6.length ≤ 400000 := by omega
  clear b6
  replace k6 := Lib.hid k6
  obtain ⟨Q0, hQ0⟩ : ∃ Q, addP ([] : List Pt) (tag 0 L0) = Q := ⟨_, rfl⟩
  rw [hQ0] at hRR
  have q0 : Q0.length = 0 + L0.length := by rw [← hQ0, addP_len, tag_len]; rfl
  have B0' : Q0.length ≤ 400000 := by rw [q0]; exact Nat.le_trans (Nat.add_le_add (Nat.le_refl 0) lb0) (by decide)
  replace hQ0 := Lib.hid hQ0
  obtain ⟨Q1, hQ1⟩ : ∃ Q, addP Q0 (tag 1 L1) = Q := ⟨_, rfl⟩
  rw [hQ1] at hRR
  have q1 : Q1.length = Q0.length + L1.length := by rw [← hQ1, addP_len, tag_len]
  have B1' : Q1.length ≤ 800000 := by rw [q1]; exact Nat.le_trans (Nat.add_le_add B0' lb1) (by decide)
  replace hQ1 := Lib.hid hQ1
  obtain ⟨Q2, hQ2⟩ : ∃ Q, addP Q1 (tag 2 L2) = Q := ⟨_, rfl⟩
  rw [hQ2] at hRR
  have q2 : Q2.length = Q1.length + L2.length := by rw [← hQ2, addP_len, tag_len]
  have B2' : Q2.length ≤ 1200000 := by rw [q2]; exact Nat.le_trans (Nat.add_le_add B1' lb2) (by decide)
  replace hQ2 := Lib.hid hQ2
  obtain ⟨Q3, hQ3⟩ : ∃ Q, addP Q2 (tag 3 L3) = Q := ⟨_, rfl⟩
  rw [hQ3] at hRR
  have q3 : Q3.length = Q2.length + L3.length := by rw [← hQ3, addP_len, tag_len]
  have B3' : Q3.length ≤ 1600000 := by rw [q3]; exact Nat.le_trans (Nat.add_le_add B2' lb3) (by decide)
  replace hQ3 := Lib.hid hQ3
  obtain ⟨Q4, hQ4⟩ : ∃ Q, addP Q3 (tag 4 L4) = Q := ⟨_, rfl⟩
  rw [hQ4] at hRR
  have q4 : Q4.length = Q3.length + L4.length := by rw [← hQ4, addP_len, tag_len]
  have B4' : Q4.length ≤ 2000000 := by rw [q4]; exact Nat.le_trans (Nat.add_le_add B3' lb4) (by decide)
  replace hQ4 := Lib.hid hQ4
  obtain ⟨Q5, hQ5⟩ : ∃ Q, addP Q4 (tag 5 L5) = Q := ⟨_, rfl⟩
  rw [hQ5] at hRR
  have q5 : Q5.length = Q4.length + L5.length := by rw [← hQ5, addP_len, tag_len]
  have B5' : Q5.length ≤ 2400000 := by rw [q5]; exact Nat.le_trans (Nat.add_le_add B4' lb5) (by decide)
  replace hQ5 := Lib.hid hQ5
  obtain ⟨Q6, hQ6⟩ : ∃ Q, addP Q5 (tag 6 L6) = Q := ⟨_, rfl⟩
  rw [hQ6] at hRR
  have q6 : Q6.length = Q5.length + L6.length := by rw [← hQ6, addP_len, tag_len]
  have B6' : Q6.length ≤ 2800000 := by rw [q6]; exact Nat.le_trans (Nat.add_le_add B5' lb6) (by decide)
  replace hQ6 := Lib.hid hQ6
  subst hRR
  clear q0 q1 q2 q3 q4 q5 q6
  clear hL0 hL1 hL2 hL3 hL4 hL5 hL6
  have hi := Lib.hid (su_size hcs)
  have hs0 := Bx.new w cs 30
  have X0 := (Ext.refl w).alloc (.cells cs.toArray 30)
  have h0 := h.alloc (.cells cs.toArray 30)
  replace kC := Lib.hid kC; replace kP := Lib.hid kP; replace kO := Lib.hid kO; replace kN := Lib.hid kN; replace kW := Lib.hid kW; replace kV := Lib.hid kV
  clear hcs h
  go_enter Tryz.func19, Tryz.ntmps19
  go_wp2_with (first | (refine load_box rfl 30 _ rfl _ rfl _ _ hs0 _ Tryz.underlying30 rfl hi.out ?_))
  refine (kC.out _ X0).mono ?_
  rintro e w1 ⟨rfl, x1⟩
  have hs1 := hs0.ext x1; have h1 := h0.ext x1; have X1 := X0.trans x1
  clear hs0 h0 X0 x1 kC
  go_wp2_with (first | (refine load_box rfl 30 _ rfl _ rfl _ _ hs1 _ Tryz.underlying30 rfl hi.out ?_))
  refine (kP.out _ X1 h1).mono ?_
  rintro e w2 ⟨A2, c2, B2, d2, rfl, ⟨r2, t2⟩, x2, _⟩
  have hs2 := hs1.ext x2; have X2 := X1.trans x2
  clear hs1 h1 X1 x2 kP
  go_wp2_with (first | (refine load_box rfl 30 _ rfl _ rfl _ _ hs2 _ Tryz.underlying30 rfl hi.out ?_))
  refine (kO.out _ X2 _ _ r2).mono ?_
  rintro e w3 ⟨A3, c3, A4, c4, A5, c5, rfl, ⟨r3, r4, r5⟩, x3⟩
  obtain ⟨w4, hw4⟩ : ∃ W, W = w3.alloc (.cells #[.slice A3 R.length c3, .slice A4 O.length c4, .slice A5 D.length c5] 74) := ⟨_, rfl⟩
  have XA : Ext w3 w4 := by rw [hw4]; exact (Ext.refl w3).alloc _
  have hT := Lib.hid (show Bx w4 w3.heap.size [.slice A3 R.length c3, .slice A4 O.length c4, .slice A5 D.length c5] 74 from by rw [hw4]; exact Bx.new w3 [.slice A3 R.length c3, .slice A4 O.length c4, .slice A5 D.length c5] 74)
  have hs4 := Lib.hid ((hs2.ext x3).ext XA); have X4 := (X2.trans x3).trans XA; have s4 := Lib.hid ((t2.ext x3).ext XA)
  have p4 := Lib.hid ((r2.ext x3).ext XA)
  have HR4 := Lib.hid (r3.ext XA); have HO4 := Lib.hid (r4.ext XA); have HD4 := Lib.hid (r5.ext XA)
  clear hs2 X2 x3 XA r2 t2 r3 r4 r5 kO
  go_wp2_with fail
  rw [← hw4]
  replace hw4 := Lib.hid hw4
  have HS : Hid (Bx (w4.drewN 1) w.heap.size cs 30) := hs4.out.drewN 1
  refine held_start (S := fun W => Bx W w.heap.size cs 30) 6 rfl (by kernel_rfl) ?_
  refine held_box (i := 0) rfl (by kernel_rfl) (by kernel_rfl) (by kernel_rfl) rfl 30 _ rfl _ rfl cs 30 (fun w h => h) _ Tryz.underlying30 rfl hi.out HS.out _ (by simp [Act.put]; rfl) ?_
  refine held_move (i := 1) rfl (by kernel_rfl) (by kernel_rfl) (by kernel_rfl) _ rfl rfl HS.out _ (by simp [Act.put]; rfl) ?_
  refine held_move (i := 2) rfl (by kernel_rfl) (by kernel_rfl) (by kernel_rfl) _ rfl rfl HS.out _ (by simp [Act.put]; rfl) ?_
  refine held_all (i := 3) rfl (by kernel_rfl) rfl ?_
  go_wp2_with fail
  refine (kV.out _ _ _ (p4.out.drewN 1)).mono ?_
  rintro e y1 ⟨a1, e1, rfl, u1, x1, _⟩
  have HS1 := Lib.hid (HS.out.ext x1)
  have XX1 := Lib.hid (((Ext.refl w4).drewN 1).trans x1)
  refine ⟨HS1.out, ?_⟩
  refine held_all (i := 4) rfl (by kernel_rfl) rfl ?_
  have kNx := Lib.hid (kN.out _ (X4.trans XX1.out) _ e1 u1)
  clear u1 x1 kN kV
  go_wp2_with fail
  refine kNx.out.mono ?_
  rintro e y2 ⟨a2, e2, rfl, u2, x2⟩
  have HS2 := Lib.hid (HS1.out.ext x2)
  have XX2 := Lib.hid (XX1.out.trans x2)
  have U2 := Lib.hid u2
  refine ⟨HS2.out, ?_⟩
  refine held_assign (i := 5) rfl (by kernel_rfl) (by kernel_rfl) (by kernel_rfl) _ rfl rfl HS2.out _ (by simp [Act.put]; rfl) ?_
  refine held_done (by kernel_rfl) ?_ _
  have X5 := X4.trans XX2.out
  have hT5 := hT.out.ext XX2.out; have s5 := s4.out.ext XX2.out
  have HR5 := HR4.out.ext XX2.out; have HO5 := HO4.out.ext XX2.out; have HD5 := HD4.out.ext XX2.out
  have dk5 := U2.out
  clear kNx u2 x2 HS HS1 HS2 X4 hT s4 HR4 HO4 HD4 XX1 XX2 U2 hs4 p4
  go_wp2_with fail
  refine (kW.out _ _ _ s5).mono ?_
  rintro e v1 ⟨A6, c6, rfl, r6, x6, _⟩
  have X6 := X5.trans x6
  have hT6 := hT5.ext x6; have HR6 := HR5.ext x6; have HO6 := HO5.ext x6; have HD6 := HD5.ext x6; have dk6 := dk5.ext x6
  clear X5 hT5 s5 HR5 HO5 HD5 dk5 x6 kW
  go_wp2_with fail
  refine (rAdd' (cat := 0) Q0 hQ0.out (Ps.nil (A := none)) r6 (by simp) (Nat.le_trans lb0 (by decide)) 0 c6 (by simp)).mono ?_
  rintro e z0 ⟨B0, f0, g0, rfl, o0, x0⟩
  have X7 := X6.trans x0
  have hT7 := Lib.hid (hT6.ext x0); have HR7 := Lib.hid (HR6.ext x0); have HO7 := Lib.hid (HO6.ext x0); have HD7 := Lib.hid (HD6.ext x0); have dk7 := Lib.hid (dk6.ext x0)
  clear X6 hT6 HR6 HO6 HD6 dk6 x0 r6
  have ce1 := hT7.out.cell 0 _ rfl
  have kk1 := Lib.hid (k1.out _ A3 a2 c3 e2 HR7.out dk7.out)
  clear k1
  go_wp2_with fail
  refine kk1.out.mono ?_
  rintro e y1 ⟨m1, n1, rfl, r1, x1, _⟩
  have ad1 := Lib.hid (rAdd' (cat := 1) Q1 hQ1.out (o0.ext x1) r1 (Nat.le_trans B0' (by decide)) (Nat.le_trans lb1 (by decide)) f0 n1 g0)
  clear kk1 ce1
  go_wp2_with fail
  refine ad1.out.mono ?_
  rintro e z1 ⟨B1, f1, g1, rfl, o1, x1'⟩
  have X8 := X7.trans (x1.trans x1')
  have hT8 := Lib.hid (hT7.out.ext (x1.trans x1')); have HR8 := Lib.hid (HR7.out.ext (x1.trans x1')); have HO8 := Lib.hid (HO7.out.ext (x1.trans x1')); have HD8 := Lib.hid (HD7.out.ext (x1.trans x1')); have dk8 := Lib.hid (dk7.out.ext (x1.trans x1'))
  clear hT7 HR7 HO7 HD7 dk7 X7 x1 x1' r1 o0 ad1
  have ce2 := hT8.out.cell 1 _ rfl
  have kk2 := Lib.hid (k2.out _ A4 a2 c4 e2 HO8.out dk8.out)
  clear k2
  go_wp2_with fail
  refine kk2.out.mono ?_
  rintro e y2 ⟨m2, n2, rfl, r2, x2, _⟩
  have ad2 := Lib.hid (rAdd' (cat := 2) Q2 hQ2.out (o1.ext x2) r2 (Nat.le_trans B1' (by decide)) (Nat.le_trans lb2 (by decide)) f1 n2 g1)
  clear kk2 ce2
  go_wp2_with fail
  refine ad2.out.mono ?_
  rintro e z2 ⟨B2, f2, g2, rfl, o2, x2'⟩
  have X9 := X8.trans (x2.trans x2')
  have hT9 := Lib.hid (hT8.out.ext (x2.trans x2')); have HR9 := Lib.hid (HR8.out.ext (x2.trans x2')); have HO9 := Lib.hid (HO8.out.ext (x2.trans x2')); have HD9 := Lib.hid (HD8.out.ext (x2.trans x2')); have dk9 := Lib.hid (dk8.out.ext (x2.trans x2'))
  clear hT8 HR8 HO8 HD8 dk8 X8 x2 x2' r2 o1 ad2
  have ce3 := hT9.out.cell 2 _ rfl
  have kk3 := Lib.hid (k3.out _ A5 a2 c5 e2 HD9.out dk9.out)
  clear k3
  go_wp2_with fail
  refine kk3.out.mono ?_
  rintro e y3 ⟨m3, n3, rfl, r3, x3, _⟩
  have ad3 := Lib.hid (rAdd' (cat := 3) Q3 hQ3.out (o2.ext x3) r3 (Nat.le_trans B2' (by decide)) (Nat.le_trans lb3 (by decide)) f2 n3 g2)
  clear kk3 ce3
  go_wp2_with fail
  refine ad3.out.mono ?_
  rintro e z3 ⟨B3, f3, g3, rfl, o3, x3'⟩
  have X10 := X9.trans (x3.trans x3')
  have hT10 := Lib.hid (hT9.out.ext (x3.trans x3')); have HR10 := Lib.hid (HR9.out.ext (x3.trans x3')); have HO10 := Lib.hid (HO9.out.ext (x3.trans x3')); have HD10 := Lib.hid (HD9.out.ext (x3.trans x3')); have dk10 := Lib.hid (dk9.out.ext (x3.trans x3'))
  clear hT9 HR9 HO9 HD9 dk9 X9 x3 x3' r3 o2 ad3
  have ce4 := hT10.out.cell 0 _ rfl
  have kk4 := Lib.hid (k4.out _ A3 a2 c3 e2 HR10.out dk10.out)
  clear k4
  go_wp2_with fail
  refine kk4.out.mono ?_
  rintro e y4 ⟨m4, n4, rfl, r4, x4, _⟩
  have ad4 := Lib.hid (rAdd' (cat := 4) Q4 hQ4.out (o3.ext x4) r4 (Nat.le_trans B3' (by decide)) (Nat.le_trans lb4 (by decide)) f3 n4 g3)
  clear kk4 ce4
  go_wp2_with fail
  refine ad4.out.mono ?_
  rintro e z4 ⟨B4, f4, g4, rfl, o4, x4'⟩
  have X11 := X10.trans (x4.trans x4')
  have hT11 := Lib.hid (hT10.out.ext (x4.trans x4')); have HR11 := Lib.hid (HR10.out.ext (x4.trans x4')); have HO11 := Lib.hid (HO10.out.ext (x4.trans x4')); have HD11 := Lib.hid (HD10.out.ext (x4.trans x4')); have dk11 := Lib.hid (dk10.out.ext (x4.trans x4'))
  clear hT10 HR10 HO10 HD10 dk10 X10 x4 x4' r4 o3 ad4
  have ce5 := hT11.out.cell 1 _ rfl
  have kk5 := Lib.hid (k5.out _ A4 a2 c4 e2 HO11.out dk11.out)
  clear k5
  go_wp2_with fail
  refine kk5.out.mono ?_
  rintro e y5 ⟨m5, n5, rfl, r5, x5, _⟩
  have ad5 := Lib.hid (rAdd' (cat := 5) Q5 hQ5.out (o4.ext x5) r5 (Nat.le_trans B4' (by decide)) (Nat.le_trans lb5 (by decide)) f4 n5 g4)
  clear kk5 ce5
  go_wp2_with fail
  refine ad5.out.mono ?_
  rintro e z5 ⟨B5, f5, g5, rfl, o5, x5'⟩
  have X12 := X11.trans (x5.trans x5')
  have hT12 := Lib.hid (hT11.out.ext (x5.trans x5')); have HR12 := Lib.hid (HR11.out.ext (x5.trans x5')); have HO12 := Lib.hid (HO11.out.ext (x5.trans x5')); have HD12 := Lib.hid (HD11.out.ext (x5.trans x5')); have dk12 := Lib.hid (dk11.out.ext (x5.trans x5'))
  clear hT11 HR11 HO11 HD11 dk11 X11 x5 x5' r5 o4 ad5
  have ce6 := hT12.out.cell 2 _ rfl
  have kk6 := Lib.hid (k6.out _ A5 a2 c5 e2 HD12.out dk12.out)
  clear k6
  go_wp2_with fail
  refine kk6.out.mono ?_
  rintro e y6 ⟨m6, n6, rfl, r6, x6, _⟩
  have ad6 := Lib.hid (rAdd' (cat := 6) Q6 hQ6.out (o5.ext x6) r6 (Nat.le_trans B5' (by decide)) (Nat.le_trans lb6 (by decide)) f5 n6 g5)
  clear kk6 ce6
  go_wp2_with fail
  refine ad6.out.mono ?_
  rintro e z6 ⟨B6, f6, g6, rfl, o6, x6'⟩
  have X13 := X12.trans (x6.trans x6')
  go_wp2
  go_ret
  exact ⟨B6, f6, rfl, o6, X13⟩

theorem refAll_parts {s : Su} (hc : chk s = true) (l : List SegL) (n : Int) : refAll (partS (notAll s l) n 604800) (oR s (paidAll s l) n) (oO s (paidAll s l) n) (oD s (paidAll s l) n) (nightS s (partS (paidAll s l) n 604800)) = partsS s l n := by
  have e := o_yes hc (paidAll s l) n
  have nn : ∀ x, nightS s x = nightOf s.nfrom s.nto x := fun x => by unfold nightS; exact if_pos hc
  have hn := chk_nt hc
  rw [partsS_yes hc, cls_eq, e.1, e.2.1, e.2.2, nn, (paidAll_yes hc l).1, (paidAll_yes hc l).2]
  have dR := ref_day (F := s.nfrom) (T := s.nto) hn (l := overR (partS (allPaid s.paid s.after s.auto l) n 604800) s.dreg s.wreg) (A := partS (allPaid s.paid s.after s.auto l) n 604800) fun t h => (overR_sub h).2.1
  have dO := ref_day (F := s.nfrom) (T := s.nto) hn (l := overO (partS (allPaid s.paid s.after s.auto l) n 604800) s.dreg s.dover s.wreg) (A := partS (allPaid s.paid s.after s.auto l) n 604800) fun t h => (over_A h).2.1
  have dD := ref_day (F := s.nfrom) (T := s.nto) hn (l := overD (partS (allPaid s.paid s.after s.auto l) n 604800) s.dover) (A := partS (allPaid s.paid s.after s.auto l) n 604800) fun t h => (double_A h).2.1
  unfold refAll addAll
  rw [dR.1, dR.2, dO.1, dO.2, dD.1, dD.2]
  simp [catL]
theorem pRParts {s : Su} {g : Sh} (ok : SuOk s) {w : World} (r : SuR w s g) {A : Option Addr} {l : List SegL} (h : Rg w A l) (hl : l.length ≤ 30) (c : Nat) (n : Int) :
    Calls Tryz.prog 19 #[.agg (s.cells g).toArray, .slice A l.length c, .int .i64 n] w (RetPs w (partsS s l n)) := by
  have kC : ∀ W, Ext w W → Calls Tryz.prog 40 #[.agg (s.cells g).toArray] W (RetB W (chk s)) := fun W X => pRChk ok (r.ext X)
  cases hc : chk s
  · rw [hc] at kC
    rw [partsS_no hc]
    refine (rPartsNo (s.cells g) rfl A l.length c n w kC).mono ?_
    rintro e w' ⟨rfl, X⟩
    exact ⟨none, 0, rfl, Ps.nil, X⟩
  · rw [hc] at kC
    have hL := all_lens30 s l hl
    have hO := oLens30 s l hl n
    have hP := partS_len (paidAll s l) n 604800
    have hd := hO.2 (partS (paidAll s l) n 604800)
    rw [← refAll_parts hc l n]
    exact rPartsYes (s.cells g) rfl l A c n (paidAll s l) (notAll s l) _ _ _ _ w h kC (fun W X h => pRPaid ok (r.ext X) h (by omega) c) (fun W X A c hr => pROver ok (r.ext X) hr (by omega) c n) (fun W X A c hr => (pRNight ok (r.ext X) hr (by omega) c).mono fun e w' hh => by obtain ⟨A', c', h1, h2, h3⟩ := hh; exact ⟨A', c', h1, h2, h3⟩) hL.1 hL.2 hO.1.1 hO.1.2.1 hO.1.2.2 (by omega)
end Go.Proofs.YtnhmibfgaoealaaGreat
namespace Go.Proofs.YtnhmibfgaoealaaGreat
open Go.RowKit BigFrame
set_option linter.unusedVariables false
set_option linter.unusedSimpArgs false

theorem eqlA (a0 a1 a2 a3 a4 a5 a6 : Int) (w : World) : (binOp .eql 43 (.agg #[.int .i64 a0, .int .i64 a1, .int .i64 a2, .int .i64 a3, .int .i64 a4, .int .i64 a5, .int .i64 a6]) (.agg #[.int .i64 a0, .int .i64 a1, .int .i64 a2, .int .i64 a3, .int .i64 a4, .int .i64 a5, .int .i64 a6])).run Tryz.prog w = .ok (.bool true) w := by
  have u3 := Tryz.underlying3
  have a3 := Tryz.isAgg3
  have z3 := Tryz.sizeOf3
  have hc : Tryz.prog.cellsOf 3 = 1 := by kernel_rfl
  have hu : Tryz.prog.underlying 43 = some (.array 7 3) := by kernel_rfl
  cases hi : Tryz.prog.info? 3 with
  | none =>
    have : (Tryz.prog.info? 3).isSome = true := by kernel_rfl
    rw [hi] at this; cases this
  | some i =>
    rw [run_eql_struct, show (10000 : Nat) = 9999 + 1 from rfl, run_equalIn_array w 9999 _ _ hu hi, hc, show List.range 7 = [0, 1, 2, 3, 4, 5, 6] from rfl]
    clear hi hu
    simp only [Op.eqItems]
    go_simp
theorem eqGuardA : Tryz.prog.eqGuardType Tryz.prog.depth 43 = false := by kernel_rfl

def s17 : Su := { awS with after := 86400, dreg := 7300, dover := 43200, wreg := 604800, nfrom := 79200, nto := 86400 }
def L17 : List SegL := [⟨72000, 86400, 0, 0, 0⟩, ⟨86000, 86400, 3, 0, 0⟩]
def M17 : List SegL := [⟨72000, 86400, 0, 0, 0⟩]
def P17 : List Pt := [((72000, 79200), 1), ((79200, 79300), 4), ((79300, 86000), 5), ((86000, 86400), 0)]
theorem ok17 : SuOk s17 := by
  have b : ∀ n : Int, 0 ≤ n ∧ n ≤ 1000000 → B64 n := fun _ h => b64_small h
  refine ⟨b _ ?_, b _ ?_, b _ ?_, b _ ?_, b _ ?_, b _ ?_, b _ ?_, b _ ?_, b _ ?_, b _ ?_, b _ ?_, b _ ?_, b _ ?_, b _ ?_, b _ ?_, ⟨b _ ?_, b _ ?_⟩, ⟨by decide, by simp [awS, s17]⟩, ⟨by decide, by simp [awS, s17]⟩, ⟨by decide, by simp [awS, s17]⟩, ⟨by decide, by simp [awS, s17]⟩, ⟨by decide, by simp [awS, s17]; exact b64_small (by omega)⟩, ⟨by decide, by simp [awS, s17]⟩⟩ <;> decide
theorem fw17 : SuFew s17 := by unfold SuFew; decide
theorem chk17 : chk s17 = true := by decide +kernel
theorem v17 : partsS s17 L17 0 = P17 := by
  rw [partsS_yes chk17, cls_eq]
  decide +kernel
theorem t17 : totC P17 7 = [.int .i64 400, .int .i64 7200, .int .i64 0, .int .i64 0, .int .i64 100, .int .i64 6700, .int .i64 0] := by
  have h : totN P17 7 0 = 400 ∧ totN P17 7 1 = 7200 ∧ totN P17 7 2 = 0 ∧ totN P17 7 3 = 0 ∧ totN P17 7 4 = 100 ∧ totN P17 7 5 = 6700 ∧ totN P17 7 6 = 0 := by decide +kernel
  unfold totC
  rw [h.1, h.2.1, h.2.2.1, h.2.2.2.1, h.2.2.2.2.1, h.2.2.2.2.2.1, h.2.2.2.2.2.2]
theorem z17 (l : List SegL) : partsS zS l 0 = [] := partsS_no (by decide) l 0
theorem a17 {g : Nat} {w : World} {A : Option Addr} (r : SuR w s17 (awH g)) (h : Rg w A L17) : Calls Tryz.prog 18 #[.agg (s17.cells (awH g)).toArray, .slice A 2 2, .int .i64 0] w (RetPs w P17) := v17 ▸ pParts ok17 fw17 r h (by decide) 2 0
theorem b17 {w : World} {A : Option Addr} (h : Rg w A M17) : Calls Tryz.prog 18 #[.agg (zS.cells zH).toArray, .slice A 1 1, .int .i64 0] w (RetPs w []) := by
  have := pParts (g := zH) zOk zFew (zR w) h (by decide) 1 0
  rw [z17 M17] at this
  exact this
theorem c17 {w : World} {A : Option Addr} (h : Ps w A P17) (c : Nat) : Calls Tryz.prog 20 #[.slice A P17.length c] w (RetA w [.int .i64 400, .int .i64 7200, .int .i64 0, .int .i64 0, .int .i64 100, .int .i64 6700, .int .i64 0]) := t17 ▸ pTotals h (by decide) (fun c => Nat.le_trans (spansOf_len _ _) (by decide)) c

set_option maxRecDepth 100000 in
set_option maxHeartbeats 2000000 in
theorem awake17 (w : World) : Calls Tryz.prog 16 #[] w (RetB w true) := by
  have hu0 := (awR w s17 rfl rfl rfl rfl rfl rfl).alloc (.cells #[.int .i64 1, .slice none 0 0, .int .i64 1, .int .i64 1, .slice none 0 0, .slice none 0 0, .slice none 0 0, .int .i64 0, .int .i64 1, .int .i64 60, .int .i64 0, .int .i64 86400, .int .i64 0, .int .i64 7300, .int .i64 43200, .int .i64 604800, .int .i64 79200, .int .i64 86400, .slice (some ⟨w.heap.size, 0, none⟩) 1 1, .int .i64 0, .int .i64 0, .int .i64 0, .slice none 0 0] 30)
  have hs0 := Bx.new_at (w.alloc (.cells #[.int .i64 1] 3)) [.int .i64 1, .slice none 0 0, .int .i64 1, .int .i64 1, .slice none 0 0, .slice none 0 0, .slice none 0 0, .int .i64 0, .int .i64 1, .int .i64 60, .int .i64 0, .int .i64 86400, .int .i64 0, .int .i64 7300, .int .i64 43200, .int .i64 604800, .int .i64 79200, .int .i64 86400, .slice (some ⟨w.heap.size, 0, none⟩) 1 1, .int .i64 0, .int .i64 0, .int .i64 0, .slice none 0 0] 30 (w.heap.size + 1) (by simp)
  have X0 := ((Ext.refl w).alloc (.cells #[.int .i64 1] 3)).alloc (.cells #[.int .i64 1, .slice none 0 0, .int .i64 1, .int .i64 1, .slice none 0 0, .slice none 0 0, .slice none 0 0, .int .i64 0, .int .i64 1, .int .i64 60, .int .i64 0, .int .i64 86400, .int .i64 0, .int .i64 7300, .int .i64 43200, .int .i64 604800, .int .i64 79200, .int .i64 86400, .slice (some ⟨w.heap.size, 0, none⟩) 1 1, .int .i64 0, .int .i64 0, .int .i64 0, .slice none 0 0] 30)
  have hL := Rg.new_at ((w.alloc (.cells #[.int .i64 1] 3)).alloc (.cells #[.int .i64 1, .slice none 0 0, .int .i64 1, .int .i64 1, .slice none 0 0, .slice none 0 0, .slice none 0 0, .int .i64 0, .int .i64 1, .int .i64 60, .int .i64 0, .int .i64 86400, .int .i64 0, .int .i64 7300, .int .i64 43200, .int .i64 604800, .int .i64 79200, .int .i64 86400, .slice (some ⟨w.heap.size, 0, none⟩) 1 1, .int .i64 0, .int .i64 0, .int .i64 0, .slice none 0 0] 30)) L17 60 (w.heap.size + 2) (by simp)
  have hu1 := hu0.alloc (.cells (flat enc5 L17).toArray 60)
  have X1 := X0.alloc (.cells (flat enc5 L17).toArray 60)
  go_enter Tryz.func16, Tryz.ntmps16
  go_wp2_with (first | (refine build_at rfl 30 _ rfl #[.int .i64 1, .slice none 0 0, .int .i64 1, .int .i64 1, .slice none 0 0, .slice none 0 0, .slice none 0 0, .int .i64 0, .int .i64 1, .int .i64 60, .int .i64 0, .int .i64 86400, .int .i64 0, .int .i64 7300, .int .i64 43200, .int .i64 604800, .int .i64 79200, .int .i64 86400, .slice (some ⟨w.heap.size, 0, none⟩) 1 1, .int .i64 0, .int .i64 0, .int .i64 0, .slice none 0 0] (by kernel_rfl) ?_) | (refine store_new rfl 30 _ _ rfl (w.alloc (.cells #[.int .i64 1] 3)) (w.heap.size + 1) (by simp) _ #[.int .i64 1, .slice none 0 0, .int .i64 1, .int .i64 1, .slice none 0 0, .slice none 0 0, .slice none 0 0, .int .i64 0, .int .i64 1, .int .i64 60, .int .i64 0, .int .i64 86400, .int .i64 0, .int .i64 7300, .int .i64 43200, .int .i64 604800, .int .i64 79200, .int .i64 86400, .slice (some ⟨w.heap.size, 0, none⟩) 1 1, .int .i64 0, .int .i64 0, .int .i64 0, .slice none 0 0] 30 rfl rfl rfl su_size0 rfl (by simp [Value.oneCell']) ?_) | (refine load_box rfl 30 _ rfl _ rfl _ _ hs0 _ Tryz.underlying30 rfl su_size0 ?_))
  refine (a17 hu1 hL).mono ?_
  rintro e w2 ⟨A2, cap2, rfl, r2, x2⟩
  have X2 := Lib.hid (X1.trans x2)
  clear hu0 hs0 X0 hL hu1 X1 x2
  go_wp2_with fail
  refine (c17 r2 cap2).mono ?_
  rintro e w3 ⟨rfl, x3⟩
  have X3 := Lib.hid (X2.out.trans x3)
  have r3 := r2.ext x3
  have hT := Bx.new w3 [.int .i64 400, .int .i64 7200, .int .i64 0, .int .i64 0, .int .i64 100, .int .i64 6700, .int .i64 0] 43
  have r4 := Lib.hid (r3.alloc (.cells #[.int .i64 400, .int .i64 7200, .int .i64 0, .int .i64 0, .int .i64 100, .int .i64 6700, .int .i64 0] 43))
  have X4 := Lib.hid (X3.out.alloc (.cells #[.int .i64 400, .int .i64 7200, .int .i64 0, .int .i64 0, .int .i64 100, .int .i64 6700, .int .i64 0] 43))
  clear r2 x3 r3 X2 X3
  go_wp2_with fail
  have hM := Rg.new_at (w3.alloc (.cells #[.int .i64 400, .int .i64 7200, .int .i64 0, .int .i64 0, .int .i64 100, .int .i64 6700, .int .i64 0] 43)) M17 60 (w3.heap.size + 1) (by simp)
  have hT4 := hT.alloc (.cells (flat enc5 M17).toArray 60)
  have r5 := r4.out.alloc (.cells (flat enc5 M17).toArray 60)
  have X5 := X4.out.alloc (.cells (flat enc5 M17).toArray 60)
  refine (b17 hM).mono ?_
  rintro e w6 ⟨A6, c6, rfl, _, x6⟩
  have hT6 := (hT4.ext x6).alloc (.cells (flat encP P17).toArray 47)
  have r6 := (r5.ext x6).alloc (.cells (flat encP P17).toArray 47)
  have X6 := (X5.trans x6).alloc (.cells (flat encP P17).toArray 47)
  have p6 := Ps.new_at w6 P17 47 w6.heap.size rfl
  have sm := rSameP r6 p6 (by decide) cap2 4
  rw [decide_eq_true rfl] at sm
  replace sm := Lib.hid sm
  clear hM hT4 r5 X5 x6 hT r4 X4 r6 p6
  have HT6 := Lib.hid hT6; have HX6 := Lib.hid X6
  clear hT6 X6
  go_wp2_with fail
  refine sm.out.mono ?_
  rintro e w7 ⟨rfl, x7⟩
  have hT7 := HT6.out.ext x7
  have hg := eqGuardA
  have he := fun w => eqlA 400 7200 0 0 100 6700 0 w
  go_wp2_with (first | (refine load_box rfl 43 _ rfl _ rfl _ _ hT7 _ Tryz.underlying43 rfl (by kernel_rfl) ?_))
  go_ret
  exact ⟨rfl, HX6.out.trans x7⟩
end Go.Proofs.YtnhmibfgaoealaaGreat
