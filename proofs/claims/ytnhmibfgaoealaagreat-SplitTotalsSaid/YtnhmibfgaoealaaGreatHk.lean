/-
  Laws of layer 17: SplitTotals.
-/
import Derived.Test.YtnhmibfgaoealaaGreatHi
namespace Go.Proofs.YtnhmibfgaoealaaGreat
open Go.RowKit BigFrame
set_option linter.unusedVariables false
set_option linter.unusedSimpArgs false

section
variable {P : Program} {ops : Array Oper} {Q : Exit → Act → World → Prop} {S : World → Prop}
theorem held_take {i fuel : Nat} {o : Oper} {listed : Array Bool} {a : Act} {w : World} (hi : ops[i]? = some o) (hs : Region.noSelect ops = true) (hf : Region.free .any ops listed i = true) (hr : (Region.ready .any ops listed).contains i = true)
    (v : Value) (hw : Region.wanted o (yielded ops a.tmps) = true) (hv : ∀ w, S w → (execOp a.eval o).run P w = .ok (.value v) w) (hS : S w) (a' : Act) (ha : a.put o.dst v = a')
    (h : wpAnyH P .any ops (NoPanic Q) S fuel (listed.setIfInBounds i true) a' w) : wpAnyH P .any ops (NoPanic Q) S (fuel + 1) listed a w :=
  wpAnyH_take hi hs hf hr (fun _ _ _ h => h) (.inl ⟨hw, hv⟩) hS (ha ▸ h)
end

def preA (an : Nat → Int) : Nat → Int
  | 0 => 0
  | k + 1 => preA an k + an k
theorem preA_bd {an : Nat → Int} (h : ∀ k, 0 ≤ an k ∧ an k ≤ 32054400) (k : Nat) : 0 ≤ preA an k ∧ preA an k ≤ 32054400 * k := by
  induction k with
  | zero => simp [preA]
  | succ k ih => have := h k; simp only [preA]; omega
def anC (an : Nat → Int) : List Value := [.int .i64 (an 0), .int .i64 (an 1), .int .i64 (an 2), .int .i64 (an 3), .int .i64 (an 4), .int .i64 (an 5), .int .i64 (an 6)]
theorem anC_at (an : Nat → Int) {k : Nat} (hk : k < 7) : (anC an)[k]? = some (.int .i64 (an k)) := by
  match k, hk with
  | 0, _ => rfl
  | 1, _ => rfl
  | 2, _ => rfl
  | 3, _ => rfl
  | 4, _ => rfl
  | 5, _ => rfl
  | 6, _ => rfl

set_option maxRecDepth 100000 in
set_option maxHeartbeats 4000000 in
theorem splitTotals0 (cs : List Value) (hcs : cs.length = 23) (l : List SegL) (A : Option Addr) (c : Nat) (d : Int) (p : Prop) (ck : Bool) (m : List Pt) (P N CL NW : List Sp.S) (an : Nat → Int) (w : World) (h : Rg w A l)
    (kF : ∀ W, Ext w W → ∀ A c, Rg W A l → Calls Tryz.prog 10 #[.agg cs.toArray, .slice A l.length c] W (RetP W p))
    (kC : p → ∀ W, Ext w W → Calls Tryz.prog 22 #[.agg cs.toArray] W (RetB W ck))
    (kS : p → ∀ W, Ext w W → ∀ A c, Rg W A l → Calls Tryz.prog 18 #[.agg cs.toArray, .slice A l.length c, .int .i64 d] W (RetPs W m))
    (kT : p → ∀ W A c, Ps W A m → Calls Tryz.prog 20 #[.slice A m.length c] W (RetA W [.int .i64 (an 0), .int .i64 (an 1), .int .i64 (an 2), .int .i64 (an 3), .int .i64 (an 4), .int .i64 (an 5), .int .i64 (an 6)]))
    (kP : p → ∀ W, Ext w W → ∀ A c, Rg W A l → Calls Tryz.prog 11 #[.agg cs.toArray, .slice A l.length c] W (Ret2R W P N))
    (kN : p → ∀ W, Ext w W → ∀ A c, Rs W A (partS P d 604800) → Calls Tryz.prog 27 #[.agg cs.toArray, .slice A (partS P d 604800).length c] W (RetS W NW))
    (kCk : p → ∀ W, Ext w W → ∀ A c, Rg W A l → Calls Tryz.prog 25 #[.slice A l.length c] W (RetS W CL))
    (bl : p → P.length ≤ 90000 ∧ N.length ≤ 90000 ∧ CL.length ≤ 90000 ∧ NW.length ≤ 900000) (han : ∀ k, 0 ≤ an k ∧ an k ≤ 32054400)
    (ke : p → ck = true → Sp.size (partS CL d 604800) = preA an 7 ∧ Sp.size (partS N d 604800) = an 0 ∧ Sp.size NW = an 4 + an 5 + an 6) :
    Calls Tryz.prog 6 #[.agg cs.toArray, .slice A l.length c, .int .i64 d] w (RetB w true) := by
  replace kF := Lib.hid kF; replace kC := Lib.hid kC; replace kS := Lib.hid kS; replace kT := Lib.hid kT; replace kP := Lib.hid kP; replace kN := Lib.hid kN; replace kCk := Lib.hid kCk; replace h := Lib.hid h; replace bl := Lib.hid bl; replace ke := Lib.hid ke; replace han := Lib.hid han
  have hi := Lib.hid (su_size hcs)
  clear hcs
  have hs0 := Bx.new w cs 30
  have X0 := (Ext.refl w).alloc (.cells cs.toArray 30)
  have hg0 := h.out.alloc (.cells cs.toArray 30)
  go_enter Tryz.func6, Tryz.ntmps6
  go_wp2_with fail
  refine (awake17 _).mono ?_
  rintro e w1 ⟨rfl, x1⟩
  have hs1 := hs0.ext x1; clear hs0
  have hg1 := hg0.ext x1; clear hg0
  have X1 := X0.trans x1
  go_wp2_with (first | (refine load_box rfl 30 _ rfl _ rfl _ _ hs1 _ Tryz.underlying30 rfl hi.out ?_))
  refine (kF.out _ X1 _ _ hg1).mono ?_
  rintro e w2 ⟨⟨b, rfl, hb⟩, x2⟩
  have hs2 := hs1.ext x2; clear hs1
  have hg2 := hg1.ext x2; clear hg1
  have X2 := X1.trans x2
  cases b
  · clear hb
    go_wp2
    go_ret
    exact ⟨rfl, X2⟩
  · have hp := hb rfl
    clear hb
    obtain ⟨lb1, lb2, lb3, lb4⟩ := bl.out hp
    go_wp2_with (first | (refine load_box rfl 30 _ rfl _ rfl _ _ hs2 _ Tryz.underlying30 rfl hi.out ?_))
    refine (kC.out hp _ X2).mono ?_
    rintro e w3 ⟨rfl, x3⟩
    have hs3 := hs2.ext x3; clear hs2
    have hg3 := hg2.ext x3; clear hg2
    have X3 := X2.trans x3
    cases ck
    · go_wp2
      go_ret
      exact ⟨rfl, X3⟩
    · obtain ⟨ke1, ke2, ke3⟩ := ke.out hp rfl
      have bP := partS_len P d 604800; have bN := partS_len N d 604800; have bC := partS_len CL d 604800
      have kW1 := fun (W : World) (A : Option Addr) (cap : Nat) (hr : Rs W A CL) => pOfWeek hr (by omega) cap d
      have kW2 := fun (W : World) (A : Option Addr) (cap : Nat) (hr : Rs W A N) => pOfWeek hr (by omega) cap d
      have kW3 := fun (W : World) (A : Option Addr) (cap : Nat) (hr : Rs W A P) => pOfWeek hr (by omega) cap d
      have kZ1 := fun (W : World) (A : Option Addr) (cap : Nat) (hr : Rs W A (partS CL d 604800)) => cSize hr (by omega) cap
      have kZ2 := fun (W : World) (A : Option Addr) (cap : Nat) (hr : Rs W A (partS N d 604800)) => cSize hr (by omega) cap
      have kZ3 := fun (W : World) (A : Option Addr) (cap : Nat) (hr : Rs W A NW) => cSize hr lb4 cap
      rw [ke1] at kZ1; rw [ke2] at kZ2; rw [ke3] at kZ3
      have kNN := kN.out hp
      clear kN
      obtain ⟨Q1, hQ1⟩ : ∃ Q, partS CL d 604800 = Q := ⟨_, rfl⟩
      obtain ⟨Q2, hQ2⟩ : ∃ Q, partS N d 604800 = Q := ⟨_, rfl⟩
      obtain ⟨Q3, hQ3⟩ : ∃ Q, partS P d 604800 = Q := ⟨_, rfl⟩
      rw [hQ1] at kW1 kZ1; rw [hQ2] at kW2 kZ2; rw [hQ3] at kW3 kNN
      have kN := Lib.hid kNN
      replace kW1 := Lib.hid kW1; replace kW2 := Lib.hid kW2; replace kW3 := Lib.hid kW3; replace kZ1 := Lib.hid kZ1; replace kZ2 := Lib.hid kZ2; replace kZ3 := Lib.hid kZ3
      have kS' := Lib.hid (kS.out hp); have kT' := Lib.hid (kT.out hp); have kP' := Lib.hid (kP.out hp); have kCk' := Lib.hid (kCk.out hp)
      clear ke ke1 ke2 ke3 bP bN bC hQ1 hQ2 hQ3 kNN kS kT kP kCk kF kC bl lb1 lb2 lb3 lb4
      have kCk := kCk'; clear kCk'
      go_wp2_with (first | (refine load_box rfl 30 _ rfl _ rfl _ _ hs3 _ Tryz.underlying30 rfl hi.out ?_))
      refine (kS'.out _ X3 _ _ hg3).mono ?_
      rintro e w4 ⟨A4, c4, rfl, m4, x4⟩
      have hs4 := hs3.ext x4; clear hs3
      have hg4 := hg3.ext x4; clear hg3
      have X4 := X3.trans x4
      go_wp2_with fail
      refine (kT'.out _ _ _ m4).mono ?_
      rintro e w5 ⟨rfl, x5⟩
      have hs5 := (hs4.ext x5).alloc (.cells #[.int .i64 (an 0), .int .i64 (an 1), .int .i64 (an 2), .int .i64 (an 3), .int .i64 (an 4), .int .i64 (an 5), .int .i64 (an 6)] 43); clear hs4
      have hg5 := (hg4.ext x5).alloc (.cells #[.int .i64 (an 0), .int .i64 (an 1), .int .i64 (an 2), .int .i64 (an 3), .int .i64 (an 4), .int .i64 (an 5), .int .i64 (an 6)] 43); clear hg4
      have X5 := (X4.trans x5).alloc (.cells #[.int .i64 (an 0), .int .i64 (an 1), .int .i64 (an 2), .int .i64 (an 3), .int .i64 (an 4), .int .i64 (an 5), .int .i64 (an 6)] 43)
      have hT5 := Bx.new w5 [.int .i64 (an 0), .int .i64 (an 1), .int .i64 (an 2), .int .i64 (an 3), .int .i64 (an 4), .int .i64 (an 5), .int .i64 (an 6)] 43
      go_wp2_with (first | (refine load_box rfl 30 _ rfl _ rfl _ _ hs5 _ Tryz.underlying30 rfl hi.out ?_))
      refine (kP'.out _ X5 _ _ hg5).mono ?_
      rintro e w6 ⟨A6, c6, B6, d6, rfl, ⟨r6, t6⟩, x6, _⟩
      have HS6 := Lib.hid (hs5.ext x6); have HG6 := Lib.hid (hg5.ext x6); have HX6 := Lib.hid (X5.trans x6); have HT6 := Lib.hid (hT5.ext x6)
      have HN6 := Lib.hid t6; have HP6 := Lib.hid r6
      clear hs5 hg5 X5 hT5 X4 X3 X2 X1 X0 x1 x2 x3 x4 x5 x6 r6 t6 m4 kS' kT' kP'
      go_wp2_with fail
      go_loopw [11, 12] (fun v i wr => ∃ k : Nat, k ≤ 7 ∧ i = .int .i64 k ∧ v = .int .i64 (preA an k) ∧ wr = w6) (fun _ i _ => 7 - (intOf i).toNat)
      case atStart => exact ⟨0, by omega, rfl, rfl, rfl⟩
      case round =>
        obtain ⟨k, hk, rfl, rfl, rfl⟩ := hrel
        by_cases hlt : k < 7
        · have q3 : (k : Int) < 7 := by omega
          have q4 : (0 : Int) ≤ (k : Int) := by omega
          have cc := HT6.out.cell k _ (anC_at an hlt)
          have b1 := han.out k
          have b2 := preA_bd han.out k
          have E : Hid (preA an (k + 1) = preA an k + an k) := rfl
          obtain ⟨s, hs⟩ : ∃ s, preA an k = s := ⟨_, rfl⟩
          rw [hs] at b2 E
          obtain ⟨t, ht⟩ : ∃ s, an k = s := ⟨_, rfl⟩
          rw [ht] at b1 E cc
          try rw [hs]
          clear hs ht
          go_wp2_with fail
          go_roundw
          case rel => exact ⟨k + 1, by omega, by go_num, by rw [E.out], trivial⟩
          case measure => simp [intOf]; omega
        · obtain rfl : k = 7 := by omega
          obtain ⟨T, hT⟩ : ∃ T, preA an 7 = T := ⟨_, rfl⟩
          rw [hT] at kZ1
          try rw [hT]
          clear hT
          go_wp2_with fail
          refine (kW3.out _ _ _ HP6.out).mono ?_
          rintro e w7 ⟨A7, c7, rfl, r7, x7, _⟩
          have HS7 := Lib.hid (HS6.out.ext x7); have HG7 := Lib.hid (HG6.out.ext x7); have HX7 := Lib.hid (HX6.out.trans x7); have HT7 := Lib.hid (HT6.out.ext x7); have HN7 := Lib.hid (HN6.out.ext x7)
          have HP7 := Lib.hid r7
          clear HS6 HG6 HX6 HT6 HN6 HP6 x7 r7 kW3
          go_wp2_with fail
          have HS0 : Hid (Bx (w7.drewN 1) w.heap.size cs 30 ∧ Bx (w7.drewN 1) w5.heap.size [.int .i64 (an 0), .int .i64 (an 1), .int .i64 (an 2), .int .i64 (an 3), .int .i64 (an 4), .int .i64 (an 5), .int .i64 (an 6)] 43) := ⟨HS7.out.drewN 1, HT7.out.drewN 1⟩
          have X0 := Lib.hid (HX7.out.drewN 1); have G0 := Lib.hid (HG7.out.drewN 1); have N0 := Lib.hid (HN7.out.drewN 1); have P0 := Lib.hid (HP7.out.drewN 1)
          clear HS7 HT7 HX7 HG7 HN7 HP7
          refine held_start (S := fun W => Bx W w.heap.size cs 30 ∧ Bx W w5.heap.size [.int .i64 (an 0), .int .i64 (an 1), .int .i64 (an 2), .int .i64 (an 3), .int .i64 (an 4), .int .i64 (an 5), .int .i64 (an 6)] 43) 35 rfl (by kernel_rfl) ?_
          refine held_move (i := 0) rfl (by kernel_rfl) (by kernel_rfl) (by kernel_rfl) _ rfl rfl HS0.out _ (by simp [Act.put]; rfl) ?_
          refine held_move (i := 1) rfl (by kernel_rfl) (by kernel_rfl) (by kernel_rfl) _ rfl rfl HS0.out _ (by simp [Act.put]; rfl) ?_
          refine held_move (i := 2) rfl (by kernel_rfl) (by kernel_rfl) (by kernel_rfl) _ rfl rfl HS0.out _ (by simp [Act.put]; rfl) ?_
          refine held_move (i := 3) rfl (by kernel_rfl) (by kernel_rfl) (by kernel_rfl) _ rfl rfl HS0.out _ (by simp [Act.put]; rfl) ?_
          refine held_move (i := 5) rfl (by kernel_rfl) (by kernel_rfl) (by kernel_rfl) _ rfl rfl HS0.out _ (by simp [Act.put]; rfl) ?_
          refine held_all (i := 4) rfl (by kernel_rfl) rfl ?_
          have kk := Lib.hid (kCk.out _ X0.out A c G0.out)
          go_wp2_with fail
          refine kk.out.mono ?_
          rintro e y1 ⟨A0a, c0a, rfl, r0, x1, _⟩
          have CK := Lib.hid r0
          have HS1 : Hid (Bx y1 w.heap.size cs 30 ∧ Bx y1 w5.heap.size [.int .i64 (an 0), .int .i64 (an 1), .int .i64 (an 2), .int .i64 (an 3), .int .i64 (an 4), .int .i64 (an 5), .int .i64 (an 6)] 43) := ⟨HS0.out.1.ext x1, HS0.out.2.ext x1⟩
          have X1 := Lib.hid (X0.out.trans x1)
          have G1 := Lib.hid (G0.out.ext x1)
          have N1 := Lib.hid (N0.out.ext x1)
          have P1 := Lib.hid (P0.out.ext x1)
          clear kk r0 x1 X0 G0 N0 P0 HS0
          refine ⟨HS1.out, ?_⟩
          refine held_all (i := 6) rfl (by kernel_rfl) rfl ?_
          have kk := Lib.hid (kW1.out _ A0a c0a CK.out)
          go_wp2_with fail
          refine kk.out.mono ?_
          rintro e y2 ⟨A1a, c1a, rfl, r1, x2, _⟩
          have PC := Lib.hid r1
          have HS2 : Hid (Bx y2 w.heap.size cs 30 ∧ Bx y2 w5.heap.size [.int .i64 (an 0), .int .i64 (an 1), .int .i64 (an 2), .int .i64 (an 3), .int .i64 (an 4), .int .i64 (an 5), .int .i64 (an 6)] 43) := ⟨HS1.out.1.ext x2, HS1.out.2.ext x2⟩
          have X2 := Lib.hid (X1.out.trans x2)
          have G2 := Lib.hid (G1.out.ext x2)
          have N2 := Lib.hid (N1.out.ext x2)
          have P2 := Lib.hid (P1.out.ext x2)
          clear kk r1 x2 X1 G1 N1 P1 HS1
          refine ⟨HS2.out, ?_⟩
          refine held_all (i := 7) rfl (by kernel_rfl) rfl ?_
          have kk := Lib.hid (kZ1.out _ A1a c1a PC.out)
          go_wp2_with fail
          refine kk.out.mono ?_
          rintro e y3 ⟨rfl, x3⟩
          have HS3 : Hid (Bx y3 w.heap.size cs 30 ∧ Bx y3 w5.heap.size [.int .i64 (an 0), .int .i64 (an 1), .int .i64 (an 2), .int .i64 (an 3), .int .i64 (an 4), .int .i64 (an 5), .int .i64 (an 6)] 43) := ⟨HS2.out.1.ext x3, HS2.out.2.ext x3⟩
          have X3 := Lib.hid (X2.out.trans x3)
          have G3 := Lib.hid (G2.out.ext x3)
          have N3 := Lib.hid (N2.out.ext x3)
          have P3 := Lib.hid (P2.out.ext x3)
          clear kk x3 X2 G2 N2 P2 HS2
          refine ⟨HS3.out, ?_⟩
          refine held_take (i := 8) rfl (by kernel_rfl) (by kernel_rfl) (by kernel_rfl) (.bool true) rfl (fun w hT => by first | (go_simp; done) | (go_simp; rfl)) HS3.out _ (by simp [Act.put]; rfl) ?_
          refine held_take (i := 9) rfl (by kernel_rfl) (by kernel_rfl) (by kernel_rfl) (.bool true) rfl (fun w hT => by first | (go_simp; done) | (go_simp; rfl)) HS3.out _ (by simp [Act.put]; rfl) ?_
          refine held_move (i := 10) rfl (by kernel_rfl) (by kernel_rfl) (by kernel_rfl) _ rfl rfl HS3.out _ (by simp [Act.put]; rfl) ?_
          refine held_take (i := 11) rfl (by kernel_rfl) (by kernel_rfl) (by kernel_rfl) (.pointer (some ⟨w5.heap.size, 0, none⟩)) rfl (fun w hT => by first | (go_simp; done) | (go_simp; rfl)) HS3.out _ (by simp [Act.put]; rfl) ?_
          refine held_take (i := 12) rfl (by kernel_rfl) (by kernel_rfl) (by kernel_rfl) (.int .i64 (an 0)) rfl (fun w hT => by have cc := hT.2.cell 0 _ rfl; first | (go_simp; done) | (go_simp; rfl)) HS3.out _ (by simp [Act.put]; rfl) ?_
          refine held_move (i := 13) rfl (by kernel_rfl) (by kernel_rfl) (by kernel_rfl) _ rfl rfl HS3.out _ (by simp [Act.put]; rfl) ?_
          refine held_move (i := 14) rfl (by kernel_rfl) (by kernel_rfl) (by kernel_rfl) _ rfl rfl HS3.out _ (by simp [Act.put]; rfl) ?_
          refine held_all (i := 15) rfl (by kernel_rfl) rfl ?_
          have kk := Lib.hid (kW2.out _ B6 d6 N3.out)
          go_wp2_with fail
          refine kk.out.mono ?_
          rintro e y4 ⟨A3a, c3a, rfl, r3, x4, _⟩
          have PN := Lib.hid r3
          have HS4 : Hid (Bx y4 w.heap.size cs 30 ∧ Bx y4 w5.heap.size [.int .i64 (an 0), .int .i64 (an 1), .int .i64 (an 2), .int .i64 (an 3), .int .i64 (an 4), .int .i64 (an 5), .int .i64 (an 6)] 43) := ⟨HS3.out.1.ext x4, HS3.out.2.ext x4⟩
          have X4 := Lib.hid (X3.out.trans x4)
          have G4 := Lib.hid (G3.out.ext x4)
          have N4 := Lib.hid (N3.out.ext x4)
          have P4 := Lib.hid (P3.out.ext x4)
          clear kk r3 x4 X3 G3 N3 P3 HS3
          refine ⟨HS4.out, ?_⟩
          refine held_all (i := 16) rfl (by kernel_rfl) rfl ?_
          have kk := Lib.hid (kZ2.out _ A3a c3a PN.out)
          go_wp2_with fail
          refine kk.out.mono ?_
          rintro e y5 ⟨rfl, x5⟩
          have HS5 : Hid (Bx y5 w.heap.size cs 30 ∧ Bx y5 w5.heap.size [.int .i64 (an 0), .int .i64 (an 1), .int .i64 (an 2), .int .i64 (an 3), .int .i64 (an 4), .int .i64 (an 5), .int .i64 (an 6)] 43) := ⟨HS4.out.1.ext x5, HS4.out.2.ext x5⟩
          have X5 := Lib.hid (X4.out.trans x5)
          have G5 := Lib.hid (G4.out.ext x5)
          have N5 := Lib.hid (N4.out.ext x5)
          have P5 := Lib.hid (P4.out.ext x5)
          clear kk x5 X4 G4 N4 P4 HS4
          refine ⟨HS5.out, ?_⟩
          refine held_take (i := 17) rfl (by kernel_rfl) (by kernel_rfl) (by kernel_rfl) (.bool true) rfl (fun w hT => by first | (go_simp; done) | (go_simp; rfl)) HS5.out _ (by simp [Act.put]; rfl) ?_
          refine held_take (i := 18) rfl (by kernel_rfl) (by kernel_rfl) (by kernel_rfl) (.bool true) rfl (fun w hT => by first | (go_simp; done) | (go_simp; rfl)) HS5.out _ (by simp [Act.put]; rfl) ?_
          refine held_move (i := 19) rfl (by kernel_rfl) (by kernel_rfl) (by kernel_rfl) _ rfl rfl HS5.out _ (by simp [Act.put]; rfl) ?_
          refine held_take (i := 20) rfl (by kernel_rfl) (by kernel_rfl) (by kernel_rfl) (.pointer (some ⟨w5.heap.size, 4, none⟩)) rfl (fun w hT => by first | (go_simp; done) | (go_simp; rfl)) HS5.out _ (by simp [Act.put]; rfl) ?_
          refine held_take (i := 21) rfl (by kernel_rfl) (by kernel_rfl) (by kernel_rfl) (.int .i64 (an 4)) rfl (fun w hT => by have cc := hT.2.cell 4 _ rfl; first | (go_simp; done) | (go_simp; rfl)) HS5.out _ (by simp [Act.put]; rfl) ?_
          refine held_take (i := 22) rfl (by kernel_rfl) (by kernel_rfl) (by kernel_rfl) (.pointer (some ⟨w5.heap.size, 5, none⟩)) rfl (fun w hT => by first | (go_simp; done) | (go_simp; rfl)) HS5.out _ (by simp [Act.put]; rfl) ?_
          refine held_take (i := 23) rfl (by kernel_rfl) (by kernel_rfl) (by kernel_rfl) (.int .i64 (an 5)) rfl (fun w hT => by have cc := hT.2.cell 5 _ rfl; first | (go_simp; done) | (go_simp; rfl)) HS5.out _ (by simp [Act.put]; rfl) ?_
          refine held_take (i := 24) rfl (by kernel_rfl) (by kernel_rfl) (by kernel_rfl) (.int .i64 (an 4 + an 5)) rfl (fun w hT => by have b4 := han.out 4; have b5 := han.out 5; first | (go_simp; done) | (go_simp; rw [IntWalk.i64_left, IntWalk.wrap64_in _ (by omega)]) | (go_simp; rfl)) HS5.out _ (by simp [Act.put]; rfl) ?_
          refine held_take (i := 25) rfl (by kernel_rfl) (by kernel_rfl) (by kernel_rfl) (.pointer (some ⟨w5.heap.size, 6, none⟩)) rfl (fun w hT => by first | (go_simp; done) | (go_simp; rfl)) HS5.out _ (by simp [Act.put]; rfl) ?_
          refine held_take (i := 26) rfl (by kernel_rfl) (by kernel_rfl) (by kernel_rfl) (.int .i64 (an 6)) rfl (fun w hT => by have cc := hT.2.cell 6 _ rfl; first | (go_simp; done) | (go_simp; rfl)) HS5.out _ (by simp [Act.put]; rfl) ?_
          refine held_take (i := 27) rfl (by kernel_rfl) (by kernel_rfl) (by kernel_rfl) (.int .i64 (an 4 + an 5 + an 6)) rfl (fun w hT => by have b4 := han.out 4; have b5 := han.out 5; have b6 := han.out 6; first | (go_simp; done) | (go_simp; rw [IntWalk.i64_left, IntWalk.wrap64_in _ (by omega)]) | (go_simp; rfl)) HS5.out _ (by simp [Act.put]; rfl) ?_
          refine held_box (i := 28) rfl (by kernel_rfl) (by kernel_rfl) (by kernel_rfl) rfl 30 _ rfl _ rfl cs 30 (fun w h => h.1) _ Tryz.underlying30 rfl hi.out HS5.out _ (by simp [Act.put]; rfl) ?_
          refine held_move (i := 29) rfl (by kernel_rfl) (by kernel_rfl) (by kernel_rfl) _ rfl rfl HS5.out _ (by simp [Act.put]; rfl) ?_
          refine held_all (i := 30) rfl (by kernel_rfl) rfl ?_
          have kk := Lib.hid (kN.out _ X5.out A7 c7 P5.out)
          go_wp2_with fail
          refine kk.out.mono ?_
          rintro e y6 ⟨A5a, c5a, rfl, r5, x6, _⟩
          have NN := Lib.hid r5
          have HS6 : Hid (Bx y6 w.heap.size cs 30 ∧ Bx y6 w5.heap.size [.int .i64 (an 0), .int .i64 (an 1), .int .i64 (an 2), .int .i64 (an 3), .int .i64 (an 4), .int .i64 (an 5), .int .i64 (an 6)] 43) := ⟨HS5.out.1.ext x6, HS5.out.2.ext x6⟩
          have X6 := Lib.hid (X5.out.trans x6)
          have G6 := Lib.hid (G5.out.ext x6)
          have N6 := Lib.hid (N5.out.ext x6)
          have P6 := Lib.hid (P5.out.ext x6)
          clear kk r5 x6 X5 G5 N5 P5 HS5
          refine ⟨HS6.out, ?_⟩
          refine held_all (i := 31) rfl (by kernel_rfl) rfl ?_
          have kk := Lib.hid (kZ3.out _ A5a c5a NN.out)
          go_wp2_with fail
          refine kk.out.mono ?_
          rintro e y7 ⟨rfl, x7⟩
          have HS7 : Hid (Bx y7 w.heap.size cs 30 ∧ Bx y7 w5.heap.size [.int .i64 (an 0), .int .i64 (an 1), .int .i64 (an 2), .int .i64 (an 3), .int .i64 (an 4), .int .i64 (an 5), .int .i64 (an 6)] 43) := ⟨HS6.out.1.ext x7, HS6.out.2.ext x7⟩
          have X7 := Lib.hid (X6.out.trans x7)
          have G7 := Lib.hid (G6.out.ext x7)
          have N7 := Lib.hid (N6.out.ext x7)
          have P7 := Lib.hid (P6.out.ext x7)
          clear kk x7 X6 G6 N6 P6 HS6
          refine ⟨HS7.out, ?_⟩
          refine held_take (i := 32) rfl (by kernel_rfl) (by kernel_rfl) (by kernel_rfl) (.bool true) rfl (fun w hT => by first | (go_simp; done) | (go_simp; rfl)) HS7.out _ (by simp [Act.put]; rfl) ?_
          refine held_take (i := 33) rfl (by kernel_rfl) (by kernel_rfl) (by kernel_rfl) (.bool true) rfl (fun w hT => by first | (go_simp; done) | (go_simp; rfl)) HS7.out _ (by simp [Act.put]; rfl) ?_
          refine held_assign (i := 34) rfl (by kernel_rfl) (by kernel_rfl) (by kernel_rfl) _ rfl rfl HS7.out _ (by simp [Act.put]; rfl) ?_
          refine held_done (by kernel_rfl) ?_ _
          go_wp2
          go_ret
          exact ⟨rfl, X7.out⟩

theorem totals17 (s : Su) (g : Sh) (ok : SuOk s) (l : List SegL) (A : Option Addr) (c : Nat) (hl : l.length ≤ maxLen) (d : Int) (w : World) (r : SuR w s g) (h : Rg w A l) :
    Calls Tryz.prog 6 #[.agg (s.cells g).toArray, .slice A l.length c, .int .i64 d] w (RetB w true) := by
  have a1 : Few15 s l → l.length ≤ 30 := fun p => p.2.1
  have b1 := fun p => partsS_len s l (a1 p) d
  have b2 := fun (p : Few15 s l) (k : Int) => spans_lens s l (a1 p) d k
  have b3 := fun p => all_lens30 s l (a1 p)
  have b4 := partS_len (paidAll s l) d 604800
  refine splitTotals0 (s.cells g) rfl l A c d (Few15 s l) (chk s) (partsS s l d) (paidAll s l) (notAll s l) (clockL l) (nightS s (partS (paidAll s l) d 604800)) (fun k => Sp.size (spansOf (partsS s l d) (k : Int))) w h (fun W X A c h => pFew15 s g h hl c) (fun p W X => pCheck ok p.1 (r.ext X)) (fun p W X A c h => pParts ok p.1 (r.ext X) h (a1 p) c d)
    (fun p W A c h => pTotals h (Nat.le_trans (b1 p) (by decide)) (fun k => Nat.le_trans (b2 p k) (by decide)) c) (fun p W X A c h => pPaid ok p.1 (r.ext X) h (by have := a1 p; omega) c) (fun p W X A c h => pNightOf ok p.1 (r.ext X) h (by have := b3 p; omega) c) (fun p W X A c h => pClock h (by have := a1 p; omega) c) (fun p => ⟨(b3 p).1, (b3 p).2, ?_, ?_⟩) (fun k => ⟨Sp.size_nonneg _, Sp.size_le _⟩) (fun p hc => ?_)
  · have := clock_len l; have := a1 p; omega
  · unfold nightS
    split
    · have := night_le s.nfrom s.nto (partS (paidAll s l) d 604800)
      have := b3 p
      omega
    · simp
  · have e := fun (c : Int) (h : c ∈ catsO) => partsS_spans hc l d h
    have hn := chk_nt hc
    have ho : s.dreg ≤ s.dover := by have := chk_times hc; omega
    have k1 := cats_size hn ho (P := s.paid) (AA := s.after) (AB := s.auto) (segs := l) (week := d) (W := s.wreg)
    have k2 := night_size hn ho (P := s.paid) (AA := s.after) (AB := s.auto) (segs := l) (week := d) (W := s.wreg)
    rw [← cls_eq] at k1 k2
    simp only [preA]
    rw [show ((0 : Nat) : Int) = 0 from rfl, show ((1 : Nat) : Int) = 1 from rfl, show ((2 : Nat) : Int) = 2 from rfl, show ((3 : Nat) : Int) = 3 from rfl, show ((4 : Nat) : Int) = 4 from rfl, show ((5 : Nat) : Int) = 5 from rfl, show ((6 : Nat) : Int) = 6 from rfl]
    rw [e 0 (by decide), e 1 (by decide), e 2 (by decide), e 3 (by decide), e 4 (by decide), e 5 (by decide), e 6 (by decide)]
    refine ⟨?_, ?_, ?_⟩
    · rw [k1]
      simp only [catsO, List.map_cons, List.map_nil, List.sum_cons, List.sum_nil]
      omega
    · rw [(paidAll_yes hc l).2, cls_eq]
      simp [catL]
    · rw [show nightS s (partS (paidAll s l) d 604800) = nightOf s.nfrom s.nto (partS (paidAll s l) d 604800) from if_pos hc, (paidAll_yes hc l).1, k2]
      simp only [List.map_cons, List.map_nil, List.sum_cons, List.sum_nil]
      omega
end Go.Proofs.YtnhmibfgaoealaaGreat
