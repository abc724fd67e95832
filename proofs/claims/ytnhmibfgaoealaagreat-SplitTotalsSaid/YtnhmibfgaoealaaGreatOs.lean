/-
  An argument that is a setup: its numbers, and its lists.
-/
import Derived.Test.YtnhmibfgaoealaaGreatOi
import Derived.Test.YtnhmibfgaoealaaGreatBx
namespace Go.Proofs.YtnhmibfgaoealaaGreat
open Go.ChangeShapes Go.WideShapes Go.ChangeAt Go.RowKit Go.Deep
set_option linter.unusedVariables false
set_option linter.unusedSimpArgs false

structure Su where
  places : Int
  allow : Int
  unit : Int
  cap : Int
  paid : Int
  after : Int
  auto : Int
  dreg : Int
  dover : Int
  wreg : Int
  nfrom : Int
  nto : Int
  diff : Int
  least : Int
  fault : Int
  pace : Int × Int
  ways : List (Int × Int × Int)
  elements : List ((Int × Int) × (Int × Int))
  classes : List (Int × Int)
  gears : List (Int × Int)
  rates : List Int
  tiers : List (Int × Int)

structure Sh where
  wA : Option Addr
  eA : Option Addr
  cA : Option Addr
  gA : Option Addr
  rA : Option Addr
  tA : Option Addr
  wC : Nat
  eC : Nat
  cC : Nat
  gC : Nat
  rC : Nat
  tC : Nat

@[reducible] def Su.cells (s : Su) (h : Sh) : List Value := [.int .i64 s.places, .slice h.wA s.ways.length h.wC, .int .i64 s.pace.1, .int .i64 s.pace.2, .slice h.eA s.elements.length h.eC, .slice h.cA s.classes.length h.cC, .slice h.gA s.gears.length h.gC, .int .i64 s.allow, .int .i64 s.unit, .int .i64 s.cap, .int .i64 s.paid, .int .i64 s.after, .int .i64 s.auto, .int .i64 s.dreg, .int .i64 s.dover, .int .i64 s.wreg, .int .i64 s.nfrom, .int .i64 s.nto, .slice h.rA s.rates.length h.rC, .int .i64 s.diff, .int .i64 s.least, .int .i64 s.fault, .slice h.tA s.tiers.length h.tC]

structure SuOk (s : Su) : Prop where
  places : B64 s.places
  allow : B64 s.allow
  unit : B64 s.unit
  cap : B64 s.cap
  paid : B64 s.paid
  after : B64 s.after
  auto : B64 s.auto
  dreg : B64 s.dreg
  dover : B64 s.dover
  wreg : B64 s.wreg
  nfrom : B64 s.nfrom
  nto : B64 s.nto
  diff : B64 s.diff
  least : B64 s.least
  fault : B64 s.fault
  pace : B64 s.pace.1 ∧ B64 s.pace.2
  ways : s.ways.length ≤ maxLen ∧ ∀ z ∈ s.ways, B64 z.1 ∧ B64 z.2.1 ∧ B64 z.2.2
  elements : s.elements.length ≤ maxLen ∧ ∀ z ∈ s.elements, (B64 z.1.1 ∧ B64 z.1.2) ∧ B64 z.2.1 ∧ B64 z.2.2
  classes : s.classes.length ≤ maxLen ∧ ∀ z ∈ s.classes, B64 z.1 ∧ B64 z.2
  gears : s.gears.length ≤ maxLen ∧ ∀ z ∈ s.gears, B64 z.1 ∧ B64 z.2
  rates : s.rates.length ≤ maxLen ∧ ∀ z ∈ s.rates, B64 z
  tiers : s.tiers.length ≤ maxLen ∧ ∀ z ∈ s.tiers, B64 z.1 ∧ B64 z.2

/-- The lists lie where the setup says. -/
structure SuR (w : World) (s : Su) (h : Sh) : Prop where
  ways : Rd enc3 3 w w.heap.size h.wA s.ways
  elements : Rd enc4 4 w w.heap.size h.eA s.elements
  classes : Rd encS 2 w w.heap.size h.cA s.classes
  gears : Rd encS 2 w w.heap.size h.gA s.gears
  rates : Rd encN 1 w w.heap.size h.rA s.rates
  tiers : Rd encS 2 w w.heap.size h.tA s.tiers
theorem SuR.ext {w w' : World} {s : Su} {h : Sh} (r : SuR w s h) (k : Ext w w') : SuR w' s h :=
  ⟨(r.ways.below k).more k.size, (r.elements.below k).more k.size, (r.classes.below k).more k.size, (r.gears.below k).more k.size, (r.rates.below k).more k.size, (r.tiers.below k).more k.size⟩
theorem SuR.alloc {w : World} {s : Su} {h : Sh} (r : SuR w s h) (o : Obj) : SuR (w.alloc o) s h := r.ext ((Ext.refl w).alloc o)
theorem SuR.drewN {w : World} {s : Su} {h : Sh} (r : SuR w s h) (n : Nat) : SuR (w.drewN n) s h := r.ext ((Ext.refl w).drewN n)

theorem intsInt : IntsAt Tryz.prog 3 1 := ints_int Tryz.underlying3 (by kernel_rfl)
theorem intsRatio : IntsAt Tryz.prog 24 2 := ints_struct (fun _ => 1) Tryz.underlying24 (fun i f hi => by
  match i, hi with
  | 0, hi => cases hi; exact ⟨intsInt, rfl⟩
  | 1, hi => cases hi; exact ⟨intsInt, rfl⟩
  | n + 2, hi => exact absurd hi (by simp)) (by kernel_rfl)
theorem intsWay : IntsAt Tryz.prog 104 3 := ints_struct (fun _ => 1) Tryz.underlying104 (fun i f hi => by
  match i, hi with
  | 0, hi => cases hi; exact ⟨intsInt, rfl⟩
  | 1, hi => cases hi; exact ⟨intsInt, rfl⟩
  | 2, hi => cases hi; exact ⟨intsInt, rfl⟩
  | n + 3, hi => exact absurd hi (by simp)) (by kernel_rfl)
theorem intsTier : IntsAt Tryz.prog 114 2 := ints_struct (fun _ => 1) Tryz.underlying114 (fun i f hi => by
  match i, hi with
  | 0, hi => cases hi; exact ⟨intsInt, rfl⟩
  | 1, hi => cases hi; exact ⟨intsInt, rfl⟩
  | n + 2, hi => exact absurd hi (by simp)) (by kernel_rfl)
theorem intsElement : IntsAt Tryz.prog 109 4 := ints_struct (fun _ => 2) Tryz.underlying109 (fun i f hi => by
  match i, hi with
  | 0, hi => cases hi; exact ⟨intsRatio, rfl⟩
  | 1, hi => cases hi; exact ⟨intsRatio, rfl⟩
  | n + 2, hi => exact absurd hi (by simp)) (by kernel_rfl)

theorem slice_form {H : Type} {enc : TypeId × Value → H} {P : Program} {w : World} {base : Nat} {spare : Nat → Bool} {held : Bool} {t e : Nat} {fuel : Nat} {v : Value} {x : DataW H × List MemPlace} (ht : P.underlying t = some (.slice e)) (h : DataW.trod enc P w base spare held fuel t [v] = some x) : ∃ A len cap, v = .slice A len cap := by
  rcases open_slice ht h with ⟨hcs, _⟩ | ⟨a, len, cap, _, _, _, _, hcs, _⟩
  · simp at hcs; exact ⟨_, _, _, hcs⟩
  · simp at hcs; exact ⟨_, _, _, hcs⟩

set_option maxRecDepth 100000 in
set_option maxHeartbeats 2000000 in
theorem open_setup {H : Type} {enc : TypeId × Value → H} {w : World} {base b0 : Nat} {spare : Nat → Bool} {held : Bool} {r : Reach} {v : Value} {d : DataW H} {p : List MemPlace} (hv : Value.okWide Tryz.prog w r b0 30 v) (h : DataW.Trod enc Tryz.prog w base spare held 30 v d p) :
    ∃ (s : Su) (hd : Sh), v = .agg (s.cells hd).toArray ∧ SuOk s ∧ SuR w s hd := by
  obtain ⟨cs, rfl, hsz⟩ := okWide_struct Tryz.underlying30 hv
  have hC : Tryz.prog.cellsOf 30 = 23 := by kernel_rfl
  obtain ⟨l⟩ := cs
  have hl : l.length = 23 := hsz.trans hC
  obtain ⟨c0, c1, c2, c3, c4, c5, c6, c7, c8, c9, c10, c11, c12, c13, c14, c15, c16, c17, c18, c19, c20, c21, c22, rfl⟩ : ∃ c0 c1 c2 c3 c4 c5 c6 c7 c8 c9 c10 c11 c12 c13 c14 c15 c16 c17 c18 c19 c20 c21 c22, l = [c0, c1, c2, c3, c4, c5, c6, c7, c8, c9, c10, c11, c12, c13, c14, c15, c16, c17, c18, c19, c20, c21, c22] := by
    match l, hl with
    | [c0, c1, c2, c3, c4, c5, c6, c7, c8, c9, c10, c11, c12, c13, c14, c15, c16, c17, c18, c19, c20, c21, c22], _ => exact ⟨c0, c1, c2, c3, c4, c5, c6, c7, c8, c9, c10, c11, c12, c13, c14, c15, c16, c17, c18, c19, c20, c21, c22, rfl⟩
  clear hsz hl hC hv
  obtain ⟨fuel, hf⟩ := h
  obtain ⟨xs, n, _, _, _, hlen, hg⟩ := DataW.trod_struct Tryz.underlying30 hf
  have hxs : xs.length = 22 := hlen
  clear hf hlen
  have kI : Tryz.prog.cellsOf 3 = 1 := by kernel_rfl
  have kR : Tryz.prog.cellsOf 24 = 2 := by kernel_rfl
  have kw : Tryz.prog.cellsOf 22 = 1 := by kernel_rfl
  have ke : Tryz.prog.cellsOf 25 = 1 := by kernel_rfl
  have kc : Tryz.prog.cellsOf 26 = 1 := by kernel_rfl
  have kr : Tryz.prog.cellsOf 27 = 1 := by kernel_rfl
  have kt : Tryz.prog.cellsOf 28 = 1 := by kernel_rfl
  have g0 : DataW.trod enc Tryz.prog w base spare held n 3 (([c0, c1, c2, c3, c4, c5, c6, c7, c8, c9, c10, c11, c12, c13, c14, c15, c16, c17, c18, c19, c20, c21, c22].drop 0).take (Tryz.prog.cellsOf 3)) = xs[0]? := hg 0 _ rfl
  rw [List.getElem?_eq_getElem (show 0 < xs.length by omega)] at g0
  obtain ⟨n0, e0, _, b0⟩ := DataW.trod_int Tryz.underlying3 g0
  rw [kI] at e0
  obtain rfl : c0 = .int .i64 n0 := by simpa using e0
  have g1 : DataW.trod enc Tryz.prog w base spare held n 22 (([.int .i64 n0, c1, c2, c3, c4, c5, c6, c7, c8, c9, c10, c11, c12, c13, c14, c15, c16, c17, c18, c19, c20, c21, c22].drop 1).take (Tryz.prog.cellsOf 22)) = xs[1]? := hg 1 _ rfl
  rw [List.getElem?_eq_getElem (show 1 < xs.length by omega)] at g1
  replace g1 : DataW.trod enc Tryz.prog w base spare held n 22 [c1] = some xs[1] := by
    have e : ((([.int .i64 n0, c1, c2, c3, c4, c5, c6, c7, c8, c9, c10, c11, c12, c13, c14, c15, c16, c17, c18, c19, c20, c21, c22] : List Value).drop 1).take 1) = [c1] := rfl
    rw [← e]; rw [kw] at g1; exact g1
  obtain ⟨A1, len1, cap1, rfl⟩ := slice_form Tryz.underlying22 g1
  obtain ⟨l1, rfl, m1, b1, r1⟩ := open_list3 Tryz.underlying22 intsWay g1
  have g2 : DataW.trod enc Tryz.prog w base spare held n 24 (([.int .i64 n0, .slice A1 l1.length cap1, c2, c3, c4, c5, c6, c7, c8, c9, c10, c11, c12, c13, c14, c15, c16, c17, c18, c19, c20, c21, c22].drop 2).take (Tryz.prog.cellsOf 24)) = xs[2]? := hg 2 _ rfl
  rw [List.getElem?_eq_getElem (show 2 < xs.length by omega)] at g2
  obtain ⟨z2, e2, q2, b2⟩ := intsRatio.2 _ _ _ _ _ _ _ _ _ g2
  obtain ⟨pa, pb, rfl⟩ := len2 q2
  rw [kR] at e2
  obtain ⟨rfl, rfl⟩ : c2 = .int .i64 pa ∧ c3 = .int .i64 pb := by simpa using e2
  have g3 : DataW.trod enc Tryz.prog w base spare held n 25 (([.int .i64 n0, .slice A1 l1.length cap1, .int .i64 pa, .int .i64 pb, c4, c5, c6, c7, c8, c9, c10, c11, c12, c13, c14, c15, c16, c17, c18, c19, c20, c21, c22].drop 4).take (Tryz.prog.cellsOf 25)) = xs[3]? := hg 3 _ rfl
  rw [List.getElem?_eq_getElem (show 3 < xs.length by omega)] at g3
  replace g3 : DataW.trod enc Tryz.prog w base spare held n 25 [c4] = some xs[3] := by
    have e : ((([.int .i64 n0, .slice A1 l1.length cap1, .int .i64 pa, .int .i64 pb, c4, c5, c6, c7, c8, c9, c10, c11, c12, c13, c14, c15, c16, c17, c18, c19, c20, c21, c22] : List Value).drop 4).take 1) = [c4] := rfl
    rw [← e]; rw [ke] at g3; exact g3
  obtain ⟨A3, len3, cap3, rfl⟩ := slice_form Tryz.underlying25 g3
  obtain ⟨l3, rfl, m3, b3, r3⟩ := open_list4 Tryz.underlying25 intsElement g3
  have g4 : DataW.trod enc Tryz.prog w base spare held n 26 (([.int .i64 n0, .slice A1 l1.length cap1, .int .i64 pa, .int .i64 pb, .slice A3 l3.length cap3, c5, c6, c7, c8, c9, c10, c11, c12, c13, c14, c15, c16, c17, c18, c19, c20, c21, c22].drop 5).take (Tryz.prog.cellsOf 26)) = xs[4]? := hg 4 _ rfl
  rw [List.getElem?_eq_getElem (show 4 < xs.length by omega)] at g4
  replace g4 : DataW.trod enc Tryz.prog w base spare held n 26 [c5] = some xs[4] := by
    have e : ((([.int .i64 n0, .slice A1 l1.length cap1, .int .i64 pa, .int .i64 pb, .slice A3 l3.length cap3, c5, c6, c7, c8, c9, c10, c11, c12, c13, c14, c15, c16, c17, c18, c19, c20, c21, c22] : List Value).drop 5).take 1) = [c5] := rfl
    rw [← e]; rw [kc] at g4; exact g4
  obtain ⟨A4, len4, cap4, rfl⟩ := slice_form Tryz.underlying26 g4
  obtain ⟨l4, rfl, m4, b4, r4⟩ := open_list2 Tryz.underlying26 intsRatio g4
  have g5 : DataW.trod enc Tryz.prog w base spare held n 26 (([.int .i64 n0, .slice A1 l1.length cap1, .int .i64 pa, .int .i64 pb, .slice A3 l3.length cap3, .slice A4 l4.length cap4, c6, c7, c8, c9, c10, c11, c12, c13, c14, c15, c16, c17, c18, c19, c20, c21, c22].drop 6).take (Tryz.prog.cellsOf 26)) = xs[5]? := hg 5 _ rfl
  rw [List.getElem?_eq_getElem (show 5 < xs.length by omega)] at g5
  replace g5 : DataW.trod enc Tryz.prog w base spare held n 26 [c6] = some xs[5] := by
    have e : ((([.int .i64 n0, .slice A1 l1.length cap1, .int .i64 pa, .int .i64 pb, .slice A3 l3.length cap3, .slice A4 l4.length cap4, c6, c7, c8, c9, c10, c11, c12, c13, c14, c15, c16, c17, c18, c19, c20, c21, c22] : List Value).drop 6).take 1) = [c6] := rfl
    rw [← e]; rw [kc] at g5; exact g5
  obtain ⟨A5, len5, cap5, rfl⟩ := slice_form Tryz.underlying26 g5
  obtain ⟨l5, rfl, m5, b5, r5⟩ := open_list2 Tryz.underlying26 intsRatio g5
  have g6 : DataW.trod enc Tryz.prog w base spare held n 3 (([.int .i64 n0, .slice A1 l1.length cap1, .int .i64 pa, .int .i64 pb, .slice A3 l3.length cap3, .slice A4 l4.length cap4, .slice A5 l5.length cap5, c7, c8, c9, c10, c11, c12, c13, c14, c15, c16, c17, c18, c19, c20, c21, c22].drop 7).take (Tryz.prog.cellsOf 3)) = xs[6]? := hg 6 _ rfl
  rw [List.getElem?_eq_getElem (show 6 < xs.length by omega)] at g6
  obtain ⟨n6, e6, _, b6⟩ := DataW.trod_int Tryz.underlying3 g6
  rw [kI] at e6
  obtain rfl : c7 = .int .i64 n6 := by simpa using e6
  have g7 : DataW.trod enc Tryz.prog w base spare held n 3 (([.int .i64 n0, .slice A1 l1.length cap1, .int .i64 pa, .int .i64 pb, .slice A3 l3.length cap3, .slice A4 l4.length cap4, .slice A5 l5.length cap5, .int .i64 n6, c8, c9, c10, c11, c12, c13, c14, c15, c16, c17, c18, c19, c20, c21, c22].drop 8).take (Tryz.prog.cellsOf 3)) = xs[7]? := hg 7 _ rfl
  rw [List.getElem?_eq_getElem (show 7 < xs.length by omega)] at g7
  obtain ⟨n7, e7, _, b7⟩ := DataW.trod_int Tryz.underlying3 g7
  rw [kI] at e7
  obtain rfl : c8 = .int .i64 n7 := by simpa using e7
  have g8 : DataW.trod enc Tryz.prog w base spare held n 3 (([.int .i64 n0, .slice A1 l1.length cap1, .int .i64 pa, .int .i64 pb, .slice A3 l3.length cap3, .slice A4 l4.length cap4, .slice A5 l5.length cap5, .int .i64 n6, .int .i64 n7, c9, c10, c11, c12, c13, c14, c15, c16, c17, c18, c19, c20, c21, c22].drop 9).take (Tryz.prog.cellsOf 3)) = xs[8]? := hg 8 _ rfl
  rw [List.getElem?_eq_getElem (show 8 < xs.length by omega)] at g8
  obtain ⟨n8, e8, _, b8⟩ := DataW.trod_int Tryz.underlying3 g8
  rw [kI] at e8
  obtain rfl : c9 = .int .i64 n8 := by simpa using e8
  have g9 : DataW.trod enc Tryz.prog w base spare held n 3 (([.int .i64 n0, .slice A1 l1.length cap1, .int .i64 pa, .int .i64 pb, .slice A3 l3.length cap3, .slice A4 l4.length cap4, .slice A5 l5.length cap5, .int .i64 n6, .int .i64 n7, .int .i64 n8, c10, c11, c12, c13, c14, c15, c16, c17, c18, c19, c20, c21, c22].drop 10).take (Tryz.prog.cellsOf 3)) = xs[9]? := hg 9 _ rfl
  rw [List.getElem?_eq_getElem (show 9 < xs.length by omega)] at g9
  obtain ⟨n9, e9, _, b9⟩ := DataW.trod_int Tryz.underlying3 g9
  rw [kI] at e9
  obtain rfl : c10 = .int .i64 n9 := by simpa using e9
  have g10 : DataW.trod enc Tryz.prog w base spare held n 3 (([.int .i64 n0, .slice A1 l1.length cap1, .int .i64 pa, .int .i64 pb, .slice A3 l3.length cap3, .slice A4 l4.length cap4, .slice A5 l5.length cap5, .int .i64 n6, .int .i64 n7, .int .i64 n8, .int .i64 n9, c11, c12, c13, c14, c15, c16, c17, c18, c19, c20, c21, c22].drop 11).take (Tryz.prog.cellsOf 3)) = xs[10]? := hg 10 _ rfl
  rw [List.getElem?_eq_getElem (show 10 < xs.length by omega)] at g10
  obtain ⟨n10, e10, _, b10⟩ := DataW.trod_int Tryz.underlying3 g10
  rw [kI] at e10
  obtain rfl : c11 = .int .i64 n10 := by simpa using e10
  have g11 : DataW.trod enc Tryz.prog w base spare held n 3 (([.int .i64 n0, .slice A1 l1.length cap1, .int .i64 pa, .int .i64 pb, .slice A3 l3.length cap3, .slice A4 l4.length cap4, .slice A5 l5.length cap5, .int .i64 n6, .int .i64 n7, .int .i64 n8, .int .i64 n9, .int .i64 n10, c12, c13, c14, c15, c16, c17, c18, c19, c20, c21, c22].drop 12).take (Tryz.prog.cellsOf 3)) = xs[11]? := hg 11 _ rfl
  rw [List.getElem?_eq_getElem (show 11 < xs.length by omega)] at g11
  obtain ⟨n11, e11, _, b11⟩ := DataW.trod_int Tryz.underlying3 g11
  rw [kI] at e11
  obtain rfl : c12 = .int .i64 n11 := by simpa using e11
  have g12 : DataW.trod enc Tryz.prog w base spare held n 3 (([.int .i64 n0, .slice A1 l1.length cap1, .int .i64 pa, .int .i64 pb, .slice A3 l3.length cap3, .slice A4 l4.length cap4, .slice A5 l5.length cap5, .int .i64 n6, .int .i64 n7, .int .i64 n8, .int .i64 n9, .int .i64 n10, .int .i64 n11, c13, c14, c15, c16, c17, c18, c19, c20, c21, c22].drop 13).take (Tryz.prog.cellsOf 3)) = xs[12]? := hg 12 _ rfl
  rw [List.getElem?_eq_getElem (show 12 < xs.length by omega)] at g12
  obtain ⟨n12, e12, _, b12⟩ := DataW.trod_int Tryz.underlying3 g12
  rw [kI] at e12
  obtain rfl : c13 = .int .i64 n12 := by simpa using e12
  have g13 : DataW.trod enc Tryz.prog w base spare held n 3 (([.int .i64 n0, .slice A1 l1.length cap1, .int .i64 pa, .int .i64 pb, .slice A3 l3.length cap3, .slice A4 l4.length cap4, .slice A5 l5.length cap5, .int .i64 n6, .int .i64 n7, .int .i64 n8, .int .i64 n9, .int .i64 n10, .int .i64 n11, .int .i64 n12, c14, c15, c16, c17, c18, c19, c20, c21, c22].drop 14).take (Tryz.prog.cellsOf 3)) = xs[13]? := hg 13 _ rfl
  rw [List.getElem?_eq_getElem (show 13 < xs.length by omega)] at g13
  obtain ⟨n13, e13, _, b13⟩ := DataW.trod_int Tryz.underlying3 g13
  rw [kI] at e13
  obtain rfl : c14 = .int .i64 n13 := by simpa using e13
  have g14 : DataW.trod enc Tryz.prog w base spare held n 3 (([.int .i64 n0, .slice A1 l1.length cap1, .int .i64 pa, .int .i64 pb, .slice A3 l3.length cap3, .slice A4 l4.length cap4, .slice A5 l5.length cap5, .int .i64 n6, .int .i64 n7, .int .i64 n8, .int .i64 n9, .int .i64 n10, .int .i64 n11, .int .i64 n12, .int .i64 n13, c15, c16, c17, c18, c19, c20, c21, c22].drop 15).take (Tryz.prog.cellsOf 3)) = xs[14]? := hg 14 _ rfl
  rw [List.getElem?_eq_getElem (show 14 < xs.length by omega)] at g14
  obtain ⟨n14, e14, _, b14⟩ := DataW.trod_int Tryz.underlying3 g14
  rw [kI] at e14
  obtain rfl : c15 = .int .i64 n14 := by simpa using e14
  have g15 : DataW.trod enc Tryz.prog w base spare held n 3 (([.int .i64 n0, .slice A1 l1.length cap1, .int .i64 pa, .int .i64 pb, .slice A3 l3.length cap3, .slice A4 l4.length cap4, .slice A5 l5.length cap5, .int .i64 n6, .int .i64 n7, .int .i64 n8, .int .i64 n9, .int .i64 n10, .int .i64 n11, .int .i64 n12, .int .i64 n13, .int .i64 n14, c16, c17, c18, c19, c20, c21, c22].drop 16).take (Tryz.prog.cellsOf 3)) = xs[15]? := hg 15 _ rfl
  rw [List.getElem?_eq_getElem (show 15 < xs.length by omega)] at g15
  obtain ⟨n15, e15, _, b15⟩ := DataW.trod_int Tryz.underlying3 g15
  rw [kI] at e15
  obtain rfl : c16 = .int .i64 n15 := by simpa using e15
  have g16 : DataW.trod enc Tryz.prog w base spare held n 3 (([.int .i64 n0, .slice A1 l1.length cap1, .int .i64 pa, .int .i64 pb, .slice A3 l3.length cap3, .slice A4 l4.length cap4, .slice A5 l5.length cap5, .int .i64 n6, .int .i64 n7, .int .i64 n8, .int .i64 n9, .int .i64 n10, .int .i64 n11, .int .i64 n12, .int .i64 n13, .int .i64 n14, .int .i64 n15, c17, c18, c19, c20, c21, c22].drop 17).take (Tryz.prog.cellsOf 3)) = xs[16]? := hg 16 _ rfl
  rw [List.getElem?_eq_getElem (show 16 < xs.length by omega)] at g16
  obtain ⟨n16, e16, _, b16⟩ := DataW.trod_int Tryz.underlying3 g16
  rw [kI] at e16
  obtain rfl : c17 = .int .i64 n16 := by simpa using e16
  have g17 : DataW.trod enc Tryz.prog w base spare held n 27 (([.int .i64 n0, .slice A1 l1.length cap1, .int .i64 pa, .int .i64 pb, .slice A3 l3.length cap3, .slice A4 l4.length cap4, .slice A5 l5.length cap5, .int .i64 n6, .int .i64 n7, .int .i64 n8, .int .i64 n9, .int .i64 n10, .int .i64 n11, .int .i64 n12, .int .i64 n13, .int .i64 n14, .int .i64 n15, .int .i64 n16, c18, c19, c20, c21, c22].drop 18).take (Tryz.prog.cellsOf 27)) = xs[17]? := hg 17 _ rfl
  rw [List.getElem?_eq_getElem (show 17 < xs.length by omega)] at g17
  replace g17 : DataW.trod enc Tryz.prog w base spare held n 27 [c18] = some xs[17] := by
    have e : ((([.int .i64 n0, .slice A1 l1.length cap1, .int .i64 pa, .int .i64 pb, .slice A3 l3.length cap3, .slice A4 l4.length cap4, .slice A5 l5.length cap5, .int .i64 n6, .int .i64 n7, .int .i64 n8, .int .i64 n9, .int .i64 n10, .int .i64 n11, .int .i64 n12, .int .i64 n13, .int .i64 n14, .int .i64 n15, .int .i64 n16, c18, c19, c20, c21, c22] : List Value).drop 18).take 1) = [c18] := rfl
    rw [← e]; rw [kr] at g17; exact g17
  obtain ⟨A17, len17, cap17, rfl⟩ := slice_form Tryz.underlying27 g17
  obtain ⟨l17, rfl, m17, b17, r17⟩ := open_list1 Tryz.underlying27 intsInt g17
  have g18 : DataW.trod enc Tryz.prog w base spare held n 3 (([.int .i64 n0, .slice A1 l1.length cap1, .int .i64 pa, .int .i64 pb, .slice A3 l3.length cap3, .slice A4 l4.length cap4, .slice A5 l5.length cap5, .int .i64 n6, .int .i64 n7, .int .i64 n8, .int .i64 n9, .int .i64 n10, .int .i64 n11, .int .i64 n12, .int .i64 n13, .int .i64 n14, .int .i64 n15, .int .i64 n16, .slice A17 l17.length cap17, c19, c20, c21, c22].drop 19).take (Tryz.prog.cellsOf 3)) = xs[18]? := hg 18 _ rfl
  rw [List.getElem?_eq_getElem (show 18 < xs.length by omega)] at g18
  obtain ⟨n18, e18, _, b18⟩ := DataW.trod_int Tryz.underlying3 g18
  rw [kI] at e18
  obtain rfl : c19 = .int .i64 n18 := by simpa using e18
  have g19 : DataW.trod enc Tryz.prog w base spare held n 3 (([.int .i64 n0, .slice A1 l1.length cap1, .int .i64 pa, .int .i64 pb, .slice A3 l3.length cap3, .slice A4 l4.length cap4, .slice A5 l5.length cap5, .int .i64 n6, .int .i64 n7, .int .i64 n8, .int .i64 n9, .int .i64 n10, .int .i64 n11, .int .i64 n12, .int .i64 n13, .int .i64 n14, .int .i64 n15, .int .i64 n16, .slice A17 l17.length cap17, .int .i64 n18, c20, c21, c22].drop 20).take (Tryz.prog.cellsOf 3)) = xs[19]? := hg 19 _ rfl
  rw [List.getElem?_eq_getElem (show 19 < xs.length by omega)] at g19
  obtain ⟨n19, e19, _, b19⟩ := DataW.trod_int Tryz.underlying3 g19
  rw [kI] at e19
  obtain rfl : c20 = .int .i64 n19 := by simpa using e19
  have g20 : DataW.trod enc Tryz.prog w base spare held n 3 (([.int .i64 n0, .slice A1 l1.length cap1, .int .i64 pa, .int .i64 pb, .slice A3 l3.length cap3, .slice A4 l4.length cap4, .slice A5 l5.length cap5, .int .i64 n6, .int .i64 n7, .int .i64 n8, .int .i64 n9, .int .i64 n10, .int .i64 n11, .int .i64 n12, .int .i64 n13, .int .i64 n14, .int .i64 n15, .int .i64 n16, .slice A17 l17.length cap17, .int .i64 n18, .int .i64 n19, c21, c22].drop 21).take (Tryz.prog.cellsOf 3)) = xs[20]? := hg 20 _ rfl
  rw [List.getElem?_eq_getElem (show 20 < xs.length by omega)] at g20
  obtain ⟨n20, e20, _, b20⟩ := DataW.trod_int Tryz.underlying3 g20
  rw [kI] at e20
  obtain rfl : c21 = .int .i64 n20 := by simpa using e20
  have g21 : DataW.trod enc Tryz.prog w base spare held n 28 (([.int .i64 n0, .slice A1 l1.length cap1, .int .i64 pa, .int .i64 pb, .slice A3 l3.length cap3, .slice A4 l4.length cap4, .slice A5 l5.length cap5, .int .i64 n6, .int .i64 n7, .int .i64 n8, .int .i64 n9, .int .i64 n10, .int .i64 n11, .int .i64 n12, .int .i64 n13, .int .i64 n14, .int .i64 n15, .int .i64 n16, .slice A17 l17.length cap17, .int .i64 n18, .int .i64 n19, .int .i64 n20, c22].drop 22).take (Tryz.prog.cellsOf 28)) = xs[21]? := hg 21 _ rfl
  rw [List.getElem?_eq_getElem (show 21 < xs.length by omega)] at g21
  replace g21 : DataW.trod enc Tryz.prog w base spare held n 28 [c22] = some xs[21] := by
    have e : ((([.int .i64 n0, .slice A1 l1.length cap1, .int .i64 pa, .int .i64 pb, .slice A3 l3.length cap3, .slice A4 l4.length cap4, .slice A5 l5.length cap5, .int .i64 n6, .int .i64 n7, .int .i64 n8, .int .i64 n9, .int .i64 n10, .int .i64 n11, .int .i64 n12, .int .i64 n13, .int .i64 n14, .int .i64 n15, .int .i64 n16, .slice A17 l17.length cap17, .int .i64 n18, .int .i64 n19, .int .i64 n20, c22] : List Value).drop 22).take 1) = [c22] := rfl
    rw [← e]; rw [kt] at g21; exact g21
  obtain ⟨A21, len21, cap21, rfl⟩ := slice_form Tryz.underlying28 g21
  obtain ⟨l21, rfl, m21, b21, r21⟩ := open_list2 Tryz.underlying28 intsTier g21
  refine ⟨⟨n0, n6, n7, n8, n9, n10, n11, n12, n13, n14, n15, n16, n18, n19, n20, (pa, pb), l1, l3, l4, l5, l17, l21⟩, ⟨A1, A3, A4, A5, A17, A21, cap1, cap3, cap4, cap5, cap17, cap21⟩, rfl, ?_, ?_⟩
  · exact ⟨wf_b64 b0, wf_b64 b6, wf_b64 b7, wf_b64 b8, wf_b64 b9, wf_b64 b10, wf_b64 b11, wf_b64 b12, wf_b64 b13, wf_b64 b14, wf_b64 b15, wf_b64 b16, wf_b64 b18, wf_b64 b19, wf_b64 b20, ⟨b2 pa (by simp), b2 pb (by simp)⟩, ⟨m1, b1⟩, ⟨m3, b3⟩, ⟨m4, b4⟩, ⟨m5, b5⟩, ⟨m17, b17⟩, ⟨m21, b21⟩⟩
  · exact ⟨r1, r3, r4, r5, r17, r21⟩
end Go.Proofs.YtnhmibfgaoealaaGreat
