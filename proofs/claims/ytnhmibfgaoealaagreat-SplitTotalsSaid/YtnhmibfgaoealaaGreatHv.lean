/-
  Parts of a week in memory: rows of three cells, one put behind a row of the call's own, and the library's sort of them.
  The closure of split.Parts that puts spans of a category behind what there is.
  The parts of a week, of a setup: plain theory.
  split.Parts by contract.
-/
import Derived.Test.YtnhmibfgaoealaaGreatMo
import Derived.Test.YtnhmibfgaoealaaGreatDp
import Derived.Test.YtnhmibfgaoealaaGreatSor
import Derived.Test.YtnhmibfgaoealaaGreatKh
import Derived.Test.YtnhmibfgaoealaaGreatOw
import Derived.Test.YtnhmibfgaoealaaGreatLb
namespace Go.Proofs.YtnhmibfgaoealaaGreat
open Go.RowKit Go.Sort Go.Shelf Go.Proofs
set_option linter.unusedVariables false
set_option linter.unusedSimpArgs false

def encP (x : Pt) : List Value := [.int .i64 x.1.1, .int .i64 x.1.2, .int .i64 x.2]
theorem encP_len (x : Pt) : (encP x).length = 3 := rfl
/-- The slice at A reads as these parts. -/
def Ps (w : World) (A : Option Addr) (l : List Pt) : Prop := Rd encP 3 w w.heap.size A l
theorem Ps.ext {w w' : World} {A : Option Addr} {l : List Pt} (h : Ps w A l) (k : Ext w w') : Ps w' A l := (Rd.below h k).more k.size
theorem Ps.alloc {w : World} {A : Option Addr} {l : List Pt} (h : Ps w A l) (o : Obj) : Ps (w.alloc o) A l := h.ext ((Ext.refl w).alloc o)
theorem Ps.drewN {w : World} {A : Option Addr} {l : List Pt} (h : Ps w A l) (n : Nat) : Ps (w.drewN n) A l := h.ext ((Ext.refl w).drewN n)
theorem Ps.nil {w : World} {A : Option Addr} : Ps w A [] := Rd.nil
theorem Ps.own {w : World} {A : Option Addr} {n cap base e : Nat} {l : List Pt} (h : w.ownsRow base e 3 (.slice A n cap) l.length (flat encP l)) : Ps w A l := Rd.of_own encP_len h
theorem Ps.new_at (w : World) (l : List Pt) (t : TypeId) (g : Nat) (hg : g = w.heap.size) : Ps (w.alloc (.cells (flat encP l).toArray t)) (some ⟨g, 0, none⟩) l := by
  subst hg
  exact fun _ => ⟨w.heap.size, 0, rfl, by simp, fun j hj i u hu => by
    have hi : i < 3 := by have := (List.getElem?_eq_some_iff.1 hu).1; rwa [encP_len] at this
    have := cells_new w (flat encP l) t (j * 3 + i) u (by rw [flat_at encP_len l j hj i hi]; exact hu)
    rw [add_head] at this
    rw [Nat.zero_add]; exact this⟩
theorem Ps.atG {w w' : World} {A : Option Addr} {l : List Pt} (h : Ps w A l) (hX : Ext w w') {j : Nat} (hj : j < l.length) :
    ∃ b off p q c, A = some ⟨b, off, none⟩ ∧ b < w.heap.size ∧ Hid (l[j]? = some ((p, q), c)) ∧ w'.cell? ⟨b, off + j * 3, none⟩ = some (.int .i64 p) ∧ w'.cell? ⟨b, off + j * 3 + 1, none⟩ = some (.int .i64 q) ∧ w'.cell? ⟨b, off + j * 3 + 2, none⟩ = some (.int .i64 c) := by
  obtain ⟨b, off, x, hA, hlt, hx, hc⟩ := (Rd.below h hX).at_ hj
  exact ⟨b, off, x.1.1, x.1.2, x.2, hA, hlt, hx, hc 0 _ rfl, hc 1 _ rfl, hc 2 _ rfl⟩
theorem own_nilP (w : World) (b : Nat) : w.ownsRow b 47 3 (.slice none 0 0) 0 (flat encP []) := ⟨rfl, .inl ⟨rfl, rfl⟩⟩

theorem info_part : (Tryz.prog.info? 47).map (fun i => (i.zero, i.size, i.bytes)) = some (some (.agg #[.int .i64 0, .int .i64 0, .int .i64 0]), 3, 24) := by kernel_rfl

/-- A part put behind a row of the call's own. -/
theorem app_part {ops : Array Oper} {rest : List Oper} {o : Oper} {a : Act} {Q : Exit → Act → World → Prop} (w : World) (s x : Operand) (hgd : o.guard = none)
    (ho : o.op = .call { callee := .builtin .append, args := #[s, x], argTypes := #[40, 40] })
    (base n : Nat) (v : Value) (l : List Pt) (hs : a.eval s = v) (hown : w.ownsRow base 47 3 v n (flat encP l)) (y : Pt) (g c : Nat)
    (hx : a.eval x = .slice (some ⟨g, 0, none⟩) 1 c) (hg : ∀ i u, (encP y)[i]? = some u → w.cell? ⟨g, i, none⟩ = some u)
    (hn : n ≤ 100000000) (hbase : base ≤ w.heap.size)
    (h : ∀ v' w', w'.ownsRow base 47 3 v' (n + 1) (flat encP (l ++ [y])) → w.grownBy w' v.ownBlock → (v'.ownBlock = v.ownBlock ∨ v'.ownBlock = some w.heap.size) → wpList Tryz.prog ops Q rest (a.put o.dst v') w') : wpList Tryz.prog ops Q (o :: rest) a w := by
  obtain ⟨i0, hi, hz0, hz1, hz2⟩ := info_parts info_part
  refine wpList_append_at w hgd s x 40 ho base 47 i0 (.agg #[.int .i64 0, .int .i64 0, .int .i64 0]) 3 24 Tryz.underlying40 hi hz0 hz1 hz2 rfl (by decide) v n (flat encP l) hs hown ⟨g, 0, none⟩ 1 c (encP y) hx rfl ?_ ?_ (by unfold maxLen; omega) (by omega) hbase ?_
  · intro j u hj
    rw [add_head]
    exact hg j u hj
  · intro u hu; simp [encP] at hu; rcases hu with rfl | rfl | rfl <;> rfl
  · intro v' w' ho' hg hv
    exact h v' w' (by rw [flat_append]; simpa [flat] using ho') hg hv
theorem part_cells (w : World) (y : Pt) (g : Nat) (hg : g = w.heap.size) (i : Nat) (u : Value) (h : (encP y)[i]? = some u) : (w.alloc (.cells (encP y).toArray 47)).cell? ⟨g, i, none⟩ = some u := by
  have := cell_of_row (w.alloc (.cells (encP y).toArray 47)) g i (encP y).toArray 47 (0, 0) (by rw [hg]; exact heap_alloc_new _ _)
  rw [this]
  simpa using h

/-- Only a box and one row are written. -/
structure Kb (B : Nat) (ob : Option Nat) (W W' : World) : Prop where
  size : W.heap.size ≤ W'.heap.size
  keep : ∀ k, k < W.heap.size → k ≠ B → some k ≠ ob → W'.heap[k]? = W.heap[k]?
theorem Kb.refl (B : Nat) (ob : Option Nat) (W : World) : Kb B ob W W := ⟨Nat.le_refl _, fun _ _ _ _ => rfl⟩
def Og (ob ob' : Option Nat) (n : Nat) : Prop := ob' = ob ∨ ∃ g, ob' = some g ∧ n ≤ g
theorem Og.trans {a b c : Option Nat} {m n : Nat} (h : Og a b m) (k : Og b c n) (hm : m ≤ n) : Og a c m := by
  rcases k with k | ⟨g, hg, hn⟩
  · rw [k]; exact h
  · exact .inr ⟨g, hg, by omega⟩
theorem Kb.trans {B : Nat} {a b : Option Nat} {X Y Z : World} (h : Kb B a X Y) (o : Og a b X.heap.size) (k : Kb B b Y Z) : Kb B a X Z :=
  ⟨Nat.le_trans h.size k.size, fun j h1 h2 h3 => (k.keep j (Nat.lt_of_lt_of_le h1 h.size) h2 (by
    rcases o with o | ⟨g, hg, hn⟩
    · rw [o]; exact h3
    · rw [hg]; intro e; cases e; omega)).trans (h.keep j h1 h2 h3)⟩
theorem Kb.grown {B : Nat} {ob : Option Nat} {W W' : World} (h : W.grownBy W' ob) : Kb B ob W W' := ⟨h.size, fun k h1 _ h3 => h.block k h1 h3⟩
theorem Kb.box {B : Nat} {ob : Option Nat} {W W' : World} (h : W.grownBy W' (some B)) : Kb B ob W W' := ⟨h.size, fun k h1 h2 _ => h.block k h1 (by intro e; cases e; exact h2 rfl)⟩
theorem Kb.ext {B : Nat} {ob : Option Nat} {W W' : World} (h : Ext W W') : Kb B ob W W' := ⟨h.size, fun k h1 _ _ => h.block k h1⟩
theorem Kb.rs {B : Nat} {ob : Option Nat} {W W' : World} {A : Option Addr} {l : List Sp.S} (h : Rs W A l) (k : Kb B ob W W') (hne : ∀ b off, A = some ⟨b, off, none⟩ → b ≠ B ∧ some b ≠ ob) : Rs W' A l := fun hl => by
  obtain ⟨b, off, hA, hb, hc⟩ := h hl
  refine ⟨b, off, hA, Nat.lt_of_lt_of_le hb k.size, fun j hj i u hu => ?_⟩
  have e := k.keep b hb (hne b off hA).1 (hne b off hA).2
  have e2 : W'.cell? ⟨b, off + j * 2 + i, none⟩ = W.cell? ⟨b, off + j * 2 + i, none⟩ := World.cell?_of_block (w := W) e
  exact e2.trans (hc j hj i u hu)

set_option maxHeartbeats 400000 in
theorem partClosure (x y : Pt) (W : World) : Calls Tryz.prog 49 #[.agg #[.int .i64 x.1.1, .int .i64 x.1.2, .int .i64 x.2], .agg #[.int .i64 y.1.1, .int .i64 y.1.2, .int .i64 y.2]] W fun e w' => e = .returned (.int .i64 (cmpI x.1.1 y.1.1)) ∧ ∃ q os', w' = grow (W.drewN q) os' := by
  have hcon := fun W' => compare_any x.1.1 y.1.1 W'
  generalize cmpI x.1.1 y.1.1 = r at hcon ⊢
  go_enter Tryz.func49, Tryz.ntmps49
  go_wp2_with (go_at_call 50; refine (hcon _).mono ?_; rintro e w' ⟨rfl, rfl⟩)
  go_ret
  exact ⟨rfl, 0, _, by rw [alloc_eq_grow, alloc_eq_grow, grow_grow]; rfl⟩

theorem cmpLaysP (blk off size : Nat) (w : World) : CmpLays Tryz.prog 49 #[] encP 3 (fun x y => cmpI x.1.1 y.1.1) blk off size w :=
  fun _ _ _ _ x y => partClosure x y _
theorem ltP (x y : Pt) : ltOf (fun x y : Pt => cmpI x.1.1 y.1.1) x y = decide (x.1.1 < y.1.1) := by
  unfold ltOf cmpI
  by_cases h1 : x.1.1 < y.1.1
  · simp [h1]
  · by_cases h2 : y.1.1 < x.1.1 <;> simp [h1, h2]
theorem swoP : SWO (ltOf fun x y : Pt => cmpI x.1.1 y.1.1) where
  irrefl x := by rw [ltP]; simp
  trans x y z h1 h2 := by rw [ltP] at *; simp at *; omega
  ntrans x y z h1 h2 := by rw [ltP] at *; simp at *; omega

set_option maxHeartbeats 400000 in
theorem insP_none (f : Value) (w : World) : Calls Tryz.prog 111 #[.slice none 0 0, .int .i64 0, .int .i64 0, f] w fun e w' => e = .returned (.tuple #[]) ∧ w = w' := by
  go_enter Tryz.func111, Tryz.ntmps111
  go_wp2
  refine wp_loop_rounds 1 ?_
  rw [rounds_succ]
  go_wp2
  go_end0
  exact ⟨rfl, rfl⟩

set_option maxHeartbeats 400000 in
theorem pdqP_none (f : Value) (L : Int) (w : World) : Calls Tryz.prog 86 #[.slice none 0 0, .int .i64 0, .int .i64 0, .int .i64 L, f] w fun e w' => e = .returned (.tuple #[]) ∧ w = w' := by
  go_enter Tryz.func86, Tryz.ntmps86
  go_wp2
  refine wp_loop_rounds 1 ?_
  rw [rounds_succ]
  go_wp2_with (go_at_call 111; refine (insP_none _ _).mono ?_; rintro e w' ⟨rfl, rfl⟩)
  exact bodyPost_ret (results_none rfl _ _ _) rfl ⟨rfl, rfl⟩

set_option maxRecDepth 100000 in
set_option maxHeartbeats 1000000 in
theorem sortP_none (f : Value) (w : World) : Calls Tryz.prog 48 #[.slice none 0 0, f] w fun e w' => e = .returned (.tuple #[]) ∧ w = w' := by
  go_enter Tryz.func48, Tryz.ntmps48
  go_wp2_with (first | (go_at_call 86; refine (pdqP_none _ _ _).mono ?_; rintro e w' ⟨rfl, rfl⟩) | (go_in))
  go_end0
  exact ⟨rfl, rfl⟩

/-- The library's sort of parts. -/
theorem sort_part (l : List Pt) (A : Option Addr) (cap base : Nat) (w : World) (hown : w.ownsRow base 47 3 (.slice A l.length cap) l.length (flat encP l)) (hl : l.length ≤ 1000000000000) :
    Calls Tryz.prog 48 #[.slice A l.length cap, .func (.func 49) #[] #[]] w fun e w' => e = .returned (.tuple #[]) ∧
      ∃ m : List Pt, Hid (m.Perm l) ∧ Hid (m.Pairwise fun a b => a.1.1 ≤ b.1.1) ∧ Hid (w'.ownsRow base 47 3 (.slice A l.length cap) l.length (flat encP m)) ∧ Below base w w' := by
  rcases hown.2 with ⟨h0, hn⟩ | ⟨g, cap', cur, hv, hbase, hb, h1, h2, h3, h4⟩
  · injection h0 with hA hl0 hc
    subst hA
    have hl1 : l = [] := List.eq_nil_of_length_eq_zero hn
    subst hl1
    subst hc
    refine Calls.mono (sortP_none _ w) ?_
    rintro e w' ⟨rfl, rfl⟩
    exact ⟨rfl, [], .refl _, .nil, hown, Below.refl _ _⟩
  · injection hv with hA _ hc
    subst hA; subst hc
    have eg : ∀ args w, (callFunc 49 args).run Tryz.prog w = .ok (.enter 49 args) w := enters_of Tryz.func49 (by kernel_rfl) rfl
    have hcon := AnyQ.slices_SortFunc Tryz.sortPart 3 Tryz.isAgg47 Tryz.sizeOf47 encP (fun _ => rfl) (fun x v hv => by simp [encP] at hv; rcases hv with rfl | rfl | rfl <;> rfl) (fun x y => cmpI x.1.1 y.1.1) swoP 49 #[] g 0 cap l.toArray w eg (cmpLaysP _ _ _ _)
      (holdsK_of_block encP_len hb h4) (Array.getElem?_eq_some_iff.1 hb).1 (by simp; omega)
    have hsz : l.toArray.size = l.length := by simp
    rw [hsz] at hcon
    refine Calls.mono hcon ?_
    rintro e w' ⟨rfl, d', n, os, hp, hs, rfl⟩
    have hps : d'.size = l.length := by rw [hp.1, hsz]
    have hperm : d'.toList.Perm l := by
      have := hp.2.2
      rw [← hps] at this
      have e1 : (d'.extract 0 d'.size).toList = d'.toList := by simp
      have e2 : (l.toArray.extract 0 d'.size).toList = l := by rw [hps]; simp
      rwa [e1, e2] at this
    refine ⟨rfl, d'.toList, hperm, ?_, ?_, Below.grown (Below.refl _ _) (grownBy_sortedK _) ?_ ?_⟩
    · refine List.pairwise_iff_getElem.2 fun i j hi hj hij => ?_
      have := hs i j (Nat.zero_le _) hij (by rw [← hps]; simpa using hj)
      rw [ltP, getElem!_pos d' j (by simpa using hj), getElem!_pos d' i (by simpa using hi)] at this
      simp at this ⊢; exact this
    · have := ownsRow_sortedK (enc := encP) (w := w) (n := n) (os := os) encP_len (l := l) (m := d'.toList) (by rw [← hps]; simp) hbase hb h1 h2 h3
      rw [Array.toArray_toList] at this; exact this
    · exact Nat.le_trans hbase (Nat.le_of_lt (Array.getElem?_eq_some_iff.1 hb).1)
    · intro k hk; cases hk; exact hbase
theorem intsPart : IntsAt Tryz.prog 47 3 := ints_struct (fun _ => 1) Tryz.underlying47 (fun i f hi => by
  match i, hi with
  | 0, hi => cases hi; exact ⟨intsInt, rfl⟩
  | 1, hi => cases hi; exact ⟨intsInt, rfl⟩
  | 2, hi => cases hi; exact ⟨intsInt, rfl⟩
  | n + 3, hi => exact absurd hi (by simp)) (by kernel_rfl)
def mk3P : List Int → Pt
  | [a, b, c] => ((a, b), c)
  | _ => ((0, 0), 0)
theorem len3P {z : List Int} (h : z.length = 3) : ∃ a b c, z = [a, b, c] := by
  match z, h with
  | [a, b, c], _ => exact ⟨a, b, c, rfl⟩
open Go.ChangeShapes Go.WideShapes Go.ChangeAt Go.Deep in
theorem open_parts {H : Type} {enc : TypeId × Value → H} {w : World} {base : Nat} {spare : Nat → Bool} {held : Bool} {A : Option Addr} {len cap : Nat} {d : DataW H} {p : List MemPlace} (h : DataW.Trod enc Tryz.prog w base spare held 40 (.slice A len cap) d p) :
    ∃ l : List Pt, len = l.length ∧ l.length ≤ maxLen ∧ Ps w A l := by
  obtain ⟨fuel, hf⟩ := h
  obtain ⟨L, h1, h2, h3, h4⟩ := open_rows Tryz.underlying40 intsPart (by omega) hf
  refine ⟨L.map mk3P, by simpa using h1, by simpa using h2, h4.conv _ fun z hz => ?_⟩
  obtain ⟨a, b, c, rfl⟩ := len3P (h3 z hz).1
  rfl
end Go.Proofs.YtnhmibfgaoealaaGreat
namespace Go.Proofs.YtnhmibfgaoealaaGreat
open Go.RowKit
set_option linter.unusedVariables false
set_option linter.unusedSimpArgs false

theorem pput_done {W w1 : World} {B k m : Nat} {v v' : Value} {xs ys : List Value} {tmp : Obj} (hv : Boxed W B 40 v) (hrow : W.ownsRow (B + 1) 47 3 v k xs)
    (hown' : w1.ownsRow (B + 1) 47 3 v' m ys) (hgrow : (W.alloc tmp).grownBy w1 v.ownBlock) :
    Boxed w1 B 40 v ∧ Boxed (w1.setCell ⟨B, 0, none⟩ v') B 40 v' ∧ (w1.setCell ⟨B, 0, none⟩ v').ownsRow (B + 1) 47 3 v' m ys ∧ Below B W (w1.setCell ⟨B, 0, none⟩ v') ∧ Kb B v.ownBlock W (w1.setCell ⟨B, 0, none⟩ v') := by
  have hte : 40 ≠ 47 := by decide
  have hlt := hv.lt
  have hv1 : Boxed w1 B 40 v := (hv.alloc tmp).kept hgrow (hv.not_row hte hrow)
  have hr : ∀ g, v.ownBlock = some g → B + 1 ≤ g := fun g hg => (hrow.lt g hg).1
  refine ⟨hv1, hv1.set v', hown'.kept (grownBy_setCell' w1 B v') (.inr (hv1.not_row hte hown').symm),
    (((Below.refl B W).alloc (by omega) tmp).grown hgrow (by simp; omega) fun g hg => by have := hr g hg; omega).setCell (p := ⟨B, 0, none⟩) (Nat.le_refl _) v', ?_⟩
  have k1 : Kb B v.ownBlock W (W.alloc tmp) := Kb.ext ((Ext.refl W).alloc tmp)
  have k2 : Kb B v.ownBlock (W.alloc tmp) w1 := Kb.grown hgrow
  have k3 : Kb B v.ownBlock w1 (w1.setCell ⟨B, 0, none⟩ v') := Kb.box (grownBy_setCell' w1 B v')
  exact (k1.trans (.inl rfl) k2).trans (.inl rfl) k3

theorem tag_snoc (c : Int) (l : List Sp.S) (x : Sp.S) : tag c (l ++ [x]) = tag c l ++ [(x, c)] := by simp [tag]
theorem tag_len (c : Int) (l : List Sp.S) : (tag c l).length = l.length := by simp [tag]

set_option maxRecDepth 100000 in
set_option maxHeartbeats 1000000 in
theorem pput (B : Nat) (out : List Pt) (v : Value) (l : List Sp.S) (A : Option Addr) (c : Nat) (cat : Int) (w : World) (hv : Boxed w B 40 v) (hown : w.ownsRow (B + 1) 47 3 v out.length (flat encP out))
    (hr : Rs w A l) (hne : ∀ b off, A = some ⟨b, off, none⟩ → b ≠ B ∧ some b ≠ v.ownBlock) (hl : out.length + l.length ≤ 90000000) :
    Calls Tryz.prog 47 #[.slice A l.length c, .int .i64 cat, .pointer (some ⟨B, 0, none⟩)] w fun e w' => (∃ r, e = .returned r) ∧ ∃ v', Boxed w' B 40 v' ∧ w'.ownsRow (B + 1) 47 3 v' (out ++ tag cat l).length (flat encP (out ++ tag cat l)) ∧ Below B w w' ∧ Kb B v.ownBlock w w' ∧ Og v.ownBlock v'.ownBlock w.heap.size := by
  have hB := hv.lt
  have hR := Lib.hid hr; have hNE := Lib.hid hne; have HV0 := Lib.hid hv; have HO0 := Lib.hid hown
  obtain ⟨ob, hob0⟩ : ∃ ob, v.ownBlock = ob := ⟨_, rfl⟩
  have hOb := Lib.hid hob0
  clear hr hne hv hown
  go_enter Tryz.func47, Tryz.ntmps47
  go_wp2_with fail
  go_loopw [9] (fun i wr => ∃ (k : Nat) (v' : Value), k ≤ l.length ∧ i = .int .i64 k ∧ Hid (Boxed wr B 40 v') ∧ Hid (wr.ownsRow (B + 1) 47 3 v' (out ++ tag cat (l.take k)).length (flat encP (out ++ tag cat (l.take k)))) ∧ Hid (Below B w wr) ∧ Hid (Kb B v.ownBlock w wr) ∧ Hid (Og v.ownBlock v'.ownBlock w.heap.size)) (fun i _ => l.length - (intOf i).toNat)
  case atStart => exact ⟨0, v, Nat.zero_le _, rfl, HV0.out, (by show World.ownsRow _ _ _ _ _ _ _; rw [show out ++ tag cat (l.take 0) = out from by simp [tag]]; exact HO0.out), Below.refl _ _, Kb.refl _ _ _, .inl rfl⟩
  case round =>
    clear HV0 HO0
    obtain ⟨k, v', hk, rfl, HV, HO, HM, HK, HG⟩ := hrel
    by_cases hlt : k < l.length
    · have hW := Kb.rs hR.out HK.out hNE.out
      obtain ⟨b, off, p, q, rfl, hbB, hx, c0, c1⟩ := Rd.atS hW (Ext.refl wr) hlt
      have q3 : (k : Int) < (l.length : Int) := by omega
      have q4 : (0 : Int) ≤ (k : Int) := by omega
      have lk : (out ++ tag cat (l.take k)).length ≤ 90000000 := by rw [List.length_append, tag_len, List.length_take]; omega
      have E : Hid (out ++ tag cat (l.take (k + 1)) = (out ++ tag cat (l.take k)) ++ [((p, q), cat)]) := by show _ = _; rw [take_snoc hx.out, tag_snoc, List.append_assoc]
      obtain ⟨O, hO⟩ : ∃ O, out ++ tag cat (l.take k) = O := ⟨_, rfl⟩
      rw [hO] at HO lk E
      clear hO hW
      obtain ⟨A2, cap2, rfl, _, _⟩ := own_form HO.out
      have hBr := HV.out.lt
      have cB := HV.out.cell
      have zB := HV.out.frozen
      have hwr : w.heap.size ≤ wr.heap.size := HK.out.size
      have hVa := Lib.hid (HV.out.alloc (.cells #[.int .i64 p, .int .i64 q] 49))
      have hOa := Lib.hid (HO.out.alloc (.cells #[.int .i64 p, .int .i64 q] 49))
      have kA : Hid (Kb B (Value.slice A2 O.length cap2).ownBlock wr (wr.alloc (.cells #[.int .i64 p, .int .i64 q] 49))) := Kb.ext ((Ext.refl wr).alloc _)
      have mA : Hid (Below B wr (wr.alloc (.cells #[.int .i64 p, .int .i64 q] 49))) := (Below.refl B wr).alloc (by omega) _
      go_wp2_with (at_builtin; refine app_part ((wr.alloc (.cells #[.int .i64 p, .int .i64 q] 49)).alloc (.cells #[.int .i64 p, .int .i64 q, .int .i64 cat] 47)) _ _ (by rfl) (by rfl) (B + 1) O.length _ O (by rfl) (hOa.out.alloc _) ((p, q), cat) (wr.heap.size + 1) 1 (by rfl) (part_cells (wr.alloc (.cells #[.int .i64 p, .int .i64 q] 49)) ((p, q), cat) (wr.heap.size + 1) (by simp)) (by omega) (by simp; omega) ?_; intro v2 w5 hown' hgrow hob; obtain ⟨A', cap', rfl, _, _⟩ := own_form hown'; obtain ⟨b1, b2, b3, b4, b5⟩ := pput_done hVa.out hOa.out hown' hgrow; have k1 := b1.cell; have k2 := b1.frozen; replace b2 := Lib.hid b2; replace b3 := Lib.hid b3; replace b4 := Lib.hid b4; replace b5 := Lib.hid b5; replace hob := Lib.hid hob; clear b1 hown' hgrow hVa hOa HO HV)
      have b6 : Hid (World.ownsRow (w5.setCell ⟨B, 0, none⟩ (.slice A' (O.length + 1) cap')) (B + 1) 47 3 (.slice A' (O.length + 1) cap') (out ++ tag cat (l.take (k + 1))).length (flat encP (out ++ tag cat (l.take (k + 1))))) := by show World.ownsRow _ _ _ _ _ _ _; rw [E.out, List.length_append]; exact b3.out
      have g6 : Hid (Og (Value.slice A2 O.length cap2).ownBlock (Value.slice A' (O.length + 1) cap').ownBlock wr.heap.size) := by
        rcases hob.out with h | h
        · exact .inl h
        · exact .inr ⟨_, h, by simp; omega⟩
      have k7 : Hid (Kb B v.ownBlock w (w5.setCell ⟨B, 0, none⟩ (.slice A' (O.length + 1) cap'))) := HK.out.trans HG.out (kA.out.trans (.inl rfl) b5.out)
      have m7 : Hid (Below B w (w5.setCell ⟨B, 0, none⟩ (.slice A' (O.length + 1) cap'))) := HM.out.trans (mA.out.trans b4.out)
      have g7 : Hid (Og v.ownBlock (Value.slice A' (O.length + 1) cap').ownBlock w.heap.size) := HG.out.trans g6.out hwr
      clear b3 hob b4 b5 HM HK HG kA mA g6
      go_roundw
      case rel => exact ⟨k + 1, _, by omega, by go_num, b2, b6, m7, k7, g7⟩
      case measure => simp [intOf]; omega
    · obtain rfl : k = l.length := by omega
      rw [List.take_length] at HO
      go_wp2
      go_end0
      exact ⟨⟨_, rfl⟩, _, HV.out, HO.out, HM.out, HK.out, HG.out⟩
end Go.Proofs.YtnhmibfgaoealaaGreat
namespace Go.Proofs.YtnhmibfgaoealaaGreat
set_option linter.unusedVariables false
set_option linter.unusedSimpArgs false

@[irreducible] def cls (s : Su) (l : List SegL) (w : Int) (c : Int) : List Sp.S := catL s.paid s.after s.auto s.dreg s.dover s.wreg s.nfrom s.nto l w c
theorem cls_eq (s : Su) (l : List SegL) (w : Int) : cls s l w = catL s.paid s.after s.auto s.dreg s.dover s.wreg s.nfrom s.nto l w := by funext c; unfold cls; rfl
def addAll (L : Int → List Sp.S) : List Pt := addP (addP (addP (addP (addP (addP (addP [] (tag 0 (L 0))) (tag 1 (L 1))) (tag 2 (L 2))) (tag 3 (L 3))) (tag 4 (L 4))) (tag 5 (L 5))) (tag 6 (L 6))
@[irreducible] def partsS (s : Su) (l : List SegL) (w : Int) : List Pt := if chk s = true then addAll (cls s l w) else []
theorem partsS_yes {s : Su} (h : chk s = true) (l : List SegL) (w : Int) : partsS s l w = addAll (cls s l w) := by unfold partsS; exact if_pos h
theorem partsS_no {s : Su} (h : chk s = false) (l : List SegL) (w : Int) : partsS s l w = [] := by unfold partsS; exact if_neg (by rw [h]; exact Bool.false_ne_true)
theorem cls_cats {s : Su} (h : chk s = true) (l : List SegL) (w : Int) : Cats (cls s l w) := by
  rw [cls_eq]
  exact cats (chk_nt h) (by have := chk_times h; omega)
theorem partsS_sort {s : Su} (h : chk s = true) {l : List SegL} {w : Int} {m : List Pt} (hp : m.Perm (rawL (cls s l w) catsO)) (hs : m.Pairwise fun a b => a.1.1 ≤ b.1.1) : m = partsS s l w := by
  rw [partsS_yes h]; exact parts_ref (cls_cats h l w) hp hs
theorem addP_app (a b o : List Pt) : addP (addP o a) b = addP o (a ++ b) := by unfold addP; rw [List.foldl_append]
theorem addAll_perm (L : Int → List Sp.S) : (addAll L).Perm (rawL L catsO) := by
  unfold addAll
  rw [addP_app, addP_app, addP_app, addP_app, addP_app, addP_app]
  have er : tag 0 (L 0) ++ (tag 1 (L 1) ++ (tag 2 (L 2) ++ (tag 3 (L 3) ++ (tag 4 (L 4) ++ (tag 5 (L 5) ++ tag 6 (L 6)))))) = rawL L catsR := by simp [rawL, catsR]
  have e2 : ∀ a b c d e f g : List Pt, [] ++ (a ++ b ++ c ++ d ++ e ++ f ++ g) = a ++ (b ++ (c ++ (d ++ (e ++ (f ++ g))))) := fun a b c d e f g => by simp
  refine (addP_perm _ _).trans ?_
  have hr : (rawL L catsO).Perm (rawL L catsR) := cats_perm.flatMap_right _
  refine List.Perm.trans ?_ hr.symm
  rw [← er]
  simp
theorem addAll_sorted (L : Int → List Sp.S) : (addAll L).Pairwise fun a b => a.1.1 ≤ b.1.1 := by
  unfold addAll
  exact addP_sorted _ (addP_sorted _ (addP_sorted _ (addP_sorted _ (addP_sorted _ (addP_sorted _ (addP_sorted _ List.Pairwise.nil))))))
theorem partsS_spans {s : Su} (h : chk s = true) (l : List SegL) (w : Int) {c : Int} (hc : c ∈ catsO) : spansOf (partsS s l w) c = cls s l w c := by
  rw [partsS_yes h]
  exact spansOf_sorted (cls_cats h l w) catsO_nodup (addAll_perm _) (addAll_sorted _) hc

theorem plain_two {lo : Int} {l : List Sp.S} (h : Sp.PlainFrom lo l) {a b : Sp.S} (ha : a ∈ l) (hb : b ∈ l) (hab : a.1 < b.1) : a.2 + 1 ≤ b.1 := by
  induction l generalizing lo with
  | nil => cases ha
  | cons s r ih =>
    have hr := h.2.2.2
    rcases List.mem_cons.1 ha with rfl | ha'
    · rcases List.mem_cons.1 hb with rfl | hb'
      · omega
      · exact (hr.bd b hb').1
    · rcases List.mem_cons.1 hb with rfl | hb'
      · have := (hr.bd a ha').1
        have := h.2.1
        omega
      · exact ih hr ha' hb'
/-- What holds of two parts, one ahead of the other. -/
def Far (a b : Pt) : Prop := a.1.2 ≤ b.1.1 ∧ (a.2 = b.2 → a.1.2 ≠ b.1.1)
theorem parts_far {L : Int → List Sp.S} (h : Cats L) {m : List Pt} (hp : m.Perm (rawL L catsO)) (hs : m.Pairwise fun a b => a.1.1 ≤ b.1.1) : m.Pairwise Far := by
  have hk : m.Pairwise fun a b => a.1.1 ≠ b.1.1 := hp.symm.pairwise (h.keys catsO_nodup) fun h e => h e.symm
  refine (hs.and hk).imp_of_mem fun {a b} ha hb hab => ?_
  have ma := mem_raw.1 (hp.mem_iff.1 ha)
  have mb := mem_raw.1 (hp.mem_iff.1 hb)
  have hlt : a.1.1 < b.1.1 := by have := hab.1; have := hab.2; omega
  by_cases e : a.2 = b.2
  · have := plain_two (h.plain a.2) ma.2 (by rw [e]; exact mb.2) hlt
    unfold Far; constructor
    · omega
    · intro _; omega
  · unfold Far
    refine ⟨?_, fun e' => absurd e' e⟩
    by_cases hx : a.1.2 ≤ b.1.1
    · exact hx
    · exfalso
      have hb2 := (h.plain b.2).bd b.1 mb.2
      exact h.apart a.2 b.2 b.1.1 e (Sp.hasB_iff.2 ⟨a.1, ma.2, by omega, by omega⟩) (Sp.hasB_iff.2 ⟨b.1, mb.2, by omega, by omega⟩)
theorem parts_one {L : Int → List Sp.S} (h : Cats L) {m : List Pt} (hp : m.Perm (rawL L catsO)) {x : Pt} (hx : x ∈ m) : x.1.1 < x.1.2 ∧ 0 ≤ x.2 ∧ x.2 ≤ 6 := by
  have mx := mem_raw.1 (hp.mem_iff.1 hx)
  have hb := (h.plain x.2).bd x.1 mx.2
  have hc : x.2 ∈ [(0 : Int), 1, 4, 2, 5, 3, 6] := mx.1
  simp at hc
  refine ⟨by omega, ?_, ?_⟩ <;> rcases hc with e | e | e | e | e | e | e <;> omega
theorem partsS_far (s : Su) (l : List SegL) (w : Int) : (partsS s l w).Pairwise Far := by
  cases h : chk s
  · rw [partsS_no h]; exact List.Pairwise.nil
  · rw [partsS_yes h]; exact parts_far (cls_cats h l w) (addAll_perm _) (addAll_sorted _)
theorem partsS_one (s : Su) (l : List SegL) (w : Int) {x : Pt} (hx : x ∈ partsS s l w) : x.1.1 < x.1.2 ∧ 0 ≤ x.2 ∧ x.2 ≤ 6 := by
  cases h : chk s
  · rw [partsS_no h] at hx; cases hx
  · rw [partsS_yes h] at hx; exact parts_one (cls_cats h l w) (addAll_perm _) hx
theorem partsS_norm {s : Su} (h : chk s = true) (l : List SegL) (w : Int) : Sp.norm ((partsS s l w).map (·.1)) = partS (clockL l) w 604800 := by
  rw [partsS_yes h, cls_eq]
  exact parts_norm (chk_nt h) (by have := chk_times h; omega) (addAll_perm _)

/-! How many. -/
theorem short_le {P : List Sp.S} (hP : Sp.Plain P) (n : Int) : (shortL P n).length ≤ P.length + 741 := by
  unfold shortL
  have h1 := parts_total hP (days_spec P).1 (fun d => Sp.first (partS P d 86400) n) fun d => first_length _ _
  have h2 := days_len P
  omega
theorem overR_le {P : List Sp.S} (hP : Sp.Plain P) (R W : Int) : (overR P R W).length ≤ P.length + 741 := by
  unfold overR
  exact Nat.le_trans (first_length _ _) (short_le hP R)
theorem overO_le {P : List Sp.S} (hP : Sp.Plain P) (R O W : Int) : (overO P R O W).length ≤ 2 * P.length + 1483 := by
  unfold overO
  have h1 := minus_le (shortL P O) (overR P R W)
  have h2 := short_le hP O
  have h3 := overR_le hP R W
  omega
theorem overD_le {P : List Sp.S} (hP : Sp.Plain P) (O : Int) : (overD P O).length ≤ 2 * P.length + 742 := by
  unfold overD
  have h1 := minus_le P (shortL P O)
  have h2 := short_le hP O
  omega
theorem night_le (F T : Int) (l : List Sp.S) : (nightOf F T l).length ≤ l.length + 742 := by
  unfold nightOf
  have h1 := and_len l (nightsL F T (daysL (Sp.norm l)))
  have h2 := nightsL_len F T (daysL (Sp.norm l))
  have h3 := days_len l
  omega
theorem day_lens30 (P AA AB : Int) (l : List SegL) (d : Int) (hl : l.length ≤ 30) : (dayPaid P AA AB l d).length ≤ 222 ∧ (dayNot P AA AB l d).length ≤ 190 := by
  have l1 := partS_len (clockL l) d 86400
  have l2 := partS_len (onlyL l 3) d 86400
  have l3 := clock_len l
  have l4 := only_len l 3
  have hN : (dayNot P AA AB l d).length ≤ 190 := by
    unfold dayNot unpaidL
    generalize partS (clockL l) d 86400 = ck at *
    generalize partS (onlyL l 3) d 86400 = rs at *
    refine Nat.le_trans (Sp.norm_length _) ?_
    have m1 := minus_le rs (Sp.first rs P)
    have m2 := first_length rs P
    have m3 := minus_le ck rs
    have m4 := last_le (Sp.minus ck rs) (AB - Sp.size rs)
    rw [List.length_append]
    split
    · omega
    · simp only [List.length_nil]; omega
  refine ⟨?_, hN⟩
  unfold dayPaid
  have m1 := minus_le (partS (clockL l) d 86400) (dayNot P AA AB l d)
  omega
theorem all_lens30 (s : Su) (l : List SegL) (hl : l.length ≤ 30) : (paidAll s l).length ≤ 90000 ∧ (notAll s l).length ≤ 90000 := by
  have hD := days_len (clockL l)
  have hp : ∀ d, (paidD s l d).length ≤ 222 ∧ (notD s l d).length ≤ 190 := fun d => by
    have h := day_lens30 s.paid s.after s.auto l d hl
    unfold paidD notD
    split
    · exact h
    · simp
  constructor
  · unfold paidAll
    have := flatMap_len (paidD s l) 222 (daysL (Sp.norm (clockL l))) fun d _ => (hp d).1
    exact Nat.le_trans (Sp.norm_length _) (by omega)
  · unfold notAll
    have := flatMap_len (notD s l) 190 (daysL (Sp.norm (clockL l))) fun d _ => (hp d).2
    exact Nat.le_trans (Sp.norm_length _) (by omega)
/-- How long the lists are of which the parts are made. -/
theorem cls_lens {s : Su} (h : chk s = true) (l : List SegL) (hl : l.length ≤ 30) (w c : Int) : (cls s l w c).length ≤ 400000 := by
  have h1 := all_lens30 s l hl
  rw [(paidAll_yes h l).1, (paidAll_yes h l).2] at h1
  have p1 := partS_len (allPaid s.paid s.after s.auto l) w 604800
  have p2 := partS_len (allNot s.paid s.after s.auto l) w 604800
  have pp := partS_plain (allPaid s.paid s.after s.auto l) w 604800
  rw [cls_eq]
  unfold catL
  generalize partS (allPaid s.paid s.after s.auto l) w 604800 = P at *
  have r := overR_le pp s.dreg s.wreg
  have o := overO_le pp s.dreg s.dover s.wreg
  have d := overD_le pp s.dover
  generalize overR P s.dreg s.wreg = A at *
  generalize overO P s.dreg s.dover s.wreg = B at *
  generalize overD P s.dover = C at *
  have nA := night_le s.nfrom s.nto A
  have nB := night_le s.nfrom s.nto B
  have nC := night_le s.nfrom s.nto C
  have mA := minus_le A (nightOf s.nfrom s.nto A)
  have mB := minus_le B (nightOf s.nfrom s.nto B)
  have mC := minus_le C (nightOf s.nfrom s.nto C)
  split
  · omega
  split
  · omega
  split
  · omega
  split
  · omega
  split
  · omega
  split
  · omega
  split
  · omega
  · simp
theorem partsS_len (s : Su) (l : List SegL) (hl : l.length ≤ 30) (w : Int) : (partsS s l w).length ≤ 2800000 := by
  cases h : chk s
  · rw [partsS_no h]; simp
  · rw [partsS_yes h, (addAll_perm _).length_eq]
    have k := cls_lens h l hl w
    have k0 := k 0; have k1 := k 1; have k2 := k 2; have k3 := k 3; have k4 := k 4; have k5 := k 5; have k6 := k 6
    simp only [rawL, catsO, List.flatMap_cons, List.flatMap_nil, List.length_append, List.length_nil, tag, List.length_map]
    omega

/-- What the program puts, in its order. -/
theorem raw_put (s : Su) (h : chk s = true) (l : List SegL) (w : Int) :
    rawL (cls s l w) catsO = tag 0 (partS (notAll s l) w 604800) ++ (tag 1 (Sp.minus (oR s (paidAll s l) w) (nightS s (oR s (paidAll s l) w))) ++ (tag 4 (nightS s (oR s (paidAll s l) w)) ++
      (tag 2 (Sp.minus (oO s (paidAll s l) w) (nightS s (oO s (paidAll s l) w))) ++ (tag 5 (nightS s (oO s (paidAll s l) w)) ++
      (tag 3 (Sp.minus (oD s (paidAll s l) w) (nightS s (oD s (paidAll s l) w))) ++ tag 6 (nightS s (oD s (paidAll s l) w))))))) := by
  have e := o_yes h (paidAll s l) w
  have n : ∀ x, nightS s x = nightOf s.nfrom s.nto x := fun x => by unfold nightS; exact if_pos h
  rw [e.1, e.2.1, e.2.2, n, n, n, (paidAll_yes h l).1, (paidAll_yes h l).2, cls_eq]
  simp [rawL, catsO, catL]
theorem oLens30 (s : Su) (l : List SegL) (hl : l.length ≤ 30) (w : Int) : ((oR s (paidAll s l) w).length ≤ 190000 ∧ (oO s (paidAll s l) w).length ≤ 190000 ∧ (oD s (paidAll s l) w).length ≤ 190000) ∧ (∀ x : List Sp.S, (nightS s x).length ≤ x.length + 742) := by
  have h1 := all_lens30 s l hl
  refine ⟨?_, fun x => ?_⟩
  · cases h : chk s
    · have e := o_no h (paidAll s l) w
      rw [e.1, e.2.1, e.2.2]; simp
    · have e := o_yes h (paidAll s l) w
      rw [e.1, e.2.1, e.2.2]
      have p1 := partS_len (paidAll s l) w 604800
      have pp := partS_plain (paidAll s l) w 604800
      have r := overR_le pp s.dreg s.wreg
      have o := overO_le pp s.dreg s.dover s.wreg
      have d := overD_le pp s.dover
      omega
  · unfold nightS
    split
    · exact night_le _ _ _
    · simp
end Go.Proofs.YtnhmibfgaoealaaGreat
namespace Go.Proofs.YtnhmibfgaoealaaGreat
open Go.RowKit
set_option linter.unusedVariables false
set_option linter.unusedSimpArgs false

theorem own_addr {w : World} {base e n m cap k : Nat} {A : Option Addr} {xs : List Value} (h : w.ownsRow base e k (.slice A n cap) m xs) : ∀ b off, A = some ⟨b, off, none⟩ → base ≤ b ∧ b < w.heap.size := fun b off hA => by
  subst hA; exact h.lt b rfl
def outsP (N R O D : List Sp.S) (nt : List Sp.S → List Sp.S) : Nat → List Pt
  | 0 => tag 0 N
  | 1 => (tag 0 N ++ tag 1 (Sp.minus R (nt R))) ++ tag 4 (nt R)
  | 2 => (((tag 0 N ++ tag 1 (Sp.minus R (nt R))) ++ tag 4 (nt R)) ++ tag 2 (Sp.minus O (nt O))) ++ tag 5 (nt O)
  | _ => (((((tag 0 N ++ tag 1 (Sp.minus R (nt R))) ++ tag 4 (nt R)) ++ tag 2 (Sp.minus O (nt O))) ++ tag 5 (nt O)) ++ tag 3 (Sp.minus D (nt D))) ++ tag 6 (nt D)
theorem outsP_len {N R O D : List Sp.S} {nt : List Sp.S → List Sp.S} (hN : N.length ≤ 90001) (hR : R.length ≤ 190000) (hO : O.length ≤ 190000) (hD : D.length ≤ 190000) (hn : ∀ x, (nt x).length ≤ x.length + 742) (k : Nat) : (outsP N R O D nt k).length ≤ 3000000 := by
  have r1 := minus_le R (nt R); have r2 := hn R
  have o1 := minus_le O (nt O); have o2 := hn O
  have d1 := minus_le D (nt D); have d2 := hn D
  match k with
  | 0 => simp only [outsP, tag_len]; omega
  | 1 => simp only [outsP, tag_len, List.length_append]; omega
  | 2 => simp only [outsP, tag_len, List.length_append]; omega
  | n + 3 => simp only [outsP, tag_len, List.length_append]; omega

set_option maxRecDepth 100000 in
set_option maxHeartbeats 1000000 in
theorem partsNo (cs : List Value) (hcs : cs.length = 23) (A : Option Addr) (len c : Nat) (n : Int) (w : World) (kC : ∀ W, Ext w W → Calls Tryz.prog 22 #[.agg cs.toArray] W (RetB W false)) :
    Calls Tryz.prog 18 #[.agg cs.toArray, .slice A len c, .int .i64 n] w fun e w' => e = .returned (.slice none 0 0) ∧ Ext w w' := by
  have hi := Lib.hid (su_size hcs)
  have hs0 := Bx.new w cs 30
  have X0 := (Ext.refl w).alloc (.cells cs.toArray 30)
  replace kC := Lib.hid kC
  clear hcs
  go_enter Tryz.func18, Tryz.ntmps18
  go_wp2_with (first | (refine load_box rfl 30 _ rfl _ rfl _ _ hs0 _ Tryz.underlying30 rfl hi.out ?_))
  refine (kC.out _ X0).mono ?_
  rintro e w1 ⟨rfl, x1⟩
  go_wp2
  go_ret
  exact ⟨rfl, X0.trans x1⟩

set_option maxRecDepth 100000 in
set_option maxHeartbeats 8000000 in
theorem partsYes (cs : List Value) (hcs : cs.length = 23) (l : List SegL) (A : Option Addr) (c : Nat) (n : Int) (P N R O D : List Sp.S) (nt : List Sp.S → List Sp.S) (w : World) (h : Rg w A l)
    (kC : ∀ W, Ext w W → Calls Tryz.prog 22 #[.agg cs.toArray] W (RetB W true))
    (kP : ∀ W, Ext w W → Rg W A l → Calls Tryz.prog 11 #[.agg cs.toArray, .slice A l.length c] W (Ret2R W P N))
    (kO : ∀ W, Ext w W → ∀ A c, Rs W A P → Calls Tryz.prog 28 #[.agg cs.toArray, .slice A P.length c, .int .i64 n] W (Ret3S W R O D))
    (kN : ∀ W, Ext w W → ∀ A c x, Rs W A x → x.length ≤ 900000 → Calls Tryz.prog 27 #[.agg cs.toArray, .slice A x.length c] W (RetS W (nt x)))
    (bN : N.length ≤ 90000) (bR : R.length ≤ 190000) (bO : O.length ≤ 190000) (bD : D.length ≤ 190000) (bn : ∀ x, (nt x).length ≤ x.length + 742) :
    Calls Tryz.prog 18 #[.agg cs.toArray, .slice A l.length c, .int .i64 n] w fun e w' => ∃ A' c' m, e = .returned (.slice A' m.length c') ∧ Hid (m.Perm (outsP (partS N n 604800) R O D nt 3)) ∧ Hid (m.Pairwise fun a b : Pt => a.1.1 ≤ b.1.1) ∧ Ps w' A' m ∧ Ext w w' := by
  have bNn := partS_len N n 604800
  have kW := fun W (A0 : Option Addr) (c0 : Nat) (hr : Rs W A0 N) => pOfWeek hr (by omega) c0 n
  obtain ⟨N', hN'⟩ : ∃ N', partS N n 604800 = N' := ⟨_, rfl⟩
  rw [hN'] at bNn kW ⊢
  clear hN'
  have hL := Lib.hid (outsP_len (N := N') (by omega) bR bO bD bn)
  have hi := Lib.hid (su_size hcs)
  have hs0 := Bx.new w cs 30
  have X0 := (Ext.refl w).alloc (.cells cs.toArray 30)
  have h0 := h.alloc (.cells cs.toArray 30)
  replace kC := Lib.hid kC; replace kP := Lib.hid kP; replace kO := Lib.hid kO; replace kN := Lib.hid kN; replace kW := Lib.hid kW; replace bn := Lib.hid bn
  clear hcs h
  go_enter Tryz.func18, Tryz.ntmps18
  go_wp2_with (first | (refine load_box rfl 30 _ rfl _ rfl _ _ hs0 _ Tryz.underlying30 rfl hi.out ?_))
  refine (kC.out _ X0).mono ?_
  rintro e w1 ⟨rfl, x1⟩
  have hs1 := hs0.ext x1; have h1 := h0.ext x1; have X1 := X0.trans x1
  clear hs0 h0 X0 x1 kC
  go_wp2_with (first | (refine load_box rfl 30 _ rfl _ rfl _ _ hs1 _ Tryz.underlying30 rfl hi.out ?_))
  refine (kP.out _ X1 h1).mono ?_
  rintro e w2 ⟨A2, c2, B2, d2, rfl, ⟨r2, t2⟩, x2, _⟩
  have hs2 := hs1.ext x2; have X2 := X1.trans x2
  clear hs1 h1 X1 x2 kP
  go_wp2_with (first | (refine load_box rfl 30 _ rfl _ rfl _ _ hs2 _ Tryz.underlying30 rfl hi.out ?_))
  refine (kO.out _ X2 _ _ r2).mono ?_
  rintro e w3 ⟨A3, c3, A4, c4, A5, c5, rfl, ⟨r3, r4, r5⟩, x3⟩
  have hs3 := hs2.ext x3; have X3 := X2.trans x3; have t3 := t2.ext x3
  clear hs2 X2 x3 kO r2 t2
  obtain ⟨w4, hw4⟩ : ∃ W, W = w3.alloc (.cells #[.slice none 0 0] 40) := ⟨_, rfl⟩
  have XA : Ext w3 w4 := by rw [hw4]; exact (Ext.refl w3).alloc _
  have hB4 : Boxed w4 w3.heap.size 40 (.slice none 0 0) := by rw [hw4]; exact Boxed.new w3 _ _
  have hz4 : w4.heap.size = w3.heap.size + 1 := by rw [hw4]; simp
  have hs4 := Lib.hid (hs3.ext XA); have X4 := X3.trans XA; have t4 := t3.ext XA
  have HR4 : Hid (Rd encS 2 w4 w3.heap.size A3 R) := Rd.below r3 XA
  have HO4 : Hid (Rd encS 2 w4 w3.heap.size A4 O) := Rd.below r4 XA
  have HD4 : Hid (Rd encS 2 w4 w3.heap.size A5 D) := Rd.below r5 XA
  have hw3 : w.heap.size < w3.heap.size := hs3.lt
  have HX4 := Lib.hid X4
  clear hs3 X3 t3 r3 r4 r5 XA
  go_wp2_with fail
  rw [← hw4]
  replace hw4 := Lib.hid hw4
  refine (kW.out _ _ _ t4).mono ?_
  rintro e w5 ⟨A6, c6, rfl, r6, x6, o6⟩
  have hB5 : Boxed w5 w3.heap.size 40 (.slice none 0 0) := (x6.block _ (by omega)).trans hB4
  have hz5 : w4.heap.size ≤ w5.heap.size := x6.size
  have M5 : Hid (Below w3.heap.size w4 w5) := Below.mono x6 (by omega)
  have n6 : ∀ b off, A6 = some ⟨b, off, none⟩ → b ≠ w3.heap.size ∧ some b ≠ (Value.slice none 0 0).ownBlock := fun b off hA => by
    have := own_addr o6 b off hA
    exact ⟨by omega, fun e => by cases e⟩
  clear o6 x6 t4 hB4 kW
  go_wp2_with fail
  refine (pput w3.heap.size [] (.slice none 0 0) N' A6 c6 0 w5 hB5 (own_nilP _ _) r6 n6 (by simp; omega)).mono ?_
  rintro e w6 ⟨⟨v, rfl⟩, v6, b6, p6, m6, _, _⟩
  have HB6 := Lib.hid b6
  have HO6 : Hid (w6.ownsRow (w3.heap.size + 1) 47 3 v6 (outsP N' R O D nt 0).length (flat encP (outsP N' R O D nt 0))) := p6
  have HM6 := Lib.hid (M5.out.trans m6)
  clear b6 p6 m6 M5 hB5 r6 n6 hz5
  go_wp2_with fail
  go_loopw [44] (fun i wr => ∃ (k : Nat) (v : Value), k ≤ 3 ∧ i = .int .i64 k ∧ Hid (Boxed wr w3.heap.size 40 v) ∧ Hid (wr.ownsRow (w3.heap.size + 1) 47 3 v (outsP N' R O D nt k).length (flat encP (outsP N' R O D nt k))) ∧ Hid (Below w3.heap.size w4 wr)) (fun i _ => 3 - (intOf i).toNat)
  case atStart => exact ⟨0, v6, by omega, rfl, HB6.out, HO6.out, HM6.out⟩
  case round =>
    clear HB6 HO6 HM6
    obtain ⟨k, v, hk, hi0, HV, HO, HM⟩ := hrel
    have hBr : w3.heap.size < wr.heap.size := HV.out.lt
    have Xr : Ext w wr := Below.trans HX4.out (Below.mono HM.out (by omega))
    have hsr : Bx wr w.heap.size cs 30 := (HM.out.block _ (by omega)).trans hs4.out
    have hLk := hL.out k
    have h3 : k = 0 ∨ k = 1 ∨ k = 2 ∨ k = 3 := by omega
    rcases h3 with rfl | rfl | rfl | rfl
    · obtain rfl : _ = Value.int .i64 0 := hi0
      have rx : Rs wr A3 R := (HR4.out.below HM.out).more (by omega)
      obtain ⟨OL, hOL⟩ : ∃ OL, outsP N' R O D nt 0 = OL := ⟨_, rfl⟩
      have E : Hid (outsP N' R O D nt 1 = (OL ++ tag 1 (Sp.minus R (nt R))) ++ tag 4 (nt R)) := by show _ = _; rw [← hOL]; rfl
      rw [hOL] at HO hLk
      have bnx := bn.out R
      have mlx := minus_le R (nt R)
      have kNx := Lib.hid (kN.out _ Xr _ c3 _ rx (by omega))
      obtain ⟨dk, hdk⟩ : ∃ d, nt R = d := ⟨_, rfl⟩
      rw [hdk] at E bnx mlx kNx
      obtain ⟨mi, hmi⟩ : ∃ m, Sp.minus R dk = m := ⟨_, rfl⟩
      rw [hmi] at E mlx
      replace hOL := Lib.hid hOL; replace hdk := Lib.hid hdk
      have ix : ∀ w : World, (Instr.index 69 (.agg #[.slice A3 R.length c3, .slice A4 O.length c4, .slice A5 D.length c5]) (.int .i64 0)).run Tryz.prog w = .ok (.slice A3 R.length c3) w := fun _ => by kernel_rfl
      go_wp2_with (first | (refine load_box rfl 30 _ rfl _ rfl _ _ hsr _ Tryz.underlying30 rfl hi.out ?_))
      refine kNx.out.mono ?_
      rintro e w7 ⟨A7, c7, rfl, r7, x7, o7⟩
      have rx7 := rx.ext x7
      have kM := cMinus rx7 r7 (by omega) (by omega) c3 c7
      rw [hmi] at kM
      replace hmi := Lib.hid hmi
      have a7 := own_addr o7
      have hV7 : Boxed w7 w3.heap.size 40 v := (x7.block _ hBr).trans HV.out
      have hO7 := own_below HO.out x7
      have hz7 : wr.heap.size ≤ w7.heap.size := x7.size
      have M7 : Hid (Below w3.heap.size w4 w7) := HM.out.trans (Below.mono x7 (by omega))
      have hvb := Lib.hid (fun g hg => (HO.out.lt g hg).2)
      clear kNx rx rx7 Xr hsr x7 o7
      go_wp2_with fail
      refine kM.mono ?_
      rintro e w8 ⟨A8, c8, rfl, r8, x8, o8⟩
      have a8 := own_addr o8
      have hV8 : Boxed w8 w3.heap.size 40 v := (x8.block _ (by omega)).trans hV7
      have hO8 := own_below hO7 x8
      have r78 := r7.ext x8
      have hz8 : w7.heap.size ≤ w8.heap.size := x8.size
      have M8 : Hid (Below w3.heap.size w4 w8) := M7.out.trans (Below.mono x8 (by omega))
      have n8 : ∀ b off, A8 = some ⟨b, off, none⟩ → b ≠ w3.heap.size ∧ some b ≠ v.ownBlock := fun b off hA => by
        have := a8 b off hA
        exact ⟨by omega, fun e => by have := hvb.out b e.symm; omega⟩
      have n7 : ∀ b off, A7 = some ⟨b, off, none⟩ → b ≠ w3.heap.size ∧ some b ≠ v.ownBlock := fun b off hA => by
        have := a7 b off hA
        exact ⟨by omega, fun e => by have := hvb.out b e.symm; omega⟩
      have n7b : ∀ b off, A7 = some ⟨b, off, none⟩ → b < w7.heap.size := fun b off hA => (a7 b off hA).2
      clear kM x8 o8 a8 a7 M7 hV7 hO7 r7
      have HV8 := Lib.hid hV8; have HO8 := Lib.hid hO8; have N8 := Lib.hid n8; have N7 := Lib.hid n7; have N7b := Lib.hid n7b; have R78 := Lib.hid r78; have R8 := Lib.hid r8
      clear hV8 hO8 n8 n7 n7b r78 r8 HV HO HM
      go_wp2_with fail
      refine (pput w3.heap.size OL v mi A8 c8 1 w8 HV8.out HO8.out R8.out N8.out (by omega)).mono ?_
      rintro e w9 ⟨⟨u9, rfl⟩, v9, b9, p9, m9, k9, g9⟩
      have r9 := Lib.hid (Kb.rs R78.out k9 N7.out)
      have n9 : ∀ b off, A7 = some ⟨b, off, none⟩ → b ≠ w3.heap.size ∧ some b ≠ v9.ownBlock := fun b off hA => by
        refine ⟨(N7.out b off hA).1, fun e => ?_⟩
        rcases g9 with g | ⟨g, hg, hgn⟩
        · rw [g] at e; exact (N7.out b off hA).2 e
        · rw [hg] at e; cases e; have := N7b.out b off hA; omega
      have M9 := Lib.hid (M8.out.trans m9)
      have B9 := Lib.hid b9; have P9 := Lib.hid p9; have N9 := Lib.hid n9
      clear b9 p9 n9 m9 k9 g9 M8 HV8 HO8 N8 N7 N7b R78 R8 hvb
      go_wp2_with fail
      refine (pput w3.heap.size (OL ++ tag 1 mi) v9 dk A7 c7 4 w9 B9.out P9.out r9.out N9.out (by rw [List.length_append, tag_len]; omega)).mono ?_
      rintro e w10 ⟨⟨u10, rfl⟩, v10, b10, p10, m10, _, _⟩
      rw [← E.out] at p10
      have M10 := Lib.hid (M9.out.trans m10)
      have B10 := Lib.hid b10; have P10 := Lib.hid p10
      clear b10 p10 m10 M9 B9 P9 r9 N9 E
      go_wp2
      go_roundw
      case rel => exact ⟨1, v10, by omega, by go_num, B10, P10, M10⟩
      case measure => simp [intOf]
    · obtain rfl : _ = Value.int .i64 1 := hi0
      have rx : Rs wr A4 O := (HO4.out.below HM.out).more (by omega)
      obtain ⟨OL, hOL⟩ : ∃ OL, outsP N' R O D nt 1 = OL := ⟨_, rfl⟩
      have E : Hid (outsP N' R O D nt 2 = (OL ++ tag 2 (Sp.minus O (nt O))) ++ tag 5 (nt O)) := by show _ = _; rw [← hOL]; rfl
      rw [hOL] at HO hLk
      have bnx := bn.out O
      have mlx := minus_le O (nt O)
      have kNx := Lib.hid (kN.out _ Xr _ c4 _ rx (by omega))
      obtain ⟨dk, hdk⟩ : ∃ d, nt O = d := ⟨_, rfl⟩
      rw [hdk] at E bnx mlx kNx
      obtain ⟨mi, hmi⟩ : ∃ m, Sp.minus O dk = m := ⟨_, rfl⟩
      rw [hmi] at E mlx
      replace hOL := Lib.hid hOL; replace hdk := Lib.hid hdk
      have ix : ∀ w : World, (Instr.index 69 (.agg #[.slice A3 R.length c3, .slice A4 O.length c4, .slice A5 D.length c5]) (.int .i64 1)).run Tryz.prog w = .ok (.slice A4 O.length c4) w := fun _ => by kernel_rfl
      go_wp2_with (first | (refine load_box rfl 30 _ rfl _ rfl _ _ hsr _ Tryz.underlying30 rfl hi.out ?_))
      refine kNx.out.mono ?_
      rintro e w7 ⟨A7, c7, rfl, r7, x7, o7⟩
      have rx7 := rx.ext x7
      have kM := cMinus rx7 r7 (by omega) (by omega) c4 c7
      rw [hmi] at kM
      replace hmi := Lib.hid hmi
      have a7 := own_addr o7
      have hV7 : Boxed w7 w3.heap.size 40 v := (x7.block _ hBr).trans HV.out
      have hO7 := own_below HO.out x7
      have hz7 : wr.heap.size ≤ w7.heap.size := x7.size
      have M7 : Hid (Below w3.heap.size w4 w7) := HM.out.trans (Below.mono x7 (by omega))
      have hvb := Lib.hid (fun g hg => (HO.out.lt g hg).2)
      clear kNx rx rx7 Xr hsr x7 o7
      go_wp2_with fail
      refine kM.mono ?_
      rintro e w8 ⟨A8, c8, rfl, r8, x8, o8⟩
      have a8 := own_addr o8
      have hV8 : Boxed w8 w3.heap.size 40 v := (x8.block _ (by omega)).trans hV7
      have hO8 := own_below hO7 x8
      have r78 := r7.ext x8
      have hz8 : w7.heap.size ≤ w8.heap.size := x8.size
      have M8 : Hid (Below w3.heap.size w4 w8) := M7.out.trans (Below.mono x8 (by omega))
      have n8 : ∀ b off, A8 = some ⟨b, off, none⟩ → b ≠ w3.heap.size ∧ some b ≠ v.ownBlock := fun b off hA => by
        have := a8 b off hA
        exact ⟨by omega, fun e => by have := hvb.out b e.symm; omega⟩
      have n7 : ∀ b off, A7 = some ⟨b, off, none⟩ → b ≠ w3.heap.size ∧ some b ≠ v.ownBlock := fun b off hA => by
        have := a7 b off hA
        exact ⟨by omega, fun e => by have := hvb.out b e.symm; omega⟩
      have n7b : ∀ b off, A7 = some ⟨b, off, none⟩ → b < w7.heap.size := fun b off hA => (a7 b off hA).2
      clear kM x8 o8 a8 a7 M7 hV7 hO7 r7
      have HV8 := Lib.hid hV8; have HO8 := Lib.hid hO8; have N8 := Lib.hid n8; have N7 := Lib.hid n7; have N7b := Lib.hid n7b; have R78 := Lib.hid r78; have R8 := Lib.hid r8
      clear hV8 hO8 n8 n7 n7b r78 r8 HV HO HM
      go_wp2_with fail
      refine (pput w3.heap.size OL v mi A8 c8 2 w8 HV8.out HO8.out R8.out N8.out (by omega)).mono ?_
      rintro e w9 ⟨⟨u9, rfl⟩, v9, b9, p9, m9, k9, g9⟩
      have r9 := Lib.hid (Kb.rs R78.out k9 N7.out)
      have n9 : ∀ b off, A7 = some ⟨b, off, none⟩ → b ≠ w3.heap.size ∧ some b ≠ v9.ownBlock := fun b off hA => by
        refine ⟨(N7.out b off hA).1, fun e => ?_⟩
        rcases g9 with g | ⟨g, hg, hgn⟩
        · rw [g] at e; exact (N7.out b off hA).2 e
        · rw [hg] at e; cases e; have := N7b.out b off hA; omega
      have M9 := Lib.hid (M8.out.trans m9)
      have B9 := Lib.hid b9; have P9 := Lib.hid p9; have N9 := Lib.hid n9
      clear b9 p9 n9 m9 k9 g9 M8 HV8 HO8 N8 N7 N7b R78 R8 hvb
      go_wp2_with fail
      refine (pput w3.heap.size (OL ++ tag 2 mi) v9 dk A7 c7 5 w9 B9.out P9.out r9.out N9.out (by rw [List.length_append, tag_len]; omega)).mono ?_
      rintro e w10 ⟨⟨u10, rfl⟩, v10, b10, p10, m10, _, _⟩
      rw [← E.out] at p10
      have M10 := Lib.hid (M9.out.trans m10)
      have B10 := Lib.hid b10; have P10 := Lib.hid p10
      clear b10 p10 m10 M9 B9 P9 r9 N9 E
      go_wp2
      go_roundw
      case rel => exact ⟨2, v10, by omega, by go_num, B10, P10, M10⟩
      case measure => simp [intOf]
    · obtain rfl : _ = Value.int .i64 2 := hi0
      have rx : Rs wr A5 D := (HD4.out.below HM.out).more (by omega)
      obtain ⟨OL, hOL⟩ : ∃ OL, outsP N' R O D nt 2 = OL := ⟨_, rfl⟩
      have E : Hid (outsP N' R O D nt 3 = (OL ++ tag 3 (Sp.minus D (nt D))) ++ tag 6 (nt D)) := by show _ = _; rw [← hOL]; rfl
      rw [hOL] at HO hLk
      have bnx := bn.out D
      have mlx := minus_le D (nt D)
      have kNx := Lib.hid (kN.out _ Xr _ c5 _ rx (by omega))
      obtain ⟨dk, hdk⟩ : ∃ d, nt D = d := ⟨_, rfl⟩
      rw [hdk] at E bnx mlx kNx
      obtain ⟨mi, hmi⟩ : ∃ m, Sp.minus D dk = m := ⟨_, rfl⟩
      rw [hmi] at E mlx
      replace hOL := Lib.hid hOL; replace hdk := Lib.hid hdk
      have ix : ∀ w : World, (Instr.index 69 (.agg #[.slice A3 R.length c3, .slice A4 O.length c4, .slice A5 D.length c5]) (.int .i64 2)).run Tryz.prog w = .ok (.slice A5 D.length c5) w := fun _ => by kernel_rfl
      go_wp2_with (first | (refine load_box rfl 30 _ rfl _ rfl _ _ hsr _ Tryz.underlying30 rfl hi.out ?_))
      refine kNx.out.mono ?_
      rintro e w7 ⟨A7, c7, rfl, r7, x7, o7⟩
      have rx7 := rx.ext x7
      have kM := cMinus rx7 r7 (by omega) (by omega) c5 c7
      rw [hmi] at kM
      replace hmi := Lib.hid hmi
      have a7 := own_addr o7
      have hV7 : Boxed w7 w3.heap.size 40 v := (x7.block _ hBr).trans HV.out
      have hO7 := own_below HO.out x7
      have hz7 : wr.heap.size ≤ w7.heap.size := x7.size
      have M7 : Hid (Below w3.heap.size w4 w7) := HM.out.trans (Below.mono x7 (by omega))
      have hvb := Lib.hid (fun g hg => (HO.out.lt g hg).2)
      clear kNx rx rx7 Xr hsr x7 o7
      go_wp2_with fail
      refine kM.mono ?_
      rintro e w8 ⟨A8, c8, rfl, r8, x8, o8⟩
      have a8 := own_addr o8
      have hV8 : Boxed w8 w3.heap.size 40 v := (x8.block _ (by omega)).trans hV7
      have hO8 := own_below hO7 x8
      have r78 := r7.ext x8
      have hz8 : w7.heap.size ≤ w8.heap.size := x8.size
      have M8 : Hid (Below w3.heap.size w4 w8) := M7.out.trans (Below.mono x8 (by omega))
      have n8 : ∀ b off, A8 = some ⟨b, off, none⟩ → b ≠ w3.heap.size ∧ some b ≠ v.ownBlock := fun b off hA => by
        have := a8 b off hA
        exact ⟨by omega, fun e => by have := hvb.out b e.symm; omega⟩
      have n7 : ∀ b off, A7 = some ⟨b, off, none⟩ → b ≠ w3.heap.size ∧ some b ≠ v.ownBlock := fun b off hA => by
        have := a7 b off hA
        exact ⟨by omega, fun e => by have := hvb.out b e.symm; omega⟩
      have n7b : ∀ b off, A7 = some ⟨b, off, none⟩ → b < w7.heap.size := fun b off hA => (a7 b off hA).2
      clear kM x8 o8 a8 a7 M7 hV7 hO7 r7
      have HV8 := Lib.hid hV8; have HO8 := Lib.hid hO8; have N8 := Lib.hid n8; have N7 := Lib.hid n7; have N7b := Lib.hid n7b; have R78 := Lib.hid r78; have R8 := Lib.hid r8
      clear hV8 hO8 n8 n7 n7b r78 r8 HV HO HM
      go_wp2_with fail
      refine (pput w3.heap.size OL v mi A8 c8 3 w8 HV8.out HO8.out R8.out N8.out (by omega)).mono ?_
      rintro e w9 ⟨⟨u9, rfl⟩, v9, b9, p9, m9, k9, g9⟩
      have r9 := Lib.hid (Kb.rs R78.out k9 N7.out)
      have n9 : ∀ b off, A7 = some ⟨b, off, none⟩ → b ≠ w3.heap.size ∧ some b ≠ v9.ownBlock := fun b off hA => by
        refine ⟨(N7.out b off hA).1, fun e => ?_⟩
        rcases g9 with g | ⟨g, hg, hgn⟩
        · rw [g] at e; exact (N7.out b off hA).2 e
        · rw [hg] at e; cases e; have := N7b.out b off hA; omega
      have M9 := Lib.hid (M8.out.trans m9)
      have B9 := Lib.hid b9; have P9 := Lib.hid p9; have N9 := Lib.hid n9
      clear b9 p9 n9 m9 k9 g9 M8 HV8 HO8 N8 N7 N7b R78 R8 hvb
      go_wp2_with fail
      refine (pput w3.heap.size (OL ++ tag 3 mi) v9 dk A7 c7 6 w9 B9.out P9.out r9.out N9.out (by rw [List.length_append, tag_len]; omega)).mono ?_
      rintro e w10 ⟨⟨u10, rfl⟩, v10, b10, p10, m10, _, _⟩
      rw [← E.out] at p10
      have M10 := Lib.hid (M9.out.trans m10)
      have B10 := Lib.hid b10; have P10 := Lib.hid p10
      clear b10 p10 m10 M9 B9 P9 r9 N9 E
      go_wp2
      go_roundw
      case rel => exact ⟨3, v10, by omega, by go_num, B10, P10, M10⟩
      case measure => simp [intOf]
    · obtain rfl : _ = Value.int .i64 3 := hi0
      obtain ⟨OL, hOL⟩ : ∃ OL, outsP N' R O D nt 3 = OL := ⟨_, rfl⟩
      rw [hOL] at HO hLk
      replace hOL := Lib.hid hOL
      obtain ⟨A7, c7, rfl, _, _⟩ := own_form HO.out
      have cB := HV.out.cell
      have hs := Lib.hid (sort_part OL A7 c7 (w3.heap.size + 1) wr HO.out (by omega))
      clear hsr kN
      go_wp2_with fail
      refine hs.out.mono ?_
      rintro e w8 ⟨rfl, m, hp, hsd, o8, x8⟩
      have hV8 : Boxed w8 w3.heap.size 40 (.slice A7 OL.length c7) := (x8.block _ (by omega)).trans HV.out
      have cB8 := hV8.cell
      have hlen : Hid (m.length = OL.length) := hp.out.length_eq
      have o9 : Hid (w8.ownsRow (w3.heap.size + 1) 47 3 (.slice A7 m.length c7) m.length (flat encP m)) := by show World.ownsRow _ _ _ _ _ _ _; rw [hlen.out]; exact o8.out
      have X8 : Ext w w8 := Below.trans Xr (Below.mono x8 (by omega))
      clear cB HV HO hs o8 x8
      go_wp2_with fail
      go_ret
      exact ⟨A7, c7, m, by rw [hlen.out]; rfl, (by show List.Perm _ _; rw [hOL.out]; exact hp.out), hsd, Ps.own o9.out, X8⟩

/-- What a call leaves that hands back parts. -/
def RetPs (w : World) (R : List Pt) (e : Ending) (w' : World) : Prop := ∃ A c, e = .returned (.slice A R.length c) ∧ Ps w' A R ∧ Ext w w'
theorem pParts {s : Su} {g : Sh} (ok : SuOk s) (fw : SuFew s) {w : World} (r : SuR w s g) {A : Option Addr} {l : List SegL} (h : Rg w A l) (hl : l.length ≤ 30) (c : Nat) (n : Int) :
    Calls Tryz.prog 18 #[.agg (s.cells g).toArray, .slice A l.length c, .int .i64 n] w (RetPs w (partsS s l n)) := by
  have kC : ∀ W, Ext w W → Calls Tryz.prog 22 #[.agg (s.cells g).toArray] W (RetB W (chk s)) := fun W X => pCheck ok fw (r.ext X)
  cases hc : chk s
  · rw [hc] at kC
    rw [partsS_no hc]
    refine (partsNo (s.cells g) rfl A l.length c n w kC).mono ?_
    rintro e w' ⟨rfl, X⟩
    exact ⟨none, 0, rfl, Ps.nil, X⟩
  · rw [hc] at kC
    have hL := all_lens30 s l hl
    have hO := oLens30 s l hl n
    refine (partsYes (s.cells g) rfl l A c n (paidAll s l) (notAll s l) (oR s (paidAll s l) n) (oO s (paidAll s l) n) (oD s (paidAll s l) n) (nightS s) w h kC (fun W X h => pPaid ok fw (r.ext X) h (by omega) c) (fun W X A c hr => pOver ok fw (r.ext X) hr (by omega) c n) (fun W X A c x hr hx => pNightOf ok fw (r.ext X) hr hx c) hL.2 hO.1.1 hO.1.2.1 hO.1.2.2 hO.2).mono ?_
    rintro e w' ⟨A', c', m, rfl, hp, hsd, hP, X⟩
    have e : m = partsS s l n := partsS_sort hc (by
      rw [raw_put s hc l n]
      have := hp.out
      simpa [outsP, List.append_assoc] using this) hsd.out
    subst e
    exact ⟨A', c', rfl, hP, X⟩
end Go.Proofs.YtnhmibfgaoealaaGreat
