/-
  Words for memory; a setup argument opened; lumperref07.Few.
-/
import Derived.WalkKit
import Derived.WalkSpells
import Derived.WalkLawsBesides
import Derived.Deep.Slices
import Derived.Maps.AppendAt
import Derived.Test.YtmbjbbflhlndcaaProg
import Derived.Lib.Hide
import Derived.Deep.QuietTactic
import Derived.BigQuiet
import Derived.RegionTactic
import Derived.BigRegion
import Derived.Laws.Rows
import Derived.Deep.Fields
import Derived.ChangeSame
import Derived.ProofKit
import Derived.OpenShut
namespace Go.Proofs.Ytmbjbbflhlndcaa
open Go.RowKit
theorem min_ite (a b : Int) : min a b = if b < a then b else a := by split <;> omega
theorem max_ite (a b : Int) : max a b = if a < b then b else a := by split <;> omega
theorem add_head (g n : Nat) : (⟨g, 0, none⟩ : Addr).add n = ⟨g, n, none⟩ := by
  by_cases h : n = 0
  · subst h; rfl
  · simp [Addr.add, h]
section
variable {α : Type}
def flat (enc : α → List Value) (l : List α) : List Value := l.flatMap enc
theorem flat_nil (enc : α → List Value) : flat enc [] = [] := rfl
theorem flat_cons (enc : α → List Value) (x : α) (l : List α) : flat enc (x :: l) = enc x ++ flat enc l := rfl
theorem flat_append (enc : α → List Value) (l m : List α) : flat enc (l ++ m) = flat enc l ++ flat enc m := by simp [flat]
theorem flat_snoc (enc : α → List Value) (l : List α) (x : α) : flat enc (l ++ [x]) = flat enc l ++ enc x := by simp [flat]
theorem flat_length {enc : α → List Value} {k : Nat} (hk : ∀ x, (enc x).length = k) (l : List α) : (flat enc l).length = l.length * k := by
  induction l with
  | nil => simp [flat]
  | cons x l ih => rw [flat_cons, List.length_append, hk, ih, List.length_cons, Nat.add_mul]; omega
theorem flat_at {enc : α → List Value} {k : Nat} (hk : ∀ x, (enc x).length = k) (l : List α) (j : Nat) (h : j < l.length) (i : Nat) (hi : i < k) : (flat enc l)[j * k + i]? = (enc l[j])[i]? := by
  induction l generalizing j with
  | nil => simp at h
  | cons x l ih =>
    rw [flat_cons]
    cases j with
    | zero => rw [List.getElem?_append_left (by rw [hk]; omega)]; simp
    | succ j =>
      rw [List.getElem?_append_right (by rw [hk, Nat.succ_mul]; omega), hk, show (j + 1) * k + i - k = j * k + i from by rw [Nat.succ_mul]; omega]
      exact ih j (by simpa using h)
/-- The slice's address A leads to the elements l, in a block below B. -/
def Rd (enc : α → List Value) (k : Nat) (w : World) (B : Nat) (A : Option Addr) (l : List α) : Prop :=
  l ≠ [] → ∃ b off, A = some ⟨b, off, none⟩ ∧ b < B ∧ ∀ j (h : j < l.length) (i : Nat) (u : Value), (enc l[j])[i]? = some u → w.cell? ⟨b, off + j * k + i, none⟩ = some u
variable {enc : α → List Value} {k : Nat} {w w' : World} {B B' : Nat} {A : Option Addr} {l : List α}
theorem Rd.nil : Rd enc k w B A [] := fun h => absurd rfl h
theorem Rd.below (h : Rd enc k w B A l) (hb : Below B w w') : Rd enc k w' B A l := fun hne => by
  obtain ⟨b, off, hA, hlt, hc⟩ := h hne
  exact ⟨b, off, hA, hlt, fun j hj i u hu => (hb.cell (p := ⟨b, off + j * k + i, none⟩) hlt).trans (hc j hj i u hu)⟩
theorem Rd.more (h : Rd enc k w B A l) (hB : B ≤ B') : Rd enc k w B' A l := fun hne => by
  obtain ⟨b, off, hA, hlt, hc⟩ := h hne
  exact ⟨b, off, hA, by omega, hc⟩
theorem Rd.of_own {base e : Nat} {n cap : Nat} (hk : ∀ x, (enc x).length = k) (h : w.ownsRow base e k (.slice A n cap) l.length (flat enc l)) : Rd enc k w w.heap.size A l := fun hne => by
  rcases h.2 with ⟨_, h0⟩ | ⟨g, cap', cur, hv, _, hh, _⟩
  · exact absurd (List.eq_nil_of_length_eq_zero h0) hne
  · injection hv with hA _ _
    subst hA
    refine ⟨g, 0, rfl, (Array.getElem?_eq_some_iff.1 hh).1, fun j hj i u hu => ?_⟩
    have hi : i < k := by
      have := (List.getElem?_eq_some_iff.1 hu).1
      rwa [hk] at this
    have := h.cells (g := g) rfl (j * k + i) u (by rw [flat_at hk l j hj i hi]; exact hu)
    rw [add_head] at this
    simpa using this
theorem Rd.of_own' {base e : Nat} {n cap : Nat} (hk : ∀ x, (enc x).length = k) (h : w.ownsRow base e k (.slice A n cap) n (flat enc l)) (hn : n = l.length) : Rd enc k w w.heap.size A l := by
  subst hn; exact Rd.of_own hk h
/-- The form of an owned slice: its address is nil or the head of a block. -/
theorem own_form {base e size n : Nat} {v : Value} {xs : List Value} (h : w.ownsRow base e size v n xs) : ∃ A cap, v = .slice A n cap ∧ n ≤ cap ∧ cap ≤ maxLen := by
  rcases h.2 with ⟨h1, h0⟩ | ⟨g, cap', cur, hv, _, _, hc, hm, _⟩
  · exact ⟨none, 0, by rw [h1, h0], by omega, by unfold maxLen; omega⟩
  · exact ⟨_, _, hv, hc, hm⟩
theorem own_below {base e size n : Nat} {v : Value} {xs : List Value} (h : w.ownsRow base e size v n xs) (hb : Below w.heap.size w w') : w'.ownsRow base e size v n xs := by
  refine ⟨h.1, ?_⟩
  rcases h.2 with hn | ⟨g, cap, cur, hv, hg, hh, rest⟩
  · exact .inl hn
  · exact .inr ⟨g, cap, cur, hv, hg, (hb.block g (Array.getElem?_eq_some_iff.1 hh).1).trans hh, rest⟩
theorem own_drewN {base e size n : Nat} {v : Value} {xs : List Value} (h : w.ownsRow base e size v n xs) (q : Nat) : (w.drewN q).ownsRow base e size v n xs := h
theorem own_set {base e size n cap g : Nat} {xs : List Value} (h : w.ownsRow base e size (.slice (some ⟨g, 0, none⟩) n cap) n xs) (j : Nat) (u : Value) :
    (w.setCell ⟨g, j, none⟩ u).ownsRow base e size (.slice (some ⟨g, 0, none⟩) n cap) n (xs.set j u) := by
  refine ⟨by rw [List.length_set]; exact h.1, ?_⟩
  rcases h.2 with ⟨h0, _⟩ | ⟨g', cap', cur, hv, hg, hh, h1, h2, h3, h4⟩
  · cases h0
  · cases hv
    refine .inr ⟨g, cap, cur.setIfInBounds j u, rfl, hg, ?_, h1, h2, by simpa using h3, ?_⟩
    · simp [World.setCell, Array.getElem?_modify, hh]
    · rw [Array.toList_setIfInBounds, ← h4, List.take_set]
theorem own_set_other {base e size n : Nat} {v : Value} {xs : List Value} (h : w.ownsRow base e size v n xs) {p : Addr} (u : Value) (hp : v.ownBlock ≠ some p.block) : (w.setCell p u).ownsRow base e size v n xs := by
  refine ⟨h.1, ?_⟩
  rcases h.2 with hn | ⟨g, cap, cur, rfl, hg, hh, rest⟩
  · exact .inl hn
  · refine .inr ⟨g, cap, cur, rfl, hg, ?_, rest⟩
    rw [Below.heap_setCell w p u g (fun e => hp (by rw [e]; rfl))]
    exact hh
theorem own_base {base base' e size n : Nat} {v : Value} {xs : List Value} (h : w.ownsRow base e size v n xs) (hB : base' ≤ base) : w.ownsRow base' e size v n xs :=
  ⟨h.1, h.2.imp id (fun ⟨g, cap, cur, a, b, c⟩ => ⟨g, cap, cur, a, Nat.le_trans hB b, c⟩)⟩
/-- New cells lie where they were laid. -/
theorem cells_new (w : World) (xs : List Value) (t : TypeId) : ∀ j u, xs[j]? = some u → (w.alloc (.cells xs.toArray t)).cell? ((⟨w.heap.size, 0, none⟩ : Addr).add j) = some u := by
  intro j u hj
  have h1 : (w.alloc (.cells xs.toArray t)).heap[w.heap.size]? = some (.cells xs.toArray t) := heap_alloc_new w _
  by_cases h0 : j = 0
  · subst h0
    simp only [Addr.add, if_pos, World.cell?, h1]
    simpa using hj
  · simp only [Addr.add, if_neg h0, World.cell?, h1]
    simpa using hj
end
theorem cells_new_at (w : World) (xs : List Value) (t g : Nat) (hg : g = w.heap.size) : ∀ j u, xs[j]? = some u → (w.alloc (.cells xs.toArray t)).cell? ((⟨g, 0, none⟩ : Addr).add j) = some u := by
  subst hg; exact cells_new w xs t
/-- The blocks from lo up to hi stand as they stood. -/
structure Mid (lo hi : Nat) (w w' : World) : Prop where
  size : w.heap.size ≤ w'.heap.size
  block : ∀ k, lo ≤ k → k < hi → w'.heap[k]? = w.heap[k]?
theorem Mid.refl (lo hi : Nat) (w : World) : Mid lo hi w w := ⟨Nat.le_refl _, fun _ _ _ => rfl⟩
theorem Mid.trans {lo hi : Nat} {a b c : World} (h : Mid lo hi a b) (k : Mid lo hi b c) : Mid lo hi a c := ⟨Nat.le_trans h.size k.size, fun i h1 h2 => (k.block i h1 h2).trans (h.block i h1 h2)⟩
theorem Mid.alloc {lo hi : Nat} {a w : World} (h : Mid lo hi a w) (hh : hi ≤ a.heap.size) (o : Obj) : Mid lo hi a (w.alloc o) :=
  h.trans ⟨by simp, fun k _ h2 => Below.heap_alloc _ _ _ (by have := h.size; omega)⟩
theorem Mid.drewN {lo hi : Nat} {a w : World} (h : Mid lo hi a w) (n : Nat) : Mid lo hi a (w.drewN n) := h.trans ⟨Nat.le_refl _, fun _ _ _ => rfl⟩
theorem Mid.grown {lo hi : Nat} {a w w' : World} {row : Option Nat} (h : Mid lo hi a w) (hh : hi ≤ a.heap.size) (hg : w.grownBy w' row) (hr : ∀ k, row = some k → k < lo ∨ hi ≤ k) : Mid lo hi a w' :=
  h.trans ⟨hg.size, fun k h1 h2 => hg.block k (by have := h.size; omega) (fun e => by have := hr k e.symm; omega)⟩
theorem Mid.cell {lo hi : Nat} {w w' : World} (h : Mid lo hi w w') {p : Addr} (h1 : lo ≤ p.block) (h2 : p.block < hi) : w'.cell? p = w.cell? p := World.cell?_of_block (w := w) (h.block p.block h1 h2)
theorem Mid.frozen {lo hi : Nat} {w w' : World} (h : Mid lo hi w w') {p : Addr} (h1 : lo ≤ p.block) (h2 : p.block < hi) : w'.frozen? p = w.frozen? p := World.frozen?_of_block (w := w) (h.block p.block h1 h2)
theorem Mid.below {lo hi : Nat} {a b c : World} (h : Mid lo hi a b) (hh : hi ≤ a.heap.size) (k : Below b.heap.size b c) : Mid lo hi a c := h.trans ⟨k.size, fun i _ h2 => k.block i (by have := h.size; omega)⟩
section
variable {P : Program} (w : World)
theorem wp_append_at {o : Oper} {a : Act} {K : Act → World → Prop} {Q : Exit → Act → World → Prop} (s x : Operand) (t : TypeId)
    (ho : o.op = .call { callee := .builtin .append, args := #[s, x], argTypes := #[t, t] })
    (base : Nat) (e : TypeId) (i : TypeInfo) (z : Value) (size bytes : Nat) (ht : P.underlying t = some (.slice e)) (hi : P.info? e = some i) (hz : i.zero = some z)
    (hsize : i.size = size) (hby : i.bytes = bytes) (hzs : z.cells.size = size) (hsz : 0 < size)
    (v : Value) (n : Nat) (xs : List Value) (hs : a.eval s = v) (hown : w.ownsRow base e size v n xs)
    (ad : Addr) (m c : Nat) (news : List Value) (hx : a.eval x = .slice (some ad) m c) (hl : news.length = m * size) (hnews : ∀ j u, news[j]? = some u → w.cell? (ad.add j) = some u) (h1 : ∀ u ∈ news, u.oneCell' = true)
    (h63 : n + m ≤ maxLen) (hbytes : (n + m) * bytes ≤ 140737488355328) (hbase : base ≤ w.heap.size)
    (h : ∀ v' w', w'.ownsRow base e size v' (n + m) (xs ++ news) → w.grownBy w' v.ownBlock → (v'.ownBlock = v.ownBlock ∨ v'.ownBlock = some w.heap.size) → K (a.put o.dst v') w') : o.wp P a w K Q := by
  obtain ⟨v', w', hrun, h2, h3, _, h4⟩ := run_append_own_at (P := P) w base t o.type e i z size bytes ht hi hz hsize hby hzs hsz v n xs hown ad m c news hl hnews h1 h63 hbytes hbase
  unfold Oper.wp execOp
  simp only [ho, resolve, invoke, builtin, Sem.run_bind, Sem.run_pure, Result.andThen_ok, List.map_toArray, List.map_cons, List.map_nil, hs, hx, hrun]
  exact h v' w' h2 h3 h4
theorem wpList_append_at {ops : Array Oper} {rest : List Oper} {o : Oper} {a : Act} {Q : Exit → Act → World → Prop} (hgd : o.guard = none) (s x : Operand) (t : TypeId)
    (ho : o.op = .call { callee := .builtin .append, args := #[s, x], argTypes := #[t, t] })
    (base : Nat) (e : TypeId) (i : TypeInfo) (z : Value) (size bytes : Nat) (ht : P.underlying t = some (.slice e)) (hi : P.info? e = some i) (hz : i.zero = some z)
    (hsize : i.size = size) (hby : i.bytes = bytes) (hzs : z.cells.size = size) (hsz : 0 < size)
    (v : Value) (n : Nat) (xs : List Value) (hs : a.eval s = v) (hown : w.ownsRow base e size v n xs)
    (ad : Addr) (m c : Nat) (news : List Value) (hx : a.eval x = .slice (some ad) m c) (hl : news.length = m * size) (hnews : ∀ j u, news[j]? = some u → w.cell? (ad.add j) = some u) (h1 : ∀ u ∈ news, u.oneCell' = true)
    (h63 : n + m ≤ maxLen) (hbytes : (n + m) * bytes ≤ 140737488355328) (hbase : base ≤ w.heap.size)
    (h : ∀ v' w', w'.ownsRow base e size v' (n + m) (xs ++ news) → w.grownBy w' v.ownBlock → (v'.ownBlock = v.ownBlock ∨ v'.ownBlock = some w.heap.size) → wpList P ops Q rest (a.put o.dst v') w') : wpList P ops Q (o :: rest) a w :=
  wpList_plain hgd fun _ hK => wp_append_at w s x t ho base e i z size bytes ht hi hz hsize hby hzs hsz v n xs hs hown ad m c news hx hl hnews h1 h63 hbytes hbase fun v' w' h2 h3 h4 => hK _ _ (h v' w' h2 h3 h4)
end
theorem bcell {W w1 : World} (hb : Below W.heap.size W w1) : (∀ b o, b < W.heap.size → w1.cell? ⟨b, o, none⟩ = W.cell? ⟨b, o, none⟩) ∧ (∀ b o, b < W.heap.size → w1.frozen? ⟨b, o, none⟩ = W.frozen? ⟨b, o, none⟩) :=
  ⟨fun b o h => hb.cell (p := ⟨b, o, none⟩) h, fun b o h => hb.frozen (p := ⟨b, o, none⟩) h⟩
theorem ret_val {a b : Value} (h : a = b) : Ending.returned a = Ending.returned b := by rw [h]
theorem Rd.at_ {α : Type} {enc : α → List Value} {k : Nat} {w : World} {B : Nat} {A : Option Addr} {l : List α} (h : Rd enc k w B A l) {j : Nat} (hj : j < l.length) :
    ∃ b off x, A = some ⟨b, off, none⟩ ∧ b < B ∧ l[j]? = some x ∧ ∀ i u, (enc x)[i]? = some u → w.cell? ⟨b, off + j * k + i, none⟩ = some u := by
  obtain ⟨b, off, hA, hb, hc⟩ := h (by rintro rfl; simp at hj)
  exact ⟨b, off, l[j], hA, hb, List.getElem?_eq_getElem hj, hc j hj⟩
def encS (s : Int × Int) : List Value := [.int .i64 s.1, .int .i64 s.2]
theorem encS_len (s : Int × Int) : (encS s).length = 2 := rfl
theorem take_snoc {α : Type} {l : List α} {k : Nat} {x : α} (h : l[k]? = some x) : l.take (k + 1) = l.take k ++ [x] := by
  rw [List.take_add_one, h]; rfl
end Go.Proofs.Ytmbjbbflhlndcaa
namespace Go.Proofs.Ytmbjbbflhlndcaa
open Go.RowKit
theorem isNaN_any (x : Int) (w : World) : Calls Try.prog 102 #[.int .i64 x] w fun e w' => e = .returned (.bool false) ∧ w = w' := by
  go_enter Try.func102, Try.ntmps102
  go_wp2
  go_ret
  exact ⟨by simp, rfl⟩
def cmpI (x y : Int) : Int := if x < y then -1 else if y < x then 1 else 0
set_option maxHeartbeats 400000 in
theorem compare_any (x y : Int) (w : World) : Calls Try.prog 90 #[.int .i64 x, .int .i64 y] w fun e w' => e = .returned (.int .i64 (cmpI x y)) ∧ w = w' := by
  by_cases h1 : x < y
  · have e : cmpI x y = -1 := by unfold cmpI; rw [if_pos h1]
    rw [e]; clear e
    go_enter Try.func90, Try.ntmps90
    go_wp2_with (go_at_call 102; refine (isNaN_any _ _).mono ?_; rintro e w' ⟨rfl, rfl⟩)
    go_ret
    exact ⟨rfl, rfl⟩
  · by_cases h2 : y < x
    · have e : cmpI x y = 1 := by unfold cmpI; rw [if_neg h1, if_pos h2]
      rw [e]; clear e
      go_enter Try.func90, Try.ntmps90
      go_wp2_with (go_at_call 102; refine (isNaN_any _ _).mono ?_; rintro e w' ⟨rfl, rfl⟩)
      go_ret
      exact ⟨rfl, rfl⟩
    · have e : cmpI x y = 0 := by unfold cmpI; rw [if_neg h1, if_neg h2]
      rw [e]; clear e
      go_enter Try.func90, Try.ntmps90
      go_wp2_with (go_at_call 102; refine (isNaN_any _ _).mono ?_; rintro e w' ⟨rfl, rfl⟩)
      go_ret
      exact ⟨rfl, rfl⟩
end Go.Proofs.Ytmbjbbflhlndcaa
namespace Go.Proofs.Ytmbjbbflhlndcaa
open Go.RowKit
/-- Nothing that lay has turned. -/
def Ext (w w' : World) : Prop := Below w.heap.size w w'
theorem Ext.refl (w : World) : Ext w w := Below.refl _ _
theorem Ext.trans {a b c : World} (h : Ext a b) (k : Ext b c) : Ext a c := Below.trans h (Below.mono k h.size)
theorem Ext.alloc {a w : World} (h : Ext a w) (o : Obj) : Ext a (w.alloc o) := Below.alloc h h.size o
theorem Ext.drewN {a w : World} (h : Ext a w) (n : Nat) : Ext a (w.drewN n) := below_drewN h n
/-- The slice at A reads as these spans. -/
def Rs (w : World) (A : Option Addr) (l : List (Int × Int)) : Prop := Rd encS 2 w w.heap.size A l
theorem Rs.ext {w w' : World} {A : Option Addr} {l : List (Int × Int)} (h : Rs w A l) (k : Ext w w') : Rs w' A l := (Rd.below h k).more k.size
theorem Rs.alloc {w : World} {A : Option Addr} {l : List (Int × Int)} (h : Rs w A l) (o : Obj) : Rs (w.alloc o) A l := h.ext ((Ext.refl w).alloc o)
theorem Rs.nil {w : World} {A : Option Addr} : Rs w A [] := Rd.nil
theorem Rs.own {w : World} {A : Option Addr} {n cap base e : Nat} {l : List (Int × Int)} (h : w.ownsRow base e 2 (.slice A n cap) l.length (flat encS l)) : Rs w A l := Rd.of_own encS_len h
theorem Rs.new (w : World) (l : List (Int × Int)) (t : TypeId) : Rs (w.alloc (.cells (flat encS l).toArray t)) (some ⟨w.heap.size, 0, none⟩) l := fun _ =>
  ⟨w.heap.size, 0, rfl, by simp, fun j hj i u hu => by
    have hi : i < 2 := by have := (List.getElem?_eq_some_iff.1 hu).1; rwa [encS_len] at this
    have := cells_new w (flat encS l) t (j * 2 + i) u (by rw [flat_at encS_len l j hj i hi]; exact hu)
    rw [add_head] at this
    rw [Nat.zero_add]; exact this⟩
def RetB (w : World) (b : Bool) (e : Ending) (w' : World) : Prop := e = .returned (.bool b) ∧ Ext w w'
def RetI (w : World) (n : Int) (e : Ending) (w' : World) : Prop := e = .returned (.int .i64 n) ∧ Ext w w'
def B64 (n : Int) : Prop := -9223372036854775808 ≤ n ∧ n ≤ 9223372036854775807
end Go.Proofs.Ytmbjbbflhlndcaa
namespace Go.Proofs.Ytmbjbbflhlndcaa
open Go.RowKit
/-- Block b is just these cells. -/
def Bx (w : World) (b : Nat) (cs : List Value) (t : TypeId) : Prop := w.heap[b]? = some (.cells cs.toArray t (0, 0))
section
variable {w w' : World} {b : Nat} {cs : List Value} {t : TypeId}
theorem Bx.lt (h : Bx w b cs t) : b < w.heap.size := by
  rcases Nat.lt_or_ge b w.heap.size with hlt | hge
  · exact hlt
  · unfold Bx at h; rw [Array.getElem?_eq_none hge] at h; cases h
theorem Bx.ext (h : Bx w b cs t) (k : Ext w w') : Bx w' b cs t := (k.block b h.lt).trans h
theorem Bx.alloc (h : Bx w b cs t) (o : Obj) : Bx (w.alloc o) b cs t := h.ext ((Ext.refl w).alloc o)
theorem Bx.drewN (h : Bx w b cs t) (n : Nat) : Bx (w.drewN n) b cs t := h.ext ((Ext.refl w).drewN n)
theorem Bx.new (w : World) (cs : List Value) (t : TypeId) : Bx (w.alloc (.cells cs.toArray t)) w.heap.size cs t := heap_alloc_new w _
theorem Bx.cell (h : Bx w b cs t) (i : Nat) (u : Value) (hi : cs[i]? = some u) : w.cell? ⟨b, i, none⟩ = some u := by
  rw [cell_of_row w b i cs.toArray t (0, 0) h]; simpa using hi
theorem Bx.frozen (h : Bx w b cs t) (i : Nat) : w.frozen? ⟨b, i, none⟩ = false := by
  unfold Bx at h
  simp [World.frozen?, h]
theorem Bx.set_ (h : Bx w b cs t) (i : Nat) (u : Value) : Bx (w.setCell ⟨b, i, none⟩ u) b (cs.set i u) t := by
  unfold Bx at h ⊢
  simp [World.setCell, Array.getElem?_modify, h]
end
theorem suCells {w : World} {b : Nat} {v_pl v_wy v_p1 v_p2 v_el v_cl v_ge v_al v_un v_ca v_pb v_aa v_ab v_dr v_do v_wr v_nf v_nt v_ra v_di v_le v_fa v_ti : Value} {t : TypeId} (h : Bx w b [v_pl, v_wy, v_p1, v_p2, v_el, v_cl, v_ge, v_al, v_un, v_ca, v_pb, v_aa, v_ab, v_dr, v_do, v_wr, v_nf, v_nt, v_ra, v_di, v_le, v_fa, v_ti] t) : w.cell? ⟨b, 0, none⟩ = some v_pl ∧ w.cell? ⟨b, 1, none⟩ = some v_wy ∧ w.cell? ⟨b, 2, none⟩ = some v_p1 ∧ w.cell? ⟨b, 3, none⟩ = some v_p2 ∧ w.cell? ⟨b, 4, none⟩ = some v_el ∧ w.cell? ⟨b, 5, none⟩ = some v_cl ∧ w.cell? ⟨b, 6, none⟩ = some v_ge ∧ w.cell? ⟨b, 7, none⟩ = some v_al ∧ w.cell? ⟨b, 8, none⟩ = some v_un ∧ w.cell? ⟨b, 9, none⟩ = some v_ca ∧ w.cell? ⟨b, 10, none⟩ = some v_pb ∧ w.cell? ⟨b, 11, none⟩ = some v_aa ∧ w.cell? ⟨b, 12, none⟩ = some v_ab ∧ w.cell? ⟨b, 13, none⟩ = some v_dr ∧ w.cell? ⟨b, 14, none⟩ = some v_do ∧ w.cell? ⟨b, 15, none⟩ = some v_wr ∧ w.cell? ⟨b, 16, none⟩ = some v_nf ∧ w.cell? ⟨b, 17, none⟩ = some v_nt ∧ w.cell? ⟨b, 18, none⟩ = some v_ra ∧ w.cell? ⟨b, 19, none⟩ = some v_di ∧ w.cell? ⟨b, 20, none⟩ = some v_le ∧ w.cell? ⟨b, 21, none⟩ = some v_fa ∧ w.cell? ⟨b, 22, none⟩ = some v_ti := by
  exact ⟨h.cell 0 _ rfl, h.cell 1 _ rfl, h.cell 2 _ rfl, h.cell 3 _ rfl, h.cell 4 _ rfl, h.cell 5 _ rfl, h.cell 6 _ rfl, h.cell 7 _ rfl, h.cell 8 _ rfl, h.cell 9 _ rfl, h.cell 10 _ rfl, h.cell 11 _ rfl, h.cell 12 _ rfl, h.cell 13 _ rfl, h.cell 14 _ rfl, h.cell 15 _ rfl, h.cell 16 _ rfl, h.cell 17 _ rfl, h.cell 18 _ rfl, h.cell 19 _ rfl, h.cell 20 _ rfl, h.cell 21 _ rfl, h.cell 22 _ rfl⟩
/-- A whole struct read out of its block, guarded or not. -/
theorem load_box {P : Program} {ops : Array Oper} {rest : List Oper} {o : Oper} {a : Act} {w : World} {Q : Exit → Act → World → Prop} (hgd : Region.wanted o (yielded ops a.tmps) = true) (ty : TypeId) (x : Operand) (ho : o.op = .load ty x)
    (g : Nat) (hx : a.eval x = .pointer (some ⟨g, 0, none⟩)) (cs : List Value) (t : TypeId) (hg : Bx w g cs t) (d : TypeDesc)
    (hu : P.underlying ty = some d) (hd : (match d with | .struct _ | .array _ _ => true | _ => false) = true) (hi : (P.info? ty).map (·.size) = some cs.toArray.size)
    (h : wpList P ops Q rest (a.put o.dst (.agg cs.toArray)) w) : wpList P ops Q (o :: rest) a w := by
  refine wpList_step fun K hK => ?_
  rw [if_pos hgd]
  exact wp_load_row ty x ho g hx t cs.toArray (0, 0) d hg hu hd hi (hK _ _ h)
end Go.Proofs.Ytmbjbbflhlndcaa
namespace Go.Proofs.Ytmbjbbflhlndcaa
open Go.ChangeShapes Go.WideShapes Go.ChangeAt Go.RowKit Go.Deep
section
variable {H : Type} {enc : TypeId × Value → H} {P : Program} {w : World} {base : Nat} {spare : Nat → Bool} {held : Bool}
theorem open_slice_fields {t e : TypeId} {fs : Array Field} {fuel : Nat} {cs : List Value} {x : DataW H × List MemPlace} (ht : P.underlying t = some (.slice e)) (he : P.underlying e = some (.struct fs))
    (hone : oneCellFields P fs = true) (hC : P.cellsOf e = fs.size) (h : DataW.trod enc P w base spare held fuel t cs = some x) :
    (cs = [.slice none 0 0] ∧ x = (.nil, [])) ∨
    ∃ (a : Addr) (len cap m : Nat) (D : Nat → DataW H) (Pl : Nat → List MemPlace), cs = [.slice (some a) len cap] ∧ base ≤ a.block ∧ len ≤ cap ∧ cap ≤ maxLen ∧ m = (if spare a.block then cap else len) ∧
      x = (.slice ((List.range len).map D) ((List.range (m - len)).map fun j => D (len + j)), MemPlace.row a (m * fs.size) ++ (List.range m).flatMap Pl) ∧
      ∀ i, i < m → ∃ (ys : List (DataW H × List MemPlace)) (n : Nat), D i = .agg (ys.map (·.1)) ∧ Pl i = ys.flatMap (·.2) ∧ ys.length = fs.size ∧
        ∀ (j : Nat) (f : Field), fs[j]? = some f → ∃ (v : Value) (y : DataW H × List MemPlace), w.cell? (a.add (i * fs.size + j)) = some v ∧ ys[j]? = some y ∧ DataW.trod enc P w base spare held n f.type [v] = some y := by
  rcases open_slice ht h with h0 | ⟨a, len, cap, m, n, D, Pl, hcs, hb, hl, hm, hmm, hx, hi⟩
  · exact .inl h0
  · refine .inr ⟨a, len, cap, m, D, Pl, hcs, hb, hl, hm, hmm, by rw [hC] at hx; exact hx, fun i him => ?_⟩
    obtain ⟨cs', hc, ht'⟩ := hi i him
    rw [hC] at hc
    obtain ⟨ys, n', hn', hy, hlen, hyl, hf⟩ := DataW.trod_struct he ht'
    obtain ⟨_, hcl, hat⟩ := World.cells?_some hc
    simp only [Prod.mk.injEq] at hy
    refine ⟨ys, n', hy.1, hy.2, hyl, fun j f hj => ?_⟩
    obtain ⟨ho, hk⟩ := hone_of hone j f hj
    have hjl : j < fs.size := (Array.getElem?_eq_some_iff.1 hj).1
    have hcell := hat j hjl
    have hv : cs'[j]? = some (cs'[j]'(by omega)) := List.getElem?_eq_getElem (by omega)
    have h1 := hf j f hj
    rw [ho, hk] at h1
    have hone' : (cs'.drop j).take 1 = [cs'[j]'(by omega)] := by
      rw [List.drop_eq_getElem_cons (by omega)]
      rfl
    rw [hone'] at h1
    have hys : ys[j]? = some (ys[j]'(by omega)) := List.getElem?_eq_getElem (by omega)
    refine ⟨_, _, ?_, hys, h1.trans hys⟩
    rw [← Go.Deep.add_add, hcell, hv]
end
theorem open_two {H : Type} {enc : TypeId × Value → H} {P : Program} {w : World} {base : Nat} {spare : Nat → Bool} {held : Bool} {t e i : TypeId} {f0 f1 : Field} (ht : P.underlying t = some (.slice e)) (he : P.underlying e = some (.struct #[f0, f1])) (h0 : f0.type = i) (h1 : f1.type = i) (hi : P.underlying i = some (.int .i64))
    (hone : oneCellFields P #[f0, f1] = true) (hC : P.cellsOf e = 2) {A : Option Addr} {len cap : Nat} {d : DataW H} {p : List MemPlace} (h : DataW.Trod enc P w base spare held t (.slice A len cap) d p) :
    ∃ l : List (Int × Int), len = l.length ∧ l.length ≤ maxLen ∧ Rs w A l := by
  obtain ⟨fuel, hf⟩ := h
  rcases open_slice_fields ht he hone hC hf with ⟨hcs, _⟩ | ⟨a, len', cap', m, D, Pl, hcs, _, hl, hm, hmm, _, hE⟩
  · simp [Value.cells] at hcs
    obtain ⟨rfl, rfl, rfl⟩ := hcs
    exact ⟨[], rfl, Nat.zero_le _, .nil⟩
  · simp [Value.cells] at hcs
    obtain ⟨rfl, rfl, rfl⟩ := hcs
    have hlm : len ≤ m := by rw [hmm]; split <;> omega
    have key : ∀ k, k < len → ∃ x y : Int, w.cell? (a.add (k * 2)) = some (.int .i64 x) ∧ w.cell? (a.add (k * 2 + 1)) = some (.int .i64 y) := by
      intro k hk
      obtain ⟨ys, n, _, _, _, hF⟩ := hE k (by omega)
      obtain ⟨v0, y0, c0, _, t0⟩ := hF 0 f0 rfl
      obtain ⟨v1, y1, c1, _, t1⟩ := hF 1 f1 rfl
      obtain ⟨x, hx, _, _⟩ := DataW.trod_int (by rw [h0]; exact hi) t0
      obtain ⟨y, hy, _, _⟩ := DataW.trod_int (by rw [h1]; exact hi) t1
      cases hx; cases hy
      exact ⟨x, y, c0, c1⟩
    have mk : ∀ n, n ≤ len → ∃ l : List (Int × Int), l.length = n ∧ ∀ j (h : j < l.length), w.cell? (a.add (j * 2)) = some (.int .i64 l[j].1) ∧ w.cell? (a.add (j * 2 + 1)) = some (.int .i64 l[j].2) := by
      intro n
      induction n with
      | zero => exact fun _ => ⟨[], rfl, fun j h => absurd h (by simp)⟩
      | succ n ih =>
        intro hn
        obtain ⟨l, hl, hc⟩ := ih (by omega)
        obtain ⟨x, y, cx, cy⟩ := key n (by omega)
        refine ⟨l ++ [(x, y)], by simp [hl], fun j hj => ?_⟩
        by_cases hjn : j < l.length
        · rw [List.getElem_append_left hjn]; exact hc j hjn
        · obtain rfl : j = l.length := by simp at hj; omega
          have hg : (l ++ [(x, y)])[l.length]'hj = (x, y) := by simp
          rw [hg, hl]
          exact ⟨cx, cy⟩
    obtain ⟨l, hl', hc⟩ := mk len (Nat.le_refl _)
    refine ⟨l, hl'.symm, by omega, fun hne => ?_⟩
    have h0l : 0 < l.length := List.length_pos_iff.2 hne
    obtain ⟨b, off, spot⟩ := a
    have hc0 := (hc 0 h0l).1
    have hspot : spot = none := by simpa [Addr.add] using World.cell?_spot hc0
    subst hspot
    have hb : b < w.heap.size := by
      have : w.cell? ⟨b, off, none⟩ = some (.int .i64 l[0].1) := by simpa [Addr.add] using hc0
      exact World.block_lt_of_cell? w _ this
    have hadd : ∀ n : Nat, (Addr.mk b off none).add n = ⟨b, off + n, none⟩ := fun n => by
      unfold Addr.add; split
      · next h => subst h; rfl
      · rfl
    refine ⟨b, off, rfl, hb, fun j hj i u hu => ?_⟩
    obtain ⟨ca, cb⟩ := hc j hj
    rw [hadd] at ca cb
    match i, hu with
    | 0, hu => simp [encS] at hu; subst hu; exact ca
    | 1, hu => simp [encS] at hu; subst hu; rw [Nat.add_assoc]; exact cb
    | n + 2, hu => simp [encS] at hu
end Go.Proofs.Ytmbjbbflhlndcaa
namespace Go.Proofs.Ytmbjbbflhlndcaa
open Go.RowKit
set_option linter.unusedVariables false
set_option linter.unusedSimpArgs false
def okIn (lo hi n : Int) : Bool := decide (lo ≤ n ∧ n ≤ hi)
def okShare (r : Int × Int) : Bool := decide (0 ≤ r.1 ∧ r.1 ≤ 2147483647 ∧ 1 ≤ r.2 ∧ r.2 ≤ 2147483647 ∧ Nat.gcd r.1.toNat r.2.toNat = 1)
def okWay (p : Int) (x : Int × Int × Int) : Bool := okIn 0 (p - 1) x.1 && okIn 0 (p - 1) x.2.1 && decide (x.1 ≠ x.2.1) && okIn 1 10000 x.2.2
def okEl (x : (Int × Int) × (Int × Int)) : Bool := okShare x.1 && okShare x.2
def okTier (last : Int) (t : Int × Int) : Bool := decide (last < t.1 ∧ t.1 ≤ 1000) && okIn 0 100000 t.2
def okTiers : Int → List (Int × Int) → Bool
  | _, [] => true
  | last, t :: r => okTier last t && okTiers t.1 r
theorem okIn_iff {lo hi n : Int} : okIn lo hi n = true ↔ lo ≤ n ∧ n ≤ hi := by unfold okIn; simp
theorem gcd_step (a b : Nat) : Nat.gcd b (a % b) = Nat.gcd a b := by rw [Nat.gcd_comm b, ← Nat.gcd_rec, Nat.gcd_comm]
theorem div_gcd {n d : Nat} (n0 : 0 < n) (d0 : 0 < d) : (n / Nat.gcd n d = n) ↔ Nat.gcd n d = 1 := by
  have g0 : 0 < Nat.gcd n d := Nat.gcd_pos_of_pos_left _ n0
  constructor
  · intro h
    by_cases h1 : Nat.gcd n d = 1
    · exact h1
    · have := Nat.div_lt_self n0 (show 1 < Nat.gcd n d by omega)
      omega
  · intro h; rw [h, Nat.div_one]
theorem div_gcd2 {n d : Nat} (h : Nat.gcd n d = 1) : n / Nat.gcd n d = n ∧ d / Nat.gcd n d = d := by rw [h]; simp
def atB {α : Type} (q : α → Bool) (zs : List α) (j : Nat) : Bool := match zs[j]? with | some x => q x | none => false
theorem atB_at {α : Type} {q : α → Bool} {zs : List α} {j : Nat} {x : α} (h : zs[j]? = some x) : atB q zs j = q x := by unfold atB; rw [h]
theorem atB_iff {α : Type} (q : α → Bool) (zs : List α) : (∃ j, j < zs.length ∧ atB q zs j = true) ↔ zs.any q = true := by
  constructor
  · rintro ⟨j, hj, h⟩
    rw [atB_at (List.getElem?_eq_getElem hj)] at h
    exact List.any_eq_true.2 ⟨_, List.getElem_mem hj, h⟩
  · intro h
    obtain ⟨x, hx, h⟩ := List.any_eq_true.1 h
    obtain ⟨j, hj, rfl⟩ := List.getElem_of_mem hx
    exact ⟨j, hj, by rw [atB_at (List.getElem?_eq_getElem hj)]; exact h⟩
theorem any_of {α : Type} {b : Bool} {q : α → Bool} {zs : List α} (h : b = true ↔ ∃ j, j < zs.length ∧ atB q zs j = true) : b = zs.any q := by
  rw [atB_iff] at h
  rw [Bool.eq_iff_iff]; exact h
theorem none_of {α : Type} {b : Bool} {q : α → Bool} {zs : List α} (h : b = true ↔ ∃ j, j < zs.length ∧ atB (fun x => !q x) zs j = true) : (!b) = zs.all q := by
  rw [any_of h]; clear h
  induction zs with
  | nil => rfl
  | cons x r ih => rw [List.any_cons, List.all_cons, ← ih]; cases q x <;> simp
/-- The place that the last tier, ahead of the j-th, had. -/
def lastOf (l : List (Int × Int)) : Nat → Int
  | 0 => -1
  | j + 1 => match l[j]? with | some t => t.1 | none => -1
def badTier (l : List (Int × Int)) (j : Nat) : Bool := match l[j]? with | some t => !okTier (lastOf l j) t | none => false
theorem tiers_aux (l : List (Int × Int)) (last : Int) : okTiers last l = true ↔ ∀ j t, l[j]? = some t → okTier (match j with | 0 => last | i + 1 => match l[i]? with | some u => u.1 | none => -1) t = true := by
  induction l generalizing last with
  | nil => simp [okTiers]
  | cons x r ih =>
    rw [okTiers, Bool.and_eq_true, ih]
    constructor
    · rintro ⟨h1, h2⟩ j t ht
      match j with
      | 0 => simp at ht; subst ht; exact h1
      | 1 => exact h2 0 t (by simpa using ht)
      | i + 2 => exact h2 (i + 1) t (by simpa using ht)
    · intro h
      refine ⟨h 0 x rfl, fun j t ht => ?_⟩
      match j with
      | 0 => exact h 1 t (by simpa using ht)
      | i + 1 => exact h (i + 2) t (by simpa using ht)
theorem tiers_of {b : Bool} {l : List (Int × Int)} (h : b = true ↔ ∃ j, j < l.length ∧ badTier l j = true) : (!b) = okTiers (-1) l := by
  rw [Bool.eq_iff_iff, tiers_aux]
  constructor
  · intro hb j t ht
    have hj : j < l.length := (List.getElem?_eq_some_iff.1 ht).1
    have hn : ¬ badTier l j = true := fun hc => by rw [h.2 ⟨j, hj, hc⟩] at hb; cases hb
    unfold badTier at hn
    rw [ht] at hn
    have : okTier (lastOf l j) t = true := by simpa using hn
    cases j <;> exact this
  · intro hb
    cases b with
    | false => rfl
    | true =>
      obtain ⟨j, hj, hc⟩ := h.1 rfl
      unfold badTier at hc
      rw [List.getElem?_eq_getElem hj] at hc
      have := hb j _ (List.getElem?_eq_getElem hj)
      have hc2 : okTier (lastOf l j) l[j] = false := by simpa using hc
      cases j <;> exact absurd (hc2.symm.trans this) (by decide)
def encN (n : Int) : List Value := [.int .i64 n]
theorem encN_len (n : Int) : (encN n).length = 1 := rfl
/-- The slice at A reads as these numbers. -/
def Rn (w : World) (A : Option Addr) (l : List Int) : Prop := Rd encN 1 w w.heap.size A l
theorem Rn.ext {w w' : World} {A : Option Addr} {l : List Int} (h : Rn w A l) (k : Ext w w') : Rn w' A l := (Rd.below h k).more k.size
theorem Rn.alloc {w : World} {A : Option Addr} {l : List Int} (h : Rn w A l) (o : Obj) : Rn (w.alloc o) A l := h.ext ((Ext.refl w).alloc o)
theorem Rn.nil {w : World} {A : Option Addr} : Rn w A [] := Rd.nil
theorem Rn.own {w : World} {A : Option Addr} {n cap base e : Nat} {l : List Int} (h : w.ownsRow base e 1 (.slice A n cap) l.length (flat encN l)) : Rn w A l := Rd.of_own encN_len h
theorem Rd.atN {w w' : World} {B : Nat} {A : Option Addr} {l : List Int} (h : Rd encN 1 w B A l) (hb : Below B w w') {j : Nat} (hj : j < l.length) :
    ∃ b off p, A = some ⟨b, off, none⟩ ∧ b < B ∧ Hid (l[j]? = some p) ∧ w'.cell? ⟨b, off + j, none⟩ = some (.int .i64 p) := by
  obtain ⟨b, off, x, hA, hlt, hx, hc⟩ := (h.below hb).at_ hj
  have := hc 0 _ rfl
  exact ⟨b, off, x, hA, hlt, hx, by simpa using this⟩
theorem Rn.drewN {w : World} {A : Option Addr} {l : List Int} (h : Rn w A l) (n : Nat) : Rn (w.drewN n) A l := h.ext ((Ext.refl w).drewN n)
theorem Rn.new (w : World) (l : List Int) (t : TypeId) : Rn (w.alloc (.cells (flat encN l).toArray t)) (some ⟨w.heap.size, 0, none⟩) l := fun _ =>
  ⟨w.heap.size, 0, rfl, by simp, fun j hj i u hu => by
    have hi : i < 1 := by have := (List.getElem?_eq_some_iff.1 hu).1; rwa [encN_len] at this
    have := cells_new w (flat encN l) t (j * 1 + i) u (by rw [flat_at encN_len l j hj i hi]; exact hu)
    rw [add_head] at this
    rw [Nat.zero_add]; exact this⟩
def enc3 (x : Int × Int × Int) : List Value := [.int .i64 x.1, .int .i64 x.2.1, .int .i64 x.2.2]
def enc4 (x : (Int × Int) × (Int × Int)) : List Value := [.int .i64 x.1.1, .int .i64 x.1.2, .int .i64 x.2.1, .int .i64 x.2.2]
end Go.Proofs.Ytmbjbbflhlndcaa
namespace Go.Proofs.Ytmbjbbflhlndcaa
open Go.ChangeShapes Go.WideShapes Go.ChangeAt Go.RowKit Go.Deep
set_option linter.unusedVariables false
theorem wf_b64 {n : Int} (h : (Lit.int .i64 n).wf = true) : B64 n := by
  have := bounds_i64 h
  exact this
/-- A datum of type e is k int cells. -/
def IntsAt (P : Program) (e k : Nat) : Prop := P.cellsOf e = k ∧ ∀ (H : Type) (enc : TypeId × Value → H) (w : World) (base : Nat) (spare : Nat → Bool) (held : Bool) (fuel : Nat) (cs : List Value) (x : DataW H × List MemPlace),
  DataW.trod enc P w base spare held fuel e cs = some x → ∃ zs : List Int, cs = zs.map (Value.int .i64) ∧ zs.length = k ∧ ∀ z ∈ zs, B64 z
theorem ints_int {P : Program} {e : Nat} (h : P.underlying e = some (.int .i64)) (hc : P.cellsOf e = 1) : IntsAt P e 1 :=
  ⟨hc, fun _ _ _ _ _ _ _ _ _ ht => by
    obtain ⟨n, rfl, _, hw⟩ := DataW.trod_int h ht
    exact ⟨[n], rfl, rfl, fun z hz => by simp at hz; subst hz; exact wf_b64 hw⟩⟩
def offs (ks : Nat → Nat) : Nat → Nat
  | 0 => 0
  | n + 1 => offs ks n + ks n
theorem ints_struct {P : Program} {t : Nat} {fs : Array Field} (ks : Nat → Nat) (ht : P.underlying t = some (.struct fs)) (hf : ∀ i f, fs[i]? = some f → IntsAt P f.type (ks i) ∧ f.offset = offs ks i) (hc : P.cellsOf t = offs ks fs.size) : IntsAt P t (offs ks fs.size) := by
  refine ⟨hc, fun H enc w base spare held fuel cs x h => ?_⟩
  obtain ⟨ys, n, _, _, hlen, hyl, hy⟩ := DataW.trod_struct ht h
  have key : ∀ m, m ≤ fs.size → ∃ zs : List Int, cs.take (offs ks m) = zs.map (Value.int .i64) ∧ zs.length = offs ks m ∧ ∀ z ∈ zs, B64 z := by
    intro m
    induction m with
    | zero => exact fun _ => ⟨[], by simp [offs], rfl, by simp⟩
    | succ m ih =>
      intro hm
      obtain ⟨zs, h1, h2, h3⟩ := ih (by omega)
      have hfm : fs[m]? = some (fs[m]'(by omega)) := Array.getElem?_eq_getElem (by omega)
      obtain ⟨⟨hk, hi⟩, ho⟩ := hf m _ hfm
      have h4 := hy m _ hfm
      rw [List.getElem?_eq_getElem (show m < ys.length by omega), ho, hk] at h4
      obtain ⟨us, h5, h6, h7⟩ := hi H enc w base spare held n _ _ h4
      refine ⟨zs ++ us, ?_, ?_, ?_⟩
      · rw [offs, List.take_add, h1, h5, List.map_append]
      · rw [List.length_append, h2, h6, offs]
      · intro z hz
        rcases List.mem_append.1 hz with hz | hz
        · exact h3 z hz
        · exact h7 z hz
  obtain ⟨zs, h1, h2, h3⟩ := key fs.size (Nat.le_refl _)
  rw [List.take_of_length_le (by omega)] at h1
  exact ⟨zs, h1, h2, h3⟩
/-- A slice of such data. -/
theorem open_rows {H : Type} {enc : TypeId × Value → H} {P : Program} {w : World} {base : Nat} {spare : Nat → Bool} {held : Bool} {t e k : Nat} (ht : P.underlying t = some (.slice e)) (hk : IntsAt P e k) (k0 : 0 < k)
    {fuel : Nat} {A : Option Addr} {len cap : Nat} {x : DataW H × List MemPlace} (hf : DataW.trod enc P w base spare held fuel t [.slice A len cap] = some x) :
    ∃ L : List (List Int), len = L.length ∧ L.length ≤ maxLen ∧ (∀ z ∈ L, z.length = k ∧ ∀ y ∈ z, B64 y) ∧ Rd (fun z => z.map (Value.int .i64)) k w w.heap.size A L := by
  obtain ⟨hC, hI⟩ := hk
  rcases open_slice ht hf with ⟨hcs, _⟩ | ⟨a, len', cap', m, n, D, Pl, hcs, _, hl, hm, hmm, _, hE⟩
  · simp at hcs
    obtain ⟨rfl, rfl, rfl⟩ := hcs
    exact ⟨[], rfl, Nat.zero_le _, by simp, .nil⟩
  · simp at hcs
    obtain ⟨rfl, rfl, rfl⟩ := hcs
    have hlm : len ≤ m := by rw [hmm]; split <;> omega
    rw [hC] at hE
    have mk : ∀ n, n ≤ len → ∃ L : List (List Int), L.length = n ∧ (∀ z ∈ L, z.length = k ∧ ∀ y ∈ z, B64 y) ∧ ∀ j (h : j < L.length) (i : Nat) (u : Value), (L[j].map (Value.int .i64))[i]? = some u → w.cell? (a.add (j * k + i)) = some u := by
      intro n
      induction n with
      | zero => exact fun _ => ⟨[], rfl, by simp, fun j h => absurd h (by simp)⟩
      | succ n ih =>
        intro hn
        obtain ⟨L, hl, hz, hc⟩ := ih (by omega)
        obtain ⟨cs, hcell, htr⟩ := hE n (by omega)
        obtain ⟨zs, rfl, h2, h3⟩ := hI _ _ _ _ _ _ _ _ _ htr
        obtain ⟨_, hcl, hat⟩ := World.cells?_some hcell
        refine ⟨L ++ [zs], by simp [hl], ?_, fun j hj i u hu => ?_⟩
        · intro z hz'
          rcases List.mem_append.1 hz' with h | h
          · exact hz z h
          · simp at h; subst h; exact ⟨h2, h3⟩
        · by_cases hjn : j < L.length
          · rw [List.getElem_append_left hjn] at hu; exact hc j hjn i u hu
          · obtain rfl : j = L.length := by simp at hj; omega
            have hg : (L ++ [zs])[L.length]'hj = zs := by simp
            rw [hg] at hu
            have hi : i < k := by have := (List.getElem?_eq_some_iff.1 hu).1; simp at this; omega
            have := hat i hi
            rw [hl, ← Go.Deep.add_add, this, hu]
    obtain ⟨L, hl', hz, hc⟩ := mk len (Nat.le_refl _)
    refine ⟨L, hl'.symm, by omega, hz, fun hne => ?_⟩
    have h0l : 0 < L.length := List.length_pos_iff.2 hne
    have hz0 := (hz L[0] (List.getElem_mem h0l)).1
    have h00 : (L[0].map (Value.int .i64))[0]? = some ((L[0].map (Value.int .i64))[0]'(by simp; omega)) := List.getElem?_eq_getElem _
    obtain ⟨b, off, spot⟩ := a
    have hc0 := hc 0 h0l 0 _ h00
    have hspot : spot = none := by simpa [Addr.add] using World.cell?_spot hc0
    subst hspot
    have hadd : ∀ n : Nat, (Addr.mk b off none).add n = ⟨b, off + n, none⟩ := fun n => by
      unfold Addr.add; split
      · next h => subst h; rfl
      · rfl
    have hb : b < w.heap.size := by
      rw [hadd] at hc0
      exact World.block_lt_of_cell? w _ hc0
    refine ⟨b, off, rfl, hb, fun j hj i u hu => ?_⟩
    have := hc j hj i u hu
    rw [hadd] at this
    rw [Nat.add_assoc]; exact this
/-- The same data by a reading of their own. -/
theorem Rd.conv {α β : Type} {enc : α → List Value} {enc' : β → List Value} {k : Nat} {w : World} {B : Nat} {A : Option Addr} {l : List α} (h : Rd enc k w B A l) (f : α → β) (he : ∀ x ∈ l, enc' (f x) = enc x) : Rd enc' k w B A (l.map f) := fun hne => by
  obtain ⟨b, off, hA, hb, hc⟩ := h (by rintro rfl; simp at hne)
  refine ⟨b, off, hA, hb, fun j hj i u hu => ?_⟩
  have hj' : j < l.length := by simpa using hj
  rw [List.getElem_map, he _ (List.getElem_mem hj')] at hu
  exact hc j hj' i u hu
def mk2 : List Int → Int × Int
  | [a, b] => (a, b)
  | _ => (0, 0)
def mk3 : List Int → Int × Int × Int
  | [a, b, c] => (a, b, c)
  | _ => (0, 0, 0)
def mk4 : List Int → (Int × Int) × (Int × Int)
  | [a, b, c, d] => ((a, b), (c, d))
  | _ => ((0, 0), (0, 0))
theorem len1 {z : List Int} (h : z.length = 1) : ∃ a, z = [a] := List.length_eq_one_iff.1 h
theorem len2 {z : List Int} (h : z.length = 2) : ∃ a b, z = [a, b] := by
  match z, h with
  | [a, b], _ => exact ⟨a, b, rfl⟩
theorem len3 {z : List Int} (h : z.length = 3) : ∃ a b c, z = [a, b, c] := by
  match z, h with
  | [a, b, c], _ => exact ⟨a, b, c, rfl⟩
theorem len4 {z : List Int} (h : z.length = 4) : ∃ a b c d, z = [a, b, c, d] := by
  match z, h with
  | [a, b, c, d], _ => exact ⟨a, b, c, d, rfl⟩
section
variable {H : Type} {enc : TypeId × Value → H} {P : Program} {w : World} {base : Nat} {spare : Nat → Bool} {held : Bool} {t e : Nat} {fuel : Nat} {A : Option Addr} {len cap : Nat} {x : DataW H × List MemPlace}
theorem open_list1 (ht : P.underlying t = some (.slice e)) (hk : IntsAt P e 1) (hf : DataW.trod enc P w base spare held fuel t [.slice A len cap] = some x) :
    ∃ l : List Int, len = l.length ∧ l.length ≤ maxLen ∧ (∀ z ∈ l, B64 z) ∧ Rd encN 1 w w.heap.size A l := by
  obtain ⟨L, h1, h2, h3, h4⟩ := open_rows ht hk (by omega) hf
  refine ⟨L.map (fun z => z.headD 0), by simpa using h1, by simpa using h2, ?_, h4.conv _ fun z hz => ?_⟩
  · intro y hy
    obtain ⟨z, hz, rfl⟩ := List.mem_map.1 hy
    obtain ⟨a, rfl⟩ := len1 (h3 z hz).1
    exact (h3 _ hz).2 a (by simp)
  · obtain ⟨a, rfl⟩ := len1 (h3 z hz).1
    rfl
theorem open_list2 (ht : P.underlying t = some (.slice e)) (hk : IntsAt P e 2) (hf : DataW.trod enc P w base spare held fuel t [.slice A len cap] = some x) :
    ∃ l : List (Int × Int), len = l.length ∧ l.length ≤ maxLen ∧ (∀ z ∈ l, B64 z.1 ∧ B64 z.2) ∧ Rd encS 2 w w.heap.size A l := by
  obtain ⟨L, h1, h2, h3, h4⟩ := open_rows ht hk (by omega) hf
  refine ⟨L.map mk2, by simpa using h1, by simpa using h2, ?_, h4.conv _ fun z hz => ?_⟩
  · intro y hy
    obtain ⟨z, hz, rfl⟩ := List.mem_map.1 hy
    obtain ⟨a, b, rfl⟩ := len2 (h3 z hz).1
    exact ⟨(h3 _ hz).2 a (by simp), (h3 _ hz).2 b (by simp)⟩
  · obtain ⟨a, b, rfl⟩ := len2 (h3 z hz).1
    rfl
theorem open_list3 (ht : P.underlying t = some (.slice e)) (hk : IntsAt P e 3) (hf : DataW.trod enc P w base spare held fuel t [.slice A len cap] = some x) :
    ∃ l : List (Int × Int × Int), len = l.length ∧ l.length ≤ maxLen ∧ (∀ z ∈ l, B64 z.1 ∧ B64 z.2.1 ∧ B64 z.2.2) ∧ Rd enc3 3 w w.heap.size A l := by
  obtain ⟨L, h1, h2, h3, h4⟩ := open_rows ht hk (by omega) hf
  refine ⟨L.map mk3, by simpa using h1, by simpa using h2, ?_, h4.conv _ fun z hz => ?_⟩
  · intro y hy
    obtain ⟨z, hz, rfl⟩ := List.mem_map.1 hy
    obtain ⟨a, b, c, rfl⟩ := len3 (h3 z hz).1
    exact ⟨(h3 _ hz).2 a (by simp), (h3 _ hz).2 b (by simp), (h3 _ hz).2 c (by simp)⟩
  · obtain ⟨a, b, c, rfl⟩ := len3 (h3 z hz).1
    rfl
theorem open_list4 (ht : P.underlying t = some (.slice e)) (hk : IntsAt P e 4) (hf : DataW.trod enc P w base spare held fuel t [.slice A len cap] = some x) :
    ∃ l : List ((Int × Int) × (Int × Int)), len = l.length ∧ l.length ≤ maxLen ∧ (∀ z ∈ l, (B64 z.1.1 ∧ B64 z.1.2) ∧ B64 z.2.1 ∧ B64 z.2.2) ∧ Rd enc4 4 w w.heap.size A l := by
  obtain ⟨L, h1, h2, h3, h4⟩ := open_rows ht hk (by omega) hf
  refine ⟨L.map mk4, by simpa using h1, by simpa using h2, ?_, h4.conv _ fun z hz => ?_⟩
  · intro y hy
    obtain ⟨z, hz, rfl⟩ := List.mem_map.1 hy
    obtain ⟨a, b, c, d, rfl⟩ := len4 (h3 z hz).1
    exact ⟨⟨(h3 _ hz).2 a (by simp), (h3 _ hz).2 b (by simp)⟩, (h3 _ hz).2 c (by simp), (h3 _ hz).2 d (by simp)⟩
  · obtain ⟨a, b, c, d, rfl⟩ := len4 (h3 z hz).1
    rfl
end
end Go.Proofs.Ytmbjbbflhlndcaa
namespace Go.Proofs.Ytmbjbbflhlndcaa
open Go.ChangeShapes Go.WideShapes Go.ChangeAt Go.RowKit Go.Deep
set_option linter.unusedVariables false
set_option linter.unusedSimpArgs false
structure Su where
  places : Int
  allow : Int
  unit : Int
  cap : Int
  paid : Int
  after : Int
  auto : Int
  dreg : Int
  dover : Int
  wreg : Int
  nfrom : Int
  nto : Int
  diff : Int
  least : Int
  fault : Int
  pace : Int × Int
  ways : List (Int × Int × Int)
  elements : List ((Int × Int) × (Int × Int))
  classes : List (Int × Int)
  gears : List (Int × Int)
  rates : List Int
  tiers : List (Int × Int)
structure Sh where
  wA : Option Addr
  eA : Option Addr
  cA : Option Addr
  gA : Option Addr
  rA : Option Addr
  tA : Option Addr
  wC : Nat
  eC : Nat
  cC : Nat
  gC : Nat
  rC : Nat
  tC : Nat
@[reducible] def Su.cells (s : Su) (h : Sh) : List Value := [.int .i64 s.places, .slice h.wA s.ways.length h.wC, .int .i64 s.pace.1, .int .i64 s.pace.2, .slice h.eA s.elements.length h.eC, .slice h.cA s.classes.length h.cC, .slice h.gA s.gears.length h.gC, .int .i64 s.allow, .int .i64 s.unit, .int .i64 s.cap, .int .i64 s.paid, .int .i64 s.after, .int .i64 s.auto, .int .i64 s.dreg, .int .i64 s.dover, .int .i64 s.wreg, .int .i64 s.nfrom, .int .i64 s.nto, .slice h.rA s.rates.length h.rC, .int .i64 s.diff, .int .i64 s.least, .int .i64 s.fault, .slice h.tA s.tiers.length h.tC]
structure SuOk (s : Su) : Prop where
  places : B64 s.places
  allow : B64 s.allow
  unit : B64 s.unit
  cap : B64 s.cap
  paid : B64 s.paid
  after : B64 s.after
  auto : B64 s.auto
  dreg : B64 s.dreg
  dover : B64 s.dover
  wreg : B64 s.wreg
  nfrom : B64 s.nfrom
  nto : B64 s.nto
  diff : B64 s.diff
  least : B64 s.least
  fault : B64 s.fault
  pace : B64 s.pace.1 ∧ B64 s.pace.2
  ways : s.ways.length ≤ maxLen ∧ ∀ z ∈ s.ways, B64 z.1 ∧ B64 z.2.1 ∧ B64 z.2.2
  elements : s.elements.length ≤ maxLen ∧ ∀ z ∈ s.elements, (B64 z.1.1 ∧ B64 z.1.2) ∧ B64 z.2.1 ∧ B64 z.2.2
  classes : s.classes.length ≤ maxLen ∧ ∀ z ∈ s.classes, B64 z.1 ∧ B64 z.2
  gears : s.gears.length ≤ maxLen ∧ ∀ z ∈ s.gears, B64 z.1 ∧ B64 z.2
  rates : s.rates.length ≤ maxLen ∧ ∀ z ∈ s.rates, B64 z
  tiers : s.tiers.length ≤ maxLen ∧ ∀ z ∈ s.tiers, B64 z.1 ∧ B64 z.2
/-- The lists lie where the setup says. -/
structure SuR (w : World) (s : Su) (h : Sh) : Prop where
  ways : Rd enc3 3 w w.heap.size h.wA s.ways
  elements : Rd enc4 4 w w.heap.size h.eA s.elements
  classes : Rd encS 2 w w.heap.size h.cA s.classes
  gears : Rd encS 2 w w.heap.size h.gA s.gears
  rates : Rd encN 1 w w.heap.size h.rA s.rates
  tiers : Rd encS 2 w w.heap.size h.tA s.tiers
theorem SuR.ext {w w' : World} {s : Su} {h : Sh} (r : SuR w s h) (k : Ext w w') : SuR w' s h :=
  ⟨(r.ways.below k).more k.size, (r.elements.below k).more k.size, (r.classes.below k).more k.size, (r.gears.below k).more k.size, (r.rates.below k).more k.size, (r.tiers.below k).more k.size⟩
theorem SuR.alloc {w : World} {s : Su} {h : Sh} (r : SuR w s h) (o : Obj) : SuR (w.alloc o) s h := r.ext ((Ext.refl w).alloc o)
theorem SuR.drewN {w : World} {s : Su} {h : Sh} (r : SuR w s h) (n : Nat) : SuR (w.drewN n) s h := r.ext ((Ext.refl w).drewN n)
theorem intsInt : IntsAt Try.prog 3 1 := ints_int Try.underlying3 (by kernel_rfl)
theorem intsRatio : IntsAt Try.prog 49 2 := ints_struct (fun _ => 1) Try.underlying49 (fun i f hi => by
  match i, hi with
  | 0, hi => cases hi; exact ⟨intsInt, rfl⟩
  | 1, hi => cases hi; exact ⟨intsInt, rfl⟩
  | n + 2, hi => exact absurd hi (by simp)) (by kernel_rfl)
theorem intsWay : IntsAt Try.prog 169 3 := ints_struct (fun _ => 1) Try.underlying169 (fun i f hi => by
  match i, hi with
  | 0, hi => cases hi; exact ⟨intsInt, rfl⟩
  | 1, hi => cases hi; exact ⟨intsInt, rfl⟩
  | 2, hi => cases hi; exact ⟨intsInt, rfl⟩
  | n + 3, hi => exact absurd hi (by simp)) (by kernel_rfl)
theorem intsTier : IntsAt Try.prog 173 2 := ints_struct (fun _ => 1) Try.underlying173 (fun i f hi => by
  match i, hi with
  | 0, hi => cases hi; exact ⟨intsInt, rfl⟩
  | 1, hi => cases hi; exact ⟨intsInt, rfl⟩
  | n + 2, hi => exact absurd hi (by simp)) (by kernel_rfl)
theorem intsElement : IntsAt Try.prog 171 4 := ints_struct (fun _ => 2) Try.underlying171 (fun i f hi => by
  match i, hi with
  | 0, hi => cases hi; exact ⟨intsRatio, rfl⟩
  | 1, hi => cases hi; exact ⟨intsRatio, rfl⟩
  | n + 2, hi => exact absurd hi (by simp)) (by kernel_rfl)
theorem slice_form {H : Type} {enc : TypeId × Value → H} {P : Program} {w : World} {base : Nat} {spare : Nat → Bool} {held : Bool} {t e : Nat} {fuel : Nat} {v : Value} {x : DataW H × List MemPlace} (ht : P.underlying t = some (.slice e)) (h : DataW.trod enc P w base spare held fuel t [v] = some x) : ∃ A len cap, v = .slice A len cap := by
  rcases open_slice ht h with ⟨hcs, _⟩ | ⟨a, len, cap, _, _, _, _, hcs, _⟩
  · simp at hcs; exact ⟨_, _, _, hcs⟩
  · simp at hcs; exact ⟨_, _, _, hcs⟩
set_option maxRecDepth 100000 in
set_option maxHeartbeats 2000000 in
theorem open_setup {H : Type} {enc : TypeId × Value → H} {w : World} {base b0 : Nat} {spare : Nat → Bool} {held : Bool} {r : Reach} {v : Value} {d : DataW H} {p : List MemPlace} (hv : Value.okWide Try.prog w r b0 55 v) (h : DataW.Trod enc Try.prog w base spare held 55 v d p) :
    ∃ (s : Su) (hd : Sh), v = .agg (s.cells hd).toArray ∧ SuOk s ∧ SuR w s hd := by
  obtain ⟨cs, rfl, hsz⟩ := okWide_struct Try.underlying55 hv
  have hC : Try.prog.cellsOf 55 = 23 := by kernel_rfl
  obtain ⟨l⟩ := cs
  have hl : l.length = 23 := hsz.trans hC
  obtain ⟨c0, c1, c2, c3, c4, c5, c6, c7, c8, c9, c10, c11, c12, c13, c14, c15, c16, c17, c18, c19, c20, c21, c22, rfl⟩ : ∃ c0 c1 c2 c3 c4 c5 c6 c7 c8 c9 c10 c11 c12 c13 c14 c15 c16 c17 c18 c19 c20 c21 c22, l = [c0, c1, c2, c3, c4, c5, c6, c7, c8, c9, c10, c11, c12, c13, c14, c15, c16, c17, c18, c19, c20, c21, c22] := by
    match l, hl with
    | [c0, c1, c2, c3, c4, c5, c6, c7, c8, c9, c10, c11, c12, c13, c14, c15, c16, c17, c18, c19, c20, c21, c22], _ => exact ⟨c0, c1, c2, c3, c4, c5, c6, c7, c8, c9, c10, c11, c12, c13, c14, c15, c16, c17, c18, c19, c20, c21, c22, rfl⟩
  clear hsz hl hC hv
  obtain ⟨fuel, hf⟩ := h
  obtain ⟨xs, n, _, _, _, hlen, hg⟩ := DataW.trod_struct Try.underlying55 hf
  have hxs : xs.length = 22 := hlen
  clear hf hlen
  have kI : Try.prog.cellsOf 3 = 1 := by kernel_rfl
  have kR : Try.prog.cellsOf 49 = 2 := by kernel_rfl
  have kw : Try.prog.cellsOf 47 = 1 := by kernel_rfl
  have ke : Try.prog.cellsOf 50 = 1 := by kernel_rfl
  have kc : Try.prog.cellsOf 51 = 1 := by kernel_rfl
  have kr : Try.prog.cellsOf 52 = 1 := by kernel_rfl
  have kt : Try.prog.cellsOf 53 = 1 := by kernel_rfl
  have g0 : DataW.trod enc Try.prog w base spare held n 3 (([c0, c1, c2, c3, c4, c5, c6, c7, c8, c9, c10, c11, c12, c13, c14, c15, c16, c17, c18, c19, c20, c21, c22].drop 0).take (Try.prog.cellsOf 3)) = xs[0]? := hg 0 _ rfl
  rw [List.getElem?_eq_getElem (show 0 < xs.length by omega)] at g0
  obtain ⟨n0, e0, _, b0⟩ := DataW.trod_int Try.underlying3 g0
  rw [kI] at e0
  obtain rfl : c0 = .int .i64 n0 := by simpa using e0
  have g1 : DataW.trod enc Try.prog w base spare held n 47 (([.int .i64 n0, c1, c2, c3, c4, c5, c6, c7, c8, c9, c10, c11, c12, c13, c14, c15, c16, c17, c18, c19, c20, c21, c22].drop 1).take (Try.prog.cellsOf 47)) = xs[1]? := hg 1 _ rfl
  rw [List.getElem?_eq_getElem (show 1 < xs.length by omega)] at g1
  replace g1 : DataW.trod enc Try.prog w base spare held n 47 [c1] = some xs[1] := by
    have e : ((([.int .i64 n0, c1, c2, c3, c4, c5, c6, c7, c8, c9, c10, c11, c12, c13, c14, c15, c16, c17, c18, c19, c20, c21, c22] : List Value).drop 1).take 1) = [c1] := rfl
    rw [← e]; rw [kw] at g1; exact g1
  obtain ⟨A1, len1, cap1, rfl⟩ := slice_form Try.underlying47 g1
  obtain ⟨l1, rfl, m1, b1, r1⟩ := open_list3 Try.underlying47 intsWay g1
  have g2 : DataW.trod enc Try.prog w base spare held n 49 (([.int .i64 n0, .slice A1 l1.length cap1, c2, c3, c4, c5, c6, c7, c8, c9, c10, c11, c12, c13, c14, c15, c16, c17, c18, c19, c20, c21, c22].drop 2).take (Try.prog.cellsOf 49)) = xs[2]? := hg 2 _ rfl
  rw [List.getElem?_eq_getElem (show 2 < xs.length by omega)] at g2
  obtain ⟨z2, e2, q2, b2⟩ := intsRatio.2 _ _ _ _ _ _ _ _ _ g2
  obtain ⟨pa, pb, rfl⟩ := len2 q2
  rw [kR] at e2
  obtain ⟨rfl, rfl⟩ : c2 = .int .i64 pa ∧ c3 = .int .i64 pb := by simpa using e2
  have g3 : DataW.trod enc Try.prog w base spare held n 50 (([.int .i64 n0, .slice A1 l1.length cap1, .int .i64 pa, .int .i64 pb, c4, c5, c6, c7, c8, c9, c10, c11, c12, c13, c14, c15, c16, c17, c18, c19, c20, c21, c22].drop 4).take (Try.prog.cellsOf 50)) = xs[3]? := hg 3 _ rfl
  rw [List.getElem?_eq_getElem (show 3 < xs.length by omega)] at g3
  replace g3 : DataW.trod enc Try.prog w base spare held n 50 [c4] = some xs[3] := by
    have e : ((([.int .i64 n0, .slice A1 l1.length cap1, .int .i64 pa, .int .i64 pb, c4, c5, c6, c7, c8, c9, c10, c11, c12, c13, c14, c15, c16, c17, c18, c19, c20, c21, c22] : List Value).drop 4).take 1) = [c4] := rfl
    rw [← e]; rw [ke] at g3; exact g3
  obtain ⟨A3, len3, cap3, rfl⟩ := slice_form Try.underlying50 g3
  obtain ⟨l3, rfl, m3, b3, r3⟩ := open_list4 Try.underlying50 intsElement g3
  have g4 : DataW.trod enc Try.prog w base spare held n 51 (([.int .i64 n0, .slice A1 l1.length cap1, .int .i64 pa, .int .i64 pb, .slice A3 l3.length cap3, c5, c6, c7, c8, c9, c10, c11, c12, c13, c14, c15, c16, c17, c18, c19, c20, c21, c22].drop 5).take (Try.prog.cellsOf 51)) = xs[4]? := hg 4 _ rfl
  rw [List.getElem?_eq_getElem (show 4 < xs.length by omega)] at g4
  replace g4 : DataW.trod enc Try.prog w base spare held n 51 [c5] = some xs[4] := by
    have e : ((([.int .i64 n0, .slice A1 l1.length cap1, .int .i64 pa, .int .i64 pb, .slice A3 l3.length cap3, c5, c6, c7, c8, c9, c10, c11, c12, c13, c14, c15, c16, c17, c18, c19, c20, c21, c22] : List Value).drop 5).take 1) = [c5] := rfl
    rw [← e]; rw [kc] at g4; exact g4
  obtain ⟨A4, len4, cap4, rfl⟩ := slice_form Try.underlying51 g4
  obtain ⟨l4, rfl, m4, b4, r4⟩ := open_list2 Try.underlying51 intsRatio g4
  have g5 : DataW.trod enc Try.prog w base spare held n 51 (([.int .i64 n0, .slice A1 l1.length cap1, .int .i64 pa, .int .i64 pb, .slice A3 l3.length cap3, .slice A4 l4.length cap4, c6, c7, c8, c9, c10, c11, c12, c13, c14, c15, c16, c17, c18, c19, c20, c21, c22].drop 6).take (Try.prog.cellsOf 51)) = xs[5]? := hg 5 _ rfl
  rw [List.getElem?_eq_getElem (show 5 < xs.length by omega)] at g5
  replace g5 : DataW.trod enc Try.prog w base spare held n 51 [c6] = some xs[5] := by
    have e : ((([.int .i64 n0, .slice A1 l1.length cap1, .int .i64 pa, .int .i64 pb, .slice A3 l3.length cap3, .slice A4 l4.length cap4, c6, c7, c8, c9, c10, c11, c12, c13, c14, c15, c16, c17, c18, c19, c20, c21, c22] : List Value).drop 6).take 1) = [c6] := rfl
    rw [← e]; rw [kc] at g5; exact g5
  obtain ⟨A5, len5, cap5, rfl⟩ := slice_form Try.underlying51 g5
  obtain ⟨l5, rfl, m5, b5, r5⟩ := open_list2 Try.underlying51 intsRatio g5
  have g6 : DataW.trod enc Try.prog w base spare held n 3 (([.int .i64 n0, .slice A1 l1.length cap1, .int .i64 pa, .int .i64 pb, .slice A3 l3.length cap3, .slice A4 l4.length cap4, .slice A5 l5.length cap5, c7, c8, c9, c10, c11, c12, c13, c14, c15, c16, c17, c18, c19, c20, c21, c22].drop 7).take (Try.prog.cellsOf 3)) = xs[6]? := hg 6 _ rfl
  rw [List.getElem?_eq_getElem (show 6 < xs.length by omega)] at g6
  obtain ⟨n6, e6, _, b6⟩ := DataW.trod_int Try.underlying3 g6
  rw [kI] at e6
  obtain rfl : c7 = .int .i64 n6 := by simpa using e6
  have g7 : DataW.trod enc Try.prog w base spare held n 3 (([.int .i64 n0, .slice A1 l1.length cap1, .int .i64 pa, .int .i64 pb, .slice A3 l3.length cap3, .slice A4 l4.length cap4, .slice A5 l5.length cap5, .int .i64 n6, c8, c9, c10, c11, c12, c13, c14, c15, c16, c17, c18, c19, c20, c21, c22].drop 8).take (Try.prog.cellsOf 3)) = xs[7]? := hg 7 _ rfl
  rw [List.getElem?_eq_getElem (show 7 < xs.length by omega)] at g7
  obtain ⟨n7, e7, _, b7⟩ := DataW.trod_int Try.underlying3 g7
  rw [kI] at e7
  obtain rfl : c8 = .int .i64 n7 := by simpa using e7
  have g8 : DataW.trod enc Try.prog w base spare held n 3 (([.int .i64 n0, .slice A1 l1.length cap1, .int .i64 pa, .int .i64 pb, .slice A3 l3.length cap3, .slice A4 l4.length cap4, .slice A5 l5.length cap5, .int .i64 n6, .int .i64 n7, c9, c10, c11, c12, c13, c14, c15, c16, c17, c18, c19, c20, c21, c22].drop 9).take (Try.prog.cellsOf 3)) = xs[8]? := hg 8 _ rfl
  rw [List.getElem?_eq_getElem (show 8 < xs.length by omega)] at g8
  obtain ⟨n8, e8, _, b8⟩ := DataW.trod_int Try.underlying3 g8
  rw [kI] at e8
  obtain rfl : c9 = .int .i64 n8 := by simpa using e8
  have g9 : DataW.trod enc Try.prog w base spare held n 3 (([.int .i64 n0, .slice A1 l1.length cap1, .int .i64 pa, .int .i64 pb, .slice A3 l3.length cap3, .slice A4 l4.length cap4, .slice A5 l5.length cap5, .int .i64 n6, .int .i64 n7, .int .i64 n8, c10, c11, c12, c13, c14, c15, c16, c17, c18, c19, c20, c21, c22].drop 10).take (Try.prog.cellsOf 3)) = xs[9]? := hg 9 _ rfl
  rw [List.getElem?_eq_getElem (show 9 < xs.length by omega)] at g9
  obtain ⟨n9, e9, _, b9⟩ := DataW.trod_int Try.underlying3 g9
  rw [kI] at e9
  obtain rfl : c10 = .int .i64 n9 := by simpa using e9
  have g10 : DataW.trod enc Try.prog w base spare held n 3 (([.int .i64 n0, .slice A1 l1.length cap1, .int .i64 pa, .int .i64 pb, .slice A3 l3.length cap3, .slice A4 l4.length cap4, .slice A5 l5.length cap5, .int .i64 n6, .int .i64 n7, .int .i64 n8, .int .i64 n9, c11, c12, c13, c14, c15, c16, c17, c18, c19, c20, c21, c22].drop 11).take (Try.prog.cellsOf 3)) = xs[10]? := hg 10 _ rfl
  rw [List.getElem?_eq_getElem (show 10 < xs.length by omega)] at g10
  obtain ⟨n10, e10, _, b10⟩ := DataW.trod_int Try.underlying3 g10
  rw [kI] at e10
  obtain rfl : c11 = .int .i64 n10 := by simpa using e10
  have g11 : DataW.trod enc Try.prog w base spare held n 3 (([.int .i64 n0, .slice A1 l1.length cap1, .int .i64 pa, .int .i64 pb, .slice A3 l3.length cap3, .slice A4 l4.length cap4, .slice A5 l5.length cap5, .int .i64 n6, .int .i64 n7, .int .i64 n8, .int .i64 n9, .int .i64 n10, c12, c13, c14, c15, c16, c17, c18, c19, c20, c21, c22].drop 12).take (Try.prog.cellsOf 3)) = xs[11]? := hg 11 _ rfl
  rw [List.getElem?_eq_getElem (show 11 < xs.length by omega)] at g11
  obtain ⟨n11, e11, _, b11⟩ := DataW.trod_int Try.underlying3 g11
  rw [kI] at e11
  obtain rfl : c12 = .int .i64 n11 := by simpa using e11
  have g12 : DataW.trod enc Try.prog w base spare held n 3 (([.int .i64 n0, .slice A1 l1.length cap1, .int .i64 pa, .int .i64 pb, .slice A3 l3.length cap3, .slice A4 l4.length cap4, .slice A5 l5.length cap5, .int .i64 n6, .int .i64 n7, .int .i64 n8, .int .i64 n9, .int .i64 n10, .int .i64 n11, c13, c14, c15, c16, c17, c18, c19, c20, c21, c22].drop 13).take (Try.prog.cellsOf 3)) = xs[12]? := hg 12 _ rfl
  rw [List.getElem?_eq_getElem (show 12 < xs.length by omega)] at g12
  obtain ⟨n12, e12, _, b12⟩ := DataW.trod_int Try.underlying3 g12
  rw [kI] at e12
  obtain rfl : c13 = .int .i64 n12 := by simpa using e12
  have g13 : DataW.trod enc Try.prog w base spare held n 3 (([.int .i64 n0, .slice A1 l1.length cap1, .int .i64 pa, .int .i64 pb, .slice A3 l3.length cap3, .slice A4 l4.length cap4, .slice A5 l5.length cap5, .int .i64 n6, .int .i64 n7, .int .i64 n8, .int .i64 n9, .int .i64 n10, .int .i64 n11, .int .i64 n12, c14, c15, c16, c17, c18, c19, c20, c21, c22].drop 14).take (Try.prog.cellsOf 3)) = xs[13]? := hg 13 _ rfl
  rw [List.getElem?_eq_getElem (show 13 < xs.length by omega)] at g13
  obtain ⟨n13, e13, _, b13⟩ := DataW.trod_int Try.underlying3 g13
  rw [kI] at e13
  obtain rfl : c14 = .int .i64 n13 := by simpa using e13
  have g14 : DataW.trod enc Try.prog w base spare held n 3 (([.int .i64 n0, .slice A1 l1.length cap1, .int .i64 pa, .int .i64 pb, .slice A3 l3.length cap3, .slice A4 l4.length cap4, .slice A5 l5.length cap5, .int .i64 n6, .int .i64 n7, .int .i64 n8, .int .i64 n9, .int .i64 n10, .int .i64 n11, .int .i64 n12, .int .i64 n13, c15, c16, c17, c18, c19, c20, c21, c22].drop 15).take (Try.prog.cellsOf 3)) = xs[14]? := hg 14 _ rfl
  rw [List.getElem?_eq_getElem (show 14 < xs.length by omega)] at g14
  obtain ⟨n14, e14, _, b14⟩ := DataW.trod_int Try.underlying3 g14
  rw [kI] at e14
  obtain rfl : c15 = .int .i64 n14 := by simpa using e14
  have g15 : DataW.trod enc Try.prog w base spare held n 3 (([.int .i64 n0, .slice A1 l1.length cap1, .int .i64 pa, .int .i64 pb, .slice A3 l3.length cap3, .slice A4 l4.length cap4, .slice A5 l5.length cap5, .int .i64 n6, .int .i64 n7, .int .i64 n8, .int .i64 n9, .int .i64 n10, .int .i64 n11, .int .i64 n12, .int .i64 n13, .int .i64 n14, c16, c17, c18, c19, c20, c21, c22].drop 16).take (Try.prog.cellsOf 3)) = xs[15]? := hg 15 _ rfl
  rw [List.getElem?_eq_getElem (show 15 < xs.length by omega)] at g15
  obtain ⟨n15, e15, _, b15⟩ := DataW.trod_int Try.underlying3 g15
  rw [kI] at e15
  obtain rfl : c16 = .int .i64 n15 := by simpa using e15
  have g16 : DataW.trod enc Try.prog w base spare held n 3 (([.int .i64 n0, .slice A1 l1.length cap1, .int .i64 pa, .int .i64 pb, .slice A3 l3.length cap3, .slice A4 l4.length cap4, .slice A5 l5.length cap5, .int .i64 n6, .int .i64 n7, .int .i64 n8, .int .i64 n9, .int .i64 n10, .int .i64 n11, .int .i64 n12, .int .i64 n13, .int .i64 n14, .int .i64 n15, c17, c18, c19, c20, c21, c22].drop 17).take (Try.prog.cellsOf 3)) = xs[16]? := hg 16 _ rfl
  rw [List.getElem?_eq_getElem (show 16 < xs.length by omega)] at g16
  obtain ⟨n16, e16, _, b16⟩ := DataW.trod_int Try.underlying3 g16
  rw [kI] at e16
  obtain rfl : c17 = .int .i64 n16 := by simpa using e16
  have g17 : DataW.trod enc Try.prog w base spare held n 52 (([.int .i64 n0, .slice A1 l1.length cap1, .int .i64 pa, .int .i64 pb, .slice A3 l3.length cap3, .slice A4 l4.length cap4, .slice A5 l5.length cap5, .int .i64 n6, .int .i64 n7, .int .i64 n8, .int .i64 n9, .int .i64 n10, .int .i64 n11, .int .i64 n12, .int .i64 n13, .int .i64 n14, .int .i64 n15, .int .i64 n16, c18, c19, c20, c21, c22].drop 18).take (Try.prog.cellsOf 52)) = xs[17]? := hg 17 _ rfl
  rw [List.getElem?_eq_getElem (show 17 < xs.length by omega)] at g17
  replace g17 : DataW.trod enc Try.prog w base spare held n 52 [c18] = some xs[17] := by
    have e : ((([.int .i64 n0, .slice A1 l1.length cap1, .int .i64 pa, .int .i64 pb, .slice A3 l3.length cap3, .slice A4 l4.length cap4, .slice A5 l5.length cap5, .int .i64 n6, .int .i64 n7, .int .i64 n8, .int .i64 n9, .int .i64 n10, .int .i64 n11, .int .i64 n12, .int .i64 n13, .int .i64 n14, .int .i64 n15, .int .i64 n16, c18, c19, c20, c21, c22] : List Value).drop 18).take 1) = [c18] := rfl
    rw [← e]; rw [kr] at g17; exact g17
  obtain ⟨A17, len17, cap17, rfl⟩ := slice_form Try.underlying52 g17
  obtain ⟨l17, rfl, m17, b17, r17⟩ := open_list1 Try.underlying52 intsInt g17
  have g18 : DataW.trod enc Try.prog w base spare held n 3 (([.int .i64 n0, .slice A1 l1.length cap1, .int .i64 pa, .int .i64 pb, .slice A3 l3.length cap3, .slice A4 l4.length cap4, .slice A5 l5.length cap5, .int .i64 n6, .int .i64 n7, .int .i64 n8, .int .i64 n9, .int .i64 n10, .int .i64 n11, .int .i64 n12, .int .i64 n13, .int .i64 n14, .int .i64 n15, .int .i64 n16, .slice A17 l17.length cap17, c19, c20, c21, c22].drop 19).take (Try.prog.cellsOf 3)) = xs[18]? := hg 18 _ rfl
  rw [List.getElem?_eq_getElem (show 18 < xs.length by omega)] at g18
  obtain ⟨n18, e18, _, b18⟩ := DataW.trod_int Try.underlying3 g18
  rw [kI] at e18
  obtain rfl : c19 = .int .i64 n18 := by simpa using e18
  have g19 : DataW.trod enc Try.prog w base spare held n 3 (([.int .i64 n0, .slice A1 l1.length cap1, .int .i64 pa, .int .i64 pb, .slice A3 l3.length cap3, .slice A4 l4.length cap4, .slice A5 l5.length cap5, .int .i64 n6, .int .i64 n7, .int .i64 n8, .int .i64 n9, .int .i64 n10, .int .i64 n11, .int .i64 n12, .int .i64 n13, .int .i64 n14, .int .i64 n15, .int .i64 n16, .slice A17 l17.length cap17, .int .i64 n18, c20, c21, c22].drop 20).take (Try.prog.cellsOf 3)) = xs[19]? := hg 19 _ rfl
  rw [List.getElem?_eq_getElem (show 19 < xs.length by omega)] at g19
  obtain ⟨n19, e19, _, b19⟩ := DataW.trod_int Try.underlying3 g19
  rw [kI] at e19
  obtain rfl : c20 = .int .i64 n19 := by simpa using e19
  have g20 : DataW.trod enc Try.prog w base spare held n 3 (([.int .i64 n0, .slice A1 l1.length cap1, .int .i64 pa, .int .i64 pb, .slice A3 l3.length cap3, .slice A4 l4.length cap4, .slice A5 l5.length cap5, .int .i64 n6, .int .i64 n7, .int .i64 n8, .int .i64 n9, .int .i64 n10, .int .i64 n11, .int .i64 n12, .int .i64 n13, .int .i64 n14, .int .i64 n15, .int .i64 n16, .slice A17 l17.length cap17, .int .i64 n18, .int .i64 n19, c21, c22].drop 21).take (Try.prog.cellsOf 3)) = xs[20]? := hg 20 _ rfl
  rw [List.getElem?_eq_getElem (show 20 < xs.length by omega)] at g20
  obtain ⟨n20, e20, _, b20⟩ := DataW.trod_int Try.underlying3 g20
  rw [kI] at e20
  obtain rfl : c21 = .int .i64 n20 := by simpa using e20
  have g21 : DataW.trod enc Try.prog w base spare held n 53 (([.int .i64 n0, .slice A1 l1.length cap1, .int .i64 pa, .int .i64 pb, .slice A3 l3.length cap3, .slice A4 l4.length cap4, .slice A5 l5.length cap5, .int .i64 n6, .int .i64 n7, .int .i64 n8, .int .i64 n9, .int .i64 n10, .int .i64 n11, .int .i64 n12, .int .i64 n13, .int .i64 n14, .int .i64 n15, .int .i64 n16, .slice A17 l17.length cap17, .int .i64 n18, .int .i64 n19, .int .i64 n20, c22].drop 22).take (Try.prog.cellsOf 53)) = xs[21]? := hg 21 _ rfl
  rw [List.getElem?_eq_getElem (show 21 < xs.length by omega)] at g21
  replace g21 : DataW.trod enc Try.prog w base spare held n 53 [c22] = some xs[21] := by
    have e : ((([.int .i64 n0, .slice A1 l1.length cap1, .int .i64 pa, .int .i64 pb, .slice A3 l3.length cap3, .slice A4 l4.length cap4, .slice A5 l5.length cap5, .int .i64 n6, .int .i64 n7, .int .i64 n8, .int .i64 n9, .int .i64 n10, .int .i64 n11, .int .i64 n12, .int .i64 n13, .int .i64 n14, .int .i64 n15, .int .i64 n16, .slice A17 l17.length cap17, .int .i64 n18, .int .i64 n19, .int .i64 n20, c22] : List Value).drop 22).take 1) = [c22] := rfl
    rw [← e]; rw [kt] at g21; exact g21
  obtain ⟨A21, len21, cap21, rfl⟩ := slice_form Try.underlying53 g21
  obtain ⟨l21, rfl, m21, b21, r21⟩ := open_list2 Try.underlying53 intsTier g21
  refine ⟨⟨n0, n6, n7, n8, n9, n10, n11, n12, n13, n14, n15, n16, n18, n19, n20, (pa, pb), l1, l3, l4, l5, l17, l21⟩, ⟨A1, A3, A4, A5, A17, A21, cap1, cap3, cap4, cap5, cap17, cap21⟩, rfl, ?_, ?_⟩
  · exact ⟨wf_b64 b0, wf_b64 b6, wf_b64 b7, wf_b64 b8, wf_b64 b9, wf_b64 b10, wf_b64 b11, wf_b64 b12, wf_b64 b13, wf_b64 b14, wf_b64 b15, wf_b64 b16, wf_b64 b18, wf_b64 b19, wf_b64 b20, ⟨b2 pa (by simp), b2 pb (by simp)⟩, ⟨m1, b1⟩, ⟨m3, b3⟩, ⟨m4, b4⟩, ⟨m5, b5⟩, ⟨m17, b17⟩, ⟨m21, b21⟩⟩
  · exact ⟨r1, r3, r4, r5, r17, r21⟩
end Go.Proofs.Ytmbjbbflhlndcaa
namespace Go.Proofs.Ytmbjbbflhlndcaa
open Go.RowKit
/-- A row of spans put behind a row of the call's own, whatever slice it is. -/
theorem run_append_none {P : Program} (w : World) (base : Nat) (t ty e : TypeId) (i : TypeInfo) (size : Nat) (ht : P.underlying t = some (.slice e)) (hi : P.info? e = some i)
    (v : Value) (n : Nat) (xs : List Value) (hown : w.ownsRow base e size v n xs) (c : Nat) : (Builtin.append_ #[t, t] ty #[v, .slice none 0 c]).run P w = .ok v w := by
  rcases hown.2 with ⟨rfl, rfl⟩ | ⟨g, cap, cur, rfl, _, _, hnc, _⟩
  · simp [Builtin.append_, run_underlying ht, sizeOf, typeInfo, hi, Builtin.lenOf, Builtin.firstCells]
  · simp [Builtin.append_, run_underlying ht, sizeOf, typeInfo, hi, Builtin.lenOf, Builtin.firstCells, hnc, storeCells]
end Go.Proofs.Ytmbjbbflhlndcaa
namespace Go.Proofs.Ytmbjbbflhlndcaa
open Go.RowKit
end Go.Proofs.Ytmbjbbflhlndcaa
namespace Go.Proofs.Ytmbjbbflhlndcaa
open Go.RowKit
set_option linter.unusedVariables false
set_option linter.unusedSimpArgs false
end Go.Proofs.Ytmbjbbflhlndcaa
namespace Go.Proofs.Ytmbjbbflhlndcaa
open Go.RowKit
set_option linter.unusedVariables false
set_option linter.unusedSimpArgs false
/-- At most a hundred of each list. -/
def SuFew (s : Su) : Prop := s.ways.length ≤ 100 ∧ s.elements.length ≤ 100 ∧ s.classes.length ≤ 100 ∧ s.gears.length ≤ 100 ∧ s.rates.length ≤ 100 ∧ s.tiers.length ≤ 100
def mx2 (a b : Int) : Int := if b > a then b else a
theorem mx2_le (a b n : Int) : mx2 a b ≤ n ↔ a ≤ n ∧ b ≤ n := by unfold mx2; split <;> omega
theorem max6 {P : Program} (ts : Array TypeId) (t : TypeId) (a b c d e f : Int) (W : World) : Sem.run P (Builtin.max_ ts t #[.int .i64 a, .int .i64 b, .int .i64 c, .int .i64 d, .int .i64 e, .int .i64 f]) W = .ok (.int .i64 (mx2 (mx2 (mx2 (mx2 (mx2 a b) c) d) e) f)) W := rfl
set_option maxRecDepth 100000 in
set_option maxHeartbeats 2000000 in
theorem fewA (v_pl v_p1 v_p2 v_al v_un v_ca v_pb v_aa v_ab v_dr v_do v_wr v_nf v_nt v_di v_le v_fa : Value) (Aw Ae Ac Ag Ar At : Option Addr) (nw cw ne ce nc cc ng cg nr cr nt ct : Nat) (w : World) : Calls Try.prog 61 #[.agg #[v_pl, .slice Aw nw cw, v_p1, v_p2, .slice Ae ne ce, .slice Ac nc cc, .slice Ag ng cg, v_al, v_un, v_ca, v_pb, v_aa, v_ab, v_dr, v_do, v_wr, v_nf, v_nt, .slice Ar nr cr, v_di, v_le, v_fa, .slice At nt ct]] w (RetB w (decide (nw ≤ 100 ∧ ne ≤ 100 ∧ nc ≤ 100 ∧ ng ≤ 100 ∧ nr ≤ 100 ∧ nt ≤ 100))) := by
  obtain ⟨R, hR⟩ : ∃ R, R = decide (nw ≤ 100 ∧ ne ≤ 100 ∧ nc ≤ 100 ∧ ng ≤ 100 ∧ nr ≤ 100 ∧ nt ≤ 100) := ⟨_, rfl⟩
  rw [← hR]
  have hm := fun W => max6 (P := Try.prog) #[3, 3, 3, 3, 3, 3] 3 nw ne nc ng nr nt W
  have hM : mx2 (mx2 (mx2 (mx2 (mx2 nw ne) nc) ng) nr) nt ≤ 100 ↔ (nw ≤ 100 ∧ ne ≤ 100 ∧ nc ≤ 100 ∧ ng ≤ 100 ∧ nr ≤ 100 ∧ nt ≤ 100) := by simp only [mx2_le]; omega
  generalize mx2 (mx2 (mx2 (mx2 (mx2 nw ne) nc) ng) nr) nt = M at hm hM
  have hD : R = decide (M ≤ 100) := by rw [hR]; exact decide_eq_decide.2 (by omega)
  replace hD := Lib.hid hD
  clear hR hM
  go_enter Try.func61, Try.ntmps61
  go_wp2
  go_ret
  exact ⟨by rw [hD.out]; rfl, (Ext.refl _).alloc _⟩
theorem pFew (s : Su) (h : Sh) (w : World) : Calls Try.prog 61 #[.agg (s.cells h).toArray] w fun e w' => (∃ b : Bool, e = .returned (.bool b) ∧ (b = true ↔ SuFew s)) ∧ Ext w w' :=
  (fewA _ _ _ _ _ _ _ _ _ _ _ _ _ _ _ _ _ h.wA h.eA h.cA h.gA h.rA h.tA s.ways.length h.wC s.elements.length h.eC s.classes.length h.cC s.gears.length h.gC s.rates.length h.rC s.tiers.length h.tC w).mono fun _ _ ⟨he, x⟩ => ⟨⟨_, he, decide_eq_true_iff⟩, x⟩
end Go.Proofs.Ytmbjbbflhlndcaa

