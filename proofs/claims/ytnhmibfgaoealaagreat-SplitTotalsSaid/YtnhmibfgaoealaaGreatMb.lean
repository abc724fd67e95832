/-
  Words for memory: a slice of structs that reads as a list; a row of the call's own.
  Bas
  Words for a run of calls, each of which leaves what lay as it lay.
-/
import Derived.WalkKit
import Derived.WalkSpells
import Derived.WalkLawsBesides
import Derived.Deep.Slices
import Derived.Maps.AppendAt
import Derived.Test.YtnhmibfgaoealaaGreatMa
import Derived.Test.YtnhmibfgaoealaaGreatProg
import Derived.Lib.Hide
import Derived.Deep.QuietTactic
import Derived.BigQuiet
import Derived.RegionTactic
import Derived.BigRegion
namespace Go.Proofs.YtnhmibfgaoealaaGreat
open Go.RowKit

theorem min_ite (a b : Int) : min a b = if b < a then b else a := by split <;> omega
theorem max_ite (a b : Int) : max a b = if a < b then b else a := by split <;> omega

theorem add_head (g n : Nat) : (⟨g, 0, none⟩ : Addr).add n = ⟨g, n, none⟩ := by
  by_cases h : n = 0
  · subst h; rfl
  · simp [Addr.add, h]

section
variable {α : Type}

def flat (enc : α → List Value) (l : List α) : List Value := l.flatMap enc

theorem flat_nil (enc : α → List Value) : flat enc [] = [] := rfl
theorem flat_cons (enc : α → List Value) (x : α) (l : List α) : flat enc (x :: l) = enc x ++ flat enc l := rfl
theorem flat_append (enc : α → List Value) (l m : List α) : flat enc (l ++ m) = flat enc l ++ flat enc m := by simp [flat]
theorem flat_snoc (enc : α → List Value) (l : List α) (x : α) : flat enc (l ++ [x]) = flat enc l ++ enc x := by simp [flat]
theorem flat_length {enc : α → List Value} {k : Nat} (hk : ∀ x, (enc x).length = k) (l : List α) : (flat enc l).length = l.length * k := by
  induction l with
  | nil => simp [flat]
  | cons x l ih => rw [flat_cons, List.length_append, hk, ih, List.length_cons, Nat.add_mul]; omega

theorem flat_at {enc : α → List Value} {k : Nat} (hk : ∀ x, (enc x).length = k) (l : List α) (j : Nat) (h : j < l.length) (i : Nat) (hi : i < k) : (flat enc l)[j * k + i]? = (enc l[j])[i]? := by
  induction l generalizing j with
  | nil => simp at h
  | cons x l ih =>
    rw [flat_cons]
    cases j with
    | zero => rw [List.getElem?_append_left (by rw [hk]; omega)]; simp
    | succ j =>
      rw [List.getElem?_append_right (by rw [hk, Nat.succ_mul]; omega), hk, show (j + 1) * k + i - k = j * k + i from by rw [Nat.succ_mul]; omega]
      exact ih j (by simpa using h)

/-- The slice's address A leads to the elements l, in a block below B. -/
def Rd (enc : α → List Value) (k : Nat) (w : World) (B : Nat) (A : Option Addr) (l : List α) : Prop :=
  l ≠ [] → ∃ b off, A = some ⟨b, off, none⟩ ∧ b < B ∧ ∀ j (h : j < l.length) (i : Nat) (u : Value), (enc l[j])[i]? = some u → w.cell? ⟨b, off + j * k + i, none⟩ = some u

variable {enc : α → List Value} {k : Nat} {w w' : World} {B B' : Nat} {A : Option Addr} {l : List α}

theorem Rd.nil : Rd enc k w B A [] := fun h => absurd rfl h

theorem Rd.below (h : Rd enc k w B A l) (hb : Below B w w') : Rd enc k w' B A l := fun hne => by
  obtain ⟨b, off, hA, hlt, hc⟩ := h hne
  exact ⟨b, off, hA, hlt, fun j hj i u hu => (hb.cell (p := ⟨b, off + j * k + i, none⟩) hlt).trans (hc j hj i u hu)⟩

theorem Rd.more (h : Rd enc k w B A l) (hB : B ≤ B') : Rd enc k w B' A l := fun hne => by
  obtain ⟨b, off, hA, hlt, hc⟩ := h hne
  exact ⟨b, off, hA, by omega, hc⟩

theorem Rd.of_own {base e : Nat} {n cap : Nat} (hk : ∀ x, (enc x).length = k) (h : w.ownsRow base e k (.slice A n cap) l.length (flat enc l)) : Rd enc k w w.heap.size A l := fun hne => by
  rcases h.2 with ⟨_, h0⟩ | ⟨g, cap', cur, hv, _, hh, _⟩
  · exact absurd (List.eq_nil_of_length_eq_zero h0) hne
  · injection hv with hA _ _
    subst hA
    refine ⟨g, 0, rfl, (Array.getElem?_eq_some_iff.1 hh).1, fun j hj i u hu => ?_⟩
    have hi : i < k := by
      have := (List.getElem?_eq_some_iff.1 hu).1
      rwa [hk] at this
    have := h.cells (g := g) rfl (j * k + i) u (by rw [flat_at hk l j hj i hi]; exact hu)
    rw [add_head] at this
    simpa using this

theorem Rd.of_own' {base e : Nat} {n cap : Nat} (hk : ∀ x, (enc x).length = k) (h : w.ownsRow base e k (.slice A n cap) n (flat enc l)) (hn : n = l.length) : Rd enc k w w.heap.size A l := by
  subst hn; exact Rd.of_own hk h

/-- The form of an owned slice: its address is nil or the head of a block. -/
theorem own_form {base e size n : Nat} {v : Value} {xs : List Value} (h : w.ownsRow base e size v n xs) : ∃ A cap, v = .slice A n cap ∧ n ≤ cap ∧ cap ≤ maxLen := by
  rcases h.2 with ⟨h1, h0⟩ | ⟨g, cap', cur, hv, _, _, hc, hm, _⟩
  · exact ⟨none, 0, by rw [h1, h0], by omega, by unfold maxLen; omega⟩
  · exact ⟨_, _, hv, hc, hm⟩

theorem own_below {base e size n : Nat} {v : Value} {xs : List Value} (h : w.ownsRow base e size v n xs) (hb : Below w.heap.size w w') : w'.ownsRow base e size v n xs := by
  refine ⟨h.1, ?_⟩
  rcases h.2 with hn | ⟨g, cap, cur, hv, hg, hh, rest⟩
  · exact .inl hn
  · exact .inr ⟨g, cap, cur, hv, hg, (hb.block g (Array.getElem?_eq_some_iff.1 hh).1).trans hh, rest⟩

theorem own_drewN {base e size n : Nat} {v : Value} {xs : List Value} (h : w.ownsRow base e size v n xs) (q : Nat) : (w.drewN q).ownsRow base e size v n xs := h

theorem own_set {base e size n cap g : Nat} {xs : List Value} (h : w.ownsRow base e size (.slice (some ⟨g, 0, none⟩) n cap) n xs) (j : Nat) (u : Value) :
    (w.setCell ⟨g, j, none⟩ u).ownsRow base e size (.slice (some ⟨g, 0, none⟩) n cap) n (xs.set j u) := by
  refine ⟨by rw [List.length_set]; exact h.1, ?_⟩
  rcases h.2 with ⟨h0, _⟩ | ⟨g', cap', cur, hv, hg, hh, h1, h2, h3, h4⟩
  · cases h0
  · cases hv
    refine .inr ⟨g, cap, cur.setIfInBounds j u, rfl, hg, ?_, h1, h2, by simpa using h3, ?_⟩
    · simp [World.setCell, Array.getElem?_modify, hh]
    · rw [Array.toList_setIfInBounds, ← h4, List.take_set]

theorem own_set_other {base e size n : Nat} {v : Value} {xs : List Value} (h : w.ownsRow base e size v n xs) {p : Addr} (u : Value) (hp : v.ownBlock ≠ some p.block) : (w.setCell p u).ownsRow base e size v n xs := by
  refine ⟨h.1, ?_⟩
  rcases h.2 with hn | ⟨g, cap, cur, rfl, hg, hh, rest⟩
  · exact .inl hn
  · refine .inr ⟨g, cap, cur, rfl, hg, ?_, rest⟩
    rw [Below.heap_setCell w p u g (fun e => hp (by rw [e]; rfl))]
    exact hh

theorem own_base {base base' e size n : Nat} {v : Value} {xs : List Value} (h : w.ownsRow base e size v n xs) (hB : base' ≤ base) : w.ownsRow base' e size v n xs :=
  ⟨h.1, h.2.imp id (fun ⟨g, cap, cur, a, b, c⟩ => ⟨g, cap, cur, a, Nat.le_trans hB b, c⟩)⟩

/-- New cells lie where they were laid. -/
theorem cells_new (w : World) (xs : List Value) (t : TypeId) : ∀ j u, xs[j]? = some u → (w.alloc (.cells xs.toArray t)).cell? ((⟨w.heap.size, 0, none⟩ : Addr).add j) = some u := by
  intro j u hj
  have h1 : (w.alloc (.cells xs.toArray t)).heap[w.heap.size]? = some (.cells xs.toArray t) := heap_alloc_new w _
  by_cases h0 : j = 0
  · subst h0
    simp only [Addr.add, if_pos, World.cell?, h1]
    simpa using hj
  · simp only [Addr.add, if_neg h0, World.cell?, h1]
    simpa using hj
end

theorem cells_new_at (w : World) (xs : List Value) (t g : Nat) (hg : g = w.heap.size) : ∀ j u, xs[j]? = some u → (w.alloc (.cells xs.toArray t)).cell? ((⟨g, 0, none⟩ : Addr).add j) = some u := by
  subst hg; exact cells_new w xs t

/-- The blocks from lo up to hi stand as they stood. -/
structure Mid (lo hi : Nat) (w w' : World) : Prop where
  size : w.heap.size ≤ w'.heap.size
  block : ∀ k, lo ≤ k → k < hi → w'.heap[k]? = w.heap[k]?
theorem Mid.refl (lo hi : Nat) (w : World) : Mid lo hi w w := ⟨Nat.le_refl _, fun _ _ _ => rfl⟩
theorem Mid.trans {lo hi : Nat} {a b c : World} (h : Mid lo hi a b) (k : Mid lo hi b c) : Mid lo hi a c := ⟨Nat.le_trans h.size k.size, fun i h1 h2 => (k.block i h1 h2).trans (h.block i h1 h2)⟩
theorem Mid.alloc {lo hi : Nat} {a w : World} (h : Mid lo hi a w) (hh : hi ≤ a.heap.size) (o : Obj) : Mid lo hi a (w.alloc o) :=
  h.trans ⟨by simp, fun k _ h2 => Below.heap_alloc _ _ _ (by have := h.size; omega)⟩
theorem Mid.drewN {lo hi : Nat} {a w : World} (h : Mid lo hi a w) (n : Nat) : Mid lo hi a (w.drewN n) := h.trans ⟨Nat.le_refl _, fun _ _ _ => rfl⟩
theorem Mid.grown {lo hi : Nat} {a w w' : World} {row : Option Nat} (h : Mid lo hi a w) (hh : hi ≤ a.heap.size) (hg : w.grownBy w' row) (hr : ∀ k, row = some k → k < lo ∨ hi ≤ k) : Mid lo hi a w' :=
  h.trans ⟨hg.size, fun k h1 h2 => hg.block k (by have := h.size; omega) (fun e => by have := hr k e.symm; omega)⟩
theorem Mid.cell {lo hi : Nat} {w w' : World} (h : Mid lo hi w w') {p : Addr} (h1 : lo ≤ p.block) (h2 : p.block < hi) : w'.cell? p = w.cell? p := World.cell?_of_block (w := w) (h.block p.block h1 h2)
theorem Mid.frozen {lo hi : Nat} {w w' : World} (h : Mid lo hi w w') {p : Addr} (h1 : lo ≤ p.block) (h2 : p.block < hi) : w'.frozen? p = w.frozen? p := World.frozen?_of_block (w := w) (h.block p.block h1 h2)
theorem Mid.below {lo hi : Nat} {a b c : World} (h : Mid lo hi a b) (hh : hi ≤ a.heap.size) (k : Below b.heap.size b c) : Mid lo hi a c := h.trans ⟨k.size, fun i _ h2 => k.block i (by have := h.size; omega)⟩

section
variable {P : Program} (w : World)
theorem wp_append_at {o : Oper} {a : Act} {K : Act → World → Prop} {Q : Exit → Act → World → Prop} (s x : Operand) (t : TypeId)
    (ho : o.op = .call { callee := .builtin .append, args := #[s, x], argTypes := #[t, t] })
    (base : Nat) (e : TypeId) (i : TypeInfo) (z : Value) (size bytes : Nat) (ht : P.underlying t = some (.slice e)) (hi : P.info? e = some i) (hz : i.zero = some z)
    (hsize : i.size = size) (hby : i.bytes = bytes) (hzs : z.cells.size = size) (hsz : 0 < size)
    (v : Value) (n : Nat) (xs : List Value) (hs : a.eval s = v) (hown : w.ownsRow base e size v n xs)
    (ad : Addr) (m c : Nat) (news : List Value) (hx : a.eval x = .slice (some ad) m c) (hl : news.length = m * size) (hnews : ∀ j u, news[j]? = some u → w.cell? (ad.add j) = some u) (h1 : ∀ u ∈ news, u.oneCell' = true)
    (h63 : n + m ≤ maxLen) (hbytes : (n + m) * bytes ≤ 140737488355328) (hbase : base ≤ w.heap.size)
    (h : ∀ v' w', w'.ownsRow base e size v' (n + m) (xs ++ news) → w.grownBy w' v.ownBlock → (v'.ownBlock = v.ownBlock ∨ v'.ownBlock = some w.heap.size) → K (a.put o.dst v') w') : o.wp P a w K Q := by
  obtain ⟨v', w', hrun, h2, h3, _, h4⟩ := run_append_own_at (P := P) w base t o.type e i z size bytes ht hi hz hsize hby hzs hsz v n xs hown ad m c news hl hnews h1 h63 hbytes hbase
  unfold Oper.wp execOp
  simp only [ho, resolve, invoke, builtin, Sem.run_bind, Sem.run_pure, Result.andThen_ok, List.map_toArray, List.map_cons, List.map_nil, hs, hx, hrun]
  exact h v' w' h2 h3 h4

theorem wpList_append_at {ops : Array Oper} {rest : List Oper} {o : Oper} {a : Act} {Q : Exit → Act → World → Prop} (hgd : o.guard = none) (s x : Operand) (t : TypeId)
    (ho : o.op = .call { callee := .builtin .append, args := #[s, x], argTypes := #[t, t] })
    (base : Nat) (e : TypeId) (i : TypeInfo) (z : Value) (size bytes : Nat) (ht : P.underlying t = some (.slice e)) (hi : P.info? e = some i) (hz : i.zero = some z)
    (hsize : i.size = size) (hby : i.bytes = bytes) (hzs : z.cells.size = size) (hsz : 0 < size)
    (v : Value) (n : Nat) (xs : List Value) (hs : a.eval s = v) (hown : w.ownsRow base e size v n xs)
    (ad : Addr) (m c : Nat) (news : List Value) (hx : a.eval x = .slice (some ad) m c) (hl : news.length = m * size) (hnews : ∀ j u, news[j]? = some u → w.cell? (ad.add j) = some u) (h1 : ∀ u ∈ news, u.oneCell' = true)
    (h63 : n + m ≤ maxLen) (hbytes : (n + m) * bytes ≤ 140737488355328) (hbase : base ≤ w.heap.size)
    (h : ∀ v' w', w'.ownsRow base e size v' (n + m) (xs ++ news) → w.grownBy w' v.ownBlock → (v'.ownBlock = v.ownBlock ∨ v'.ownBlock = some w.heap.size) → wpList P ops Q rest (a.put o.dst v') w') : wpList P ops Q (o :: rest) a w :=
  wpList_plain hgd fun _ hK => wp_append_at w s x t ho base e i z size bytes ht hi hz hsize hby hzs hsz v n xs hs hown ad m c news hx hl hnews h1 h63 hbytes hbase fun v' w' h2 h3 h4 => hK _ _ (h v' w' h2 h3 h4)
end

theorem bcell {W w1 : World} (hb : Below W.heap.size W w1) : (∀ b o, b < W.heap.size → w1.cell? ⟨b, o, none⟩ = W.cell? ⟨b, o, none⟩) ∧ (∀ b o, b < W.heap.size → w1.frozen? ⟨b, o, none⟩ = W.frozen? ⟨b, o, none⟩) :=
  ⟨fun b o h => hb.cell (p := ⟨b, o, none⟩) h, fun b o h => hb.frozen (p := ⟨b, o, none⟩) h⟩

theorem ret_val {a b : Value} (h : a = b) : Ending.returned a = Ending.returned b := by rw [h]

theorem Rd.at_ {α : Type} {enc : α → List Value} {k : Nat} {w : World} {B : Nat} {A : Option Addr} {l : List α} (h : Rd enc k w B A l) {j : Nat} (hj : j < l.length) :
    ∃ b off x, A = some ⟨b, off, none⟩ ∧ b < B ∧ l[j]? = some x ∧ ∀ i u, (enc x)[i]? = some u → w.cell? ⟨b, off + j * k + i, none⟩ = some u := by
  obtain ⟨b, off, hA, hb, hc⟩ := h (by rintro rfl; simp at hj)
  exact ⟨b, off, l[j], hA, hb, List.getElem?_eq_getElem hj, hc j hj⟩

def encS (s : Int × Int) : List Value := [.int .i64 s.1, .int .i64 s.2]
theorem encS_len (s : Int × Int) : (encS s).length = 2 := rfl
theorem Rd.atS {w w' : World} {B : Nat} {A : Option Addr} {l : List (Int × Int)} (h : Rd encS 2 w B A l) (hb : Below B w w') {j : Nat} (hj : j < l.length) :
    ∃ b off p q, A = some ⟨b, off, none⟩ ∧ b < B ∧ Hid (l[j]? = some (p, q)) ∧ w'.cell? ⟨b, off + j * 2, none⟩ = some (.int .i64 p) ∧ w'.cell? ⟨b, off + j * 2 + 1, none⟩ = some (.int .i64 q) := by
  obtain ⟨b, off, ⟨p, q⟩, hA, hlt, hx, hc⟩ := (h.below hb).at_ hj
  exact ⟨b, off, p, q, hA, hlt, hx, hc 0 _ rfl, hc 1 _ rfl⟩
/-- The last of an owned row of spans. -/
theorem own_lastS {w : World} {base e n cap : Nat} {A : Option Addr} {o : List (Int × Int)} {p q : Int} (h : w.ownsRow base e 2 (.slice A n cap) n (flat encS (o ++ [(p, q)]))) (hn : n = o.length + 1) :
    ∃ g, A = some ⟨g, 0, none⟩ ∧ base ≤ g ∧ g < w.heap.size ∧ w.cell? ⟨g, o.length * 2, none⟩ = some (.int .i64 p) ∧ w.cell? ⟨g, o.length * 2 + 1, none⟩ = some (.int .i64 q) ∧ w.frozen? ⟨g, o.length * 2 + 1, none⟩ = false ∧ w.frozen? ⟨g, o.length * 2, none⟩ = false := by
  rcases h.2 with ⟨h0, h1⟩ | ⟨g, cap', cur, hv, hg, hh, _⟩
  · omega
  · injection hv with hA _ _
    have hc := h.cells (g := g) (by rw [hA]; rfl)
    have e0 : (flat encS (o ++ [(p, q)]))[o.length * 2]? = some (.int .i64 p) := by
      have := flat_at encS_len (o ++ [(p, q)]) o.length (by simp) 0 (by omega)
      simpa [encS] using this
    have e1 : (flat encS (o ++ [(p, q)]))[o.length * 2 + 1]? = some (.int .i64 q) := by
      have := flat_at encS_len (o ++ [(p, q)]) o.length (by simp) 1 (by omega)
      simpa [encS] using this
    have k0 := hc _ _ e0
    have k1 := hc _ _ e1
    rw [add_head] at k0 k1
    exact ⟨g, hA, hg, (Array.getElem?_eq_some_iff.1 hh).1, k0, k1, by simp [World.frozen?, hh], by simp [World.frozen?, hh]⟩
/-- An element of an owned row of spans. -/
theorem own_atS {w : World} {base e n cap : Nat} {A : Option Addr} {l : List (Int × Int)} {j : Nat} (h : w.ownsRow base e 2 (.slice A n cap) n (flat encS l)) (hj : j < l.length) :
    ∃ g p q, A = some ⟨g, 0, none⟩ ∧ base ≤ g ∧ g < w.heap.size ∧ Hid (l[j]? = some (p, q)) ∧ w.cell? ⟨g, j * 2, none⟩ = some (.int .i64 p) ∧ w.cell? ⟨g, j * 2 + 1, none⟩ = some (.int .i64 q) := by
  rcases h.2 with ⟨h0, h1⟩ | ⟨g, cap', cur, hv, hg, hh, _⟩
  · have := h.1
    rw [h1, flat_length encS_len] at this
    omega
  · injection hv with hA _ _
    have hc := h.cells (g := g) (by rw [hA]; rfl)
    have e0 : (flat encS l)[j * 2]? = some (.int .i64 l[j].1) := by
      have := flat_at encS_len l j hj 0 (by omega)
      simpa [encS] using this
    have e1 : (flat encS l)[j * 2 + 1]? = some (.int .i64 l[j].2) := by
      have := flat_at encS_len l j hj 1 (by omega)
      simpa [encS] using this
    have k0 := hc _ _ e0
    have k1 := hc _ _ e1
    rw [add_head] at k0 k1
    exact ⟨g, l[j].1, l[j].2, hA, hg, (Array.getElem?_eq_some_iff.1 hh).1, List.getElem?_eq_getElem hj, k0, k1⟩
theorem flat_setS (o : List (Int × Int)) (p q r : Int) : (flat encS (o ++ [(p, q)])).set (o.length * 2 + 1) (.int .i64 r) = flat encS (o ++ [(p, r)]) := by
  rw [flat_snoc, flat_snoc, List.set_append_right _ _ (by rw [flat_length encS_len]; omega), flat_length encS_len]
  rw [show o.length * 2 + 1 - o.length * 2 = 1 from by omega]; rfl
theorem take_snoc {α : Type} {l : List α} {k : Nat} {x : α} (h : l[k]? = some x) : l.take (k + 1) = l.take k ++ [x] := by
  rw [List.take_add_one, h]; rfl
end Go.Proofs.YtnhmibfgaoealaaGreat
namespace Go.Proofs.YtnhmibfgaoealaaGreat
open Go.RowKit

theorem info_span : (Tryz.prog.info? 49).map (fun i => (i.zero, i.size, i.bytes)) = some (some (.agg #[.int .i64 0, .int .i64 0]), 2, 16) := by kernel_rfl

/-- A span put behind a row of the call's own. -/
theorem app_span {ops : Array Oper} {rest : List Oper} {o : Oper} {a : Act} {Q : Exit → Act → World → Prop} (w : World) (s x : Operand) (hgd : o.guard = none)
    (ho : o.op = .call { callee := .builtin .append, args := #[s, x], argTypes := #[34, 34] })
    (base n : Nat) (v : Value) (l : List (Int × Int)) (hs : a.eval s = v) (hown : w.ownsRow base 49 2 v n (flat encS l)) (p q : Int) (g c : Nat)
    (hx : a.eval x = .slice (some ⟨g, 0, none⟩) 1 c) (h0 : w.cell? ⟨g, 0, none⟩ = some (.int .i64 p)) (h1 : w.cell? ⟨g, 1, none⟩ = some (.int .i64 q))
    (hn : n ≤ 4000000000000) (hbase : base ≤ w.heap.size)
    (h : ∀ v' w', w'.ownsRow base 49 2 v' (n + 1) (flat encS (l ++ [(p, q)])) → w.grownBy w' v.ownBlock → (v'.ownBlock = v.ownBlock ∨ v'.ownBlock = some w.heap.size) → wpList Tryz.prog ops Q rest (a.put o.dst v') w') : wpList Tryz.prog ops Q (o :: rest) a w := by
  obtain ⟨i0, hi, hz0, hz1, hz2⟩ := info_parts info_span
  refine wpList_append_at w hgd s x 34 ho base 49 i0 (.agg #[.int .i64 0, .int .i64 0]) 2 16 Tryz.underlying34 hi hz0 hz1 hz2 rfl (by decide) v n (flat encS l) hs hown ⟨g, 0, none⟩ 1 c [.int .i64 p, .int .i64 q] hx rfl ?_ ?_ (by unfold maxLen; omega) (by omega) hbase ?_
  · intro j u hj
    rw [add_head]
    match j, hj with
    | 0, hj => simp at hj; subst hj; exact h0
    | 1, hj => simp at hj; subst hj; exact h1
  · intro u hu; simp at hu; rcases hu with rfl | rfl <;> rfl
  · intro v' w' ho' hg hv
    exact h v' w' (by rw [flat_snoc]; exact ho') hg hv

theorem isNaN_any (x : Int) (w : World) : Calls Tryz.prog 88 #[.int .i64 x] w fun e w' => e = .returned (.bool false) ∧ w = w' := by
  go_enter Tryz.func88, Tryz.ntmps88
  go_wp2
  go_ret
  exact ⟨by simp, rfl⟩

def cmpI (x y : Int) : Int := if x < y then -1 else if y < x then 1 else 0

set_option maxHeartbeats 400000 in
theorem compare_any (x y : Int) (w : World) : Calls Tryz.prog 50 #[.int .i64 x, .int .i64 y] w fun e w' => e = .returned (.int .i64 (cmpI x y)) ∧ w = w' := by
  by_cases h1 : x < y
  · have e : cmpI x y = -1 := by unfold cmpI; rw [if_pos h1]
    rw [e]; clear e
    go_enter Tryz.func50, Tryz.ntmps50
    go_wp2_with (go_at_call 88; refine (isNaN_any _ _).mono ?_; rintro e w' ⟨rfl, rfl⟩)
    go_ret
    exact ⟨rfl, rfl⟩
  · by_cases h2 : y < x
    · have e : cmpI x y = 1 := by unfold cmpI; rw [if_neg h1, if_pos h2]
      rw [e]; clear e
      go_enter Tryz.func50, Tryz.ntmps50
      go_wp2_with (go_at_call 88; refine (isNaN_any _ _).mono ?_; rintro e w' ⟨rfl, rfl⟩)
      go_ret
      exact ⟨rfl, rfl⟩
    · have e : cmpI x y = 0 := by unfold cmpI; rw [if_neg h1, if_neg h2]
      rw [e]; clear e
      go_enter Tryz.func50, Tryz.ntmps50
      go_wp2_with (go_at_call 88; refine (isNaN_any _ _).mono ?_; rintro e w' ⟨rfl, rfl⟩)
      go_ret
      exact ⟨rfl, rfl⟩
end Go.Proofs.YtnhmibfgaoealaaGreat
namespace Go.Proofs.YtnhmibfgaoealaaGreat
open Go.RowKit

/-- Nothing that lay has turned. -/
def Ext (w w' : World) : Prop := Below w.heap.size w w'
theorem Ext.refl (w : World) : Ext w w := Below.refl _ _
theorem Ext.trans {a b c : World} (h : Ext a b) (k : Ext b c) : Ext a c := Below.trans h (Below.mono k h.size)
theorem Ext.alloc {a w : World} (h : Ext a w) (o : Obj) : Ext a (w.alloc o) := Below.alloc h h.size o
theorem Ext.drewN {a w : World} (h : Ext a w) (n : Nat) : Ext a (w.drewN n) := below_drewN h n

/-- The slice at A reads as these spans. -/
def Rs (w : World) (A : Option Addr) (l : List Sp.S) : Prop := Rd encS 2 w w.heap.size A l
theorem Rs.ext {w w' : World} {A : Option Addr} {l : List Sp.S} (h : Rs w A l) (k : Ext w w') : Rs w' A l := (Rd.below h k).more k.size
theorem Rs.alloc {w : World} {A : Option Addr} {l : List Sp.S} (h : Rs w A l) (o : Obj) : Rs (w.alloc o) A l := h.ext ((Ext.refl w).alloc o)
theorem Rs.nil {w : World} {A : Option Addr} : Rs w A [] := Rd.nil
theorem Rs.own {w : World} {A : Option Addr} {n cap base e : Nat} {l : List Sp.S} (h : w.ownsRow base e 2 (.slice A n cap) l.length (flat encS l)) : Rs w A l := Rd.of_own encS_len h
theorem Rs.new (w : World) (l : List Sp.S) (t : TypeId) : Rs (w.alloc (.cells (flat encS l).toArray t)) (some ⟨w.heap.size, 0, none⟩) l := fun _ =>
  ⟨w.heap.size, 0, rfl, by simp, fun j hj i u hu => by
    have hi : i < 2 := by have := (List.getElem?_eq_some_iff.1 hu).1; rwa [encS_len] at this
    have := cells_new w (flat encS l) t (j * 2 + i) u (by rw [flat_at encS_len l j hj i hi]; exact hu)
    rw [add_head] at this
    rw [Nat.zero_add]; exact this⟩

/-- What a call leaves that hands back a slice of spans. -/
def RetS (w : World) (R : List Sp.S) (e : Ending) (w' : World) : Prop := ∃ A cap, e = .returned (.slice A R.length cap) ∧ Rs w' A R ∧ Ext w w' ∧ w'.ownsRow w.heap.size 49 2 (.slice A R.length cap) R.length (flat encS R)
def RetB (w : World) (b : Bool) (e : Ending) (w' : World) : Prop := e = .returned (.bool b) ∧ Ext w w'
def RetI (w : World) (n : Int) (e : Ending) (w' : World) : Prop := e = .returned (.int .i64 n) ∧ Ext w w'

def B64 (n : Int) : Prop := -9223372036854775808 ≤ n ∧ n ≤ 9223372036854775807

end Go.Proofs.YtnhmibfgaoealaaGreat
