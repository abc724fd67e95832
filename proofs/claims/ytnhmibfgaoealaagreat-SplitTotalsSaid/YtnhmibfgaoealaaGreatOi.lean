/-
  Data of int cells alone: structs of ints, and slices of them.
-/
import Derived.Test.YtnhmibfgaoealaaGreatOpn
import Derived.Test.YtnhmibfgaoealaaGreatPw
namespace Go.Proofs.YtnhmibfgaoealaaGreat
open Go.ChangeShapes Go.WideShapes Go.ChangeAt Go.RowKit Go.Deep
set_option linter.unusedVariables false

theorem wf_b64 {n : Int} (h : (Lit.int .i64 n).wf = true) : B64 n := by
  have := bounds_i64 h
  exact this

/-- A datum of type e is k int cells. -/
def IntsAt (P : Program) (e k : Nat) : Prop := P.cellsOf e = k ∧ ∀ (H : Type) (enc : TypeId × Value → H) (w : World) (base : Nat) (spare : Nat → Bool) (held : Bool) (fuel : Nat) (cs : List Value) (x : DataW H × List MemPlace),
  DataW.trod enc P w base spare held fuel e cs = some x → ∃ zs : List Int, cs = zs.map (Value.int .i64) ∧ zs.length = k ∧ ∀ z ∈ zs, B64 z

theorem ints_int {P : Program} {e : Nat} (h : P.underlying e = some (.int .i64)) (hc : P.cellsOf e = 1) : IntsAt P e 1 :=
  ⟨hc, fun _ _ _ _ _ _ _ _ _ ht => by
    obtain ⟨n, rfl, _, hw⟩ := DataW.trod_int h ht
    exact ⟨[n], rfl, rfl, fun z hz => by simp at hz; subst hz; exact wf_b64 hw⟩⟩

def offs (ks : Nat → Nat) : Nat → Nat
  | 0 => 0
  | n + 1 => offs ks n + ks n

theorem ints_struct {P : Program} {t : Nat} {fs : Array Field} (ks : Nat → Nat) (ht : P.underlying t = some (.struct fs)) (hf : ∀ i f, fs[i]? = some f → IntsAt P f.type (ks i) ∧ f.offset = offs ks i) (hc : P.cellsOf t = offs ks fs.size) : IntsAt P t (offs ks fs.size) := by
  refine ⟨hc, fun H enc w base spare held fuel cs x h => ?_⟩
  obtain ⟨ys, n, _, _, hlen, hyl, hy⟩ := DataW.trod_struct ht h
  have key : ∀ m, m ≤ fs.size → ∃ zs : List Int, cs.take (offs ks m) = zs.map (Value.int .i64) ∧ zs.length = offs ks m ∧ ∀ z ∈ zs, B64 z := by
    intro m
    induction m with
    | zero => exact fun _ => ⟨[], by simp [offs], rfl, by simp⟩
    | succ m ih =>
      intro hm
      obtain ⟨zs, h1, h2, h3⟩ := ih (by omega)
      have hfm : fs[m]? = some (fs[m]'(by omega)) := Array.getElem?_eq_getElem (by omega)
      obtain ⟨⟨hk, hi⟩, ho⟩ := hf m _ hfm
      have h4 := hy m _ hfm
      rw [List.getElem?_eq_getElem (show m < ys.length by omega), ho, hk] at h4
      obtain ⟨us, h5, h6, h7⟩ := hi H enc w base spare held n _ _ h4
      refine ⟨zs ++ us, ?_, ?_, ?_⟩
      · rw [offs, List.take_add, h1, h5, List.map_append]
      · rw [List.length_append, h2, h6, offs]
      · intro z hz
        rcases List.mem_append.1 hz with hz | hz
        · exact h3 z hz
        · exact h7 z hz
  obtain ⟨zs, h1, h2, h3⟩ := key fs.size (Nat.le_refl _)
  rw [List.take_of_length_le (by omega)] at h1
  exact ⟨zs, h1, h2, h3⟩

/-- A slice of such data. -/
theorem open_rows {H : Type} {enc : TypeId × Value → H} {P : Program} {w : World} {base : Nat} {spare : Nat → Bool} {held : Bool} {t e k : Nat} (ht : P.underlying t = some (.slice e)) (hk : IntsAt P e k) (k0 : 0 < k)
    {fuel : Nat} {A : Option Addr} {len cap : Nat} {x : DataW H × List MemPlace} (hf : DataW.trod enc P w base spare held fuel t [.slice A len cap] = some x) :
    ∃ L : List (List Int), len = L.length ∧ L.length ≤ maxLen ∧ (∀ z ∈ L, z.length = k ∧ ∀ y ∈ z, B64 y) ∧ Rd (fun z => z.map (Value.int .i64)) k w w.heap.size A L := by
  obtain ⟨hC, hI⟩ := hk
  rcases open_slice ht hf with ⟨hcs, _⟩ | ⟨a, len', cap', m, n, D, Pl, hcs, _, hl, hm, hmm, _, hE⟩
  · simp at hcs
    obtain ⟨rfl, rfl, rfl⟩ := hcs
    exact ⟨[], rfl, Nat.zero_le _, by simp, .nil⟩
  · simp at hcs
    obtain ⟨rfl, rfl, rfl⟩ := hcs
    have hlm : len ≤ m := by rw [hmm]; split <;> omega
    rw [hC] at hE
    have mk : ∀ n, n ≤ len → ∃ L : List (List Int), L.length = n ∧ (∀ z ∈ L, z.length = k ∧ ∀ y ∈ z, B64 y) ∧ ∀ j (h : j < L.length) (i : Nat) (u : Value), (L[j].map (Value.int .i64))[i]? = some u → w.cell? (a.add (j * k + i)) = some u := by
      intro n
      induction n with
      | zero => exact fun _ => ⟨[], rfl, by simp, fun j h => absurd h (by simp)⟩
      | succ n ih =>
        intro hn
        obtain ⟨L, hl, hz, hc⟩ := ih (by omega)
        obtain ⟨cs, hcell, htr⟩ := hE n (by omega)
        obtain ⟨zs, rfl, h2, h3⟩ := hI _ _ _ _ _ _ _ _ _ htr
        obtain ⟨_, hcl, hat⟩ := World.cells?_some hcell
        refine ⟨L ++ [zs], by simp [hl], ?_, fun j hj i u hu => ?_⟩
        · intro z hz'
          rcases List.mem_append.1 hz' with h | h
          · exact hz z h
          · simp at h; subst h; exact ⟨h2, h3⟩
        · by_cases hjn : j < L.length
          · rw [List.getElem_append_left hjn] at hu; exact hc j hjn i u hu
          · obtain rfl : j = L.length := by simp at hj; omega
            have hg : (L ++ [zs])[L.length]'hj = zs := by simp
            rw [hg] at hu
            have hi : i < k := by have := (List.getElem?_eq_some_iff.1 hu).1; simp at this; omega
            have := hat i hi
            rw [hl, ← Go.Deep.add_add, this, hu]
    obtain ⟨L, hl', hz, hc⟩ := mk len (Nat.le_refl _)
    refine ⟨L, hl'.symm, by omega, hz, fun hne => ?_⟩
    have h0l : 0 < L.length := List.length_pos_iff.2 hne
    have hz0 := (hz L[0] (List.getElem_mem h0l)).1
    have h00 : (L[0].map (Value.int .i64))[0]? = some ((L[0].map (Value.int .i64))[0]'(by simp; omega)) := List.getElem?_eq_getElem _
    obtain ⟨b, off, spot⟩ := a
    have hc0 := hc 0 h0l 0 _ h00
    have hspot : spot = none := by simpa [Addr.add] using World.cell?_spot hc0
    subst hspot
    have hadd : ∀ n : Nat, (Addr.mk b off none).add n = ⟨b, off + n, none⟩ := fun n => by
      unfold Addr.add; split
      · next h => subst h; rfl
      · rfl
    have hb : b < w.heap.size := by
      rw [hadd] at hc0
      exact World.block_lt_of_cell? w _ hc0
    refine ⟨b, off, rfl, hb, fun j hj i u hu => ?_⟩
    have := hc j hj i u hu
    rw [hadd] at this
    rw [Nat.add_assoc]; exact this

/-- The same data by a reading of their own. -/
theorem Rd.conv {α β : Type} {enc : α → List Value} {enc' : β → List Value} {k : Nat} {w : World} {B : Nat} {A : Option Addr} {l : List α} (h : Rd enc k w B A l) (f : α → β) (he : ∀ x ∈ l, enc' (f x) = enc x) : Rd enc' k w B A (l.map f) := fun hne => by
  obtain ⟨b, off, hA, hb, hc⟩ := h (by rintro rfl; simp at hne)
  refine ⟨b, off, hA, hb, fun j hj i u hu => ?_⟩
  have hj' : j < l.length := by simpa using hj
  rw [List.getElem_map, he _ (List.getElem_mem hj')] at hu
  exact hc j hj' i u hu

def mk2 : List Int → Int × Int
  | [a, b] => (a, b)
  | _ => (0, 0)
def mk3 : List Int → Int × Int × Int
  | [a, b, c] => (a, b, c)
  | _ => (0, 0, 0)
def mk4 : List Int → (Int × Int) × (Int × Int)
  | [a, b, c, d] => ((a, b), (c, d))
  | _ => ((0, 0), (0, 0))
theorem len1 {z : List Int} (h : z.length = 1) : ∃ a, z = [a] := List.length_eq_one_iff.1 h
theorem len2 {z : List Int} (h : z.length = 2) : ∃ a b, z = [a, b] := by
  match z, h with
  | [a, b], _ => exact ⟨a, b, rfl⟩
theorem len3 {z : List Int} (h : z.length = 3) : ∃ a b c, z = [a, b, c] := by
  match z, h with
  | [a, b, c], _ => exact ⟨a, b, c, rfl⟩
theorem len4 {z : List Int} (h : z.length = 4) : ∃ a b c d, z = [a, b, c, d] := by
  match z, h with
  | [a, b, c, d], _ => exact ⟨a, b, c, d, rfl⟩

section
variable {H : Type} {enc : TypeId × Value → H} {P : Program} {w : World} {base : Nat} {spare : Nat → Bool} {held : Bool} {t e : Nat} {fuel : Nat} {A : Option Addr} {len cap : Nat} {x : DataW H × List MemPlace}
theorem open_list1 (ht : P.underlying t = some (.slice e)) (hk : IntsAt P e 1) (hf : DataW.trod enc P w base spare held fuel t [.slice A len cap] = some x) :
    ∃ l : List Int, len = l.length ∧ l.length ≤ maxLen ∧ (∀ z ∈ l, B64 z) ∧ Rd encN 1 w w.heap.size A l := by
  obtain ⟨L, h1, h2, h3, h4⟩ := open_rows ht hk (by omega) hf
  refine ⟨L.map (fun z => z.headD 0), by simpa using h1, by simpa using h2, ?_, h4.conv _ fun z hz => ?_⟩
  · intro y hy
    obtain ⟨z, hz, rfl⟩ := List.mem_map.1 hy
    obtain ⟨a, rfl⟩ := len1 (h3 z hz).1
    exact (h3 _ hz).2 a (by simp)
  · obtain ⟨a, rfl⟩ := len1 (h3 z hz).1
    rfl
theorem open_list2 (ht : P.underlying t = some (.slice e)) (hk : IntsAt P e 2) (hf : DataW.trod enc P w base spare held fuel t [.slice A len cap] = some x) :
    ∃ l : List (Int × Int), len = l.length ∧ l.length ≤ maxLen ∧ (∀ z ∈ l, B64 z.1 ∧ B64 z.2) ∧ Rd encS 2 w w.heap.size A l := by
  obtain ⟨L, h1, h2, h3, h4⟩ := open_rows ht hk (by omega) hf
  refine ⟨L.map mk2, by simpa using h1, by simpa using h2, ?_, h4.conv _ fun z hz => ?_⟩
  · intro y hy
    obtain ⟨z, hz, rfl⟩ := List.mem_map.1 hy
    obtain ⟨a, b, rfl⟩ := len2 (h3 z hz).1
    exact ⟨(h3 _ hz).2 a (by simp), (h3 _ hz).2 b (by simp)⟩
  · obtain ⟨a, b, rfl⟩ := len2 (h3 z hz).1
    rfl
theorem open_list3 (ht : P.underlying t = some (.slice e)) (hk : IntsAt P e 3) (hf : DataW.trod enc P w base spare held fuel t [.slice A len cap] = some x) :
    ∃ l : List (Int × Int × Int), len = l.length ∧ l.length ≤ maxLen ∧ (∀ z ∈ l, B64 z.1 ∧ B64 z.2.1 ∧ B64 z.2.2) ∧ Rd enc3 3 w w.heap.size A l := by
  obtain ⟨L, h1, h2, h3, h4⟩ := open_rows ht hk (by omega) hf
  refine ⟨L.map mk3, by simpa using h1, by simpa using h2, ?_, h4.conv _ fun z hz => ?_⟩
  · intro y hy
    obtain ⟨z, hz, rfl⟩ := List.mem_map.1 hy
    obtain ⟨a, b, c, rfl⟩ := len3 (h3 z hz).1
    exact ⟨(h3 _ hz).2 a (by simp), (h3 _ hz).2 b (by simp), (h3 _ hz).2 c (by simp)⟩
  · obtain ⟨a, b, c, rfl⟩ := len3 (h3 z hz).1
    rfl
theorem open_list4 (ht : P.underlying t = some (.slice e)) (hk : IntsAt P e 4) (hf : DataW.trod enc P w base spare held fuel t [.slice A len cap] = some x) :
    ∃ l : List ((Int × Int) × (Int × Int)), len = l.length ∧ l.length ≤ maxLen ∧ (∀ z ∈ l, (B64 z.1.1 ∧ B64 z.1.2) ∧ B64 z.2.1 ∧ B64 z.2.2) ∧ Rd enc4 4 w w.heap.size A l := by
  obtain ⟨L, h1, h2, h3, h4⟩ := open_rows ht hk (by omega) hf
  refine ⟨L.map mk4, by simpa using h1, by simpa using h2, ?_, h4.conv _ fun z hz => ?_⟩
  · intro y hy
    obtain ⟨z, hz, rfl⟩ := List.mem_map.1 hy
    obtain ⟨a, b, c, d, rfl⟩ := len4 (h3 z hz).1
    exact ⟨⟨(h3 _ hz).2 a (by simp), (h3 _ hz).2 b (by simp)⟩, (h3 _ hz).2 c (by simp), (h3 _ hz).2 d (by simp)⟩
  · obtain ⟨a, b, c, d, rfl⟩ := len4 (h3 z hz).1
    rfl
end
end Go.Proofs.YtnhmibfgaoealaaGreat
