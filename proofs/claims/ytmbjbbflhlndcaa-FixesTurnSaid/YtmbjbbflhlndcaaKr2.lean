/-
  Arguments that are commands, events or bytes: what they read as.
-/
import Derived.Test.YtmbjbbflhlndcaaJu
namespace Go.Proofs.Ytmbjbbflhlndcaa
open Go.ChangeShapes Go.WideShapes Go.ChangeAt Go.RowKit Go.Deep
set_option linter.unusedVariables false
set_option linter.unusedSimpArgs false

/-- A slice of such data. -/
theorem open_elems {α : Type} {H : Type} {enc : TypeId × Value → H} {P : Program} {w : World} {base : Nat} {spare : Nat → Bool} {held : Bool} {t e k : Nat} (ht : P.underlying t = some (.slice e)) (hC : P.cellsOf e = k) (k0 : 0 < k)
    (en : α → List Value) (good : α → Prop) (hlen : ∀ a, (en a).length = k)
    (hI : ∀ (fuel : Nat) (cs : List Value) (x : DataW H × List MemPlace), DataW.trod enc P w base spare held fuel e cs = some x → ∃ a : α, cs = en a ∧ good a)
    {fuel : Nat} {A : Option Addr} {len cap : Nat} {x : DataW H × List MemPlace} (hf : DataW.trod enc P w base spare held fuel t [.slice A len cap] = some x) :
    ∃ L : List α, len = L.length ∧ (L.length ≤ cap ∧ cap ≤ maxLen) ∧ (∀ z ∈ L, good z) ∧ Rd en k w w.heap.size A L := by
  rcases open_slice ht hf with ⟨hcs, _⟩ | ⟨a, len', cap', m, n, D, Pl, hcs, _, hl, hm, hmm, _, hE⟩
  · simp at hcs
    obtain ⟨rfl, rfl, rfl⟩ := hcs
    exact ⟨[], rfl, ⟨Nat.le_refl _, Nat.zero_le _⟩, by simp, .nil⟩
  · simp at hcs
    obtain ⟨rfl, rfl, rfl⟩ := hcs
    have hlm : len ≤ m := by rw [hmm]; split <;> omega
    rw [hC] at hE
    have mk : ∀ n, n ≤ len → ∃ L : List α, L.length = n ∧ (∀ z ∈ L, good z) ∧ ∀ j (h : j < L.length) (i : Nat) (u : Value), (en L[j])[i]? = some u → w.cell? (a.add (j * k + i)) = some u := by
      intro n
      induction n with
      | zero => exact fun _ => ⟨[], rfl, by simp, fun j h => absurd h (by simp)⟩
      | succ n ih =>
        intro hn
        obtain ⟨L, hl, hz, hc⟩ := ih (by omega)
        obtain ⟨cs, hcell, htr⟩ := hE n (by omega)
        obtain ⟨z, rfl, h3⟩ := hI _ _ _ htr
        obtain ⟨_, hcl, hat⟩ := World.cells?_some hcell
        refine ⟨L ++ [z], by simp [hl], ?_, fun j hj i u hu => ?_⟩
        · intro y hy
          rcases List.mem_append.1 hy with h | h
          · exact hz y h
          · simp at h; subst h; exact h3
        · by_cases hjn : j < L.length
          · rw [List.getElem_append_left hjn] at hu; exact hc j hjn i u hu
          · obtain rfl : j = L.length := by simp at hj; omega
            have hg : (L ++ [z])[L.length]'hj = z := by simp
            rw [hg] at hu
            have hi : i < k := by have := (List.getElem?_eq_some_iff.1 hu).1; rw [hlen] at this; exact this
            have := hat i hi
            rw [hl, ← Go.Deep.add_add, this, hu]
    obtain ⟨L, hl', hz, hc⟩ := mk len (Nat.le_refl _)
    refine ⟨L, hl'.symm, ⟨by omega, hm⟩, hz, fun hne => ?_⟩
    have h0l : 0 < L.length := List.length_pos_iff.2 hne
    have h00 : (en L[0])[0]? = some ((en L[0])[0]'(by rw [hlen]; exact k0)) := List.getElem?_eq_getElem _
    obtain ⟨b, off, spot⟩ := a
    have hc0 := hc 0 h0l 0 _ h00
    have hspot : spot = none := by simpa [Addr.add] using World.cell?_spot hc0
    subst hspot
    have hadd : ∀ n : Nat, (Addr.mk b off none).add n = ⟨b, off + n, none⟩ := fun n => by
      unfold Addr.add; split
      · next h => subst h; rfl
      · rfl
    have hb : b < w.heap.size := by
      rw [hadd] at hc0
      exact World.block_lt_of_cell? w _ hc0
    refine ⟨b, off, rfl, hb, fun j hj i u hu => ?_⟩
    have := hc j hj i u hu
    rw [hadd] at this
    rw [Nat.add_assoc]; exact this
theorem intsEvent : IntsAt Try.prog 23 11 := ints_struct (fun i => 1) Try.underlying23 (fun i f hi => by
  match i, hi with
  | 0, hi => cases hi; exact ⟨intsInt, rfl⟩
  | 1, hi => cases hi; exact ⟨intsInt, rfl⟩
  | 2, hi => cases hi; exact ⟨intsInt, rfl⟩
  | 3, hi => cases hi; exact ⟨intsInt, rfl⟩
  | 4, hi => cases hi; exact ⟨intsInt, rfl⟩
  | 5, hi => cases hi; exact ⟨intsInt, rfl⟩
  | 6, hi => cases hi; exact ⟨intsInt, rfl⟩
  | 7, hi => cases hi; exact ⟨intsInt, rfl⟩
  | 8, hi => cases hi; exact ⟨intsInt, rfl⟩
  | 9, hi => cases hi; exact ⟨intsInt, rfl⟩
  | 10, hi => cases hi; exact ⟨intsInt, rfl⟩
  | n + 11, hi => exact absurd hi (by simp)) (by kernel_rfl)
theorem intsFix : IntsAt Try.prog 25 12 := ints_struct (fun i => if i = 1 then 11 else 1) Try.underlying25 (fun i f hi => by
  match i, hi with
  | 0, hi => cases hi; exact ⟨intsInt, rfl⟩
  | 1, hi => cases hi; exact ⟨intsEvent, rfl⟩
  | n + 2, hi => exact absurd hi (by simp)) (by kernel_rfl)
theorem intsCmd : IntsAt Try.prog 27 16 := ints_struct (fun i => if i = 1 then 12 else 1) Try.underlying27 (fun i f hi => by
  match i, hi with
  | 0, hi => cases hi; exact ⟨intsInt, rfl⟩
  | 1, hi => cases hi; exact ⟨intsFix, rfl⟩
  | 2, hi => cases hi; exact ⟨intsInt, rfl⟩
  | 3, hi => cases hi; exact ⟨intsInt, rfl⟩
  | 4, hi => cases hi; exact ⟨intsInt, rfl⟩
  | n + 5, hi => exact absurd hi (by simp)) (by kernel_rfl)
theorem len11 {z : List Int} (h : z.length = 11) : ∃ a0 a1 a2 a3 a4 a5 a6 a7 a8 a9 a10, z = [a0, a1, a2, a3, a4, a5, a6, a7, a8, a9, a10] := by
  match z, h with
  | [a0, a1, a2, a3, a4, a5, a6, a7, a8, a9, a10], _ => exact ⟨a0, a1, a2, a3, a4, a5, a6, a7, a8, a9, a10, rfl⟩
theorem len16 {z : List Int} (h : z.length = 16) : ∃ a0 a1 a2 a3 a4 a5 a6 a7 a8 a9 a10 a11 a12 a13 a14 a15, z = [a0, a1, a2, a3, a4, a5, a6, a7, a8, a9, a10, a11, a12, a13, a14, a15] := by
  match z, h with
  | [a0, a1, a2, a3, a4, a5, a6, a7, a8, a9, a10, a11, a12, a13, a14, a15], _ => exact ⟨a0, a1, a2, a3, a4, a5, a6, a7, a8, a9, a10, a11, a12, a13, a14, a15, rfl⟩
theorem ev_of {zs : List Int} (hl : zs.length = 11) (h : ∀ z ∈ zs, B64 z) : ∃ e : Ev, zs.map (Value.int .i64) = encV e ∧ Ev64 e := by
  obtain ⟨a0, a1, a2, a3, a4, a5, a6, a7, a8, a9, a10, rfl⟩ := len11 hl
  exact ⟨⟨a0, a1, a2, a3, a4, a5, a6, a7, a8, a9, a10⟩, rfl, ⟨h a0 (by simp), h a1 (by simp), h a2 (by simp), h a3 (by simp), h a4 (by simp), h a5 (by simp), h a6 (by simp), h a7 (by simp), h a8 (by simp), h a9 (by simp), h a10 (by simp)⟩⟩
theorem cm_of {zs : List Int} (hl : zs.length = 16) (h : ∀ z ∈ zs, B64 z) : ∃ c : Cm, zs.map (Value.int .i64) = encC c ∧ Cm64 c := by
  obtain ⟨a0, a1, a2, a3, a4, a5, a6, a7, a8, a9, a10, a11, a12, a13, a14, a15, rfl⟩ := len16 hl
  exact ⟨⟨a0, a1, ⟨a2, a3, a4, a5, a6, a7, a8, a9, a10, a11, a12⟩, a13, a14, a15⟩, rfl, ⟨h a0 (by simp), h a1 (by simp), ⟨h a2 (by simp), h a3 (by simp), h a4 (by simp), h a5 (by simp), h a6 (by simp), h a7 (by simp), h a8 (by simp), h a9 (by simp), h a10 (by simp), h a11 (by simp), h a12 (by simp)⟩, h a13 (by simp), h a14 (by simp), h a15 (by simp)⟩⟩
set_option maxRecDepth 100000 in
theorem open_cmds {H : Type} {enc : TypeId × Value → H} {w : World} {base : Nat} {spare : Nat → Bool} {held : Bool} {fuel : Nat} {A : Option Addr} {len cap : Nat} {x : DataW H × List MemPlace} (hf : DataW.trod enc Try.prog w base spare held fuel 28 [.slice A len cap] = some x) :
    ∃ l : List Cm, len = l.length ∧ (l.length ≤ cap ∧ cap ≤ maxLen) ∧ (∀ z ∈ l, Cm64 z) ∧ Rw encC 16 w A l :=
  open_elems (k := 16) Try.underlying28 intsCmd.1 (show 0 < 16 by omega) encC Cm64 elC.len (fun fuel cs x h => by
    obtain ⟨zs, rfl, hl, hb⟩ := intsCmd.2 _ _ _ _ _ _ _ _ _ h
    exact cm_of hl hb) hf
set_option maxRecDepth 100000 in
theorem open_cmd {H : Type} {enc : TypeId × Value → H} {w : World} {base b0 : Nat} {spare : Nat → Bool} {held : Bool} {r : Reach} {v : Value} {d : DataW H} {p : List MemPlace} (hv : Value.okWide Try.prog w r b0 27 v) (h : DataW.Trod enc Try.prog w base spare held 27 v d p) :
    ∃ c : Cm, v = .agg (encC c).toArray ∧ Cm64 c := by
  obtain ⟨cs, rfl, hsz⟩ := okWide_struct Try.underlying27 hv
  obtain ⟨fuel, hf⟩ := h
  obtain ⟨zs, hz, hl, hb⟩ := intsCmd.2 _ _ _ _ _ _ _ _ _ hf
  obtain ⟨c, he, h64⟩ := cm_of hl hb
  refine ⟨c, ?_, h64⟩
  rw [← he, ← hz]
  rfl
set_option maxRecDepth 100000 in
theorem open_events {H : Type} {enc : TypeId × Value → H} {w : World} {base : Nat} {spare : Nat → Bool} {held : Bool} {fuel : Nat} {A : Option Addr} {len cap : Nat} {x : DataW H × List MemPlace} (hf : DataW.trod enc Try.prog w base spare held fuel 63 [.slice A len cap] = some x) :
    ∃ l : List Ev, len = l.length ∧ (l.length ≤ cap ∧ cap ≤ maxLen) ∧ (∀ z ∈ l, Ev64 z) ∧ Rw encV 11 w A l :=
  open_elems (k := 11) Try.underlying63 intsEvent.1 (show 0 < 11 by omega) encV Ev64 elV.len (fun fuel cs x h => by
    obtain ⟨zs, rfl, hl, hb⟩ := intsEvent.2 _ _ _ _ _ _ _ _ _ h
    exact ev_of hl hb) hf
set_option maxRecDepth 100000 in
theorem open_event {H : Type} {enc : TypeId × Value → H} {w : World} {base b0 : Nat} {spare : Nat → Bool} {held : Bool} {r : Reach} {v : Value} {d : DataW H} {p : List MemPlace} (hv : Value.okWide Try.prog w r b0 23 v) (h : DataW.Trod enc Try.prog w base spare held 23 v d p) :
    ∃ c : Ev, v = .agg (encV c).toArray ∧ Ev64 c := by
  obtain ⟨cs, rfl, hsz⟩ := okWide_struct Try.underlying23 hv
  obtain ⟨fuel, hf⟩ := h
  obtain ⟨zs, hz, hl, hb⟩ := intsEvent.2 _ _ _ _ _ _ _ _ _ hf
  obtain ⟨c, he, h64⟩ := ev_of hl hb
  refine ⟨c, ?_, h64⟩
  rw [← he, ← hz]
  rfl
theorem slice_datum {H : Type} {enc : TypeId × Value → H} {P : Program} {w : World} {base : Nat} {spare : Nat → Bool} {held : Bool} {t e : TypeId} {fuel : Nat} {A : Option Addr} {len cap : Nat} {d : DataW H} {p : List MemPlace} (ht : P.underlying t = some (.slice e)) (h : DataW.trod enc P w base spare held fuel t [.slice A len cap] = some (d, p)) :
    len = 0 ∨ ∃ elems sp, d = .slice elems sp ∧ elems.length = len := by
  rcases open_slice ht h with ⟨hcs, _⟩ | ⟨a, len', cap', m, n, D, Pl, hcs, _, hl, hm, hmm, hx, hE⟩
  · simp at hcs; exact .inl hcs.2.1
  · simp at hcs
    obtain ⟨rfl, rfl, rfl⟩ := hcs
    simp only [Prod.mk.injEq] at hx
    exact .inr ⟨_, _, hx.1, by simp⟩
theorem open_bytess {H : Type} {enc : TypeId × Value → H} {w : World} {base : Nat} {spare : Nat → Bool} {held : Bool} {fuel : Nat} {A : Option Addr} {len cap : Nat} {x : DataW H × List MemPlace} (hf : DataW.trod enc Try.prog w base spare held fuel 29 [.slice A len cap] = some x) :
    ∃ l : List UInt8, len = l.length ∧ (l.length ≤ cap ∧ cap ≤ maxLen) ∧ (∀ z ∈ l, True) ∧ Rw encB 1 w A l :=
  open_elems Try.underlying29 (show Try.prog.cellsOf 5 = 1 by kernel_rfl) (by decide) encB (fun _ => True) (fun _ => rfl) (fun fuel cs x h => by
    obtain ⟨n, rfl, _, hw⟩ := DataW.trod_int Try.underlying5 h
    have hb : 0 ≤ n ∧ n ≤ 255 := bounds_u8 hw
    refine ⟨UInt8.ofNat n.toNat, ?_, trivial⟩
    unfold encB
    rw [u8_ofNat_toNat, show (((n.toNat % 256 : Nat)) : Int) = n from by omega]) hf
end Go.Proofs.Ytmbjbbflhlndcaa
