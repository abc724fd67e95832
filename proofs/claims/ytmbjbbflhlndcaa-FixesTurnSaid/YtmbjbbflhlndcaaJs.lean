/-
  The closures that take numbers: event.Take$1, cmds.Take$1.
-/
import Derived.Test.YtmbjbbflhlndcaaJr
import Derived.Test.YtmbjbbflhlndcaaJg
namespace Go.Proofs.Ytmbjbbflhlndcaa
open Go.RowKit BigFrame
set_option linter.unusedVariables false
set_option linter.unusedSimpArgs false

/-- Cells that were set to numbers. -/
def setN : List Nat → List Nat → List Value → List Value
  | o :: os, x :: xs, cs => setN os xs (cs.set o (.int .i64 x))
  | _, _, cs => cs
theorem setN_snoc (os xs : List Nat) (o x : Nat) (cs : List Value) (h : os.length = xs.length) : setN (os ++ [o]) (xs ++ [x]) cs = (setN os xs cs).set o (.int .i64 x) := by
  induction os generalizing xs cs with
  | nil => cases xs with
    | nil => rfl
    | cons _ _ => simp at h
  | cons q os ih => cases xs with
    | nil => simp at h
    | cons y xs => exact ih xs (cs.set q (.int .i64 y)) (by simpa using h)
theorem setN_len (os xs : List Nat) (cs : List Value) : (setN os xs cs).length = cs.length := by
  induction os generalizing xs cs with
  | nil => cases xs <;> rfl
  | cons q os ih => cases xs with
    | nil => rfl
    | cons y xs => rw [setN, ih, List.length_set]
/-- Neither of these two blocks. -/
def Far2 (g gb : Nat) (A : Option Addr) : Prop := ∀ blk off, A = some ⟨blk, off, none⟩ → blk ≠ g ∧ blk ≠ gb
theorem bx_set_other {w : World} {g h : Nat} {cs : List Value} {t : TypeId} (hb : Bx w g cs t) (hne : g ≠ h) (j : Nat) (u : Value) : Bx (w.setCell ⟨h, j, none⟩ u) g cs t := by
  unfold Bx at hb ⊢
  rw [Below.heap_setCell w _ _ g (by exact fun e => hne e)]
  exact hb
/-- No other block than these two has turned. -/
structure Two (g gb : Nat) (w w' : World) : Prop where
  size : w.heap.size ≤ w'.heap.size
  block : ∀ k, k < w.heap.size → k ≠ g → k ≠ gb → w'.heap[k]? = w.heap[k]?
theorem Two.refl (g gb : Nat) (w : World) : Two g gb w w := ⟨Nat.le_refl _, fun _ _ _ _ => rfl⟩
theorem Two.ext {g gb : Nat} {a b c : World} (h : Two g gb a b) (k : Ext b c) : Two g gb a c := ⟨Nat.le_trans h.size k.size, fun i h1 h2 h3 => (k.block i (Nat.lt_of_lt_of_le h1 h.size)).trans (h.block i h1 h2 h3)⟩
theorem Two.trans {g gb : Nat} {a b c : World} (h : Two g gb a b) (k : Two g gb b c) : Two g gb a c := ⟨Nat.le_trans h.size k.size, fun i h1 h2 h3 => (k.block i (Nat.lt_of_lt_of_le h1 h.size) h2 h3).trans (h.block i h1 h2 h3)⟩
theorem Two.set1 {g gb : Nat} {a b : World} (h : Two g gb a b) (j : Nat) (u : Value) : Two g gb a (b.setCell ⟨g, j, none⟩ u) := ⟨by simpa using h.size, fun i h1 h2 h3 => (Below.heap_setCell b _ u i (by exact fun e => h2 e)).trans (h.block i h1 h2 h3)⟩
theorem Two.set2 {g gb : Nat} {a b : World} (h : Two g gb a b) (j : Nat) (u : Value) : Two g gb a (b.setCell ⟨gb, j, none⟩ u) := ⟨by simpa using h.size, fun i h1 h2 h3 => (Below.heap_setCell b _ u i (by exact fun e => h3 e)).trans (h.block i h1 h2 h3)⟩
theorem bx_two {g gb k : Nat} {w w' : World} {cs : List Value} {t : TypeId} (hb : Bx w k cs t) (h : Two g gb w w') (h1 : k ≠ g) (h2 : k ≠ gb) : Bx w' k cs t := (h.block k hb.lt h1 h2).trans hb
/-- What holds when k numbers were taken. -/
def New (w0 : World) (A : Option Addr) : Prop := ∀ blk off, A = some ⟨blk, off, none⟩ → w0.heap.size ≤ blk
def TkSt (w0 w : World) (g gb : Nat) (cs : List Value) (T : TypeId) (Ab A : Option Addr) (offs : List Nat) (b : List UInt8) (k : Nat) (wr : World) : Prop :=
  Ext w0 wr ∧ Two g gb w wr ∧ ∃ (l : List Nat) (r : List UInt8) (Ar : Option Addr) (cr : Nat), decN k b = some (l, r) ∧ Bx wr g (setN (offs.take k) l cs) T ∧ Bx wr gb [.slice Ar r.length cr] 29 ∧ Rb wr Ar r ∧ r.length ≤ cr ∧ cr ≤ maxLen ∧ Rw encA 1 wr A (ptrs g offs) ∧ ((k = 0 ∧ Ar = Ab) ∨ New w Ar)
def TkPost (w0 w : World) (g gb : Nat) (cs : List Value) (T : TypeId) (Ab : Option Addr) (offs : List Nat) (b : List UInt8) (e : Ending) (w' : World) : Prop := Ext w0 w' ∧ Two g gb w w' ∧ match decN offs.length b with
  | none => e = .returned (.bool false)
  | some (l, r) => e = .returned (.bool true) ∧ Bx w' g (setN offs l cs) T ∧ ∃ Ar cr, Bx w' gb [.slice Ar r.length cr] 29 ∧ Rb w' Ar r ∧ r.length ≤ cr ∧ cr ≤ maxLen ∧ ((offs.length = 0 ∧ Ar = Ab) ∨ New w Ar)

set_option maxRecDepth 100000 in
set_option maxHeartbeats 2000000 in
theorem pTkE {w0 w : World} (hX : Ext w0 w) {g gb : Nat} (hg : w0.heap.size ≤ g) (hgb : w0.heap.size ≤ gb) (hne : g ≠ gb) {cs : List Value} {T : TypeId} (hB : Bx w g cs T) {Ab : Option Addr} {b : List UInt8} {cb : Nat} (hbx : Bx w gb [.slice Ab b.length cb] 29)
    (hb : Rb w Ab b) (hbl : b.length ≤ 100000000) (hc : b.length ≤ cb) (hc2 : cb ≤ maxLen) {A : Option Addr} {offs : List Nat} {n cap : Nat} (hA : Rw encA 1 w A (ptrs g offs)) (hn : n = offs.length) (hfA : Far2 g gb A) (ho : ∀ o ∈ offs, o < cs.length) (ho10 : offs.length ≤ 10) :
    Calls Try.prog 64 #[.slice A n cap, .pointer (some ⟨gb, 0, none⟩)] w (TkPost w0 w g gb cs T Ab offs b) := by
  have H : Hid (TkSt w0 w g gb cs T Ab A offs b 0 w)   := ⟨hX, Two.refl _ _ _, [], b, Ab, cb, rfl, by simpa [setN] using hB, hbx, hb, hc, hc2, hA, .inl ⟨rfl, rfl⟩⟩
  replace hn := Lib.hid hn; replace hfA := Lib.hid hfA; replace ho := Lib.hid ho; replace hne := Lib.hid hne
  have hg' := Lib.hid hg; have hgb' := Lib.hid hgb; have hbl' := Lib.hid hbl
  have hn10 : n ≤ 10 := by rw [hn.out]; exact ho10
  clear hX hB hbx hb hc hc2 hA ho10 hg hgb hbl
  go_enter Try.func64, Try.ntmps64
  go_wp2_with fail
  go_loopw [11] (fun i wr => ∃ k : Nat, k ≤ n ∧ i = .int .i64 k ∧ Hid (TkSt w0 w g gb cs T Ab A offs b k wr)) (fun i _ => n - (intOf i).toNat)
  case atStart => exact ⟨0, Nat.zero_le _, rfl, H.out⟩
  case round =>
    obtain ⟨k, hkn, rfl, ST⟩ := hrel
    obtain ⟨X, TW, l, r, Ar, cr, hd, HB, HBX, HR, hcr, hcr2, HA, HNw⟩ := ST.out
    by_cases hlt : k < n
    · have hlt2 : k < (ptrs g offs).length := by unfold ptrs; rw [List.length_map, ← hn.out]; exact hlt
      obtain ⟨b1, off1, p, hA1, hbB, hx, z0⟩ := Rd.atA HA (Ext.refl _) hlt2
      subst hA1
      obtain ⟨o, ho1, rfl⟩ : ∃ o, offs[k]? = some o ∧ p = ⟨g, o, none⟩ := by
        have := hx.out
        unfold ptrs at this
        rw [List.getElem?_map] at this
        cases h1 : offs[k]? with
        | none => rw [h1] at this; cases this
        | some o => rw [h1] at this; exact ⟨o, rfl, by simpa using this.symm⟩
      have hol := ho.out o (List.mem_of_getElem? ho1)
      have hrl : r.length ≤ b.length := by
        have := (decN_some hd).1
        rw [this, List.length_append]; omega
      have q3 : (k : Int) < (n : Int) := by omega
      have q4 : (0 : Int) ≤ (k : Int) := by omega
      have y0 := HBX.cell 0 _ rfl
      have hT := Lib.hid (pTake HR (Nat.le_trans hrl hbl'.out) cr hcr (by unfold maxLen at hcr2; omega))
      have hd1 := decN_append k 1 b
      rw [hd] at hd1
      have hd2 : decN (k + 1) b = match dec r with | none => none | some (x, t) => some (l ++ [x], t) := by
        rw [hd1]
        simp only [decN]
        cases dec r <;> rfl
      have ST2 := ST
      replace hd := Lib.hid hd; replace HB := Lib.hid HB; replace HBX := Lib.hid HBX; replace HR := Lib.hid HR; replace HA := Lib.hid HA; replace X := Lib.hid X; replace TW := Lib.hid TW
      replace hd2 := Lib.hid hd2; replace ho1 := Lib.hid ho1
      clear hd1 hx hlt2 ST ST2 H hcr hcr2 hrl HNw
      go_wp2_with fail
      refine hT.out.mono ?_
      rintro e w5 ⟨x5, hres⟩
      cases hdr : dec r with
      | none =>
        rw [hdr] at hres hd2
        simp only at hres
        subst hres
        have hnone : decN offs.length b = none := by
          have := decN_append (k + 1) (n - (k + 1)) b
          rw [hd2.out] at this
          rw [← hn.out, show n = k + 1 + (n - (k + 1)) by omega]
          exact this
        have X5 := Lib.hid (X.out.trans x5)
        have T5 := Lib.hid (TW.out.ext x5)
        clear hdr hT x5
        go_wp2_with fail
        go_ret
        refine ⟨X5.out, T5.out, ?_⟩
        rw [hnone]
        rfl
      | some q =>
        obtain ⟨x, t⟩ := q
        rw [hdr] at hres hd2
        simp only at hres
        obtain ⟨At, ct, rfl, hRt, hct, hct2, hfr⟩ := hres
        have hxt := (dec_some hdr).2
        have htl : t.length ≤ r.length := Nat.le_of_lt (dec_len hdr)
        have HB5 := HB.out.ext x5
        have HBX5 := HBX.out.ext x5
        have HA5 := HA.out.ext x5
        have X5 := X.out.trans x5
        have hlen : o < (setN (offs.take k) l cs).length := by rw [setN_len]; exact hol
        obtain ⟨u, hu⟩ : ∃ u, (setN (offs.take k) l cs)[o]? = some u := ⟨_, List.getElem?_eq_getElem hlen⟩
        have y1 := HB5.cell o u hu
        have y2 := HB5.frozen o
        have y3 := HBX5.cell 0 _ rfl
        have y4 := HBX5.frozen 0
        have hgl := HB.out.lt
        have hsz := TW.out.size
        have hgbl := HBX.out.lt
        have HBs := HB5.set_ o (.int .i64 x)
        have HBa : Hid (Bx ((w5.setCell ⟨g, o, none⟩ (.int .i64 x)).setCell ⟨gb, 0, none⟩ (.slice At t.length ct)) g (setN (offs.take (k + 1)) (l ++ [x]) cs) T) := by
          have hl : (offs.take k).length = l.length := by rw [(decN_some hd.out).2.1, List.length_take]; have := hn.out; omega
          rw [take_snoc ho1.out, setN_snoc _ _ _ _ _ hl]
          exact bx_set_other HBs hne.out _ _
        have HBXa : Hid (Bx ((w5.setCell ⟨g, o, none⟩ (.int .i64 x)).setCell ⟨gb, 0, none⟩ (.slice At t.length ct)) gb [.slice At t.length ct] 29) :=
          (bx_set_other HBX5 (Ne.symm hne.out) o (.int .i64 x)).set_ 0 (.slice At t.length ct)
        have hft : Far2 g gb At := fun blk off h => by have := hfr blk off h; exact ⟨by omega, by omega⟩
        have HRt : Hid (Rb ((w5.setCell ⟨g, o, none⟩ (.int .i64 x)).setCell ⟨gb, 0, none⟩ (.slice At t.length ct)) At t) := (hRt.set_ _ fun blk off h => (hft blk off h).1).set_ _ fun blk off h => (hft blk off h).2
        have HAa : Hid (Rw encA 1 ((w5.setCell ⟨g, o, none⟩ (.int .i64 x)).setCell ⟨gb, 0, none⟩ (.slice At t.length ct)) (some ⟨b1, off1, none⟩) (ptrs g offs)) := (HA5.set_ _ fun blk off h => (hfA.out blk off h).1).set_ _ fun blk off h => (hfA.out blk off h).2
        have Xa : Hid (Ext w0 ((w5.setCell ⟨g, o, none⟩ (.int .i64 x)).setCell ⟨gb, 0, none⟩ (.slice At t.length ct))) := (X5.setCell (p := ⟨g, o, none⟩) hg'.out _).setCell (p := ⟨gb, 0, none⟩) hgb'.out _
        have Ta : Hid (Two g gb w ((w5.setCell ⟨g, o, none⟩ (.int .i64 x)).setCell ⟨gb, 0, none⟩ (.slice At t.length ct))) := ((TW.out.ext x5).set1 _ _).set2 _ _
        have y3' : (w5.setCell ⟨g, o, none⟩ (.int .i64 x)).cell? ⟨gb, 0, none⟩ = some (.slice Ar r.length cr) := (bx_set_other HBX5 (Ne.symm hne.out) o (.int .i64 x)).cell 0 _ rfl
        have y4' : (w5.setCell ⟨g, o, none⟩ (.int .i64 x)).frozen? ⟨gb, 0, none⟩ = false := (bx_set_other HBX5 (Ne.symm hne.out) o (.int .i64 x)).frozen 0
        have hST : Hid (TkSt w0 w g gb cs T Ab (some ⟨b1, off1, none⟩) offs b (k + 1) ((w5.setCell ⟨g, o, none⟩ (.int .i64 x)).setCell ⟨gb, 0, none⟩ (.slice At t.length ct))) := ⟨Xa.out, Ta.out, l ++ [x], t, At, ct, hd2.out, HBa.out, HBXa.out, HRt.out, hct, hct2, HAa.out, .inr fun blk off h => Nat.le_trans hsz (hfr blk off h)⟩
        clear HB HBX HR HA X hd hd2 HB5 HBX5 HA5 X5 hlen hu HBs HBa HBXa HRt HAa Xa Ta TW hft hfr hRt hdr hxt htl hT ho1 hol
        go_wp2_with fail
        go_roundw
        case rel => exact ⟨k + 1, by omega, by go_num, hST.out⟩
        case measure => simp [intOf]; omega
    · obtain rfl : k = n := by omega
      go_wp2_with fail
      go_ret
      have e1 : offs.take k = offs := List.take_of_length_le (by rw [hn.out]; exact Nat.le_refl _)
      rw [e1] at HB
      refine ⟨X, TW, ?_⟩
      rw [← hn.out, hd]
      exact ⟨rfl, HB, Ar, cr, HBX, HR, hcr, hcr2, HNw⟩

set_option maxRecDepth 100000 in
set_option maxHeartbeats 2000000 in
theorem pTkC {w0 w : World} (hX : Ext w0 w) {g gb : Nat} (hg : w0.heap.size ≤ g) (hgb : w0.heap.size ≤ gb) (hne : g ≠ gb) {cs : List Value} {T : TypeId} (hB : Bx w g cs T) {Ab : Option Addr} {b : List UInt8} {cb : Nat} (hbx : Bx w gb [.slice Ab b.length cb] 29)
    (hb : Rb w Ab b) (hbl : b.length ≤ 100000000) (hc : b.length ≤ cb) (hc2 : cb ≤ maxLen) {A : Option Addr} {offs : List Nat} {n cap : Nat} (hA : Rw encA 1 w A (ptrs g offs)) (hn : n = offs.length) (hfA : Far2 g gb A) (ho : ∀ o ∈ offs, o < cs.length) (ho10 : offs.length ≤ 10) :
    Calls Try.prog 58 #[.slice A n cap, .pointer (some ⟨gb, 0, none⟩)] w (TkPost w0 w g gb cs T Ab offs b) := by
  have H : Hid (TkSt w0 w g gb cs T Ab A offs b 0 w)   := ⟨hX, Two.refl _ _ _, [], b, Ab, cb, rfl, by simpa [setN] using hB, hbx, hb, hc, hc2, hA, .inl ⟨rfl, rfl⟩⟩
  replace hn := Lib.hid hn; replace hfA := Lib.hid hfA; replace ho := Lib.hid ho; replace hne := Lib.hid hne
  have hg' := Lib.hid hg; have hgb' := Lib.hid hgb; have hbl' := Lib.hid hbl
  have hn10 : n ≤ 10 := by rw [hn.out]; exact ho10
  clear hX hB hbx hb hc hc2 hA ho10 hg hgb hbl
  go_enter Try.func58, Try.ntmps58
  go_wp2_with fail
  go_loopw [11] (fun i wr => ∃ k : Nat, k ≤ n ∧ i = .int .i64 k ∧ Hid (TkSt w0 w g gb cs T Ab A offs b k wr)) (fun i _ => n - (intOf i).toNat)
  case atStart => exact ⟨0, Nat.zero_le _, rfl, H.out⟩
  case round =>
    obtain ⟨k, hkn, rfl, ST⟩ := hrel
    obtain ⟨X, TW, l, r, Ar, cr, hd, HB, HBX, HR, hcr, hcr2, HA, HNw⟩ := ST.out
    by_cases hlt : k < n
    · have hlt2 : k < (ptrs g offs).length := by unfold ptrs; rw [List.length_map, ← hn.out]; exact hlt
      obtain ⟨b1, off1, p, hA1, hbB, hx, z0⟩ := Rd.atA HA (Ext.refl _) hlt2
      subst hA1
      obtain ⟨o, ho1, rfl⟩ : ∃ o, offs[k]? = some o ∧ p = ⟨g, o, none⟩ := by
        have := hx.out
        unfold ptrs at this
        rw [List.getElem?_map] at this
        cases h1 : offs[k]? with
        | none => rw [h1] at this; cases this
        | some o => rw [h1] at this; exact ⟨o, rfl, by simpa using this.symm⟩
      have hol := ho.out o (List.mem_of_getElem? ho1)
      have hrl : r.length ≤ b.length := by
        have := (decN_some hd).1
        rw [this, List.length_append]; omega
      have q3 : (k : Int) < (n : Int) := by omega
      have q4 : (0 : Int) ≤ (k : Int) := by omega
      have y0 := HBX.cell 0 _ rfl
      have hT := Lib.hid (pTake HR (Nat.le_trans hrl hbl'.out) cr hcr (by unfold maxLen at hcr2; omega))
      have hd1 := decN_append k 1 b
      rw [hd] at hd1
      have hd2 : decN (k + 1) b = match dec r with | none => none | some (x, t) => some (l ++ [x], t) := by
        rw [hd1]
        simp only [decN]
        cases dec r <;> rfl
      have ST2 := ST
      replace hd := Lib.hid hd; replace HB := Lib.hid HB; replace HBX := Lib.hid HBX; replace HR := Lib.hid HR; replace HA := Lib.hid HA; replace X := Lib.hid X; replace TW := Lib.hid TW
      replace hd2 := Lib.hid hd2; replace ho1 := Lib.hid ho1
      clear hd1 hx hlt2 ST ST2 H hcr hcr2 hrl HNw
      go_wp2_with fail
      refine hT.out.mono ?_
      rintro e w5 ⟨x5, hres⟩
      cases hdr : dec r with
      | none =>
        rw [hdr] at hres hd2
        simp only at hres
        subst hres
        have hnone : decN offs.length b = none := by
          have := decN_append (k + 1) (n - (k + 1)) b
          rw [hd2.out] at this
          rw [← hn.out, show n = k + 1 + (n - (k + 1)) by omega]
          exact this
        have X5 := Lib.hid (X.out.trans x5)
        have T5 := Lib.hid (TW.out.ext x5)
        clear hdr hT x5
        go_wp2_with fail
        go_ret
        refine ⟨X5.out, T5.out, ?_⟩
        rw [hnone]
        rfl
      | some q =>
        obtain ⟨x, t⟩ := q
        rw [hdr] at hres hd2
        simp only at hres
        obtain ⟨At, ct, rfl, hRt, hct, hct2, hfr⟩ := hres
        have hxt := (dec_some hdr).2
        have htl : t.length ≤ r.length := Nat.le_of_lt (dec_len hdr)
        have HB5 := HB.out.ext x5
        have HBX5 := HBX.out.ext x5
        have HA5 := HA.out.ext x5
        have X5 := X.out.trans x5
        have hlen : o < (setN (offs.take k) l cs).length := by rw [setN_len]; exact hol
        obtain ⟨u, hu⟩ : ∃ u, (setN (offs.take k) l cs)[o]? = some u := ⟨_, List.getElem?_eq_getElem hlen⟩
        have y1 := HB5.cell o u hu
        have y2 := HB5.frozen o
        have y3 := HBX5.cell 0 _ rfl
        have y4 := HBX5.frozen 0
        have hgl := HB.out.lt
        have hsz := TW.out.size
        have hgbl := HBX.out.lt
        have HBs := HB5.set_ o (.int .i64 x)
        have HBa : Hid (Bx ((w5.setCell ⟨g, o, none⟩ (.int .i64 x)).setCell ⟨gb, 0, none⟩ (.slice At t.length ct)) g (setN (offs.take (k + 1)) (l ++ [x]) cs) T) := by
          have hl : (offs.take k).length = l.length := by rw [(decN_some hd.out).2.1, List.length_take]; have := hn.out; omega
          rw [take_snoc ho1.out, setN_snoc _ _ _ _ _ hl]
          exact bx_set_other HBs hne.out _ _
        have HBXa : Hid (Bx ((w5.setCell ⟨g, o, none⟩ (.int .i64 x)).setCell ⟨gb, 0, none⟩ (.slice At t.length ct)) gb [.slice At t.length ct] 29) :=
          (bx_set_other HBX5 (Ne.symm hne.out) o (.int .i64 x)).set_ 0 (.slice At t.length ct)
        have hft : Far2 g gb At := fun blk off h => by have := hfr blk off h; exact ⟨by omega, by omega⟩
        have HRt : Hid (Rb ((w5.setCell ⟨g, o, none⟩ (.int .i64 x)).setCell ⟨gb, 0, none⟩ (.slice At t.length ct)) At t) := (hRt.set_ _ fun blk off h => (hft blk off h).1).set_ _ fun blk off h => (hft blk off h).2
        have HAa : Hid (Rw encA 1 ((w5.setCell ⟨g, o, none⟩ (.int .i64 x)).setCell ⟨gb, 0, none⟩ (.slice At t.length ct)) (some ⟨b1, off1, none⟩) (ptrs g offs)) := (HA5.set_ _ fun blk off h => (hfA.out blk off h).1).set_ _ fun blk off h => (hfA.out blk off h).2
        have Xa : Hid (Ext w0 ((w5.setCell ⟨g, o, none⟩ (.int .i64 x)).setCell ⟨gb, 0, none⟩ (.slice At t.length ct))) := (X5.setCell (p := ⟨g, o, none⟩) hg'.out _).setCell (p := ⟨gb, 0, none⟩) hgb'.out _
        have Ta : Hid (Two g gb w ((w5.setCell ⟨g, o, none⟩ (.int .i64 x)).setCell ⟨gb, 0, none⟩ (.slice At t.length ct))) := ((TW.out.ext x5).set1 _ _).set2 _ _
        have y3' : (w5.setCell ⟨g, o, none⟩ (.int .i64 x)).cell? ⟨gb, 0, none⟩ = some (.slice Ar r.length cr) := (bx_set_other HBX5 (Ne.symm hne.out) o (.int .i64 x)).cell 0 _ rfl
        have y4' : (w5.setCell ⟨g, o, none⟩ (.int .i64 x)).frozen? ⟨gb, 0, none⟩ = false := (bx_set_other HBX5 (Ne.symm hne.out) o (.int .i64 x)).frozen 0
        have hST : Hid (TkSt w0 w g gb cs T Ab (some ⟨b1, off1, none⟩) offs b (k + 1) ((w5.setCell ⟨g, o, none⟩ (.int .i64 x)).setCell ⟨gb, 0, none⟩ (.slice At t.length ct))) := ⟨Xa.out, Ta.out, l ++ [x], t, At, ct, hd2.out, HBa.out, HBXa.out, HRt.out, hct, hct2, HAa.out, .inr fun blk off h => Nat.le_trans hsz (hfr blk off h)⟩
        clear HB HBX HR HA X hd hd2 HB5 HBX5 HA5 X5 hlen hu HBs HBa HBXa HRt HAa Xa Ta TW hft hfr hRt hdr hxt htl hT ho1 hol
        go_wp2_with fail
        go_roundw
        case rel => exact ⟨k + 1, by omega, by go_num, hST.out⟩
        case measure => simp [intOf]; omega
    · obtain rfl : k = n := by omega
      go_wp2_with fail
      go_ret
      have e1 : offs.take k = offs := List.take_of_length_le (by rw [hn.out]; exact Nat.le_refl _)
      rw [e1] at HB
      refine ⟨X, TW, ?_⟩
      rw [← hn.out, hd]
      exact ⟨rfl, HB, Ar, cr, HBX, HR, hcr, hcr2, HNw⟩

end Go.Proofs.Ytmbjbbflhlndcaa
