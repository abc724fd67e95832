/-
  event.Sort.
-/
import Derived.Test.YtmbjbbflhlndcaaLo2
namespace Go.Proofs.Ytmbjbbflhlndcaa
open Go.RowKit BigFrame Go.Sort
set_option linter.unusedVariables false
set_option linter.unusedSimpArgs false

/-- Where an event goes in a row in order. -/
def cutE (x : Ev) (T : List Ev) : Nat → Nat
  | 0 => 0
  | k + 1 => match T[k]? with
    | some y => if lessE x y then cutE x T k else k + 1
    | none => k + 1
def putE (T : List Ev) (x : Ev) : List Ev := T.take (cutE x T T.length) ++ (x :: T.drop (cutE x T T.length))
def sortE (L : List Ev) : List Ev := L.foldl putE []
theorem cutE_le (x : Ev) (T : List Ev) (k : Nat) : cutE x T k ≤ k := by
  induction k with
  | zero => exact Nat.le_refl _
  | succ k ih =>
    unfold cutE
    split
    · split <;> omega
    · omega
theorem cutE_spec (x : Ev) (T : List Ev) (k : Nat) : (∀ t y, cutE x T k ≤ t → t < k → T[t]? = some y → lessE x y = true) ∧ (∀ c y, cutE x T k = c + 1 → c + 1 ≤ T.length → T[c]? = some y → lessE x y = false) := by
  induction k with
  | zero => exact ⟨fun t y h1 h2 => by omega, fun c y h => by simp [cutE] at h⟩
  | succ k ih =>
    unfold cutE
    cases hk : T[k]? with
    | none => exact ⟨fun t y h1 h2 => by simp only at h1; omega, fun c y h h2 h3 => by
        simp only at h
        have : k = c := by omega
        subst this
        rw [hk] at h3; cases h3⟩
    | some z =>
      simp only
      cases hz : lessE x z with
      | true =>
        rw [if_pos rfl]
        refine ⟨fun t y h1 h2 h3 => ?_, ih.2⟩
        by_cases h4 : t < k
        · exact ih.1 t y h1 h4 h3
        · have : t = k := by omega
          subst this
          rw [hk] at h3; cases h3; exact hz
      | false =>
        rw [if_neg (by simp)]
        refine ⟨fun t y h1 h2 => by omega, fun c y h h2 h3 => ?_⟩
        have : k = c := by omega
        subst this
        rw [hk] at h3; cases h3; exact hz
theorem putE_len (T : List Ev) (x : Ev) : (putE T x).length = T.length + 1 := by
  unfold putE
  have := cutE_le x T T.length
  rw [List.length_append, List.length_cons, List.length_take, List.length_drop]; omega
theorem putE_ok {T : List Ev} (x : Ev) (hT : Stb.Sorted lessE T) : Stb.Sorted lessE (putE T x) ∧ Stb.Stab lessE (T ++ [x]) (putE T x) := by
  obtain ⟨h1, h2⟩ := cutE_spec x T T.length
  have hle := cutE_le x T T.length
  unfold putE
  obtain ⟨c, hc⟩ : ∃ c, cutE x T T.length = c := ⟨_, rfl⟩
  rw [hc] at h1 h2 hle ⊢
  refine put_in (T0 := T) (List.take_append_drop _ _) hT (fun t ht => ?_) (fun l hl => ?_)
  · obtain ⟨s, hs, rfl⟩ := List.mem_iff_getElem.1 ht
    rw [List.length_drop] at hs
    exact h1 (c + s) _ (by omega) (by omega) (by rw [List.getElem_drop]; exact List.getElem?_eq_getElem _)
  · cases c with
    | zero => simp at hl
    | succ c =>
      refine h2 c l rfl hle ?_
      rw [List.getLast?_eq_getElem?, List.length_take, Nat.min_eq_left hle, List.getElem?_take_of_lt (by omega)] at hl
      simpa using hl
theorem foldE {L : List Ev} : ∀ {T T0 : List Ev}, Stb.Sorted lessE T → Stb.Stab lessE T0 T → Stb.Sorted lessE (L.foldl putE T) ∧ Stb.Stab lessE (T0 ++ L) (L.foldl putE T) ∧ (L.foldl putE T).length = T.length + L.length := by
  induction L with
  | nil => intro T T0 h1 h2; exact ⟨h1, by simpa using h2, rfl⟩
  | cons x L ih =>
    intro T T0 h1 h2
    obtain ⟨p1, p2⟩ := putE_ok x h1
    have := ih (T := putE T x) (T0 := T0 ++ [x]) p1 ((h2.app (Stb.Stab.refl [x])).trans p2)
    rw [putE_len] at this
    refine ⟨this.1, by simpa using this.2.1, by rw [List.foldl_cons, this.2.2, List.length_cons]; omega⟩
theorem sortE_sorted (L : List Ev) : Stb.Sorted lessE (sortE L) := (foldE (L := L) (T := []) (T0 := []) .nil (Stb.Stab.refl _)).1
theorem sortE_stab (L : List Ev) : Stb.Stab lessE L (sortE L) := by unfold sortE; simpa using (foldE (L := L) (T := []) (T0 := []) .nil (Stb.Stab.refl _)).2.1
theorem sortE_len (L : List Ev) : (sortE L).length = L.length := by unfold sortE; simpa using (foldE (L := L) (T := []) (T0 := []) .nil (Stb.Stab.refl _)).2.2
theorem sortE_is {L T : List Ev} (h : Stb.Sorted lessE T) (k : Stb.Stab lessE L T) : T = sortE L := Stb.unique ordE h (sortE_sorted L) (k.symm.trans (sortE_stab L))
theorem sortE_sort (L : List Ev) : sortE (sortE L) = sortE L := (sortE_is (sortE_sorted L) (Stb.Stab.refl _)).symm
theorem sortE_mem {L : List Ev} {x : Ev} : x ∈ sortE L ↔ x ∈ L := ((sortE_stab L).mem ordE).symm

abbrev Re := Rw encV 11
abbrev RetEs := RetL encV 11 23

set_option maxRecDepth 100000 in
/-- slices.Clone of events. -/
theorem pCloneE {w : World} {A : Option Addr} {l : List Ev} (h : Re w A l) (hl : l.length ≤ 1000000) (c : Nat) : Calls Try.prog 72 #[.slice A l.length c] w (RetEs w l) := by
  rcases A with _ | ad
  · have h0 := h.none_nil
    subst h0
    have hr := fun W => Lib.run_eql_slice_nil (P := Try.prog) W 63 23 none 0 c 0 0 Try.underlying63
    go_enter Try.func72, Try.ntmps72
    go_wp2
    go_ret
    exact ⟨none, 0, rfl, Rw.nil, Ext.refl _, own_nilG _ _⟩
  · have H := Lib.hid h
    have hr := fun W => Lib.run_eql_slice_nil (P := Try.prog) W 63 23 (some ad) l.length c 0 0 Try.underlying63
    go_enter Try.func72, Try.ntmps72
    clear h
    go_wp2_with (at_builtin; refine appG elV w _ ((Ext.refl w).alloc _) _ _ (by rfl) (by rfl) 0 _ [] l (by rfl) (own_emptyG w _ (Nat.le_refl _)) rfl (some ad) c l.length (by rfl) rfl (H.out.alloc _) (by simp; omega) ?_; intro A' c' w' o' x')
    rw [Nat.zero_add] at o'
    go_ret
    exact ⟨A', c', rfl, Rw.own elV o', x', o'⟩
set_option maxRecDepth 100000 in
theorem insertion_none (w : World) (f : Value) :
    Calls Try.prog 103 #[.slice none 0 0, .int .i64 0, .int .i64 0, f] w fun e w' => e = .returned (.tuple #[]) ∧ w' = w := by
  go_enter Try.func103, Try.ntmps103
  go_wp2_with fail
  go_loopw [8] (fun vi wr => vi = .int .i64 1 ∧ wr = w) (fun vi _ => 0)
  case atStart => exact ⟨rfl, rfl⟩
  case round =>
    obtain ⟨rfl, rfl⟩ := hrel
    go_wp2_with fail
    go_end0
    exact ⟨rfl, rfl⟩
set_option maxRecDepth 100000 in
theorem stable_none (w : World) (f : Value) :
    Calls Try.prog 91 #[.slice none 0 0, .int .i64 0, f] w fun e w' => e = .returned (.tuple #[]) ∧ w' = w := by
  go_enter Try.func91, Try.ntmps91
  go_wp2_with fail
  go_loopw [7, 8] (fun va vb wr => va = .int .i64 0 ∧ vb = .int .i64 20 ∧ wr = w) (fun _ _ _ => 0)
  case atStart => exact ⟨rfl, rfl, rfl⟩
  case round =>
    obtain ⟨rfl, rfl, rfl⟩ := hrel
    go_wp2_with fail
    refine (insertion_none _ _).mono ?_
    rintro e w' ⟨rfl, rfl⟩
    go_wp2_with fail
    go_loopw [6] (fun vs wr => vs = .int .i64 20 ∧ wr = w') (fun _ _ => 0)
    case atStart => exact ⟨rfl, rfl⟩
    case round =>
      obtain ⟨rfl, rfl⟩ := hrel
      go_wp2_with fail
      go_end0
      exact ⟨rfl, rfl⟩
/-- slices.SortStableFunc of a row of the call's own. -/
theorem pSortStable {w0 w : World} {A : Option Addr} {cap n : Nat} {L : List Ev} (hX : Ext w0 w) (h : w.ownsRow w0.heap.size 23 11 (.slice A n cap) n (flat encV L)) (hn : L.length = n) (hl : n ≤ 1000000) :
    Calls Try.prog 73 #[.slice A n cap, .func (.func 71) #[] #[]] w fun e w' => e = .returned (.tuple #[]) ∧ w'.ownsRow w0.heap.size 23 11 (.slice A n cap) n (flat encV (sortE L)) ∧ Ext w0 w' := by
  have K : Calls Try.prog 91 #[.slice A n cap, .int .i64 n, .func (.func 71) #[] #[]] w fun e w' => e = .returned (.tuple #[]) ∧ w'.ownsRow w0.heap.size 23 11 (.slice A n cap) n (flat encV (sortE L)) ∧ Ext w0 w' := by
    rcases h.2 with ⟨hv, hn0⟩ | ⟨g', cap', cur, hv, hg, hh, h1, h2, h3, h4⟩
    · cases hv
      have : L = [] := List.eq_nil_of_length_eq_zero (by omega)
      subst this
      refine (stable_none w _).mono ?_
      rintro e w' ⟨rfl, rfl⟩
      exact ⟨rfl, own_nilG _ _, hX⟩
    · cases hv
      subst hn
      refine (pStable (w0 := w0) (w := w) (g := g') (cap := cap) (L := L) ⟨h, hX⟩ L.length rfl hl).mono ?_
      rintro e w' ⟨rfl, T, ho, t1, t2, t3⟩
      have e := sortE_is t2 t3
      subst e
      have := ho.1
      rw [t1] at this
      exact ⟨rfl, this, ho.2⟩
  replace K := Lib.hid K
  clear h hX hn
  go_enter Try.func73, Try.ntmps73
  go_wp2_with fail
  refine K.out.mono ?_
  rintro e w' ⟨rfl, k1, k2⟩
  replace k1 := Lib.hid k1; replace k2 := Lib.hid k2
  go_wp2_with fail
  go_end0
  exact ⟨rfl, k1.out, k2.out⟩
/-- event.Sort. -/
theorem pSort {w : World} {A : Option Addr} {l : List Ev} (h : Re w A l) (hl : l.length ≤ 1000000) (c : Nat) : Calls Try.prog 41 #[.slice A l.length c] w (RetEs w (sortE l)) := by
  have K := Lib.hid (pCloneE h hl c)
  clear h
  go_enter Try.func41, Try.ntmps41
  go_wp2_with fail
  refine K.out.mono ?_
  rintro e w' ⟨A', c', rfl, h1, h2, h3⟩
  have K2 := Lib.hid (pSortStable h2 h3 rfl hl)
  clear h1 h2 h3 K
  go_wp2_with fail
  refine K2.out.mono ?_
  rintro e w2 ⟨rfl, k1, k2⟩
  replace k1 := Lib.hid k1; replace k2 := Lib.hid k2
  clear K2
  go_wp2_with fail
  go_ret
  have k := k1.out
  have e1 : (sortE l).length = l.length := sortE_len l
  rw [← e1] at k
  exact ⟨A', c', by rw [e1]; rfl, Rw.own elV k, k2.out, k⟩
end Go.Proofs.Ytmbjbbflhlndcaa
