/-
  Plain theory of parts: spans of categories, in order.
-/
import Derived.Test.YtnhmibfgaoealaaGreatDe
import Derived.Test.YtnhmibfgaoealaaGreatMl
namespace Go.Proofs.YtnhmibfgaoealaaGreat
set_option linter.unusedVariables false
set_option linter.unusedSimpArgs false

abbrev Pt := Sp.S × Int
def tag (c : Int) (l : List Sp.S) : List Pt := l.map fun s => (s, c)
def rawL (L : Int → List Sp.S) (cs : List Int) : List Pt := cs.flatMap fun c => tag c (L c)

theorem mem_raw {L : Int → List Sp.S} {cs : List Int} {x : Pt} : x ∈ rawL L cs ↔ x.2 ∈ cs ∧ x.1 ∈ L x.2 := by
  unfold rawL tag
  rw [List.mem_flatMap]
  constructor
  · rintro ⟨c, hc, hx⟩
    obtain ⟨s, hs, rfl⟩ := List.mem_map.1 hx
    exact ⟨hc, hs⟩
  · rintro ⟨h1, h2⟩
    exact ⟨x.2, h1, List.mem_map.2 ⟨x.1, h2, rfl⟩⟩

structure Cats (L : Int → List Sp.S) : Prop where
  plain : ∀ c, Sp.Plain (L c)
  apart : ∀ c c' t, c ≠ c' → Sp.hasB (L c) t = true → Sp.hasB (L c') t = true → False

theorem plain_pair {lo : Int} {l : List Sp.S} (h : Sp.PlainFrom lo l) : l.Pairwise fun a b => a.2 + 1 ≤ b.1 := by
  induction l generalizing lo with
  | nil => exact List.Pairwise.nil
  | cons s r ih =>
    rw [List.pairwise_cons]
    exact ⟨fun b hb => (h.2.2.2.bd b hb).1, ih h.2.2.2⟩

theorem Cats.keys {L : Int → List Sp.S} (h : Cats L) {cs : List Int} (hc : cs.Nodup) : (rawL L cs).Pairwise fun a b => a.1.1 ≠ b.1.1 := by
  induction cs with
  | nil => exact List.Pairwise.nil
  | cons c r ih =>
    rw [List.nodup_cons] at hc
    show (tag c (L c) ++ rawL L r).Pairwise _
    rw [List.pairwise_append]
    refine ⟨?_, ih hc.2, ?_⟩
    · unfold tag
      rw [List.pairwise_map]
      refine (plain_pair (h.plain c)).imp_of_mem fun {a b} ha _ hab => ?_
      have := (h.plain c).bd a ha
      simp only; omega
    · intro a ha b hb e
      obtain ⟨s, hs, rfl⟩ := List.mem_map.1 ha
      obtain ⟨hb1, hb2⟩ := mem_raw.1 hb
      have h1 := (h.plain c).bd s hs
      have h2 := (h.plain b.2).bd b.1 hb2
      simp only at e
      refine h.apart c b.2 s.1 (fun e => hc.1 (e ▸ hb1)) (Sp.hasB_iff.2 ⟨s, hs, by omega, by omega⟩) (Sp.hasB_iff.2 ⟨b.1, hb2, by omega, by omega⟩)

/-- Two lists in order of unlike keys are the same. -/
theorem sorted_uniq : ∀ {l m : List Pt}, l.Perm m → l.Pairwise (fun a b => a.1.1 ≤ b.1.1) → m.Pairwise (fun a b => a.1.1 ≤ b.1.1) → l.Pairwise (fun a b => a.1.1 ≠ b.1.1) → l = m
  | [], m, hp, _, _, _ => (List.Perm.nil_eq hp)
  | a :: l, [], hp, _, _, _ => absurd hp.length_eq (by simp)
  | a :: l, b :: m, hp, h1, h2, h3 => by
    rw [List.pairwise_cons] at h1 h2 h3
    have e : a = b := by
      have ha : a ∈ b :: m := hp.mem_iff.1 (by simp)
      have hb : b ∈ a :: l := hp.mem_iff.2 (by simp)
      rcases List.mem_cons.1 ha with e | ha
      · exact e
      · rcases List.mem_cons.1 hb with e | hb
        · exact e.symm
        · have k1 := h1.1 b hb
          have k2 := h2.1 a ha
          exact absurd (by omega : a.1.1 = b.1.1) (h3.1 b hb)
    subst e
    rw [sorted_uniq (List.Perm.cons_inv hp) h1.2 h2.2 h3.2]

def insP (o : List Pt) (x : Pt) : List Pt := o.takeWhile (fun y => decide (y.1.1 < x.1.1)) ++ x :: o.dropWhile (fun y => decide (y.1.1 < x.1.1))
def addP (o : List Pt) (l : List Pt) : List Pt := l.foldl insP o
theorem insP_perm (o : List Pt) (x : Pt) : (insP o x).Perm (o ++ [x]) := by
  unfold insP
  refine (List.perm_middle).trans ?_
  rw [List.takeWhile_append_dropWhile]
  exact (List.perm_append_singleton x o).symm
theorem addP_perm (l o : List Pt) : (addP o l).Perm (o ++ l) := by
  induction l generalizing o with
  | nil => unfold addP; simp
  | cons x r ih =>
    show (addP (insP o x) r).Perm _
    refine (ih _).trans ?_
    refine ((insP_perm o x).append_right r).trans ?_
    rw [List.append_assoc]; exact List.Perm.refl _
theorem insP_sorted {o : List Pt} (x : Pt) (h : o.Pairwise fun a b => a.1.1 ≤ b.1.1) : (insP o x).Pairwise fun a b => a.1.1 ≤ b.1.1 := by
  induction o with
  | nil => unfold insP; simp
  | cons y r ih =>
    rw [List.pairwise_cons] at h
    by_cases hy : y.1.1 < x.1.1
    · have e : insP (y :: r) x = y :: insP r x := by unfold insP; simp [List.takeWhile_cons, List.dropWhile_cons, hy]
      rw [e, List.pairwise_cons]
      refine ⟨fun b hb => ?_, ih h.2⟩
      have := (insP_perm r x).mem_iff.1 hb
      rcases List.mem_append.1 this with hb | hb
      · exact h.1 b hb
      · simp at hb; subst hb; omega
    · have e : insP (y :: r) x = x :: y :: r := by unfold insP; simp [List.takeWhile_cons, List.dropWhile_cons, hy]
      rw [e, List.pairwise_cons, List.pairwise_cons]
      refine ⟨fun b hb => ?_, h⟩
      rcases List.mem_cons.1 hb with rfl | hb
      · omega
      · have := h.1 b hb; omega
theorem addP_sorted (l : List Pt) {o : List Pt} (h : o.Pairwise fun a b => a.1.1 ≤ b.1.1) : (addP o l).Pairwise fun a b => a.1.1 ≤ b.1.1 := by
  induction l generalizing o with
  | nil => exact h
  | cons x r ih => exact ih (insP_sorted x h)

/-- What is in order, of each category. -/
def spansOf (m : List Pt) (c : Int) : List Sp.S := (m.filter fun x => x.2 == c).map (·.1)
theorem spansOf_tag (c c' : Int) (l : List Sp.S) : spansOf (tag c l) c' = if c = c' then l else [] := by
  unfold spansOf tag
  by_cases h : c = c'
  · subst h
    rw [if_pos rfl, List.filter_map, List.map_map]
    have : l.filter ((fun x : Pt => x.2 == c) ∘ fun s => (s, c)) = l := List.filter_eq_self.2 fun _ _ => by simp
    rw [this]
    have : ((fun x : Pt => x.1) ∘ fun s : Sp.S => (s, c)) = id := rfl
    rw [this, List.map_id]
  · rw [if_neg h, List.filter_map]
    have : l.filter ((fun x : Pt => x.2 == c') ∘ fun s => (s, c)) = [] := List.filter_eq_nil_iff.2 fun _ _ => by simp [h]
    rw [this]; rfl
theorem spansOf_append (m n : List Pt) (c : Int) : spansOf (m ++ n) c = spansOf m c ++ spansOf n c := by simp [spansOf]
theorem spansOf_raw (L : Int → List Sp.S) {cs : List Int} (hc : cs.Nodup) (c : Int) : spansOf (rawL L cs) c = if c ∈ cs then L c else [] := by
  induction cs with
  | nil => simp [rawL, spansOf]
  | cons x r ih =>
    rw [List.nodup_cons] at hc
    show spansOf (tag x (L x) ++ rawL L r) c = _
    rw [spansOf_append, spansOf_tag, ih hc.2]
    by_cases h : x = c
    · subst h
      simp [hc.1]
    · rw [if_neg h]
      have : (c ∈ x :: r) = (c ∈ r) := by simp; intro e; exact absurd e.symm h
      simp only [this, List.nil_append]
theorem spansOf_perm {m n : List Pt} (h : m.Perm n) (c : Int) : (spansOf m c).Perm (spansOf n c) := (h.filter _).map _
theorem spanSort {l m : List Sp.S} (hp : l.Perm m) (h1 : l.Pairwise fun a b => a.1 ≤ b.1) (h2 : Sp.Plain m) : l = m := by
  have e : tag 0 l = tag 0 m := by
    refine sorted_uniq (hp.map _) (by unfold tag; rw [List.pairwise_map]; exact h1) ?_ ?_
    · unfold tag; rw [List.pairwise_map]
      exact (plain_pair h2).imp_of_mem fun {a b} ha _ hab => by have := h2.bd a ha; simp only; omega
    · have hk : (tag 0 m).Pairwise (fun a b => a.1.1 ≠ b.1.1) := by
        unfold tag; rw [List.pairwise_map]
        exact (plain_pair h2).imp_of_mem fun {a b} ha _ hab => by have := h2.bd a ha; simp only; omega
      exact (hp.map (fun s : Sp.S => (s, (0 : Int)))).symm.pairwise hk (fun h => fun e => h e.symm)
  have := congrArg (List.map (·.1)) e
  unfold tag at this
  rw [List.map_map, List.map_map] at this
  have i : ((fun x : Pt => x.1) ∘ fun s : Sp.S => (s, (0 : Int))) = id := rfl
  rwa [i, List.map_id, List.map_id] at this
theorem spansOf_sorted {L : Int → List Sp.S} (h : Cats L) {cs : List Int} (hc : cs.Nodup) {m : List Pt} (hp : m.Perm (rawL L cs)) (hs : m.Pairwise fun a b => a.1.1 ≤ b.1.1) {c : Int} (hm : c ∈ cs) : spansOf m c = L c := by
  have h1 := spansOf_perm hp c
  rw [spansOf_raw L hc, if_pos hm] at h1
  refine spanSort h1 ?_ (h.plain c)
  unfold spansOf
  rw [List.pairwise_map]
  exact hs.filter _

/-- The categories of a week's parts. -/
def catL (P AA AB R O W F T : Int) (segs : List SegL) (week : Int) (c : Int) : List Sp.S :=
  if c = 0 then partS (allNot P AA AB segs) week 604800
  else if c = 1 then Sp.minus (overR (partS (allPaid P AA AB segs) week 604800) R W) (nightOf F T (overR (partS (allPaid P AA AB segs) week 604800) R W))
  else if c = 2 then Sp.minus (overO (partS (allPaid P AA AB segs) week 604800) R O W) (nightOf F T (overO (partS (allPaid P AA AB segs) week 604800) R O W))
  else if c = 3 then Sp.minus (overD (partS (allPaid P AA AB segs) week 604800) O) (nightOf F T (overD (partS (allPaid P AA AB segs) week 604800) O))
  else if c = 4 then nightOf F T (overR (partS (allPaid P AA AB segs) week 604800) R W)
  else if c = 5 then nightOf F T (overO (partS (allPaid P AA AB segs) week 604800) R O W)
  else if c = 6 then nightOf F T (overD (partS (allPaid P AA AB segs) week 604800) O)
  else []

theorem partWeek_sub {l : List Sp.S} {w t : Int} (h : Sp.hasB (partS l w 604800) t = true) : Sp.okT t = true ∧ Sp.hasB l t = true ∧ weekOf t = w := by
  rw [partWeek_has] at h
  simp only [Bool.and_eq_true, decide_eq_true_eq] at h
  exact ⟨h.1.1, h.1.2, h.2⟩
theorem minus_true {a b : List Sp.S} {t : Int} (h : Sp.hasB (Sp.minus a b) t = true) : Sp.hasB a t = true ∧ Sp.hasB b t = false := by
  rw [Sp.minus_has] at h
  simp only [Bool.and_eq_true, Bool.not_eq_true'] at h
  exact h.2
theorem night_true {F T : Int} (hn : okNT F T) {l : List Sp.S} {t : Int} (h : Sp.hasB (nightOf F T l) t = true) : Sp.okT t = true ∧ Sp.hasB l t = true ∧ isNight F T (t % 86400) = true := by
  rw [nightOf_has hn] at h
  simp only [Bool.and_eq_true] at h
  exact ⟨h.1.1, h.1.2, h.2⟩
theorem over_A {A : List Sp.S} {R O W t : Int} (h : Sp.hasB (overO A R O W) t = true) : Sp.okT t = true ∧ Sp.hasB A t = true ∧ rankD A t < O ∧ Sp.hasB (overR A R W) t = false := by
  rw [overO_has] at h
  simp only [Bool.and_eq_true, decide_eq_true_eq, Bool.not_eq_true'] at h
  exact ⟨h.1.1.1, h.1.1.2, h.1.2, h.2⟩
theorem double_A {A : List Sp.S} {O t : Int} (h : Sp.hasB (overD A O) t = true) : Sp.okT t = true ∧ Sp.hasB A t = true ∧ O ≤ rankD A t := by
  rw [overD_has] at h
  simp only [Bool.and_eq_true, decide_eq_true_eq] at h
  exact ⟨h.1.1, h.1.2, h.2⟩
theorem minus_night {F T : Int} (hn : okNT F T) {l : List Sp.S} {t : Int} (h : Sp.hasB (Sp.minus l (nightOf F T l)) t = true) : Sp.hasB l t = true ∧ isNight F T (t % 86400) = false := by
  have hk := Sp.okT_of_plain (Sp.minus_plain _ _) h
  obtain ⟨h1, h2⟩ := minus_true h
  rw [nightOf_has hn, hk, h1] at h2
  exact ⟨h1, by simpa using h2⟩

section
variable {P AA AB R O W F T : Int} {segs : List SegL} {week : Int}

/-- The category of a second. -/
def catAt (P AA AB R O W F T : Int) (segs : List SegL) (week t : Int) : Int :=
  if Sp.hasB (allNot P AA AB segs) t then 0
  else if Sp.hasB (overR (partS (allPaid P AA AB segs) week 604800) R W) t then (if isNight F T (t % 86400) then 4 else 1)
  else if Sp.hasB (overO (partS (allPaid P AA AB segs) week 604800) R O W) t then (if isNight F T (t % 86400) then 5 else 2)
  else (if isNight F T (t % 86400) then 6 else 3)

theorem paid_not {t : Int} (h : Sp.hasB (allPaid P AA AB segs) t = true) : Sp.hasB (allNot P AA AB segs) t = false := by
  rw [allPaid_has] at h
  simp only [Bool.and_eq_true, Bool.not_eq_true'] at h
  exact h.2

theorem catL_at (hn : okNT F T) (hRO : R ≤ O) {c t : Int} (h : Sp.hasB (catL P AA AB R O W F T segs week c) t = true) : c = catAt P AA AB R O W F T segs week t ∧ (0 ≤ c ∧ c ≤ 6) := by
  have hR : Sp.hasB (overR (partS (allPaid P AA AB segs) week 604800) R W) t = true → Sp.hasB (allNot P AA AB segs) t = false := fun h => paid_not (partWeek_sub (overR_sub h).2.1).2.1
  have hO : Sp.hasB (overO (partS (allPaid P AA AB segs) week 604800) R O W) t = true → Sp.hasB (allNot P AA AB segs) t = false ∧ Sp.hasB (overR (partS (allPaid P AA AB segs) week 604800) R W) t = false := fun h => ⟨paid_not (partWeek_sub (over_A h).2.1).2.1, (over_A h).2.2.2⟩
  have hD : Sp.hasB (overD (partS (allPaid P AA AB segs) week 604800) O) t = true → Sp.hasB (allNot P AA AB segs) t = false ∧ Sp.hasB (overR (partS (allPaid P AA AB segs) week 604800) R W) t = false ∧ Sp.hasB (overO (partS (allPaid P AA AB segs) week 604800) R O W) t = false := fun h => by
    have k := double_A h
    refine ⟨paid_not (partWeek_sub k.2.1).2.1, ?_, ?_⟩
    · cases hr : Sp.hasB (overR (partS (allPaid P AA AB segs) week 604800) R W) t
      · rfl
      · have := (overR_sub hr).2.2; omega
    · cases hr : Sp.hasB (overO (partS (allPaid P AA AB segs) week 604800) R O W) t
      · rfl
      · have := (over_A hr).2.2.1; omega
  unfold catL at h
  unfold catAt
  split at h
  · rename_i e
    rw [(partWeek_sub h).2.1]; simp [e]
  split at h
  · rename_i e
    obtain ⟨h1, h2⟩ := minus_night hn h
    rw [hR h1, h1, h2]; simp [e]
  split at h
  · rename_i e
    obtain ⟨h1, h2⟩ := minus_night hn h
    rw [(hO h1).1, (hO h1).2, h1, h2]; simp [e]
  split at h
  · rename_i e
    obtain ⟨h1, h2⟩ := minus_night hn h
    rw [(hD h1).1, (hD h1).2.1, (hD h1).2.2, h2]; simp [e]
  split at h
  · rename_i e
    obtain ⟨_, h1, h2⟩ := night_true hn h
    rw [hR h1, h1, h2]; simp [e]
  split at h
  · rename_i e
    obtain ⟨_, h1, h2⟩ := night_true hn h
    rw [(hO h1).1, (hO h1).2, h1, h2]; simp [e]
  split at h
  · rename_i e
    obtain ⟨_, h1, h2⟩ := night_true hn h
    rw [(hD h1).1, (hD h1).2.1, (hD h1).2.2, h2]; simp [e]
  · simp [Sp.hasB_nil] at h

theorem catL_plain (c : Int) : Sp.Plain (catL P AA AB R O W F T segs week c) := by
  unfold catL
  split
  · exact partS_plain _ _ _
  split
  · exact Sp.minus_plain _ _
  split
  · exact Sp.minus_plain _ _
  split
  · exact Sp.minus_plain _ _
  split
  · exact nightOf_plain _ _ _
  split
  · exact nightOf_plain _ _ _
  split
  · exact nightOf_plain _ _ _
  · trivial

theorem cats (hn : okNT F T) (hRO : R ≤ O) : Cats (catL P AA AB R O W F T segs week) where
  plain := catL_plain
  apart c c' t hne h1 h2 := hne ((catL_at hn hRO h1).1.trans (catL_at hn hRO h2).1.symm)

def catsO : List Int := [0, 1, 4, 2, 5, 3, 6]
def catsR : List Int := [0, 1, 2, 3, 4, 5, 6]
theorem catsO_nodup : catsO.Nodup := by decide
theorem catsR_nodup : catsR.Nodup := by decide
theorem cats_perm : catsO.Perm catsR := by decide

/-- The program's parts, in order, are the reference's. -/
theorem parts_ref {L : Int → List Sp.S} (h : Cats L) {m : List Pt} (hp : m.Perm (rawL L catsO)) (hs : m.Pairwise fun a b => a.1.1 ≤ b.1.1) :
    m = addP (addP (addP (addP (addP (addP (addP [] (tag 0 (L 0))) (tag 1 (L 1))) (tag 2 (L 2))) (tag 3 (L 3))) (tag 4 (L 4))) (tag 5 (L 5))) (tag 6 (L 6)) := by
  have e : ∀ a b o : List Pt, addP (addP o a) b = addP o (a ++ b) := fun a b o => by unfold addP; rw [List.foldl_append]
  rw [e, e, e, e, e, e]
  have er : tag 0 (L 0) ++ (tag 1 (L 1) ++ (tag 2 (L 2) ++ (tag 3 (L 3) ++ (tag 4 (L 4) ++ (tag 5 (L 5) ++ tag 6 (L 6)))))) = rawL L catsR := by simp [rawL, catsR]
  have hq : (addP [] (tag 0 (L 0) ++ (tag 1 (L 1) ++ (tag 2 (L 2) ++ (tag 3 (L 3) ++ (tag 4 (L 4) ++ (tag 5 (L 5) ++ tag 6 (L 6)))))))).Perm (rawL L catsR) := by
    rw [er]; exact (addP_perm _ _).trans (by simp)
  have hr : (rawL L catsO).Perm (rawL L catsR) := cats_perm.flatMap_right _
  refine sorted_uniq (hp.trans (hr.trans hq.symm)) hs (addP_sorted _ List.Pairwise.nil) ?_
  exact hp.symm.pairwise (h.keys catsO_nodup) fun h e => h e.symm

theorem raw_has {L : Int → List Sp.S} {cs : List Int} (t : Int) : Sp.hasB ((rawL L cs).map (·.1)) t = cs.any fun c => Sp.hasB (L c) t := by
  induction cs with
  | nil => rfl
  | cons c r ih =>
    show Sp.hasB ((tag c (L c) ++ rawL L r).map (·.1)) t = _
    rw [List.map_append, Sp.hasB_append, ih, List.any_cons]
    congr 1
    unfold tag
    rw [List.map_map]
    have : ((fun x : Pt => x.1) ∘ fun s : Sp.S => (s, c)) = id := rfl
    rw [this, List.map_id]

theorem minus_night_has (hn : okNT F T) (l : List Sp.S) (t : Int) : Sp.hasB (Sp.minus l (nightOf F T l)) t = (Sp.okT t && Sp.hasB l t && !isNight F T (t % 86400)) := by
  rw [Sp.minus_has, nightOf_has hn]
  cases Sp.okT t <;> cases Sp.hasB l t <;> cases isNight F T (t % 86400) <;> rfl

/-- All categories together are the clock's seconds of the week. -/
theorem cats_clock (hn : okNT F T) (hRO : R ≤ O) (t : Int) : catsO.any (fun c => Sp.hasB (catL P AA AB R O W F T segs week c) t) = Sp.hasB (partS (clockL segs) week 604800) t := by
  show (_ || (_ || (_ || (_ || (_ || (_ || (_ || false))))))) = _
  simp only [catL]
  simp only [show ¬ ((1 : Int) = 0) by omega, show ¬ ((2 : Int) = 0) by omega, show ¬ ((3 : Int) = 0) by omega, show ¬ ((4 : Int) = 0) by omega, show ¬ ((5 : Int) = 0) by omega, show ¬ ((6 : Int) = 0) by omega,
    show ¬ ((2 : Int) = 1) by omega, show ¬ ((3 : Int) = 1) by omega, show ¬ ((4 : Int) = 1) by omega, show ¬ ((5 : Int) = 1) by omega, show ¬ ((6 : Int) = 1) by omega,
    show ¬ ((3 : Int) = 2) by omega, show ¬ ((4 : Int) = 2) by omega, show ¬ ((5 : Int) = 2) by omega, show ¬ ((6 : Int) = 2) by omega,
    show ¬ ((4 : Int) = 3) by omega, show ¬ ((5 : Int) = 3) by omega, show ¬ ((6 : Int) = 3) by omega,
    show ¬ ((5 : Int) = 4) by omega, show ¬ ((6 : Int) = 4) by omega, show ¬ ((6 : Int) = 5) by omega, if_true, if_false]
  rw [minus_night_has hn, minus_night_has hn, minus_night_has hn, nightOf_has hn, nightOf_has hn, nightOf_has hn]
  have ho := overO_has (partS (allPaid P AA AB segs) week 604800) R O W t
  have hd := overD_has (partS (allPaid P AA AB segs) week 604800) O t
  have hr := @overR_sub (partS (allPaid P AA AB segs) week 604800) R W t
  rw [partWeek_has, partWeek_has]
  have hp := allPaid_has P AA AB segs t
  have hq : Sp.hasB (allNot P AA AB segs) t = true → Sp.hasB (clockL segs) t = true := fun h => by
    rw [allNot_has] at h; exact (dayNot_has h).2.1
  rw [partWeek_has, hp] at ho hd
  rw [ho, hd]
  have hr2 : Sp.hasB (overR (partS (allPaid P AA AB segs) week 604800) R W) t = true → weekOf t = week ∧ Sp.hasB (clockL segs) t = true ∧ Sp.hasB (allNot P AA AB segs) t = false ∧ rankD (partS (allPaid P AA AB segs) week 604800) t < O := fun h => by
    obtain ⟨a, b, c⟩ := hr h
    rw [partWeek_has, hp] at b
    simp only [Bool.and_eq_true, decide_eq_true_eq, Bool.not_eq_true'] at b
    exact ⟨b.2, b.1.2.1.2, b.1.2.2, by omega⟩
  cases hk : Sp.okT t
  · simp
  · cases hR : Sp.hasB (overR (partS (allPaid P AA AB segs) week 604800) R W) t
    · cases hN : Sp.hasB (allNot P AA AB segs) t
      · by_cases hw : weekOf t = week
        · by_cases hO : rankD (partS (allPaid P AA AB segs) week 604800) t < O
          · have : ¬ O ≤ rankD (partS (allPaid P AA AB segs) week 604800) t := by omega
            cases Sp.hasB (clockL segs) t <;> cases isNight F T (t % 86400) <;> simp [hw, hO, this]
          · have : O ≤ rankD (partS (allPaid P AA AB segs) week 604800) t := by omega
            cases Sp.hasB (clockL segs) t <;> cases isNight F T (t % 86400) <;> simp [hw, hO, this]
        · simp [hw]
      · rw [hq hN]
        by_cases hw : weekOf t = week
        · simp [hw]
        · simp [hw]
    · obtain ⟨a, b, c, d⟩ := hr2 hR
      rw [b, c]
      cases isNight F T (t % 86400) <;> simp [a]

theorem parts_norm (hn : okNT F T) (hRO : R ≤ O) {m : List Pt} (hp : m.Perm (rawL (catL P AA AB R O W F T segs week) catsO)) : Sp.norm (m.map (·.1)) = partS (clockL segs) week 604800 := by
  refine (Sp.norm_plain _).uniq (partS_plain _ _ _) fun t => ?_
  rw [Sp.norm_has, Sp.hasB_perm (hp.map _), raw_has, cats_clock hn hRO]
  cases hb : Sp.hasB (partS (clockL segs) week 604800) t
  · simp
  · rw [Sp.okT_of_plain (partS_plain _ _ _) hb]; rfl

theorem size_anyC {L : Int → List Sp.S} (h : Cats L) {cs : List Int} (hc : cs.Nodup) {l : List Sp.S} (hl : ∀ t, Sp.okT t = true → Sp.hasB l t = cs.any fun c => Sp.hasB (L c) t) : Sp.size l = (cs.map fun c => Sp.size (L c)).sum := by
  induction cs generalizing l with
  | nil =>
    have : Sp.norm l = Sp.norm [] := Sp.norm_congr fun t ht => by rw [hl t ht]; rfl
    unfold Sp.size; rw [this]; rfl
  | cons c r ih =>
    rw [List.nodup_cons] at hc
    rw [List.map_cons, List.sum_cons, ← ih hc.2 (l := r.flatMap L) fun t _ => hasB_flatMap L r t]
    refine size_add (fun t ht => by rw [hl t ht, List.any_cons, hasB_flatMap]) fun t ht => ?_
    cases h1 : Sp.hasB (L c) t
    · rfl
    · rw [hasB_flatMap, Bool.true_and, List.any_eq_false]
      intro x hx h2
      exact h.apart c x t (fun e => hc.1 (e ▸ hx)) h1 h2
theorem cats_size (hn : okNT F T) (hRO : R ≤ O) : Sp.size (partS (clockL segs) week 604800) = (catsO.map fun c => Sp.size (catL P AA AB R O W F T segs week c)).sum :=
  size_anyC (cats hn hRO) catsO_nodup fun t _ => (cats_clock hn hRO t).symm
theorem night_size (hn : okNT F T) (hRO : R ≤ O) : Sp.size (nightOf F T (partS (allPaid P AA AB segs) week 604800)) = ([4, 5, 6].map fun c => Sp.size (catL P AA AB R O W F T segs week c)).sum := by
  refine size_anyC (cats hn hRO) (by decide) fun t ht => ?_
  show _ = (_ || (_ || (_ || false)))
  simp only [catL]
  simp only [show ¬ ((4 : Int) = 0) by omega, show ¬ ((5 : Int) = 0) by omega, show ¬ ((6 : Int) = 0) by omega, show ¬ ((4 : Int) = 1) by omega, show ¬ ((5 : Int) = 1) by omega, show ¬ ((6 : Int) = 1) by omega,
    show ¬ ((4 : Int) = 2) by omega, show ¬ ((5 : Int) = 2) by omega, show ¬ ((6 : Int) = 2) by omega,
    show ¬ ((4 : Int) = 3) by omega, show ¬ ((5 : Int) = 3) by omega, show ¬ ((6 : Int) = 3) by omega,
    show ¬ ((5 : Int) = 4) by omega, show ¬ ((6 : Int) = 4) by omega, show ¬ ((6 : Int) = 5) by omega, if_true, if_false]
  rw [nightOf_has hn, nightOf_has hn, nightOf_has hn, nightOf_has hn, overO_has, overD_has, ht]
  have hr := @overR_sub (partS (allPaid P AA AB segs) week 604800) R W t
  cases hR : Sp.hasB (overR (partS (allPaid P AA AB segs) week 604800) R W) t
  · by_cases hO : rankD (partS (allPaid P AA AB segs) week 604800) t < O
    · have : ¬ O ≤ rankD (partS (allPaid P AA AB segs) week 604800) t := by omega
      cases isNight F T (t % 86400) <;> simp [hO, this]
    · have : O ≤ rankD (partS (allPaid P AA AB segs) week 604800) t := by omega
      cases isNight F T (t % 86400) <;> simp [hO, this]
  · rw [(hr hR).2.1]
    cases isNight F T (t % 86400) <;> simp
end

theorem day_night {F T : Int} (hn : okNT F T) {l : List Sp.S} (hl : Sp.Plain l) : Sp.norm (Sp.minus l (nightOf F T l) ++ nightOf F T l) = l := by
  refine (Sp.norm_plain _).uniq hl fun t => ?_
  rw [Sp.norm_has, Sp.hasB_append, minus_night_has hn, nightOf_has hn]
  cases hb : Sp.hasB l t
  · simp
  · rw [Sp.okT_of_plain hl hb]; cases isNight F T (t % 86400) <;> rfl
theorem ref_day {F T : Int} (hn : okNT F T) {l A : List Sp.S} (h : ∀ t, Sp.hasB l t = true → Sp.hasB A t = true) : Sp.minus l (nightOf F T A) = Sp.minus l (nightOf F T l) ∧ Sp.and_ l (nightOf F T A) = nightOf F T l := by
  constructor
  · refine (Sp.minus_plain _ _).uniq (Sp.minus_plain _ _) fun t => ?_
    rw [Sp.minus_has, Sp.minus_has, nightOf_has hn, nightOf_has hn]
    cases hb : Sp.hasB l t
    · simp
    · rw [h t hb]
  · refine (Sp.and_plain _ _).uniq (nightOf_plain _ _ _) fun t => ?_
    rw [Sp.and_has, nightOf_has hn, nightOf_has hn]
    cases hb : Sp.hasB l t
    · simp
    · rw [h t hb]; cases Sp.okT t <;> rfl

/-- A week does not hang on others. -/
theorem clock_some_week (l : List SegL) (w : Int) : clockL (someSegs w 604800 l) = partS (clockL l) w 604800 := by
  refine (clock_plain _).uniq (partS_plain _ _ _) fun t => ?_
  rw [clock_has, partWeek_has, clock_has]
  cases hk : Sp.okT t
  · rfl
  · have := some_any_week l (d := w) hk (fun _ => true) (fun _ => rfl)
    rw [filter_true, filter_true] at this
    rw [this]; simp
theorem only_some_week (l : List SegL) (w k : Int) : onlyL (someSegs w 604800 l) k = partS (onlyL l k) w 604800 := by
  unfold onlyL
  refine (clock_plain _).uniq (partS_plain _ _ _) fun t => ?_
  rw [clock_has, partWeek_has, clock_has]
  cases hk : Sp.okT t
  · rfl
  · rw [some_any_week l (d := w) hk (fun s => s.kind == k) (fun _ => rfl)]; simp
theorem unpaid_nil (P AA AB : Int) : unpaidL P AA AB [] [] = [] := by
  refine (unpaid_plain _ _ _ _ _).uniq Sp.plain_nil fun t => ?_
  cases hb : Sp.hasB (unpaidL P AA AB [] []) t
  · rfl
  · exact (unpaid_sub (fun _ h => h) hb).symm
theorem part_far (l : List Sp.S) {w d : Int} (h : d / 7 ≠ w) : partS (partS l w 604800) d 86400 = [] := by
  refine (partS_plain _ _ _).uniq Sp.plain_nil fun t => ?_
  rw [partDay_has, partWeek_has]
  cases hk : Sp.okT t
  · rfl
  · rw [(day_div hk).1, (week_div hk).1]
    refine bool_eq ?_
    simp [Sp.hasB_nil]; omega
theorem dayNot_some_week (P AA AB : Int) (l : List SegL) (w d : Int) : dayNot P AA AB (someSegs w 604800 l) d = if d / 7 = w then dayNot P AA AB l d else [] := by
  unfold dayNot
  rw [clock_some_week, only_some_week]
  split
  · rw [part_part _ (by omega) (by omega), part_part _ (by omega) (by omega)]
  · rename_i h
    rw [part_far _ h, part_far _ h, unpaid_nil]
theorem allNot_some_week (P AA AB : Int) (l : List SegL) (w : Int) : allNot P AA AB (someSegs w 604800 l) = partS (allNot P AA AB l) w 604800 := by
  refine (allNot_plain _ _ _ _).uniq (partS_plain _ _ _) fun t => ?_
  rw [partWeek_has, allNot_has, allNot_has, dayNot_some_week]
  cases hk : Sp.okT t
  · split
    · cases hb : Sp.hasB (dayNot P AA AB l (dayOf t)) t
      · rfl
      · rw [(dayNot_has hb).1] at hk; cases hk
    · rfl
  · rw [(day_div hk).1, (week_div hk).1]
    by_cases h : t / 86400 / 7 = w
    · rw [if_pos h]
      have : t / 604800 = w := by omega
      simp [this]
    · rw [if_neg h]
      have : ¬ t / 604800 = w := by omega
      simp [this, Sp.hasB_nil]
theorem allPaid_some_week (P AA AB : Int) (l : List SegL) (w : Int) : allPaid P AA AB (someSegs w 604800 l) = partS (allPaid P AA AB l) w 604800 := by
  refine (allPaid_plain _ _ _ _).uniq (partS_plain _ _ _) fun t => ?_
  rw [allPaid_has, allNot_some_week, partWeek_has, partWeek_has, allPaid_has, clock_some_week, partWeek_has]
  cases Sp.okT t <;> cases Sp.hasB (clockL l) t <;> cases Sp.hasB (allNot P AA AB l) t <;> simp
theorem part_other (l : List Sp.S) {w v : Int} (h : w ≠ v) : partS (partS l w 604800) v 604800 = [] := by
  refine (partS_plain _ _ _).uniq Sp.plain_nil fun t => ?_
  rw [partWeek_has, partWeek_has]
  refine bool_eq ?_
  simp [Sp.hasB_nil]; omega
theorem catL_some (P AA AB R O W F T : Int) (l : List SegL) (w c : Int) : catL P AA AB R O W F T (someSegs w 604800 l) w c = catL P AA AB R O W F T l w c := by
  unfold catL
  rw [allNot_some_week, allPaid_some_week, part_again, part_again]
theorem over_nil (R O W : Int) : overR [] R W = [] ∧ overO [] R O W = [] ∧ overD [] O = [] := by
  refine ⟨(overR_plain _ _ _).uniq Sp.plain_nil fun t => ?_, (overO_plain _ _ _ _).uniq Sp.plain_nil fun t => ?_, (overD_plain _ _).uniq Sp.plain_nil fun t => ?_⟩
  · cases hb : Sp.hasB (overR [] R W) t
    · rfl
    · exact (overR_sub hb).2.1.symm
  · cases hb : Sp.hasB (overO [] R O W) t
    · rfl
    · exact (over_A hb).2.1.symm
  · cases hb : Sp.hasB (overD [] O) t
    · rfl
    · exact (double_A hb).2.1.symm
theorem night_nil (F T : Int) : nightOf F T [] = [] := by
  refine (nightOf_plain _ _ _).uniq Sp.plain_nil fun t => ?_
  unfold nightOf
  rw [Sp.and_has]; simp [Sp.hasB_nil]
theorem minus_nil (b : List Sp.S) : Sp.minus [] b = [] := by
  refine (Sp.minus_plain _ _).uniq Sp.plain_nil fun t => ?_
  rw [Sp.minus_has]; simp [Sp.hasB_nil]
theorem catL_other (P AA AB R O W F T : Int) (l : List SegL) (w c : Int) : catL P AA AB R O W F T (someSegs w 604800 l) (w + 1) c = [] := by
  unfold catL
  rw [allNot_some_week, allPaid_some_week, part_other _ (by omega), part_other _ (by omega), (over_nil R O W).1, (over_nil R O W).2.1, (over_nil R O W).2.2, night_nil, minus_nil]
  simp
end Go.Proofs.YtnhmibfgaoealaaGreat
