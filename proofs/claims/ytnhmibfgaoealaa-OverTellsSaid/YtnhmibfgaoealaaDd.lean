/-
  Plain theory of breaks.
-/
import Derived.Test.YtnhmibfgaoealaaDc
namespace Go.Proofs.Ytnhmibfgaoealaa
set_option linter.unusedVariables false
set_option linter.unusedSimpArgs false

structure SegL where
  from_ : Int
  to : Int
  kind : Int
  id : Int
  code : Int

def SegL.span (s : SegL) : Sp.S := (s.from_, s.to)
def clockL (l : List SegL) : List Sp.S := Sp.norm (l.map SegL.span)
def onlyL (l : List SegL) (k : Int) : List Sp.S := clockL (l.filter fun s => s.kind == k)

/-- What of a day is not paid. -/
def unpaidL (P AA AB : Int) (clock rests : List Sp.S) : List Sp.S :=
  Sp.norm (Sp.minus rests (Sp.first rests P) ++ if AA ≤ Sp.size clock ∧ Sp.size rests < AB then Sp.last (Sp.minus clock rests) (AB - Sp.size rests) else [])
def dayNot (P AA AB : Int) (l : List SegL) (d : Int) : List Sp.S := unpaidL P AA AB (partS (clockL l) d 86400) (partS (onlyL l 3) d 86400)
def dayPaid (P AA AB : Int) (l : List SegL) (d : Int) : List Sp.S := Sp.minus (partS (clockL l) d 86400) (dayNot P AA AB l d)
def allPaid (P AA AB : Int) (l : List SegL) : List Sp.S := Sp.norm ((daysL (Sp.norm (clockL l))).flatMap fun d => dayPaid P AA AB l d)
def allNot (P AA AB : Int) (l : List SegL) : List Sp.S := Sp.norm ((daysL (Sp.norm (clockL l))).flatMap fun d => dayNot P AA AB l d)

theorem clock_has (l : List SegL) (t : Int) : Sp.hasB (clockL l) t = (Sp.okT t && l.any fun s => Sp.inB s.span t) := by
  unfold clockL; rw [Sp.norm_has]; simp [Sp.hasB, List.any_map, Function.comp_def]
theorem only_sub {l : List SegL} {k t : Int} (h : Sp.hasB (onlyL l k) t = true) : Sp.hasB (clockL l) t = true := by
  unfold onlyL at h
  rw [clock_has, Bool.and_eq_true, List.any_eq_true] at h ⊢
  obtain ⟨a, s, hs, b⟩ := h
  exact ⟨a, s, (List.mem_filter.1 hs).1, b⟩
theorem clock_plain (l : List SegL) : Sp.Plain (clockL l) := Sp.norm_plain _
theorem only_plain (l : List SegL) (k : Int) : Sp.Plain (onlyL l k) := Sp.norm_plain _
theorem part_sub {a b : List Sp.S} (h : ∀ t, Sp.hasB b t = true → Sp.hasB a t = true) {d t : Int} (hb : Sp.hasB (partS b d 86400) t = true) : Sp.hasB (partS a d 86400) t = true := by
  rw [partDay_has] at hb ⊢
  simp only [Bool.and_eq_true] at hb ⊢
  exact ⟨⟨hb.1.1, h t hb.1.2⟩, hb.2⟩

theorem unpaid_plain (P AA AB : Int) (c r : List Sp.S) : Sp.Plain (unpaidL P AA AB c r) := Sp.norm_plain _
theorem unpaid_sub {P AA AB : Int} {c r : List Sp.S} (h : ∀ t, Sp.hasB r t = true → Sp.hasB c t = true) {t : Int} (hb : Sp.hasB (unpaidL P AA AB c r) t = true) : Sp.hasB c t = true := by
  unfold unpaidL at hb
  rw [Sp.norm_has, Sp.hasB_append, Sp.minus_has] at hb
  simp only [Bool.and_eq_true, Bool.or_eq_true] at hb
  rcases hb.2 with ⟨_, a, _⟩ | a
  · exact h t a
  · split at a
    · rw [Sp.last_has, Sp.norm_has, Sp.minus_has] at a
      simp only [Bool.and_eq_true] at a
      exact a.1.2.2.1
    · simp [Sp.hasB] at a
theorem dayNot_sub {P AA AB : Int} {l : List SegL} {d t : Int} (h : Sp.hasB (dayNot P AA AB l d) t = true) : Sp.hasB (partS (clockL l) d 86400) t = true :=
  unpaid_sub (fun _ hb => part_sub (fun _ h => only_sub h) hb) h

/-- The reference's day is the program's. -/
theorem ref_not {P AA AB : Int} {c r : List Sp.S} (hc : Sp.Plain c) (h : ∀ t, Sp.hasB r t = true → Sp.hasB c t = true) :
    Sp.minus c (Sp.minus (Sp.minus c (Sp.minus r (Sp.first r P))) (if AA ≤ Sp.size c ∧ Sp.size r < AB then Sp.last (Sp.minus c r) (AB - Sp.size r) else [])) = unpaidL P AA AB c r := by
  refine (Sp.minus_plain _ _).uniq (unpaid_plain _ _ _ _ _) fun t => ?_
  have hs := @unpaid_sub P AA AB c r h t
  unfold unpaidL at hs ⊢
  rw [Sp.norm_has, Sp.hasB_append] at hs ⊢
  rw [Sp.minus_has, Sp.minus_has, Sp.minus_has]
  generalize Sp.hasB (if AA ≤ Sp.size c ∧ Sp.size r < AB then Sp.last (Sp.minus c r) (AB - Sp.size r) else []) t = x at *
  generalize Sp.hasB (Sp.minus r (Sp.first r P)) t = y at *
  cases hk : Sp.okT t
  · rfl
  · rw [hk] at hs
    generalize Sp.hasB c t = z at *
    revert hs
    cases x <;> cases y <;> cases z <;> simp
theorem ref_paid {P AA AB : Int} {c r : List Sp.S} :
    Sp.minus (Sp.minus c (Sp.minus r (Sp.first r P))) (if AA ≤ Sp.size c ∧ Sp.size r < AB then Sp.last (Sp.minus c r) (AB - Sp.size r) else []) = Sp.minus c (unpaidL P AA AB c r) := by
  refine (Sp.minus_plain _ _).uniq (Sp.minus_plain _ _) fun t => ?_
  unfold unpaidL
  rw [Sp.minus_has, Sp.minus_has, Sp.minus_has _ (Sp.norm _), Sp.norm_has, Sp.hasB_append]
  generalize Sp.hasB (if AA ≤ Sp.size c ∧ Sp.size r < AB then Sp.last (Sp.minus c r) (AB - Sp.size r) else []) t = x
  generalize Sp.hasB (Sp.minus r (Sp.first r P)) t = y
  cases Sp.okT t <;> cases x <;> cases y <;> simp

theorem dayPaid_plain (P AA AB : Int) (l : List SegL) (d : Int) : Sp.Plain (dayPaid P AA AB l d) := Sp.minus_plain _ _
theorem dayNot_plain (P AA AB : Int) (l : List SegL) (d : Int) : Sp.Plain (dayNot P AA AB l d) := unpaid_plain _ _ _ _ _
theorem allPaid_plain (P AA AB : Int) (l : List SegL) : Sp.Plain (allPaid P AA AB l) := Sp.norm_plain _
theorem allNot_plain (P AA AB : Int) (l : List SegL) : Sp.Plain (allNot P AA AB l) := Sp.norm_plain _

theorem dayNot_has {P AA AB : Int} {l : List SegL} {d t : Int} (h : Sp.hasB (dayNot P AA AB l d) t = true) : Sp.okT t = true ∧ Sp.hasB (clockL l) t = true ∧ dayOf t = d := by
  have := dayNot_sub h
  rw [partDay_has] at this
  simp only [Bool.and_eq_true, decide_eq_true_eq] at this
  exact ⟨this.1.1, this.1.2, this.2⟩
theorem allNot_has (P AA AB : Int) (l : List SegL) (t : Int) : Sp.hasB (allNot P AA AB l) t = Sp.hasB (dayNot P AA AB l (dayOf t)) t := by
  unfold allNot
  rw [Sp.norm_has, hasB_flatMap]
  refine bool_eq ?_
  rw [Bool.and_eq_true, List.any_eq_true]
  constructor
  · rintro ⟨_, d, _, h⟩
    rw [(dayNot_has h).2.2]; exact h
  · intro h
    obtain ⟨a, b, _⟩ := dayNot_has h
    exact ⟨a, _, ((days_spec _).2 _).2 ⟨t, a, b, rfl⟩, h⟩
theorem dayPaid_has (P AA AB : Int) (l : List SegL) (d t : Int) : Sp.hasB (dayPaid P AA AB l d) t = (Sp.okT t && Sp.hasB (clockL l) t && decide (dayOf t = d) && !Sp.hasB (dayNot P AA AB l d) t) := by
  unfold dayPaid
  rw [Sp.minus_has, partDay_has]
  cases Sp.okT t <;> simp
theorem allPaid_has (P AA AB : Int) (l : List SegL) (t : Int) : Sp.hasB (allPaid P AA AB l) t = (Sp.okT t && Sp.hasB (clockL l) t && !Sp.hasB (allNot P AA AB l) t) := by
  rw [allNot_has]
  unfold allPaid
  rw [Sp.norm_has, hasB_flatMap]
  refine bool_eq ?_
  rw [Bool.and_eq_true, List.any_eq_true]
  constructor
  · rintro ⟨a, d, _, h⟩
    rw [dayPaid_has] at h
    simp only [Bool.and_eq_true, decide_eq_true_eq] at h ⊢
    obtain ⟨⟨h1, rfl⟩, h3⟩ := h
    exact ⟨h1, h3⟩
  · intro h
    simp only [Bool.and_eq_true] at h
    refine ⟨h.1.1, dayOf t, ((days_spec _).2 _).2 ⟨t, h.1.1, h.1.2, rfl⟩, ?_⟩
    rw [dayPaid_has, h.1.1, h.1.2, h.2]; simp

theorem breaks_none (P AA AB : Int) (l : List SegL) : Sp.and_ (allPaid P AA AB l) (allNot P AA AB l) = [] := by
  refine (Sp.and_plain _ _).uniq Sp.plain_nil fun t => ?_
  rw [Sp.and_has, allPaid_has]
  cases Sp.hasB (allNot P AA AB l) t <;> simp [Sp.hasB_nil]
theorem breaks_make (P AA AB : Int) (l : List SegL) : Sp.norm (allPaid P AA AB l ++ allNot P AA AB l) = clockL l := by
  refine (Sp.norm_plain _).uniq (clock_plain l) fun t => ?_
  rw [Sp.norm_has, Sp.hasB_append, allPaid_has]
  have h1 : Sp.hasB (allNot P AA AB l) t = true → Sp.hasB (clockL l) t = true := fun h => by
    rw [allNot_has] at h; exact (dayNot_has h).2.1
  have h2 : Sp.hasB (clockL l) t = true → Sp.okT t = true := fun h => Sp.okT_of_plain (clock_plain l) h
  revert h1 h2
  cases Sp.hasB (allNot P AA AB l) t <;> cases Sp.hasB (clockL l) t <;> cases Sp.okT t <;> simp

/-- Sizes of a day. -/
theorem unpaid_size {P AA AB : Int} {c r : List Sp.S} (P0 : 0 ≤ P) (hc : Sp.Plain c) (hr : Sp.Plain r) (h : ∀ t, Sp.hasB r t = true → Sp.hasB c t = true) :
    Sp.size (unpaidL P AA AB c r) = max 0 (Sp.size r - P) + if AA ≤ Sp.size c ∧ Sp.size r < AB then min (AB - Sp.size r) (Sp.size c - Sp.size r) else 0 := by
  have e1 : Sp.size (Sp.minus r (Sp.first r P)) = max 0 (Sp.size r - P) := by
    have : Sp.size (Sp.minus r (Sp.first r P)) = Sp.size r - Sp.size (Sp.first r P) :=
      size_sub (fun t ht => by rw [Sp.minus_has, ht]; rfl) (fun t ht h => by
        rw [Sp.first_has, Sp.norm_of_plain hr] at h
        simp only [Bool.and_eq_true] at h; exact h.1)
    rw [this, Sp.size_first]
    have := Sp.size_nonneg r
    omega
  have e2 : Sp.size (Sp.minus c r) = Sp.size c - Sp.size r := size_sub (fun t ht => by rw [Sp.minus_has, ht]; rfl) (fun t _ hb => h t hb)
  have e3 : ∀ n, 0 < n → Sp.size (Sp.last (Sp.minus c r) n) = max 0 (min n (Sp.size c - Sp.size r)) := fun n hn => by
    have : Sp.last (Sp.minus c r) n = Sp.minus (Sp.minus c r) (Sp.first (Sp.minus c r) (Sp.size (Sp.minus c r) - min n Sp.MT)) := if_neg (by omega)
    rw [this]
    have e : Sp.size (Sp.minus (Sp.minus c r) (Sp.first (Sp.minus c r) (Sp.size (Sp.minus c r) - min n Sp.MT))) = Sp.size (Sp.minus c r) - Sp.size (Sp.first (Sp.minus c r) (Sp.size (Sp.minus c r) - min n Sp.MT)) :=
      size_sub (fun t ht => by rw [Sp.minus_has, ht]; rfl) (fun t ht h => by
        rw [Sp.first_has, Sp.norm_of_plain (Sp.minus_plain _ _)] at h
        simp only [Bool.and_eq_true] at h; exact h.1)
    rw [e, Sp.size_first, e2]
    have h1 := Sp.size_nonneg (Sp.minus c r)
    have h2 := Sp.size_le (Sp.minus c r)
    rw [e2] at h1 h2
    omega
  unfold unpaidL
  rw [size_norm, size_disjoint, e1]
  · split
    · rename_i hh
      rw [e3 _ (by omega)]
      have h1 := Sp.size_nonneg (Sp.minus c r)
      rw [e2] at h1
      omega
    · rw [size_nil]
  · intro t _
    rw [Sp.minus_has]
    split
    · rw [Sp.last_has, Sp.norm_has, Sp.minus_has]
      cases Sp.hasB r t <;> simp
    · simp [Sp.hasB_nil]
theorem dayNot_size {P AA AB : Int} (P0 : 0 ≤ P) (l : List SegL) (d : Int) : Sp.size (dayNot P AA AB l d) = max 0 (Sp.size (partS (onlyL l 3) d 86400) - P) + if AA ≤ Sp.size (partS (clockL l) d 86400) ∧ Sp.size (partS (onlyL l 3) d 86400) < AB then min (AB - Sp.size (partS (onlyL l 3) d 86400)) (Sp.size (partS (clockL l) d 86400) - Sp.size (partS (onlyL l 3) d 86400)) else 0 :=
  unpaid_size P0 (partS_plain _ _ _) (partS_plain _ _ _) fun _ hb => part_sub (fun _ h => only_sub h) hb

/-- A day does not hang on others. -/
theorem paid_day (P AA AB : Int) (l : List SegL) (d : Int) : partS (allPaid P AA AB l) d 86400 = dayPaid P AA AB l d := by
  refine (partS_plain _ _ _).uniq (dayPaid_plain _ _ _ _ _) fun t => ?_
  rw [partDay_has, allPaid_has, allNot_has, dayPaid_has]
  by_cases e : dayOf t = d
  · subst e; cases Sp.okT t <;> simp
  · simp [e]
theorem not_day (P AA AB : Int) (l : List SegL) (d : Int) : partS (allNot P AA AB l) d 86400 = dayNot P AA AB l d := by
  refine (partS_plain _ _ _).uniq (dayNot_plain _ _ _ _ _) fun t => ?_
  rw [partDay_has, allNot_has]
  by_cases e : dayOf t = d
  · subst e
    cases hb : Sp.hasB (dayNot P AA AB l (dayOf t)) t
    · simp
    · rw [(dayNot_has hb).1]; simp
  · cases hb : Sp.hasB (dayNot P AA AB l d) t
    · simp [e]
    · exact absurd (dayNot_has hb).2.2 e

def clipSeg (d k : Int) (s : SegL) : SegL := { s with from_ := max s.from_ (d * k), to := min s.to ((d + 1) * k) }
def someSegs (d k : Int) (l : List SegL) : List SegL := (l.map (clipSeg d k)).filter fun s => decide (s.from_ < s.to)

theorem some_any (l : List SegL) {d t : Int} (hk : Sp.okT t = true) (q : SegL → Bool) (hq : ∀ s, q (clipSeg d 86400 s) = q s) : ((someSegs d 86400 l).filter q).any (fun s => Sp.inB s.span t) = ((l.filter q).any (fun s => Sp.inB s.span t) && decide (dayOf t = d)) := by
  refine bool_eq ?_
  rw [Bool.and_eq_true, List.any_eq_true, List.any_eq_true, decide_eq_true_eq, (day_div hk).1]
  constructor
  · rintro ⟨s, hs, hi⟩
    obtain ⟨hs, hqs⟩ := List.mem_filter.1 hs
    unfold someSegs at hs
    obtain ⟨hs, _⟩ := List.mem_filter.1 hs
    obtain ⟨x, hx, rfl⟩ := List.mem_map.1 hs
    rw [hq] at hqs
    rw [Sp.inB_iff] at hi
    simp only [clipSeg, SegL.span] at hi
    exact ⟨⟨x, List.mem_filter.2 ⟨hx, hqs⟩, Sp.inB_iff.2 (by simp only [SegL.span]; omega)⟩, by omega⟩
  · rintro ⟨⟨x, hx, hi⟩, rfl⟩
    obtain ⟨hx, hqx⟩ := List.mem_filter.1 hx
    rw [Sp.inB_iff] at hi
    simp only [SegL.span] at hi
    refine ⟨clipSeg (t / 86400) 86400 x, List.mem_filter.2 ⟨?_, by rw [hq]; exact hqx⟩, ?_⟩
    · unfold someSegs
      exact List.mem_filter.2 ⟨List.mem_map.2 ⟨x, hx, rfl⟩, decide_eq_true (by simp only [clipSeg]; omega)⟩
    · rw [Sp.inB_iff]; simp only [clipSeg, SegL.span]; omega
theorem some_any_week (l : List SegL) {d t : Int} (hk : Sp.okT t = true) (q : SegL → Bool) (hq : ∀ s, q (clipSeg d 604800 s) = q s) : ((someSegs d 604800 l).filter q).any (fun s => Sp.inB s.span t) = ((l.filter q).any (fun s => Sp.inB s.span t) && decide (weekOf t = d)) := by
  refine bool_eq ?_
  rw [Bool.and_eq_true, List.any_eq_true, List.any_eq_true, decide_eq_true_eq, (week_div hk).1]
  constructor
  · rintro ⟨s, hs, hi⟩
    obtain ⟨hs, hqs⟩ := List.mem_filter.1 hs
    unfold someSegs at hs
    obtain ⟨hs, _⟩ := List.mem_filter.1 hs
    obtain ⟨x, hx, rfl⟩ := List.mem_map.1 hs
    rw [hq] at hqs
    rw [Sp.inB_iff] at hi
    simp only [clipSeg, SegL.span] at hi
    exact ⟨⟨x, List.mem_filter.2 ⟨hx, hqs⟩, Sp.inB_iff.2 (by simp only [SegL.span]; omega)⟩, by omega⟩
  · rintro ⟨⟨x, hx, hi⟩, rfl⟩
    obtain ⟨hx, hqx⟩ := List.mem_filter.1 hx
    rw [Sp.inB_iff] at hi
    simp only [SegL.span] at hi
    refine ⟨clipSeg (t / 604800) 604800 x, List.mem_filter.2 ⟨?_, by rw [hq]; exact hqx⟩, ?_⟩
    · unfold someSegs
      exact List.mem_filter.2 ⟨List.mem_map.2 ⟨x, hx, rfl⟩, decide_eq_true (by simp only [clipSeg]; omega)⟩
    · rw [Sp.inB_iff]; simp only [clipSeg, SegL.span]; omega
theorem filter_true {α : Type} (l : List α) : l.filter (fun _ => true) = l := List.filter_eq_self.2 fun _ _ => rfl
theorem clock_some (l : List SegL) (d : Int) : clockL (someSegs d 86400 l) = partS (clockL l) d 86400 := by
  refine (clock_plain _).uniq (partS_plain _ _ _) fun t => ?_
  rw [clock_has, partDay_has, clock_has]
  cases hk : Sp.okT t
  · rfl
  · have := some_any l (d := d) hk (fun _ => true) (fun _ => rfl)
    rw [filter_true, filter_true] at this
    rw [this]; simp
theorem only_some (l : List SegL) (d k : Int) : onlyL (someSegs d 86400 l) k = partS (onlyL l k) d 86400 := by
  unfold onlyL
  refine (clock_plain _).uniq (partS_plain _ _ _) fun t => ?_
  rw [clock_has, partDay_has, clock_has]
  cases hk : Sp.okT t
  · rfl
  · rw [some_any l (d := d) hk (fun s => s.kind == k) (fun _ => rfl)]; simp
theorem part_part_day (l : List Sp.S) (d e : Int) (h : d ≠ e) : partS (partS l d 86400) e 86400 = [] := by
  refine (partS_plain _ _ _).uniq Sp.plain_nil fun t => ?_
  rw [partDay_has, partDay_has]
  by_cases h1 : dayOf t = e
  · have : ¬ dayOf t = d := by omega
    simp [this, Sp.hasB_nil]
  · simp [h1, Sp.hasB_nil]
theorem part_again_day (l : List Sp.S) (d : Int) : partS (partS l d 86400) d 86400 = partS l d 86400 := by
  refine (partS_plain _ _ _).uniq (partS_plain _ _ _) fun t => ?_
  rw [partDay_has, partDay_has]
  cases Sp.okT t <;> cases Sp.hasB l t <;> simp
theorem dayNot_some (P AA AB : Int) (l : List SegL) (d : Int) : dayNot P AA AB (someSegs d 86400 l) d = dayNot P AA AB l d := by
  unfold dayNot
  rw [clock_some, only_some, part_again_day, part_again_day]
theorem dayPaid_some (P AA AB : Int) (l : List SegL) (d : Int) : dayPaid P AA AB (someSegs d 86400 l) d = dayPaid P AA AB l d := by
  unfold dayPaid
  rw [dayNot_some, clock_some, part_again_day]
theorem allNot_some (P AA AB : Int) (l : List SegL) (d : Int) : allNot P AA AB (someSegs d 86400 l) = dayNot P AA AB l d := by
  rw [← not_day]
  refine (allNot_plain _ _ _ _).uniq (partS_plain _ _ _) fun t => ?_
  rw [partDay_has, allNot_has, allNot_has]
  by_cases e : dayOf t = d
  · subst e
    rw [dayNot_some]
    cases hb : Sp.hasB (dayNot P AA AB l (dayOf t)) t
    · simp
    · rw [(dayNot_has hb).1]; simp
  · cases hb : Sp.hasB (dayNot P AA AB (someSegs d 86400 l) (dayOf t)) t
    · simp [e]
    · have := (dayNot_has hb).2.1
      rw [clock_some, partDay_has] at this
      simp [e] at this
theorem allPaid_some (P AA AB : Int) (l : List SegL) (d : Int) : allPaid P AA AB (someSegs d 86400 l) = dayPaid P AA AB l d := by
  refine (allPaid_plain _ _ _ _).uniq (dayPaid_plain _ _ _ _ _) fun t => ?_
  rw [allPaid_has, allNot_some, dayPaid_has, clock_some, partDay_has]
  cases Sp.okT t <;> simp

/-- Of breaks the first ones are paid, and of all else. -/
theorem paid_rests (P AA AB : Int) (l : List SegL) (d : Int) : Sp.and_ (dayPaid P AA AB l d) (onlyL l 3) = Sp.first (partS (onlyL l 3) d 86400) P := by
  refine (Sp.and_plain _ _).uniq (Sp.first_plain _ _) fun t => ?_
  rw [Sp.and_has, dayPaid_has, Sp.first_has, Sp.norm_of_plain (partS_plain _ _ _), partDay_has]
  have hs := @only_sub l 3 t
  cases hk : Sp.okT t
  · rfl
  · cases hr : Sp.hasB (onlyL l 3) t
    · simp
    · rw [hs hr]
      by_cases e : dayOf t = d
      · subst e
        have hc : Sp.hasB (partS (onlyL l 3) (dayOf t) 86400) t = true := by rw [partDay_has, hk, hr]; simp
        unfold dayNot unpaidL
        rw [Sp.norm_has, Sp.hasB_append, Sp.minus_has, Sp.first_has, Sp.norm_of_plain (partS_plain _ _ _), hc, hk]
        have hl : Sp.hasB (if AA ≤ Sp.size (partS (clockL l) (dayOf t) 86400) ∧ Sp.size (partS (onlyL l 3) (dayOf t) 86400) < AB then Sp.last (Sp.minus (partS (clockL l) (dayOf t) 86400) (partS (onlyL l 3) (dayOf t) 86400)) (AB - Sp.size (partS (onlyL l 3) (dayOf t) 86400)) else []) t = false := by
          split
          · rw [Sp.last_has, Sp.norm_has, Sp.minus_has, hc]; simp
          · rfl
        rw [hl]; simp
      · simp [e]
theorem not_rests (P AA AB : Int) (l : List SegL) (d : Int) : Sp.and_ (dayNot P AA AB l d) (onlyL l 3) = Sp.minus (partS (onlyL l 3) d 86400) (Sp.first (partS (onlyL l 3) d 86400) P) := by
  refine (Sp.and_plain _ _).uniq (Sp.minus_plain _ _) fun t => ?_
  rw [Sp.and_has, Sp.minus_has]
  have hn := @dayNot_has P AA AB l d t
  cases hk : Sp.okT t
  · rfl
  · cases hr : Sp.hasB (onlyL l 3) t
    · rw [partDay_has, hr]; simp
    · by_cases e : dayOf t = d
      · subst e
        have hc : Sp.hasB (partS (onlyL l 3) (dayOf t) 86400) t = true := by rw [partDay_has, hk, hr]; simp
        unfold dayNot unpaidL
        rw [Sp.norm_has, Sp.hasB_append, Sp.minus_has, hc, hk]
        have hl : Sp.hasB (if AA ≤ Sp.size (partS (clockL l) (dayOf t) 86400) ∧ Sp.size (partS (onlyL l 3) (dayOf t) 86400) < AB then Sp.last (Sp.minus (partS (clockL l) (dayOf t) 86400) (partS (onlyL l 3) (dayOf t) 86400)) (AB - Sp.size (partS (onlyL l 3) (dayOf t) 86400)) else []) t = false := by
          split
          · rw [Sp.last_has, Sp.norm_has, Sp.minus_has, hc]; simp
          · rfl
        rw [hl]; simp
      · have h1 : Sp.hasB (dayNot P AA AB l d) t = false := by
          cases hb : Sp.hasB (dayNot P AA AB l d) t
          · rfl
          · exact absurd (hn hb).2.2 e
        rw [h1, partDay_has]; simp [e]
/-- The auto break's seconds. -/
def autoL (AA AB : Int) (c r : List Sp.S) : List Sp.S := if AA ≤ Sp.size c ∧ Sp.size r < AB then Sp.last (Sp.minus c r) (AB - Sp.size r) else []
theorem auto_has (AA AB : Int) (c r : List Sp.S) (t : Int) : Sp.hasB (autoL AA AB c r) t = (Sp.hasB (Sp.minus c r) t && (decide (AA ≤ Sp.size c ∧ Sp.size r < AB) && decide (Sp.size (Sp.minus c r) - (AB - Sp.size r) ≤ Sp.upTo (Sp.minus c r) t))) := by
  unfold autoL
  split
  · rename_i h
    rw [Sp.last_has, Sp.norm_of_plain (Sp.minus_plain _ _)]; simp [h]
  · rename_i h
    simp [Sp.hasB_nil]; intro _ a b; exact absurd ⟨a, b⟩ h
theorem not_work (P AA AB : Int) (l : List SegL) (d : Int) : Sp.minus (dayNot P AA AB l d) (onlyL l 3) = autoL AA AB (partS (clockL l) d 86400) (partS (onlyL l 3) d 86400) := by
  have hp : Sp.Plain (autoL AA AB (partS (clockL l) d 86400) (partS (onlyL l 3) d 86400)) := by
    unfold autoL; split
    · exact Sp.last_plain _ _
    · trivial
  refine (Sp.minus_plain _ _).uniq hp fun t => ?_
  rw [Sp.minus_has]
  have hn := @dayNot_has P AA AB l d t
  cases hk : Sp.okT t
  · cases hb : Sp.hasB (autoL AA AB (partS (clockL l) d 86400) (partS (onlyL l 3) d 86400)) t
    · rfl
    · rw [Sp.okT_of_plain hp hb] at hk; cases hk
  · have hx : Sp.hasB (dayNot P AA AB l d) t = (Sp.hasB (Sp.minus (partS (onlyL l 3) d 86400) (Sp.first (partS (onlyL l 3) d 86400) P)) t || Sp.hasB (autoL AA AB (partS (clockL l) d 86400) (partS (onlyL l 3) d 86400)) t) := by
      show Sp.hasB (Sp.norm (_ ++ autoL _ _ _ _)) t = _
      rw [Sp.norm_has, Sp.hasB_append, hk]; rfl
    rw [hx, Sp.minus_has, hk, auto_has, Sp.minus_has, hk, partDay_has, hk]
    by_cases e : dayOf t = d
    · simp only [e, decide_true]
      generalize (decide (AA ≤ Sp.size (partS (clockL l) d 86400) ∧ Sp.size (partS (onlyL l 3) d 86400) < AB) && decide (Sp.size (Sp.minus (partS (clockL l) d 86400) (partS (onlyL l 3) d 86400)) - (AB - Sp.size (partS (onlyL l 3) d 86400)) ≤ Sp.upTo (Sp.minus (partS (clockL l) d 86400) (partS (onlyL l 3) d 86400)) t)) = y
      generalize Sp.hasB (partS (clockL l) d 86400) t = z
      cases Sp.hasB (onlyL l 3) t <;> cases y <;> cases z <;> simp
    · have : Sp.hasB (partS (clockL l) d 86400) t = false := by rw [partDay_has]; simp [e]
      rw [this]; simp [e]
theorem minus_uniq {a b c d : List Sp.S} (h : ∀ t, Sp.hasB (Sp.minus a b) t = Sp.hasB (Sp.minus c d) t) : Sp.minus a b = Sp.minus c d := (Sp.minus_plain a b).uniq (Sp.minus_plain c d) h
theorem paid_work (P AA AB : Int) (l : List SegL) (d : Int) : Sp.minus (dayPaid P AA AB l d) (onlyL l 3) = Sp.minus (Sp.minus (partS (clockL l) d 86400) (partS (onlyL l 3) d 86400)) (autoL AA AB (partS (clockL l) d 86400) (partS (onlyL l 3) d 86400)) := by
  refine minus_uniq fun t => ?_
  have hw : Sp.hasB (Sp.minus (dayNot P AA AB l d) (onlyL l 3)) t = Sp.hasB (autoL AA AB (partS (clockL l) d 86400) (partS (onlyL l 3) d 86400)) t := by rw [not_work]
  rw [Sp.minus_has] at hw
  rw [Sp.minus_has, Sp.minus_has, Sp.minus_has, ← hw]
  unfold dayPaid
  rw [Sp.minus_has, partDay_has (onlyL l 3)]
  cases hk : Sp.okT t
  · rfl
  · by_cases e : dayOf t = d
    · simp only [e, decide_true]
      cases Sp.hasB (onlyL l 3) t <;> simp
    · have : Sp.hasB (partS (clockL l) d 86400) t = false := by rw [partDay_has]; simp [e]
      rw [this]; simp

theorem ahead_gen {a b : List Sp.S} (h : ∀ t u, Sp.hasB a t = true → Sp.hasB b u = true → t < u) (ha : Sp.Plain a) (hb : Sp.Plain b) {m k : Nat} {x y : Sp.S} (hx : a[m]? = some x) (hy : b[k]? = some y) : x.2 ≤ y.1 := by
  have h1 := ha.bd x (List.mem_of_getElem? hx)
  have h2 := hb.bd y (List.mem_of_getElem? hy)
  have := h (x.2 - 1) y.1 (Sp.hasB_iff.2 ⟨x, List.mem_of_getElem? hx, by omega, by omega⟩) (Sp.hasB_iff.2 ⟨y, List.mem_of_getElem? hy, by omega, by omega⟩)
  omega
theorem upTo_lt {l : List Sp.S} (h : Sp.Plain l) {t u : Int} (h1 : Sp.upTo l t < Sp.upTo l u) : t < u := by
  by_cases hh : u ≤ t
  · have := Sp.upTo_mono l hh; omega
  · omega
theorem ahead_rests (P AA AB : Int) (l : List SegL) (d : Int) {m k : Nat} {x y : Sp.S} (hx : (Sp.and_ (dayPaid P AA AB l d) (onlyL l 3))[m]? = some x) (hy : (Sp.and_ (dayNot P AA AB l d) (onlyL l 3))[k]? = some y) : x.2 ≤ y.1 := by
  refine ahead_gen (fun t u ht hu => ?_) (Sp.and_plain _ _) (Sp.and_plain _ _) hx hy
  rw [paid_rests, Sp.first_has, Sp.norm_of_plain (partS_plain _ _ _)] at ht
  rw [not_rests, Sp.minus_has, Sp.first_has, Sp.norm_of_plain (partS_plain _ _ _)] at hu
  simp only [Bool.and_eq_true, decide_eq_true_eq] at ht hu
  refine upTo_lt (partS_plain (onlyL l 3) d 86400) ?_
  have := hu.2.2
  rw [hu.2.1] at this
  simp at this
  omega
theorem ahead_work (P AA AB : Int) (l : List SegL) (d : Int) {m k : Nat} {x y : Sp.S} (hx : (Sp.minus (dayPaid P AA AB l d) (onlyL l 3))[m]? = some x) (hy : (Sp.minus (dayNot P AA AB l d) (onlyL l 3))[k]? = some y) : x.2 ≤ y.1 := by
  refine ahead_gen (fun t u ht hu => ?_) (Sp.minus_plain _ _) (Sp.minus_plain _ _) hx hy
  rw [paid_work, Sp.minus_has, auto_has] at ht
  rw [not_work, auto_has] at hu
  simp only [Bool.and_eq_true, decide_eq_true_eq] at ht hu
  refine upTo_lt (Sp.minus_plain (partS (clockL l) d 86400) (partS (onlyL l 3) d 86400)) ?_
  have h1 := ht.2.2
  rw [ht.2.1] at h1
  have h2 := hu.2.1
  simp [h2] at h1
  omega
end Go.Proofs.Ytnhmibfgaoealaa
