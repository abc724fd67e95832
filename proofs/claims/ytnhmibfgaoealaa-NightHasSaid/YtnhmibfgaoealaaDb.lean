/-
  Plain theory of nights.
-/
import Derived.Test.YtnhmibfgaoealaaDa
namespace Go.Proofs.Ytnhmibfgaoealaa
set_option linter.unusedVariables false
set_option linter.unusedSimpArgs false

def winds (F T : Int) : List Sp.S := if T < F then [(0, T), (F, 86400)] else [(F, T)]
def isNight (F T n : Int) : Bool := Sp.hasB (winds F T) n
def nights1 (F T d : Int) : List Sp.S := ((winds F T).filter fun w => decide (w.1 < w.2)).map fun w => (d * 86400 + w.1, d * 86400 + w.2)
def nightsL (F T : Int) (days : List Int) : List Sp.S := days.flatMap (nights1 F T)
def nightOf (F T : Int) (l : List Sp.S) : List Sp.S := Sp.and_ l (nightsL F T (daysL (Sp.norm l)))

def okNT (F T : Int) : Prop := 0 ≤ F ∧ F ≤ 86400 ∧ 0 ≤ T ∧ T ≤ 86400

theorem isNight_iff {F T n : Int} (h : okNT F T) (h0 : 0 ≤ n) (h1 : n < 86400) : isNight F T n = true ↔ (if T < F then n < T ∨ F ≤ n else F ≤ n ∧ n < T) := by
  unfold isNight winds
  split
  · simp [Sp.hasB, Sp.inB]; omega
  · simp [Sp.hasB, Sp.inB]

theorem nights1_has {F T d : Int} (h : okNT F T) (t : Int) : Sp.hasB (nights1 F T d) t = (decide (t / 86400 = d) && isNight F T (t % 86400)) := by
  obtain ⟨h1, h2, h3, h4⟩ := h
  refine bool_eq ?_
  rw [Sp.hasB_iff, Bool.and_eq_true, decide_eq_true_eq, isNight, Sp.hasB_iff]
  constructor
  · rintro ⟨s, hs, a, b⟩
    unfold nights1 at hs
    obtain ⟨w, hw, rfl⟩ := List.mem_map.1 hs
    obtain ⟨hw, _⟩ := List.mem_filter.1 hw
    have hb : 0 ≤ w.1 ∧ w.2 ≤ 86400 := by
      unfold winds at hw
      split at hw <;> simp at hw
      · rcases hw with rfl | rfl <;> simp <;> omega
      · subst hw; simp; omega
    simp only at a b
    exact ⟨by omega, w, hw, by omega, by omega⟩
  · rintro ⟨rfl, w, hw, a, b⟩
    refine ⟨(t / 86400 * 86400 + w.1, t / 86400 * 86400 + w.2), ?_, by simp only; omega, by simp only; omega⟩
    unfold nights1
    exact List.mem_map.2 ⟨w, List.mem_filter.2 ⟨hw, by simp; omega⟩, rfl⟩

theorem nightsL_has {F T : Int} (h : okNT F T) (ds : List Int) (t : Int) : Sp.hasB (nightsL F T ds) t = (decide (t / 86400 ∈ ds) && isNight F T (t % 86400)) := by
  unfold nightsL
  rw [hasB_flatMap]
  refine bool_eq ?_
  rw [List.any_eq_true, Bool.and_eq_true, decide_eq_true_eq]
  constructor
  · rintro ⟨d, hd, hb⟩
    rw [nights1_has h] at hb
    simp at hb
    exact ⟨by rw [hb.1]; exact hd, hb.2⟩
  · rintro ⟨hd, hb⟩
    exact ⟨_, hd, by rw [nights1_has h, hb]; simp⟩

theorem nightOf_plain (F T : Int) (l : List Sp.S) : Sp.Plain (nightOf F T l) := Sp.and_plain _ _
theorem nightOf_has {F T : Int} (h : okNT F T) (l : List Sp.S) (t : Int) : Sp.hasB (nightOf F T l) t = (Sp.okT t && Sp.hasB l t && isNight F T (t % 86400)) := by
  unfold nightOf
  rw [Sp.and_has, nightsL_has h]
  refine bool_eq ?_
  simp only [Bool.and_eq_true, decide_eq_true_eq]
  constructor
  · rintro ⟨a, b, c, d⟩
    exact ⟨⟨a, b⟩, d⟩
  · rintro ⟨⟨a, b⟩, d⟩
    refine ⟨a, b, ?_, d⟩
    rw [← (day_div a).1]
    exact ((days_spec l).2 _).2 ⟨t, a, b, rfl⟩

/-- Whether a second is by night. -/
def nightIs (F T t : Int) : Bool := Sp.okT t && isNight F T (t % 86400)

theorem night_has {F T : Int} (h : okNT F T) (l : List Sp.S) (t : Int) : Sp.has (nightOf F T l) t = (Sp.has l t && nightIs F T t) := by
  rw [has_plain (nightOf_plain _ _ _), nightOf_has h, has_eq, nightIs]
  cases Sp.okT t <;> cases Sp.hasB l t <;> rfl

theorem okNT.swap {F T : Int} (h : okNT F T) : okNT T F := by unfold okNT at *; omega

theorem isNight_swap {F T n : Int} (h : okNT F T) (hne : F ≠ T) (h0 : 0 ≤ n) (h1 : n < 86400) : isNight T F n = !isNight F T n := by
  refine bool_eq ?_
  rw [Bool.not_eq_true', isNight_iff h.swap h0 h1, ← Bool.not_eq_true, isNight_iff h h0 h1]
  split <;> split <;> omega

theorem night_turns {F T : Int} (h : okNT F T) (hne : F ≠ T) (l : List Sp.S) : nightOf T F l = Sp.minus l (nightOf F T l) := by
  refine (nightOf_plain _ _ _).uniq (Sp.minus_plain _ _) fun t => ?_
  rw [nightOf_has h.swap, Sp.minus_has, nightOf_has h, isNight_swap h hne (by omega) (by omega)]
  cases Sp.okT t <;> cases Sp.hasB l t <;> cases isNight F T (t % 86400) <;> rfl

theorem night_none {F : Int} (h : okNT F F) (l : List Sp.S) : nightOf F F l = [] := by
  refine (nightOf_plain _ _ _).uniq Sp.plain_nil fun t => ?_
  have : isNight F F (t % 86400) = false := by
    cases hb : isNight F F (t % 86400)
    · rfl
    · rw [isNight_iff h (by omega) (by omega)] at hb
      rw [if_neg (by omega)] at hb; omega
  rw [nightOf_has h, this]; simp [Sp.hasB]

/-- So many seconds later. -/
def shiftS (k : Int) (l : List Sp.S) : List Sp.S := l.map fun s => (s.1 + k, s.2 + k)
theorem shiftS_has (k : Int) (l : List Sp.S) (t : Int) : Sp.hasB (shiftS k l) t = Sp.hasB l (t - k) := by
  refine bool_eq ?_
  rw [Sp.hasB_iff, Sp.hasB_iff]
  constructor
  · rintro ⟨s, hs, a, b⟩
    obtain ⟨x, hx, rfl⟩ := List.mem_map.1 hs
    simp only at a b
    exact ⟨x, hx, by omega, by omega⟩
  · rintro ⟨x, hx, a, b⟩
    exact ⟨(x.1 + k, x.2 + k), List.mem_map.2 ⟨x, hx, rfl⟩, by simp only; omega, by simp only; omega⟩
theorem shiftS_plainFrom {lo k : Int} {l : List Sp.S} (h : Sp.PlainFrom lo l) (hk : ∀ s ∈ l, s.2 + k ≤ Sp.MT) : Sp.PlainFrom (lo + k) (shiftS k l) := by
  induction l generalizing lo with
  | nil => trivial
  | cons s r ih =>
    obtain ⟨h1, h2, h3, h4⟩ := h
    refine ⟨by simp only; omega, by simp only; omega, hk s (by simp), ?_⟩
    have := ih h4 fun x hx => hk x (by simp [hx])
    exact this.mono (by simp only; omega)
theorem shiftS_plain {k : Int} {l : List Sp.S} (h : Sp.Plain l) (k0 : 0 ≤ k) (hk : ∀ s ∈ l, s.2 + k ≤ Sp.MT) : Sp.Plain (shiftS k l) :=
  (shiftS_plainFrom h hk).mono (by omega)
theorem shiftS_length (k : Int) (l : List Sp.S) : (shiftS k l).length = l.length := by simp [shiftS]

theorem night_shift {F T k : Int} (h : okNT F T) (k0 : 0 ≤ k) (k1 : k % 86400 = 0) (l : List Sp.S) (hl : ∀ s ∈ l, 0 ≤ s.1 ∧ s.2 + k ≤ Sp.MT) : nightOf F T (shiftS k l) = shiftS k (nightOf F T l) := by
  have hb : ∀ s ∈ nightOf F T l, s.2 + k ≤ Sp.MT := by
    intro s hs
    have hp := (nightOf_plain F T l).bd s hs
    have : Sp.hasB (nightOf F T l) (s.2 - 1) = true := Sp.hasB_iff.2 ⟨s, hs, by omega, by omega⟩
    rw [nightOf_has h] at this
    simp only [Bool.and_eq_true] at this
    obtain ⟨x, hx, a, b⟩ := Sp.hasB_iff.1 this.1.2
    have := hl x hx
    omega
  refine (nightOf_plain _ _ _).uniq (shiftS_plain (nightOf_plain _ _ _) k0 hb) fun t => ?_
  rw [shiftS_has, nightOf_has h, nightOf_has h, shiftS_has, show (t - k) % 86400 = t % 86400 from by omega]
  cases hbl : Sp.hasB l (t - k)
  · simp
  · obtain ⟨x, hx, a, b⟩ := Sp.hasB_iff.1 hbl
    have hx2 := hl x hx
    unfold Sp.MT at hx2
    have e1 : Sp.okT t = true := Sp.okT_iff.2 ⟨by omega, by unfold Sp.MT; omega⟩
    have e2 : Sp.okT (t - k) = true := Sp.okT_iff.2 ⟨by omega, by unfold Sp.MT; omega⟩
    rw [e1, e2]
theorem nightIs_shift {F T k t : Int} (t0 : 0 ≤ t) (t1 : t < 20000000) (k0 : 0 ≤ k) (k1 : k ≤ 8640000) (k2 : k % 86400 = 0) : nightIs F T t = nightIs F T (t + k) := by
  unfold nightIs
  rw [show (t + k) % 86400 = t % 86400 from by omega]
  have e1 : Sp.okT t = true := Sp.okT_iff.2 ⟨by omega, by unfold Sp.MT; omega⟩
  have e2 : Sp.okT (t + k) = true := Sp.okT_iff.2 ⟨by omega, by unfold Sp.MT; omega⟩
  rw [e1, e2]

/-- How long a night is. -/
def nightLen (F T : Int) : Int := if T - F < 0 then T - F + 86400 else T - F

theorem cnt_zero (p : Int → Bool) (n : Nat) (h : ∀ t, p t = false) : Sp.cnt p n = 0 := by
  induction n with
  | zero => rfl
  | succ n ih => rw [Sp.cnt, ih, h]; rfl
theorem cnt_two (s u : Sp.S) (n : Nat) (h : s.2 ≤ u.1) : Sp.cnt (Sp.hasB [s, u]) n = Sp.cnt (Sp.inB s) n + Sp.cnt (Sp.inB u) n := by
  rw [← Sp.cnt_or]
  · exact Sp.cnt_congr fun t _ _ => by simp [Sp.hasB]
  · intro t
    cases hb : Sp.inB s t
    · rfl
    · rw [Sp.inB_iff] at hb
      cases hc : Sp.inB u t
      · rfl
      · rw [Sp.inB_iff] at hc; omega
theorem cnt_one (s : Sp.S) (n : Nat) : Sp.cnt (Sp.hasB [s]) n = Sp.cnt (Sp.inB s) n := Sp.cnt_congr fun t _ _ => by simp [Sp.hasB]

theorem cnt_nights1 {F T d : Int} (h : okNT F T) (d0 : 0 ≤ d) (n : Nat) (hn : (d + 1) * 86400 ≤ n) : (Sp.cnt (Sp.hasB (nights1 F T d)) n : Int) = nightLen F T := by
  obtain ⟨h1, h2, h3, h4⟩ := h
  unfold nightLen nights1 winds
  by_cases hlt : T < F
  · rw [if_pos hlt, if_pos (by omega)]
    by_cases a : 0 < T
    · by_cases b : F < 86400
      · simp only [List.filter_cons, a, b, decide_true, if_true, List.filter_nil, List.map_cons, List.map_nil]
        rw [cnt_two _ _ _ (by simp only; omega), Int.natCast_add, Sp.cnt_inB _ _ (by simp only; omega) (by simp only; omega), Sp.cnt_inB _ _ (by simp only; omega) (by simp only; omega)]
        simp only; omega
      · simp only [List.filter_cons, a, b, decide_true, decide_false, if_true, List.filter_nil, List.map_cons, List.map_nil, Bool.false_eq_true, if_false]
        rw [cnt_one, Sp.cnt_inB _ _ (by simp only; omega) (by simp only; omega)]
        simp only; omega
    · by_cases b : F < 86400
      · simp only [List.filter_cons, a, b, decide_true, decide_false, if_true, List.filter_nil, List.map_cons, List.map_nil, Bool.false_eq_true, if_false]
        rw [cnt_one, Sp.cnt_inB _ _ (by simp only; omega) (by simp only; omega)]
        simp only; omega
      · simp only [List.filter_cons, a, b, decide_false, List.filter_nil, List.map_nil, Bool.false_eq_true, if_false]
        rw [cnt_zero _ _ (fun t => Sp.hasB_nil t)]
        omega
  · rw [if_neg hlt, if_neg (by omega)]
    by_cases a : F < T
    · simp only [List.filter_cons, a, decide_true, if_true, List.filter_nil, List.map_cons, List.map_nil]
      rw [cnt_one, Sp.cnt_inB _ _ (by simp only; omega) (by simp only; omega)]
      simp only; omega
    · simp only [List.filter_cons, a, decide_false, List.filter_nil, List.map_nil, Bool.false_eq_true, if_false]
      rw [cnt_zero _ _ (fun t => Sp.hasB_nil t)]
      omega

theorem cnt_nights {F T d : Int} (h : okNT F T) (d0 : 0 ≤ d) (m n : Nat) (hn : (d + m) * 86400 ≤ n) :
    (Sp.cnt (fun t => decide (d ≤ t / 86400) && decide (t / 86400 < d + m) && isNight F T (t % 86400)) n : Int) = m * nightLen F T := by
  induction m with
  | zero =>
    rw [cnt_zero _ _ (fun t => ?_)]
    · simp
    · by_cases a : d ≤ t / 86400
      · simp; intros; omega
      · simp [a]
  | succ m ih =>
    have e : Sp.cnt (fun t => decide (d ≤ t / 86400) && decide (t / 86400 < d + ((m + 1 : Nat) : Int)) && isNight F T (t % 86400)) n
        = Sp.cnt (fun t => (decide (d ≤ t / 86400) && decide (t / 86400 < d + m) && isNight F T (t % 86400)) || Sp.hasB (nights1 F T (d + m)) t) n := by
      refine Sp.cnt_congr fun t _ _ => ?_
      rw [nights1_has h]
      refine bool_eq ?_
      simp only [Bool.and_eq_true, Bool.or_eq_true, decide_eq_true_eq]
      constructor
      · rintro ⟨⟨a, b⟩, c⟩
        by_cases e : t / 86400 = d + m
        · exact .inr ⟨e, c⟩
        · exact .inl ⟨⟨a, by omega⟩, c⟩
      · rintro (⟨⟨a, b⟩, c⟩ | ⟨a, c⟩)
        · exact ⟨⟨a, by omega⟩, c⟩
        · exact ⟨⟨by omega, by omega⟩, c⟩
    rw [e, Sp.cnt_or, Int.natCast_add, ih (by omega), cnt_nights1 h (by omega) n (by omega)]
    · have : ((m + 1 : Nat) : Int) = (m : Int) + 1 := by omega
      rw [this, Int.add_mul]; omega
    · intro t
      rw [nights1_has h]
      by_cases e : t / 86400 = d + m
      · have : ¬ t / 86400 < d + m := by omega
        simp [this]
      · simp [e]

theorem night_sizes {F T : Int} (h : okNT F T) (d n : Nat) (hd : d < 300) (hn : n < 30) : Sp.size (nightOf F T [((d : Int) * 86400, (d : Int) * 86400 + (n : Int) * 86400)]) = n * nightLen F T := by
  rw [Sp.size_cnt, ← cnt_nights h (d := d) (by omega) n Sp.MTn (by have := Sp.MTn_eq; unfold Sp.MT at this; omega)]
  congr 1
  refine Sp.cnt_congr fun t t0 t1 => ?_
  have e1 : Sp.okT t = true := Sp.okT_iff.2 ⟨t0, by have := Sp.MTn_eq; omega⟩
  rw [nightOf_has h, e1, inB_one, Bool.true_and]
  congr 1
  rw [← Bool.decide_and, ← Bool.decide_and]
  exact decide_eq_decide.2 (by omega)

/-- What has been told of the nights below a place (the reference's loop). -/
theorem night_step {F T t x : Int} (h : okNT F T) (_t0 : 0 ≤ t) (h1 : t ≤ x) (h2 : x < t - t % 86400 + 86400) (h3 : t < t - t % 86400 + F → x < t - t % 86400 + F) (h4 : t < t - t % 86400 + T → x < t - t % 86400 + T) : isNight F T (x % 86400) = isNight F T (t % 86400) := by
  have e : x % 86400 = t % 86400 + (x - t) := by omega
  refine bool_eq ?_
  rw [isNight_iff h (by omega) (by omega), isNight_iff h (by omega) (by omega)]
  split <;> omega
end Go.Proofs.Ytnhmibfgaoealaa
