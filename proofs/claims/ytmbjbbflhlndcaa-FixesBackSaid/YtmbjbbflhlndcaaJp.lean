/-
  event.least, event.fair; two events compared by ==.
-/
import Derived.Test.YtmbjbbflhlndcaaJo
namespace Go.Proofs.Ytmbjbbflhlndcaa
open Go.RowKit BigFrame
set_option linter.unusedVariables false
set_option linter.unusedSimpArgs false

theorem pLeast (n m : Int) (w : World) : Calls Try.prog 88 #[.int .i64 n, .int .i64 m] w fun e w' => e = .returned (.bool (decide (0 ≤ n ∧ n ≤ m))) ∧ w = w' := by
  obtain ⟨b, hb⟩ : ∃ b, decide (0 ≤ n ∧ n ≤ m) = b := ⟨_, rfl⟩
  rw [hb]
  replace hb := Lib.hid hb
  by_cases h0 : 0 ≤ n
  · have d0 : decide (0 ≤ n) = true := decide_eq_true h0
    have e : Hid (b = decide (n ≤ m)) := by show _ = _; rw [← hb.out]; simp [h0]
    clear h0 hb
    go_enter Try.func88, Try.ntmps88
    go_wp2
    go_ret
    exact ⟨by rw [e.out]; rfl, rfl⟩
  · have d0 : decide (0 ≤ n) = false := decide_eq_false h0
    have e : Hid (b = false) := by show _ = _; rw [← hb.out]; simp [h0]
    clear h0 hb
    go_enter Try.func88, Try.ntmps88
    go_wp2
    go_ret
    exact ⟨by rw [e.out]; rfl, rfl⟩

theorem eqGuardV : Try.prog.eqGuardType Try.prog.depth 23 = false := by kernel_rfl
set_option maxHeartbeats 1000000 in
theorem eqInV (e f : Ev) (w : World) : (Op.equalIn 10000 23 (.agg (encV e).toArray) (.agg (encV f).toArray)).run Try.prog w = .ok (decide (e = f)) w := by
  have u3 := Try.underlying3
  have a3 := Try.isAgg3
  have z3 := Try.sizeOf3
  have hS : Try.prog.underlying 23 = some (.struct (Try.prog.fieldsOf 23)) := by kernel_rfl
  have hp : Try.prog.stoodInHeld 23 = false := by kernel_rfl
  rw [show (10000 : Nat) = 9999 + 1 from rfl, run_equalIn_agg w 9999 23 _ _ hS hp]
  simp only [Program.fieldsOf, Try.underlying23, encV]
  go_simp
  by_cases h : e = f
  · subst h; simp
  · rw [decide_eq_false h]
    repeat' split
    all_goals first
      | rfl
      | exact absurd (by cases e; cases f; simp_all) h
theorem eqV (e f : Ev) (w : World) : (binOp .eql 23 (.agg (encV e).toArray) (.agg (encV f).toArray)).run Try.prog w = .ok (.bool (decide (e = f))) w := by
  rw [run_eql_struct, eqInV]; rfl
theorem encV_arr (e : Ev) : (encV e).toArray = #[.int .i64 e.id, .int .i64 e.worker, .int .i64 e.at_, .int .i64 e.kind, .int .i64 e.fr, .int .i64 e.to, .int .i64 e.element, .int .i64 e.units, .int .i64 e.cls, .int .i64 e.gear, .int .i64 e.code] := rfl
theorem sizeV : (Try.prog.info? 23).map (·.size) = some 11 := by kernel_rfl

/-- Cells that were set to 0. -/
def zeros (R : List Nat) (cs : List Value) : List Value := R.foldl (fun c o => c.set o (.int .i64 0)) cs
theorem zeros_snoc (R : List Nat) (o : Nat) (cs : List Value) : zeros (R ++ [o]) cs = (zeros R cs).set o (.int .i64 0) := by simp [zeros]
theorem zeros_at {R : List Nat} {o : Nat} (h : o ∉ R) (cs : List Value) : (zeros R cs)[o]? = cs[o]? := by
  induction R generalizing cs with
  | nil => rfl
  | cons q R ih =>
    show (zeros R (cs.set q (.int .i64 0)))[o]? = _
    rw [ih (fun hq => h (List.mem_cons_of_mem _ hq)), List.getElem?_set_ne]
    rintro rfl
    exact h (List.mem_cons_self ..)

/-- An event without its own numbers. -/
def bare (e : Ev) : Ev := ⟨e.id, e.worker, e.at_, e.kind, 0, 0, 0, 0, 0, 0, 0⟩
def ownIx (k : Int) : List Nat := if k = 3 then [4, 5, 6, 7, 8, 9] else if k = 4 then [10] else []
theorem ownIx_nodup (k : Int) : (ownIx k).Nodup := by
  unfold ownIx
  split
  · decide
  · split <;> decide
theorem own_vals (e : Ev) {k : Nat} {o : Nat} (h : (ownIx e.kind)[k]? = some o) : ∃ x, (ownE e)[k]? = some x ∧ (encV e)[o]? = some (.int .i64 x) := by
  unfold ownIx at h
  unfold ownE
  split at h
  · rename_i h3
    rw [if_pos h3]
    match k, h with
    | 0, h => cases h; exact ⟨_, rfl, rfl⟩
    | 1, h => cases h; exact ⟨_, rfl, rfl⟩
    | 2, h => cases h; exact ⟨_, rfl, rfl⟩
    | 3, h => cases h; exact ⟨_, rfl, rfl⟩
    | 4, h => cases h; exact ⟨_, rfl, rfl⟩
    | 5, h => cases h; exact ⟨_, rfl, rfl⟩
  · rename_i h3
    rw [if_neg h3]
    split at h
    · rename_i h4
      rw [if_pos h4]
      match k, h with
      | 0, h => cases h; exact ⟨_, rfl, rfl⟩
    · simp at h
theorem ownIx_len (e : Ev) : (ownIx e.kind).length = (ownE e).length := by
  unfold ownIx ownE
  split
  · rfl
  · split <;> rfl
/-- The event when its own numbers are set to 0. -/
def stripE (e : Ev) : Ev := if e.kind = 3 then { e with fr := 0, to := 0, element := 0, units := 0, cls := 0, gear := 0 } else if e.kind = 4 then { e with code := 0 } else e
theorem zeros_all (e : Ev) : zeros (ownIx e.kind) (encV e) = encV (stripE e) := by
  unfold ownIx stripE
  split
  · rfl
  · split <;> rfl
theorem strip_bare (e : Ev) (hk : 1 ≤ e.kind ∧ e.kind ≤ 7) (hi : 0 ≤ e.id ∧ e.id ≤ 100000) (hw : 0 ≤ e.worker) (ha : 0 ≤ e.at_ ∧ e.at_ ≤ 31449599) (ho : ∀ n ∈ ownE e, 0 ≤ n) : decide (stripE e = bare e) = fairB e := by
  rw [Bool.eq_iff_iff, decide_eq_true_iff, fairB_iff]
  unfold stripE bare
  unfold ownE at ho
  by_cases h3 : e.kind = 3
  · rw [if_pos h3] at ho ⊢
    simp at ho
    constructor
    · intro h
      have := congrArg Ev.code h
      simp only at this
      exact ⟨hk, hi, hw, ha, ⟨ho.1, ho.2.1, ho.2.2.1, ho.2.2.2.1, ho.2.2.2.2.1, ho.2.2.2.2.2, by omega⟩, fun h => absurd h3 h, fun _ => this⟩
    · rintro ⟨_, _, _, _, _, _, h⟩
      have := h (by omega)
      cases e; simp_all
  · rw [if_neg h3] at ho ⊢
    by_cases h4 : e.kind = 4
    · rw [if_pos h4] at ho ⊢
      simp at ho
      constructor
      · intro h
        have h1 := congrArg Ev.fr h; have h2 := congrArg Ev.to h; have h5 := congrArg Ev.element h; have h6 := congrArg Ev.units h; have h7 := congrArg Ev.cls h; have h8 := congrArg Ev.gear h
        simp only at h1 h2 h5 h6 h7 h8
        exact ⟨hk, hi, hw, ha, ⟨by omega, by omega, by omega, by omega, by omega, by omega, ho⟩, fun _ => ⟨h1, h2, h5, h6, h7, h8⟩, fun h => absurd h4 h⟩
      · rintro ⟨_, _, _, _, _, h, _⟩
        obtain ⟨z1, z2, z3, z4, z5, z6⟩ := h h3
        cases e; simp_all
    · rw [if_neg h4]
      constructor
      · intro h
        have h1 := congrArg Ev.fr h; have h2 := congrArg Ev.to h; have h5 := congrArg Ev.element h; have h6 := congrArg Ev.units h; have h7 := congrArg Ev.cls h; have h8 := congrArg Ev.gear h; have h9 := congrArg Ev.code h
        simp only at h1 h2 h5 h6 h7 h8 h9
        exact ⟨hk, hi, hw, ha, ⟨by omega, by omega, by omega, by omega, by omega, by omega, by omega⟩, fun _ => ⟨h1, h2, h5, h6, h7, h8⟩, fun _ => h9⟩
      · rintro ⟨_, _, _, _, _, h, h'⟩
        obtain ⟨z1, z2, z3, z4, z5, z6⟩ := h h3
        have z7 := h' h4
        cases e; simp_all

theorem pOwnE {w : World} {g : Nat} {e : Ev} (hb : Bx w g (encV e) 23) : Calls Try.prog 63 #[.pointer (some ⟨g, 0, none⟩)] w (RetOwn w g (ownIx e.kind) (decide (1 ≤ e.kind ∧ e.kind ≤ 7))) :=
  ownE_Walk hb _ _ ⟨rfl, rfl⟩
end Go.Proofs.Ytmbjbbflhlndcaa
