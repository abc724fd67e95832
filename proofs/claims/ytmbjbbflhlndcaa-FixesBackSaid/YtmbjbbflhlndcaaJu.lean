/-
  Commands: plain theory, and commands in memory.
-/
import Derived.Test.YtmbjbbflhlndcaaJt
namespace Go.Proofs.Ytmbjbbflhlndcaa
open Go.RowKit BigFrame
set_option linter.unusedVariables false
set_option linter.unusedSimpArgs false

structure Cm where
  kind : Int
  fk : Int
  ev : Ev
  worker : Int
  week : Int
  tear : Int
  deriving DecidableEq
def cm0 : Cm := ⟨0, 0, ev0, 0, 0, 0⟩
def encC (c : Cm) : List Value := [.int .i64 c.kind, .int .i64 c.fk, .int .i64 c.ev.id, .int .i64 c.ev.worker, .int .i64 c.ev.at_, .int .i64 c.ev.kind, .int .i64 c.ev.fr, .int .i64 c.ev.to, .int .i64 c.ev.element, .int .i64 c.ev.units, .int .i64 c.ev.cls, .int .i64 c.ev.gear, .int .i64 c.ev.code, .int .i64 c.worker, .int .i64 c.week, .int .i64 c.tear]
theorem elC : El encC 16 28 27 128 where
  under := Try.underlying28
  info := ⟨.agg #[.int .i64 0, .int .i64 0, .int .i64 0, .int .i64 0, .int .i64 0, .int .i64 0, .int .i64 0, .int .i64 0, .int .i64 0, .int .i64 0, .int .i64 0, .int .i64 0, .int .i64 0, .int .i64 0, .int .i64 0, .int .i64 0], by kernel_rfl, rfl⟩
  len := fun _ => rfl
  one := fun x u h => by simp [encC] at h; rcases h with rfl | rfl | rfl | rfl | rfl | rfl | rfl | rfl | rfl | rfl | rfl | rfl | rfl | rfl | rfl | rfl <;> rfl
  pos := by decide
  few := by decide
abbrev Rc := Rw encC 16
structure Cm64 (c : Cm) : Prop where
  kind : B64 c.kind
  fk : B64 c.fk
  ev : Ev64 c.ev
  worker : B64 c.worker
  week : B64 c.week
  tear : B64 c.tear
def ownCx (k : Int) : List Nat := if k = 2 then [1] else if k = 3 then [13, 14] else if k = 4 then [13] else if k = 5 ∨ k = 6 ∨ k = 7 then [14] else []
def ownC_Tab (k : Int) (R : List Nat) (b : Bool) : Prop := R = (if k = 2 then [1] else if k = 3 then [13, 14] else if k = 4 then [13] else if k = 5 ∨ k = 6 ∨ k = 7 then [14] else []) ∧ b = decide (1 ≤ k ∧ k ≤ 8)
/-- A command's own numbers. -/
def ownC (c : Cm) : List Int := if c.kind = 2 then [c.fk] else if c.kind = 3 then [c.worker, c.week] else if c.kind = 4 then [c.worker] else if c.kind = 5 ∨ c.kind = 6 ∨ c.kind = 7 then [c.week] else []
def wholeC (c : Cm) : Bool := decide (c.kind = 1 ∨ c.kind = 2 ∧ (c.fk = 1 ∨ c.fk = 3))
def partC (c : Cm) : Bool := decide (c.kind = 2 ∧ c.fk = 2)
/-- Is a command plain? -/
def plainC (c : Cm) : Bool := decide ((1 ≤ c.kind ∧ c.kind ≤ 8) ∧ 0 ≤ c.tear ∧ (∀ n ∈ ownC c, 0 ≤ n) ∧
  (if wholeC c = true then fairB c.ev = true else if partC c = true then c.ev = { ev0 with id := c.ev.id } ∧ 0 ≤ c.ev.id ∧ c.ev.id ≤ 100000 else c.kind ≠ 2 ∧ c.ev = ev0) ∧
  (c.kind ≠ 2 → c.fk = 0) ∧ (c.kind ≠ 3 ∧ c.kind ≠ 4 → c.worker = 0) ∧ (c.kind ≠ 3 ∧ ¬ (c.kind = 5 ∨ c.kind = 6 ∨ c.kind = 7) → c.week = 0))
theorem plainC_iff {c : Cm} : plainC c = true ↔ (1 ≤ c.kind ∧ c.kind ≤ 8) ∧ 0 ≤ c.tear ∧ (∀ n ∈ ownC c, 0 ≤ n) ∧
  (if wholeC c = true then fairB c.ev = true else if partC c = true then c.ev = { ev0 with id := c.ev.id } ∧ 0 ≤ c.ev.id ∧ c.ev.id ≤ 100000 else c.kind ≠ 2 ∧ c.ev = ev0) ∧
  (c.kind ≠ 2 → c.fk = 0) ∧ (c.kind ≠ 3 ∧ c.kind ≠ 4 → c.worker = 0) ∧ (c.kind ≠ 3 ∧ ¬ (c.kind = 5 ∨ c.kind = 6 ∨ c.kind = 7) → c.week = 0) := by
  unfold plainC; exact decide_eq_true_iff
/-- A command's bytes. -/
def encM (c : Cm) : List UInt8 := encZ ([c.kind] ++ ownC c) ++ (if partC c = true then encZ [c.ev.id] else []) ++ (if wholeC c = true then encE c.ev else []) ++ encZ [c.tear]
end Go.Proofs.Ytmbjbbflhlndcaa
