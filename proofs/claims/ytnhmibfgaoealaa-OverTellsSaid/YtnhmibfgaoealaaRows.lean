/-
  No cell of these rows narrows 'for every input' (looked for: loops, veiled, ifaces, maps, wideKeys, modest, calm, conditions, laid).
  DERIVED. THE GIVEN ROWS OF THIS SEAT. 23 by the template 'for every input the law returns true; each argument reads behind the call as it read before'; 0 by the template 'total and deterministic' (their statements: YtnhmibfgaoealaaTotals.lean).
  GIVEN WITH THE SEED: the statements are not yours to turn. If you find one false, say at which input.
  Laid BY PROGRAM, IN A SANDBOX (cutbox-rows.mjs): the forced cells as the released guide's own fill.sh prints them over the translation 94dc81d2680c8d85… (all of the seat's roots in one cut). By AI agents, Wed Nov 11 2026. No macro, syntax, notation, axiom, sorry.
-/
import Derived.Test.YtnhmibfgaoealaaChecked
import GoSem.Claim
import GoSem.ClaimJoined
import GoSem.ClaimMapViews
import Derived.JoinedTies
import Derived.KernelRfl
namespace Go.Proofs.Ytnhmibfgaoealaa
/- THE CELL 'sum', in the pinned program and in every row, IS THE sha256 OF THE DUMP (.gsa) THAT YtnhmibfgaoealaaProg.lean LOADS. Nothing in Lean hashes anything: it is a label: what it is worth is what the hold of that sum in a sandbox is worth. -/
noncomputable def Try.pinned : Pinned := { name := "ytnhmibfgaoealaa", sum := "94dc81d2680c8d857085bcde307bea99d39a469e945c84e5fa46f3cbf1d0eb54", checked := Try.checked }
namespace Rows
def none {H : Type} : Left H := { results := [], args := [] }

/-- 'lumperlaw11.PunchRounds': WHATEVER THE INPUT: true; the input reads as it did. -/
def punchRoundsSpec : ChangeSpec := { name := "punchRounds", fn := fun _ => fun
  | [d1, d2, d3] => { results := [.lit (.bool true)], args := [d1, d2, d3] }
  | _ => none }
def punchRoundsRow : OpenClaim := { program := "ytnhmibfgaoealaa", sum := "94dc81d2680c8d857085bcde307bea99d39a469e945c84e5fa46f3cbf1d0eb54", func := "lumper/lumperlaw11.PunchRounds", spec := "punchRounds", unfollowed := true, recurses := true, apart := false }
def PunchRoundsSaid : Prop := punchRoundsRow.holds Try.pinned (OpenSpec.ofChange punchRoundsSpec)

/-- ITS FALSE NEIGHBOUR: 'it returns false'. Refute it at one input. -/
def punchRoundsWrong : ChangeSpec := { name := "punchRounds", fn := fun _ => fun
  | [d1, d2, d3] => { results := [.lit (.bool false)], args := [d1, d2, d3] }
  | _ => none }
def PunchRoundsWrongFalsely : Prop := punchRoundsRow.holds Try.pinned (OpenSpec.ofChange punchRoundsWrong)

/-- 'lumperlaw11.PunchDays': WHATEVER THE INPUT: true; the input reads as it did. -/
def punchDaysSpec : ChangeSpec := { name := "punchDays", fn := fun _ => fun
  | [d1, d2] => { results := [.lit (.bool true)], args := [d1, d2] }
  | _ => none }
def punchDaysRow : OpenClaim := { program := "ytnhmibfgaoealaa", sum := "94dc81d2680c8d857085bcde307bea99d39a469e945c84e5fa46f3cbf1d0eb54", func := "lumper/lumperlaw11.PunchDays", spec := "punchDays", unfollowed := true, recurses := true, apart := false }
def PunchDaysSaid : Prop := punchDaysRow.holds Try.pinned (OpenSpec.ofChange punchDaysSpec)

/-- ITS FALSE NEIGHBOUR: 'it returns false'. Refute it at one input. -/
def punchDaysWrong : ChangeSpec := { name := "punchDays", fn := fun _ => fun
  | [d1, d2] => { results := [.lit (.bool false)], args := [d1, d2] }
  | _ => none }
def PunchDaysWrongFalsely : Prop := punchDaysRow.holds Try.pinned (OpenSpec.ofChange punchDaysWrong)

/-- 'lumperlaw11.PunchParts': WHATEVER THE INPUT: true; the input reads as it did. -/
def punchPartsSpec : ChangeSpec := { name := "punchParts", fn := fun _ => fun
  | [d1, d2] => { results := [.lit (.bool true)], args := [d1, d2] }
  | _ => none }
def punchPartsRow : OpenClaim := { program := "ytnhmibfgaoealaa", sum := "94dc81d2680c8d857085bcde307bea99d39a469e945c84e5fa46f3cbf1d0eb54", func := "lumper/lumperlaw11.PunchParts", spec := "punchParts", unfollowed := true, recurses := true, apart := false }
def PunchPartsSaid : Prop := punchPartsRow.holds Try.pinned (OpenSpec.ofChange punchPartsSpec)

/-- ITS FALSE NEIGHBOUR: 'it returns false'. Refute it at one input. -/
def punchPartsWrong : ChangeSpec := { name := "punchParts", fn := fun _ => fun
  | [d1, d2] => { results := [.lit (.bool false)], args := [d1, d2] }
  | _ => none }
def PunchPartsWrongFalsely : Prop := punchPartsRow.holds Try.pinned (OpenSpec.ofChange punchPartsWrong)

/-- 'lumperlaw03.SpanTells': WHATEVER THE INPUT: true; the input reads as it did. -/
def spanTellsSpec : ChangeSpec := { name := "spanTells", fn := fun _ => fun
  | [d1, d2, d3, d4] => { results := [.lit (.bool true)], args := [d1, d2, d3, d4] }
  | _ => none }
def spanTellsRow : OpenClaim := { program := "ytnhmibfgaoealaa", sum := "94dc81d2680c8d857085bcde307bea99d39a469e945c84e5fa46f3cbf1d0eb54", func := "lumper/lumperlaw03.SpanTells", spec := "spanTells", unfollowed := true, recurses := true, apart := false }
def SpanTellsSaid : Prop := spanTellsRow.holds Try.pinned (OpenSpec.ofChange spanTellsSpec)

/-- ITS FALSE NEIGHBOUR: 'it returns false'. Refute it at one input. -/
def spanTellsWrong : ChangeSpec := { name := "spanTells", fn := fun _ => fun
  | [d1, d2, d3, d4] => { results := [.lit (.bool false)], args := [d1, d2, d3, d4] }
  | _ => none }
def SpanTellsWrongFalsely : Prop := spanTellsRow.holds Try.pinned (OpenSpec.ofChange spanTellsWrong)

/-- 'lumperlaw03.SpanHas': WHATEVER THE INPUT: true; the input reads as it did. -/
def spanHasSpec : ChangeSpec := { name := "spanHas", fn := fun _ => fun
  | [d1, d2, d3] => { results := [.lit (.bool true)], args := [d1, d2, d3] }
  | _ => none }
def spanHasRow : OpenClaim := { program := "ytnhmibfgaoealaa", sum := "94dc81d2680c8d857085bcde307bea99d39a469e945c84e5fa46f3cbf1d0eb54", func := "lumper/lumperlaw03.SpanHas", spec := "spanHas", unfollowed := true, recurses := true, apart := false }
def SpanHasSaid : Prop := spanHasRow.holds Try.pinned (OpenSpec.ofChange spanHasSpec)

/-- ITS FALSE NEIGHBOUR: 'it returns false'. Refute it at one input. -/
def spanHasWrong : ChangeSpec := { name := "spanHas", fn := fun _ => fun
  | [d1, d2, d3] => { results := [.lit (.bool false)], args := [d1, d2, d3] }
  | _ => none }
def SpanHasWrongFalsely : Prop := spanHasRow.holds Try.pinned (OpenSpec.ofChange spanHasWrong)

/-- 'lumperlaw03.SpanPlain': WHATEVER THE INPUT: true; the input reads as it did. -/
def spanPlainSpec : ChangeSpec := { name := "spanPlain", fn := fun _ => fun
  | [d1, d2, d3] => { results := [.lit (.bool true)], args := [d1, d2, d3] }
  | _ => none }
def spanPlainRow : OpenClaim := { program := "ytnhmibfgaoealaa", sum := "94dc81d2680c8d857085bcde307bea99d39a469e945c84e5fa46f3cbf1d0eb54", func := "lumper/lumperlaw03.SpanPlain", spec := "spanPlain", unfollowed := true, recurses := true, apart := false }
def SpanPlainSaid : Prop := spanPlainRow.holds Try.pinned (OpenSpec.ofChange spanPlainSpec)

/-- ITS FALSE NEIGHBOUR: 'it returns false'. Refute it at one input. -/
def spanPlainWrong : ChangeSpec := { name := "spanPlain", fn := fun _ => fun
  | [d1, d2, d3] => { results := [.lit (.bool false)], args := [d1, d2, d3] }
  | _ => none }
def SpanPlainWrongFalsely : Prop := spanPlainRow.holds Try.pinned (OpenSpec.ofChange spanPlainWrong)

/-- 'lumperlaw03.SpanSizes': WHATEVER THE INPUT: true; the input reads as it did. -/
def spanSizesSpec : ChangeSpec := { name := "spanSizes", fn := fun _ => fun
  | [d1, d2] => { results := [.lit (.bool true)], args := [d1, d2] }
  | _ => none }
def spanSizesRow : OpenClaim := { program := "ytnhmibfgaoealaa", sum := "94dc81d2680c8d857085bcde307bea99d39a469e945c84e5fa46f3cbf1d0eb54", func := "lumper/lumperlaw03.SpanSizes", spec := "spanSizes", unfollowed := true, recurses := true, apart := false }
def SpanSizesSaid : Prop := spanSizesRow.holds Try.pinned (OpenSpec.ofChange spanSizesSpec)

/-- ITS FALSE NEIGHBOUR: 'it returns false'. Refute it at one input. -/
def spanSizesWrong : ChangeSpec := { name := "spanSizes", fn := fun _ => fun
  | [d1, d2] => { results := [.lit (.bool false)], args := [d1, d2] }
  | _ => none }
def SpanSizesWrongFalsely : Prop := spanSizesRow.holds Try.pinned (OpenSpec.ofChange spanSizesWrong)

/-- 'lumperlaw03.SpanEnds': WHATEVER THE INPUT: true; the input reads as it did. -/
def spanEndsSpec : ChangeSpec := { name := "spanEnds", fn := fun _ => fun
  | [d1, d2] => { results := [.lit (.bool true)], args := [d1, d2] }
  | _ => none }
def spanEndsRow : OpenClaim := { program := "ytnhmibfgaoealaa", sum := "94dc81d2680c8d857085bcde307bea99d39a469e945c84e5fa46f3cbf1d0eb54", func := "lumper/lumperlaw03.SpanEnds", spec := "spanEnds", unfollowed := true, recurses := true, apart := false }
def SpanEndsSaid : Prop := spanEndsRow.holds Try.pinned (OpenSpec.ofChange spanEndsSpec)

/-- ITS FALSE NEIGHBOUR: 'it returns false'. Refute it at one input. -/
def spanEndsWrong : ChangeSpec := { name := "spanEnds", fn := fun _ => fun
  | [d1, d2] => { results := [.lit (.bool false)], args := [d1, d2] }
  | _ => none }
def SpanEndsWrongFalsely : Prop := spanEndsRow.holds Try.pinned (OpenSpec.ofChange spanEndsWrong)

/-- 'lumperlaw03.SpanOrder': WHATEVER THE INPUT: true; the input reads as it did. -/
def spanOrderSpec : ChangeSpec := { name := "spanOrder", fn := fun _ => fun
  | [d1, d2, d3] => { results := [.lit (.bool true)], args := [d1, d2, d3] }
  | _ => none }
def spanOrderRow : OpenClaim := { program := "ytnhmibfgaoealaa", sum := "94dc81d2680c8d857085bcde307bea99d39a469e945c84e5fa46f3cbf1d0eb54", func := "lumper/lumperlaw03.SpanOrder", spec := "spanOrder", unfollowed := true, recurses := true, apart := false }
def SpanOrderSaid : Prop := spanOrderRow.holds Try.pinned (OpenSpec.ofChange spanOrderSpec)

/-- ITS FALSE NEIGHBOUR: 'it returns false'. Refute it at one input. -/
def spanOrderWrong : ChangeSpec := { name := "spanOrder", fn := fun _ => fun
  | [d1, d2, d3] => { results := [.lit (.bool false)], args := [d1, d2, d3] }
  | _ => none }
def SpanOrderWrongFalsely : Prop := spanOrderRow.holds Try.pinned (OpenSpec.ofChange spanOrderWrong)

/-- 'lumperlaw11.PunchHas': WHATEVER THE INPUT: true; the input reads as it did. -/
def punchHasSpec : ChangeSpec := { name := "punchHas", fn := fun _ => fun
  | [d1, d2, d3] => { results := [.lit (.bool true)], args := [d1, d2, d3] }
  | _ => none }
def punchHasRow : OpenClaim := { program := "ytnhmibfgaoealaa", sum := "94dc81d2680c8d857085bcde307bea99d39a469e945c84e5fa46f3cbf1d0eb54", func := "lumper/lumperlaw11.PunchHas", spec := "punchHas", unfollowed := true, recurses := true, apart := false }
def PunchHasSaid : Prop := punchHasRow.holds Try.pinned (OpenSpec.ofChange punchHasSpec)

/-- ITS FALSE NEIGHBOUR: 'it returns false'. Refute it at one input. -/
def punchHasWrong : ChangeSpec := { name := "punchHas", fn := fun _ => fun
  | [d1, d2, d3] => { results := [.lit (.bool false)], args := [d1, d2, d3] }
  | _ => none }
def PunchHasWrongFalsely : Prop := punchHasRow.holds Try.pinned (OpenSpec.ofChange punchHasWrong)

/-- 'lumperlaw14.NightTells': WHATEVER THE INPUT: true; the input reads as it did. -/
def nightTellsSpec : ChangeSpec := { name := "nightTells", fn := fun _ => fun
  | [d1, d2, d3] => { results := [.lit (.bool true)], args := [d1, d2, d3] }
  | _ => none }
def nightTellsRow : OpenClaim := { program := "ytnhmibfgaoealaa", sum := "94dc81d2680c8d857085bcde307bea99d39a469e945c84e5fa46f3cbf1d0eb54", func := "lumper/lumperlaw14.NightTells", spec := "nightTells", unfollowed := true, recurses := true, apart := false }
def NightTellsSaid : Prop := nightTellsRow.holds Try.pinned (OpenSpec.ofChange nightTellsSpec)

/-- ITS FALSE NEIGHBOUR: 'it returns false'. Refute it at one input. -/
def nightTellsWrong : ChangeSpec := { name := "nightTells", fn := fun _ => fun
  | [d1, d2, d3] => { results := [.lit (.bool false)], args := [d1, d2, d3] }
  | _ => none }
def NightTellsWrongFalsely : Prop := nightTellsRow.holds Try.pinned (OpenSpec.ofChange nightTellsWrong)

/-- 'lumperlaw14.NightHas': WHATEVER THE INPUT: true; the input reads as it did. -/
def nightHasSpec : ChangeSpec := { name := "nightHas", fn := fun _ => fun
  | [d1, d2, d3] => { results := [.lit (.bool true)], args := [d1, d2, d3] }
  | _ => none }
def nightHasRow : OpenClaim := { program := "ytnhmibfgaoealaa", sum := "94dc81d2680c8d857085bcde307bea99d39a469e945c84e5fa46f3cbf1d0eb54", func := "lumper/lumperlaw14.NightHas", spec := "nightHas", unfollowed := true, recurses := true, apart := false }
def NightHasSaid : Prop := nightHasRow.holds Try.pinned (OpenSpec.ofChange nightHasSpec)

/-- ITS FALSE NEIGHBOUR: 'it returns false'. Refute it at one input. -/
def nightHasWrong : ChangeSpec := { name := "nightHas", fn := fun _ => fun
  | [d1, d2, d3] => { results := [.lit (.bool false)], args := [d1, d2, d3] }
  | _ => none }
def NightHasWrongFalsely : Prop := nightHasRow.holds Try.pinned (OpenSpec.ofChange nightHasWrong)

/-- 'lumperlaw14.NightDays': WHATEVER THE INPUT: true; the input reads as it did. -/
def nightDaysSpec : ChangeSpec := { name := "nightDays", fn := fun _ => fun
  | [d1, d2, d3, d4] => { results := [.lit (.bool true)], args := [d1, d2, d3, d4] }
  | _ => none }
def nightDaysRow : OpenClaim := { program := "ytnhmibfgaoealaa", sum := "94dc81d2680c8d857085bcde307bea99d39a469e945c84e5fa46f3cbf1d0eb54", func := "lumper/lumperlaw14.NightDays", spec := "nightDays", unfollowed := true, recurses := true, apart := false }
def NightDaysSaid : Prop := nightDaysRow.holds Try.pinned (OpenSpec.ofChange nightDaysSpec)

/-- ITS FALSE NEIGHBOUR: 'it returns false'. Refute it at one input. -/
def nightDaysWrong : ChangeSpec := { name := "nightDays", fn := fun _ => fun
  | [d1, d2, d3, d4] => { results := [.lit (.bool false)], args := [d1, d2, d3, d4] }
  | _ => none }
def NightDaysWrongFalsely : Prop := nightDaysRow.holds Try.pinned (OpenSpec.ofChange nightDaysWrong)

/-- 'lumperlaw14.NightSizes': WHATEVER THE INPUT: true; the input reads as it did. -/
def nightSizesSpec : ChangeSpec := { name := "nightSizes", fn := fun _ => fun
  | [d1, d2, d3] => { results := [.lit (.bool true)], args := [d1, d2, d3] }
  | _ => none }
def nightSizesRow : OpenClaim := { program := "ytnhmibfgaoealaa", sum := "94dc81d2680c8d857085bcde307bea99d39a469e945c84e5fa46f3cbf1d0eb54", func := "lumper/lumperlaw14.NightSizes", spec := "nightSizes", unfollowed := true, recurses := true, apart := false }
def NightSizesSaid : Prop := nightSizesRow.holds Try.pinned (OpenSpec.ofChange nightSizesSpec)

/-- ITS FALSE NEIGHBOUR: 'it returns false'. Refute it at one input. -/
def nightSizesWrong : ChangeSpec := { name := "nightSizes", fn := fun _ => fun
  | [d1, d2, d3] => { results := [.lit (.bool false)], args := [d1, d2, d3] }
  | _ => none }
def NightSizesWrongFalsely : Prop := nightSizesRow.holds Try.pinned (OpenSpec.ofChange nightSizesWrong)

/-- 'lumperlaw14.NightTurns': WHATEVER THE INPUT: true; the input reads as it did. -/
def nightTurnsSpec : ChangeSpec := { name := "nightTurns", fn := fun _ => fun
  | [d1, d2] => { results := [.lit (.bool true)], args := [d1, d2] }
  | _ => none }
def nightTurnsRow : OpenClaim := { program := "ytnhmibfgaoealaa", sum := "94dc81d2680c8d857085bcde307bea99d39a469e945c84e5fa46f3cbf1d0eb54", func := "lumper/lumperlaw14.NightTurns", spec := "nightTurns", unfollowed := true, recurses := true, apart := false }
def NightTurnsSaid : Prop := nightTurnsRow.holds Try.pinned (OpenSpec.ofChange nightTurnsSpec)

/-- ITS FALSE NEIGHBOUR: 'it returns false'. Refute it at one input. -/
def nightTurnsWrong : ChangeSpec := { name := "nightTurns", fn := fun _ => fun
  | [d1, d2] => { results := [.lit (.bool false)], args := [d1, d2] }
  | _ => none }
def NightTurnsWrongFalsely : Prop := nightTurnsRow.holds Try.pinned (OpenSpec.ofChange nightTurnsWrong)

/-- 'lumperlaw16.OverTells': WHATEVER THE INPUT: true; the input reads as it did. -/
def overTellsSpec : ChangeSpec := { name := "overTells", fn := fun _ => fun
  | [d1, d2, d3] => { results := [.lit (.bool true)], args := [d1, d2, d3] }
  | _ => none }
def overTellsRow : OpenClaim := { program := "ytnhmibfgaoealaa", sum := "94dc81d2680c8d857085bcde307bea99d39a469e945c84e5fa46f3cbf1d0eb54", func := "lumper/lumperlaw16.OverTells", spec := "overTells", unfollowed := true, recurses := true, apart := false }
def OverTellsSaid : Prop := overTellsRow.holds Try.pinned (OpenSpec.ofChange overTellsSpec)

/-- ITS FALSE NEIGHBOUR: 'it returns false'. Refute it at one input. -/
def overTellsWrong : ChangeSpec := { name := "overTells", fn := fun _ => fun
  | [d1, d2, d3] => { results := [.lit (.bool false)], args := [d1, d2, d3] }
  | _ => none }
def OverTellsWrongFalsely : Prop := overTellsRow.holds Try.pinned (OpenSpec.ofChange overTellsWrong)

/-- 'lumperlaw16.OverWeeks': WHATEVER THE INPUT: true; the input reads as it did. -/
def overWeeksSpec : ChangeSpec := { name := "overWeeks", fn := fun _ => fun
  | [d1, d2, d3, d4] => { results := [.lit (.bool true)], args := [d1, d2, d3, d4] }
  | _ => none }
def overWeeksRow : OpenClaim := { program := "ytnhmibfgaoealaa", sum := "94dc81d2680c8d857085bcde307bea99d39a469e945c84e5fa46f3cbf1d0eb54", func := "lumper/lumperlaw16.OverWeeks", spec := "overWeeks", unfollowed := true, recurses := true, apart := false }
def OverWeeksSaid : Prop := overWeeksRow.holds Try.pinned (OpenSpec.ofChange overWeeksSpec)

/-- ITS FALSE NEIGHBOUR: 'it returns false'. Refute it at one input. -/
def overWeeksWrong : ChangeSpec := { name := "overWeeks", fn := fun _ => fun
  | [d1, d2, d3, d4] => { results := [.lit (.bool false)], args := [d1, d2, d3, d4] }
  | _ => none }
def OverWeeksWrongFalsely : Prop := overWeeksRow.holds Try.pinned (OpenSpec.ofChange overWeeksWrong)

/-- 'lumperlaw16.OverMakes': WHATEVER THE INPUT: true; the input reads as it did. -/
def overMakesSpec : ChangeSpec := { name := "overMakes", fn := fun _ => fun
  | [d1, d2, d3] => { results := [.lit (.bool true)], args := [d1, d2, d3] }
  | _ => none }
def overMakesRow : OpenClaim := { program := "ytnhmibfgaoealaa", sum := "94dc81d2680c8d857085bcde307bea99d39a469e945c84e5fa46f3cbf1d0eb54", func := "lumper/lumperlaw16.OverMakes", spec := "overMakes", unfollowed := true, recurses := true, apart := false }
def OverMakesSaid : Prop := overMakesRow.holds Try.pinned (OpenSpec.ofChange overMakesSpec)

/-- ITS FALSE NEIGHBOUR: 'it returns false'. Refute it at one input. -/
def overMakesWrong : ChangeSpec := { name := "overMakes", fn := fun _ => fun
  | [d1, d2, d3] => { results := [.lit (.bool false)], args := [d1, d2, d3] }
  | _ => none }
def OverMakesWrongFalsely : Prop := overMakesRow.holds Try.pinned (OpenSpec.ofChange overMakesWrong)

/-- 'lumperlaw16.OverSizes': WHATEVER THE INPUT: true; the input reads as it did. -/
def overSizesSpec : ChangeSpec := { name := "overSizes", fn := fun _ => fun
  | [d1, d2, d3] => { results := [.lit (.bool true)], args := [d1, d2, d3] }
  | _ => none }
def overSizesRow : OpenClaim := { program := "ytnhmibfgaoealaa", sum := "94dc81d2680c8d857085bcde307bea99d39a469e945c84e5fa46f3cbf1d0eb54", func := "lumper/lumperlaw16.OverSizes", spec := "overSizes", unfollowed := true, recurses := true, apart := false }
def OverSizesSaid : Prop := overSizesRow.holds Try.pinned (OpenSpec.ofChange overSizesSpec)

/-- ITS FALSE NEIGHBOUR: 'it returns false'. Refute it at one input. -/
def overSizesWrong : ChangeSpec := { name := "overSizes", fn := fun _ => fun
  | [d1, d2, d3] => { results := [.lit (.bool false)], args := [d1, d2, d3] }
  | _ => none }
def OverSizesWrongFalsely : Prop := overSizesRow.holds Try.pinned (OpenSpec.ofChange overSizesWrong)

/-- 'lumperlaw15.BreaksMake': WHATEVER THE INPUT: true; the input reads as it did. -/
def breaksMakeSpec : ChangeSpec := { name := "breaksMake", fn := fun _ => fun
  | [d1, d2] => { results := [.lit (.bool true)], args := [d1, d2] }
  | _ => none }
def breaksMakeRow : OpenClaim := { program := "ytnhmibfgaoealaa", sum := "94dc81d2680c8d857085bcde307bea99d39a469e945c84e5fa46f3cbf1d0eb54", func := "lumper/lumperlaw15.BreaksMake", spec := "breaksMake", unfollowed := true, recurses := true, apart := false }
def BreaksMakeSaid : Prop := breaksMakeRow.holds Try.pinned (OpenSpec.ofChange breaksMakeSpec)

/-- ITS FALSE NEIGHBOUR: 'it returns false'. Refute it at one input. -/
def breaksMakeWrong : ChangeSpec := { name := "breaksMake", fn := fun _ => fun
  | [d1, d2] => { results := [.lit (.bool false)], args := [d1, d2] }
  | _ => none }
def BreaksMakeWrongFalsely : Prop := breaksMakeRow.holds Try.pinned (OpenSpec.ofChange breaksMakeWrong)

/-- 'lumperlaw15.BreaksSizes': WHATEVER THE INPUT: true; the input reads as it did. -/
def breaksSizesSpec : ChangeSpec := { name := "breaksSizes", fn := fun _ => fun
  | [d1, d2, d3] => { results := [.lit (.bool true)], args := [d1, d2, d3] }
  | _ => none }
def breaksSizesRow : OpenClaim := { program := "ytnhmibfgaoealaa", sum := "94dc81d2680c8d857085bcde307bea99d39a469e945c84e5fa46f3cbf1d0eb54", func := "lumper/lumperlaw15.BreaksSizes", spec := "breaksSizes", unfollowed := true, recurses := true, apart := false }
def BreaksSizesSaid : Prop := breaksSizesRow.holds Try.pinned (OpenSpec.ofChange breaksSizesSpec)

/-- ITS FALSE NEIGHBOUR: 'it returns false'. Refute it at one input. -/
def breaksSizesWrong : ChangeSpec := { name := "breaksSizes", fn := fun _ => fun
  | [d1, d2, d3] => { results := [.lit (.bool false)], args := [d1, d2, d3] }
  | _ => none }
def BreaksSizesWrongFalsely : Prop := breaksSizesRow.holds Try.pinned (OpenSpec.ofChange breaksSizesWrong)

/-- 'lumperlaw15.BreaksDays': WHATEVER THE INPUT: true; the input reads as it did. -/
def breaksDaysSpec : ChangeSpec := { name := "breaksDays", fn := fun _ => fun
  | [d1, d2, d3] => { results := [.lit (.bool true)], args := [d1, d2, d3] }
  | _ => none }
def breaksDaysRow : OpenClaim := { program := "ytnhmibfgaoealaa", sum := "94dc81d2680c8d857085bcde307bea99d39a469e945c84e5fa46f3cbf1d0eb54", func := "lumper/lumperlaw15.BreaksDays", spec := "breaksDays", unfollowed := true, recurses := true, apart := false }
def BreaksDaysSaid : Prop := breaksDaysRow.holds Try.pinned (OpenSpec.ofChange breaksDaysSpec)

/-- ITS FALSE NEIGHBOUR: 'it returns false'. Refute it at one input. -/
def breaksDaysWrong : ChangeSpec := { name := "breaksDays", fn := fun _ => fun
  | [d1, d2, d3] => { results := [.lit (.bool false)], args := [d1, d2, d3] }
  | _ => none }
def BreaksDaysWrongFalsely : Prop := breaksDaysRow.holds Try.pinned (OpenSpec.ofChange breaksDaysWrong)

/-- 'lumperlaw15.BreaksFirst': WHATEVER THE INPUT: true; the input reads as it did. -/
def breaksFirstSpec : ChangeSpec := { name := "breaksFirst", fn := fun _ => fun
  | [d1, d2, d3] => { results := [.lit (.bool true)], args := [d1, d2, d3] }
  | _ => none }
def breaksFirstRow : OpenClaim := { program := "ytnhmibfgaoealaa", sum := "94dc81d2680c8d857085bcde307bea99d39a469e945c84e5fa46f3cbf1d0eb54", func := "lumper/lumperlaw15.BreaksFirst", spec := "breaksFirst", unfollowed := true, recurses := true, apart := false }
def BreaksFirstSaid : Prop := breaksFirstRow.holds Try.pinned (OpenSpec.ofChange breaksFirstSpec)

/-- ITS FALSE NEIGHBOUR: 'it returns false'. Refute it at one input. -/
def breaksFirstWrong : ChangeSpec := { name := "breaksFirst", fn := fun _ => fun
  | [d1, d2, d3] => { results := [.lit (.bool false)], args := [d1, d2, d3] }
  | _ => none }
def BreaksFirstWrongFalsely : Prop := breaksFirstRow.holds Try.pinned (OpenSpec.ofChange breaksFirstWrong)

/- THE SECOND FORM. 'bulk': how many values and letters a reading holds, each counted each time it is reached (what is shared counts as often as it is met; a slice's spare places count too). A statement '..UptoSaid' is the law's where the arguments, and the package variables that the reading takes, are together of bulk at most 1048576: NARROWER than '..Said'. Prove '..Said' where nothing that the law and all that it calls make is longer than what came in: it says more and counts as full. Else prove '..UptoSaid'. A law counts once. -/
mutual
def uptoBulk {H : Type} : DataW H → Nat
  | .lit (.string bytes) => bytes.length + 1
  | .lit _ => 1
  | .nil => 1
  | .ptr d => uptoBulk d + 1
  | .slice elems spare => uptoBulkAll elems + uptoBulkAll spare + 1
  | .agg parts => uptoBulkAll parts + 1
  | .iface _ d => uptoBulk d + 1
  | .map entries => uptoBulkEntries entries + 1
  | .held _ => 1
def uptoBulkAll {H : Type} : List (DataW H) → Nat
  | [] => 0
  | d :: r => uptoBulk d + uptoBulkAll r
def uptoBulkEntries {H : Type} : List (Lit × DataW H) → Nat
  | [] => 0
  | x :: r => uptoBulkEntry x + uptoBulkEntries r
def uptoBulkEntry {H : Type} : Lit × DataW H → Nat
  | (.string bytes, d) => bytes.length + uptoBulk d + 1
  | (_, d) => uptoBulk d + 1
 end
def uptoSmall : (H : Type) → List (DataW H) → Bool := fun _ ds => decide (uptoBulkAll ds ≤ 1048576)
def OpenSpec.upto (s : _root_.Go.ChangeSpec) : _root_.Go.OpenSpec := { _root_.Go.OpenSpec.ofChange s with cond := some uptoSmall }

/-- 'lumperlaw11.PunchRounds', WHERE WHAT IT READS IS OF BULK AT MOST 1048576: true; the input reads as it did. -/
def punchRoundsUptoRow : OpenClaim := { program := "ytnhmibfgaoealaa", sum := "94dc81d2680c8d857085bcde307bea99d39a469e945c84e5fa46f3cbf1d0eb54", func := "lumper/lumperlaw11.PunchRounds", spec := "punchRounds", unfollowed := true, recurses := true, apart := false, narrowed := true }
def PunchRoundsUptoSaid : Prop := punchRoundsUptoRow.holds Try.pinned (OpenSpec.upto punchRoundsSpec)

/-- 'lumperlaw11.PunchDays', WHERE WHAT IT READS IS OF BULK AT MOST 1048576: true; the input reads as it did. -/
def punchDaysUptoRow : OpenClaim := { program := "ytnhmibfgaoealaa", sum := "94dc81d2680c8d857085bcde307bea99d39a469e945c84e5fa46f3cbf1d0eb54", func := "lumper/lumperlaw11.PunchDays", spec := "punchDays", unfollowed := true, recurses := true, apart := false, narrowed := true }
def PunchDaysUptoSaid : Prop := punchDaysUptoRow.holds Try.pinned (OpenSpec.upto punchDaysSpec)

/-- 'lumperlaw11.PunchParts', WHERE WHAT IT READS IS OF BULK AT MOST 1048576: true; the input reads as it did. -/
def punchPartsUptoRow : OpenClaim := { program := "ytnhmibfgaoealaa", sum := "94dc81d2680c8d857085bcde307bea99d39a469e945c84e5fa46f3cbf1d0eb54", func := "lumper/lumperlaw11.PunchParts", spec := "punchParts", unfollowed := true, recurses := true, apart := false, narrowed := true }
def PunchPartsUptoSaid : Prop := punchPartsUptoRow.holds Try.pinned (OpenSpec.upto punchPartsSpec)

/-- 'lumperlaw03.SpanTells', WHERE WHAT IT READS IS OF BULK AT MOST 1048576: true; the input reads as it did. -/
def spanTellsUptoRow : OpenClaim := { program := "ytnhmibfgaoealaa", sum := "94dc81d2680c8d857085bcde307bea99d39a469e945c84e5fa46f3cbf1d0eb54", func := "lumper/lumperlaw03.SpanTells", spec := "spanTells", unfollowed := true, recurses := true, apart := false, narrowed := true }
def SpanTellsUptoSaid : Prop := spanTellsUptoRow.holds Try.pinned (OpenSpec.upto spanTellsSpec)

/-- 'lumperlaw03.SpanHas', WHERE WHAT IT READS IS OF BULK AT MOST 1048576: true; the input reads as it did. -/
def spanHasUptoRow : OpenClaim := { program := "ytnhmibfgaoealaa", sum := "94dc81d2680c8d857085bcde307bea99d39a469e945c84e5fa46f3cbf1d0eb54", func := "lumper/lumperlaw03.SpanHas", spec := "spanHas", unfollowed := true, recurses := true, apart := false, narrowed := true }
def SpanHasUptoSaid : Prop := spanHasUptoRow.holds Try.pinned (OpenSpec.upto spanHasSpec)

/-- 'lumperlaw03.SpanPlain', WHERE WHAT IT READS IS OF BULK AT MOST 1048576: true; the input reads as it did. -/
def spanPlainUptoRow : OpenClaim := { program := "ytnhmibfgaoealaa", sum := "94dc81d2680c8d857085bcde307bea99d39a469e945c84e5fa46f3cbf1d0eb54", func := "lumper/lumperlaw03.SpanPlain", spec := "spanPlain", unfollowed := true, recurses := true, apart := false, narrowed := true }
def SpanPlainUptoSaid : Prop := spanPlainUptoRow.holds Try.pinned (OpenSpec.upto spanPlainSpec)

/-- 'lumperlaw03.SpanSizes', WHERE WHAT IT READS IS OF BULK AT MOST 1048576: true; the input reads as it did. -/
def spanSizesUptoRow : OpenClaim := { program := "ytnhmibfgaoealaa", sum := "94dc81d2680c8d857085bcde307bea99d39a469e945c84e5fa46f3cbf1d0eb54", func := "lumper/lumperlaw03.SpanSizes", spec := "spanSizes", unfollowed := true, recurses := true, apart := false, narrowed := true }
def SpanSizesUptoSaid : Prop := spanSizesUptoRow.holds Try.pinned (OpenSpec.upto spanSizesSpec)

/-- 'lumperlaw03.SpanEnds', WHERE WHAT IT READS IS OF BULK AT MOST 1048576: true; the input reads as it did. -/
def spanEndsUptoRow : OpenClaim := { program := "ytnhmibfgaoealaa", sum := "94dc81d2680c8d857085bcde307bea99d39a469e945c84e5fa46f3cbf1d0eb54", func := "lumper/lumperlaw03.SpanEnds", spec := "spanEnds", unfollowed := true, recurses := true, apart := false, narrowed := true }
def SpanEndsUptoSaid : Prop := spanEndsUptoRow.holds Try.pinned (OpenSpec.upto spanEndsSpec)

/-- 'lumperlaw03.SpanOrder', WHERE WHAT IT READS IS OF BULK AT MOST 1048576: true; the input reads as it did. -/
def spanOrderUptoRow : OpenClaim := { program := "ytnhmibfgaoealaa", sum := "94dc81d2680c8d857085bcde307bea99d39a469e945c84e5fa46f3cbf1d0eb54", func := "lumper/lumperlaw03.SpanOrder", spec := "spanOrder", unfollowed := true, recurses := true, apart := false, narrowed := true }
def SpanOrderUptoSaid : Prop := spanOrderUptoRow.holds Try.pinned (OpenSpec.upto spanOrderSpec)

/-- 'lumperlaw11.PunchHas', WHERE WHAT IT READS IS OF BULK AT MOST 1048576: true; the input reads as it did. -/
def punchHasUptoRow : OpenClaim := { program := "ytnhmibfgaoealaa", sum := "94dc81d2680c8d857085bcde307bea99d39a469e945c84e5fa46f3cbf1d0eb54", func := "lumper/lumperlaw11.PunchHas", spec := "punchHas", unfollowed := true, recurses := true, apart := false, narrowed := true }
def PunchHasUptoSaid : Prop := punchHasUptoRow.holds Try.pinned (OpenSpec.upto punchHasSpec)

/-- 'lumperlaw14.NightTells', WHERE WHAT IT READS IS OF BULK AT MOST 1048576: true; the input reads as it did. -/
def nightTellsUptoRow : OpenClaim := { program := "ytnhmibfgaoealaa", sum := "94dc81d2680c8d857085bcde307bea99d39a469e945c84e5fa46f3cbf1d0eb54", func := "lumper/lumperlaw14.NightTells", spec := "nightTells", unfollowed := true, recurses := true, apart := false, narrowed := true }
def NightTellsUptoSaid : Prop := nightTellsUptoRow.holds Try.pinned (OpenSpec.upto nightTellsSpec)

/-- 'lumperlaw14.NightHas', WHERE WHAT IT READS IS OF BULK AT MOST 1048576: true; the input reads as it did. -/
def nightHasUptoRow : OpenClaim := { program := "ytnhmibfgaoealaa", sum := "94dc81d2680c8d857085bcde307bea99d39a469e945c84e5fa46f3cbf1d0eb54", func := "lumper/lumperlaw14.NightHas", spec := "nightHas", unfollowed := true, recurses := true, apart := false, narrowed := true }
def NightHasUptoSaid : Prop := nightHasUptoRow.holds Try.pinned (OpenSpec.upto nightHasSpec)

/-- 'lumperlaw14.NightDays', WHERE WHAT IT READS IS OF BULK AT MOST 1048576: true; the input reads as it did. -/
def nightDaysUptoRow : OpenClaim := { program := "ytnhmibfgaoealaa", sum := "94dc81d2680c8d857085bcde307bea99d39a469e945c84e5fa46f3cbf1d0eb54", func := "lumper/lumperlaw14.NightDays", spec := "nightDays", unfollowed := true, recurses := true, apart := false, narrowed := true }
def NightDaysUptoSaid : Prop := nightDaysUptoRow.holds Try.pinned (OpenSpec.upto nightDaysSpec)

/-- 'lumperlaw14.NightSizes', WHERE WHAT IT READS IS OF BULK AT MOST 1048576: true; the input reads as it did. -/
def nightSizesUptoRow : OpenClaim := { program := "ytnhmibfgaoealaa", sum := "94dc81d2680c8d857085bcde307bea99d39a469e945c84e5fa46f3cbf1d0eb54", func := "lumper/lumperlaw14.NightSizes", spec := "nightSizes", unfollowed := true, recurses := true, apart := false, narrowed := true }
def NightSizesUptoSaid : Prop := nightSizesUptoRow.holds Try.pinned (OpenSpec.upto nightSizesSpec)

/-- 'lumperlaw14.NightTurns', WHERE WHAT IT READS IS OF BULK AT MOST 1048576: true; the input reads as it did. -/
def nightTurnsUptoRow : OpenClaim := { program := "ytnhmibfgaoealaa", sum := "94dc81d2680c8d857085bcde307bea99d39a469e945c84e5fa46f3cbf1d0eb54", func := "lumper/lumperlaw14.NightTurns", spec := "nightTurns", unfollowed := true, recurses := true, apart := false, narrowed := true }
def NightTurnsUptoSaid : Prop := nightTurnsUptoRow.holds Try.pinned (OpenSpec.upto nightTurnsSpec)

/-- 'lumperlaw16.OverTells', WHERE WHAT IT READS IS OF BULK AT MOST 1048576: true; the input reads as it did. -/
def overTellsUptoRow : OpenClaim := { program := "ytnhmibfgaoealaa", sum := "94dc81d2680c8d857085bcde307bea99d39a469e945c84e5fa46f3cbf1d0eb54", func := "lumper/lumperlaw16.OverTells", spec := "overTells", unfollowed := true, recurses := true, apart := false, narrowed := true }
def OverTellsUptoSaid : Prop := overTellsUptoRow.holds Try.pinned (OpenSpec.upto overTellsSpec)

/-- 'lumperlaw16.OverWeeks', WHERE WHAT IT READS IS OF BULK AT MOST 1048576: true; the input reads as it did. -/
def overWeeksUptoRow : OpenClaim := { program := "ytnhmibfgaoealaa", sum := "94dc81d2680c8d857085bcde307bea99d39a469e945c84e5fa46f3cbf1d0eb54", func := "lumper/lumperlaw16.OverWeeks", spec := "overWeeks", unfollowed := true, recurses := true, apart := false, narrowed := true }
def OverWeeksUptoSaid : Prop := overWeeksUptoRow.holds Try.pinned (OpenSpec.upto overWeeksSpec)

/-- 'lumperlaw16.OverMakes', WHERE WHAT IT READS IS OF BULK AT MOST 1048576: true; the input reads as it did. -/
def overMakesUptoRow : OpenClaim := { program := "ytnhmibfgaoealaa", sum := "94dc81d2680c8d857085bcde307bea99d39a469e945c84e5fa46f3cbf1d0eb54", func := "lumper/lumperlaw16.OverMakes", spec := "overMakes", unfollowed := true, recurses := true, apart := false, narrowed := true }
def OverMakesUptoSaid : Prop := overMakesUptoRow.holds Try.pinned (OpenSpec.upto overMakesSpec)

/-- 'lumperlaw16.OverSizes', WHERE WHAT IT READS IS OF BULK AT MOST 1048576: true; the input reads as it did. -/
def overSizesUptoRow : OpenClaim := { program := "ytnhmibfgaoealaa", sum := "94dc81d2680c8d857085bcde307bea99d39a469e945c84e5fa46f3cbf1d0eb54", func := "lumper/lumperlaw16.OverSizes", spec := "overSizes", unfollowed := true, recurses := true, apart := false, narrowed := true }
def OverSizesUptoSaid : Prop := overSizesUptoRow.holds Try.pinned (OpenSpec.upto overSizesSpec)

/-- 'lumperlaw15.BreaksMake', WHERE WHAT IT READS IS OF BULK AT MOST 1048576: true; the input reads as it did. -/
def breaksMakeUptoRow : OpenClaim := { program := "ytnhmibfgaoealaa", sum := "94dc81d2680c8d857085bcde307bea99d39a469e945c84e5fa46f3cbf1d0eb54", func := "lumper/lumperlaw15.BreaksMake", spec := "breaksMake", unfollowed := true, recurses := true, apart := false, narrowed := true }
def BreaksMakeUptoSaid : Prop := breaksMakeUptoRow.holds Try.pinned (OpenSpec.upto breaksMakeSpec)

/-- 'lumperlaw15.BreaksSizes', WHERE WHAT IT READS IS OF BULK AT MOST 1048576: true; the input reads as it did. -/
def breaksSizesUptoRow : OpenClaim := { program := "ytnhmibfgaoealaa", sum := "94dc81d2680c8d857085bcde307bea99d39a469e945c84e5fa46f3cbf1d0eb54", func := "lumper/lumperlaw15.BreaksSizes", spec := "breaksSizes", unfollowed := true, recurses := true, apart := false, narrowed := true }
def BreaksSizesUptoSaid : Prop := breaksSizesUptoRow.holds Try.pinned (OpenSpec.upto breaksSizesSpec)

/-- 'lumperlaw15.BreaksDays', WHERE WHAT IT READS IS OF BULK AT MOST 1048576: true; the input reads as it did. -/
def breaksDaysUptoRow : OpenClaim := { program := "ytnhmibfgaoealaa", sum := "94dc81d2680c8d857085bcde307bea99d39a469e945c84e5fa46f3cbf1d0eb54", func := "lumper/lumperlaw15.BreaksDays", spec := "breaksDays", unfollowed := true, recurses := true, apart := false, narrowed := true }
def BreaksDaysUptoSaid : Prop := breaksDaysUptoRow.holds Try.pinned (OpenSpec.upto breaksDaysSpec)

/-- 'lumperlaw15.BreaksFirst', WHERE WHAT IT READS IS OF BULK AT MOST 1048576: true; the input reads as it did. -/
def breaksFirstUptoRow : OpenClaim := { program := "ytnhmibfgaoealaa", sum := "94dc81d2680c8d857085bcde307bea99d39a469e945c84e5fa46f3cbf1d0eb54", func := "lumper/lumperlaw15.BreaksFirst", spec := "breaksFirst", unfollowed := true, recurses := true, apart := false, narrowed := true }
def BreaksFirstUptoSaid : Prop := breaksFirstUptoRow.holds Try.pinned (OpenSpec.upto breaksFirstSpec)

end Rows
end Go.Proofs.Ytnhmibfgaoealaa
