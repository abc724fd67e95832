/-
  No cell of these rows narrows 'for every input' (looked for: loops, veiled, ifaces, maps, wideKeys, modest, calm, conditions, laid).
  DERIVED. THE GIVEN ROWS OF THIS SEAT. 15 by the template 'for every input the law returns true; each argument reads behind the call as it read before'; 0 by the template 'total and deterministic' (their statements: YtmbjbbflhlndcaaTotals.lean).
  GIVEN WITH THE SEED: the statements are not yours to turn. If you find one false, say at which input.
  Laid BY PROGRAM, IN A SANDBOX (cutbox-rows.mjs): the forced cells as the released guide's own fill.sh prints them over the translation cbc776023fa1cb22… (all of the seat's roots in one cut). By AI agents, Wed Nov 11 2026. No macro, syntax, notation, axiom, sorry.
-/
import Derived.Test.YtmbjbbflhlndcaaChecked
import GoSem.Claim
import GoSem.ClaimJoined
import GoSem.ClaimMapViews
import Derived.JoinedTies
import Derived.KernelRfl
namespace Go.Proofs.Ytmbjbbflhlndcaa
/- THE CELL 'sum', in the pinned program and in every row, IS THE sha256 OF THE DUMP (.gsa) THAT YtmbjbbflhlndcaaProg.lean LOADS. Nothing in Lean hashes anything: it is a label: what it is worth is what the hold of that sum in a sandbox is worth. -/
noncomputable def Try.pinned : Pinned := { name := "ytmbjbbflhlndcaa", sum := "cbc776023fa1cb2297c8559d42935586144bdaa22617dda23242ccf5e69a6683", checked := Try.checked }
namespace Rows
def none {H : Type} : Left H := { results := [], args := [] }

/-- 'lumperlaw24.CmdsTell': WHATEVER THE INPUT: true; the input reads as it did. -/
def cmdsTellSpec : ChangeSpec := { name := "cmdsTell", fn := fun _ => fun
  | [d1, d2, d3] => { results := [.lit (.bool true)], args := [d1, d2, d3] }
  | _ => none }
def cmdsTellRow : OpenClaim := { program := "ytmbjbbflhlndcaa", sum := "cbc776023fa1cb2297c8559d42935586144bdaa22617dda23242ccf5e69a6683", func := "lumper/lumperlaw24.CmdsTell", spec := "cmdsTell", unfollowed := true, recurses := true, plainKeys := false, apart := false }
def CmdsTellSaid : Prop := cmdsTellRow.holds Try.pinned (OpenSpec.ofChange cmdsTellSpec)

/-- ITS FALSE NEIGHBOUR: 'it returns false'. Refute it at one input. -/
def cmdsTellWrong : ChangeSpec := { name := "cmdsTell", fn := fun _ => fun
  | [d1, d2, d3] => { results := [.lit (.bool false)], args := [d1, d2, d3] }
  | _ => none }
def CmdsTellWrongFalsely : Prop := cmdsTellRow.holds Try.pinned (OpenSpec.ofChange cmdsTellWrong)

/-- 'lumperlaw24.CmdsBack': WHATEVER THE INPUT: true; the input reads as it did. -/
def cmdsBackSpec : ChangeSpec := { name := "cmdsBack", fn := fun _ => fun
  | [d1, d2] => { results := [.lit (.bool true)], args := [d1, d2] }
  | _ => none }
def cmdsBackRow : OpenClaim := { program := "ytmbjbbflhlndcaa", sum := "cbc776023fa1cb2297c8559d42935586144bdaa22617dda23242ccf5e69a6683", func := "lumper/lumperlaw24.CmdsBack", spec := "cmdsBack", unfollowed := true, recurses := true, plainKeys := false, apart := false }
def CmdsBackSaid : Prop := cmdsBackRow.holds Try.pinned (OpenSpec.ofChange cmdsBackSpec)

/-- ITS FALSE NEIGHBOUR: 'it returns false'. Refute it at one input. -/
def cmdsBackWrong : ChangeSpec := { name := "cmdsBack", fn := fun _ => fun
  | [d1, d2] => { results := [.lit (.bool false)], args := [d1, d2] }
  | _ => none }
def CmdsBackWrongFalsely : Prop := cmdsBackRow.holds Try.pinned (OpenSpec.ofChange cmdsBackWrong)

/-- 'lumperlaw24.CmdsJoin': WHATEVER THE INPUT: true; the input reads as it did. -/
def cmdsJoinSpec : ChangeSpec := { name := "cmdsJoin", fn := fun _ => fun
  | [d1, d2, d3] => { results := [.lit (.bool true)], args := [d1, d2, d3] }
  | _ => none }
def cmdsJoinRow : OpenClaim := { program := "ytmbjbbflhlndcaa", sum := "cbc776023fa1cb2297c8559d42935586144bdaa22617dda23242ccf5e69a6683", func := "lumper/lumperlaw24.CmdsJoin", spec := "cmdsJoin", unfollowed := true, recurses := true, plainKeys := false, apart := false }
def CmdsJoinSaid : Prop := cmdsJoinRow.holds Try.pinned (OpenSpec.ofChange cmdsJoinSpec)

/-- ITS FALSE NEIGHBOUR: 'it returns false'. Refute it at one input. -/
def cmdsJoinWrong : ChangeSpec := { name := "cmdsJoin", fn := fun _ => fun
  | [d1, d2, d3] => { results := [.lit (.bool false)], args := [d1, d2, d3] }
  | _ => none }
def CmdsJoinWrongFalsely : Prop := cmdsJoinRow.holds Try.pinned (OpenSpec.ofChange cmdsJoinWrong)

/-- 'lumperlaw24.CmdsCut': WHATEVER THE INPUT: true; the input reads as it did. -/
def cmdsCutSpec : ChangeSpec := { name := "cmdsCut", fn := fun _ => fun
  | [d1, d2] => { results := [.lit (.bool true)], args := [d1, d2] }
  | _ => none }
def cmdsCutRow : OpenClaim := { program := "ytmbjbbflhlndcaa", sum := "cbc776023fa1cb2297c8559d42935586144bdaa22617dda23242ccf5e69a6683", func := "lumper/lumperlaw24.CmdsCut", spec := "cmdsCut", unfollowed := true, recurses := true, plainKeys := false, apart := false }
def CmdsCutSaid : Prop := cmdsCutRow.holds Try.pinned (OpenSpec.ofChange cmdsCutSpec)

/-- ITS FALSE NEIGHBOUR: 'it returns false'. Refute it at one input. -/
def cmdsCutWrong : ChangeSpec := { name := "cmdsCut", fn := fun _ => fun
  | [d1, d2] => { results := [.lit (.bool false)], args := [d1, d2] }
  | _ => none }
def CmdsCutWrongFalsely : Prop := cmdsCutRow.holds Try.pinned (OpenSpec.ofChange cmdsCutWrong)

/-- 'lumperlaw24.CmdsApart': WHATEVER THE INPUT: true; the input reads as it did. -/
def cmdsApartSpec : ChangeSpec := { name := "cmdsApart", fn := fun _ => fun
  | [d1, d2] => { results := [.lit (.bool true)], args := [d1, d2] }
  | _ => none }
def cmdsApartRow : OpenClaim := { program := "ytmbjbbflhlndcaa", sum := "cbc776023fa1cb2297c8559d42935586144bdaa22617dda23242ccf5e69a6683", func := "lumper/lumperlaw24.CmdsApart", spec := "cmdsApart", unfollowed := true, recurses := true, plainKeys := false, apart := false }
def CmdsApartSaid : Prop := cmdsApartRow.holds Try.pinned (OpenSpec.ofChange cmdsApartSpec)

/-- ITS FALSE NEIGHBOUR: 'it returns false'. Refute it at one input. -/
def cmdsApartWrong : ChangeSpec := { name := "cmdsApart", fn := fun _ => fun
  | [d1, d2] => { results := [.lit (.bool false)], args := [d1, d2] }
  | _ => none }
def CmdsApartWrongFalsely : Prop := cmdsApartRow.holds Try.pinned (OpenSpec.ofChange cmdsApartWrong)

/-- 'lumperlaw08.EventBack': WHATEVER THE INPUT: true; the input reads as it did. -/
def eventBackSpec : ChangeSpec := { name := "eventBack", fn := fun _ => fun
  | [d1, d2, d3] => { results := [.lit (.bool true)], args := [d1, d2, d3] }
  | _ => none }
def eventBackRow : OpenClaim := { program := "ytmbjbbflhlndcaa", sum := "cbc776023fa1cb2297c8559d42935586144bdaa22617dda23242ccf5e69a6683", func := "lumper/lumperlaw08.EventBack", spec := "eventBack", unfollowed := true, recurses := true, plainKeys := false, apart := false }
def EventBackSaid : Prop := eventBackRow.holds Try.pinned (OpenSpec.ofChange eventBackSpec)

/-- ITS FALSE NEIGHBOUR: 'it returns false'. Refute it at one input. -/
def eventBackWrong : ChangeSpec := { name := "eventBack", fn := fun _ => fun
  | [d1, d2, d3] => { results := [.lit (.bool false)], args := [d1, d2, d3] }
  | _ => none }
def EventBackWrongFalsely : Prop := eventBackRow.holds Try.pinned (OpenSpec.ofChange eventBackWrong)

/-- 'lumperlaw08.EventCuts': WHATEVER THE INPUT: true; the input reads as it did. -/
def eventCutsSpec : ChangeSpec := { name := "eventCuts", fn := fun _ => fun
  | [d1, d2] => { results := [.lit (.bool true)], args := [d1, d2] }
  | _ => none }
def eventCutsRow : OpenClaim := { program := "ytmbjbbflhlndcaa", sum := "cbc776023fa1cb2297c8559d42935586144bdaa22617dda23242ccf5e69a6683", func := "lumper/lumperlaw08.EventCuts", spec := "eventCuts", unfollowed := true, recurses := true, plainKeys := false, apart := false }
def EventCutsSaid : Prop := eventCutsRow.holds Try.pinned (OpenSpec.ofChange eventCutsSpec)

/-- ITS FALSE NEIGHBOUR: 'it returns false'. Refute it at one input. -/
def eventCutsWrong : ChangeSpec := { name := "eventCuts", fn := fun _ => fun
  | [d1, d2] => { results := [.lit (.bool false)], args := [d1, d2] }
  | _ => none }
def EventCutsWrongFalsely : Prop := eventCutsRow.holds Try.pinned (OpenSpec.ofChange eventCutsWrong)

/-- 'lumperlaw08.EventTells': WHATEVER THE INPUT: true; the input reads as it did. -/
def eventTellsSpec : ChangeSpec := { name := "eventTells", fn := fun _ => fun
  | [d1, d2, d3, d4, d5] => { results := [.lit (.bool true)], args := [d1, d2, d3, d4, d5] }
  | _ => none }
def eventTellsRow : OpenClaim := { program := "ytmbjbbflhlndcaa", sum := "cbc776023fa1cb2297c8559d42935586144bdaa22617dda23242ccf5e69a6683", func := "lumper/lumperlaw08.EventTells", spec := "eventTells", unfollowed := true, recurses := true, plainKeys := false, apart := false }
def EventTellsSaid : Prop := eventTellsRow.holds Try.pinned (OpenSpec.ofChange eventTellsSpec)

/-- ITS FALSE NEIGHBOUR: 'it returns false'. Refute it at one input. -/
def eventTellsWrong : ChangeSpec := { name := "eventTells", fn := fun _ => fun
  | [d1, d2, d3, d4, d5] => { results := [.lit (.bool false)], args := [d1, d2, d3, d4, d5] }
  | _ => none }
def EventTellsWrongFalsely : Prop := eventTellsRow.holds Try.pinned (OpenSpec.ofChange eventTellsWrong)

/-- 'lumperlaw08.EventSorts': WHATEVER THE INPUT: true; the input reads as it did. -/
def eventSortsSpec : ChangeSpec := { name := "eventSorts", fn := fun _ => fun
  | [d] => { results := [.lit (.bool true)], args := [d] }
  | _ => none }
def eventSortsRow : OpenClaim := { program := "ytmbjbbflhlndcaa", sum := "cbc776023fa1cb2297c8559d42935586144bdaa22617dda23242ccf5e69a6683", func := "lumper/lumperlaw08.EventSorts", spec := "eventSorts", unfollowed := true, recurses := true, plainKeys := false, apart := false }
def EventSortsSaid : Prop := eventSortsRow.holds Try.pinned (OpenSpec.ofChange eventSortsSpec)

/-- ITS FALSE NEIGHBOUR: 'it returns false'. Refute it at one input. -/
def eventSortsWrong : ChangeSpec := { name := "eventSorts", fn := fun _ => fun
  | [d] => { results := [.lit (.bool false)], args := [d] }
  | _ => none }
def EventSortsWrongFalsely : Prop := eventSortsRow.holds Try.pinned (OpenSpec.ofChange eventSortsWrong)

/-- 'lumperlaw08.EventThree': WHATEVER THE INPUT: true; the input reads as it did. -/
def eventThreeSpec : ChangeSpec := { name := "eventThree", fn := fun _ => fun
  | [d1, d2, d3] => { results := [.lit (.bool true)], args := [d1, d2, d3] }
  | _ => none }
def eventThreeRow : OpenClaim := { program := "ytmbjbbflhlndcaa", sum := "cbc776023fa1cb2297c8559d42935586144bdaa22617dda23242ccf5e69a6683", func := "lumper/lumperlaw08.EventThree", spec := "eventThree", unfollowed := true, recurses := true, plainKeys := false, apart := false }
def EventThreeSaid : Prop := eventThreeRow.holds Try.pinned (OpenSpec.ofChange eventThreeSpec)

/-- ITS FALSE NEIGHBOUR: 'it returns false'. Refute it at one input. -/
def eventThreeWrong : ChangeSpec := { name := "eventThree", fn := fun _ => fun
  | [d1, d2, d3] => { results := [.lit (.bool false)], args := [d1, d2, d3] }
  | _ => none }
def EventThreeWrongFalsely : Prop := eventThreeRow.holds Try.pinned (OpenSpec.ofChange eventThreeWrong)

/-- 'lumperlaw08.EventSizes': WHATEVER THE INPUT: true; the input reads as it did. -/
def eventSizesSpec : ChangeSpec := { name := "eventSizes", fn := fun _ => fun
  | [d] => { results := [.lit (.bool true)], args := [d] }
  | _ => none }
def eventSizesRow : OpenClaim := { program := "ytmbjbbflhlndcaa", sum := "cbc776023fa1cb2297c8559d42935586144bdaa22617dda23242ccf5e69a6683", func := "lumper/lumperlaw08.EventSizes", spec := "eventSizes", unfollowed := true, recurses := true, plainKeys := false, apart := false }
def EventSizesSaid : Prop := eventSizesRow.holds Try.pinned (OpenSpec.ofChange eventSizesSpec)

/-- ITS FALSE NEIGHBOUR: 'it returns false'. Refute it at one input. -/
def eventSizesWrong : ChangeSpec := { name := "eventSizes", fn := fun _ => fun
  | [d] => { results := [.lit (.bool false)], args := [d] }
  | _ => none }
def EventSizesWrongFalsely : Prop := eventSizesRow.holds Try.pinned (OpenSpec.ofChange eventSizesWrong)

/-- 'lumperlaw13.FixesTell': WHATEVER THE INPUT: true; the input reads as it did. -/
def fixesTellSpec : ChangeSpec := { name := "fixesTell", fn := fun _ => fun
  | [d1, d2, d3, d4] => { results := [.lit (.bool true)], args := [d1, d2, d3, d4] }
  | _ => none }
def fixesTellRow : OpenClaim := { program := "ytmbjbbflhlndcaa", sum := "cbc776023fa1cb2297c8559d42935586144bdaa22617dda23242ccf5e69a6683", func := "lumper/lumperlaw13.FixesTell", spec := "fixesTell", unfollowed := true, recurses := true, plainKeys := false, apart := false }
def FixesTellSaid : Prop := fixesTellRow.holds Try.pinned (OpenSpec.ofChange fixesTellSpec)

/-- ITS FALSE NEIGHBOUR: 'it returns false'. Refute it at one input. -/
def fixesTellWrong : ChangeSpec := { name := "fixesTell", fn := fun _ => fun
  | [d1, d2, d3, d4] => { results := [.lit (.bool false)], args := [d1, d2, d3, d4] }
  | _ => none }
def FixesTellWrongFalsely : Prop := fixesTellRow.holds Try.pinned (OpenSpec.ofChange fixesTellWrong)

/-- 'lumperlaw13.FixesBack': WHATEVER THE INPUT: true; the input reads as it did. -/
def fixesBackSpec : ChangeSpec := { name := "fixesBack", fn := fun _ => fun
  | [d1, d2, d3] => { results := [.lit (.bool true)], args := [d1, d2, d3] }
  | _ => none }
def fixesBackRow : OpenClaim := { program := "ytmbjbbflhlndcaa", sum := "cbc776023fa1cb2297c8559d42935586144bdaa22617dda23242ccf5e69a6683", func := "lumper/lumperlaw13.FixesBack", spec := "fixesBack", unfollowed := true, recurses := true, plainKeys := false, apart := false }
def FixesBackSaid : Prop := fixesBackRow.holds Try.pinned (OpenSpec.ofChange fixesBackSpec)

/-- ITS FALSE NEIGHBOUR: 'it returns false'. Refute it at one input. -/
def fixesBackWrong : ChangeSpec := { name := "fixesBack", fn := fun _ => fun
  | [d1, d2, d3] => { results := [.lit (.bool false)], args := [d1, d2, d3] }
  | _ => none }
def FixesBackWrongFalsely : Prop := fixesBackRow.holds Try.pinned (OpenSpec.ofChange fixesBackWrong)

/-- 'lumperlaw13.FixesTurn': WHATEVER THE INPUT: true; the input reads as it did. -/
def fixesTurnSpec : ChangeSpec := { name := "fixesTurn", fn := fun _ => fun
  | [d1, d2, d3, d4] => { results := [.lit (.bool true)], args := [d1, d2, d3, d4] }
  | _ => none }
def fixesTurnRow : OpenClaim := { program := "ytmbjbbflhlndcaa", sum := "cbc776023fa1cb2297c8559d42935586144bdaa22617dda23242ccf5e69a6683", func := "lumper/lumperlaw13.FixesTurn", spec := "fixesTurn", unfollowed := true, recurses := true, plainKeys := false, apart := false }
def FixesTurnSaid : Prop := fixesTurnRow.holds Try.pinned (OpenSpec.ofChange fixesTurnSpec)

/-- ITS FALSE NEIGHBOUR: 'it returns false'. Refute it at one input. -/
def fixesTurnWrong : ChangeSpec := { name := "fixesTurn", fn := fun _ => fun
  | [d1, d2, d3, d4] => { results := [.lit (.bool false)], args := [d1, d2, d3, d4] }
  | _ => none }
def FixesTurnWrongFalsely : Prop := fixesTurnRow.holds Try.pinned (OpenSpec.ofChange fixesTurnWrong)

/-- 'lumperlaw13.FixesOnly': WHATEVER THE INPUT: true; the input reads as it did. -/
def fixesOnlySpec : ChangeSpec := { name := "fixesOnly", fn := fun _ => fun
  | [d1, d2, d3] => { results := [.lit (.bool true)], args := [d1, d2, d3] }
  | _ => none }
def fixesOnlyRow : OpenClaim := { program := "ytmbjbbflhlndcaa", sum := "cbc776023fa1cb2297c8559d42935586144bdaa22617dda23242ccf5e69a6683", func := "lumper/lumperlaw13.FixesOnly", spec := "fixesOnly", unfollowed := true, recurses := true, plainKeys := false, apart := false }
def FixesOnlySaid : Prop := fixesOnlyRow.holds Try.pinned (OpenSpec.ofChange fixesOnlySpec)

/-- ITS FALSE NEIGHBOUR: 'it returns false'. Refute it at one input. -/
def fixesOnlyWrong : ChangeSpec := { name := "fixesOnly", fn := fun _ => fun
  | [d1, d2, d3] => { results := [.lit (.bool false)], args := [d1, d2, d3] }
  | _ => none }
def FixesOnlyWrongFalsely : Prop := fixesOnlyRow.holds Try.pinned (OpenSpec.ofChange fixesOnlyWrong)

/- THE SECOND FORM. 'bulk': how many values and letters a reading holds, each counted each time it is reached (what is shared counts as often as it is met; a slice's spare places count too). A statement '..UptoSaid' is the law's where the arguments, and the package variables that the reading takes, are together of bulk at most 1048576: NARROWER than '..Said'. Prove '..Said' where nothing that the law and all that it calls make is longer than what came in: it says more and counts as full. Else prove '..UptoSaid'. A law counts once. -/
mutual
def uptoBulk {H : Type} : DataW H → Nat
  | .lit (.string bytes) => bytes.length + 1
  | .lit _ => 1
  | .nil => 1
  | .ptr d => uptoBulk d + 1
  | .slice elems spare => uptoBulkAll elems + uptoBulkAll spare + 1
  | .agg parts => uptoBulkAll parts + 1
  | .iface _ d => uptoBulk d + 1
  | .map entries => uptoBulkEntries entries + 1
  | .held _ => 1
def uptoBulkAll {H : Type} : List (DataW H) → Nat
  | [] => 0
  | d :: r => uptoBulk d + uptoBulkAll r
def uptoBulkEntries {H : Type} : List (Lit × DataW H) → Nat
  | [] => 0
  | x :: r => uptoBulkEntry x + uptoBulkEntries r
def uptoBulkEntry {H : Type} : Lit × DataW H → Nat
  | (.string bytes, d) => bytes.length + uptoBulk d + 1
  | (_, d) => uptoBulk d + 1
 end
def uptoSmall : (H : Type) → List (DataW H) → Bool := fun _ ds => decide (uptoBulkAll ds ≤ 1048576)
def OpenSpec.upto (s : _root_.Go.ChangeSpec) : _root_.Go.OpenSpec := { _root_.Go.OpenSpec.ofChange s with cond := some uptoSmall }

/-- 'lumperlaw24.CmdsTell', WHERE WHAT IT READS IS OF BULK AT MOST 1048576: true; the input reads as it did. -/
def cmdsTellUptoRow : OpenClaim := { program := "ytmbjbbflhlndcaa", sum := "cbc776023fa1cb2297c8559d42935586144bdaa22617dda23242ccf5e69a6683", func := "lumper/lumperlaw24.CmdsTell", spec := "cmdsTell", unfollowed := true, recurses := true, plainKeys := false, apart := false, narrowed := true }
def CmdsTellUptoSaid : Prop := cmdsTellUptoRow.holds Try.pinned (OpenSpec.upto cmdsTellSpec)

/-- 'lumperlaw24.CmdsBack', WHERE WHAT IT READS IS OF BULK AT MOST 1048576: true; the input reads as it did. -/
def cmdsBackUptoRow : OpenClaim := { program := "ytmbjbbflhlndcaa", sum := "cbc776023fa1cb2297c8559d42935586144bdaa22617dda23242ccf5e69a6683", func := "lumper/lumperlaw24.CmdsBack", spec := "cmdsBack", unfollowed := true, recurses := true, plainKeys := false, apart := false, narrowed := true }
def CmdsBackUptoSaid : Prop := cmdsBackUptoRow.holds Try.pinned (OpenSpec.upto cmdsBackSpec)

/-- 'lumperlaw24.CmdsJoin', WHERE WHAT IT READS IS OF BULK AT MOST 1048576: true; the input reads as it did. -/
def cmdsJoinUptoRow : OpenClaim := { program := "ytmbjbbflhlndcaa", sum := "cbc776023fa1cb2297c8559d42935586144bdaa22617dda23242ccf5e69a6683", func := "lumper/lumperlaw24.CmdsJoin", spec := "cmdsJoin", unfollowed := true, recurses := true, plainKeys := false, apart := false, narrowed := true }
def CmdsJoinUptoSaid : Prop := cmdsJoinUptoRow.holds Try.pinned (OpenSpec.upto cmdsJoinSpec)

/-- 'lumperlaw24.CmdsCut', WHERE WHAT IT READS IS OF BULK AT MOST 1048576: true; the input reads as it did. -/
def cmdsCutUptoRow : OpenClaim := { program := "ytmbjbbflhlndcaa", sum := "cbc776023fa1cb2297c8559d42935586144bdaa22617dda23242ccf5e69a6683", func := "lumper/lumperlaw24.CmdsCut", spec := "cmdsCut", unfollowed := true, recurses := true, plainKeys := false, apart := false, narrowed := true }
def CmdsCutUptoSaid : Prop := cmdsCutUptoRow.holds Try.pinned (OpenSpec.upto cmdsCutSpec)

/-- 'lumperlaw24.CmdsApart', WHERE WHAT IT READS IS OF BULK AT MOST 1048576: true; the input reads as it did. -/
def cmdsApartUptoRow : OpenClaim := { program := "ytmbjbbflhlndcaa", sum := "cbc776023fa1cb2297c8559d42935586144bdaa22617dda23242ccf5e69a6683", func := "lumper/lumperlaw24.CmdsApart", spec := "cmdsApart", unfollowed := true, recurses := true, plainKeys := false, apart := false, narrowed := true }
def CmdsApartUptoSaid : Prop := cmdsApartUptoRow.holds Try.pinned (OpenSpec.upto cmdsApartSpec)

/-- 'lumperlaw08.EventBack', WHERE WHAT IT READS IS OF BULK AT MOST 1048576: true; the input reads as it did. -/
def eventBackUptoRow : OpenClaim := { program := "ytmbjbbflhlndcaa", sum := "cbc776023fa1cb2297c8559d42935586144bdaa22617dda23242ccf5e69a6683", func := "lumper/lumperlaw08.EventBack", spec := "eventBack", unfollowed := true, recurses := true, plainKeys := false, apart := false, narrowed := true }
def EventBackUptoSaid : Prop := eventBackUptoRow.holds Try.pinned (OpenSpec.upto eventBackSpec)

/-- 'lumperlaw08.EventCuts', WHERE WHAT IT READS IS OF BULK AT MOST 1048576: true; the input reads as it did. -/
def eventCutsUptoRow : OpenClaim := { program := "ytmbjbbflhlndcaa", sum := "cbc776023fa1cb2297c8559d42935586144bdaa22617dda23242ccf5e69a6683", func := "lumper/lumperlaw08.EventCuts", spec := "eventCuts", unfollowed := true, recurses := true, plainKeys := false, apart := false, narrowed := true }
def EventCutsUptoSaid : Prop := eventCutsUptoRow.holds Try.pinned (OpenSpec.upto eventCutsSpec)

/-- 'lumperlaw08.EventTells', WHERE WHAT IT READS IS OF BULK AT MOST 1048576: true; the input reads as it did. -/
def eventTellsUptoRow : OpenClaim := { program := "ytmbjbbflhlndcaa", sum := "cbc776023fa1cb2297c8559d42935586144bdaa22617dda23242ccf5e69a6683", func := "lumper/lumperlaw08.EventTells", spec := "eventTells", unfollowed := true, recurses := true, plainKeys := false, apart := false, narrowed := true }
def EventTellsUptoSaid : Prop := eventTellsUptoRow.holds Try.pinned (OpenSpec.upto eventTellsSpec)

/-- 'lumperlaw08.EventSorts', WHERE WHAT IT READS IS OF BULK AT MOST 1048576: true; the input reads as it did. -/
def eventSortsUptoRow : OpenClaim := { program := "ytmbjbbflhlndcaa", sum := "cbc776023fa1cb2297c8559d42935586144bdaa22617dda23242ccf5e69a6683", func := "lumper/lumperlaw08.EventSorts", spec := "eventSorts", unfollowed := true, recurses := true, plainKeys := false, apart := false, narrowed := true }
def EventSortsUptoSaid : Prop := eventSortsUptoRow.holds Try.pinned (OpenSpec.upto eventSortsSpec)

/-- 'lumperlaw08.EventThree', WHERE WHAT IT READS IS OF BULK AT MOST 1048576: true; the input reads as it did. -/
def eventThreeUptoRow : OpenClaim := { program := "ytmbjbbflhlndcaa", sum := "cbc776023fa1cb2297c8559d42935586144bdaa22617dda23242ccf5e69a6683", func := "lumper/lumperlaw08.EventThree", spec := "eventThree", unfollowed := true, recurses := true, plainKeys := false, apart := false, narrowed := true }
def EventThreeUptoSaid : Prop := eventThreeUptoRow.holds Try.pinned (OpenSpec.upto eventThreeSpec)

/-- 'lumperlaw08.EventSizes', WHERE WHAT IT READS IS OF BULK AT MOST 1048576: true; the input reads as it did. -/
def eventSizesUptoRow : OpenClaim := { program := "ytmbjbbflhlndcaa", sum := "cbc776023fa1cb2297c8559d42935586144bdaa22617dda23242ccf5e69a6683", func := "lumper/lumperlaw08.EventSizes", spec := "eventSizes", unfollowed := true, recurses := true, plainKeys := false, apart := false, narrowed := true }
def EventSizesUptoSaid : Prop := eventSizesUptoRow.holds Try.pinned (OpenSpec.upto eventSizesSpec)

/-- 'lumperlaw13.FixesTell', WHERE WHAT IT READS IS OF BULK AT MOST 1048576: true; the input reads as it did. -/
def fixesTellUptoRow : OpenClaim := { program := "ytmbjbbflhlndcaa", sum := "cbc776023fa1cb2297c8559d42935586144bdaa22617dda23242ccf5e69a6683", func := "lumper/lumperlaw13.FixesTell", spec := "fixesTell", unfollowed := true, recurses := true, plainKeys := false, apart := false, narrowed := true }
def FixesTellUptoSaid : Prop := fixesTellUptoRow.holds Try.pinned (OpenSpec.upto fixesTellSpec)

/-- 'lumperlaw13.FixesBack', WHERE WHAT IT READS IS OF BULK AT MOST 1048576: true; the input reads as it did. -/
def fixesBackUptoRow : OpenClaim := { program := "ytmbjbbflhlndcaa", sum := "cbc776023fa1cb2297c8559d42935586144bdaa22617dda23242ccf5e69a6683", func := "lumper/lumperlaw13.FixesBack", spec := "fixesBack", unfollowed := true, recurses := true, plainKeys := false, apart := false, narrowed := true }
def FixesBackUptoSaid : Prop := fixesBackUptoRow.holds Try.pinned (OpenSpec.upto fixesBackSpec)

/-- 'lumperlaw13.FixesTurn', WHERE WHAT IT READS IS OF BULK AT MOST 1048576: true; the input reads as it did. -/
def fixesTurnUptoRow : OpenClaim := { program := "ytmbjbbflhlndcaa", sum := "cbc776023fa1cb2297c8559d42935586144bdaa22617dda23242ccf5e69a6683", func := "lumper/lumperlaw13.FixesTurn", spec := "fixesTurn", unfollowed := true, recurses := true, plainKeys := false, apart := false, narrowed := true }
def FixesTurnUptoSaid : Prop := fixesTurnUptoRow.holds Try.pinned (OpenSpec.upto fixesTurnSpec)

/-- 'lumperlaw13.FixesOnly', WHERE WHAT IT READS IS OF BULK AT MOST 1048576: true; the input reads as it did. -/
def fixesOnlyUptoRow : OpenClaim := { program := "ytmbjbbflhlndcaa", sum := "cbc776023fa1cb2297c8559d42935586144bdaa22617dda23242ccf5e69a6683", func := "lumper/lumperlaw13.FixesOnly", spec := "fixesOnly", unfollowed := true, recurses := true, plainKeys := false, apart := false, narrowed := true }
def FixesOnlyUptoSaid : Prop := fixesOnlyUptoRow.holds Try.pinned (OpenSpec.upto fixesOnlySpec)

end Rows
end Go.Proofs.Ytmbjbbflhlndcaa
