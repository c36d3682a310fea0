/-
  No cell of these rows narrows 'for every input' (looked for: loops, veiled, ifaces, maps, wideKeys, modest, calm, conditions, laid).
  DERIVED. THE GIVEN ROWS OF THIS SEAT. 23 by the template 'for every input the law returns true; each argument reads behind the call as it read before'; 0 by the template 'total and deterministic' (their statements: YtagembkjmnfidaaTotals.lean).
  GIVEN WITH THE SEED: the statements are not yours to turn. If you find one false, say at which input.
  Laid BY PROGRAM, IN A SANDBOX (cutbox-rows.mjs): the forced cells as the released guide's own fill.sh prints them over the translation 1cba8c39fd7438af… (all of the seat's roots in one cut). By AI agents, Wed Nov 11 2026. No macro, syntax, notation, axiom, sorry.
-/
import Derived.Test.YtagembkjmnfidaaChecked
import GoSem.Claim
import GoSem.ClaimJoined
import GoSem.ClaimMapViews
import Derived.JoinedTies
import Derived.KernelRfl
namespace Go.Proofs.Ytagembkjmnfidaa
/- THE CELL 'sum', in the pinned program and in every row, IS THE sha256 OF THE DUMP (.gsa) THAT YtagembkjmnfidaaProg.lean LOADS. Nothing in Lean hashes anything: it is a label: what it is worth is what the hold of that sum in a sandbox is worth. -/
noncomputable def Try.pinned : Pinned := { name := "ytagembkjmnfidaa", sum := "1cba8c39fd7438af47579f68bc2c59a6f3c8a9f63b5027570f157de4986dc11f", checked := Try.checked }
namespace Rows
def none {H : Type} : Left H := { results := [], args := [] }

/-- 'mergelenslaw11.HunkGroups': WHATEVER THE INPUT: true; the input reads as it did. -/
def hunkGroupsSpec : ChangeSpec := { name := "hunkGroups", fn := fun _ => fun
  | [d1, d2, d3, d4, d5, d6] => { results := [.lit (.bool true)], args := [d1, d2, d3, d4, d5, d6] }
  | _ => none }
def hunkGroupsRow : OpenClaim := { program := "ytagembkjmnfidaa", sum := "1cba8c39fd7438af47579f68bc2c59a6f3c8a9f63b5027570f157de4986dc11f", func := "mergelens/mergelenslaw11.HunkGroups", spec := "hunkGroups", apart := false }
def HunkGroupsSaid : Prop := hunkGroupsRow.holds Try.pinned (OpenSpec.ofChange hunkGroupsSpec)

/-- ITS FALSE NEIGHBOUR: 'it returns false'. Refute it at one input. -/
def hunkGroupsWrong : ChangeSpec := { name := "hunkGroups", fn := fun _ => fun
  | [d1, d2, d3, d4, d5, d6] => { results := [.lit (.bool false)], args := [d1, d2, d3, d4, d5, d6] }
  | _ => none }
def HunkGroupsWrongFalsely : Prop := hunkGroupsRow.holds Try.pinned (OpenSpec.ofChange hunkGroupsWrong)

/-- 'mergelenslaw11.HunkApart': WHATEVER THE INPUT: true; the input reads as it did. -/
def hunkApartSpec : ChangeSpec := { name := "hunkApart", fn := fun _ => fun
  | [d1, d2] => { results := [.lit (.bool true)], args := [d1, d2] }
  | _ => none }
def hunkApartRow : OpenClaim := { program := "ytagembkjmnfidaa", sum := "1cba8c39fd7438af47579f68bc2c59a6f3c8a9f63b5027570f157de4986dc11f", func := "mergelens/mergelenslaw11.HunkApart", spec := "hunkApart", apart := false }
def HunkApartSaid : Prop := hunkApartRow.holds Try.pinned (OpenSpec.ofChange hunkApartSpec)

/-- ITS FALSE NEIGHBOUR: 'it returns false'. Refute it at one input. -/
def hunkApartWrong : ChangeSpec := { name := "hunkApart", fn := fun _ => fun
  | [d1, d2] => { results := [.lit (.bool false)], args := [d1, d2] }
  | _ => none }
def HunkApartWrongFalsely : Prop := hunkApartRow.holds Try.pinned (OpenSpec.ofChange hunkApartWrong)

/-- 'mergelenslaw11.HunkCovers': WHATEVER THE INPUT: true; the input reads as it did. -/
def hunkCoversSpec : ChangeSpec := { name := "hunkCovers", fn := fun _ => fun
  | [d1, d2] => { results := [.lit (.bool true)], args := [d1, d2] }
  | _ => none }
def hunkCoversRow : OpenClaim := { program := "ytagembkjmnfidaa", sum := "1cba8c39fd7438af47579f68bc2c59a6f3c8a9f63b5027570f157de4986dc11f", func := "mergelens/mergelenslaw11.HunkCovers", spec := "hunkCovers", apart := false }
def HunkCoversSaid : Prop := hunkCoversRow.holds Try.pinned (OpenSpec.ofChange hunkCoversSpec)

/-- ITS FALSE NEIGHBOUR: 'it returns false'. Refute it at one input. -/
def hunkCoversWrong : ChangeSpec := { name := "hunkCovers", fn := fun _ => fun
  | [d1, d2] => { results := [.lit (.bool false)], args := [d1, d2] }
  | _ => none }
def HunkCoversWrongFalsely : Prop := hunkCoversRow.holds Try.pinned (OpenSpec.ofChange hunkCoversWrong)

/-- 'mergelenslaw11.HunkExact': WHATEVER THE INPUT: true; the input reads as it did. -/
def hunkExactSpec : ChangeSpec := { name := "hunkExact", fn := fun _ => fun
  | [d1, d2] => { results := [.lit (.bool true)], args := [d1, d2] }
  | _ => none }
def hunkExactRow : OpenClaim := { program := "ytagembkjmnfidaa", sum := "1cba8c39fd7438af47579f68bc2c59a6f3c8a9f63b5027570f157de4986dc11f", func := "mergelens/mergelenslaw11.HunkExact", spec := "hunkExact", apart := false }
def HunkExactSaid : Prop := hunkExactRow.holds Try.pinned (OpenSpec.ofChange hunkExactSpec)

/-- ITS FALSE NEIGHBOUR: 'it returns false'. Refute it at one input. -/
def hunkExactWrong : ChangeSpec := { name := "hunkExact", fn := fun _ => fun
  | [d1, d2] => { results := [.lit (.bool false)], args := [d1, d2] }
  | _ => none }
def HunkExactWrongFalsely : Prop := hunkExactRow.holds Try.pinned (OpenSpec.ofChange hunkExactWrong)

/-- 'mergelenslaw11.HunkGrows': WHATEVER THE INPUT: true; the input reads as it did. -/
def hunkGrowsSpec : ChangeSpec := { name := "hunkGrows", fn := fun _ => fun
  | [d1, d2, d3] => { results := [.lit (.bool true)], args := [d1, d2, d3] }
  | _ => none }
def hunkGrowsRow : OpenClaim := { program := "ytagembkjmnfidaa", sum := "1cba8c39fd7438af47579f68bc2c59a6f3c8a9f63b5027570f157de4986dc11f", func := "mergelens/mergelenslaw11.HunkGrows", spec := "hunkGrows", apart := false }
def HunkGrowsSaid : Prop := hunkGrowsRow.holds Try.pinned (OpenSpec.ofChange hunkGrowsSpec)

/-- ITS FALSE NEIGHBOUR: 'it returns false'. Refute it at one input. -/
def hunkGrowsWrong : ChangeSpec := { name := "hunkGrows", fn := fun _ => fun
  | [d1, d2, d3] => { results := [.lit (.bool false)], args := [d1, d2, d3] }
  | _ => none }
def HunkGrowsWrongFalsely : Prop := hunkGrowsRow.holds Try.pinned (OpenSpec.ofChange hunkGrowsWrong)

/-- 'mergelenslaw08.ScriptChecks': WHATEVER THE INPUT: true; the input reads as it did. -/
def scriptChecksSpec : ChangeSpec := { name := "scriptChecks", fn := fun _ => fun
  | [d1, d2, d3, d4, d5, d6, d7] => { results := [.lit (.bool true)], args := [d1, d2, d3, d4, d5, d6, d7] }
  | _ => none }
def scriptChecksRow : OpenClaim := { program := "ytagembkjmnfidaa", sum := "1cba8c39fd7438af47579f68bc2c59a6f3c8a9f63b5027570f157de4986dc11f", func := "mergelens/mergelenslaw08.ScriptChecks", spec := "scriptChecks", apart := false }
def ScriptChecksSaid : Prop := scriptChecksRow.holds Try.pinned (OpenSpec.ofChange scriptChecksSpec)

/-- ITS FALSE NEIGHBOUR: 'it returns false'. Refute it at one input. -/
def scriptChecksWrong : ChangeSpec := { name := "scriptChecks", fn := fun _ => fun
  | [d1, d2, d3, d4, d5, d6, d7] => { results := [.lit (.bool false)], args := [d1, d2, d3, d4, d5, d6, d7] }
  | _ => none }
def ScriptChecksWrongFalsely : Prop := scriptChecksRow.holds Try.pinned (OpenSpec.ofChange scriptChecksWrong)

/-- 'mergelenslaw08.ScriptPairs': WHATEVER THE INPUT: true; the input reads as it did. -/
def scriptPairsSpec : ChangeSpec := { name := "scriptPairs", fn := fun _ => fun
  | [d1, d2, d3, d4, d5] => { results := [.lit (.bool true)], args := [d1, d2, d3, d4, d5] }
  | _ => none }
def scriptPairsRow : OpenClaim := { program := "ytagembkjmnfidaa", sum := "1cba8c39fd7438af47579f68bc2c59a6f3c8a9f63b5027570f157de4986dc11f", func := "mergelens/mergelenslaw08.ScriptPairs", spec := "scriptPairs", unfollowed := true, recurses := true, apart := false }
def ScriptPairsSaid : Prop := scriptPairsRow.holds Try.pinned (OpenSpec.ofChange scriptPairsSpec)

/-- ITS FALSE NEIGHBOUR: 'it returns false'. Refute it at one input. -/
def scriptPairsWrong : ChangeSpec := { name := "scriptPairs", fn := fun _ => fun
  | [d1, d2, d3, d4, d5] => { results := [.lit (.bool false)], args := [d1, d2, d3, d4, d5] }
  | _ => none }
def ScriptPairsWrongFalsely : Prop := scriptPairsRow.holds Try.pinned (OpenSpec.ofChange scriptPairsWrong)

/-- 'mergelenslaw08.ScriptFits': WHATEVER THE INPUT: true; the input reads as it did. -/
def scriptFitsSpec : ChangeSpec := { name := "scriptFits", fn := fun _ => fun
  | [d1, d2, d3, d4, d5, d6] => { results := [.lit (.bool true)], args := [d1, d2, d3, d4, d5, d6] }
  | _ => none }
def scriptFitsRow : OpenClaim := { program := "ytagembkjmnfidaa", sum := "1cba8c39fd7438af47579f68bc2c59a6f3c8a9f63b5027570f157de4986dc11f", func := "mergelens/mergelenslaw08.ScriptFits", spec := "scriptFits", unfollowed := true, recurses := true, apart := false }
def ScriptFitsSaid : Prop := scriptFitsRow.holds Try.pinned (OpenSpec.ofChange scriptFitsSpec)

/-- ITS FALSE NEIGHBOUR: 'it returns false'. Refute it at one input. -/
def scriptFitsWrong : ChangeSpec := { name := "scriptFits", fn := fun _ => fun
  | [d1, d2, d3, d4, d5, d6] => { results := [.lit (.bool false)], args := [d1, d2, d3, d4, d5, d6] }
  | _ => none }
def ScriptFitsWrongFalsely : Prop := scriptFitsRow.holds Try.pinned (OpenSpec.ofChange scriptFitsWrong)

/-- 'mergelenslaw08.ScriptComposes': WHATEVER THE INPUT: true; the input reads as it did. -/
def scriptComposesSpec : ChangeSpec := { name := "scriptComposes", fn := fun _ => fun
  | [d1, d2, d3] => { results := [.lit (.bool true)], args := [d1, d2, d3] }
  | _ => none }
def scriptComposesRow : OpenClaim := { program := "ytagembkjmnfidaa", sum := "1cba8c39fd7438af47579f68bc2c59a6f3c8a9f63b5027570f157de4986dc11f", func := "mergelens/mergelenslaw08.ScriptComposes", spec := "scriptComposes", unfollowed := true, recurses := true, apart := false }
def ScriptComposesSaid : Prop := scriptComposesRow.holds Try.pinned (OpenSpec.ofChange scriptComposesSpec)

/-- ITS FALSE NEIGHBOUR: 'it returns false'. Refute it at one input. -/
def scriptComposesWrong : ChangeSpec := { name := "scriptComposes", fn := fun _ => fun
  | [d1, d2, d3] => { results := [.lit (.bool false)], args := [d1, d2, d3] }
  | _ => none }
def ScriptComposesWrongFalsely : Prop := scriptComposesRow.holds Try.pinned (OpenSpec.ofChange scriptComposesWrong)

/-- 'mergelenslaw08.ScriptAlgebra': WHATEVER THE INPUT: true; the input reads as it did. -/
def scriptAlgebraSpec : ChangeSpec := { name := "scriptAlgebra", fn := fun _ => fun
  | [d] => { results := [.lit (.bool true)], args := [d] }
  | _ => none }
def scriptAlgebraRow : OpenClaim := { program := "ytagembkjmnfidaa", sum := "1cba8c39fd7438af47579f68bc2c59a6f3c8a9f63b5027570f157de4986dc11f", func := "mergelens/mergelenslaw08.ScriptAlgebra", spec := "scriptAlgebra", unfollowed := true, recurses := true, apart := false }
def ScriptAlgebraSaid : Prop := scriptAlgebraRow.holds Try.pinned (OpenSpec.ofChange scriptAlgebraSpec)

/-- ITS FALSE NEIGHBOUR: 'it returns false'. Refute it at one input. -/
def scriptAlgebraWrong : ChangeSpec := { name := "scriptAlgebra", fn := fun _ => fun
  | [d] => { results := [.lit (.bool false)], args := [d] }
  | _ => none }
def ScriptAlgebraWrongFalsely : Prop := scriptAlgebraRow.holds Try.pinned (OpenSpec.ofChange scriptAlgebraWrong)

/-- 'mergelenslaw08.ScriptDetermined': WHATEVER THE INPUT: true; the input reads as it did. -/
def scriptDeterminedSpec : ChangeSpec := { name := "scriptDetermined", fn := fun _ => fun
  | [d] => { results := [.lit (.bool true)], args := [d] }
  | _ => none }
def scriptDeterminedRow : OpenClaim := { program := "ytagembkjmnfidaa", sum := "1cba8c39fd7438af47579f68bc2c59a6f3c8a9f63b5027570f157de4986dc11f", func := "mergelens/mergelenslaw08.ScriptDetermined", spec := "scriptDetermined", unfollowed := true, recurses := true, apart := false }
def ScriptDeterminedSaid : Prop := scriptDeterminedRow.holds Try.pinned (OpenSpec.ofChange scriptDeterminedSpec)

/-- ITS FALSE NEIGHBOUR: 'it returns false'. Refute it at one input. -/
def scriptDeterminedWrong : ChangeSpec := { name := "scriptDetermined", fn := fun _ => fun
  | [d] => { results := [.lit (.bool false)], args := [d] }
  | _ => none }
def ScriptDeterminedWrongFalsely : Prop := scriptDeterminedRow.holds Try.pinned (OpenSpec.ofChange scriptDeterminedWrong)

/-- 'mergelenslaw29.TrackBack': WHATEVER THE INPUT: true; the input reads as it did. -/
def trackBackSpec : ChangeSpec := { name := "trackBack", fn := fun _ => fun
  | [d1, d2, d3, d4, d5, d6, d7] => { results := [.lit (.bool true)], args := [d1, d2, d3, d4, d5, d6, d7] }
  | _ => none }
def trackBackRow : OpenClaim := { program := "ytagembkjmnfidaa", sum := "1cba8c39fd7438af47579f68bc2c59a6f3c8a9f63b5027570f157de4986dc11f", func := "mergelens/mergelenslaw29.TrackBack", spec := "trackBack", unfollowed := true, recurses := true, apart := false }
def TrackBackSaid : Prop := trackBackRow.holds Try.pinned (OpenSpec.ofChange trackBackSpec)

/-- ITS FALSE NEIGHBOUR: 'it returns false'. Refute it at one input. -/
def trackBackWrong : ChangeSpec := { name := "trackBack", fn := fun _ => fun
  | [d1, d2, d3, d4, d5, d6, d7] => { results := [.lit (.bool false)], args := [d1, d2, d3, d4, d5, d6, d7] }
  | _ => none }
def TrackBackWrongFalsely : Prop := trackBackRow.holds Try.pinned (OpenSpec.ofChange trackBackWrong)

/-- 'mergelenslaw29.TrackHull': WHATEVER THE INPUT: true; the input reads as it did. -/
def trackHullSpec : ChangeSpec := { name := "trackHull", fn := fun _ => fun
  | [d1, d2, d3] => { results := [.lit (.bool true)], args := [d1, d2, d3] }
  | _ => none }
def trackHullRow : OpenClaim := { program := "ytagembkjmnfidaa", sum := "1cba8c39fd7438af47579f68bc2c59a6f3c8a9f63b5027570f157de4986dc11f", func := "mergelens/mergelenslaw29.TrackHull", spec := "trackHull", unfollowed := true, recurses := true, apart := false }
def TrackHullSaid : Prop := trackHullRow.holds Try.pinned (OpenSpec.ofChange trackHullSpec)

/-- ITS FALSE NEIGHBOUR: 'it returns false'. Refute it at one input. -/
def trackHullWrong : ChangeSpec := { name := "trackHull", fn := fun _ => fun
  | [d1, d2, d3] => { results := [.lit (.bool false)], args := [d1, d2, d3] }
  | _ => none }
def TrackHullWrongFalsely : Prop := trackHullRow.holds Try.pinned (OpenSpec.ofChange trackHullWrong)

/-- 'mergelenslaw29.TrackLeast': WHATEVER THE INPUT: true; the input reads as it did. -/
def trackLeastSpec : ChangeSpec := { name := "trackLeast", fn := fun _ => fun
  | [d1, d2, d3] => { results := [.lit (.bool true)], args := [d1, d2, d3] }
  | _ => none }
def trackLeastRow : OpenClaim := { program := "ytagembkjmnfidaa", sum := "1cba8c39fd7438af47579f68bc2c59a6f3c8a9f63b5027570f157de4986dc11f", func := "mergelens/mergelenslaw29.TrackLeast", spec := "trackLeast", unfollowed := true, recurses := true, apart := false }
def TrackLeastSaid : Prop := trackLeastRow.holds Try.pinned (OpenSpec.ofChange trackLeastSpec)

/-- ITS FALSE NEIGHBOUR: 'it returns false'. Refute it at one input. -/
def trackLeastWrong : ChangeSpec := { name := "trackLeast", fn := fun _ => fun
  | [d1, d2, d3] => { results := [.lit (.bool false)], args := [d1, d2, d3] }
  | _ => none }
def TrackLeastWrongFalsely : Prop := trackLeastRow.holds Try.pinned (OpenSpec.ofChange trackLeastWrong)

/-- 'mergelenslaw29.TrackUntouched': WHATEVER THE INPUT: true; the input reads as it did. -/
def trackUntouchedSpec : ChangeSpec := { name := "trackUntouched", fn := fun _ => fun
  | [d1, d2, d3] => { results := [.lit (.bool true)], args := [d1, d2, d3] }
  | _ => none }
def trackUntouchedRow : OpenClaim := { program := "ytagembkjmnfidaa", sum := "1cba8c39fd7438af47579f68bc2c59a6f3c8a9f63b5027570f157de4986dc11f", func := "mergelens/mergelenslaw29.TrackUntouched", spec := "trackUntouched", unfollowed := true, recurses := true, apart := false }
def TrackUntouchedSaid : Prop := trackUntouchedRow.holds Try.pinned (OpenSpec.ofChange trackUntouchedSpec)

/-- ITS FALSE NEIGHBOUR: 'it returns false'. Refute it at one input. -/
def trackUntouchedWrong : ChangeSpec := { name := "trackUntouched", fn := fun _ => fun
  | [d1, d2, d3] => { results := [.lit (.bool false)], args := [d1, d2, d3] }
  | _ => none }
def TrackUntouchedWrongFalsely : Prop := trackUntouchedRow.holds Try.pinned (OpenSpec.ofChange trackUntouchedWrong)

/-- 'mergelenslaw29.TrackGrows': WHATEVER THE INPUT: true; the input reads as it did. -/
def trackGrowsSpec : ChangeSpec := { name := "trackGrows", fn := fun _ => fun
  | [d1, d2, d3, d4] => { results := [.lit (.bool true)], args := [d1, d2, d3, d4] }
  | _ => none }
def trackGrowsRow : OpenClaim := { program := "ytagembkjmnfidaa", sum := "1cba8c39fd7438af47579f68bc2c59a6f3c8a9f63b5027570f157de4986dc11f", func := "mergelens/mergelenslaw29.TrackGrows", spec := "trackGrows", unfollowed := true, recurses := true, apart := false }
def TrackGrowsSaid : Prop := trackGrowsRow.holds Try.pinned (OpenSpec.ofChange trackGrowsSpec)

/-- ITS FALSE NEIGHBOUR: 'it returns false'. Refute it at one input. -/
def trackGrowsWrong : ChangeSpec := { name := "trackGrows", fn := fun _ => fun
  | [d1, d2, d3, d4] => { results := [.lit (.bool false)], args := [d1, d2, d3, d4] }
  | _ => none }
def TrackGrowsWrongFalsely : Prop := trackGrowsRow.holds Try.pinned (OpenSpec.ofChange trackGrowsWrong)

/-- 'mergelenslaw29.TrackComposed': WHATEVER THE INPUT: true; the input reads as it did. -/
def trackComposedSpec : ChangeSpec := { name := "trackComposed", fn := fun _ => fun
  | [d1, d2, d3] => { results := [.lit (.bool true)], args := [d1, d2, d3] }
  | _ => none }
def trackComposedRow : OpenClaim := { program := "ytagembkjmnfidaa", sum := "1cba8c39fd7438af47579f68bc2c59a6f3c8a9f63b5027570f157de4986dc11f", func := "mergelens/mergelenslaw29.TrackComposed", spec := "trackComposed", unfollowed := true, recurses := true, apart := false }
def TrackComposedSaid : Prop := trackComposedRow.holds Try.pinned (OpenSpec.ofChange trackComposedSpec)

/-- ITS FALSE NEIGHBOUR: 'it returns false'. Refute it at one input. -/
def trackComposedWrong : ChangeSpec := { name := "trackComposed", fn := fun _ => fun
  | [d1, d2, d3] => { results := [.lit (.bool false)], args := [d1, d2, d3] }
  | _ => none }
def TrackComposedWrongFalsely : Prop := trackComposedRow.holds Try.pinned (OpenSpec.ofChange trackComposedWrong)

/-- 'mergelenslaw10.SlideRoom': WHATEVER THE INPUT: true; the input reads as it did. -/
def slideRoomSpec : ChangeSpec := { name := "slideRoom", fn := fun _ => fun
  | [d1, d2, d3] => { results := [.lit (.bool true)], args := [d1, d2, d3] }
  | _ => none }
def slideRoomRow : OpenClaim := { program := "ytagembkjmnfidaa", sum := "1cba8c39fd7438af47579f68bc2c59a6f3c8a9f63b5027570f157de4986dc11f", func := "mergelens/mergelenslaw10.SlideRoom", spec := "slideRoom", unfollowed := true, recurses := true, apart := false }
def SlideRoomSaid : Prop := slideRoomRow.holds Try.pinned (OpenSpec.ofChange slideRoomSpec)

/-- ITS FALSE NEIGHBOUR: 'it returns false'. Refute it at one input. -/
def slideRoomWrong : ChangeSpec := { name := "slideRoom", fn := fun _ => fun
  | [d1, d2, d3] => { results := [.lit (.bool false)], args := [d1, d2, d3] }
  | _ => none }
def SlideRoomWrongFalsely : Prop := slideRoomRow.holds Try.pinned (OpenSpec.ofChange slideRoomWrong)

/-- 'mergelenslaw10.SlideExchange': WHATEVER THE INPUT: true; the input reads as it did. -/
def slideExchangeSpec : ChangeSpec := { name := "slideExchange", fn := fun _ => fun
  | [d1, d2] => { results := [.lit (.bool true)], args := [d1, d2] }
  | _ => none }
def slideExchangeRow : OpenClaim := { program := "ytagembkjmnfidaa", sum := "1cba8c39fd7438af47579f68bc2c59a6f3c8a9f63b5027570f157de4986dc11f", func := "mergelens/mergelenslaw10.SlideExchange", spec := "slideExchange", unfollowed := true, recurses := true, apart := false }
def SlideExchangeSaid : Prop := slideExchangeRow.holds Try.pinned (OpenSpec.ofChange slideExchangeSpec)

/-- ITS FALSE NEIGHBOUR: 'it returns false'. Refute it at one input. -/
def slideExchangeWrong : ChangeSpec := { name := "slideExchange", fn := fun _ => fun
  | [d1, d2] => { results := [.lit (.bool false)], args := [d1, d2] }
  | _ => none }
def SlideExchangeWrongFalsely : Prop := slideExchangeRow.holds Try.pinned (OpenSpec.ofChange slideExchangeWrong)

/-- 'mergelenslaw10.SlideMoves': WHATEVER THE INPUT: true; the input reads as it did. -/
def slideMovesSpec : ChangeSpec := { name := "slideMoves", fn := fun _ => fun
  | [d1, d2] => { results := [.lit (.bool true)], args := [d1, d2] }
  | _ => none }
def slideMovesRow : OpenClaim := { program := "ytagembkjmnfidaa", sum := "1cba8c39fd7438af47579f68bc2c59a6f3c8a9f63b5027570f157de4986dc11f", func := "mergelens/mergelenslaw10.SlideMoves", spec := "slideMoves", unfollowed := true, recurses := true, apart := false }
def SlideMovesSaid : Prop := slideMovesRow.holds Try.pinned (OpenSpec.ofChange slideMovesSpec)

/-- ITS FALSE NEIGHBOUR: 'it returns false'. Refute it at one input. -/
def slideMovesWrong : ChangeSpec := { name := "slideMoves", fn := fun _ => fun
  | [d1, d2] => { results := [.lit (.bool false)], args := [d1, d2] }
  | _ => none }
def SlideMovesWrongFalsely : Prop := slideMovesRow.holds Try.pinned (OpenSpec.ofChange slideMovesWrong)

/-- 'mergelenslaw10.SlideRefuses': WHATEVER THE INPUT: true; the input reads as it did. -/
def slideRefusesSpec : ChangeSpec := { name := "slideRefuses", fn := fun _ => fun
  | [d1, d2, d3, d4] => { results := [.lit (.bool true)], args := [d1, d2, d3, d4] }
  | _ => none }
def slideRefusesRow : OpenClaim := { program := "ytagembkjmnfidaa", sum := "1cba8c39fd7438af47579f68bc2c59a6f3c8a9f63b5027570f157de4986dc11f", func := "mergelens/mergelenslaw10.SlideRefuses", spec := "slideRefuses", unfollowed := true, recurses := true, apart := false }
def SlideRefusesSaid : Prop := slideRefusesRow.holds Try.pinned (OpenSpec.ofChange slideRefusesSpec)

/-- ITS FALSE NEIGHBOUR: 'it returns false'. Refute it at one input. -/
def slideRefusesWrong : ChangeSpec := { name := "slideRefuses", fn := fun _ => fun
  | [d1, d2, d3, d4] => { results := [.lit (.bool false)], args := [d1, d2, d3, d4] }
  | _ => none }
def SlideRefusesWrongFalsely : Prop := slideRefusesRow.holds Try.pinned (OpenSpec.ofChange slideRefusesWrong)

/-- 'mergelenslaw10.SlideFits': WHATEVER THE INPUT: true; the input reads as it did. -/
def slideFitsSpec : ChangeSpec := { name := "slideFits", fn := fun _ => fun
  | [d1, d2] => { results := [.lit (.bool true)], args := [d1, d2] }
  | _ => none }
def slideFitsRow : OpenClaim := { program := "ytagembkjmnfidaa", sum := "1cba8c39fd7438af47579f68bc2c59a6f3c8a9f63b5027570f157de4986dc11f", func := "mergelens/mergelenslaw10.SlideFits", spec := "slideFits", unfollowed := true, recurses := true, apart := false }
def SlideFitsSaid : Prop := slideFitsRow.holds Try.pinned (OpenSpec.ofChange slideFitsSpec)

/-- ITS FALSE NEIGHBOUR: 'it returns false'. Refute it at one input. -/
def slideFitsWrong : ChangeSpec := { name := "slideFits", fn := fun _ => fun
  | [d1, d2] => { results := [.lit (.bool false)], args := [d1, d2] }
  | _ => none }
def SlideFitsWrongFalsely : Prop := slideFitsRow.holds Try.pinned (OpenSpec.ofChange slideFitsWrong)

/-- 'mergelenslaw10.SlideMirror': WHATEVER THE INPUT: true; the input reads as it did. -/
def slideMirrorSpec : ChangeSpec := { name := "slideMirror", fn := fun _ => fun
  | [d1, d2] => { results := [.lit (.bool true)], args := [d1, d2] }
  | _ => none }
def slideMirrorRow : OpenClaim := { program := "ytagembkjmnfidaa", sum := "1cba8c39fd7438af47579f68bc2c59a6f3c8a9f63b5027570f157de4986dc11f", func := "mergelens/mergelenslaw10.SlideMirror", spec := "slideMirror", unfollowed := true, recurses := true, apart := false }
def SlideMirrorSaid : Prop := slideMirrorRow.holds Try.pinned (OpenSpec.ofChange slideMirrorSpec)

/-- ITS FALSE NEIGHBOUR: 'it returns false'. Refute it at one input. -/
def slideMirrorWrong : ChangeSpec := { name := "slideMirror", fn := fun _ => fun
  | [d1, d2] => { results := [.lit (.bool false)], args := [d1, d2] }
  | _ => none }
def SlideMirrorWrongFalsely : Prop := slideMirrorRow.holds Try.pinned (OpenSpec.ofChange slideMirrorWrong)

/- THE SECOND FORM. 'bulk': how many values and letters a reading holds, each counted each time it is reached (what is shared counts as often as it is met; a slice's spare places count too). A statement '..UptoSaid' is the law's where the arguments, and the package variables that the reading takes, are together of bulk at most 1048576: NARROWER than '..Said'. Prove '..Said' where nothing that the law and all that it calls make is longer than what came in: it says more and counts as full. Else prove '..UptoSaid'. A law counts once. -/
mutual
def uptoBulk {H : Type} : DataW H → Nat
  | .lit (.string bytes) => bytes.length + 1
  | .lit _ => 1
  | .nil => 1
  | .ptr d => uptoBulk d + 1
  | .slice elems spare => uptoBulkAll elems + uptoBulkAll spare + 1
  | .agg parts => uptoBulkAll parts + 1
  | .iface _ d => uptoBulk d + 1
  | .map entries => uptoBulkEntries entries + 1
  | .held _ => 1
def uptoBulkAll {H : Type} : List (DataW H) → Nat
  | [] => 0
  | d :: r => uptoBulk d + uptoBulkAll r
def uptoBulkEntries {H : Type} : List (Lit × DataW H) → Nat
  | [] => 0
  | x :: r => uptoBulkEntry x + uptoBulkEntries r
def uptoBulkEntry {H : Type} : Lit × DataW H → Nat
  | (.string bytes, d) => bytes.length + uptoBulk d + 1
  | (_, d) => uptoBulk d + 1
 end
def uptoSmall : (H : Type) → List (DataW H) → Bool := fun _ ds => decide (uptoBulkAll ds ≤ 1048576)
def OpenSpec.upto (s : _root_.Go.ChangeSpec) : _root_.Go.OpenSpec := { _root_.Go.OpenSpec.ofChange s with cond := some uptoSmall }

/-- 'mergelenslaw11.HunkGroups', WHERE WHAT IT READS IS OF BULK AT MOST 1048576: true; the input reads as it did. -/
def hunkGroupsUptoRow : OpenClaim := { program := "ytagembkjmnfidaa", sum := "1cba8c39fd7438af47579f68bc2c59a6f3c8a9f63b5027570f157de4986dc11f", func := "mergelens/mergelenslaw11.HunkGroups", spec := "hunkGroups", apart := false, narrowed := true }
def HunkGroupsUptoSaid : Prop := hunkGroupsUptoRow.holds Try.pinned (OpenSpec.upto hunkGroupsSpec)

/-- 'mergelenslaw11.HunkApart', WHERE WHAT IT READS IS OF BULK AT MOST 1048576: true; the input reads as it did. -/
def hunkApartUptoRow : OpenClaim := { program := "ytagembkjmnfidaa", sum := "1cba8c39fd7438af47579f68bc2c59a6f3c8a9f63b5027570f157de4986dc11f", func := "mergelens/mergelenslaw11.HunkApart", spec := "hunkApart", apart := false, narrowed := true }
def HunkApartUptoSaid : Prop := hunkApartUptoRow.holds Try.pinned (OpenSpec.upto hunkApartSpec)

/-- 'mergelenslaw11.HunkCovers', WHERE WHAT IT READS IS OF BULK AT MOST 1048576: true; the input reads as it did. -/
def hunkCoversUptoRow : OpenClaim := { program := "ytagembkjmnfidaa", sum := "1cba8c39fd7438af47579f68bc2c59a6f3c8a9f63b5027570f157de4986dc11f", func := "mergelens/mergelenslaw11.HunkCovers", spec := "hunkCovers", apart := false, narrowed := true }
def HunkCoversUptoSaid : Prop := hunkCoversUptoRow.holds Try.pinned (OpenSpec.upto hunkCoversSpec)

/-- 'mergelenslaw11.HunkExact', WHERE WHAT IT READS IS OF BULK AT MOST 1048576: true; the input reads as it did. -/
def hunkExactUptoRow : OpenClaim := { program := "ytagembkjmnfidaa", sum := "1cba8c39fd7438af47579f68bc2c59a6f3c8a9f63b5027570f157de4986dc11f", func := "mergelens/mergelenslaw11.HunkExact", spec := "hunkExact", apart := false, narrowed := true }
def HunkExactUptoSaid : Prop := hunkExactUptoRow.holds Try.pinned (OpenSpec.upto hunkExactSpec)

/-- 'mergelenslaw11.HunkGrows', WHERE WHAT IT READS IS OF BULK AT MOST 1048576: true; the input reads as it did. -/
def hunkGrowsUptoRow : OpenClaim := { program := "ytagembkjmnfidaa", sum := "1cba8c39fd7438af47579f68bc2c59a6f3c8a9f63b5027570f157de4986dc11f", func := "mergelens/mergelenslaw11.HunkGrows", spec := "hunkGrows", apart := false, narrowed := true }
def HunkGrowsUptoSaid : Prop := hunkGrowsUptoRow.holds Try.pinned (OpenSpec.upto hunkGrowsSpec)

/-- 'mergelenslaw08.ScriptChecks', WHERE WHAT IT READS IS OF BULK AT MOST 1048576: true; the input reads as it did. -/
def scriptChecksUptoRow : OpenClaim := { program := "ytagembkjmnfidaa", sum := "1cba8c39fd7438af47579f68bc2c59a6f3c8a9f63b5027570f157de4986dc11f", func := "mergelens/mergelenslaw08.ScriptChecks", spec := "scriptChecks", apart := false, narrowed := true }
def ScriptChecksUptoSaid : Prop := scriptChecksUptoRow.holds Try.pinned (OpenSpec.upto scriptChecksSpec)

/-- 'mergelenslaw08.ScriptPairs', WHERE WHAT IT READS IS OF BULK AT MOST 1048576: true; the input reads as it did. -/
def scriptPairsUptoRow : OpenClaim := { program := "ytagembkjmnfidaa", sum := "1cba8c39fd7438af47579f68bc2c59a6f3c8a9f63b5027570f157de4986dc11f", func := "mergelens/mergelenslaw08.ScriptPairs", spec := "scriptPairs", unfollowed := true, recurses := true, apart := false, narrowed := true }
def ScriptPairsUptoSaid : Prop := scriptPairsUptoRow.holds Try.pinned (OpenSpec.upto scriptPairsSpec)

/-- 'mergelenslaw08.ScriptFits', WHERE WHAT IT READS IS OF BULK AT MOST 1048576: true; the input reads as it did. -/
def scriptFitsUptoRow : OpenClaim := { program := "ytagembkjmnfidaa", sum := "1cba8c39fd7438af47579f68bc2c59a6f3c8a9f63b5027570f157de4986dc11f", func := "mergelens/mergelenslaw08.ScriptFits", spec := "scriptFits", unfollowed := true, recurses := true, apart := false, narrowed := true }
def ScriptFitsUptoSaid : Prop := scriptFitsUptoRow.holds Try.pinned (OpenSpec.upto scriptFitsSpec)

/-- 'mergelenslaw08.ScriptComposes', WHERE WHAT IT READS IS OF BULK AT MOST 1048576: true; the input reads as it did. -/
def scriptComposesUptoRow : OpenClaim := { program := "ytagembkjmnfidaa", sum := "1cba8c39fd7438af47579f68bc2c59a6f3c8a9f63b5027570f157de4986dc11f", func := "mergelens/mergelenslaw08.ScriptComposes", spec := "scriptComposes", unfollowed := true, recurses := true, apart := false, narrowed := true }
def ScriptComposesUptoSaid : Prop := scriptComposesUptoRow.holds Try.pinned (OpenSpec.upto scriptComposesSpec)

/-- 'mergelenslaw08.ScriptAlgebra', WHERE WHAT IT READS IS OF BULK AT MOST 1048576: true; the input reads as it did. -/
def scriptAlgebraUptoRow : OpenClaim := { program := "ytagembkjmnfidaa", sum := "1cba8c39fd7438af47579f68bc2c59a6f3c8a9f63b5027570f157de4986dc11f", func := "mergelens/mergelenslaw08.ScriptAlgebra", spec := "scriptAlgebra", unfollowed := true, recurses := true, apart := false, narrowed := true }
def ScriptAlgebraUptoSaid : Prop := scriptAlgebraUptoRow.holds Try.pinned (OpenSpec.upto scriptAlgebraSpec)

/-- 'mergelenslaw08.ScriptDetermined', WHERE WHAT IT READS IS OF BULK AT MOST 1048576: true; the input reads as it did. -/
def scriptDeterminedUptoRow : OpenClaim := { program := "ytagembkjmnfidaa", sum := "1cba8c39fd7438af47579f68bc2c59a6f3c8a9f63b5027570f157de4986dc11f", func := "mergelens/mergelenslaw08.ScriptDetermined", spec := "scriptDetermined", unfollowed := true, recurses := true, apart := false, narrowed := true }
def ScriptDeterminedUptoSaid : Prop := scriptDeterminedUptoRow.holds Try.pinned (OpenSpec.upto scriptDeterminedSpec)

/-- 'mergelenslaw29.TrackBack', WHERE WHAT IT READS IS OF BULK AT MOST 1048576: true; the input reads as it did. -/
def trackBackUptoRow : OpenClaim := { program := "ytagembkjmnfidaa", sum := "1cba8c39fd7438af47579f68bc2c59a6f3c8a9f63b5027570f157de4986dc11f", func := "mergelens/mergelenslaw29.TrackBack", spec := "trackBack", unfollowed := true, recurses := true, apart := false, narrowed := true }
def TrackBackUptoSaid : Prop := trackBackUptoRow.holds Try.pinned (OpenSpec.upto trackBackSpec)

/-- 'mergelenslaw29.TrackHull', WHERE WHAT IT READS IS OF BULK AT MOST 1048576: true; the input reads as it did. -/
def trackHullUptoRow : OpenClaim := { program := "ytagembkjmnfidaa", sum := "1cba8c39fd7438af47579f68bc2c59a6f3c8a9f63b5027570f157de4986dc11f", func := "mergelens/mergelenslaw29.TrackHull", spec := "trackHull", unfollowed := true, recurses := true, apart := false, narrowed := true }
def TrackHullUptoSaid : Prop := trackHullUptoRow.holds Try.pinned (OpenSpec.upto trackHullSpec)

/-- 'mergelenslaw29.TrackLeast', WHERE WHAT IT READS IS OF BULK AT MOST 1048576: true; the input reads as it did. -/
def trackLeastUptoRow : OpenClaim := { program := "ytagembkjmnfidaa", sum := "1cba8c39fd7438af47579f68bc2c59a6f3c8a9f63b5027570f157de4986dc11f", func := "mergelens/mergelenslaw29.TrackLeast", spec := "trackLeast", unfollowed := true, recurses := true, apart := false, narrowed := true }
def TrackLeastUptoSaid : Prop := trackLeastUptoRow.holds Try.pinned (OpenSpec.upto trackLeastSpec)

/-- 'mergelenslaw29.TrackUntouched', WHERE WHAT IT READS IS OF BULK AT MOST 1048576: true; the input reads as it did. -/
def trackUntouchedUptoRow : OpenClaim := { program := "ytagembkjmnfidaa", sum := "1cba8c39fd7438af47579f68bc2c59a6f3c8a9f63b5027570f157de4986dc11f", func := "mergelens/mergelenslaw29.TrackUntouched", spec := "trackUntouched", unfollowed := true, recurses := true, apart := false, narrowed := true }
def TrackUntouchedUptoSaid : Prop := trackUntouchedUptoRow.holds Try.pinned (OpenSpec.upto trackUntouchedSpec)

/-- 'mergelenslaw29.TrackGrows', WHERE WHAT IT READS IS OF BULK AT MOST 1048576: true; the input reads as it did. -/
def trackGrowsUptoRow : OpenClaim := { program := "ytagembkjmnfidaa", sum := "1cba8c39fd7438af47579f68bc2c59a6f3c8a9f63b5027570f157de4986dc11f", func := "mergelens/mergelenslaw29.TrackGrows", spec := "trackGrows", unfollowed := true, recurses := true, apart := false, narrowed := true }
def TrackGrowsUptoSaid : Prop := trackGrowsUptoRow.holds Try.pinned (OpenSpec.upto trackGrowsSpec)

/-- 'mergelenslaw29.TrackComposed', WHERE WHAT IT READS IS OF BULK AT MOST 1048576: true; the input reads as it did. -/
def trackComposedUptoRow : OpenClaim := { program := "ytagembkjmnfidaa", sum := "1cba8c39fd7438af47579f68bc2c59a6f3c8a9f63b5027570f157de4986dc11f", func := "mergelens/mergelenslaw29.TrackComposed", spec := "trackComposed", unfollowed := true, recurses := true, apart := false, narrowed := true }
def TrackComposedUptoSaid : Prop := trackComposedUptoRow.holds Try.pinned (OpenSpec.upto trackComposedSpec)

/-- 'mergelenslaw10.SlideRoom', WHERE WHAT IT READS IS OF BULK AT MOST 1048576: true; the input reads as it did. -/
def slideRoomUptoRow : OpenClaim := { program := "ytagembkjmnfidaa", sum := "1cba8c39fd7438af47579f68bc2c59a6f3c8a9f63b5027570f157de4986dc11f", func := "mergelens/mergelenslaw10.SlideRoom", spec := "slideRoom", unfollowed := true, recurses := true, apart := false, narrowed := true }
def SlideRoomUptoSaid : Prop := slideRoomUptoRow.holds Try.pinned (OpenSpec.upto slideRoomSpec)

/-- 'mergelenslaw10.SlideExchange', WHERE WHAT IT READS IS OF BULK AT MOST 1048576: true; the input reads as it did. -/
def slideExchangeUptoRow : OpenClaim := { program := "ytagembkjmnfidaa", sum := "1cba8c39fd7438af47579f68bc2c59a6f3c8a9f63b5027570f157de4986dc11f", func := "mergelens/mergelenslaw10.SlideExchange", spec := "slideExchange", unfollowed := true, recurses := true, apart := false, narrowed := true }
def SlideExchangeUptoSaid : Prop := slideExchangeUptoRow.holds Try.pinned (OpenSpec.upto slideExchangeSpec)

/-- 'mergelenslaw10.SlideMoves', WHERE WHAT IT READS IS OF BULK AT MOST 1048576: true; the input reads as it did. -/
def slideMovesUptoRow : OpenClaim := { program := "ytagembkjmnfidaa", sum := "1cba8c39fd7438af47579f68bc2c59a6f3c8a9f63b5027570f157de4986dc11f", func := "mergelens/mergelenslaw10.SlideMoves", spec := "slideMoves", unfollowed := true, recurses := true, apart := false, narrowed := true }
def SlideMovesUptoSaid : Prop := slideMovesUptoRow.holds Try.pinned (OpenSpec.upto slideMovesSpec)

/-- 'mergelenslaw10.SlideRefuses', WHERE WHAT IT READS IS OF BULK AT MOST 1048576: true; the input reads as it did. -/
def slideRefusesUptoRow : OpenClaim := { program := "ytagembkjmnfidaa", sum := "1cba8c39fd7438af47579f68bc2c59a6f3c8a9f63b5027570f157de4986dc11f", func := "mergelens/mergelenslaw10.SlideRefuses", spec := "slideRefuses", unfollowed := true, recurses := true, apart := false, narrowed := true }
def SlideRefusesUptoSaid : Prop := slideRefusesUptoRow.holds Try.pinned (OpenSpec.upto slideRefusesSpec)

/-- 'mergelenslaw10.SlideFits', WHERE WHAT IT READS IS OF BULK AT MOST 1048576: true; the input reads as it did. -/
def slideFitsUptoRow : OpenClaim := { program := "ytagembkjmnfidaa", sum := "1cba8c39fd7438af47579f68bc2c59a6f3c8a9f63b5027570f157de4986dc11f", func := "mergelens/mergelenslaw10.SlideFits", spec := "slideFits", unfollowed := true, recurses := true, apart := false, narrowed := true }
def SlideFitsUptoSaid : Prop := slideFitsUptoRow.holds Try.pinned (OpenSpec.upto slideFitsSpec)

/-- 'mergelenslaw10.SlideMirror', WHERE WHAT IT READS IS OF BULK AT MOST 1048576: true; the input reads as it did. -/
def slideMirrorUptoRow : OpenClaim := { program := "ytagembkjmnfidaa", sum := "1cba8c39fd7438af47579f68bc2c59a6f3c8a9f63b5027570f157de4986dc11f", func := "mergelens/mergelenslaw10.SlideMirror", spec := "slideMirror", unfollowed := true, recurses := true, apart := false, narrowed := true }
def SlideMirrorUptoSaid : Prop := slideMirrorUptoRow.holds Try.pinned (OpenSpec.upto slideMirrorSpec)

end Rows
end Go.Proofs.Ytagembkjmnfidaa
