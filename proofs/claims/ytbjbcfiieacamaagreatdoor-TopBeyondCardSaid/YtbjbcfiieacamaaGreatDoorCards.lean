/-
  DERIVED. GIVEN WITH THE SEED: THE CARDS: each row of YtbjbcfiieacamaaGreatDoorRows.lean that lists a variable, with what it lists TIED to the program's text (the seventh form; the later family's looks); each row that meets fmt, with fmt's text TOLD by the authors' own Lean function (tested against real Go, not proved from fmt's source: count such statements apart). THE CARD IS WHAT COUNTS. Prove the row's statement (the work); the ties are given (YtbjbcfiieacamaaGreatDoorTie.lean); close each card by the builder's one call (the guide's Derived/Test/ToyasCard.lean, 'card_holds'). Laid BY PROGRAM, IN A SANDBOX (cutbox-door.mjs). By AI agents, Wed Nov 11 2026. No macro, syntax, notation, axiom, sorry.
-/
import Derived.Test.YtbjbcfiieacamaaGreatDoorRows
import GoSem.ClaimSeven
namespace Go.Proofs.YtbjbcfiieacamaaGreatDoor
namespace Rows

/-- THE TIED CARD OF 'mergelenstop.TopBeyond'. -/
def topBeyondCard : Claim7 := { stood := { row := topBeyondRow, standIns := [], harness := (true, "40858e353ceb5aa9836df03e6c6b7a7ff364df6479e6fee1e7f0edf310f9962b"), looks := false }, kinds := [], alts := [], laidByText := true, laidKinds := [.data, .data, .data, .data, .pinned], laidTests := true, laidLooks := .later }
def TopBeyondCardSaid : Prop := Claim7.holds Tryz.pinned (.plain (OpenSpec.ofChange topBeyondSpec)) topBeyondCard

/-- THE SECOND FORM's CARD OF 'mergelenstop.TopBeyond'. -/
def topBeyondUptoCard : Claim7 := { stood := { row := topBeyondUptoRow, standIns := [], harness := (true, "40858e353ceb5aa9836df03e6c6b7a7ff364df6479e6fee1e7f0edf310f9962b"), looks := false }, kinds := [], alts := [], laidByText := true, laidKinds := [.data, .data, .data, .data, .pinned], laidTests := true, laidLooks := .later }
def TopBeyondUptoCardSaid : Prop := Claim7.holds Tryz.pinned (.plain (OpenSpec.upto topBeyondSpec)) topBeyondUptoCard
end Rows
end Go.Proofs.YtbjbcfiieacamaaGreatDoor
