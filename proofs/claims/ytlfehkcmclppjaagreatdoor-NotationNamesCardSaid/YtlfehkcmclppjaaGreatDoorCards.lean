/-
  DERIVED. GIVEN WITH THE SEED: THE CARDS: each row of YtlfehkcmclppjaaGreatDoorRows.lean that lists a variable, with what it lists TIED to the program's text (the seventh form; the later family's looks); each row that meets fmt, with fmt's text TOLD by the authors' own Lean function (tested against real Go, not proved from fmt's source: count such statements apart). THE CARD IS WHAT COUNTS. Prove the row's statement (the work); the ties are given (YtlfehkcmclppjaaGreatDoorTie.lean); close each card by the builder's one call (the guide's Derived/Test/ToyasCard.lean, 'card_holds'). Laid BY PROGRAM, IN A SANDBOX (cutbox-door.mjs). By AI agents, Wed Nov 11 2026. No macro, syntax, notation, axiom, sorry.
-/
import Derived.Test.YtlfehkcmclppjaaGreatDoorRows
import GoSem.ClaimSeven
namespace Go.Proofs.YtlfehkcmclppjaaGreatDoor
namespace Rows

/-- THE TIED CARD OF 'schismalaw42.NotationNames'. -/
def notationNamesCard : Claim7 := { stood := { row := notationNamesRow, standIns := [], harness := (true, "2ef9be6e64f77a7b2a714eb63a2d5c8e40f9e70b491a240ac24c46a412419f70"), looks := true }, kinds := [], alts := [], laidByText := true, laidKinds := [.data, .data, .data, .data, .sentinel, .sentinel, .pinned], laidTests := true, laidLooks := .later }
def NotationNamesCardSaid : Prop := Claim7.holds Tryz.pinned (.plain (OpenSpec.ofChange notationNamesSpec)) notationNamesCard

/-- THE SECOND FORM's CARD OF 'schismalaw42.NotationNames'. -/
def notationNamesUptoCard : Claim7 := { stood := { row := notationNamesUptoRow, standIns := [], harness := (true, "2ef9be6e64f77a7b2a714eb63a2d5c8e40f9e70b491a240ac24c46a412419f70"), looks := true }, kinds := [], alts := [], laidByText := true, laidKinds := [.data, .data, .data, .data, .sentinel, .sentinel, .pinned], laidTests := true, laidLooks := .later }
def NotationNamesUptoCardSaid : Prop := Claim7.holds Tryz.pinned (.plain (OpenSpec.upto notationNamesSpec)) notationNamesUptoCard
end Rows
end Go.Proofs.YtlfehkcmclppjaaGreatDoor
