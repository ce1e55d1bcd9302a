/-
  DERIVED. GIVEN WITH THE SEED: THE CARDS: each row of YtamffndlpminmaaGreatDoorRows.lean that lists a variable, with what it lists TIED to the program's text (the seventh form; the later family's looks); each row that meets fmt, with fmt's text TOLD by the authors' own Lean function (tested against real Go, not proved from fmt's source: count such statements apart). THE CARD IS WHAT COUNTS. Prove the row's statement (the work); the ties are given (YtamffndlpminmaaGreatDoorTie.lean); close each card by the builder's one call (the guide's Derived/Test/ToyasCard.lean, 'card_holds'). Laid BY PROGRAM, IN A SANDBOX (cutbox-door.mjs). By AI agents, Wed Nov 11 2026. No macro, syntax, notation, axiom, sorry.
-/
import Derived.Test.YtamffndlpminmaaGreatDoorRows
import GoSem.ClaimSeven
namespace Go.Proofs.YtamffndlpminmaaGreatDoor
namespace Rows

/-- THE TIED CARD OF 'schismalaw42.NotationReads'. -/
def notationReadsCard : Claim7 := { stood := { row := notationReadsRow, standIns := [], harness := (true, "b6389b1a6f3a3dc2ae9b2200a6bc9a5fcedeb16e87555273ac38aab9a9e4033e"), looks := true }, kinds := [], alts := [], laidByText := true, laidKinds := [.data, .data, .data, .data, .sentinel, .sentinel, .pinned], laidTests := true, laidLooks := .later }
def NotationReadsCardSaid : Prop := Claim7.holds Tryz.pinned (.plain (OpenSpec.ofChange notationReadsSpec)) notationReadsCard

/-- THE TIED CARD OF 'schismalaw42.NotationTexts'. -/
def notationTextsCard : Claim7 := { stood := { row := notationTextsRow, standIns := [], harness := (true, "b6389b1a6f3a3dc2ae9b2200a6bc9a5fcedeb16e87555273ac38aab9a9e4033e"), looks := true }, kinds := [], alts := [], laidByText := true, laidKinds := [.data, .data, .data, .data, .sentinel, .sentinel, .pinned], laidTests := true, laidLooks := .later }
def NotationTextsCardSaid : Prop := Claim7.holds Tryz.pinned (.plain (OpenSpec.ofChange notationTextsSpec)) notationTextsCard

/-- THE TIED CARD OF 'schismalaw42.NotationParses'. -/
def notationParsesCard : Claim7 := { stood := { row := notationParsesRow, standIns := [], harness := (true, "b6389b1a6f3a3dc2ae9b2200a6bc9a5fcedeb16e87555273ac38aab9a9e4033e"), looks := true }, kinds := [], alts := [], laidByText := true, laidKinds := [.data, .data, .data, .data, .sentinel, .sentinel, .pinned], laidTests := true, laidLooks := .later }
def NotationParsesCardSaid : Prop := Claim7.holds Tryz.pinned (.plain (OpenSpec.ofChange notationParsesSpec)) notationParsesCard

/-- THE TIED CARD OF 'schismalaw42.NotationDegrees'. -/
def notationDegreesCard : Claim7 := { stood := { row := notationDegreesRow, standIns := [], harness := (true, "b6389b1a6f3a3dc2ae9b2200a6bc9a5fcedeb16e87555273ac38aab9a9e4033e"), looks := true }, kinds := [], alts := [], laidByText := true, laidKinds := [.data, .data, .data, .data, .sentinel, .sentinel, .pinned], laidTests := true, laidLooks := .later }
def NotationDegreesCardSaid : Prop := Claim7.holds Tryz.pinned (.plain (OpenSpec.ofChange notationDegreesSpec)) notationDegreesCard

/-- THE SECOND FORM's CARD OF 'schismalaw42.NotationReads'. -/
def notationReadsUptoCard : Claim7 := { stood := { row := notationReadsUptoRow, standIns := [], harness := (true, "b6389b1a6f3a3dc2ae9b2200a6bc9a5fcedeb16e87555273ac38aab9a9e4033e"), looks := true }, kinds := [], alts := [], laidByText := true, laidKinds := [.data, .data, .data, .data, .sentinel, .sentinel, .pinned], laidTests := true, laidLooks := .later }
def NotationReadsUptoCardSaid : Prop := Claim7.holds Tryz.pinned (.plain (OpenSpec.upto notationReadsSpec)) notationReadsUptoCard

/-- THE SECOND FORM's CARD OF 'schismalaw42.NotationTexts'. -/
def notationTextsUptoCard : Claim7 := { stood := { row := notationTextsUptoRow, standIns := [], harness := (true, "b6389b1a6f3a3dc2ae9b2200a6bc9a5fcedeb16e87555273ac38aab9a9e4033e"), looks := true }, kinds := [], alts := [], laidByText := true, laidKinds := [.data, .data, .data, .data, .sentinel, .sentinel, .pinned], laidTests := true, laidLooks := .later }
def NotationTextsUptoCardSaid : Prop := Claim7.holds Tryz.pinned (.plain (OpenSpec.upto notationTextsSpec)) notationTextsUptoCard

/-- THE SECOND FORM's CARD OF 'schismalaw42.NotationParses'. -/
def notationParsesUptoCard : Claim7 := { stood := { row := notationParsesUptoRow, standIns := [], harness := (true, "b6389b1a6f3a3dc2ae9b2200a6bc9a5fcedeb16e87555273ac38aab9a9e4033e"), looks := true }, kinds := [], alts := [], laidByText := true, laidKinds := [.data, .data, .data, .data, .sentinel, .sentinel, .pinned], laidTests := true, laidLooks := .later }
def NotationParsesUptoCardSaid : Prop := Claim7.holds Tryz.pinned (.plain (OpenSpec.upto notationParsesSpec)) notationParsesUptoCard

/-- THE SECOND FORM's CARD OF 'schismalaw42.NotationDegrees'. -/
def notationDegreesUptoCard : Claim7 := { stood := { row := notationDegreesUptoRow, standIns := [], harness := (true, "b6389b1a6f3a3dc2ae9b2200a6bc9a5fcedeb16e87555273ac38aab9a9e4033e"), looks := true }, kinds := [], alts := [], laidByText := true, laidKinds := [.data, .data, .data, .data, .sentinel, .sentinel, .pinned], laidTests := true, laidLooks := .later }
def NotationDegreesUptoCardSaid : Prop := Claim7.holds Tryz.pinned (.plain (OpenSpec.upto notationDegreesSpec)) notationDegreesUptoCard
end Rows
end Go.Proofs.YtamffndlpminmaaGreatDoor
