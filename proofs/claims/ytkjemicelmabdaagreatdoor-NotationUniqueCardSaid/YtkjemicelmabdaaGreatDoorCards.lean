/-
  DERIVED. GIVEN WITH THE SEED: THE CARDS: each row of YtkjemicelmabdaaGreatDoorRows.lean that lists a variable, with what it lists TIED to the program's text (the seventh form; the later family's looks); each row that meets fmt, with fmt's text TOLD by the authors' own Lean function (tested against real Go, not proved from fmt's source: count such statements apart). THE CARD IS WHAT COUNTS. Prove the row's statement (the work); the ties are given (YtkjemicelmabdaaGreatDoorTie.lean); close each card by the builder's one call (the guide's Derived/Test/ToyasCard.lean, 'card_holds'). Laid BY PROGRAM, IN A SANDBOX (cutbox-door.mjs). By AI agents, Wed Nov 11 2026. No macro, syntax, notation, axiom, sorry.
-/
import Derived.Test.YtkjemicelmabdaaGreatDoorRows
import GoSem.ClaimSeven
namespace Go.Proofs.YtkjemicelmabdaaGreatDoor
namespace Rows

/-- THE TIED CARD OF 'schismalaw42.NotationSpells'. -/
def notationSpellsCard : Claim7 := { stood := { row := notationSpellsRow, standIns := [], harness := (true, "25deada8cf020154051ad2ed90a5adcf7b9cbf3ff90399952577ccb6b7fed5fc"), looks := true }, kinds := [], alts := [], laidByText := true, laidKinds := [.data, .data, .data, .data, .sentinel, .sentinel, .pinned], laidTests := true, laidLooks := .later }
def NotationSpellsCardSaid : Prop := Claim7.holds Tryz.pinned (.plain (OpenSpec.ofChange notationSpellsSpec)) notationSpellsCard

/-- THE TIED CARD OF 'schismalaw42.NotationParses'. -/
def notationParsesCard : Claim7 := { stood := { row := notationParsesRow, standIns := [], harness := (true, "25deada8cf020154051ad2ed90a5adcf7b9cbf3ff90399952577ccb6b7fed5fc"), looks := true }, kinds := [], alts := [], laidByText := true, laidKinds := [.data, .data, .data, .data, .sentinel, .sentinel, .pinned], laidTests := true, laidLooks := .later }
def NotationParsesCardSaid : Prop := Claim7.holds Tryz.pinned (.plain (OpenSpec.ofChange notationParsesSpec)) notationParsesCard

/-- THE TIED CARD OF 'schismalaw42.NotationReturns'. -/
def notationReturnsCard : Claim7 := { stood := { row := notationReturnsRow, standIns := [], harness := (true, "25deada8cf020154051ad2ed90a5adcf7b9cbf3ff90399952577ccb6b7fed5fc"), looks := true }, kinds := [], alts := [], laidByText := true, laidKinds := [.data, .data, .data, .data, .sentinel, .sentinel, .pinned], laidTests := true, laidLooks := .later }
def NotationReturnsCardSaid : Prop := Claim7.holds Tryz.pinned (.plain (OpenSpec.ofChange notationReturnsSpec)) notationReturnsCard

/-- THE TIED CARD OF 'schismalaw42.NotationUnique'. -/
def notationUniqueCard : Claim7 := { stood := { row := notationUniqueRow, standIns := [], harness := (true, "25deada8cf020154051ad2ed90a5adcf7b9cbf3ff90399952577ccb6b7fed5fc"), looks := true }, kinds := [], alts := [], laidByText := true, laidKinds := [.data, .data, .data, .data, .sentinel, .sentinel, .pinned], laidTests := true, laidLooks := .later }
def NotationUniqueCardSaid : Prop := Claim7.holds Tryz.pinned (.plain (OpenSpec.ofChange notationUniqueSpec)) notationUniqueCard

/-- THE SECOND FORM's CARD OF 'schismalaw42.NotationSpells'. -/
def notationSpellsUptoCard : Claim7 := { stood := { row := notationSpellsUptoRow, standIns := [], harness := (true, "25deada8cf020154051ad2ed90a5adcf7b9cbf3ff90399952577ccb6b7fed5fc"), looks := true }, kinds := [], alts := [], laidByText := true, laidKinds := [.data, .data, .data, .data, .sentinel, .sentinel, .pinned], laidTests := true, laidLooks := .later }
def NotationSpellsUptoCardSaid : Prop := Claim7.holds Tryz.pinned (.plain (OpenSpec.upto notationSpellsSpec)) notationSpellsUptoCard

/-- THE SECOND FORM's CARD OF 'schismalaw42.NotationParses'. -/
def notationParsesUptoCard : Claim7 := { stood := { row := notationParsesUptoRow, standIns := [], harness := (true, "25deada8cf020154051ad2ed90a5adcf7b9cbf3ff90399952577ccb6b7fed5fc"), looks := true }, kinds := [], alts := [], laidByText := true, laidKinds := [.data, .data, .data, .data, .sentinel, .sentinel, .pinned], laidTests := true, laidLooks := .later }
def NotationParsesUptoCardSaid : Prop := Claim7.holds Tryz.pinned (.plain (OpenSpec.upto notationParsesSpec)) notationParsesUptoCard

/-- THE SECOND FORM's CARD OF 'schismalaw42.NotationReturns'. -/
def notationReturnsUptoCard : Claim7 := { stood := { row := notationReturnsUptoRow, standIns := [], harness := (true, "25deada8cf020154051ad2ed90a5adcf7b9cbf3ff90399952577ccb6b7fed5fc"), looks := true }, kinds := [], alts := [], laidByText := true, laidKinds := [.data, .data, .data, .data, .sentinel, .sentinel, .pinned], laidTests := true, laidLooks := .later }
def NotationReturnsUptoCardSaid : Prop := Claim7.holds Tryz.pinned (.plain (OpenSpec.upto notationReturnsSpec)) notationReturnsUptoCard

/-- THE SECOND FORM's CARD OF 'schismalaw42.NotationUnique'. -/
def notationUniqueUptoCard : Claim7 := { stood := { row := notationUniqueUptoRow, standIns := [], harness := (true, "25deada8cf020154051ad2ed90a5adcf7b9cbf3ff90399952577ccb6b7fed5fc"), looks := true }, kinds := [], alts := [], laidByText := true, laidKinds := [.data, .data, .data, .data, .sentinel, .sentinel, .pinned], laidTests := true, laidLooks := .later }
def NotationUniqueUptoCardSaid : Prop := Claim7.holds Tryz.pinned (.plain (OpenSpec.upto notationUniqueSpec)) notationUniqueUptoCard
end Rows
end Go.Proofs.YtkjemicelmabdaaGreatDoor
