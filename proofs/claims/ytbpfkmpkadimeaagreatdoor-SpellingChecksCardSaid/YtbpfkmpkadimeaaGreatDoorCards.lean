/-
  DERIVED. GIVEN WITH THE SEED: THE CARDS: each row of YtbpfkmpkadimeaaGreatDoorRows.lean that lists a variable, with what it lists TIED to the program's text (the seventh form; the later family's looks); each row that meets fmt, with fmt's text TOLD by the authors' own Lean function (tested against real Go, not proved from fmt's source: count such statements apart). THE CARD IS WHAT COUNTS. Prove the row's statement (the work); the ties are given (YtbpfkmpkadimeaaGreatDoorTie.lean); close each card by the builder's one call (the guide's Derived/Test/ToyasCard.lean, 'card_holds'). Laid BY PROGRAM, IN A SANDBOX (cutbox-door.mjs). By AI agents, Wed Nov 11 2026. No macro, syntax, notation, axiom, sorry.
-/
import Derived.Test.YtbpfkmpkadimeaaGreatDoorRows
import GoSem.ClaimSeven
namespace Go.Proofs.YtbpfkmpkadimeaaGreatDoor
namespace Rows

/-- THE TIED CARD OF 'schismalaw43.SpellingRelates'. -/
def spellingRelatesCard : Claim7 := { stood := { row := spellingRelatesRow, standIns := [], harness := (true, "78520551a688d1f6763d4e23b457e46d08609d47599b018a9637b4f829f31b8d"), looks := true }, kinds := [], alts := [], laidByText := true, laidKinds := [.data, .data, .data, .sentinel, .sentinel], laidTests := true, laidLooks := .later }
def SpellingRelatesCardSaid : Prop := Claim7.holds Tryz.pinned (.plain (OpenSpec.ofChange spellingRelatesSpec)) spellingRelatesCard

/-- THE TIED CARD OF 'schismalaw43.SpellingChecks'. -/
def spellingChecksCard : Claim7 := { stood := { row := spellingChecksRow, standIns := [], harness := (true, "78520551a688d1f6763d4e23b457e46d08609d47599b018a9637b4f829f31b8d"), looks := true }, kinds := [], alts := [], laidByText := true, laidKinds := [.data, .data, .data, .sentinel, .sentinel], laidTests := true, laidLooks := .later }
def SpellingChecksCardSaid : Prop := Claim7.holds Tryz.pinned (.plain (OpenSpec.ofChange spellingChecksSpec)) spellingChecksCard

/-- THE TIED CARD OF 'schismalaw42.NotationNames'. -/
def notationNamesCard : Claim7 := { stood := { row := notationNamesRow, standIns := [], harness := (true, "78520551a688d1f6763d4e23b457e46d08609d47599b018a9637b4f829f31b8d"), looks := true }, kinds := [], alts := [], laidByText := true, laidKinds := [.data, .data, .data, .data, .sentinel, .sentinel, .pinned], laidTests := true, laidLooks := .later }
def NotationNamesCardSaid : Prop := Claim7.holds Tryz.pinned (.plain (OpenSpec.ofChange notationNamesSpec)) notationNamesCard

/-- THE TIED CARD OF 'schismalaw42.NotationReads'. -/
def notationReadsCard : Claim7 := { stood := { row := notationReadsRow, standIns := [], harness := (true, "78520551a688d1f6763d4e23b457e46d08609d47599b018a9637b4f829f31b8d"), looks := true }, kinds := [], alts := [], laidByText := true, laidKinds := [.data, .data, .data, .data, .sentinel, .sentinel, .pinned], laidTests := true, laidLooks := .later }
def NotationReadsCardSaid : Prop := Claim7.holds Tryz.pinned (.plain (OpenSpec.ofChange notationReadsSpec)) notationReadsCard

/-- THE TIED CARD OF 'schismalaw42.NotationTexts'. -/
def notationTextsCard : Claim7 := { stood := { row := notationTextsRow, standIns := [], harness := (true, "78520551a688d1f6763d4e23b457e46d08609d47599b018a9637b4f829f31b8d"), looks := true }, kinds := [], alts := [], laidByText := true, laidKinds := [.data, .data, .data, .data, .sentinel, .sentinel, .pinned], laidTests := true, laidLooks := .later }
def NotationTextsCardSaid : Prop := Claim7.holds Tryz.pinned (.plain (OpenSpec.ofChange notationTextsSpec)) notationTextsCard

/-- THE TIED CARD OF 'schismalaw42.NotationParses'. -/
def notationParsesCard : Claim7 := { stood := { row := notationParsesRow, standIns := [], harness := (true, "78520551a688d1f6763d4e23b457e46d08609d47599b018a9637b4f829f31b8d"), looks := true }, kinds := [], alts := [], laidByText := true, laidKinds := [.data, .data, .data, .data, .sentinel, .sentinel, .pinned], laidTests := true, laidLooks := .later }
def NotationParsesCardSaid : Prop := Claim7.holds Tryz.pinned (.plain (OpenSpec.ofChange notationParsesSpec)) notationParsesCard

/-- THE SECOND FORM's CARD OF 'schismalaw43.SpellingRelates'. -/
def spellingRelatesUptoCard : Claim7 := { stood := { row := spellingRelatesUptoRow, standIns := [], harness := (true, "78520551a688d1f6763d4e23b457e46d08609d47599b018a9637b4f829f31b8d"), looks := true }, kinds := [], alts := [], laidByText := true, laidKinds := [.data, .data, .data, .sentinel, .sentinel], laidTests := true, laidLooks := .later }
def SpellingRelatesUptoCardSaid : Prop := Claim7.holds Tryz.pinned (.plain (OpenSpec.upto spellingRelatesSpec)) spellingRelatesUptoCard

/-- THE SECOND FORM's CARD OF 'schismalaw43.SpellingChecks'. -/
def spellingChecksUptoCard : Claim7 := { stood := { row := spellingChecksUptoRow, standIns := [], harness := (true, "78520551a688d1f6763d4e23b457e46d08609d47599b018a9637b4f829f31b8d"), looks := true }, kinds := [], alts := [], laidByText := true, laidKinds := [.data, .data, .data, .sentinel, .sentinel], laidTests := true, laidLooks := .later }
def SpellingChecksUptoCardSaid : Prop := Claim7.holds Tryz.pinned (.plain (OpenSpec.upto spellingChecksSpec)) spellingChecksUptoCard

/-- THE SECOND FORM's CARD OF 'schismalaw42.NotationNames'. -/
def notationNamesUptoCard : Claim7 := { stood := { row := notationNamesUptoRow, standIns := [], harness := (true, "78520551a688d1f6763d4e23b457e46d08609d47599b018a9637b4f829f31b8d"), looks := true }, kinds := [], alts := [], laidByText := true, laidKinds := [.data, .data, .data, .data, .sentinel, .sentinel, .pinned], laidTests := true, laidLooks := .later }
def NotationNamesUptoCardSaid : Prop := Claim7.holds Tryz.pinned (.plain (OpenSpec.upto notationNamesSpec)) notationNamesUptoCard

/-- THE SECOND FORM's CARD OF 'schismalaw42.NotationReads'. -/
def notationReadsUptoCard : Claim7 := { stood := { row := notationReadsUptoRow, standIns := [], harness := (true, "78520551a688d1f6763d4e23b457e46d08609d47599b018a9637b4f829f31b8d"), looks := true }, kinds := [], alts := [], laidByText := true, laidKinds := [.data, .data, .data, .data, .sentinel, .sentinel, .pinned], laidTests := true, laidLooks := .later }
def NotationReadsUptoCardSaid : Prop := Claim7.holds Tryz.pinned (.plain (OpenSpec.upto notationReadsSpec)) notationReadsUptoCard

/-- THE SECOND FORM's CARD OF 'schismalaw42.NotationTexts'. -/
def notationTextsUptoCard : Claim7 := { stood := { row := notationTextsUptoRow, standIns := [], harness := (true, "78520551a688d1f6763d4e23b457e46d08609d47599b018a9637b4f829f31b8d"), looks := true }, kinds := [], alts := [], laidByText := true, laidKinds := [.data, .data, .data, .data, .sentinel, .sentinel, .pinned], laidTests := true, laidLooks := .later }
def NotationTextsUptoCardSaid : Prop := Claim7.holds Tryz.pinned (.plain (OpenSpec.upto notationTextsSpec)) notationTextsUptoCard

/-- THE SECOND FORM's CARD OF 'schismalaw42.NotationParses'. -/
def notationParsesUptoCard : Claim7 := { stood := { row := notationParsesUptoRow, standIns := [], harness := (true, "78520551a688d1f6763d4e23b457e46d08609d47599b018a9637b4f829f31b8d"), looks := true }, kinds := [], alts := [], laidByText := true, laidKinds := [.data, .data, .data, .data, .sentinel, .sentinel, .pinned], laidTests := true, laidLooks := .later }
def NotationParsesUptoCardSaid : Prop := Claim7.holds Tryz.pinned (.plain (OpenSpec.upto notationParsesSpec)) notationParsesUptoCard
end Rows
end Go.Proofs.YtbpfkmpkadimeaaGreatDoor
