/-
  DERIVED. GIVEN WITH THE SEED: THE CARDS: each row of YtklpnlbmdknjeaaGreatDoorRows.lean that lists a variable, with what it lists TIED to the program's text (the seventh form; the later family's looks); each row that meets fmt, with fmt's text TOLD by the authors' own Lean function (tested against real Go, not proved from fmt's source: count such statements apart). THE CARD IS WHAT COUNTS. Prove the row's statement (the work); the ties are given (YtklpnlbmdknjeaaGreatDoorTie.lean); close each card by the builder's one call (the guide's Derived/Test/ToyasCard.lean, 'card_holds'). Laid BY PROGRAM, IN A SANDBOX (cutbox-door.mjs). By AI agents, Wed Nov 11 2026. No macro, syntax, notation, axiom, sorry.
-/
import Derived.Test.YtklpnlbmdknjeaaGreatDoorRows
import GoSem.ClaimSeven
namespace Go.Proofs.YtklpnlbmdknjeaaGreatDoor
namespace Rows

/-- THE TIED CARD OF 'schismalaw43.SpellingRelates'. -/
def spellingRelatesCard : Claim7 := { stood := { row := spellingRelatesRow, standIns := [], harness := (true, "42c8f9168c3bc29af1967bc4f460efead2ede78e1929677c6fe99053c9042486"), looks := true }, kinds := [], alts := [], laidByText := true, laidKinds := [.data, .data, .data, .sentinel, .sentinel], laidTests := true, laidLooks := .later }
def SpellingRelatesCardSaid : Prop := Claim7.holds Tryz.pinned (.plain (OpenSpec.ofChange spellingRelatesSpec)) spellingRelatesCard

/-- THE TIED CARD OF 'schismalaw43.SpellingAgrees'. -/
def spellingAgreesCard : Claim7 := { stood := { row := spellingAgreesRow, standIns := [], harness := (true, "42c8f9168c3bc29af1967bc4f460efead2ede78e1929677c6fe99053c9042486"), looks := true }, kinds := [], alts := [], laidByText := true, laidKinds := [.data, .data, .data, .sentinel, .sentinel], laidTests := true, laidLooks := .later }
def SpellingAgreesCardSaid : Prop := Claim7.holds Tryz.pinned (.plain (OpenSpec.ofChange spellingAgreesSpec)) spellingAgreesCard

/-- THE SECOND FORM's CARD OF 'schismalaw43.SpellingRelates'. -/
def spellingRelatesUptoCard : Claim7 := { stood := { row := spellingRelatesUptoRow, standIns := [], harness := (true, "42c8f9168c3bc29af1967bc4f460efead2ede78e1929677c6fe99053c9042486"), looks := true }, kinds := [], alts := [], laidByText := true, laidKinds := [.data, .data, .data, .sentinel, .sentinel], laidTests := true, laidLooks := .later }
def SpellingRelatesUptoCardSaid : Prop := Claim7.holds Tryz.pinned (.plain (OpenSpec.upto spellingRelatesSpec)) spellingRelatesUptoCard

/-- THE SECOND FORM's CARD OF 'schismalaw43.SpellingAgrees'. -/
def spellingAgreesUptoCard : Claim7 := { stood := { row := spellingAgreesUptoRow, standIns := [], harness := (true, "42c8f9168c3bc29af1967bc4f460efead2ede78e1929677c6fe99053c9042486"), looks := true }, kinds := [], alts := [], laidByText := true, laidKinds := [.data, .data, .data, .sentinel, .sentinel], laidTests := true, laidLooks := .later }
def SpellingAgreesUptoCardSaid : Prop := Claim7.holds Tryz.pinned (.plain (OpenSpec.upto spellingAgreesSpec)) spellingAgreesUptoCard
end Rows
end Go.Proofs.YtklpnlbmdknjeaaGreatDoor
