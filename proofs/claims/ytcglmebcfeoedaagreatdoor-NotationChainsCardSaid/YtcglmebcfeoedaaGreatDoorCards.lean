/-
  DERIVED. GIVEN WITH THE SEED: THE CARDS: each row of YtcglmebcfeoedaaGreatDoorRows.lean that lists a variable, with what it lists TIED to the program's text (the seventh form; the later family's looks); each row that meets fmt, with fmt's text TOLD by the authors' own Lean function (tested against real Go, not proved from fmt's source: count such statements apart). THE CARD IS WHAT COUNTS. Prove the row's statement (the work); the ties are given (YtcglmebcfeoedaaGreatDoorTie.lean); close each card by the builder's one call (the guide's Derived/Test/ToyasCard.lean, 'card_holds'). Laid BY PROGRAM, IN A SANDBOX (cutbox-door.mjs). By AI agents, Wed Nov 11 2026. No macro, syntax, notation, axiom, sorry.
-/
import Derived.Test.YtcglmebcfeoedaaGreatDoorRows
import GoSem.ClaimSeven
namespace Go.Proofs.YtcglmebcfeoedaaGreatDoor
namespace Rows

/-- THE TIED CARD OF 'schismalaw43.SpellingRelates'. -/
def spellingRelatesCard : Claim7 := { stood := { row := spellingRelatesRow, standIns := [], harness := (true, "06806346d8b62737d6ac2cde3f4a0b4d124622ca9360d45fe7470ea939bebb09"), looks := true }, kinds := [], alts := [], laidByText := true, laidKinds := [.data, .data, .data, .sentinel, .sentinel], laidTests := true, laidLooks := .later }
def SpellingRelatesCardSaid : Prop := Claim7.holds Tryz.pinned (.plain (OpenSpec.ofChange spellingRelatesSpec)) spellingRelatesCard

/-- THE TIED CARD OF 'schismalaw42.NotationChains'. -/
def notationChainsCard : Claim7 := { stood := { row := notationChainsRow, standIns := [], harness := (true, "06806346d8b62737d6ac2cde3f4a0b4d124622ca9360d45fe7470ea939bebb09"), looks := true }, kinds := [], alts := [], laidByText := true, laidKinds := [.data, .data, .data, .data, .sentinel, .sentinel, .pinned], laidTests := true, laidLooks := .later }
def NotationChainsCardSaid : Prop := Claim7.holds Tryz.pinned (.plain (OpenSpec.ofChange notationChainsSpec)) notationChainsCard

/-- THE TIED CARD OF 'schismalaw42.NotationChecks'. -/
def notationChecksCard : Claim7 := { stood := { row := notationChecksRow, standIns := [], harness := (true, "06806346d8b62737d6ac2cde3f4a0b4d124622ca9360d45fe7470ea939bebb09"), looks := true }, kinds := [], alts := [], laidByText := true, laidKinds := [.data, .data, .data, .data, .sentinel, .sentinel, .pinned], laidTests := true, laidLooks := .later }
def NotationChecksCardSaid : Prop := Claim7.holds Tryz.pinned (.plain (OpenSpec.ofChange notationChecksSpec)) notationChecksCard

/-- THE SECOND FORM's CARD OF 'schismalaw43.SpellingRelates'. -/
def spellingRelatesUptoCard : Claim7 := { stood := { row := spellingRelatesUptoRow, standIns := [], harness := (true, "06806346d8b62737d6ac2cde3f4a0b4d124622ca9360d45fe7470ea939bebb09"), looks := true }, kinds := [], alts := [], laidByText := true, laidKinds := [.data, .data, .data, .sentinel, .sentinel], laidTests := true, laidLooks := .later }
def SpellingRelatesUptoCardSaid : Prop := Claim7.holds Tryz.pinned (.plain (OpenSpec.upto spellingRelatesSpec)) spellingRelatesUptoCard

/-- THE SECOND FORM's CARD OF 'schismalaw42.NotationChains'. -/
def notationChainsUptoCard : Claim7 := { stood := { row := notationChainsUptoRow, standIns := [], harness := (true, "06806346d8b62737d6ac2cde3f4a0b4d124622ca9360d45fe7470ea939bebb09"), looks := true }, kinds := [], alts := [], laidByText := true, laidKinds := [.data, .data, .data, .data, .sentinel, .sentinel, .pinned], laidTests := true, laidLooks := .later }
def NotationChainsUptoCardSaid : Prop := Claim7.holds Tryz.pinned (.plain (OpenSpec.upto notationChainsSpec)) notationChainsUptoCard

/-- THE SECOND FORM's CARD OF 'schismalaw42.NotationChecks'. -/
def notationChecksUptoCard : Claim7 := { stood := { row := notationChecksUptoRow, standIns := [], harness := (true, "06806346d8b62737d6ac2cde3f4a0b4d124622ca9360d45fe7470ea939bebb09"), looks := true }, kinds := [], alts := [], laidByText := true, laidKinds := [.data, .data, .data, .data, .sentinel, .sentinel, .pinned], laidTests := true, laidLooks := .later }
def NotationChecksUptoCardSaid : Prop := Claim7.holds Tryz.pinned (.plain (OpenSpec.upto notationChecksSpec)) notationChecksUptoCard
end Rows
end Go.Proofs.YtcglmebcfeoedaaGreatDoor
