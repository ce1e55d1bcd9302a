/-
  DERIVED. GIVEN WITH THE SEED: THE CARDS: each row of YtphjfalibnnohaaGreatDoorRows.lean that lists a variable, with what it lists TIED to the program's text (the seventh form; the later family's looks); each row that meets fmt, with fmt's text TOLD by the authors' own Lean function (tested against real Go, not proved from fmt's source: count such statements apart). THE CARD IS WHAT COUNTS. Prove the row's statement (the work); the ties are given (YtphjfalibnnohaaGreatDoorTie.lean); close each card by the builder's one call (the guide's Derived/Test/ToyasCard.lean, 'card_holds'). Laid BY PROGRAM, IN A SANDBOX (cutbox-door.mjs). By AI agents, Wed Nov 11 2026. No macro, syntax, notation, axiom, sorry.
-/
import Derived.Test.YtphjfalibnnohaaGreatDoorRows
import GoSem.ClaimSeven
namespace Go.Proofs.YtphjfalibnnohaaGreatDoor
namespace Rows

/-- THE TIED CARD OF 'schismalaw43.SpellingGrows'. -/
def spellingGrowsCard : Claim7 := { stood := { row := spellingGrowsRow, standIns := [], harness := (true, "1d021e7a72f477fdf99cb6bad2daff1a4ba36e206f9b9448a95ea24fab952bb7"), looks := true }, kinds := [], alts := [], laidByText := true, laidKinds := [.data, .data, .data, .sentinel, .sentinel], laidTests := true, laidLooks := .later }
def SpellingGrowsCardSaid : Prop := Claim7.holds Tryz.pinned (.plain (OpenSpec.ofChange spellingGrowsSpec)) spellingGrowsCard

/-- THE TIED CARD OF 'schismalaw43.SpellingEnharmonic'. -/
def spellingEnharmonicCard : Claim7 := { stood := { row := spellingEnharmonicRow, standIns := [], harness := (true, "1d021e7a72f477fdf99cb6bad2daff1a4ba36e206f9b9448a95ea24fab952bb7"), looks := true }, kinds := [], alts := [], laidByText := true, laidKinds := [.data, .data, .data, .sentinel, .sentinel], laidTests := true, laidLooks := .later }
def SpellingEnharmonicCardSaid : Prop := Claim7.holds Tryz.pinned (.plain (OpenSpec.ofChange spellingEnharmonicSpec)) spellingEnharmonicCard

/-- THE TIED CARD OF 'schismalaw43.SpellingAll'. -/
def spellingAllCard : Claim7 := { stood := { row := spellingAllRow, standIns := [], harness := (true, "1d021e7a72f477fdf99cb6bad2daff1a4ba36e206f9b9448a95ea24fab952bb7"), looks := true }, kinds := [], alts := [], laidByText := true, laidKinds := [.data, .data, .data, .sentinel, .sentinel], laidTests := true, laidLooks := .later }
def SpellingAllCardSaid : Prop := Claim7.holds Tryz.pinned (.plain (OpenSpec.ofChange spellingAllSpec)) spellingAllCard

/-- THE TIED CARD OF 'schismalaw43.SpellingReads'. -/
def spellingReadsCard : Claim7 := { stood := { row := spellingReadsRow, standIns := [], harness := (true, "1d021e7a72f477fdf99cb6bad2daff1a4ba36e206f9b9448a95ea24fab952bb7"), looks := true }, kinds := [], alts := [], laidByText := true, laidKinds := [.data, .data, .data, .sentinel, .sentinel], laidTests := true, laidLooks := .later }
def SpellingReadsCardSaid : Prop := Claim7.holds Tryz.pinned (.plain (OpenSpec.ofChange spellingReadsSpec)) spellingReadsCard

/-- THE SECOND FORM's CARD OF 'schismalaw43.SpellingGrows'. -/
def spellingGrowsUptoCard : Claim7 := { stood := { row := spellingGrowsUptoRow, standIns := [], harness := (true, "1d021e7a72f477fdf99cb6bad2daff1a4ba36e206f9b9448a95ea24fab952bb7"), looks := true }, kinds := [], alts := [], laidByText := true, laidKinds := [.data, .data, .data, .sentinel, .sentinel], laidTests := true, laidLooks := .later }
def SpellingGrowsUptoCardSaid : Prop := Claim7.holds Tryz.pinned (.plain (OpenSpec.upto spellingGrowsSpec)) spellingGrowsUptoCard

/-- THE SECOND FORM's CARD OF 'schismalaw43.SpellingEnharmonic'. -/
def spellingEnharmonicUptoCard : Claim7 := { stood := { row := spellingEnharmonicUptoRow, standIns := [], harness := (true, "1d021e7a72f477fdf99cb6bad2daff1a4ba36e206f9b9448a95ea24fab952bb7"), looks := true }, kinds := [], alts := [], laidByText := true, laidKinds := [.data, .data, .data, .sentinel, .sentinel], laidTests := true, laidLooks := .later }
def SpellingEnharmonicUptoCardSaid : Prop := Claim7.holds Tryz.pinned (.plain (OpenSpec.upto spellingEnharmonicSpec)) spellingEnharmonicUptoCard

/-- THE SECOND FORM's CARD OF 'schismalaw43.SpellingAll'. -/
def spellingAllUptoCard : Claim7 := { stood := { row := spellingAllUptoRow, standIns := [], harness := (true, "1d021e7a72f477fdf99cb6bad2daff1a4ba36e206f9b9448a95ea24fab952bb7"), looks := true }, kinds := [], alts := [], laidByText := true, laidKinds := [.data, .data, .data, .sentinel, .sentinel], laidTests := true, laidLooks := .later }
def SpellingAllUptoCardSaid : Prop := Claim7.holds Tryz.pinned (.plain (OpenSpec.upto spellingAllSpec)) spellingAllUptoCard

/-- THE SECOND FORM's CARD OF 'schismalaw43.SpellingReads'. -/
def spellingReadsUptoCard : Claim7 := { stood := { row := spellingReadsUptoRow, standIns := [], harness := (true, "1d021e7a72f477fdf99cb6bad2daff1a4ba36e206f9b9448a95ea24fab952bb7"), looks := true }, kinds := [], alts := [], laidByText := true, laidKinds := [.data, .data, .data, .sentinel, .sentinel], laidTests := true, laidLooks := .later }
def SpellingReadsUptoCardSaid : Prop := Claim7.holds Tryz.pinned (.plain (OpenSpec.upto spellingReadsSpec)) spellingReadsUptoCard
end Rows
end Go.Proofs.YtphjfalibnnohaaGreatDoor
