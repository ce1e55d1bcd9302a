/-
  DERIVED. GIVEN WITH THE SEED: THE CARDS: each row of YtmalpgbbddkdcaaGreatDoorRows.lean that lists a variable, with what it lists TIED to the program's text (the seventh form; the later family's looks); each row that meets fmt, with fmt's text TOLD by the authors' own Lean function (tested against real Go, not proved from fmt's source: count such statements apart). THE CARD IS WHAT COUNTS. Prove the row's statement (the work); the ties are given (YtmalpgbbddkdcaaGreatDoorTie.lean); close each card by the builder's one call (the guide's Derived/Test/ToyasCard.lean, 'card_holds'). Laid BY PROGRAM, IN A SANDBOX (cutbox-door.mjs). By AI agents, Wed Nov 11 2026. No macro, syntax, notation, axiom, sorry.
-/
import Derived.Test.YtmalpgbbddkdcaaGreatDoorRows
import GoSem.ClaimSeven
namespace Go.Proofs.YtmalpgbbddkdcaaGreatDoor
namespace Rows

/-- THE TIED CARD OF 'schismalaw22.SupportErrors'. -/
def supportErrorsCard : Claim7 := { stood := { row := supportErrorsRow, standIns := [], harness := (true, "fb26a82120b60fbd21e03c1fe46f045533eaef38ed5b482ac2bd7ee24c365ce8"), looks := true }, kinds := [], alts := [], laidByText := true, laidKinds := [.data, .data, .data, .sentinel, .sentinel], laidTests := true, laidLooks := .later }
def SupportErrorsCardSaid : Prop := Claim7.holds Tryz.pinned (.plain (OpenSpec.ofChange supportErrorsSpec)) supportErrorsCard

/-- THE TIED CARD OF 'schismalaw22.SupportEnds'. -/
def supportEndsCard : Claim7 := { stood := { row := supportEndsRow, standIns := [], harness := (true, "fb26a82120b60fbd21e03c1fe46f045533eaef38ed5b482ac2bd7ee24c365ce8"), looks := true }, kinds := [], alts := [], laidByText := true, laidKinds := [.data, .data, .data, .sentinel, .sentinel], laidTests := true, laidLooks := .later }
def SupportEndsCardSaid : Prop := Claim7.holds Tryz.pinned (.plain (OpenSpec.ofChange supportEndsSpec)) supportEndsCard

/-- THE TIED CARD OF 'schismalaw22.SupportVals'. -/
def supportValsCard : Claim7 := { stood := { row := supportValsRow, standIns := [], harness := (true, "fb26a82120b60fbd21e03c1fe46f045533eaef38ed5b482ac2bd7ee24c365ce8"), looks := true }, kinds := [], alts := [], laidByText := true, laidKinds := [.data, .data, .data, .sentinel, .sentinel], laidTests := true, laidLooks := .later }
def SupportValsCardSaid : Prop := Claim7.holds Tryz.pinned (.plain (OpenSpec.ofChange supportValsSpec)) supportValsCard

/-- THE TIED CARD OF 'schismalaw43.SpellingIntervals'. -/
def spellingIntervalsCard : Claim7 := { stood := { row := spellingIntervalsRow, standIns := [], harness := (true, "fb26a82120b60fbd21e03c1fe46f045533eaef38ed5b482ac2bd7ee24c365ce8"), looks := true }, kinds := [], alts := [], laidByText := true, laidKinds := [.data, .data, .data, .sentinel, .sentinel], laidTests := true, laidLooks := .later }
def SpellingIntervalsCardSaid : Prop := Claim7.holds Tryz.pinned (.plain (OpenSpec.ofChange spellingIntervalsSpec)) spellingIntervalsCard

/-- THE SECOND FORM's CARD OF 'schismalaw22.SupportErrors'. -/
def supportErrorsUptoCard : Claim7 := { stood := { row := supportErrorsUptoRow, standIns := [], harness := (true, "fb26a82120b60fbd21e03c1fe46f045533eaef38ed5b482ac2bd7ee24c365ce8"), looks := true }, kinds := [], alts := [], laidByText := true, laidKinds := [.data, .data, .data, .sentinel, .sentinel], laidTests := true, laidLooks := .later }
def SupportErrorsUptoCardSaid : Prop := Claim7.holds Tryz.pinned (.plain (OpenSpec.upto supportErrorsSpec)) supportErrorsUptoCard

/-- THE SECOND FORM's CARD OF 'schismalaw22.SupportEnds'. -/
def supportEndsUptoCard : Claim7 := { stood := { row := supportEndsUptoRow, standIns := [], harness := (true, "fb26a82120b60fbd21e03c1fe46f045533eaef38ed5b482ac2bd7ee24c365ce8"), looks := true }, kinds := [], alts := [], laidByText := true, laidKinds := [.data, .data, .data, .sentinel, .sentinel], laidTests := true, laidLooks := .later }
def SupportEndsUptoCardSaid : Prop := Claim7.holds Tryz.pinned (.plain (OpenSpec.upto supportEndsSpec)) supportEndsUptoCard

/-- THE SECOND FORM's CARD OF 'schismalaw22.SupportVals'. -/
def supportValsUptoCard : Claim7 := { stood := { row := supportValsUptoRow, standIns := [], harness := (true, "fb26a82120b60fbd21e03c1fe46f045533eaef38ed5b482ac2bd7ee24c365ce8"), looks := true }, kinds := [], alts := [], laidByText := true, laidKinds := [.data, .data, .data, .sentinel, .sentinel], laidTests := true, laidLooks := .later }
def SupportValsUptoCardSaid : Prop := Claim7.holds Tryz.pinned (.plain (OpenSpec.upto supportValsSpec)) supportValsUptoCard

/-- THE SECOND FORM's CARD OF 'schismalaw43.SpellingIntervals'. -/
def spellingIntervalsUptoCard : Claim7 := { stood := { row := spellingIntervalsUptoRow, standIns := [], harness := (true, "fb26a82120b60fbd21e03c1fe46f045533eaef38ed5b482ac2bd7ee24c365ce8"), looks := true }, kinds := [], alts := [], laidByText := true, laidKinds := [.data, .data, .data, .sentinel, .sentinel], laidTests := true, laidLooks := .later }
def SpellingIntervalsUptoCardSaid : Prop := Claim7.holds Tryz.pinned (.plain (OpenSpec.upto spellingIntervalsSpec)) spellingIntervalsUptoCard
end Rows
end Go.Proofs.YtmalpgbbddkdcaaGreatDoor
