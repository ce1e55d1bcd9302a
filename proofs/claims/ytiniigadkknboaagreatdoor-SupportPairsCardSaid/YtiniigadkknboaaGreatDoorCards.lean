/-
  DERIVED. GIVEN WITH THE SEED: THE CARDS: each row of YtiniigadkknboaaGreatDoorRows.lean that lists a variable, with what it lists TIED to the program's text (the seventh form; the later family's looks); each row that meets fmt, with fmt's text TOLD by the authors' own Lean function (tested against real Go, not proved from fmt's source: count such statements apart). THE CARD IS WHAT COUNTS. Prove the row's statement (the work); the ties are given (YtiniigadkknboaaGreatDoorTie.lean); close each card by the builder's one call (the guide's Derived/Test/ToyasCard.lean, 'card_holds'). Laid BY PROGRAM, IN A SANDBOX (cutbox-door.mjs). By AI agents, Wed Nov 11 2026. No macro, syntax, notation, axiom, sorry.
-/
import Derived.Test.YtiniigadkknboaaGreatDoorRows
import GoSem.ClaimSeven
namespace Go.Proofs.YtiniigadkknboaaGreatDoor
namespace Rows

/-- THE TIED CARD OF 'schismalaw22.SupportDivisions'. -/
def supportDivisionsCard : Claim7 := { stood := { row := supportDivisionsRow, standIns := [], harness := (true, "896977013ded211cc752ca214bf88906ed340d315e4b7266144fa95720a459ad"), looks := true }, kinds := [], alts := [], laidByText := true, laidKinds := [.data, .data, .data, .sentinel, .sentinel], laidTests := true, laidLooks := .later }
def SupportDivisionsCardSaid : Prop := Claim7.holds Tryz.pinned (.plain (OpenSpec.ofChange supportDivisionsSpec)) supportDivisionsCard

/-- THE TIED CARD OF 'schismalaw22.SupportChains'. -/
def supportChainsCard : Claim7 := { stood := { row := supportChainsRow, standIns := [], harness := (true, "896977013ded211cc752ca214bf88906ed340d315e4b7266144fa95720a459ad"), looks := true }, kinds := [], alts := [], laidByText := true, laidKinds := [.data, .data, .data, .sentinel, .sentinel], laidTests := true, laidLooks := .later }
def SupportChainsCardSaid : Prop := Claim7.holds Tryz.pinned (.plain (OpenSpec.ofChange supportChainsSpec)) supportChainsCard

/-- THE TIED CARD OF 'schismalaw22.SupportPatents'. -/
def supportPatentsCard : Claim7 := { stood := { row := supportPatentsRow, standIns := [], harness := (true, "896977013ded211cc752ca214bf88906ed340d315e4b7266144fa95720a459ad"), looks := true }, kinds := [], alts := [], laidByText := true, laidKinds := [.data, .data, .data, .sentinel, .sentinel], laidTests := true, laidLooks := .later }
def SupportPatentsCardSaid : Prop := Claim7.holds Tryz.pinned (.plain (OpenSpec.ofChange supportPatentsSpec)) supportPatentsCard

/-- THE TIED CARD OF 'schismalaw22.SupportErrors'. -/
def supportErrorsCard : Claim7 := { stood := { row := supportErrorsRow, standIns := [], harness := (true, "896977013ded211cc752ca214bf88906ed340d315e4b7266144fa95720a459ad"), looks := true }, kinds := [], alts := [], laidByText := true, laidKinds := [.data, .data, .data, .sentinel, .sentinel], laidTests := true, laidLooks := .later }
def SupportErrorsCardSaid : Prop := Claim7.holds Tryz.pinned (.plain (OpenSpec.ofChange supportErrorsSpec)) supportErrorsCard

/-- THE TIED CARD OF 'schismalaw22.SupportEnds'. -/
def supportEndsCard : Claim7 := { stood := { row := supportEndsRow, standIns := [], harness := (true, "896977013ded211cc752ca214bf88906ed340d315e4b7266144fa95720a459ad"), looks := true }, kinds := [], alts := [], laidByText := true, laidKinds := [.data, .data, .data, .sentinel, .sentinel], laidTests := true, laidLooks := .later }
def SupportEndsCardSaid : Prop := Claim7.holds Tryz.pinned (.plain (OpenSpec.ofChange supportEndsSpec)) supportEndsCard

/-- THE TIED CARD OF 'schismalaw22.SupportVals'. -/
def supportValsCard : Claim7 := { stood := { row := supportValsRow, standIns := [], harness := (true, "896977013ded211cc752ca214bf88906ed340d315e4b7266144fa95720a459ad"), looks := true }, kinds := [], alts := [], laidByText := true, laidKinds := [.data, .data, .data, .sentinel, .sentinel], laidTests := true, laidLooks := .later }
def SupportValsCardSaid : Prop := Claim7.holds Tryz.pinned (.plain (OpenSpec.ofChange supportValsSpec)) supportValsCard

/-- THE TIED CARD OF 'schismalaw22.SupportSums'. -/
def supportSumsCard : Claim7 := { stood := { row := supportSumsRow, standIns := [], harness := (true, "896977013ded211cc752ca214bf88906ed340d315e4b7266144fa95720a459ad"), looks := true }, kinds := [], alts := [], laidByText := true, laidKinds := [.data, .data, .data, .sentinel, .sentinel], laidTests := true, laidLooks := .later }
def SupportSumsCardSaid : Prop := Claim7.holds Tryz.pinned (.plain (OpenSpec.ofChange supportSumsSpec)) supportSumsCard

/-- THE TIED CARD OF 'schismalaw22.SupportPairs'. -/
def supportPairsCard : Claim7 := { stood := { row := supportPairsRow, standIns := [], harness := (true, "896977013ded211cc752ca214bf88906ed340d315e4b7266144fa95720a459ad"), looks := true }, kinds := [], alts := [], laidByText := true, laidKinds := [.data, .data, .data, .sentinel, .sentinel], laidTests := true, laidLooks := .later }
def SupportPairsCardSaid : Prop := Claim7.holds Tryz.pinned (.plain (OpenSpec.ofChange supportPairsSpec)) supportPairsCard

/-- THE SECOND FORM's CARD OF 'schismalaw22.SupportDivisions'. -/
def supportDivisionsUptoCard : Claim7 := { stood := { row := supportDivisionsUptoRow, standIns := [], harness := (true, "896977013ded211cc752ca214bf88906ed340d315e4b7266144fa95720a459ad"), looks := true }, kinds := [], alts := [], laidByText := true, laidKinds := [.data, .data, .data, .sentinel, .sentinel], laidTests := true, laidLooks := .later }
def SupportDivisionsUptoCardSaid : Prop := Claim7.holds Tryz.pinned (.plain (OpenSpec.upto supportDivisionsSpec)) supportDivisionsUptoCard

/-- THE SECOND FORM's CARD OF 'schismalaw22.SupportChains'. -/
def supportChainsUptoCard : Claim7 := { stood := { row := supportChainsUptoRow, standIns := [], harness := (true, "896977013ded211cc752ca214bf88906ed340d315e4b7266144fa95720a459ad"), looks := true }, kinds := [], alts := [], laidByText := true, laidKinds := [.data, .data, .data, .sentinel, .sentinel], laidTests := true, laidLooks := .later }
def SupportChainsUptoCardSaid : Prop := Claim7.holds Tryz.pinned (.plain (OpenSpec.upto supportChainsSpec)) supportChainsUptoCard

/-- THE SECOND FORM's CARD OF 'schismalaw22.SupportPatents'. -/
def supportPatentsUptoCard : Claim7 := { stood := { row := supportPatentsUptoRow, standIns := [], harness := (true, "896977013ded211cc752ca214bf88906ed340d315e4b7266144fa95720a459ad"), looks := true }, kinds := [], alts := [], laidByText := true, laidKinds := [.data, .data, .data, .sentinel, .sentinel], laidTests := true, laidLooks := .later }
def SupportPatentsUptoCardSaid : Prop := Claim7.holds Tryz.pinned (.plain (OpenSpec.upto supportPatentsSpec)) supportPatentsUptoCard

/-- THE SECOND FORM's CARD OF 'schismalaw22.SupportErrors'. -/
def supportErrorsUptoCard : Claim7 := { stood := { row := supportErrorsUptoRow, standIns := [], harness := (true, "896977013ded211cc752ca214bf88906ed340d315e4b7266144fa95720a459ad"), looks := true }, kinds := [], alts := [], laidByText := true, laidKinds := [.data, .data, .data, .sentinel, .sentinel], laidTests := true, laidLooks := .later }
def SupportErrorsUptoCardSaid : Prop := Claim7.holds Tryz.pinned (.plain (OpenSpec.upto supportErrorsSpec)) supportErrorsUptoCard

/-- THE SECOND FORM's CARD OF 'schismalaw22.SupportEnds'. -/
def supportEndsUptoCard : Claim7 := { stood := { row := supportEndsUptoRow, standIns := [], harness := (true, "896977013ded211cc752ca214bf88906ed340d315e4b7266144fa95720a459ad"), looks := true }, kinds := [], alts := [], laidByText := true, laidKinds := [.data, .data, .data, .sentinel, .sentinel], laidTests := true, laidLooks := .later }
def SupportEndsUptoCardSaid : Prop := Claim7.holds Tryz.pinned (.plain (OpenSpec.upto supportEndsSpec)) supportEndsUptoCard

/-- THE SECOND FORM's CARD OF 'schismalaw22.SupportVals'. -/
def supportValsUptoCard : Claim7 := { stood := { row := supportValsUptoRow, standIns := [], harness := (true, "896977013ded211cc752ca214bf88906ed340d315e4b7266144fa95720a459ad"), looks := true }, kinds := [], alts := [], laidByText := true, laidKinds := [.data, .data, .data, .sentinel, .sentinel], laidTests := true, laidLooks := .later }
def SupportValsUptoCardSaid : Prop := Claim7.holds Tryz.pinned (.plain (OpenSpec.upto supportValsSpec)) supportValsUptoCard

/-- THE SECOND FORM's CARD OF 'schismalaw22.SupportSums'. -/
def supportSumsUptoCard : Claim7 := { stood := { row := supportSumsUptoRow, standIns := [], harness := (true, "896977013ded211cc752ca214bf88906ed340d315e4b7266144fa95720a459ad"), looks := true }, kinds := [], alts := [], laidByText := true, laidKinds := [.data, .data, .data, .sentinel, .sentinel], laidTests := true, laidLooks := .later }
def SupportSumsUptoCardSaid : Prop := Claim7.holds Tryz.pinned (.plain (OpenSpec.upto supportSumsSpec)) supportSumsUptoCard

/-- THE SECOND FORM's CARD OF 'schismalaw22.SupportPairs'. -/
def supportPairsUptoCard : Claim7 := { stood := { row := supportPairsUptoRow, standIns := [], harness := (true, "896977013ded211cc752ca214bf88906ed340d315e4b7266144fa95720a459ad"), looks := true }, kinds := [], alts := [], laidByText := true, laidKinds := [.data, .data, .data, .sentinel, .sentinel], laidTests := true, laidLooks := .later }
def SupportPairsUptoCardSaid : Prop := Claim7.holds Tryz.pinned (.plain (OpenSpec.upto supportPairsSpec)) supportPairsUptoCard
end Rows
end Go.Proofs.YtiniigadkknboaaGreatDoor
