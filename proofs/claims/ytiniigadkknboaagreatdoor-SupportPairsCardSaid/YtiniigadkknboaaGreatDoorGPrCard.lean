/- PROVED: schismalaw22.SupportPairs returns true at every input of its type, and never panics (the tied card SupportPairsCardSaid). Conditions: none beyond those that the card itself states. -/
import Derived.Test.YtiniigadkknboaaGreatDoorGPrRow
import Derived.Test.YtiniigadkknboaaGreatDoorTie
import Derived.Test.YtiniigadkknboaaGreatDoorCards
import Derived.SevenTiedAt

/- PROVED: schismalaw22.SupportPairs returns true at every input of its type, and never panics (the tied card SupportPairsCardSaid). Conditions: none beyond those that the card itself states. -/
namespace Go.Proofs.YtiniigadkknboaaGreatDoor
open Go

set_option maxHeartbeats 4000000 in
theorem Sj:true=Tryz.prog.looks []:=by kernel_rfl
set_option maxHeartbeats 4000000 in
theorem TN : Tryz.prog.mainIs = some (true, "896977013ded211cc752ca214bf88906ed340d315e4b7266144fa95720a459ad".toList) := by kernel_rfl
set_option maxHeartbeats 4000000 in
theorem TY:Rows.supportPairsRow.wfByText (OpenSpec.ofChange Rows.supportPairsSpec)=true:=by kernel_rfl
set_option maxHeartbeats 4000000 in
theorem Qh:false=Rows.supportPairsRow.goesBy Tryz.prog:=by kernel_rfl
theorem prs22_card:Rows.SupportPairsCardSaid :=
 Claim7.holds_tied_plain_at .later [] [.data, .data, .data, .sentinel, .sentinel] true (true, "896977013ded211cc752ca214bf88906ed340d315e4b7266144fa95720a459ad") true
  Ow (fun _ h=>by cases h) TY (fun _ h=>by cases h) supportPairs_row_tie rfl ⟨rfl,rfl⟩ TN rfl
  (fun f fn hf hfn=>by
   obtain rfl:f=10:=Da (Ka.symm.trans hf) |>.symm
   obtain rfl:fn=Tryz.f10:=(Da (Tryz.func10.symm.trans hfn)).symm
   exact ⟨Sj,fun j t ht=>by
    rw [Tryz.params10] at ht
    have hm:t ∈ [5,5]:=by simpa using ZD ht
    have hall:([5,5].all fun u=>!Tryz.prog.wantsStandIn u)=true:=by as_aux_lemma=>kernel_rfl
    exact (show Tryz.prog.wantsStandIn t=false by simpa using AE.1 hall t hm)⟩)
  Qh
#print axioms prs22_card
end Go.Proofs.YtiniigadkknboaaGreatDoor
