/- PROVED: schismalaw22.SupportVals returns true at every input of its type, and never panics (the tied card SupportValsCardSaid). Conditions: none beyond those that the card itself states. -/
import Derived.Test.YtiniigadkknboaaGreatDoorFVaRow
import Derived.Test.YtiniigadkknboaaGreatDoorTie
import Derived.Test.YtiniigadkknboaaGreatDoorCards
import Derived.SevenTiedAt

/- PROVED: schismalaw22.SupportVals returns true at every input of its type, and never panics (the tied card SupportValsCardSaid). Conditions: none beyond those that the card itself states. -/
namespace Go.Proofs.YtiniigadkknboaaGreatDoor
open Go

set_option maxHeartbeats 4000000 in
theorem GT:true=Tryz.prog.looks []:=by kernel_rfl
set_option maxHeartbeats 4000000 in
theorem H5 : Tryz.prog.mainIs = some (true, "896977013ded211cc752ca214bf88906ed340d315e4b7266144fa95720a459ad".toList) := by kernel_rfl
set_option maxHeartbeats 4000000 in
theorem Tt:Rows.supportValsRow.wfByText (OpenSpec.ofChange Rows.supportValsSpec)=true:=by kernel_rfl
set_option maxHeartbeats 4000000 in
theorem Ph:false=Rows.supportValsRow.goesBy Tryz.prog:=by kernel_rfl
theorem vals22_card:Rows.SupportValsCardSaid :=
 Claim7.holds_tied_plain_at .later [] [.data, .data, .data, .sentinel, .sentinel] true (true, "896977013ded211cc752ca214bf88906ed340d315e4b7266144fa95720a459ad") true
  N6 (fun _ h=>by cases h) Tt (fun _ h=>by cases h) supportVals_row_tie rfl ⟨rfl,rfl⟩ H5 rfl
  (fun f fn hf hfn=>by
   obtain rfl:f=8:=Cm (Jm.symm.trans hf) |>.symm
   obtain rfl:fn=Tryz.f8:=(Cm (Tryz.func8.symm.trans hfn)).symm
   exact ⟨GT,fun j t ht=>by
    rw [Tryz.params8] at ht
    have hm:t ∈ [42,33]:=by simpa using Hl ht
    have hall:([42,33].all fun u=>!Tryz.prog.wantsStandIn u)=true:=by as_aux_lemma=>kernel_rfl
    exact (show Tryz.prog.wantsStandIn t=false by simpa using AF.1 hall t hm)⟩)
  Ph
#print axioms vals22_card
end Go.Proofs.YtiniigadkknboaaGreatDoor
