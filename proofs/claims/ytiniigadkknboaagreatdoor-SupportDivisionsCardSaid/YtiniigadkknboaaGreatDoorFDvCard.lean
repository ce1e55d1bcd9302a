/- PROVED: schismalaw22.SupportDivisions returns true at every input of its type, and never panics (the tied card SupportDivisionsCardSaid). Conditions: none beyond those that the card itself states. -/
import Derived.Test.YtiniigadkknboaaGreatDoorFDvRow
import Derived.Test.YtiniigadkknboaaGreatDoorTie
import Derived.Test.YtiniigadkknboaaGreatDoorCards
import Derived.SevenTiedAt

/- PROVED: schismalaw22.SupportDivisions returns true at every input of its type, and never panics (the tied card SupportDivisionsCardSaid). Conditions: none beyond those that the card itself states. -/
namespace Go.Proofs.YtiniigadkknboaaGreatDoor
open Go

set_option maxHeartbeats 4000000 in
theorem GT:true=Tryz.prog.looks []:=by kernel_rfl
set_option maxHeartbeats 4000000 in
theorem H5 : Tryz.prog.mainIs = some (true, "896977013ded211cc752ca214bf88906ed340d315e4b7266144fa95720a459ad".toList) := by kernel_rfl
set_option maxHeartbeats 4000000 in
theorem Uc:Rows.supportDivisionsRow.wfByText (OpenSpec.ofChange Rows.supportDivisionsSpec)=true:=by kernel_rfl
set_option maxHeartbeats 4000000 in
theorem Qg:false=Rows.supportDivisionsRow.goesBy Tryz.prog:=by kernel_rfl
theorem divs22_card:Rows.SupportDivisionsCardSaid :=
 Claim7.holds_tied_plain_at .later [] [.data, .data, .data, .sentinel, .sentinel] true (true, "896977013ded211cc752ca214bf88906ed340d315e4b7266144fa95720a459ad") true
  OL (fun _ h=>by cases h) Uc (fun _ h=>by cases h) supportDivisions_row_tie rfl ⟨rfl,rfl⟩ H5 rfl
  (fun f fn hf hfn=>by
   obtain rfl:f=3:=Cm (JV.symm.trans hf) |>.symm
   obtain rfl:fn=Tryz.f3:=(Cm (Tryz.func3.symm.trans hfn)).symm
   exact ⟨GT,fun j t ht=>by
    rw [Tryz.params3] at ht
    have hm:t ∈ [5,3,3]:=by simpa using Hl ht
    have hall:([5,3,3].all fun u=>!Tryz.prog.wantsStandIn u)=true:=by as_aux_lemma=>kernel_rfl
    exact (show Tryz.prog.wantsStandIn t=false by simpa using AF.1 hall t hm)⟩)
  Qg
#print axioms divs22_card
end Go.Proofs.YtiniigadkknboaaGreatDoor
