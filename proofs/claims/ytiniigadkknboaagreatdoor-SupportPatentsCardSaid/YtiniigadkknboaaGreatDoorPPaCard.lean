/- PROVED: schismalaw22.SupportPatents returns true at every input of its type, and never panics (the tied card SupportPatentsCardSaid). Conditions: none beyond those that the card itself states. -/
import Derived.Test.YtiniigadkknboaaGreatDoorPPaRow
import Derived.Test.YtiniigadkknboaaGreatDoorTie
import Derived.Test.YtiniigadkknboaaGreatDoorCards
import Derived.SevenTiedAt

/- PROVED: schismalaw22.SupportPatents returns true at every input of its type, and never panics (the tied card SupportPatentsCardSaid). Conditions: none beyond those that the card itself states. -/
namespace Go.Proofs.YtiniigadkknboaaGreatDoor
open Go

set_option maxHeartbeats 4000000 in
theorem seatLooks:true=Tryz.prog.looks []:=by kernel_rfl
set_option maxHeartbeats 4000000 in
theorem seatMain : Tryz.prog.mainIs = some (true, "896977013ded211cc752ca214bf88906ed340d315e4b7266144fa95720a459ad".toList) := by kernel_rfl
set_option maxHeartbeats 4000000 in
theorem pats22_wf:Rows.supportPatentsRow.wfByText (OpenSpec.ofChange Rows.supportPatentsSpec)=true:=by kernel_rfl
set_option maxHeartbeats 4000000 in
theorem pats22_goes:false=Rows.supportPatentsRow.goesBy Tryz.prog:=by kernel_rfl
theorem pats22_card:Rows.SupportPatentsCardSaid :=
 Claim7.holds_tied_plain_at .later [] [.data, .data, .data, .sentinel, .sentinel] true (true, "896977013ded211cc752ca214bf88906ed340d315e4b7266144fa95720a459ad") true
  pats22_holds (fun _ h=>by cases h) pats22_wf (fun _ h=>by cases h) supportPatents_row_tie rfl ⟨rfl,rfl⟩ seatMain rfl
  (fun f fn hf hfn=>by
   obtain rfl:f=5:=Option.some.inj (pats22_named.symm.trans hf) |>.symm
   obtain rfl:fn=Tryz.f5:=(Option.some.inj (Tryz.func5.symm.trans hfn)).symm
   exact ⟨seatLooks,fun j t ht=>by
    rw [Tryz.params5] at ht
    have hm:t ∈ [42,5]:=by simpa using Array.mem_of_getElem? ht
    have hall:([42,5].all fun u=>!Tryz.prog.wantsStandIn u)=true:=by as_aux_lemma=>kernel_rfl
    exact (show Tryz.prog.wantsStandIn t=false by simpa using List.all_eq_true.1 hall t hm)⟩)
  pats22_goes
#print axioms pats22_card
end Go.Proofs.YtiniigadkknboaaGreatDoor
