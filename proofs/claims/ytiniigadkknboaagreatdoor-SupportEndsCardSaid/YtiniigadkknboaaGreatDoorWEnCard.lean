/- PROVED: schismalaw22.SupportEnds returns true at every input of its type, and never panics (the tied card SupportEndsCardSaid). Conditions: none beyond those that the card itself states. -/
import Derived.Test.YtiniigadkknboaaGreatDoorWEnRow
import Derived.Test.YtiniigadkknboaaGreatDoorTie
import Derived.Test.YtiniigadkknboaaGreatDoorCards
import Derived.SevenTiedAt

/- PROVED: schismalaw22.SupportEnds returns true at every input of its type, and never panics (the tied card SupportEndsCardSaid). Conditions: none beyond those that the card itself states. -/
namespace Go.Proofs.YtiniigadkknboaaGreatDoor
open Go

set_option maxHeartbeats 4000000 in
theorem seatLooks:true=Tryz.prog.looks []:=by kernel_rfl
set_option maxHeartbeats 4000000 in
theorem seatMain : Tryz.prog.mainIs = some (true, "896977013ded211cc752ca214bf88906ed340d315e4b7266144fa95720a459ad".toList) := by kernel_rfl
set_option maxHeartbeats 4000000 in
theorem ends22_wf:Rows.supportEndsRow.wfByText (OpenSpec.ofChange Rows.supportEndsSpec)=true:=by kernel_rfl
set_option maxHeartbeats 4000000 in
theorem ends22_goes:false=Rows.supportEndsRow.goesBy Tryz.prog:=by kernel_rfl
theorem ends22_card:Rows.SupportEndsCardSaid :=
 Claim7.holds_tied_plain_at .later [] [.data, .data, .data, .sentinel, .sentinel] true (true, "896977013ded211cc752ca214bf88906ed340d315e4b7266144fa95720a459ad") true
  ends22_holds (fun _ h=>by cases h) ends22_wf (fun _ h=>by cases h) supportEnds_row_tie rfl ⟨rfl,rfl⟩ seatMain rfl
  (fun f fn hf hfn=>by
   obtain rfl:f=7:=Option.some.inj (ends22_named.symm.trans hf) |>.symm
   obtain rfl:fn=Tryz.f7:=(Option.some.inj (Tryz.func7.symm.trans hfn)).symm
   exact ⟨seatLooks,fun j t ht=>by
    rw [Tryz.params7] at ht
    have hm:t ∈ [5,71]:=by simpa using Array.mem_of_getElem? ht
    have hall:([5,71].all fun u=>!Tryz.prog.wantsStandIn u)=true:=by as_aux_lemma=>kernel_rfl
    exact (show Tryz.prog.wantsStandIn t=false by simpa using List.all_eq_true.1 hall t hm)⟩)
  ends22_goes
#print axioms ends22_card
end Go.Proofs.YtiniigadkknboaaGreatDoor
