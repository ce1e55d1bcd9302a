/- PROVED: schismalaw22.SupportErrors returns true at every input of its type, and never panics (the tied card SupportErrorsCardSaid). Conditions: none beyond those that the card itself states. -/
import Derived.Test.YtiniigadkknboaaGreatDoorWErRow
import Derived.Test.YtiniigadkknboaaGreatDoorTie
import Derived.Test.YtiniigadkknboaaGreatDoorCards
import Derived.SevenTiedAt

/- PROVED: schismalaw22.SupportErrors returns true at every input of its type, and never panics (the tied card SupportErrorsCardSaid). Conditions: none beyond those that the card itself states. -/
namespace Go.Proofs.YtiniigadkknboaaGreatDoor
open Go

set_option maxHeartbeats 4000000 in
theorem seatLooks:true=Tryz.prog.looks []:=by kernel_rfl
set_option maxHeartbeats 4000000 in
theorem seatMain : Tryz.prog.mainIs = some (true, "896977013ded211cc752ca214bf88906ed340d315e4b7266144fa95720a459ad".toList) := by kernel_rfl
set_option maxHeartbeats 4000000 in
theorem errs22_wf:Rows.supportErrorsRow.wfByText (OpenSpec.ofChange Rows.supportErrorsSpec)=true:=by kernel_rfl
set_option maxHeartbeats 4000000 in
theorem errs22_goes:false=Rows.supportErrorsRow.goesBy Tryz.prog:=by kernel_rfl
theorem errs22_card:Rows.SupportErrorsCardSaid :=
 Claim7.holds_tied_plain_at .later [] [.data, .data, .data, .sentinel, .sentinel] true (true, "896977013ded211cc752ca214bf88906ed340d315e4b7266144fa95720a459ad") true
  errs22_holds (fun _ h=>by cases h) errs22_wf (fun _ h=>by cases h) supportErrors_row_tie rfl ⟨rfl,rfl⟩ seatMain rfl
  (fun f fn hf hfn=>by
   obtain rfl:f=6:=Option.some.inj (errs22_named.symm.trans hf) |>.symm
   obtain rfl:fn=Tryz.f6:=(Option.some.inj (Tryz.func6.symm.trans hfn)).symm
   exact ⟨seatLooks,fun j t ht=>by
    rw [Tryz.params6] at ht
    have hm:t ∈ [24,33,3]:=by simpa using Array.mem_of_getElem? ht
    have hall:([24,33,3].all fun u=>!Tryz.prog.wantsStandIn u)=true:=by as_aux_lemma=>kernel_rfl
    exact (show Tryz.prog.wantsStandIn t=false by simpa using List.all_eq_true.1 hall t hm)⟩)
  errs22_goes
#print axioms errs22_card
end Go.Proofs.YtiniigadkknboaaGreatDoor
