/- PROVED: schismalaw22.SupportChains returns true at every input of its type, and never panics (the tied card SupportChainsCardSaid). Conditions: none beyond those that the card itself states. -/
import Derived.Test.YtiniigadkknboaaGreatDoorCCnRow
import Derived.Test.YtiniigadkknboaaGreatDoorTie
import Derived.Test.YtiniigadkknboaaGreatDoorCards
import Derived.SevenTiedAt

/- PROVED: schismalaw22.SupportChains returns true at every input of its type, and never panics (the tied card SupportChainsCardSaid). Conditions: none beyond those that the card itself states. -/
namespace Go.Proofs.YtiniigadkknboaaGreatDoor
open Go

set_option maxHeartbeats 4000000 in
theorem seatLooks:true=Tryz.prog.looks []:=by kernel_rfl
set_option maxHeartbeats 4000000 in
theorem seatMain : Tryz.prog.mainIs = some (true, "896977013ded211cc752ca214bf88906ed340d315e4b7266144fa95720a459ad".toList) := by kernel_rfl
set_option maxHeartbeats 4000000 in
theorem chains22_wf:Rows.supportChainsRow.wfByText (OpenSpec.ofChange Rows.supportChainsSpec)=true:=by kernel_rfl
set_option maxHeartbeats 4000000 in
theorem chains22_goes:false=Rows.supportChainsRow.goesBy Tryz.prog:=by kernel_rfl
theorem chains22_card:Rows.SupportChainsCardSaid :=
 Claim7.holds_tied_plain_at .later [] [.data, .data, .data, .sentinel, .sentinel] true (true, "896977013ded211cc752ca214bf88906ed340d315e4b7266144fa95720a459ad") true
  chains22_holds (fun _ h=>by cases h) chains22_wf (fun _ h=>by cases h) supportChains_row_tie rfl ⟨rfl,rfl⟩ seatMain rfl
  (fun f fn hf hfn=>by
   obtain rfl:f=4:=Option.some.inj (chains22_named.symm.trans hf) |>.symm
   obtain rfl:fn=Tryz.f4:=(Option.some.inj (Tryz.func4.symm.trans hfn)).symm
   exact ⟨seatLooks,fun j t ht=>by
    rw [Tryz.params4] at ht
    have hm:t ∈ [42,46,33]:=by simpa using Array.mem_of_getElem? ht
    have hall:([42,46,33].all fun u=>!Tryz.prog.wantsStandIn u)=true:=by as_aux_lemma=>kernel_rfl
    exact (show Tryz.prog.wantsStandIn t=false by simpa using List.all_eq_true.1 hall t hm)⟩)
  chains22_goes
#print axioms chains22_card
end Go.Proofs.YtiniigadkknboaaGreatDoor
