/- PROVED: schismalaw22.SupportSums returns true at every input of its type, and never panics (the tied card SupportSumsCardSaid). Conditions: none beyond those that the card itself states. -/
import Derived.Test.YtiniigadkknboaaGreatDoorFSmRow
import Derived.Test.YtiniigadkknboaaGreatDoorTie
import Derived.Test.YtiniigadkknboaaGreatDoorCards
import Derived.SevenTiedAt

/- PROVED: schismalaw22.SupportSums returns true at every input of its type, and never panics (the tied card SupportSumsCardSaid). Conditions: none beyond those that the card itself states. -/
namespace Go.Proofs.YtiniigadkknboaaGreatDoor
open Go

set_option maxHeartbeats 4000000 in
theorem GT:true=Tryz.prog.looks []:=by kernel_rfl
set_option maxHeartbeats 4000000 in
theorem H5 : Tryz.prog.mainIs = some (true, "896977013ded211cc752ca214bf88906ed340d315e4b7266144fa95720a459ad".toList) := by kernel_rfl
set_option maxHeartbeats 4000000 in
theorem TB:Rows.supportSumsRow.wfByText (OpenSpec.ofChange Rows.supportSumsSpec)=true:=by kernel_rfl
set_option maxHeartbeats 4000000 in
theorem Pv:false=Rows.supportSumsRow.goesBy Tryz.prog:=by kernel_rfl
theorem sums22_card:Rows.SupportSumsCardSaid :=
 Claim7.holds_tied_plain_at .later [] [.data, .data, .data, .sentinel, .sentinel] true (true, "896977013ded211cc752ca214bf88906ed340d315e4b7266144fa95720a459ad") true
  Oe (fun _ h=>by cases h) TB (fun _ h=>by cases h) supportSums_row_tie rfl ⟨rfl,rfl⟩ H5 rfl
  (fun f fn hf hfn=>by
   obtain rfl:f=9:=Cm (Jt.symm.trans hf) |>.symm
   obtain rfl:fn=Tryz.f9:=(Cm (Tryz.func9.symm.trans hfn)).symm
   exact ⟨GT,fun j t ht=>by
    rw [Tryz.params9] at ht
    have hm:t ∈ [42,78,44]:=by simpa using Hl ht
    have hall:([42,78,44].all fun u=>!Tryz.prog.wantsStandIn u)=true:=by as_aux_lemma=>kernel_rfl
    exact (show Tryz.prog.wantsStandIn t=false by simpa using AF.1 hall t hm)⟩)
  Pv
#print axioms sums22_card
end Go.Proofs.YtiniigadkknboaaGreatDoor
