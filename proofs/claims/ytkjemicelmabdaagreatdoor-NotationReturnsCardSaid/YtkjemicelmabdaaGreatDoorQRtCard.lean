/- PROVED: schismalaw42.NotationReturns returns true at every input of its type, and never panics (the tied card NotationReturnsCardSaid). Conditions: none beyond those that the card itself states. -/
import Derived.Test.YtkjemicelmabdaaGreatDoorQRtRow
import Derived.Test.YtkjemicelmabdaaGreatDoorTie
import Derived.Test.YtkjemicelmabdaaGreatDoorCards
import Derived.SevenTiedAt

/- PROVED: schismalaw42.NotationReturns returns true at every input of its type, and never panics (the tied card NotationReturnsCardSaid). Conditions: none beyond those that the card itself states. -/
namespace Go.Proofs.YtkjemicelmabdaaGreatDoor
open Go

set_option maxHeartbeats 4000000 in
theorem seatLooks:true=Tryz.prog.looks []:=by kernel_rfl
set_option maxHeartbeats 4000000 in
theorem seatMain : Tryz.prog.mainIs = some (true, "25deada8cf020154051ad2ed90a5adcf7b9cbf3ff90399952577ccb6b7fed5fc".toList) := by kernel_rfl
set_option maxHeartbeats 4000000 in
theorem returns42_wf:Rows.notationReturnsRow.wfByText (OpenSpec.ofChange Rows.notationReturnsSpec)=true:=by kernel_rfl
set_option maxHeartbeats 4000000 in
theorem returns42_goes:false=Rows.notationReturnsRow.goesBy Tryz.prog:=by kernel_rfl
theorem returns42_card:Rows.NotationReturnsCardSaid :=
 Claim7.holds_tied_plain_at .later [] [.data, .data, .data, .data, .sentinel, .sentinel, .pinned] true (true, "25deada8cf020154051ad2ed90a5adcf7b9cbf3ff90399952577ccb6b7fed5fc") true
  returns42_holds (fun _ h=>by cases h) returns42_wf (fun _ h=>by cases h) notationReturns_row_tie rfl ⟨rfl,rfl⟩ seatMain rfl
  (fun f fn hf hfn=>by
   obtain rfl:f=5:=Option.some.inj (returns42_named.symm.trans hf) |>.symm
   obtain rfl:fn=Tryz.f5:=(Option.some.inj (Tryz.func5.symm.trans hfn)).symm
   exact ⟨seatLooks,fun j t ht=>by
    rw [Tryz.params5] at ht
    have hm:t ∈ [27,24,50]:=by simpa using Array.mem_of_getElem? ht
    have hall:([27,24,50].all fun u=>!Tryz.prog.wantsStandIn u)=true:=by as_aux_lemma=>kernel_rfl
    exact (show Tryz.prog.wantsStandIn t=false by simpa using List.all_eq_true.1 hall t hm)⟩)
  returns42_goes
#print axioms returns42_card
end Go.Proofs.YtkjemicelmabdaaGreatDoor
