/- PROVED: schismalaw42.NotationUnique returns true at every input of its type, and never panics (the tied card NotationUniqueCardSaid). Conditions: none beyond those that the card itself states. -/
import Derived.Test.YtkjemicelmabdaaGreatDoorUUqRow
import Derived.Test.YtkjemicelmabdaaGreatDoorTie
import Derived.Test.YtkjemicelmabdaaGreatDoorCards
import Derived.SevenTiedAt

/- PROVED: schismalaw42.NotationUnique returns true at every input of its type, and never panics (the tied card NotationUniqueCardSaid). Conditions: none beyond those that the card itself states. -/
namespace Go.Proofs.YtkjemicelmabdaaGreatDoor
open Go

set_option maxHeartbeats 4000000 in
theorem SD:true=Tryz.prog.looks []:=by kernel_rfl
set_option maxHeartbeats 4000000 in
theorem Ul : Tryz.prog.mainIs = some (true, "25deada8cf020154051ad2ed90a5adcf7b9cbf3ff90399952577ccb6b7fed5fc".toList) := by kernel_rfl
set_option maxHeartbeats 4000000 in
theorem OQ:Rows.notationUniqueRow.wfByText (OpenSpec.ofChange Rows.notationUniqueSpec)=true:=by kernel_rfl
set_option maxHeartbeats 4000000 in
theorem ML:false=Rows.notationUniqueRow.goesBy Tryz.prog:=by kernel_rfl
theorem unique42_card:Rows.NotationUniqueCardSaid :=
 Claim7.holds_tied_plain_at .later [] [.data, .data, .data, .data, .sentinel, .sentinel, .pinned] true (true, "25deada8cf020154051ad2ed90a5adcf7b9cbf3ff90399952577ccb6b7fed5fc") true
  Lh (fun _ h=>by cases h) OQ (fun _ h=>by cases h) notationUnique_row_tie rfl ⟨rfl,rfl⟩ Ul rfl
  (fun f fn hf hfn=>by
   obtain rfl:f=6:=D5 (HH.symm.trans hf) |>.symm
   obtain rfl:fn=Tryz.f6:=(D5 (Tryz.func6.symm.trans hfn)).symm
   exact ⟨SD,fun j t ht=>by
    rw [Tryz.params6] at ht
    have hm:t ∈ [27]:=by simpa using Array.mem_of_getElem? ht
    have hall:([27].all fun u=>!Tryz.prog.wantsStandIn u)=true:=by as_aux_lemma=>kernel_rfl
    exact (show Tryz.prog.wantsStandIn t=false by simpa using Ar.1 hall t hm)⟩)
  ML
#print axioms unique42_card
end Go.Proofs.YtkjemicelmabdaaGreatDoor
