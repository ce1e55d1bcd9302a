/- PROVED: schismalaw42.NotationChains returns true at every input of its type, and never panics (the tied card NotationChainsCardSaid). Conditions: none beyond those that the card itself states. -/
import Derived.Test.YtcglmebcfeoedaaGreatDoorVChRow
import Derived.Test.YtcglmebcfeoedaaGreatDoorTie
import Derived.Test.YtcglmebcfeoedaaGreatDoorCards
import Derived.SevenTiedAt

/- PROVED: schismalaw42.NotationChains returns true at every input of its type, and never panics (the tied card NotationChainsCardSaid). Conditions: none beyond those that the card itself states. -/
namespace Go.Proofs.YtcglmebcfeoedaaGreatDoor
open Go

set_option maxHeartbeats 4000000 in
theorem R8:true=Tryz.prog.looks []:=by kernel_rfl
set_option maxHeartbeats 4000000 in
theorem TM : Tryz.prog.mainIs = some (true, "06806346d8b62737d6ac2cde3f4a0b4d124622ca9360d45fe7470ea939bebb09".toList) := by kernel_rfl
set_option maxHeartbeats 4000000 in
theorem Pl:Rows.notationChainsRow.wfByText (OpenSpec.ofChange Rows.notationChainsSpec)=true:=by kernel_rfl
set_option maxHeartbeats 4000000 in
theorem MK:false=Rows.notationChainsRow.goesBy Tryz.prog:=by kernel_rfl
theorem chains42_card:Rows.NotationChainsCardSaid :=
 Claim7.holds_tied_plain_at .later [] [.data, .data, .data, .data, .sentinel, .sentinel, .pinned] true (true, "06806346d8b62737d6ac2cde3f4a0b4d124622ca9360d45fe7470ea939bebb09") true
  Mc (fun _ h=>by cases h) Pl (fun _ h=>by cases h) notationChains_row_tie rfl ⟨rfl,rfl⟩ TM rfl
  (fun f fn hf hfn=>by
   obtain rfl:f=4:=DU (Ik.symm.trans hf) |>.symm
   obtain rfl:fn=Tryz.f4:=(DU (Tryz.func4.symm.trans hfn)).symm
   exact ⟨R8,fun j t ht=>by
    rw [Tryz.params4] at ht
    have hm:t ∈ [57]:=by simpa using Array.mem_of_getElem? ht
    have hall:([57].all fun u=>!Tryz.prog.wantsStandIn u)=true:=by as_aux_lemma=>kernel_rfl
    exact (show Tryz.prog.wantsStandIn t=false by simpa using As.1 hall t hm)⟩)
  MK
#print axioms chains42_card
end Go.Proofs.YtcglmebcfeoedaaGreatDoor
