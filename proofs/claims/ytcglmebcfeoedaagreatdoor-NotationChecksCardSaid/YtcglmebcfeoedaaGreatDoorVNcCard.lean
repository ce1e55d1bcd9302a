/- PROVED: schismalaw42.NotationChecks returns true at every input of its type, and never panics (the tied card NotationChecksCardSaid). Conditions: none beyond those that the card itself states. -/
import Derived.Test.YtcglmebcfeoedaaGreatDoorVNcRow
import Derived.Test.YtcglmebcfeoedaaGreatDoorTie
import Derived.Test.YtcglmebcfeoedaaGreatDoorCards
import Derived.SevenTiedAt

/- PROVED: schismalaw42.NotationChecks returns true at every input of its type, and never panics (the tied card NotationChecksCardSaid). Conditions: none beyond those that the card itself states. -/
namespace Go.Proofs.YtcglmebcfeoedaaGreatDoor
open Go

set_option maxHeartbeats 4000000 in
theorem Rc:true=Tryz.prog.looks []:=by kernel_rfl
set_option maxHeartbeats 4000000 in
theorem SD : Tryz.prog.mainIs = some (true, "06806346d8b62737d6ac2cde3f4a0b4d124622ca9360d45fe7470ea939bebb09".toList) := by kernel_rfl
set_option maxHeartbeats 4000000 in
theorem Oz:Rows.notationChecksRow.wfByText (OpenSpec.ofChange Rows.notationChecksSpec)=true:=by kernel_rfl
set_option maxHeartbeats 4000000 in
theorem LX:false=Rows.notationChecksRow.goesBy Tryz.prog:=by kernel_rfl
theorem checks42_card:Rows.NotationChecksCardSaid :=
 Claim7.holds_tied_plain_at .later [] [.data, .data, .data, .data, .sentinel, .sentinel, .pinned] true (true, "06806346d8b62737d6ac2cde3f4a0b4d124622ca9360d45fe7470ea939bebb09") true
  Ls (fun _ h=>by cases h) Oz (fun _ h=>by cases h) notationChecks_row_tie rfl ⟨rfl,rfl⟩ SD rfl
  (fun f fn hf hfn=>by
   obtain rfl:f=5:=DC (HH.symm.trans hf) |>.symm
   obtain rfl:fn=Tryz.f5:=(DC (Tryz.func5.symm.trans hfn)).symm
   exact ⟨Rc,fun j t ht=>by
    rw [Tryz.params5] at ht
    have hm:t ∈ [31]:=by simpa using Array.mem_of_getElem? ht
    have hall:([31].all fun u=>!Tryz.prog.wantsStandIn u)=true:=by as_aux_lemma=>kernel_rfl
    exact (show Tryz.prog.wantsStandIn t=false by simpa using Aw.1 hall t hm)⟩)
  LX
#print axioms checks42_card
end Go.Proofs.YtcglmebcfeoedaaGreatDoor
