/- PROVED: schismalaw43.SpellingRelates returns true at every input of its type, and never panics (the tied card SpellingRelatesCardSaid). Conditions: none beyond those that the card itself states. -/
import Derived.Test.YtcglmebcfeoedaaGreatDoorRRlRow
import Derived.Test.YtcglmebcfeoedaaGreatDoorTie
import Derived.Test.YtcglmebcfeoedaaGreatDoorCards
import Derived.SevenTiedAt

/- PROVED: schismalaw43.SpellingRelates returns true at every input of its type, and never panics (the tied card SpellingRelatesCardSaid). Conditions: none beyond those that the card itself states. -/
namespace Go.Proofs.YtcglmebcfeoedaaGreatDoor
open Go

set_option maxHeartbeats 4000000 in
theorem seatLooks:true=Tryz.prog.looks []:=by kernel_rfl
set_option maxHeartbeats 4000000 in
theorem seatMain : Tryz.prog.mainIs = some (true, "06806346d8b62737d6ac2cde3f4a0b4d124622ca9360d45fe7470ea939bebb09".toList) := by kernel_rfl
set_option maxHeartbeats 4000000 in
theorem relates43_wf:Rows.spellingRelatesRow.wfByText (OpenSpec.ofChange Rows.spellingRelatesSpec)=true:=by kernel_rfl
set_option maxHeartbeats 4000000 in
theorem relates43_goes:false=Rows.spellingRelatesRow.goesBy Tryz.prog:=by kernel_rfl
theorem relates43_card:Rows.SpellingRelatesCardSaid :=
 Claim7.holds_tied_plain_at .later [] [.data, .data, .data, .sentinel, .sentinel] true (true, "06806346d8b62737d6ac2cde3f4a0b4d124622ca9360d45fe7470ea939bebb09") true
  relates43_holds (fun _ h=>by cases h) relates43_wf (fun _ h=>by cases h) spellingRelates_row_tie rfl ⟨rfl,rfl⟩ seatMain rfl
  (fun f fn hf hfn=>by
   obtain rfl:f=3:=Option.some.inj (relates43_named.symm.trans hf) |>.symm
   obtain rfl:fn=Tryz.f3:=(Option.some.inj (Tryz.func3.symm.trans hfn)).symm
   exact ⟨seatLooks,fun j t ht=>by
    rw [Tryz.params3] at ht
    have hm:t ∈ [26,27]:=by simpa using Array.mem_of_getElem? ht
    have hall:([26,27].all fun u=>!Tryz.prog.wantsStandIn u)=true:=by as_aux_lemma=>kernel_rfl
    exact (show Tryz.prog.wantsStandIn t=false by simpa using List.all_eq_true.1 hall t hm)⟩)
  relates43_goes
#print axioms relates43_card
end Go.Proofs.YtcglmebcfeoedaaGreatDoor
