/- PROVED: schismalaw43.SpellingIntervals returns true at every input of its type, and never panics (the tied card SpellingIntervalsCardSaid). Conditions: none beyond those that the card itself states. -/
import Derived.Test.YtmalpgbbddkdcaaGreatDoorVIvRow
import Derived.Test.YtmalpgbbddkdcaaGreatDoorTie
import Derived.Test.YtmalpgbbddkdcaaGreatDoorCards
import Derived.SevenTiedAt

/- PROVED: schismalaw43.SpellingIntervals returns true at every input of its type, and never panics (the tied card SpellingIntervalsCardSaid). Conditions: none beyond those that the card itself states. -/
namespace Go.Proofs.YtmalpgbbddkdcaaGreatDoor
open Go

set_option maxHeartbeats 4000000 in
theorem seatLooks:true=Tryz.prog.looks []:=by kernel_rfl
set_option maxHeartbeats 4000000 in
theorem seatMain : Tryz.prog.mainIs = some (true, "fb26a82120b60fbd21e03c1fe46f045533eaef38ed5b482ac2bd7ee24c365ce8".toList) := by kernel_rfl
set_option maxHeartbeats 4000000 in
theorem intervals43_wf:Rows.spellingIntervalsRow.wfByText (OpenSpec.ofChange Rows.spellingIntervalsSpec)=true:=by kernel_rfl
set_option maxHeartbeats 4000000 in
theorem intervals43_goes:false=Rows.spellingIntervalsRow.goesBy Tryz.prog:=by kernel_rfl
theorem intervals43_card:Rows.SpellingIntervalsCardSaid :=
 Claim7.holds_tied_plain_at .later [] [.data, .data, .data, .sentinel, .sentinel] true (true, "fb26a82120b60fbd21e03c1fe46f045533eaef38ed5b482ac2bd7ee24c365ce8") true
  intervals43_holds (fun _ h=>by cases h) intervals43_wf (fun _ h=>by cases h) spellingIntervals_row_tie rfl ⟨rfl,rfl⟩ seatMain rfl
  (fun f fn hf hfn=>by
   obtain rfl:f=6:=Option.some.inj (intervals43_named.symm.trans hf) |>.symm
   obtain rfl:fn=Tryz.f6:=(Option.some.inj (Tryz.func6.symm.trans hfn)).symm
   exact ⟨seatLooks,fun j t ht=>by
    rw [Tryz.params6] at ht
    have hm:t ∈ [67,55,69]:=by simpa using Array.mem_of_getElem? ht
    have hall:([67,55,69].all fun u=>!Tryz.prog.wantsStandIn u)=true:=by as_aux_lemma=>kernel_rfl
    exact (show Tryz.prog.wantsStandIn t=false by simpa using List.all_eq_true.1 hall t hm)⟩)
  intervals43_goes
#print axioms intervals43_card
end Go.Proofs.YtmalpgbbddkdcaaGreatDoor
