/- PROVED: schismalaw42.NotationNames returns true at every input of its type, and never panics (the tied card NotationNamesCardSaid). Conditions: none beyond those that the card itself states. -/
import Derived.Test.YtlfehkcmclppjaaGreatDoorQNmRow
import Derived.Test.YtlfehkcmclppjaaGreatDoorTie
import Derived.Test.YtlfehkcmclppjaaGreatDoorCards
import Derived.SevenTiedAt

/- PROVED: schismalaw42.NotationNames returns true at every input of its type, and never panics (the tied card NotationNamesCardSaid). Conditions: none beyond those that the card itself states. -/
namespace Go.Proofs.YtlfehkcmclppjaaGreatDoor
open Go

set_option maxHeartbeats 4000000 in
theorem seatLooks : true = Tryz.prog.looks [] := by kernel_rfl
set_option maxHeartbeats 4000000 in
theorem seatMain : Tryz.prog.mainIs = some (true, "2ef9be6e64f77a7b2a714eb63a2d5c8e40f9e70b491a240ac24c46a412419f70".toList) := by kernel_rfl
set_option maxHeartbeats 4000000 in
theorem names42_wf : Rows.notationNamesRow.wfByText (OpenSpec.ofChange Rows.notationNamesSpec) = true := by kernel_rfl
set_option maxHeartbeats 4000000 in
theorem names42_goes : false = Rows.notationNamesRow.goesBy Tryz.prog := by kernel_rfl
theorem names42_card : Rows.NotationNamesCardSaid :=
  Claim7.holds_tied_plain_at .later [] [.data, .data, .data, .data, .sentinel, .sentinel, .pinned] true (true, "2ef9be6e64f77a7b2a714eb63a2d5c8e40f9e70b491a240ac24c46a412419f70") true
    names42_holds (fun _ h => by cases h) names42_wf (fun _ h => by cases h) notationNames_row_tie rfl ⟨rfl, rfl⟩ seatMain rfl
    (fun f fn hf hfn => by
      obtain rfl : f = 3 := Option.some.inj (names42_named.symm.trans hf) |>.symm
      obtain rfl : fn = Tryz.f3 := (Option.some.inj (Tryz.func3.symm.trans hfn)).symm
      exact ⟨seatLooks, fun j t ht => by
        rw [Tryz.params3] at ht
        have hm : t ∈ [9] := by simpa using Array.mem_of_getElem? ht
        have hall : ([9].all fun u => !Tryz.prog.wantsStandIn u) = true := by as_aux_lemma => kernel_rfl
        exact (show Tryz.prog.wantsStandIn t = false by simpa using List.all_eq_true.1 hall t hm)⟩)
    names42_goes
#print axioms names42_card
end Go.Proofs.YtlfehkcmclppjaaGreatDoor
