/- PROVED: schismalaw42.NotationDegrees returns true at every input of its type, and never panics (the tied card NotationDegreesCardSaid). Conditions: none beyond those that the card itself states. -/
import Derived.Test.YtamffndlpminmaaGreatDoorQDgRow
import Derived.Test.YtamffndlpminmaaGreatDoorTie
import Derived.Test.YtamffndlpminmaaGreatDoorCards
import Derived.SevenTiedAt

/- PROVED: schismalaw42.NotationDegrees returns true at every input of its type, and never panics (the tied card NotationDegreesCardSaid). Conditions: none beyond those that the card itself states. -/
namespace Go.Proofs.YtamffndlpminmaaGreatDoor
open Go

set_option maxHeartbeats 4000000 in
theorem seatLooks : true = Tryz.prog.looks [] := by kernel_rfl
set_option maxHeartbeats 4000000 in
theorem seatMain : Tryz.prog.mainIs = some (true, "b6389b1a6f3a3dc2ae9b2200a6bc9a5fcedeb16e87555273ac38aab9a9e4033e".toList) := by kernel_rfl
set_option maxHeartbeats 4000000 in
theorem degrees42_wf : Rows.notationDegreesRow.wfByText (OpenSpec.ofChange Rows.notationDegreesSpec) = true := by kernel_rfl
set_option maxHeartbeats 4000000 in
theorem degrees42_goes : false = Rows.notationDegreesRow.goesBy Tryz.prog := by kernel_rfl
theorem degrees42_card : Rows.NotationDegreesCardSaid :=
  Claim7.holds_tied_plain_at .later [] [.data, .data, .data, .data, .sentinel, .sentinel, .pinned] true (true, "b6389b1a6f3a3dc2ae9b2200a6bc9a5fcedeb16e87555273ac38aab9a9e4033e") true
    degrees42_holds (fun _ h => by cases h) degrees42_wf (fun _ h => by cases h) notationDegrees_row_tie rfl ⟨rfl, rfl⟩ seatMain rfl
    (fun f fn hf hfn => by
      obtain rfl : f = 6 := Option.some.inj (degrees42_named.symm.trans hf) |>.symm
      obtain rfl : fn = Tryz.f6 := (Option.some.inj (Tryz.func6.symm.trans hfn)).symm
      exact ⟨seatLooks, fun j t ht => by
        rw [Tryz.params6] at ht
        have hm : t ∈ [54, 9] := by simpa using Array.mem_of_getElem? ht
        have hall : ([54, 9].all fun u => !Tryz.prog.wantsStandIn u) = true := by as_aux_lemma => kernel_rfl
        exact (show Tryz.prog.wantsStandIn t = false by simpa using List.all_eq_true.1 hall t hm)⟩)
    degrees42_goes
#print axioms degrees42_card
end Go.Proofs.YtamffndlpminmaaGreatDoor
