/- PROVED: schismalaw42.NotationTexts returns true at every input of its type, and never panics (the tied card NotationTextsCardSaid). Conditions: none beyond those that the card itself states. -/
import Derived.Test.YtamffndlpminmaaGreatDoorQTxRow
import Derived.Test.YtamffndlpminmaaGreatDoorTie
import Derived.Test.YtamffndlpminmaaGreatDoorCards
import Derived.SevenTiedAt

/- PROVED: schismalaw42.NotationTexts returns true at every input of its type, and never panics (the tied card NotationTextsCardSaid). Conditions: none beyond those that the card itself states. -/
namespace Go.Proofs.YtamffndlpminmaaGreatDoor
open Go

set_option maxHeartbeats 4000000 in
theorem seatLooks : true = Tryz.prog.looks [] := by kernel_rfl
set_option maxHeartbeats 4000000 in
theorem seatMain : Tryz.prog.mainIs = some (true, "b6389b1a6f3a3dc2ae9b2200a6bc9a5fcedeb16e87555273ac38aab9a9e4033e".toList) := by kernel_rfl
set_option maxHeartbeats 4000000 in
theorem texts42_wf : Rows.notationTextsRow.wfByText (OpenSpec.ofChange Rows.notationTextsSpec) = true := by kernel_rfl
set_option maxHeartbeats 4000000 in
theorem texts42_goes : false = Rows.notationTextsRow.goesBy Tryz.prog := by kernel_rfl
theorem texts42_card : Rows.NotationTextsCardSaid :=
  Claim7.holds_tied_plain_at .later [] [.data, .data, .data, .data, .sentinel, .sentinel, .pinned] true (true, "b6389b1a6f3a3dc2ae9b2200a6bc9a5fcedeb16e87555273ac38aab9a9e4033e") true
    texts42_holds (fun _ h => by cases h) texts42_wf (fun _ h => by cases h) notationTexts_row_tie rfl ⟨rfl, rfl⟩ seatMain rfl
    (fun f fn hf hfn => by
      obtain rfl : f = 4 := Option.some.inj (texts42_named.symm.trans hf) |>.symm
      obtain rfl : fn = Tryz.f4 := (Option.some.inj (Tryz.func4.symm.trans hfn)).symm
      exact ⟨seatLooks, fun j t ht => by
        rw [Tryz.params4] at ht
        have hm : t ∈ [27, 31] := by simpa using Array.mem_of_getElem? ht
        have hall : ([27, 31].all fun u => !Tryz.prog.wantsStandIn u) = true := by as_aux_lemma => kernel_rfl
        exact (show Tryz.prog.wantsStandIn t = false by simpa using List.all_eq_true.1 hall t hm)⟩)
    texts42_goes
#print axioms texts42_card
end Go.Proofs.YtamffndlpminmaaGreatDoor
