/- PROVED: schismalaw42.NotationParses returns true at every input of its type, and never panics (the tied card NotationParsesCardSaid). Conditions: none beyond those that the card itself states. -/
import Derived.Test.YtkjemicelmabdaaGreatDoorQPsRow
import Derived.Test.YtkjemicelmabdaaGreatDoorTie
import Derived.Test.YtkjemicelmabdaaGreatDoorCards
import Derived.SevenTiedAt

/- PROVED: schismalaw42.NotationParses returns true at every input of its type, and never panics (the tied card NotationParsesCardSaid). Conditions: none beyond those that the card itself states. -/
namespace Go.Proofs.YtkjemicelmabdaaGreatDoor
open Go

set_option maxHeartbeats 4000000 in
theorem seatLooks : true = Tryz.prog.looks []:=by kernel_rfl
set_option maxHeartbeats 4000000 in
theorem seatMain : Tryz.prog.mainIs = some (true, "25deada8cf020154051ad2ed90a5adcf7b9cbf3ff90399952577ccb6b7fed5fc".toList) := by kernel_rfl
set_option maxHeartbeats 4000000 in
theorem parses42_wf : Rows.notationParsesRow.wfByText (OpenSpec.ofChange Rows.notationParsesSpec) = true:=by kernel_rfl
set_option maxHeartbeats 4000000 in
theorem parses42_goes : false = Rows.notationParsesRow.goesBy Tryz.prog:=by kernel_rfl
theorem parses42_card : Rows.NotationParsesCardSaid :=
 Claim7.holds_tied_plain_at .later [] [.data, .data, .data, .data, .sentinel, .sentinel, .pinned] true (true, "25deada8cf020154051ad2ed90a5adcf7b9cbf3ff90399952577ccb6b7fed5fc") true
  parses42_holds (fun _ h => by cases h) parses42_wf (fun _ h => by cases h) notationParses_row_tie rfl ⟨rfl,rfl⟩ seatMain rfl
  (fun f fn hf hfn => by
   obtain rfl : f = 4:=Option.some.inj (parses42_named.symm.trans hf) |>.symm
   obtain rfl : fn = Tryz.f4:=(Option.some.inj (Tryz.func4.symm.trans hfn)).symm
   exact ⟨seatLooks,fun j t ht => by
    rw [Tryz.params4] at ht
    have hm : t ∈ [27,9]:=by simpa using Array.mem_of_getElem? ht
    have hall : ([27,9].all fun u => !Tryz.prog.wantsStandIn u) = true:=by as_aux_lemma => kernel_rfl
    exact (show Tryz.prog.wantsStandIn t = false by simpa using List.all_eq_true.1 hall t hm)⟩)
  parses42_goes
#print axioms parses42_card
end Go.Proofs.YtkjemicelmabdaaGreatDoor
