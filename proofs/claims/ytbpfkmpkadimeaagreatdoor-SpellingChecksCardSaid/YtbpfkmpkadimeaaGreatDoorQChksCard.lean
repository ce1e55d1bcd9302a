/- PROVED: schismalaw43.SpellingChecks returns true at every input of its type, and never panics (the tied card SpellingChecksCardSaid). Conditions: none beyond those that the card itself states. -/
import Derived.Test.YtbpfkmpkadimeaaGreatDoorQChksRow
import Derived.Test.YtbpfkmpkadimeaaGreatDoorTie
import Derived.Test.YtbpfkmpkadimeaaGreatDoorCards
import Derived.SevenTiedAt

/- THE TIED CARD of schismalaw43.SpellingChecks. -/
namespace Go.Proofs.YtbpfkmpkadimeaaGreatDoor
open Go

set_option maxHeartbeats 4000000 in
theorem seatLooks : true = Tryz.prog.looks [] := by kernel_rfl
set_option maxHeartbeats 4000000 in
theorem seatMain : Tryz.prog.mainIs = some (true, "78520551a688d1f6763d4e23b457e46d08609d47599b018a9637b4f829f31b8d".toList) := by kernel_rfl
set_option maxHeartbeats 4000000 in
theorem checks43_wf : Rows.spellingChecksRow.wfByText (OpenSpec.ofChange Rows.spellingChecksSpec) = true := by kernel_rfl
set_option maxHeartbeats 4000000 in
theorem checks43_goes : false = Rows.spellingChecksRow.goesBy Tryz.prog := by kernel_rfl
theorem checks43_card : Rows.SpellingChecksCardSaid :=
  Claim7.holds_tied_plain_at .later [] [.data, .data, .data, .sentinel, .sentinel] true (true, "78520551a688d1f6763d4e23b457e46d08609d47599b018a9637b4f829f31b8d") true
    checks43_holds (fun _ h => by cases h) checks43_wf (fun _ h => by cases h) spellingChecks_row_tie rfl ⟨rfl, rfl⟩ seatMain rfl
    (fun f fn hf hfn => by
      obtain rfl : f = 4 := Option.some.inj (checks43_named.symm.trans hf) |>.symm
      obtain rfl : fn = Tryz.f4 := (Option.some.inj (Tryz.func4.symm.trans hfn)).symm
      exact ⟨seatLooks, fun j t ht => by
        rw [Tryz.params4] at ht
        have hm : t ∈ [31] := by simpa using Array.mem_of_getElem? ht
        have hall : ([31].all fun u => !Tryz.prog.wantsStandIn u) = true := by as_aux_lemma => kernel_rfl
        exact (show Tryz.prog.wantsStandIn t = false by simpa using List.all_eq_true.1 hall t hm)⟩)
    checks43_goes
#print axioms checks43_card
end Go.Proofs.YtbpfkmpkadimeaaGreatDoor
