/- PROVED: schismalaw43.SpellingAgrees returns true at every input of its type, and never panics (the tied card SpellingAgreesCardSaid). Conditions: none beyond those that the card itself states. -/
import Derived.Test.YtklpnlbmdknjeaaGreatDoorAAgRow
import Derived.Test.YtklpnlbmdknjeaaGreatDoorTie
import Derived.Test.YtklpnlbmdknjeaaGreatDoorCards
import Derived.SevenTiedAt

/- PROVED: schismalaw43.SpellingAgrees returns true at every input of its type, and never panics (the tied card SpellingAgreesCardSaid). Conditions: none beyond those that the card itself states. -/
namespace Go.Proofs.YtklpnlbmdknjeaaGreatDoor
open Go

set_option maxHeartbeats 4000000 in
theorem seatLooks:true=Tryz.prog.looks []:=by kernel_rfl
set_option maxHeartbeats 4000000 in
theorem seatMain : Tryz.prog.mainIs = some (true, "42c8f9168c3bc29af1967bc4f460efead2ede78e1929677c6fe99053c9042486".toList) := by kernel_rfl
set_option maxHeartbeats 4000000 in
theorem agrees43_wf:Rows.spellingAgreesRow.wfByText (OpenSpec.ofChange Rows.spellingAgreesSpec)=true:=by kernel_rfl
set_option maxHeartbeats 4000000 in
theorem agrees43_goes:false=Rows.spellingAgreesRow.goesBy Tryz.prog:=by kernel_rfl
theorem agrees43_card:Rows.SpellingAgreesCardSaid :=
 Claim7.holds_tied_plain_at .later [] [.data, .data, .data, .sentinel, .sentinel] true (true, "42c8f9168c3bc29af1967bc4f460efead2ede78e1929677c6fe99053c9042486") true
  agrees43_holds (fun _ h=>by cases h) agrees43_wf (fun _ h=>by cases h) spellingAgrees_row_tie rfl ⟨rfl,rfl⟩ seatMain rfl
  (fun f fn hf hfn=>by
   obtain rfl:f=4:=Option.some.inj (agrees43_named.symm.trans hf) |>.symm
   obtain rfl:fn=Tryz.f4:=(Option.some.inj (Tryz.func4.symm.trans hfn)).symm
   exact ⟨seatLooks,fun j t ht=>by
    rw [Tryz.params4] at ht
    have hm:t ∈ [26,23]:=by simpa using Array.mem_of_getElem? ht
    have hall:([26,23].all fun u=>!Tryz.prog.wantsStandIn u)=true:=by as_aux_lemma=>kernel_rfl
    exact (show Tryz.prog.wantsStandIn t=false by simpa using List.all_eq_true.1 hall t hm)⟩)
  agrees43_goes
#print axioms agrees43_card
end Go.Proofs.YtklpnlbmdknjeaaGreatDoor
