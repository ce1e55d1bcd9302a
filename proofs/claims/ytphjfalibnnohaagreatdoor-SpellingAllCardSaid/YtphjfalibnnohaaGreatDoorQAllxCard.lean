/- PROVED: schismalaw43.SpellingAll returns true at every input of its type, and never panics (the tied card SpellingAllCardSaid). Conditions: none beyond those that the card itself states. -/
import Derived.Test.YtphjfalibnnohaaGreatDoorQAllxRow
import Derived.Test.YtphjfalibnnohaaGreatDoorTie
import Derived.Test.YtphjfalibnnohaaGreatDoorCards
import Derived.SevenTiedAt

/- THE TIED CARD of schismalaw43.SpellingAll. -/
namespace Go.Proofs.YtphjfalibnnohaaGreatDoor
open Go

theorem all43_card : Rows.SpellingAllCardSaid :=
  Claim7.holds_tied_plain_at .later [] [.data, .data, .data, .sentinel, .sentinel] true (true, "1d021e7a72f477fdf99cb6bad2daff1a4ba36e206f9b9448a95ea24fab952bb7") true
    all43_holds (fun _ h => by cases h) (by kernel_rfl) (fun _ h => by cases h) spellingAll_row_tie rfl ⟨rfl, rfl⟩ (by kernel_rfl) rfl
    (fun f fn hf hfn => by
      obtain rfl : f = 5 := Option.some.inj ((show Tryz.prog.funcNamed "schisma/schismalaw43.SpellingAll" = some 5 by kernel_rfl).symm.trans hf) |>.symm
      obtain rfl : fn = Tryz.f5 := (Option.some.inj (Tryz.func5.symm.trans hfn)).symm
      exact ⟨by kernel_rfl, fun j t ht => by
        rw [Tryz.params5] at ht
        have hm : t ∈ [26, 33, 3] := by simpa using Array.mem_of_getElem? ht
        have hall : ([26, 33, 3].all fun u => !Tryz.prog.wantsStandIn u) = true := by kernel_rfl
        exact (show Tryz.prog.wantsStandIn t = false by simpa using List.all_eq_true.1 hall t hm)⟩)
    (by kernel_rfl)
#print axioms all43_card
end Go.Proofs.YtphjfalibnnohaaGreatDoor
