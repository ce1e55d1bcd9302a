/- THE TIED CARD of schismalaw43.SpellingGrows. -/
import Derived.Test.YtphjfalibnnohaaGreatDoorGrowsRow
import Derived.Test.YtphjfalibnnohaaGreatDoorTie
import Derived.Test.YtphjfalibnnohaaGreatDoorCards
import Derived.SevenTiedAt
namespace Go.Proofs.YtphjfalibnnohaaGreatDoor
open Go

theorem grows_card : Rows.SpellingGrowsCardSaid :=
  Claim7.holds_tied_plain_at .later [] [.data, .data, .data, .sentinel, .sentinel] true (true, "1d021e7a72f477fdf99cb6bad2daff1a4ba36e206f9b9448a95ea24fab952bb7") true
    grows_holds (fun _ h => by cases h) (by kernel_rfl) (fun _ h => by cases h) spellingGrows_row_tie rfl ⟨rfl, rfl⟩ (by kernel_rfl) rfl
    (fun f fn hf hfn => by
      obtain rfl : f = 3 := Option.some.inj ((show Tryz.prog.funcNamed "schisma/schismalaw43.SpellingGrows" = some 3 by kernel_rfl).symm.trans hf) |>.symm
      obtain rfl : fn = Tryz.f3 := (Option.some.inj (Tryz.func3.symm.trans hfn)).symm
      exact ⟨by kernel_rfl, fun j t ht => by
        rw [Tryz.params3] at ht
        have hm : t ∈ [26, 23, 5] := by simpa using Array.mem_of_getElem? ht
        have hall : ([26, 23, 5].all fun u => !Tryz.prog.wantsStandIn u) = true := by kernel_rfl
        exact (show Tryz.prog.wantsStandIn t = false by simpa using List.all_eq_true.1 hall t hm)⟩)
    (by kernel_rfl)
#print axioms grows_card
end Go.Proofs.YtphjfalibnnohaaGreatDoor
