/- Contracts and laws: RIX. -/
import Derived.Test.YtcglmebcfeoedaaGreatDoorShelf
import Derived.Test.YtcglmebcfeoedaaGreatDoorRD
import Derived.Laws.RangeAny
import Derived.Laws.Runes
import Derived.Lib.OthersKept
import Derived.Lib.IndexAny

namespace Go.Proofs.YtcglmebcfeoedaaGreatDoor
open Go.RowKit Go.Lib
attribute [local go_sem ↓] Go.wp_at_zero Go.wp_at_succ
theorem Fr.heap {w w':World} (h:Fr w w') {i:Nat} (hi:i < w.heap.size):w'.heap[i]?=w.heap[i]?:=h.block i hi
end Go.Proofs.YtcglmebcfeoedaaGreatDoor
