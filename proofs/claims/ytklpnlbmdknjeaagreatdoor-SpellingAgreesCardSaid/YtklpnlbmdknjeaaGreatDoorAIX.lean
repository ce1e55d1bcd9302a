/- Contracts and laws: AIX. -/
import Derived.Test.YtklpnlbmdknjeaaGreatDoorShelf
import Derived.Test.YtklpnlbmdknjeaaGreatDoorAD
import Derived.Laws.RangeAny
import Derived.Laws.Runes
import Derived.Lib.OthersKept
import Derived.Lib.IndexAny

namespace Go.Proofs.YtklpnlbmdknjeaaGreatDoor
open Go.RowKit Go.Lib
attribute [local go_sem ↓] Go.wp_at_zero Go.wp_at_succ
theorem Fr.heap {w w':World} (h:Fr w w') {i:Nat} (hi:i < w.heap.size):w'.heap[i]?=w.heap[i]?:=h.block i hi
end Go.Proofs.YtklpnlbmdknjeaaGreatDoor
