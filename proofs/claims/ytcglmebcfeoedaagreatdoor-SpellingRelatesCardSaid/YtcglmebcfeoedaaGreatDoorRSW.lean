/- Contracts and laws: RSW. -/
import Derived.Test.YtcglmebcfeoedaaGreatDoorRL
import Derived.Test.YtcglmebcfeoedaaGreatDoorRNA

namespace Go.Proofs.YtcglmebcfeoedaaGreatDoor
open Go.RowKit Go.Lib
def spF (f:Nat→Option (List Int)) (M:Nat):Option (Nat×List Int):=(List.range M).findSome? fun i=>(f i).map fun c=>(i,c)
attribute [local go_sem ↓] Go.wp_at_zero Go.wp_at_succ

end Go.Proofs.YtcglmebcfeoedaaGreatDoor
