/- Contracts and laws: RNB. -/
import Derived.Test.YtcglmebcfeoedaaGreatDoorRL

namespace Go.Proofs.YtcglmebcfeoedaaGreatDoor
open Go.RowKit Go.Lib
attribute [local go_sem ↓] Go.wp_at_zero Go.wp_at_succ

end Go.Proofs.YtcglmebcfeoedaaGreatDoor
