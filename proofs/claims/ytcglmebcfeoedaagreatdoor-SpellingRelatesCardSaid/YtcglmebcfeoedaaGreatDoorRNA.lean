/- Contracts and laws: RNA. -/
import Derived.Test.YtcglmebcfeoedaaGreatDoorRE
import Derived.Test.YtcglmebcfeoedaaGreatDoorRL
import Derived.Test.YtcglmebcfeoedaaGreatDoorRD

namespace Go.Proofs.YtcglmebcfeoedaaGreatDoor
open Go.RowKit Go.Lib
attribute [local go_sem ↓] Go.wp_at_zero Go.wp_at_succ

instance decTi (n:Int):Decidable (Ti n):=by unfold Ti; infer_instance
instance decSm (n:Int):Decidable (Sm n):=by unfold Sm; infer_instance
end Go.Proofs.YtcglmebcfeoedaaGreatDoor
