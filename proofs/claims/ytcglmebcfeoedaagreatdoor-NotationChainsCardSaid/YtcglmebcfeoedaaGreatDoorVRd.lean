/- Contracts and laws: VRd. -/
import Derived.Test.YtcglmebcfeoedaaGreatDoorVNA
import Derived.Test.YtcglmebcfeoedaaGreatDoorVRF
import Derived.Test.YtcglmebcfeoedaaGreatDoorVMk

namespace Go.Proofs.YtcglmebcfeoedaaGreatDoor
open Go.RowKit Go.Lib
attribute [local go_sem ↓] AA AB




end Go.Proofs.YtcglmebcfeoedaaGreatDoor
