/- Contracts and laws: VUD. -/
import Derived.Test.YtcglmebcfeoedaaGreatDoorVChk
import Derived.Test.YtcglmebcfeoedaaGreatDoorVSA
import Derived.Test.YtcglmebcfeoedaaGreatDoorVH
import Derived.Test.YtcglmebcfeoedaaGreatDoorVE
import Derived.Test.YtcglmebcfeoedaaGreatDoorVSC

namespace Go.Proofs.YtcglmebcfeoedaaGreatDoor
open Go.RowKit Go.Lib

attribute [local go_sem ↓] AA AB

end Go.Proofs.YtcglmebcfeoedaaGreatDoor
