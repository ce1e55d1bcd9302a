/- Contracts and laws: VMk. -/
import Derived.Test.YtcglmebcfeoedaaGreatDoorVChk
import Derived.Test.YtcglmebcfeoedaaGreatDoorVKn
import Derived.Test.YtcglmebcfeoedaaGreatDoorVSA
import Derived.Deep.CutRange
import Derived.Deep.CutBlock

namespace Go.Proofs.YtcglmebcfeoedaaGreatDoor
open Go.RowKit Go.Lib
attribute [local go_sem ↓] AA AB

end Go.Proofs.YtcglmebcfeoedaaGreatDoor
