/- Contracts and laws: VSB. -/
import Derived.Test.YtcglmebcfeoedaaGreatDoorVSA
import Derived.Test.YtcglmebcfeoedaaGreatDoorVRB
import Derived.Test.YtcglmebcfeoedaaGreatDoorVRd
import Derived.Test.YtcglmebcfeoedaaGreatDoorVRF
import Derived.Test.YtcglmebcfeoedaaGreatDoorVD
import Derived.Test.YtcglmebcfeoedaaGreatDoorVSW
import Derived.Test.YtcglmebcfeoedaaGreatDoorVK
import Derived.Test.YtcglmebcfeoedaaGreatDoorVKn
import Derived.Test.YtcglmebcfeoedaaGreatDoorVNB
import Derived.Test.YtcglmebcfeoedaaGreatDoorVMk
import Derived.Lib.SplitLaws

namespace Go.Proofs.YtcglmebcfeoedaaGreatDoor
open Go.RowKit Go.Lib
attribute [local go_sem ↓] AC AD





end Go.Proofs.YtcglmebcfeoedaaGreatDoor
