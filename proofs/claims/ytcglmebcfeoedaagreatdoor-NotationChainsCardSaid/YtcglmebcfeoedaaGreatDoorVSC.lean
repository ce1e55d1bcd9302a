/- Contracts and laws: VSC. -/
import Derived.Test.YtcglmebcfeoedaaGreatDoorVSW
import Derived.Test.YtcglmebcfeoedaaGreatDoorVSB
import Derived.Test.YtcglmebcfeoedaaGreatDoorVSA
import Derived.Test.YtcglmebcfeoedaaGreatDoorVK
import Derived.Test.YtcglmebcfeoedaaGreatDoorVH
import Derived.Test.YtcglmebcfeoedaaGreatDoorVRd

namespace Go.Proofs.YtcglmebcfeoedaaGreatDoor
open Go.RowKit Go.Lib
attribute [local go_sem ↓] AA AB

section
variable {N A:List Sy} {d M:Nat} {aN aA:Option Addr} {cN cA:Nat} {w:World}
variable {C C':List (List Int)} {D D':Int}
end
end Go.Proofs.YtcglmebcfeoedaaGreatDoor
