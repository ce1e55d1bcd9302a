/- Contracts and laws: VUL. -/
import Derived.Test.YtcglmebcfeoedaaGreatDoorVUG0
import Derived.Test.YtcglmebcfeoedaaGreatDoorVPM
import Derived.Test.YtcglmebcfeoedaaGreatDoorVSB
import Derived.Test.YtcglmebcfeoedaaGreatDoorVRF
import Derived.Test.YtcglmebcfeoedaaGreatDoorVUG

namespace Go.Proofs.YtcglmebcfeoedaaGreatDoor
open Go.RowKit Go.Lib
attribute [local go_sem ↓] AC AD

section
variable {N A:List Sy} {d M:Nat} {aN aA:Option Addr} {cN cA:Nat} {w:World} {C C':List (List Int)} {D D':Int} {B:List (List Int)} {F:Nat} {res:Option (List Int)}
end
end Go.Proofs.YtcglmebcfeoedaaGreatDoor
