/- Contracts and laws: VPM. -/
import Derived.Test.YtcglmebcfeoedaaGreatDoorVPL
import Derived.Test.YtcglmebcfeoedaaGreatDoorVSB
import Derived.Test.YtcglmebcfeoedaaGreatDoorVJ
import Derived.Test.YtcglmebcfeoedaaGreatDoorVI
import Derived.Test.YtcglmebcfeoedaaGreatDoorVL
import Derived.Test.YtcglmebcfeoedaaGreatDoorVSC

namespace Go.Proofs.YtcglmebcfeoedaaGreatDoor
open Go.RowKit Go.Lib

section
variable {m g:List (List Int)} {d B:Nat}
end

section
variable {RN RA C C':List (List Int)} {d M:Nat} {D D':Int}
end
end Go.Proofs.YtcglmebcfeoedaaGreatDoor
