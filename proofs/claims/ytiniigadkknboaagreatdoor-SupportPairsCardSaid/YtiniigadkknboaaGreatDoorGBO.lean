/- Contracts and laws: GBO. -/
import Derived.Test.YtiniigadkknboaaGreatDoorGAC
import Derived.Test.YtiniigadkknboaaGreatDoorGAI
import Derived.Test.YtiniigadkknboaaGreatDoorGBF

namespace Go.Proofs.YtiniigadkknboaaGreatDoor
open Go.RowKit Go.Lib

attribute [local go_sem ↓] Go.wp_at_zero Go.wp_at_succ



end Go.Proofs.YtiniigadkknboaaGreatDoor
