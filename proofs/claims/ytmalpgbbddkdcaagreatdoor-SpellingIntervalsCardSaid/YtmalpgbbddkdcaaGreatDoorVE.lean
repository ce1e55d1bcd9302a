/- Contracts and laws: VE. -/
import Derived.Test.YtmalpgbbddkdcaaGreatDoorVC
import Derived.Test.YtmalpgbbddkdcaaGreatDoorVD
import Derived.Test.YtmalpgbbddkdcaaGreatDoorVB

namespace Go.Proofs.YtmalpgbbddkdcaaGreatDoor
open Go.RowKit Go.Lib
attribute [local go_sem ↓] Go.wp_at_zero Go.wp_at_succ

end Go.Proofs.YtmalpgbbddkdcaaGreatDoor
