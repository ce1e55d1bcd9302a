/- Contracts and laws: ANB. -/
import Derived.Test.YtklpnlbmdknjeaaGreatDoorAL

namespace Go.Proofs.YtklpnlbmdknjeaaGreatDoor
open Go.RowKit Go.Lib
attribute [local go_sem ↓] Go.wp_at_zero Go.wp_at_succ

end Go.Proofs.YtklpnlbmdknjeaaGreatDoor
