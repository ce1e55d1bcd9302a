/- Contracts and laws: VSC. -/
import Derived.Test.YtcglmebcfeoedaaGreatDoorVSW
import Derived.Test.YtcglmebcfeoedaaGreatDoorVSB
import Derived.Test.YtcglmebcfeoedaaGreatDoorVSA
import Derived.Test.YtcglmebcfeoedaaGreatDoorVK
import Derived.Test.YtcglmebcfeoedaaGreatDoorVH
import Derived.Test.YtcglmebcfeoedaaGreatDoorVRd

set_option maxRecDepth 100000
namespace Go.Proofs.YtcglmebcfeoedaaGreatDoor
open Go.RowKit Go.Lib
attribute [local go_sem ↓] AC AD
theorem SH (a:Option Addr) (cap:Nat) (f:Value) (w:World) :
 Calls Tryz.prog 134 #[.slice a 0 cap,f] w fun e w'=>e=.returned (.slice none 0 0)∧w=w':=by
 go_enter Tryz.func134,Tryz.ntmps134
 go_wp2_with fail
 refine D2 1 ?_
 rw [Cb]
 go_wp2_with fail
 go_ret
 exact ⟨rfl,rfl⟩

section
variable {N A:List Sy} {d M:Nat} {aN aA:Option Addr} {cN cA:Nat} {w:World}
variable {C C':List (List Int)} {D D':Int}
end
end Go.Proofs.YtcglmebcfeoedaaGreatDoor
