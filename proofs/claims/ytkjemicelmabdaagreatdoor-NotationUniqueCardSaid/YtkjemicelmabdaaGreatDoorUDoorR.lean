/- Contracts and laws: UDoorR. -/
import Derived.Test.YtkjemicelmabdaaGreatDoorUR
import Derived.Test.YtkjemicelmabdaaGreatDoorUA
import Derived.Deep.Strs

set_option maxRecDepth 100000
namespace Go.Proofs.YtkjemicelmabdaaGreatDoor
open Go.ChangeShapes Go.WideShapes Go.ChangeAt Go.RowKit
section
variable {H:Type} {enc:TypeId×Value→H} {w:World} {base:Nat} {spare:Nat→Bool} {held:Bool}
end
section
variable {H:Type} {enc:TypeId×Value→H} {w:World} {base:Nat} {spare:Nat→Bool} {held:Bool}
end
theorem Ye {a b:Bool} (ha:a=true) (hb:b=true):(a && b)=true:=by rw [ha,hb]; rfl
end Go.Proofs.YtkjemicelmabdaaGreatDoor
