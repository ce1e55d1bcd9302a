/-
  Contracts and laws for the statements of the seat, QDoorR.
-/
import Derived.Test.YtkjemicelmabdaaGreatDoorQR
import Derived.Test.YtkjemicelmabdaaGreatDoorQA
import Derived.Deep.Strs

set_option maxRecDepth 100000
namespace Go.Proofs.YtkjemicelmabdaaGreatDoor
open Go.ChangeShapes Go.WideShapes Go.ChangeAt Go.RowKit
section
variable {H:Type} {enc:TypeId×Value→H} {w:World} {base:Nat} {spare:Nat→Bool} {held:Bool}
end
section
variable {H:Type} {enc:TypeId×Value→H} {w:World} {base:Nat} {spare:Nat→Bool} {held:Bool}
end
theorem and_mk {a b:Bool} (ha:a=true) (hb:b=true):(a && b)=true:=by rw [ha,hb]; rfl
end Go.Proofs.YtkjemicelmabdaaGreatDoor
