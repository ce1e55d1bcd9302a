/-
  Contracts and laws for the statements of the seat, QDoorR.
-/
import Derived.Test.YtkjemicelmabdaaGreatDoorQR
import Derived.Test.YtkjemicelmabdaaGreatDoorQA
import Derived.Deep.Strs

/- Readers of the rows of the notation's statements: rows of ints, spellings, names. -/
namespace Go.Proofs.YtkjemicelmabdaaGreatDoor
set_option maxRecDepth 100000
open Go.ChangeShapes Go.WideShapes Go.ChangeAt Go.RowKit
section
variable {H : Type} {enc : TypeId × Value → H} {w : World} {base : Nat} {spare : Nat → Bool} {held : Bool}
end
section
variable {H : Type} {enc : TypeId × Value → H} {w : World} {base : Nat} {spare : Nat → Bool} {held : Bool}
end
theorem readStr : Tryz.prog.readableRec 9 = true:=by kernel_rfl
theorem typesStr : 9 < Tryz.prog.types.size:=of_decide_eq_true (by kernel_rfl)
theorem and_mk {a b : Bool} (ha : a = true) (hb : b = true) : (a && b) = true:=by rw [ha,hb]; rfl
end Go.Proofs.YtkjemicelmabdaaGreatDoor
