/- Contracts and laws: REl. -/
import Derived.Test.YtcglmebcfeoedaaGreatDoorRChk
import Derived.Test.YtcglmebcfeoedaaGreatDoorRD
import Derived.Test.YtcglmebcfeoedaaGreatDoorRE
import Derived.Deep.CutRange

namespace Go.Proofs.YtcglmebcfeoedaaGreatDoor
open Go.RowKit Go.Lib
attribute [local go_sem ↓] Go.wp_at_zero Go.wp_at_succ
def S18 (n:Int):Prop:=-1000000000000000000 < n∧n < 1000000000000000000
theorem S18.size {n:Int} (h:S18 n):(tx n).size≤19:=tx_size_le 18 n (by decide) (by obtain ⟨h1,h2⟩:=h; show _ < 1000000000000000000; omega)
theorem Sm.s18 {n:Int} (h:Sm n):S18 n:=⟨by have:=h.1; omega,by have:=h.2; omega⟩
theorem Same.refl (ob:Nat) (a:List (Nat×Nat×Nat)):Same ob a a:=⟨fun _=>Iff.rfl,fun _ h=>h⟩
end Go.Proofs.YtcglmebcfeoedaaGreatDoor
