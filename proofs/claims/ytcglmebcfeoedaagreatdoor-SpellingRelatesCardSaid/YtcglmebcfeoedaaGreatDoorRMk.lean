/- Contracts and laws: RMk. -/
import Derived.Test.YtcglmebcfeoedaaGreatDoorRChk
import Derived.Test.YtcglmebcfeoedaaGreatDoorRKn
import Derived.Test.YtcglmebcfeoedaaGreatDoorRSA
import Derived.Deep.CutRange
import Derived.Deep.CutBlock

namespace Go.Proofs.YtcglmebcfeoedaaGreatDoor
open Go.RowKit Go.Lib
attribute [local go_sem ↓] Go.wp_at_zero Go.wp_at_succ
def TriIs (w:World) (a:Option Addr) (L:List (List Int)):Prop :=
 L=[]∨∃ b o,a=some ⟨b,o,none⟩∧b < w.heap.size∧∀ (i:Nat) (r:List Int),L[i]?=some r→∀ (k:Nat) (x:Int),r[k]?=some x→w.cell? ⟨b,o+i * 3+k,none⟩=some (.int .i8 x)
theorem TriIs.fr {w w':World} {a:Option Addr} {L:List (List Int)} (h:TriIs w a L) (k:Fr w w'):TriIs w' a L:=by
 rcases h with h | ⟨b,o,ha,hb,hc⟩
 ·exact .inl h
 ·exact .inr ⟨b,o,ha,Nat.lt_of_lt_of_le hb k.size,fun i r hr j x hx=>k.keep (hc i r hr j x hx)⟩
end Go.Proofs.YtcglmebcfeoedaaGreatDoor
