/- Contracts and laws: RUG0. -/
import Derived.Test.YtcglmebcfeoedaaGreatDoorRL
import Derived.Test.YtcglmebcfeoedaaGreatDoorRP
import Derived.Test.YtcglmebcfeoedaaGreatDoorRNA

namespace Go.Proofs.YtcglmebcfeoedaaGreatDoor
open Go.RowKit Go.Lib
attribute [local go_sem ↓] Go.wp_at_zero Go.wp_at_succ
def ElS (s:Nat) (w:World) (a:Option Addr) (xs:List Int):Prop:=xs=[]∨∃ g,a=some ⟨g,0,none⟩∧s≤g∧El w iv a xs
theorem ElS.el {s:Nat} {w:World} {a:Option Addr} {xs:List Int} (h:ElS s w a xs):El w iv a xs:=by
 rcases h with h | ⟨g,-,-,h⟩
 ·exact .inl h
 ·exact h
theorem ElS.fr {s:Nat} {w w':World} {a:Option Addr} {xs:List Int} (h:ElS s w a xs) (k:Fr w w'):ElS s w' a xs:=by
 rcases h with h | ⟨g,h1,h2,h⟩
 ·exact .inl h
 ·exact .inr ⟨g,h1,h2,h.fr k⟩
theorem ElS.le {s s':Nat} {w:World} {a:Option Addr} {xs:List Int} (h:ElS s w a xs) (k:s'≤s):ElS s' w a xs:=by
 rcases h with h | ⟨g,h1,h2,h⟩
 ·exact .inl h
 ·exact .inr ⟨g,h1,by omega,h⟩
theorem ElS.fx {s r:Nat} {w w':World} {a:Option Addr} {xs:List Int} (h:ElS s w a xs) (k:Fx (·=r) w w') (hr:r < s):El w' iv a xs:=by
 rcases h with h | ⟨g,rfl,h2,h⟩
 ·exact .inl h
 ·exact h.fx k (fun e=>by have e:g=r:=e; omega)
def NoPr (pr:Nat→Nat→Option (List Int)) (M i j:Nat):Prop:=∀ i' j',(i' < i∨(i'=i∧j' < j))→i' < j'→j' < M→pr i' j'=none
theorem NoPr.next {pr:Nat→Nat→Option (List Int)} {M i j:Nat} (h:NoPr pr M i j) (h0:pr i j=none):NoPr pr M i (j+1):=fun i' j' a b c=>by
 by_cases e:i'=i∧j'=j
 ·rw [e.1,e.2]; exact h0
 ·exact h i' j' (by omega) b c
theorem NoPr.row {pr:Nat→Nat→Option (List Int)} {M i:Nat} (h:NoPr pr M i M):NoPr pr M (i+1) (i+2):=fun i' j' a b c=>h i' j' (by omega) b c

end Go.Proofs.YtcglmebcfeoedaaGreatDoor
