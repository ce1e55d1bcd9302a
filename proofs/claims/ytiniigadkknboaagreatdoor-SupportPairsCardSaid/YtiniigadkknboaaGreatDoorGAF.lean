/- Contracts and laws: GAF. -/
import Derived.Test.YtiniigadkknboaaGreatDoorGAE
import Derived.Sort.LoopGhostIn
import Derived.Sort.QuietIn

namespace Go.Proofs.YtiniigadkknboaaGreatDoor
open Go.RowKit Go.Lib Go.Shelf
attribute [local go_sem] Md
theorem El.fx {α:Type} {w w':World} {enc:α→Value} {b o:Nat} {xs:List α} {p:Nat→Prop} (h:El w enc (some ⟨b,o,none⟩) xs) (k:Fx p w w') (hp:¬ p b):El w' enc (some ⟨b,o,none⟩) xs:=by
 rcases h with h | ⟨b',o',ha,hb,hc⟩
 ·exact .inl h
 ·injection ha with ha; injection ha with h1 h2
  subst h1; subst h2
  exact .inr ⟨b,o,rfl,Aq hb k.size,fun i x hx=>by rw [k.cell hb hp]; exact hc i x hx⟩
end Go.Proofs.YtiniigadkknboaaGreatDoor
