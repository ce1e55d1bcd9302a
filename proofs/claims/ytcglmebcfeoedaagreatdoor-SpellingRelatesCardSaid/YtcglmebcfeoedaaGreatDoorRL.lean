/- Contracts and laws: RL. -/
import Derived.Test.YtcglmebcfeoedaaGreatDoorRD
import Derived.Test.YtcglmebcfeoedaaGreatDoorRI
import Derived.Test.YtcglmebcfeoedaaGreatDoorRJ
import Derived.Test.YtcglmebcfeoedaaGreatDoorRK
import Derived.Test.YtcglmebcfeoedaaGreatDoorRB

namespace Go.Proofs.YtcglmebcfeoedaaGreatDoor
open Go.RowKit Go.Lib
attribute [local go_sem ↓] Go.wp_at_zero Go.wp_at_succ
def restU (B:List (List Int)) (x:List Int):List Int:=((redT B x B.length).map Prod.fst).getD []
structure UqOk (RN RA:List (List Int)) (d:Nat) (B:List (List Int)) (I:List (List Rat)) (res:Option (List Int)):Prop where
 d1:1≤d
 d6:d≤6
 lenA:RA.length=d
 n1:1≤RN.length
 n60:RN.length≤60
 rowA:∀ q,q ∈ RA→q.length=d∧∀ x,x ∈ q→fitB x=true
 rowN:∀ q,q ∈ RN→q.length=d∧∀ x,x ∈ q→fitB x=true
 form:∃ F gF tF,formS F d 0 RA 0=some (gF,tF)∧gF.take tF=B
 lenB:B.length=d
 rowB:∀ q,q ∈ B→q.length=d∧∀ x,x ∈ q→fitB x=true
 isF:formOk B=true
 inv:∃ Fq,redTo (augM RA) d=some Fq∧Fq.lead.length=d∧Fq.g.map (List.drop d)=I
 rowI:∀ q,q ∈ I→q.length=d
 lenI:I.length=d
 pairs:∀ (i j:Nat) (x y:List Int),RN[i]?=some x→RN[j]?=some y→i < j→sumOk I (List.zipWith (· - ·) y x) d=true∧solveS I (List.zipWith (· - ·) y x) d=none
 red:∀ q,q ∈ RN→∃ s,redT B q d=some s∧(∀ x,x ∈ s.1→fitB x=true)∧∀ x,x ∈ s.2→fitB x=true
 abs:∃ F,absT B (RN.map fun q=>rowTx (restU B q)) d F (List.replicate d 0)=some res
structure Wit6 (w:World) (r:Nat) (v0 v1 v2 v3 v4 v5:Value):Prop where
 c0:w.cell? ⟨r,0,none⟩=some v0
 c1:w.cell? ⟨r,1,none⟩=some v1
 c2:w.cell? ⟨r,2,none⟩=some v2
 c3:w.cell? ⟨r,3,none⟩=some v3
 c4:w.cell? ⟨r,4,none⟩=some v4
 c5:w.cell? ⟨r,5,none⟩=some v5
 f0:w.frozen? ⟨r,0,none⟩=false
 f1:w.frozen? ⟨r,1,none⟩=false
 f2:w.frozen? ⟨r,2,none⟩=false
 f3:w.frozen? ⟨r,3,none⟩=false
 f4:w.frozen? ⟨r,4,none⟩=false
 f5:w.frozen? ⟨r,5,none⟩=false
theorem Wit6.fx {p:Nat→Prop} {w w':World} {r:Nat} {v0 v1 v2 v3 v4 v5:Value} (h:Wit6 w r v0 v1 v2 v3 v4 v5) (k:Fx p w w') (hp:¬ p r):Wit6 w' r v0 v1 v2 v3 v4 v5 :=
 ⟨k.keep h.c0 hp,k.keep h.c1 hp,k.keep h.c2 hp,k.keep h.c3 hp,k.keep h.c4 hp,k.keep h.c5 hp,k.keepf h.c0 h.f0 hp,k.keepf h.c1 h.f1 hp,k.keepf h.c2 h.f2 hp,k.keepf h.c3 h.f3 hp,k.keepf h.c4 h.f4 hp,k.keepf h.c5 h.f5 hp⟩
theorem Wit6.fr {w w':World} {r:Nat} {v0 v1 v2 v3 v4 v5:Value} (h:Wit6 w r v0 v1 v2 v3 v4 v5) (k:Fr w w'):Wit6 w' r v0 v1 v2 v3 v4 v5:=h.fx (p:=fun _=>False) (Fx.of_fr k) (fun e=>e)
theorem Wit6.new (w:World) (v0 v1 v2 v3 v4 v5:Value) (t:TypeId):Wit6 (w.alloc (.cells #[v0,v1,v2,v3,v4,v5] t)) w.heap.size v0 v1 v2 v3 v4 v5:=by
 have h:(w.alloc (.cells #[v0,v1,v2,v3,v4,v5] t)).heap[w.heap.size]?=some (.cells #[v0,v1,v2,v3,v4,v5] t (0,0)):=heap_alloc_new w _
 refine ⟨?_, ?_, ?_, ?_, ?_, ?_, ?_, ?_, ?_, ?_, ?_, ?_⟩ <;> (first | (unfold World.cell?; rw [h]; rfl) | (unfold World.frozen?; rw [h]; rfl))
theorem Wit6.stored {w:World} {r:Nat} {v0 v1 v2 v3 v4 v5:Value} (h:Wit6 w r v0 v1 v2 v3 v4 v5) (u0 u1 u2 u3 u4 u5:Value) :
 Wit6 ((((((w.setCell ⟨r,0,none⟩ u0).setCell ⟨r,1,none⟩ u1).setCell ⟨r,2,none⟩ u2).setCell ⟨r,3,none⟩ u3).setCell ⟨r,4,none⟩ u4).setCell ⟨r,5,none⟩ u5) r u0 u1 u2 u3 u4 u5:=by
 obtain ⟨c0,c1,c2,c3,c4,c5,f0,f1,f2,f3,f4,f5⟩:=h
 have ne:∀ i j:Nat,i≠j→(⟨r,i,none⟩:Addr)≠⟨r,j,none⟩:=fun i j hij e=>by injection e with _ e; exact hij e
 refine ⟨?_, ?_, ?_, ?_, ?_, ?_, ?_, ?_, ?_, ?_, ?_, ?_⟩
 ·rw [World.cell?_setCell_other _ _ _ _ (ne 5 0 (by decide)),World.cell?_setCell_other _ _ _ _ (ne 4 0 (by decide)),World.cell?_setCell_other _ _ _ _ (ne 3 0 (by decide)),World.cell?_setCell_other _ _ _ _ (ne 2 0 (by decide)),World.cell?_setCell_other _ _ _ _ (ne 1 0 (by decide))]
  exact World.cell?_setCell_same' _ _ _ (by rw [c0]; rfl)
 ·rw [World.cell?_setCell_other _ _ _ _ (ne 5 1 (by decide)),World.cell?_setCell_other _ _ _ _ (ne 4 1 (by decide)),World.cell?_setCell_other _ _ _ _ (ne 3 1 (by decide)),World.cell?_setCell_other _ _ _ _ (ne 2 1 (by decide))]
  exact World.cell?_setCell_same' _ _ _ (by rw [World.cell?_setCell_other _ _ _ _ (ne 0 1 (by decide)),c1]; rfl)
 ·rw [World.cell?_setCell_other _ _ _ _ (ne 5 2 (by decide)),World.cell?_setCell_other _ _ _ _ (ne 4 2 (by decide)),World.cell?_setCell_other _ _ _ _ (ne 3 2 (by decide))]
  exact World.cell?_setCell_same' _ _ _ (by rw [World.cell?_setCell_other _ _ _ _ (ne 1 2 (by decide)),World.cell?_setCell_other _ _ _ _ (ne 0 2 (by decide)),c2]; rfl)
 ·rw [World.cell?_setCell_other _ _ _ _ (ne 5 3 (by decide)),World.cell?_setCell_other _ _ _ _ (ne 4 3 (by decide))]
  exact World.cell?_setCell_same' _ _ _ (by rw [World.cell?_setCell_other _ _ _ _ (ne 2 3 (by decide)),World.cell?_setCell_other _ _ _ _ (ne 1 3 (by decide)),World.cell?_setCell_other _ _ _ _ (ne 0 3 (by decide)),c3]; rfl)
 ·rw [World.cell?_setCell_other _ _ _ _ (ne 5 4 (by decide))]
  exact World.cell?_setCell_same' _ _ _ (by rw [World.cell?_setCell_other _ _ _ _ (ne 3 4 (by decide)),World.cell?_setCell_other _ _ _ _ (ne 2 4 (by decide)),World.cell?_setCell_other _ _ _ _ (ne 1 4 (by decide)),World.cell?_setCell_other _ _ _ _ (ne 0 4 (by decide)),c4]; rfl)
 ·exact World.cell?_setCell_same' _ _ _ (by rw [World.cell?_setCell_other _ _ _ _ (ne 4 5 (by decide)),World.cell?_setCell_other _ _ _ _ (ne 3 5 (by decide)),World.cell?_setCell_other _ _ _ _ (ne 2 5 (by decide)),World.cell?_setCell_other _ _ _ _ (ne 1 5 (by decide)),World.cell?_setCell_other _ _ _ _ (ne 0 5 (by decide)),c5]; rfl)
 all_goals (simp only [World.frozen?_setCell]; assumption)
def SpRet (w:World) (i:Int) (cs:List Int) (d:Nat) (e:Ending) (w':World):Prop:=∃ g c,e=.returned (.tuple #[.agg #[.int .i64 i,.slice (some ⟨g,0,none⟩) d c],.int .i64 0])∧El w' iv (some ⟨g,0,none⟩) cs∧cs.length=d∧Fr w w'
end Go.Proofs.YtcglmebcfeoedaaGreatDoor
