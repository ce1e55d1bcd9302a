/- Contracts and laws: RP. -/
import Derived.Test.YtcglmebcfeoedaaGreatDoorShelf
import Derived.Test.YtcglmebcfeoedaaGreatDoorRH
import Derived.Test.YtcglmebcfeoedaaGreatDoorRD
import Derived.IntWalk
import Derived.Test.YtcglmebcfeoedaaGreatDoorRL
import Derived.Test.YtcglmebcfeoedaaGreatDoorRIX

namespace Go.Proofs.YtcglmebcfeoedaaGreatDoor
open Go.RowKit Go.Lib
attribute [local go_sem ↓] Go.wp_at_zero Go.wp_at_succ
structure Cel3 (w:World) (r:Nat) (v u t:Value):Prop where
 a:w.cell? ⟨r,0,none⟩=some v
 b:w.cell? ⟨r,1,none⟩=some u
 c:w.cell? ⟨r,2,none⟩=some t
 fa:w.frozen? ⟨r,0,none⟩=false
 fb:w.frozen? ⟨r,1,none⟩=false
 fc:w.frozen? ⟨r,2,none⟩=false
theorem Cel3.fx {p:Nat→Prop} {w w':World} {r:Nat} {v u t:Value} (h:Cel3 w r v u t) (k:Fx p w w') (h1:¬ p r):Cel3 w' r v u t :=
 ⟨k.keep h.a h1,k.keep h.b h1,k.keep h.c h1,k.keepf h.a h.fa h1,k.keepf h.b h.fb h1,k.keepf h.c h.fc h1⟩
theorem Cel3.fr {w w':World} {r:Nat} {v u t:Value} (h:Cel3 w r v u t) (k:Fr w w'):Cel3 w' r v u t:=h.fx (p:=fun _=>False) (Fx.of_fr k) (fun e=>e)
theorem Cel3.new (w:World) (v u t:Value) (T:TypeId):Cel3 (w.alloc (.cells #[v,u,t] T)) w.heap.size v u t:=by
 have h:(w.alloc (.cells #[v,u,t] T)).heap[w.heap.size]?=some (.cells #[v,u,t] T (0,0)):=heap_alloc_new w _
 refine ⟨?_, ?_, ?_, ?_, ?_, ?_⟩ <;> (first | (unfold World.cell?; rw [h]; rfl) | (unfold World.frozen?; rw [h]; rfl))
theorem Cel3.stored {w:World} {r:Nat} {v u t:Value} (h:Cel3 w r v u t) (v' u' t':Value):Cel3 (((w.setCell ⟨r,0,none⟩ v').setCell ⟨r,1,none⟩ u').setCell ⟨r,2,none⟩ t') r v' u' t':=by
 obtain ⟨c0,c1,c2,f0,f1,f2⟩:=h
 have ne:∀ i j:Nat,i≠j→(⟨r,i,none⟩:Addr)≠⟨r,j,none⟩:=fun i j hij e=>by injection e with _ e; exact hij e
 refine ⟨?_, ?_, ?_, ?_, ?_, ?_⟩
 ·rw [World.cell?_setCell_other _ _ _ _ (ne 2 0 (by decide)),World.cell?_setCell_other _ _ _ _ (ne 1 0 (by decide))]
  exact World.cell?_setCell_same' _ _ _ (by rw [c0]; rfl)
 ·rw [World.cell?_setCell_other _ _ _ _ (ne 2 1 (by decide))]
  exact World.cell?_setCell_same' _ _ _ (by rw [World.cell?_setCell_other _ _ _ _ (ne 0 1 (by decide)),c1]; rfl)
 ·exact World.cell?_setCell_same' _ _ _ (by rw [World.cell?_setCell_other _ _ _ _ (ne 1 2 (by decide)),World.cell?_setCell_other _ _ _ _ (ne 0 2 (by decide)),c2]; rfl)
 all_goals (simp only [World.frozen?_setCell]; assumption)
structure Pc where
 nm:ByteArray
 ng:Bool
 k:Int
def Pc.cells (p:Pc):List Value:=[.string p.nm,.bool p.ng,.string (tx p.k)]
def Pc.val (p:Pc):Int:=if p.ng then -p.k else p.k
def cntT (pcs:List Pc) (ats:List Nat) (d:Nat):Nat→List Int
 | 0=>List.replicate d 0
 | i+1=>match pcs[i]?,ats[i]? with
   | some p,some t=>(cntT pcs ats d i).set t p.val
   | _,_=>cntT pcs ats d i
def dsOk (d:ByteArray):Bool:=decide (d.data.toList≠[]) && decide (d.data.toList.head?≠some 48) && d.data.toList.all (fun c=>decide (48≤c.toNat) && decide (c.toNat≤57))
def cutO (s:ByteArray):Option Pc :=
 let k:=(Lib.indexAny s.data.toList [43,45])
 if 0≤k∧isName (s.extract 0 k.toNat)=true∧dsOk (s.extract (k.toNat+1) s.size)=true then
  some ⟨s.extract 0 k.toNat,s.data.toList[k.toNat]? == some 45,(digVal 0 (s.extract (k.toNat+1) s.size).data.toList:Nat)⟩
 else none

def pcsO (ws:List ByteArray):List Pc:=ws.filterMap cutO
def symI (L:List Sy) (nm:ByteArray):Int:=idx (fun y:Sy=>y.nm.toList == nm.toList) L
def atsO (A:List Sy) (ws:List ByteArray):List Int:=(pcsO ws).map fun p=>symI A p.nm
def atsN (A:List Sy) (ws:List ByteArray):List Nat:=(atsO A ws).map Int.toNat
def risesB (l:List Int):Bool:=(List.range (l.length - 1)).all fun i=>decide ((l[i]?).getD 0 < (l[i+1]?).getD 0)
def prsE (N A:List Sy) (w0:ByteArray) (ws:List ByteArray):Int :=
 if isName w0=false then 15
 else if ws.all (fun x=>(cutO x).isSome)=false then 15
 else if symI N w0 < 0 then 10
 else if (atsO A ws).contains (-1)=true then 10
 else if risesB (atsO A ws)=false then 6
 else if (pcsO ws).all (fun p=>decide (p.k≤1000000000))=false then 4 else 0

end Go.Proofs.YtcglmebcfeoedaaGreatDoor
