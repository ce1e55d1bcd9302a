/- Contracts and laws: VL. -/
import Derived.Test.YtcglmebcfeoedaaGreatDoorVD
import Derived.Test.YtcglmebcfeoedaaGreatDoorVI
import Derived.Test.YtcglmebcfeoedaaGreatDoorVJ
import Derived.Test.YtcglmebcfeoedaaGreatDoorVK
import Derived.Test.YtcglmebcfeoedaaGreatDoorVB
import Derived.Test.YtcglmebcfeoedaaGreatDoorVH

set_option maxRecDepth 100000
set_option maxHeartbeats 1000000
namespace Go.Proofs.YtcglmebcfeoedaaGreatDoor
open Go.RowKit Go.Lib
attribute [local go_sem ↓] AA AB
def Db (B:List (List Int)) (x:List Int):List Int:=((H7 B x B.length).map Prod.fst).getD []
structure MO (RN RA:List (List Int)) (d:Nat) (B:List (List Int)) (I:List (List Rat)) (res:Option (List Int)):Prop where
 d1:1≤d
 d6:d≤6
 lenA:RA.length=d
 n1:1≤RN.length
 n60:RN.length≤60
 rowA:∀ q,q ∈ RA→q.length=d∧∀ x,x ∈ q→Bi x=true
 rowN:∀ q,q ∈ RN→q.length=d∧∀ x,x ∈ q→Bi x=true
 form:∃ F gF tF,DR F d 0 RA 0=some (gF,tF)∧gF.take tF=B
 lenB:B.length=d
 rowB:∀ q,q ∈ B→q.length=d∧∀ x,x ∈ q→Bi x=true
 isF:Hx B=true
 inv:∃ Fq,Cg (HD RA) d=some Fq∧Fq.lead.length=d∧Fq.g.map (List.drop d)=I
 rowI:∀ q,q ∈ I→q.length=d
 lenI:I.length=d
 pairs:∀ (i j:Nat) (x y:List Int),RN[i]?=some x→RN[j]?=some y→i < j→Lt I (List.zipWith (· - ·) y x) d=true∧E4 I (List.zipWith (· - ·) y x) d=none
 red:∀ q,q ∈ RN→∃ s,H7 B q d=some s∧(∀ x,x ∈ s.1→Bi x=true)∧∀ x,x ∈ s.2→Bi x=true
 abs:∃ F,Mk B (RN.map fun q=>Dk (Db B q)) d F (List.replicate d 0)=some res
theorem Gz {x:Int} (h:Bi x=true):Sm x:=by unfold Bi at h; have h:=Av h; exact ⟨by omega,by omega⟩
theorem J0 (xs:List Int) (a:Option Addr) (cap d:Nat) (w:World) (hG:G w) (hx:El w iv a xs) (hd:xs.length=d) (hd1:1≤d) (hd6:d≤1000) (hb:∀ x,x ∈ xs→Bi x=true) :
 Calls Tryz.prog 64 #[.slice a d cap] w fun e w'=>∃ g c,e=.returned (.slice (some ⟨g,0,none⟩) d c)∧El w' sv (some ⟨g,0,none⟩) xs∧Fr w w':=by
 have h:=Py xs a cap w hG hx (by omega) (fun x hx=>Gz (hb x hx))
 rw [hd] at h
 refine h.mono ?_
 rintro e w' ⟨v,rfl,hown,hf⟩
 rw [hd] at hown
 obtain ⟨g,cp,rfl,-⟩:=Ct hown (by omega)
 exact ⟨g,cp,rfl,(DA (CS hG) hown).1.el,hf⟩
structure Io (w:World) (r:Nat) (v0 v1 v2 v3 v4 v5:Value):Prop where
 c0:w.cell? ⟨r,0,none⟩=some v0
 c1:w.cell? ⟨r,1,none⟩=some v1
 c2:w.cell? ⟨r,2,none⟩=some v2
 c3:w.cell? ⟨r,3,none⟩=some v3
 c4:w.cell? ⟨r,4,none⟩=some v4
 c5:w.cell? ⟨r,5,none⟩=some v5
 f0:w.frozen? ⟨r,0,none⟩=false
 f1:w.frozen? ⟨r,1,none⟩=false
 f2:w.frozen? ⟨r,2,none⟩=false
 f3:w.frozen? ⟨r,3,none⟩=false
 f4:w.frozen? ⟨r,4,none⟩=false
 f5:w.frozen? ⟨r,5,none⟩=false
theorem Io.fx {p:Nat→Prop} {w w':World} {r:Nat} {v0 v1 v2 v3 v4 v5:Value} (h:Io w r v0 v1 v2 v3 v4 v5) (k:Fx p w w') (hp:¬ p r):Io w' r v0 v1 v2 v3 v4 v5 :=
 ⟨k.keep h.c0 hp,k.keep h.c1 hp,k.keep h.c2 hp,k.keep h.c3 hp,k.keep h.c4 hp,k.keep h.c5 hp,k.keepf h.c0 h.f0 hp,k.keepf h.c1 h.f1 hp,k.keepf h.c2 h.f2 hp,k.keepf h.c3 h.f3 hp,k.keepf h.c4 h.f4 hp,k.keepf h.c5 h.f5 hp⟩
theorem Io.fr {w w':World} {r:Nat} {v0 v1 v2 v3 v4 v5:Value} (h:Io w r v0 v1 v2 v3 v4 v5) (k:Fr w w'):Io w' r v0 v1 v2 v3 v4 v5:=h.fx (p:=fun _=>False) (Fx.of_fr k) (fun e=>e)
theorem Io.new (w:World) (v0 v1 v2 v3 v4 v5:Value) (t:TypeId):Io (w.alloc (.cells #[v0,v1,v2,v3,v4,v5] t)) w.heap.size v0 v1 v2 v3 v4 v5:=by
 have h:(w.alloc (.cells #[v0,v1,v2,v3,v4,v5] t)).heap[w.heap.size]?=some (.cells #[v0,v1,v2,v3,v4,v5] t (0,0)):=CG w _
 refine ⟨?_, ?_, ?_, ?_, ?_, ?_, ?_, ?_, ?_, ?_, ?_, ?_⟩ <;> (first | (unfold World.cell?; rw [h]; rfl) | (unfold World.frozen?; rw [h]; rfl))
theorem Io.stored {w:World} {r:Nat} {v0 v1 v2 v3 v4 v5:Value} (h:Io w r v0 v1 v2 v3 v4 v5) (u0 u1 u2 u3 u4 u5:Value) :
 Io ((((((w.setCell ⟨r,0,none⟩ u0).setCell ⟨r,1,none⟩ u1).setCell ⟨r,2,none⟩ u2).setCell ⟨r,3,none⟩ u3).setCell ⟨r,4,none⟩ u4).setCell ⟨r,5,none⟩ u5) r u0 u1 u2 u3 u4 u5:=by
 obtain ⟨c0,c1,c2,c3,c4,c5,f0,f1,f2,f3,f4,f5⟩:=h
 have ne:∀ i j:Nat,i≠j→(⟨r,i,none⟩:Addr)≠⟨r,j,none⟩:=fun i j hij e=>by injection e with _ e; exact hij e
 refine ⟨?_, ?_, ?_, ?_, ?_, ?_, ?_, ?_, ?_, ?_, ?_, ?_⟩
 ·rw [Ad _ _ _ _ (ne 5 0 (by decide)),Ad _ _ _ _ (ne 4 0 (by decide)),Ad _ _ _ _ (ne 3 0 (by decide)),Ad _ _ _ _ (ne 2 0 (by decide)),Ad _ _ _ _ (ne 1 0 (by decide))]
  exact Aq _ _ _ (by rw [c0]; rfl)
 ·rw [Ad _ _ _ _ (ne 5 1 (by decide)),Ad _ _ _ _ (ne 4 1 (by decide)),Ad _ _ _ _ (ne 3 1 (by decide)),Ad _ _ _ _ (ne 2 1 (by decide))]
  exact Aq _ _ _ (by rw [Ad _ _ _ _ (ne 0 1 (by decide)),c1]; rfl)
 ·rw [Ad _ _ _ _ (ne 5 2 (by decide)),Ad _ _ _ _ (ne 4 2 (by decide)),Ad _ _ _ _ (ne 3 2 (by decide))]
  exact Aq _ _ _ (by rw [Ad _ _ _ _ (ne 1 2 (by decide)),Ad _ _ _ _ (ne 0 2 (by decide)),c2]; rfl)
 ·rw [Ad _ _ _ _ (ne 5 3 (by decide)),Ad _ _ _ _ (ne 4 3 (by decide))]
  exact Aq _ _ _ (by rw [Ad _ _ _ _ (ne 2 3 (by decide)),Ad _ _ _ _ (ne 1 3 (by decide)),Ad _ _ _ _ (ne 0 3 (by decide)),c3]; rfl)
 ·rw [Ad _ _ _ _ (ne 5 4 (by decide))]
  exact Aq _ _ _ (by rw [Ad _ _ _ _ (ne 3 4 (by decide)),Ad _ _ _ _ (ne 2 4 (by decide)),Ad _ _ _ _ (ne 1 4 (by decide)),Ad _ _ _ _ (ne 0 4 (by decide)),c4]; rfl)
 ·exact Aq _ _ _ (by rw [Ad _ _ _ _ (ne 4 5 (by decide)),Ad _ _ _ _ (ne 3 5 (by decide)),Ad _ _ _ _ (ne 2 5 (by decide)),Ad _ _ _ _ (ne 1 5 (by decide)),Ad _ _ _ _ (ne 0 5 (by decide)),c5]; rfl)
 all_goals (simp only [Ap]; assumption)
theorem Kb (w:World) (r:Nat) (u0 u1 u2 u3 u4 u5:Value):Fx (·=r) w ((((((w.setCell ⟨r,0,none⟩ u0).setCell ⟨r,1,none⟩ u1).setCell ⟨r,2,none⟩ u2).setCell ⟨r,3,none⟩ u3).setCell ⟨r,4,none⟩ u4).setCell ⟨r,5,none⟩ u5) :=
 (((((Fx.setCell (p:=(·=r)) (q:=⟨r,0,none⟩) (Fx.refl _ w) (.inl rfl) u0).setCell (q:=⟨r,1,none⟩) (.inl rfl) u1).setCell (q:=⟨r,2,none⟩) (.inl rfl) u2).setCell (q:=⟨r,3,none⟩) (.inl rfl) u3).setCell (q:=⟨r,4,none⟩) (.inl rfl) u4).setCell (q:=⟨r,5,none⟩) (.inl rfl) u5
def IX:Value:=.agg #[.bool false,.slice none 0 0,.int .i64 0,.slice none 0 0,.int .i64 0,.slice none 0 0]
def RM (w:World) (d:Nat) (res:Option (List Int)) (e:Ending) (w':World):Prop:=match res with
 | none=>e=.returned (.tuple #[.bool true,IX,.int .i64 0])∧Fr w w'
 | some x=>∃ g c,e=.returned (.tuple #[.bool false,.agg #[.bool true,.slice (some ⟨g,0,none⟩) d c,.int .i64 0,.slice none 0 0,.int .i64 0,.slice none 0 0],.int .i64 0])∧El w' iv (some ⟨g,0,none⟩) x∧x.length=d∧Fr w w'
theorem JZ (aN aA:Option Addr) (cN cA:Nat) (N A:List Sy) (i:Int) (cs:List Int) (ca:Option Addr) (cc:Nat) (w:World) (hcs:El w iv ca cs) (hl:cs.length≤1000000000) (_hN:N.length≤1000000000) (_hA:A.length≤1000000000) :
 Calls Tryz.prog 78 #[.agg #[.slice aN N.length cN,.slice aA A.length cA],.agg #[.int .i64 i,.slice ca cs.length cc]] w fun e w'=>e=.returned (.int .i64 (R6 N A i cs))∧Fr w w':=by
 have hck:=fun W (hW:Fr w W)=>Df cs ca cc W (hcs.fr hW) hl
 replace hck:=hZ hck
 clear hcs
 have hf2:Fr w ((w.alloc (.cells #[.slice aN N.length cN,.slice aA A.length cA] 31)).alloc (.cells #[.int .i64 i,.slice ca cs.length cc] 50)):=((Fr.refl w).alloc _).alloc _
 replace hf2:=hZ hf2
 by_cases h1:i < 0
 ·have hfin:=hZ (show R6 N A i cs=10 by unfold R6; rw [Aj (.inl h1)])
  have d1:decide (i < 0)=true:=Ac h1
  go_enter Tryz.func78,Tryz.ntmps78
  go_wp2_with fail
  go_ret
  exact ⟨Bk hfin.out.symm,hf2.out⟩
 ·by_cases h2:(N.length:Int)≤i
  ·have hfin:=hZ (show R6 N A i cs=10 by unfold R6; rw [Aj (.inr h2)])
   have d1:decide (i < 0)=false:=Aa h1
   have d2:decide ((N.length:Int)≤i)=true:=Ac h2
   go_enter Tryz.func78,Tryz.ntmps78
   go_wp2_with fail
   go_ret
   exact ⟨Bk hfin.out.symm,hf2.out⟩
  ·have d1:decide (i < 0)=false:=Aa h1
   have d2:decide ((N.length:Int)≤i)=false:=Aa h2
   by_cases h3:cs.length=A.length
   ·have hfin:=hZ (show R6 N A i cs=Cx cs by unfold R6; rw [Ai (by omega),Ai (by rw [h3]; simp)])
    have q3:((cs.length:Int) != A.length)=false:=by rw [h3]; simp
    replace h3:=hZ h3
    go_enter Tryz.func78,Tryz.ntmps78
    go_wp2_with fail
    refine (hck.out _ hf2.out).mono ?_
    rintro e w3 ⟨rfl,hf3⟩
    go_wp2_with fail
    go_ret
    exact ⟨Bk hfin.out.symm,hf2.out.trans hf3⟩
   ·have hfin:=hZ (show R6 N A i cs=5 by unfold R6; rw [Ai (by omega),Aj h3])
    have q3:((cs.length:Int) != A.length)=true:=by rw [Bl]; omega
    replace h3:=hZ h3
    go_enter Tryz.func78,Tryz.ntmps78
    go_wp2_with fail
    go_ret
    exact ⟨Bk hfin.out.symm,hf2.out⟩
structure XU (RN RA:List (List Int)) (d:Nat) (I:List (List Rat)):Prop where
 d1:1≤d
 d6:d≤6
 lenA:RA.length=d
 n1:1≤RN.length
 n60:RN.length≤60
 rowA:∀ q,q ∈ RA→q.length=d∧∀ x,x ∈ q→Bi x=true
 rowN:∀ q,q ∈ RN→q.length=d∧∀ x,x ∈ q→Bi x=true
 inv:∃ Fq,Cg (HD RA) d=some Fq∧Fq.lead.length=d∧Fq.g.map (List.drop d)=I
 rowI:∀ q,q ∈ I→q.length=d
 lenI:I.length=d
theorem MO.nt {RN RA:List (List Int)} {d:Nat} {B:List (List Int)} {I:List (List Rat)} {res:Option (List Int)} (h:MO RN RA d B I res):XU RN RA d I :=
 ⟨h.d1,h.d6,h.lenA,h.n1,h.n60,h.rowA,h.rowN,h.inv,h.rowI,h.lenI⟩
def X7 (I:List (List Rat)) (d:Nat) (x r:List Int):Option (List Int):=E4 I (List.zipWith (· - ·) r x) d
def WS (w:World) (i:Int) (cs:List Int) (d:Nat) (e:Ending) (w':World):Prop:=∃ g c,e=.returned (.tuple #[.agg #[.int .i64 i,.slice (some ⟨g,0,none⟩) d c],.int .i64 0])∧El w' iv (some ⟨g,0,none⟩) cs∧cs.length=d∧Fr w w'

end Go.Proofs.YtcglmebcfeoedaaGreatDoor
