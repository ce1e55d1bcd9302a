/- Contracts and laws: VL. -/
import Derived.Test.YtcglmebcfeoedaaGreatDoorVD
import Derived.Test.YtcglmebcfeoedaaGreatDoorVI
import Derived.Test.YtcglmebcfeoedaaGreatDoorVJ
import Derived.Test.YtcglmebcfeoedaaGreatDoorVK
import Derived.Test.YtcglmebcfeoedaaGreatDoorVB
import Derived.Test.YtcglmebcfeoedaaGreatDoorVH

set_option maxRecDepth 100000
set_option maxHeartbeats 1000000
namespace Go.Proofs.YtcglmebcfeoedaaGreatDoor
open Go.RowKit Go.Lib
attribute [local go_sem ↓] AC AD
def H6 (B:List (List Int)) (x:List Int):List Int:=((JE B x B.length).map Prod.fst).getD []
structure L0 (RN RA:List (List Int)) (d:Nat) (B:List (List Int)) (I:List (List Rat)) (res:Option (List Int)):Prop where
 d1:1≤d
 d6:d≤6
 lenA:RA.length=d
 n1:1≤RN.length
 n60:RN.length≤60
 rowA:∀ q,q ∈ RA→q.length=d∧∀ x,x ∈ q→Br x=true
 rowN:∀ q,q ∈ RN→q.length=d∧∀ x,x ∈ q→Br x=true
 form:∃ F gF tF,Hg F d 0 RA 0=some (gF,tF)∧gF.take tF=B
 lenB:B.length=d
 rowB:∀ q,q ∈ B→q.length=d∧∀ x,x ∈ q→Br x=true
 isF:Iw B=true
 inv:∃ Fq,C4 (Hl RA) d=some Fq∧Fq.lead.length=d∧Fq.g.map (List.drop d)=I
 rowI:∀ q,q ∈ I→q.length=d
 lenI:I.length=d
 pairs:∀ (i j:Nat) (x y:List Int),RN[i]?=some x→RN[j]?=some y→i < j→Me I (List.zipWith (· - ·) y x) d=true∧E4 I (List.zipWith (· - ·) y x) d=none
 red:∀ q,q ∈ RN→∃ s,JE B q d=some s∧(∀ x,x ∈ s.1→Br x=true)∧∀ x,x ∈ s.2→Br x=true
 abs:∃ F,PO B (RN.map fun q=>Ev (H6 B q)) d F (List.replicate d 0)=some res
theorem F3 {x:Int} (h:Br x=true):Sm x:=by unfold Br at h; have h:=Ax h; exact ⟨by omega,by omega⟩
theorem LB (xs:List Int) (a:Option Addr) (cap d:Nat) (w:World) (hG:G w) (hx:El w iv a xs) (hd:xs.length=d) (hd1:1≤d) (hd6:d≤1000) (hb:∀ x,x ∈ xs→Br x=true) :
 Calls Tryz.prog 64 #[.slice a d cap] w fun e w'=>∃ g c,e=.returned (.slice (some ⟨g,0,none⟩) d c)∧El w' sv (some ⟨g,0,none⟩) xs∧Fr w w':=by
 have h:=OO xs a cap w hG hx (by omega) (fun x hx=>F3 (hb x hx))
 rw [hd] at h
 refine h.mono ?_
 rintro e w' ⟨v,rfl,hown,hf⟩
 rw [hd] at hown
 obtain ⟨g,cp,rfl,-⟩:=Cg hown (by omega)
 exact ⟨g,cp,rfl,(Dh (CG hG) hown).1.el,hf⟩
structure FM (w:World) (r:Nat) (v0 v1 v2 v3 v4 v5:Value):Prop where
 c0:w.cell? ⟨r,0,none⟩=some v0
 c1:w.cell? ⟨r,1,none⟩=some v1
 c2:w.cell? ⟨r,2,none⟩=some v2
 c3:w.cell? ⟨r,3,none⟩=some v3
 c4:w.cell? ⟨r,4,none⟩=some v4
 c5:w.cell? ⟨r,5,none⟩=some v5
 f0:w.frozen? ⟨r,0,none⟩=false
 f1:w.frozen? ⟨r,1,none⟩=false
 f2:w.frozen? ⟨r,2,none⟩=false
 f3:w.frozen? ⟨r,3,none⟩=false
 f4:w.frozen? ⟨r,4,none⟩=false
 f5:w.frozen? ⟨r,5,none⟩=false
theorem FM.fx {p:Nat→Prop} {w w':World} {r:Nat} {v0 v1 v2 v3 v4 v5:Value} (h:FM w r v0 v1 v2 v3 v4 v5) (k:Fx p w w') (hp:¬ p r):FM w' r v0 v1 v2 v3 v4 v5 :=
 ⟨k.keep h.c0 hp,k.keep h.c1 hp,k.keep h.c2 hp,k.keep h.c3 hp,k.keep h.c4 hp,k.keep h.c5 hp,k.keepf h.c0 h.f0 hp,k.keepf h.c1 h.f1 hp,k.keepf h.c2 h.f2 hp,k.keepf h.c3 h.f3 hp,k.keepf h.c4 h.f4 hp,k.keepf h.c5 h.f5 hp⟩
theorem FM.fr {w w':World} {r:Nat} {v0 v1 v2 v3 v4 v5:Value} (h:FM w r v0 v1 v2 v3 v4 v5) (k:Fr w w'):FM w' r v0 v1 v2 v3 v4 v5:=h.fx (p:=fun _=>False) (Fx.of_fr k) (fun e=>e)
theorem FM.new (w:World) (v0 v1 v2 v3 v4 v5:Value) (t:TypeId):FM (w.alloc (.cells #[v0,v1,v2,v3,v4,v5] t)) w.heap.size v0 v1 v2 v3 v4 v5:=by
 have h:(w.alloc (.cells #[v0,v1,v2,v3,v4,v5] t)).heap[w.heap.size]?=some (.cells #[v0,v1,v2,v3,v4,v5] t (0,0)):=Ct w _
 refine ⟨?_, ?_, ?_, ?_, ?_, ?_, ?_, ?_, ?_, ?_, ?_, ?_⟩ <;> (first | (unfold World.cell?; rw [h]; rfl) | (unfold World.frozen?; rw [h]; rfl))
theorem FM.stored {w:World} {r:Nat} {v0 v1 v2 v3 v4 v5:Value} (h:FM w r v0 v1 v2 v3 v4 v5) (u0 u1 u2 u3 u4 u5:Value) :
 FM ((((((w.setCell ⟨r,0,none⟩ u0).setCell ⟨r,1,none⟩ u1).setCell ⟨r,2,none⟩ u2).setCell ⟨r,3,none⟩ u3).setCell ⟨r,4,none⟩ u4).setCell ⟨r,5,none⟩ u5) r u0 u1 u2 u3 u4 u5:=by
 obtain ⟨c0,c1,c2,c3,c4,c5,f0,f1,f2,f3,f4,f5⟩:=h
 have ne:∀ i j:Nat,i≠j→(⟨r,i,none⟩:Addr)≠⟨r,j,none⟩:=fun i j hij e=>by injection e with _ e; exact hij e
 refine ⟨?_, ?_, ?_, ?_, ?_, ?_, ?_, ?_, ?_, ?_, ?_, ?_⟩
 ·rw [Ad _ _ _ _ (ne 5 0 (by decide)),Ad _ _ _ _ (ne 4 0 (by decide)),Ad _ _ _ _ (ne 3 0 (by decide)),Ad _ _ _ _ (ne 2 0 (by decide)),Ad _ _ _ _ (ne 1 0 (by decide))]
  exact Ar _ _ _ (by rw [c0]; rfl)
 ·rw [Ad _ _ _ _ (ne 5 1 (by decide)),Ad _ _ _ _ (ne 4 1 (by decide)),Ad _ _ _ _ (ne 3 1 (by decide)),Ad _ _ _ _ (ne 2 1 (by decide))]
  exact Ar _ _ _ (by rw [Ad _ _ _ _ (ne 0 1 (by decide)),c1]; rfl)
 ·rw [Ad _ _ _ _ (ne 5 2 (by decide)),Ad _ _ _ _ (ne 4 2 (by decide)),Ad _ _ _ _ (ne 3 2 (by decide))]
  exact Ar _ _ _ (by rw [Ad _ _ _ _ (ne 1 2 (by decide)),Ad _ _ _ _ (ne 0 2 (by decide)),c2]; rfl)
 ·rw [Ad _ _ _ _ (ne 5 3 (by decide)),Ad _ _ _ _ (ne 4 3 (by decide))]
  exact Ar _ _ _ (by rw [Ad _ _ _ _ (ne 2 3 (by decide)),Ad _ _ _ _ (ne 1 3 (by decide)),Ad _ _ _ _ (ne 0 3 (by decide)),c3]; rfl)
 ·rw [Ad _ _ _ _ (ne 5 4 (by decide))]
  exact Ar _ _ _ (by rw [Ad _ _ _ _ (ne 3 4 (by decide)),Ad _ _ _ _ (ne 2 4 (by decide)),Ad _ _ _ _ (ne 1 4 (by decide)),Ad _ _ _ _ (ne 0 4 (by decide)),c4]; rfl)
 ·exact Ar _ _ _ (by rw [Ad _ _ _ _ (ne 4 5 (by decide)),Ad _ _ _ _ (ne 3 5 (by decide)),Ad _ _ _ _ (ne 2 5 (by decide)),Ad _ _ _ _ (ne 1 5 (by decide)),Ad _ _ _ _ (ne 0 5 (by decide)),c5]; rfl)
 all_goals (simp only [Ao]; assumption)
theorem KB (w:World) (r:Nat) (u0 u1 u2 u3 u4 u5:Value):Fx (·=r) w ((((((w.setCell ⟨r,0,none⟩ u0).setCell ⟨r,1,none⟩ u1).setCell ⟨r,2,none⟩ u2).setCell ⟨r,3,none⟩ u3).setCell ⟨r,4,none⟩ u4).setCell ⟨r,5,none⟩ u5) :=
 (((((Fx.setCell (p:=(·=r)) (q:=⟨r,0,none⟩) (Fx.refl _ w) (.inl rfl) u0).setCell (q:=⟨r,1,none⟩) (.inl rfl) u1).setCell (q:=⟨r,2,none⟩) (.inl rfl) u2).setCell (q:=⟨r,3,none⟩) (.inl rfl) u3).setCell (q:=⟨r,4,none⟩) (.inl rfl) u4).setCell (q:=⟨r,5,none⟩) (.inl rfl) u5
def Qr:Value:=.agg #[.bool false,.slice none 0 0,.int .i64 0,.slice none 0 0,.int .i64 0,.slice none 0 0]
def TG (w:World) (d:Nat) (res:Option (List Int)) (e:Ending) (w':World):Prop:=match res with
 | none=>e=.returned (.tuple #[.bool true,Qr,.int .i64 0])∧Fr w w'
 | some x=>∃ g c,e=.returned (.tuple #[.bool false,.agg #[.bool true,.slice (some ⟨g,0,none⟩) d c,.int .i64 0,.slice none 0 0,.int .i64 0,.slice none 0 0],.int .i64 0])∧El w' iv (some ⟨g,0,none⟩) x∧x.length=d∧Fr w w'
theorem Jj (aN aA:Option Addr) (cN cA:Nat) (N A:List Sy) (i:Int) (cs:List Int) (ca:Option Addr) (cc:Nat) (w:World) (hcs:El w iv ca cs) (hl:cs.length≤1000000000) (_hN:N.length≤1000000000) (_hA:A.length≤1000000000) :
 Calls Tryz.prog 78 #[.agg #[.slice aN N.length cN,.slice aA A.length cA],.agg #[.int .i64 i,.slice ca cs.length cc]] w fun e w'=>e=.returned (.int .i64 (Ra N A i cs))∧Fr w w':=by
 have hck:=fun W (hW:Fr w W)=>Ei cs ca cc W (hcs.fr hW) hl
 replace hck:=hZ hck
 clear hcs
 have hf2:Fr w ((w.alloc (.cells #[.slice aN N.length cN,.slice aA A.length cA] 31)).alloc (.cells #[.int .i64 i,.slice ca cs.length cc] 50)):=((Fr.refl w).alloc _).alloc _
 replace hf2:=hZ hf2
 by_cases h1:i < 0
 ·have hfin:=hZ (show Ra N A i cs=10 by unfold Ra; rw [Al (.inl h1)])
  have d1:decide (i < 0)=true:=Ab h1
  go_enter Tryz.func78,Tryz.ntmps78
  go_wp2_with fail
  go_ret
  exact ⟨A7 hfin.out.symm,hf2.out⟩
 ·by_cases h2:(N.length:Int)≤i
  ·have hfin:=hZ (show Ra N A i cs=10 by unfold Ra; rw [Al (.inr h2)])
   have d1:decide (i < 0)=false:=Aa h1
   have d2:decide ((N.length:Int)≤i)=true:=Ab h2
   go_enter Tryz.func78,Tryz.ntmps78
   go_wp2_with fail
   go_ret
   exact ⟨A7 hfin.out.symm,hf2.out⟩
  ·have d1:decide (i < 0)=false:=Aa h1
   have d2:decide ((N.length:Int)≤i)=false:=Aa h2
   by_cases h3:cs.length=A.length
   ·have hfin:=hZ (show Ra N A i cs=CV cs by unfold Ra; rw [Ai (by omega),Ai (by rw [h3]; simp)])
    have q3:((cs.length:Int) != A.length)=false:=by rw [h3]; simp
    replace h3:=hZ h3
    go_enter Tryz.func78,Tryz.ntmps78
    go_wp2_with fail
    refine (hck.out _ hf2.out).mono ?_
    rintro e w3 ⟨rfl,hf3⟩
    go_wp2_with fail
    go_ret
    exact ⟨A7 hfin.out.symm,hf2.out.trans hf3⟩
   ·have hfin:=hZ (show Ra N A i cs=5 by unfold Ra; rw [Ai (by omega),Al h3])
    have q3:((cs.length:Int) != A.length)=true:=by rw [Ba]; omega
    replace h3:=hZ h3
    go_enter Tryz.func78,Tryz.ntmps78
    go_wp2_with fail
    go_ret
    exact ⟨A7 hfin.out.symm,hf2.out⟩
structure WB (RN RA:List (List Int)) (d:Nat) (I:List (List Rat)):Prop where
 d1:1≤d
 d6:d≤6
 lenA:RA.length=d
 n1:1≤RN.length
 n60:RN.length≤60
 rowA:∀ q,q ∈ RA→q.length=d∧∀ x,x ∈ q→Br x=true
 rowN:∀ q,q ∈ RN→q.length=d∧∀ x,x ∈ q→Br x=true
 inv:∃ Fq,C4 (Hl RA) d=some Fq∧Fq.lead.length=d∧Fq.g.map (List.drop d)=I
 rowI:∀ q,q ∈ I→q.length=d
 lenI:I.length=d
theorem L0.nt {RN RA:List (List Int)} {d:Nat} {B:List (List Int)} {I:List (List Rat)} {res:Option (List Int)} (h:L0 RN RA d B I res):WB RN RA d I :=
 ⟨h.d1,h.d6,h.lenA,h.n1,h.n60,h.rowA,h.rowN,h.inv,h.rowI,h.lenI⟩
def WS (I:List (List Rat)) (d:Nat) (x r:List Int):Option (List Int):=E4 I (List.zipWith (· - ·) r x) d
def VI (w:World) (i:Int) (cs:List Int) (d:Nat) (e:Ending) (w':World):Prop:=∃ g c,e=.returned (.tuple #[.agg #[.int .i64 i,.slice (some ⟨g,0,none⟩) d c],.int .i64 0])∧El w' iv (some ⟨g,0,none⟩) cs∧cs.length=d∧Fr w w'
def Jk (w:World) (er:Int) (aN aA:Option Addr) (nN cN nA cA:Nat):Prop :=
 ∀ W,Fr w W→Calls Tryz.prog 25 #[.agg #[.slice aN nN cN,.slice aA nA cA]] W fun e w'=>e=.returned (.int .i64 er)∧Fr W w'
theorem Jk.fr {w w':World} {er:Int} {aN aA:Option Addr} {nN cN nA cA:Nat} (h:Jk w er aN aA nN cN nA cA) (k:Fr w w'):Jk w' er aN aA nN cN nA cA:=fun W hW=>h W (k.trans hW)
theorem RT (er:Int) (aN aA:Option Addr) (nN cN nA cA:Nat) (w:World) (hC:Jk w er aN aA nN cN nA cA) (he:er≠0) :
 Calls Tryz.prog 26 #[.agg #[.slice aN nN cN,.slice aA nA cA]] w fun e w'=>e=.returned (.tuple #[.int .i64 0,.int .i64 er])∧Fr w w':=by
 have d1:(er != 0)=true:=Ba.2 he
 have hfA:Fr w (w.alloc (.cells #[.slice aN nN cN,.slice aA nA cA] 31)):=(Fr.refl w).alloc _
 replace hC:=hZ hC
 replace hfA:=hZ hfA
 replace he:=hZ he
 go_enter Tryz.func26,Tryz.ntmps26
 go_wp2_with fail
 refine (hC.out _ hfA.out).mono ?_
 rintro e w2 ⟨rfl,hf2⟩
 go_wp2_with fail
 go_ret2
 exact ⟨rfl,hfA.out.trans hf2⟩
theorem T0 (er:Int) (aN aA:Option Addr) (nN cN nA cA:Nat) (w:World) (hC:Jk w er aN aA nN cN nA cA) (he:er=0) :
 Calls Tryz.prog 26 #[.agg #[.slice aN nN cN,.slice aA nA cA]] w fun e w'=>e=.returned (.tuple #[.int .i64 nA,.int .i64 0])∧Fr w w':=by
 subst he
 have hC2:=Bl.new w (.slice aN nN cN) (.slice aA nA cA) 31
 have f1:Fr w (w.alloc (.cells #[.slice aN nN cN,.slice aA nA cA] 31)):=(Fr.refl _).alloc _
 have n1:=hC2.b
 replace hC:=hZ hC
 clear hC2
 go_enter Tryz.func26,Tryz.ntmps26
 go_wp2_with fail
 refine (hC.out _ f1).mono ?_
 rintro e w2 ⟨rfl,hf2⟩
 replace n1:=hf2.keep n1
 go_wp2_with fail
 go_ret2
 exact ⟨rfl,f1.trans hf2⟩
theorem Nm (er:Int) (aN aA:Option Addr) (nN cN nA cA:Nat) (w:World) (hC:Jk w er aN aA nN cN nA cA) (he:er≠0) :
 Calls Tryz.prog 27 #[.agg #[.slice aN nN cN,.slice aA nA cA]] w fun e w'=>e=.returned (.tuple #[.string ⟨#[]⟩,.int .i64 er])∧Fr w w':=by
 have d1:(er != 0)=true:=Ba.2 he
 have hfA:Fr w (w.alloc (.cells #[.slice aN nN cN,.slice aA nA cA] 31)):=(Fr.refl w).alloc _
 replace hC:=hZ hC
 replace hfA:=hZ hfA
 replace he:=hZ he
 go_enter Tryz.func27,Tryz.ntmps27
 go_wp2_with fail
 refine (hC.out _ hfA.out).mono ?_
 rintro e w2 ⟨rfl,hf2⟩
 go_wp2_with fail
 go_ret2
 exact ⟨rfl,hfA.out.trans hf2⟩
theorem OL (er:Int) (aN aA:Option Addr) (nN cN nA cA:Nat) (w:World) (hC:Jk w er aN aA nN cN nA cA) (he:er≠0) :
 Calls Tryz.prog 21 #[.agg #[.slice aN nN cN,.slice aA nA cA]] w fun e w'=>e=.returned (.tuple #[.bool false,.agg #[.bool false,.slice none 0 0,.int .i64 0,.slice none 0 0,.int .i64 0,.slice none 0 0],.int .i64 er])∧Fr w w':=by
 have d1:(er != 0)=true:=Ba.2 he
 obtain ⟨nb,hnb⟩:∃ nb,nb=w.heap.size:=⟨_,rfl⟩
 obtain ⟨W1,hW1⟩:∃ W1,W1=(w.alloc (.cells #[.slice aN nN cN,.slice aA nA cA] 31)).alloc (.cells #[.bool false,.slice none 0 0,.int .i64 0,.slice none 0 0,.int .i64 0,.slice none 0 0] 64):=⟨_,rfl⟩
 have f1:Fr w W1:=by rw [hW1]; exact ((Fr.refl _).alloc _).alloc _
 have hN1:Bl W1 nb (.slice aN nN cN) (.slice aA nA cA):=by rw [hW1,hnb]; exact (Bl.new w _ _ _).fr ((Fr.refl _).alloc _)
 have hS1:FM W1 (nb+1) (.bool false) (.slice none 0 0) (.int .i64 0) (.slice none 0 0) (.int .i64 0) (.slice none 0 0):=by
  have:=FM.new (w.alloc (.cells #[.slice aN nN cN,.slice aA nA cA] 31)) (.bool false) (.slice none 0 0) (.int .i64 0) (.slice none 0 0) (.int .i64 0) (.slice none 0 0) 64
  rw [AF] at this
  rw [hW1,hnb]; exact this
 replace hC:=hZ hC
 replace he:=hZ he
 go_enter Tryz.func21,Tryz.ntmps21
 go_upto_region 1 with (fail)
 rw [← hW1,← hnb]
 clear hW1
 replace hnb:=hZ hnb
 have n0:=hN1.a
 have n1':=hN1.b
 replace hN1:=hZ hN1
 replace hS1:=hZ hS1
 go_wp2_with fail
 refine (hC.out _ f1).mono ?_
 rintro e w3 ⟨rfl,hf2⟩
 have hFr:=f1.trans hf2
 have hS9:=hS1.out.fr hf2
 have hfx10:=hZ (KB w3 (nb+1) (.bool false) (.slice none 0 0) (.int .i64 0) (.slice none 0 0) (.int .i64 0) (.slice none 0 0))
 have hW10:=hZ (hS9.stored (.bool false) (.slice none 0 0) (.int .i64 0) (.slice none 0 0) (.int .i64 0) (.slice none 0 0))
 obtain ⟨c0,c1,c2,c3,c4,c5,e0,e1,e2,e3,e4,e5⟩:=hS9
 go_wp2_with fail
 obtain ⟨q0,q1,q2,q3,q4,q5,-⟩:=hW10.out
 refine At (v:=.tuple #[.bool false,.agg #[.bool false,.slice none 0 0,.int .i64 0,.slice none 0 0,.int .i64 0,.slice none 0 0],.int .i64 er]) (by simp [results,Tryz.results21,go_sem,q0,q1,q2,q3,q4,q5]) rfl ?_
 exact ⟨rfl,((Fx.of_fr hFr).trans hfx10.out).toFr (fun k hk e=>by have e:k=nb+1:=e; have:=hnb.out; omega)⟩
theorem PW (er:Int) (aN aA:Option Addr) (nN cN nA cA:Nat) (w:World) (hC:Jk w er aN aA nN cN nA cA) (he:er≠0) (i:Int) (ca:Option Addr) (cl cc:Nat) :
 Calls Tryz.prog 29 #[.agg #[.slice aN nN cN,.slice aA nA cA],.agg #[.int .i64 i,.slice ca cl cc]] w fun e w'=>e=.returned (.tuple #[.slice none 0 0,.int .i64 er])∧Fr w w':=by
 have d1:(er != 0)=true:=Ba.2 he
 have hfA:Fr w ((w.alloc (.cells #[.slice aN nN cN,.slice aA nA cA] 31)).alloc (.cells #[.int .i64 i,.slice ca cl cc] 50)):=((Fr.refl w).alloc _).alloc _
 replace hC:=hZ hC
 replace hfA:=hZ hfA
 replace he:=hZ he
 go_enter Tryz.func29,Tryz.ntmps29
 go_wp2_with fail
 refine (hC.out _ hfA.out).mono ?_
 rintro e w2 ⟨rfl,hf2⟩
 go_wp2_with fail
 go_ret2
 exact ⟨rfl,hfA.out.trans hf2⟩
theorem PU (er:Int) (aN aA:Option Addr) (nN cN nA cA:Nat) (w:World) (hC:Jk w er aN aA nN cN nA cA) (he:er≠0) (i:Int) (ca:Option Addr) (cl cc:Nat) :
 Calls Tryz.prog 31 #[.agg #[.slice aN nN cN,.slice aA nA cA],.agg #[.int .i64 i,.slice ca cl cc]] w fun e w'=>e=.returned (.tuple #[.string ⟨#[]⟩,.int .i64 er])∧Fr w w':=by
 have d1:(er != 0)=true:=Ba.2 he
 have hfA:Fr w ((w.alloc (.cells #[.slice aN nN cN,.slice aA nA cA] 31)).alloc (.cells #[.int .i64 i,.slice ca cl cc] 50)):=((Fr.refl w).alloc _).alloc _
 replace hC:=hZ hC
 replace hfA:=hZ hfA
 replace he:=hZ he
 go_enter Tryz.func31,Tryz.ntmps31
 go_wp2_with fail
 refine (hC.out _ hfA.out).mono ?_
 rintro e w2 ⟨rfl,hf2⟩
 go_wp2_with fail
 go_ret2
 exact ⟨rfl,hfA.out.trans hf2⟩
theorem OM (er:Int) (aN aA:Option Addr) (nN cN nA cA:Nat) (w:World) (hC:Jk w er aN aA nN cN nA cA) (he:er≠0) (ra:Option Addr) (rl rc:Nat) :
 Calls Tryz.prog 30 #[.agg #[.slice aN nN cN,.slice aA nA cA],.slice ra rl rc] w fun e w'=>e=.returned (.tuple #[.agg #[.int .i64 0,.slice none 0 0],.int .i64 er])∧Fr w w':=by
 have d1:(er != 0)=true:=Ba.2 he
 obtain ⟨nb,hnb⟩:∃ nb,nb=w.heap.size:=⟨_,rfl⟩
 obtain ⟨W1,hW1⟩:∃ W1,W1=(w.alloc (.cells #[.slice aN nN cN,.slice aA nA cA] 31)).alloc (.cells #[.int .i64 0,.slice none 0 0] 50):=⟨_,rfl⟩
 have f1:Fr w W1:=by rw [hW1]; exact ((Fr.refl _).alloc _).alloc _
 have hN1:Bl W1 nb (.slice aN nN cN) (.slice aA nA cA):=by rw [hW1,hnb]; exact (Bl.new w _ _ _).fr ((Fr.refl _).alloc _)
 have hS1:Bl W1 (nb+1) (.int .i64 0) (.slice none 0 0):=by
  have:=Bl.new (w.alloc (.cells #[.slice aN nN cN,.slice aA nA cA] 31)) (.int .i64 0) (.slice none 0 0) 50
  rw [AF] at this
  rw [hW1,hnb]; exact this
 replace hC:=hZ hC
 replace he:=hZ he
 go_enter Tryz.func30,Tryz.ntmps30
 go_upto_region 1 with (fail)
 rw [← hW1,← hnb]
 clear hW1
 replace hnb:=hZ hnb
 have n0:=hN1.a
 have n1':=hN1.b
 replace hN1:=hZ hN1
 replace hS1:=hZ hS1
 go_wp2_with fail
 refine (hC.out _ f1).mono ?_
 rintro e w3 ⟨rfl,hf2⟩
 have hFr:=f1.trans hf2
 have hS9:=hS1.out.fr hf2
 have hS10:=hZ ((hS9.set0 (.int .i64 0)).set1 (.slice none 0 0))
 have hfx10:Hid (Fx (·=nb+1) w3 ((w3.setCell ⟨nb+1,0,none⟩ (.int .i64 0)).setCell ⟨nb+1,1,none⟩ (.slice none 0 0))):=Fx.setCell (p:=(·=nb+1)) (q:=⟨nb+1,1,none⟩) (Fx.setCell (p:=(·=nb+1)) (q:=⟨nb+1,0,none⟩) (Fx.refl _ w3) (.inl rfl) _) (.inl rfl) _
 have x1:=(hS9.set0 (.int .i64 0)).b
 have x2:=(hS9.set0 (.int .i64 0)).fb
 obtain ⟨q4,q5,q6,q7⟩:=hS9
 go_wp2_with fail
 have q0:=hS10.out.a
 have q1:=hS10.out.b
 refine At (v:=.tuple #[.agg #[.int .i64 0,.slice none 0 0],.int .i64 er]) (by simp [results,Tryz.results30,go_sem,q0,q1]) rfl ?_
 exact ⟨rfl,((Fx.of_fr hFr).trans hfx10.out).toFr (fun k hk e=>by have e:k=nb+1:=e; have:=hnb.out; omega)⟩
theorem ON (er:Int) (aN aA:Option Addr) (nN cN nA cA:Nat) (w:World) (hC:Jk w er aN aA nN cN nA cA) (he:er≠0) (s:ByteArray) :
 Calls Tryz.prog 32 #[.agg #[.slice aN nN cN,.slice aA nA cA],.string s] w fun e w'=>e=.returned (.tuple #[.agg #[.int .i64 0,.slice none 0 0],.int .i64 er])∧Fr w w':=by
 have d1:(er != 0)=true:=Ba.2 he
 obtain ⟨nb,hnb⟩:∃ nb,nb=w.heap.size:=⟨_,rfl⟩
 obtain ⟨W1,hW1⟩:∃ W1,W1=(w.alloc (.cells #[.slice aN nN cN,.slice aA nA cA] 31)).alloc (.cells #[.int .i64 0,.slice none 0 0] 50):=⟨_,rfl⟩
 have f1:Fr w W1:=by rw [hW1]; exact ((Fr.refl _).alloc _).alloc _
 have hN1:Bl W1 nb (.slice aN nN cN) (.slice aA nA cA):=by rw [hW1,hnb]; exact (Bl.new w _ _ _).fr ((Fr.refl _).alloc _)
 have hS1:Bl W1 (nb+1) (.int .i64 0) (.slice none 0 0):=by
  have:=Bl.new (w.alloc (.cells #[.slice aN nN cN,.slice aA nA cA] 31)) (.int .i64 0) (.slice none 0 0) 50
  rw [AF] at this
  rw [hW1,hnb]; exact this
 replace hC:=hZ hC
 replace he:=hZ he
 go_enter Tryz.func32,Tryz.ntmps32
 go_upto_region 1 with (fail)
 rw [← hW1,← hnb]
 clear hW1
 replace hnb:=hZ hnb
 have n0:=hN1.a
 have n1':=hN1.b
 replace hN1:=hZ hN1
 replace hS1:=hZ hS1
 go_wp2_with fail
 refine (hC.out _ f1).mono ?_
 rintro e w3 ⟨rfl,hf2⟩
 have hFr:=f1.trans hf2
 have hS9:=hS1.out.fr hf2
 have hS10:=hZ ((hS9.set0 (.int .i64 0)).set1 (.slice none 0 0))
 have hfx10:Hid (Fx (·=nb+1) w3 ((w3.setCell ⟨nb+1,0,none⟩ (.int .i64 0)).setCell ⟨nb+1,1,none⟩ (.slice none 0 0))):=Fx.setCell (p:=(·=nb+1)) (q:=⟨nb+1,1,none⟩) (Fx.setCell (p:=(·=nb+1)) (q:=⟨nb+1,0,none⟩) (Fx.refl _ w3) (.inl rfl) _) (.inl rfl) _
 have x1:=(hS9.set0 (.int .i64 0)).b
 have x2:=(hS9.set0 (.int .i64 0)).fb
 obtain ⟨q4,q5,q6,q7⟩:=hS9
 go_wp2_with fail
 have q0:=hS10.out.a
 have q1:=hS10.out.b
 refine At (v:=.tuple #[.agg #[.int .i64 0,.slice none 0 0],.int .i64 er]) (by simp [results,Tryz.results32,go_sem,q0,q1]) rfl ?_
 exact ⟨rfl,((Fx.of_fr hFr).trans hfx10.out).toFr (fun k hk e=>by have e:k=nb+1:=e; have:=hnb.out; omega)⟩
end Go.Proofs.YtcglmebcfeoedaaGreatDoor
