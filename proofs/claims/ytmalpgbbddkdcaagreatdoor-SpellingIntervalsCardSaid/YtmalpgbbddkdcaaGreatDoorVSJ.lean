/- Contracts and laws: VSJ. -/
import Derived.Test.YtmalpgbbddkdcaaGreatDoorVSI
import Derived.Test.YtmalpgbbddkdcaaGreatDoorVSH

set_option maxRecDepth 100000
set_option maxHeartbeats 4000000
namespace Go.Proofs.YtmalpgbbddkdcaaGreatDoor
open Go.RowKit Go.Lib
attribute [local go_sem ↓] Go.wp_at_zero Go.wp_at_succ
def exN:List (ByteArray×List Int):=[(⟨#[65]⟩,[0]),(⟨#[66]⟩,[2])]
def exA:List (ByteArray×List Int):=[(⟨#[35]⟩,[1]),(⟨#[98]⟩,[-1])]
theorem dis_of {L:List (ByteArray×List Int)} (f:ByteArray×List Int→Nat) (hf:∀ x y,x.1=y.1→f x=f y) (h:(L.map f).Nodup):∀ (i j:Nat) (x y:ByteArray×List Int),L[i]?=some x→L[j]?=some y→i < j→x.1≠y.1:=fun i j x y hx hy hij e=>by
 have e2:(L.map f)[i]?=(L.map f)[j]?:=by rw [List.getElem?_map,List.getElem?_map,hx,hy]; simp only [Option.map_some]; rw [hf x y e]
 have:=(List.getElem?_inj (by rw [List.length_map]; exact (List.getElem?_eq_some_iff.1 hx).1) h).1 e2
 omega
theorem ex_ok:NotOkP 1 exN exA :=
 ⟨by decide,by decide,by decide,by decide,by decide,by decide,by decide,dis_of (fun x=>(x.1.data[0]!).toNat) (fun x y e=>by simp only [e]) (by decide)⟩
theorem ex_all:allR [[0],[2]] [[1],[-1]] [1] 1=[(0,[0,-1]),(0,[1,0]),(1,[-1,0]),(1,[0,1])]:=(sortS_eq (by decide +kernel) (by decide +kernel)).symm
theorem ex_enh:(allR [[0],[2]] [[1],[-1]] [0] 1).filter (fun t=>!decide (ordS (stI (0,[0,0])) (stI t)=0))=[(0,[-1,-1]),(0,[1,1]),(1,[-1,1])]:=by
 have e:allR [[0],[2]] [[1],[-1]] [0] 1=[(0,[0,0]),(0,[-1,-1]),(0,[1,1]),(1,[-1,1])]:=(sortS_eq (by decide +kernel) (by decide +kernel)).symm
 rw [e]
 decide +kernel
theorem ex_ker:kerS 20 1 [[1],[-1]]=some [[1,1]]:=by decide +kernel
theorem El.two {W:World} {b:Nat} {x y:Int} {t:TypeId} (h:W.heap[b]?=some (.cells #[.int .i64 x,.int .i64 y] t (0,0))):El W iv (some ⟨b,0,none⟩) [x,y] :=
 .inr ⟨b,0,rfl,lt_of_heap h,fun i z hz=>by
  match i,hz with
  | 0,hz=>simp at hz; subst hz; rw [cells_of h]; rfl
  | 1,hz=>simp at hz; subst hz; rw [cells_of h]; rfl
  | i+2,hz=>simp at hz⟩
theorem BXs.get {w:World} {b o:Nat} {xs:List BX} (h:BXs w (some ⟨b,o,none⟩) xs) {k i:Nat} {cs:List Int} (hk:(xs.map stripX)[k]?=some (i,cs)) :
 ∃ g c,w.cell? ⟨b,o+k * 2,none⟩=some (.int .i64 i)∧w.cell? ⟨b,o+k * 2+1,none⟩=some (.slice (some ⟨g,0,none⟩) cs.length c)∧El w iv (some ⟨g,0,none⟩) cs:=by
 rw [List.getElem?_map] at hk
 cases e:xs[k]? with
 | none=>rw [e] at hk; simp at hk
 | some x=>
   rw [e] at hk
   injection hk with hk
   injection hk with h1 h2
   subst h1; subst h2
   obtain ⟨b',o',y,ha,-,hy,c1,c2,c3⟩:=h.at (i:=k) (List.getElem?_eq_some_iff.1 e).1
   injection ha with ha; injection ha with e1 e2
   subst e1; subst e2
   rw [e] at hy
   injection hy with hy
   subst hy
   exact ⟨x.g,x.c,c1,c2,c3⟩
theorem BXs.addr {w:World} {a:Option Addr} {xs:List BX} (h:BXs w a xs) (hx:0 < xs.length):∃ b o,a=some ⟨b,o,none⟩:=by
 obtain ⟨b,o,x,ha,_⟩:=h.at (i:=0) hx
 exact ⟨b,o,ha⟩
theorem Eq2 (x y:Int) (a:Option Addr) (c:Nat) (W:World) (h:El W iv a [x,y]):Calls Tryz.prog 67 #[.slice a 2 c,.slice (some ⟨W.heap.size,0,none⟩) 2 2] (W.alloc (.cells #[.int .i64 x,.int .i64 y] 3)) fun e w'=>e=.returned (.bool true)∧Fr W w':=by
 have:=Equal_row [x,y] [x,y] a (some ⟨W.heap.size,0,none⟩) c 2 (W.alloc (.cells #[.int .i64 x,.int .i64 y] 3)) (h.fr ((Fr.refl W).alloc _)) (El.two (heap_alloc_new W _)) (by simp) (by simp)
 refine this.mono fun e w' h=>⟨?_,((Fr.refl W).alloc _).trans h.2⟩
 rw [h.1,decide_eq_true rfl]
theorem known_any (w:World) (hG:G w):Calls Tryz.prog 27 #[] w fun e w'=>e=.returned (.bool true)∧Fr w w':=by
 have hex:=example_any w
 replace hG:=hZ hG
 replace hex:=hZ hex
 go_enter Tryz.func27,Tryz.ntmps27
 go_wp2_with fail
 refine hex.out.mono ?_
 rintro e w1 ⟨aN,aA,cN,cA,N,A,rfl,hn,hN,hA,hf1⟩
 clear hex
 have hok:=ex_ok.ok hN hA
 have hNl:N.length=2:=by have:=congrArg List.length hN; simpa using this
 have hAl:A.length=2:=by have:=congrArg List.length hA; simpa using this
 have hNr:N.map Sy.row=[[0],[2]]:=by rw [row_plain,hN]; rfl
 have hAr:A.map Sy.row=[[1],[-1]]:=by rw [row_plain,hA]; rfl
 have hfb:Fr w1 (w1.alloc (.cells #[.slice aN N.length cN,.slice aA A.length cA] 72)):=(Fr.refl w1).alloc _
 have n1:=(new2a w1 (.slice aN N.length cN) (.slice aA A.length cA) 72).1
 have n2:=(new2b w1 (.slice aN N.length cN) (.slice aA A.length cA) 72).1
 have hall:=fun W (hW:Fr w1 W)=>All_any 1 aN aA cN cA N A [1] (some ⟨W.heap.size,0,none⟩) 1 1 (W.alloc (.cells #[.int .i64 1] 3)) (hn.fr (hW.alloc _)) hok (by decide) (El.one (heap_alloc_new W _)) (by simp) (by intro; decide)
 rw [show allE9 1 N.length A.length [1] 1=0 by rw [hNl,hAl]; decide,allL_R,hNr,hAr,show (1:Int).toNat=1 by rfl,ex_all] at hall
 have hrel:=fun W (hW:Fr w1 W)=>Relations_one 1 20 aN aA cN cA N A 1 [1] W (hG.out.fr (hf1.trans hW)) (hn.fr hW) hok (by decide) (by omega) (by rw [hAr]; exact ex_ker) (by decide) (by rw [hAl]; rfl) (by decide)
 have henh:=fun W (hW:Fr w1 W)=>Enharmonic_any 1 aN aA cN cA N A ⟨0,[0,0],some ⟨W.heap.size,0,none⟩,2⟩ 1 (W.alloc (.cells #[.int .i64 0,.int .i64 0] 3)) (hn.fr (hW.alloc _)) hok (by decide) (El.two (heap_alloc_new W _)) (by simp) (by intro; decide)
 have hel:enhL N A (0,[0,0]) 1=[(0,[-1,-1]),(0,[1,1]),(1,[-1,1])]:=by
  unfold enhL
  rw [allL_R,sumS_R,hNr,hAr]
  exact ex_enh
 have hee:enhE N A 0 [0,0] 1=0:=by
  unfold enhE
  rw [show spE N A 0 [0,0]=0 from spE_ok (i:=0) (by omega) (by rw [hAl]; rfl) (by decide) (by decide),hNl,hAl]; decide
 simp only [show (0:Int).toNat=0 from rfl,show (1:Int).toNat=1 from rfl,hel,hee] at henh
 simp only [List.length_cons,List.length_nil,Nat.zero_add,Nat.reduceAdd] at hall hrel henh
 generalize N.length=nN at *
 generalize A.length=nA at *
 replace hall:=hZ hall
 replace hrel:=hZ hrel
 replace henh:=hZ henh
 clear hn hN hA hok hNl hAl hNr hAr hel hee
 have h1:=hall.out _ hfb
 rw [show (w1.alloc (.cells #[.slice aN nN cN,.slice aA nA cA] 72)).heap.size=w1.heap.size+1 by simp] at h1
 replace h1:=hZ h1
 replace hfb:=hZ hfb
 replace n1:=hZ n1
 replace n2:=hZ n2
 clear hall
 go_wp2_with fail
 refine h1.out.mono ?_
 rintro e w2 ⟨hr,-,hf2⟩
 obtain ⟨al,cl,xs,rfl,hown,hxs⟩:=hr rfl
 have hl4:xs.length=4:=by have:=congrArg List.length hxs; simpa using this
 have hbx:=hown.bxs
 obtain ⟨lb,lo,rfl⟩:=hbx.addr (by omega)
 rw [hl4]
 have hf2':Fr (w1.alloc (.cells #[.slice aN nN cN,.slice aA nA cA] 72)) w2:=((Fr.refl _).alloc _).trans hf2
 have hf12:Fr w1 w2:=hfb.out.trans hf2'
 have m1:=hf2'.keep n1.out
 have m2:=hf2'.keep n2.out
 replace hbx:=hZ hbx
 replace hxs:=hZ hxs
 clear hr hown h1 hl4 hf2 hf2' hfb n1 n2
 have h2:=hZ (hrel.out w2 hf12)
 clear hrel
 go_wp2_with fail
 refine h2.out.mono ?_
 rintro e w3 ⟨am,cm,rfl,hm,hf3⟩
 have m3:=hf3.keep m1
 have m4:=hf3.keep m2
 replace hm:=hZ hm
 have h3:=hZ (henh.out w3 (hf12.trans hf3))
 clear henh h2 m1 m2
 rw [show ([[(1:Int),1]]:List (List Int)).length=1 from rfl]
 go_wp2_with fail
 refine h3.out.mono ?_
 rintro e w4 ⟨hr,-,hf4⟩
 obtain ⟨ae,ce,es,rfl,hpe,hee,hes⟩:=hr rfl
 have hl3:es.length=3:=by have:=congrArg List.length hes; simpa using this
 have hbe:BXs w4 ae es:=⟨hpe,hee⟩
 obtain ⟨eb,eo,rfl⟩:=hbe.addr (by omega)
 rw [hl3]
 have hf34:Fr w3 w4:=((Fr.refl _).alloc _).trans hf4
 have hb4:=hbx.out.fr (hf3.trans hf34)
 obtain ⟨gA,kA,-,a1,aE⟩:=hb4.get (k:=0) (i:=0) (cs:=[0,-1]) (by rw [hxs.out]; rfl)
 obtain ⟨gC,kC,c0,-,-⟩:=hb4.get (k:=2) (i:=1) (cs:=[-1,0]) (by rw [hxs.out]; rfl)
 obtain ⟨gD,kD,-,d1,dE⟩:=hb4.get (k:=3) (i:=1) (cs:=[0,1]) (by rw [hxs.out]; rfl)
 obtain ⟨gE,kE,e0,-,-⟩:=hbe.get (k:=2) (i:=1) (cs:=[-1,1]) (by rw [hes]; rfl)
 obtain ⟨mb,mo,ma,mc,rfl,mcell,mE⟩:=(hm.out.fr hf34).at (i:=0) (by decide)
 have hfw:Fr w w4:=hf1.trans ((hf12.trans hf3).trans hf34)
 rw [Nat.zero_mul,Nat.add_zero] at a1
 rw [Nat.add_zero] at mcell
 simp only [Nat.reduceMul,List.length_cons,List.length_nil,Nat.zero_add,Nat.reduceAdd] at a1 c0 d1 e0
 have mcell:w4.cell? ⟨mb,mo,none⟩=some (.slice ma 2 mc):=mcell
 have mE:El w4 iv ma [1,1]:=mE
 have q1:=hZ (Eq2 0 (-1) (some ⟨gA,0,none⟩) kA w4 aE)
 replace aE:=hZ aE
 replace dE:=hZ dE
 replace mE:=hZ mE
 clear hr hpe hee hes hl3 hbe hf4 hb4 h3 hm hbx hxs hf3 hf12 hf1 m3 m4
 go_wp2_with fail
 refine q1.out.mono ?_
 rintro e w5 ⟨rfl,hf5⟩
 replace c0:=hf5.keep c0
 replace d1:=hf5.keep d1
 replace e0:=hf5.keep e0
 replace mcell:=hf5.keep mcell
 have q2:=hZ (Eq2 0 1 (some ⟨gD,0,none⟩) kD w5 (dE.out.fr hf5))
 clear q1
 go_wp2_with fail
 refine q2.out.mono ?_
 rintro e w6 ⟨rfl,hf6⟩
 replace e0:=hf6.keep e0
 replace mcell:=hf6.keep mcell
 have q3:=hZ (Eq2 1 1 ma mc w6 (mE.out.fr (hf5.trans hf6)))
 clear q2
 go_wp2_with fail
 refine q3.out.mono ?_
 rintro e w7 ⟨rfl,hf7⟩
 replace e0:=hf7.keep e0
 go_wp2_with fail
 go_ret
 exact ⟨rfl,hfw.trans ((hf5.trans hf6).trans hf7)⟩

end Go.Proofs.YtmalpgbbddkdcaaGreatDoor
