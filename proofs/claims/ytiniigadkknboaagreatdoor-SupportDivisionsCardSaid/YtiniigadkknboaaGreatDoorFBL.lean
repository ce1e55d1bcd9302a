/- Contracts and laws: FBL. -/
import Derived.Test.YtiniigadkknboaaGreatDoorFBJ
import Derived.Test.YtiniigadkknboaaGreatDoorFBK
import Derived.Test.YtiniigadkknboaaGreatDoorFAG
import Derived.IntWalk
import Derived.Test.YtiniigadkknboaaGreatDoorFBD

set_option maxRecDepth 100000
set_option maxHeartbeats 1600000
namespace Go.Proofs.YtiniigadkknboaaGreatDoor
open Go.RowKit Go.Lib
attribute [local go_sem ↓] Go.wp_at_zero Go.wp_at_succ
theorem Ig (w:World) (xs:List Int) (cs:Array Value) (h:cs=(xs.map iv).toArray):El (w.alloc (.cells cs 3)) iv (some ⟨w.heap.size,0,none⟩) xs:=by
 subst h
 refine .inr ⟨w.heap.size,0,rfl,by simp,fun i x hx=>?_⟩
 rw [AU,AH (CJ w _)]
 simp [hx]
theorem Io (w:World) (hG:G w) (hE:Jd w) :
 Calls Tryz.prog 11 #[] w fun e w'=>e=.returned (.bool true)∧Fr w w':=by
 obtain ⟨wa,hwa⟩:∃ wa,wa=w.alloc (.cells #[.int .i64 2,.int .i64 3,.int .i64 5] 3):=⟨_,rfl⟩
 have hfa:Fr w wa:=by rw [hwa]; exact (Fr.refl _).alloc _
 have hPa:El wa iv (some ⟨w.heap.size,0,none⟩) [2,3,5]:=by rw [hwa]; exact Ig w _ _ rfl
 have hdv:=IY 2 [3,5] (some ⟨w.heap.size,0,none⟩) 3 12 19 wa (hG.fr hfa) (hE.fr hfa) Rx (by decide) hPa (.inr ⟨by decide,Ry 12 (by decide) (by decide)⟩) (.inr ⟨by decide,Ry 19 (by decide) (by decide)⟩)
 rw [show S2 (2 :: [3,5]) 12 19=0 from ZK,show jA (2 :: [3,5]) (BI (2 :: [3,5]) 12) (BI (2 :: [3,5]) 19)=F0 from X8,show jS (2 :: [3,5]) (BI (2 :: [3,5]) 12) (BI (2 :: [3,5]) 19)=G5 from X6] at hdv
 unfold OT at hdv
 rw [show ([3,5]:List Int).length+1=3 from rfl,show (2 :: [3,5]:List Int).length=3 from rfl,show F0.length=1 from rfl,show G5.length=2 from rfl] at hdv
 replace hdv:=hZ hdv
 have hG1:=hZ (fun W (hW:Fr w W)=>hG.fr hW)
 have hE1:=hZ (fun W (hW:Fr w W)=>hE.fr hW)
 clear hG hE hPa
 go_enter Tryz.func11,Tryz.ntmps11
 go_wp2_with fail
 rw [← hwa]
 clear hwa
 refine hdv.out.mono ?_
 rintro e w1 ⟨hf1,hok,-⟩
 obtain ⟨pa,pc,ca,cc,ma,mc,rfl,hel,hmc,hmm,hcc,hcm⟩:=hok trivial
 clear hok hdv
 obtain ⟨w2,hw2⟩:∃ w2,w2=w1.alloc (.cells #[.slice pa 3 pc,.slice ca 1 cc,.slice ma 2 mc] 29):=⟨_,rfl⟩
 have hf2:Fr w1 w2:=by rw [hw2]; exact (Fr.refl _).alloc _
 have hT:=C3.new w1 (.slice pa 3 pc) (.slice ca 1 cc) (.slice ma 2 mc) 29
 rw [← hw2] at hT
 obtain ⟨tb,htb⟩:∃ tb,tb=w1.heap.size:=⟨_,rfl⟩
 rw [← htb] at hT
 have hfw:=(hfa.trans hf1).trans hf2
 have htm:OS w2 pa ca ma pc cc mc EY F0 G5 0:=OS.of (hG1.out _ hfw) ((hel w1 (Fx.refl _ _)).fr hf2) ((hmc w1 (Fx.refl _ _)).fr hf2) ((hmm w1 (Fx.refl _ _)).fr hf2) hcc P2
 have hpt:=QB pa ca ma pc cc mc 2 [3,5] F0 G5 0 31 w2 htm (fun _=>⟨Rx,htm.p,htm.c,P2.tabC.2.2.1,P2.tabC.1,P2.tabC.2.2.2,by decide,fun k h1 h2=>Ry k h1 h2⟩) (hG1.out _ hfw)
 rw [show Oq 0 31=0 from rfl,show K7 F0 (2 :: [3,5]) (31:Int).toNat=[5,7,12,19,24,26,31] from YO,show ([3,5]:List Int).length+1=3 from rfl,show F0.length=1 from rfl,show G5.length=2 from rfl] at hpt
 unfold Wu at hpt
 rw [show ([5,7,12,19,24,26,31]:List Int).length=7 from rfl] at hpt
 have b0:=hT.a
 have b1:=hT.b
 have b2:=hT.c
 replace hpt:=hZ hpt
 replace htm:=hZ htm
 replace hcm:=hZ hcm
 clear hT hel hmc hmm hcc
 go_upto_region 3 with (fail)
 rw [← hw2,← htb]
 clear hw2
 replace htb:=hZ htb
 go_wp2_with fail
 refine hpt.out.mono ?_
 rintro e w3 ⟨hf3,-,hok⟩
 obtain ⟨la,lc,rfl,hla⟩:=hok trivial
 clear hok hpt
 replace b0:=hf3.keep b0
 replace b1:=hf3.keep b1
 replace b2:=hf3.keep b2
 replace hla:=hZ hla
 have hfw3:=hfw.trans hf3
 obtain ⟨w4,hw4⟩:∃ w4,w4=w3.alloc (.cells #[.int .i64 12,.int .i64 19,.int .i64 28] 3):=⟨_,rfl⟩
 have hf4:Fr w3 w4:=by rw [hw4]; exact (Fr.refl _).alloc _
 have hv4:El w4 iv (some ⟨w3.heap.size,0,none⟩) [12,19,28]:=by rw [hw4]; exact Ig w3 _ _ rfl
 have hco:=MI pa ca ma pc cc mc EY F0 G5 0 [12,19,28] ([0,0,0],[12,19]) (some ⟨w3.heap.size,0,none⟩) 3 w4 (htm.out.fr (hf3.trans hf4)) hv4 (by decide) (hG1.out _ (hfw3.trans hf4)) (hE1.out _ (hfw3.trans hf4)) (fun _=>⟨P2.tabM,hcm.out,by decide,Xu,fun x hx=>by
  have h9:Wd x:=by simp at hx; rcases hx with rfl | rfl <;> exact Wd.of40 (by decide)
  have:=h9.size; omega⟩)
 have hs0:sE 0 EY [12,19,28]=0:=by
  unfold sE; rw [Ae (by decide)]; exact Ov.1
 rw [hs0,Ow.1,show EY.length=3 from rfl,show F0.length=1 from rfl,show G5.length=2 from rfl,show ([12,19,28]:List Int).length=3 from rfl] at hco
 unfold RO at hco
 rw [show (([0,0,0],[12,19]):List Int×List Int).2.length=2 from rfl] at hco
 replace hco:=hZ hco
 clear hs0 hv4
 go_wp2_with fail
 rw [← hw4]
 clear hw4
 refine hco.out.mono ?_
 rintro e w5 ⟨hf5,-,-,-,-,hok⟩
 obtain ⟨ka,kc,rfl,hka⟩:=hok trivial trivial rfl rfl
 clear hok hco
 replace hka:=hZ hka
 have hf35:=hf4.trans hf5
 have hfw5:=hfw3.trans hf35
 replace b0:=hf35.keep b0
 replace b1:=hf35.keep b1
 replace b2:=hf35.keep b2
 obtain ⟨w6,hw6⟩:∃ w6,w6=(w5.alloc (.cells #[.int .i64 5,.int .i64 8,.int .i64 12] 3)).alloc (.cells #[.int .i64 7,.int .i64 11,.int .i64 16] 3):=⟨_,rfl⟩
 have hf6:Fr w5 w6:=by rw [hw6]; exact ((Fr.refl _).alloc _).alloc _
 have hv6:El w6 iv (some ⟨w5.heap.size,0,none⟩) [5,8,12]:=by rw [hw6]; exact (Ig w5 [5,8,12] _ rfl).fr ((Fr.refl _).alloc _)
 have hu6:El w6 iv (some ⟨w5.heap.size+1,0,none⟩) [7,11,16]:=by
  have:=Ig (w5.alloc (.cells #[.int .i64 5,.int .i64 8,.int .i64 12] 3)) [7,11,16] _ rfl
  rw [AC] at this
  rw [hw6]; exact this
 have hch:=UE pa ca ma pc cc mc EY F0 G5 0 [5,8,12] [7,11,16] (some ⟨w5.heap.size,0,none⟩) (some ⟨w5.heap.size+1,0,none⟩) 3 3 5 w6 (htm.out.fr ((hf3.trans hf35).trans hf6)) hv6 hu6 (by decide) (by decide) (hG1.out _ (hfw5.trans hf6))
 have hs0:HM 0 EY [[5,8,12],[7,11,16]]=0:=by
  unfold HM
  rw [Ae (by decide)]
  show Fl [DU EY [5,8,12],DU EY [7,11,16]]=0
  rw [Ov.2.1,Ov.2.2]; rfl
 rw [hs0,Ow.2.1,Ow.2.2,show Z9 0 true true 5=0 from rfl,show QW [5,8,12] [7,11,16] ((5:Int).toNat - 2)=_ from YP,show EY.length=3 from rfl,show F0.length=1 from rfl,show G5.length=2 from rfl,show ([5,8,12]:List Int).length=3 from rfl,show ([7,11,16]:List Int).length=3 from rfl] at hch
 unfold J6 at hch
 replace hch:=hZ hch
 clear hs0 hv6 hu6
 go_wp2_with fail
 rw [← hw6]
 clear hw6
 refine hch.out.mono ?_
 rintro e w7 ⟨hf7,-,-,hok⟩
 obtain ⟨da,dc,rfl,hda⟩:=hok trivial _ rfl
 clear hok hch
 have hf57:=hf6.trans hf7
 replace b1:=hf57.keep b1
 clear b0 b2
 have hfw7:=hfw5.trans hf57
 have hda2:A2 w7 da [[5,8,12],[7,11,16],[12,19,28],[19,30,44],[31,49,72]]:=hda
 obtain ⟨db,dq,ra,rc,rfl,hdc,hde⟩:=hda2.at (i:=4) (by decide)
 replace hdc:w7.cell? ⟨db,dq+4,none⟩=some (.slice ra 3 rc):=hdc
 replace hde:El w7 iv ra [31,49,72]:=hde
 replace hde:=hZ hde
 clear hda hda2
 have hC7:=htm.out.c.fr ((hf3.trans hf35).trans hf57)
 obtain ⟨w8,hw8⟩:∃ w8,w8=(w7.alloc (.cells #[.int .i64 4,.int .i64 (-4),.int .i64 1] 3)).alloc (.cells #[.slice (some ⟨w7.heap.size,0,none⟩) 3 3] 33):=⟨_,rfl⟩
 have hf8:Fr w7 w8:=by rw [hw8]; exact ((Fr.refl _).alloc _).alloc _
 have hm8:A2 w8 (some ⟨w7.heap.size+1,0,none⟩) F0:=by
  have:=OX (w7.alloc (.cells #[.int .i64 4,.int .i64 (-4),.int .i64 1] 3)) (some ⟨w7.heap.size,0,none⟩) [4,-4,1] 3 (Ig w7 [4,-4,1] _ rfl)
  rw [AC] at this
  rw [hw8]; exact this
 have heq:=O1 F0 ca (some ⟨w7.heap.size+1,0,none⟩) cc 1 w8 (hC7.fr hf8) hm8 (by decide) (by decide)
 rw [show F0.length=1 from rfl] at heq
 replace heq:=hZ heq
 clear hC7 hm8 htm hcm
 go_wp2_with fail
 rw [← hw8]
 clear hw8
 refine heq.out.mono ?_
 rintro e w9 ⟨rfl,hf9⟩
 have hf39:=(hf35.trans hf57).trans (hf8.trans hf9)
 obtain ⟨wA,hwA⟩:∃ wA,wA=w9.alloc (.cells #[.int .i64 5,.int .i64 7,.int .i64 12,.int .i64 19,.int .i64 24,.int .i64 26,.int .i64 31] 3):=⟨_,rfl⟩
 have hfA:Fr w9 wA:=by rw [hwA]; exact (Fr.refl _).alloc _
 have hvA:El wA iv (some ⟨w9.heap.size,0,none⟩) [5,7,12,19,24,26,31]:=by rw [hwA]; exact Ig w9 _ _ rfl
 have hsi:=TH [5,7,12,19,24,26,31] [5,7,12,19,24,26,31] la (some ⟨w9.heap.size,0,none⟩) lc 7 wA (hla.out.fr (hf39.trans hfA)) hvA (by decide) (by decide)
 rw [Ab rfl,show ([5,7,12,19,24,26,31]:List Int).length=7 from rfl] at hsi
 replace hsi:=hZ hsi
 clear hvA heq hla
 go_wp2_with fail
 rw [← hwA]
 clear hwA
 refine hsi.out.mono ?_
 rintro e wB ⟨rfl,hfB⟩
 have hf5B:=((hf57.trans (hf8.trans hf9)).trans hfA).trans hfB
 obtain ⟨wC,hwC⟩:∃ wC,wC=wB.alloc (.cells #[.int .i64 12,.int .i64 19] 3):=⟨_,rfl⟩
 have hfC:Fr wB wC:=by rw [hwC]; exact (Fr.refl _).alloc _
 have hvC:El wC iv (some ⟨wB.heap.size,0,none⟩) [12,19]:=by rw [hwC]; exact Ig wB _ _ rfl
 have hrw:=EO [12,19] [12,19] ka (some ⟨wB.heap.size,0,none⟩) kc 2 wC (hka.out.fr (hf5B.trans hfC)) hvC (by decide) (by decide)
 rw [Ab rfl,show ([12,19]:List Int).length=2 from rfl] at hrw
 replace hrw:=hZ hrw
 clear hvC hsi hka
 go_wp2_with fail
 rw [← hwC]
 clear hwC
 refine hrw.out.mono ?_
 rintro e wD ⟨rfl,hfD⟩
 have hf7D:=(((hf8.trans hf9).trans hfA).trans hfB).trans (hfC.trans hfD)
 replace hdc:=hf7D.keep hdc
 obtain ⟨wE,hwE⟩:∃ wE,wE=wD.alloc (.cells #[.int .i64 31,.int .i64 49,.int .i64 72] 3):=⟨_,rfl⟩
 have hfE:Fr wD wE:=by rw [hwE]; exact (Fr.refl _).alloc _
 have hvE:El wE iv (some ⟨wD.heap.size,0,none⟩) [31,49,72]:=by rw [hwE]; exact Ig wD _ _ rfl
 have hre:=EO [31,49,72] [31,49,72] ra (some ⟨wD.heap.size,0,none⟩) rc 3 wE (hde.out.fr (hf7D.trans hfE)) hvE (by decide) (by decide)
 rw [Ab rfl,show ([31,49,72]:List Int).length=3 from rfl] at hre
 replace hre:=hZ hre
 clear hvE hrw hde
 go_wp2_with fail
 rw [← hwE]
 clear hwE
 refine hre.out.mono ?_
 rintro e wF ⟨rfl,hfF⟩
 go_wp2_with fail
 go_ret
 exact ⟨rfl,(hfw7.trans hf7D).trans (hfE.trans hfF)⟩
theorem SY {w0 W W':World} {a:Option Addr} {xs:List Int} {g:Nat} (h:El w0 iv a xs) (hf:Fr w0 W) (k:Fx (·=g) W W') (hg:w0.heap.size≤g):El W' iv a xs:=by
 rcases h with h | ⟨b,o,ha,hb,hc⟩
 ·exact .inl h
 ·have hb2:=An hb hf.size
  exact .inr ⟨b,o,ha,An hb2 k.size,fun i x hx=>k.keep (hf.keep (hc i x hx)) (fun e=>by have e:b=g:=e; omega)⟩
def RM (M:List (List Int)) (c:List Int) (k:Nat):Nat→Int
 | 0=>0
 | i+1=>RM M c k i+(c[i % 4]?).getD 0 * Aw M i k
def K9 (M:List (List Int)) (c:List Int) (n:Nat):List Int:=(List.range n).map fun k=>RM M c k M.length
def IJ (M:List (List Int)) (c:List Int) (n i j:Nat):List Int:=(List.range n).map fun k=>if k < j then RM M c k (i+1) else RM M c k i
theorem HW (M:List (List Int)) (c:List Int) (n i j:Nat):(IJ M c n i j).length=n:=by unfold IJ; rw [AE,BX]
theorem Jl {M:List (List Int)} {c:List Int} {n i j k:Nat} (hk:k < n):(IJ M c n i j)[k]?=some (if k < j then RM M c k (i+1) else RM M c k i):=by
 unfold IJ; rw [Au,List.getElem?_range hk]; rfl
theorem UN {M:List (List Int)} {c:List Int} {n i j:Nat} (hj:j < n):(IJ M c n i j).set j (RM M c j (i+1))=IJ M c n i (j+1):=by
 refine C4 fun k=>?_
 by_cases hk:k < n
 ·rw [BZ,Jl hk,HW,Jl hk]
  by_cases e:j=k
  ·subst e; rw [Ai rfl,Ai hj,Ai (by omega)]
  ·rw [Ae e]
   by_cases h:k < j
   ·rw [Ai h,Ai (by omega)]
   ·rw [Ae h,Ae (by omega)]
 ·rw [AG (by rw [A4,HW]; omega),AG (by rw [HW]; omega)]
theorem Ts {M:List (List Int)} {c:List Int} {n i:Nat}:IJ M c n i n=IJ M c n (i+1) 0:=by
 unfold IJ
 refine QU fun k hk=>?_
 rw [Ai (Cn.1 hk),Ae (A3 _)]
theorem Tr {M:List (List Int)} {c:List Int} {n:Nat}:IJ M c n 0 0=List.replicate n 0:=by
 refine C4 fun k=>?_
 by_cases hk:k < n
 ·rw [Jl hk,BQ,Ai hk,Ae (A3 _)]; rfl
 ·rw [AG (by rw [HW]; omega),AG (by rw [AO]; omega)]
theorem UO {M:List (List Int)} {c:List Int} {n:Nat}:IJ M c n M.length 0=K9 M c n:=by
 unfold IJ K9
 exact QU fun k hk=>by rw [Ae (A3 _)]
theorem Ye {c:List Int} (hc:∀ x,x ∈ c→-128≤x∧x≤127) (i:Nat):((c[i]?).getD 0).natAbs≤128:=by
 cases e:c[i]? with
 | none=>simp
 | some x=>have:=hc x (Af e); rw [Bm]; omega
theorem Yd {x y:Int} (hx:x.natAbs≤128) (hy:y.natAbs≤1000000000):(x * y).natAbs≤128000000000:=by
 have:=Az hx hy
 rwa [← AZ] at this
theorem Wk {M:List (List Int)} {c:List Int} (hc:∀ x,x ∈ c→-128≤x∧x≤127) (hM:∀ i k,(Aw M i k).natAbs≤1000000000) (k:Nat):∀ i,(RM M c k i).natAbs≤i * 128000000000
 | 0=>by show (0:Int).natAbs≤_; simp
 | i+1=>by
   have h1:=Wk hc hM k i
   have h2:=Yd (Ye hc (i % 4)) (hM i k)
   show (RM M c k i+(c[i % 4]?).getD 0 * Aw M i k).natAbs≤_
   rw [EK,D7]
   omega
theorem LR (M:List (List Int)) (v0 v1 v2 v3:Int) (n:Nat) (aP aC aM:Option Addr) (cP nC cC cM:Nat) (w:World) (hG:G w) (hM:A2 w aM M) (hT:DR n M) (hc:∀ x,x ∈ [v0,v1,v2,v3]→-128≤x∧x≤127) (hn1:1≤n) :
 Calls Tryz.prog 21 #[.agg #[.slice aP n cP,.slice aC nC cC,.slice aM M.length cM],.agg #[.int .i8 v0,.int .i8 v1,.int .i8 v2,.int .i8 v3]] w fun e w'=>∃ g cp,e=.returned (.slice (some ⟨g,0,none⟩) n cp)∧Fr w w'∧Gq w' g 0 (K9 M [v0,v1,v2,v3] n)∧w.heap.size≤g:=by
 have hgn:=Fe hG
 obtain ⟨i0,hi,hz0,hz1,hz2⟩:=A5 CX
 obtain ⟨c,hc9⟩:∃ c,c=[v0,v1,v2,v3]:=⟨_,rfl⟩
 obtain ⟨N,hN⟩:∃ N,N=M.length:=⟨_,rfl⟩
 have hN12:N≤12:=by have:=hT.1; omega
 have hn12:n≤12:=hT.2.1
 obtain ⟨wb,hwb⟩:∃ wb,wb=(w.alloc (.cells #[.slice aP n cP,.slice aC nC cC,.slice aM N cM] 29)).alloc (.cells #[.int .i8 v0,.int .i8 v1,.int .i8 v2,.int .i8 v3] 44):=⟨_,rfl⟩
 have hfb:Fr w wb:=by rw [hwb]; exact ((Fr.refl _).alloc _).alloc _
 have hB:=(C3.new w (.slice aP n cP) (.slice aC nC cC) (.slice aM N cM) 29).fr ((Fr.refl _).alloc (.cells #[.int .i8 v0,.int .i8 v1,.int .i8 v2,.int .i8 v3] 44))
 rw [← hwb] at hB
 have g1:wb.heap[w.heap.size+1]?=some (.cells #[.int .i8 v0,.int .i8 v1,.int .i8 v2,.int .i8 v3] 44 (0,0)):=by
  have:=CJ (w.alloc (.cells #[.slice aP n cP,.slice aC nC cC,.slice aM N cM] 29)) (.cells #[.int .i8 v0,.int .i8 v1,.int .i8 v2,.int .i8 v3] 44 (0,0))
  rw [AC] at this
  rw [hwb]; exact this
 have hcl:∀ i,i < 4→wb.cell? ⟨w.heap.size+1,i,none⟩=some (.int .i8 ((c[i]?).getD 0)):=fun i h=>by
  rw [AH g1,hc9]
  match i,h with
  | 0,_ | 1,_ | 2,_ | 3,_=>rfl
 have hsz:wb.heap.size=w.heap.size+2:=by rw [hwb,AC,AC]
 have heb:∀ i k,(Aw M i k).natAbs≤1000000000:=fun i k=>Mq (fun r hr x hx=>by
  have:=hT.2.2.2 r hr x hx
  unfold Bk at this
  have:=AV this
  omega) i k
 rw [← hc9] at hc ⊢
 rw [← hN]
 have hab:=fun k i=>Wk hc heb k i
 have hcb:=fun i=>Ye hc i
 have a0:=hB.a
 have a2:=hB.c
 have hrl:∀ i,i < N→(BB M i).length=n:=fun i h=>Er hT.2.2.1 (by omega)
 have hMb:=hM.fr hfb
 replace hN:=hZ hN
 replace hc9:=hZ hc9
 replace hc:=hZ hc
 replace heb:=hZ heb
 replace hab:=hZ hab
 replace hcb:=hZ hcb
 replace hcl:=hZ hcl
 replace hrl:=hZ hrl
 replace hMb:=hZ hMb
 clear hB g1 hM hT hG
 go_enter Tryz.func21,Tryz.ntmps21
 go_upto_region 1 with (fail)
 rw [← hwb]
 clear hwb
 go_wp2_with (at_make; refine Df _ rfl _ _ 33 rfl wb.heap.size 3 i0 _ 1 Tryz.underlying33 hi hz0 hz1 _ _ _ _ n (by rfl) (by rfl) (by omega) (by omega) (by rw [hz2]; omega) (by unfold maxLen; omega) (Ah _) ?_; intro w2 hown2 hgr2; rw [ND n rfl] at hown2; obtain ⟨hO,-,-,hgb,hcp⟩:=Dr (Ar hgn hfb.size) hown2; have hf2:Fr wb w2:=(Fr.refl _).grown hgr2 (fun k e=>by cases e); replace hO:=hZ hO; clear hgr2)
 clear hown2
 obtain ⟨g,hg⟩:∃ g,g=w.heap.size+2:=⟨_,rfl⟩
 have hO1:=hO.out
 rw [hsz,← hg] at hO1
 replace hO:=hZ hO1
 rw [← hg]
 have hg2:w.heap.size+2≤g:=by omega
 have hgb8:g≤w.heap.size+2:=by omega
 have hgb7:wb.heap.size≤g:=by omega
 clear hO1 hg
 replace hsz:=hZ hsz
 have hgw2:g < w2.heap.size:=hO.out.2.1
 have b0:=hf2.keep a0
 have b2:=hf2.keep a2
 have hM2:=hZ (hMb.out.fr hf2)
 replace hO:Hid (Gq w2 g 0 (IJ M c n 0 0)):=by rw [Tr]; exact hO
 go_wp2_with fail
 go_loopg [6] N (fun kk s6 wr=>∃ i:Nat,s6=.int .i64 i∧i+kk=N∧Fx (·=g) w2 wr∧Hid (Gq wr g 0 (IJ M c n i 0)))
 case atStart=>exact ⟨0,rfl,by omega,Fx.refl _ _,hO.out⟩
 case round=>
  clear hO
  obtain ⟨i,rfl,hik,hfx,hO⟩:=hrel
  obtain ⟨wo,rfl⟩:∃ wo:World,wo=wr:=⟨_,rfl⟩
  obtain ⟨ko,rfl⟩:∃ ko:Nat,ko=gk:=⟨_,rfl⟩
  have d0:=hfx.keep (q:=⟨w.heap.size,0,none⟩) b0 (by show ¬ w.heap.size=g; omega)
  have d2:=hfx.keep (q:=⟨w.heap.size,2,none⟩) b2 (by show ¬ w.heap.size=g; omega)
  by_cases hi9:i < N
  ·have e1:decide (i < N)=true:=Ab hi9
   have e2:decide ((i:Int) < (N:Int))=true:=Ab (by omega)
   obtain ⟨mb,mo,ra,rc,rfl,hrc,hre⟩:=hMb.out.at (i:=i) (by rw [← hN.out]; exact hi9)
   have hrow:BB M i=M[i]'(by rw [← hN.out]; exact hi9):=CK _
   rw [← hrow] at hrc hre
   have hmlt:=A0 wb _ hrc
   have hrl9:=hrl.out i hi9
   rw [hrl9] at hrc
   have hrc9:=hfx.keep (q:=⟨mb,mo+i,none⟩) (hf2.keep hrc) (by show ¬ mb=g; simp only at hmlt; omega)
   have hre9:=hZ (SY hre hf2 hfx (by omega))
   obtain ⟨i4,h4⟩:∃ i4,i4=i % 4:=⟨_,rfl⟩
   have h44:i4 < 4:=by rw [h4]; exact CF _ (by decide)
   have hmod:(i:Int).tmod 4=(i4:Int):=by rw [h4]; rfl
   have hcc:=hfx.keep (q:=⟨w.heap.size+1,i4,none⟩) (hf2.keep (hcl.out i4 h44)) (by show ¬ w.heap.size+1=g; omega)
   have hcb9:=hcb.out i4
   obtain ⟨ci,hci⟩:∃ ci,ci=(c[i4]?).getD 0:=⟨_,rfl⟩
   rw [← hci] at hcc hcb9
   have hcstep:∀ k,RM M c k (i+1)=RM M c k i+ci * Aw M i k:=fun k=>by rw [hci,h4]; rfl
   replace hrow:=hZ hrow
   replace hrl9:=hZ hrl9
   replace h4:=hZ h4
   replace hci:=hZ hci
   replace hcstep:=hZ hcstep
   have hmg:mb≠g:=by simp only at hmlt; omega
   have hre0:=hZ hre
   clear hrc hre hmlt hre9
   go_wp2_with fail
   go_loopg [7] n (fun kk s7 wr=>∃ j:Nat,s7=.int .i64 j∧j+kk=n∧Fx (·=g) wo wr∧Hid (Gq wr g 0 (IJ M c n i j)))
   case atStart=>exact ⟨0,rfl,by omega,Fx.refl _ _,hO.out⟩
   case round=>
    clear hO
    obtain ⟨j,rfl,hjk,hfy,hO⟩:=hrel
    obtain ⟨wp,rfl⟩:∃ wp:World,wp=wr:=⟨_,rfl⟩
    by_cases hj9:j < n
    ·have f1:decide (j < n)=true:=Ab hj9
     have f2:decide ((j:Int) < (n:Int))=true:=Ab (by omega)
     have y2:=hfy.keep (q:=⟨w.heap.size,2,none⟩) d2 (by show ¬ w.heap.size=g; omega)
     have yc:=hfy.keep (q:=⟨w.heap.size+1,i4,none⟩) hcc (by show ¬ w.heap.size+1=g; omega)
     have yr:=hfy.keep (q:=⟨mb,mo+i,none⟩) hrc9 (by show ¬ mb=g; exact hmg)
     obtain ⟨rb,ro,z,rfl,-,hz9,hzc⟩:=(SY hre0.out hf2 (hfx.trans hfy) (by omega)).at (i:=j) (by rw [hrl9.out]; exact hj9)
     have hze:Aw M i j=z:=by unfold Aw; rw [hz9]; rfl
     have hzb:=heb.out i j
     rw [hze] at hzb
     have hst:=hcstep.out j
     rw [hze] at hst
     have hAb:=hab.out j i
     obtain ⟨A,hA⟩:∃ A,A=RM M c j i:=⟨_,rfl⟩
     rw [← hA] at hAb hst
     have hA1:=hO.out.2.2 j A (by rw [Jl hj9,Ae (by omega),hA])
     rw [AU] at hA1
     obtain ⟨o1,o2⟩:=hA1
     have hOs:=Vn hO.out (k:=j) (by rw [HW]; exact hj9) (RM M c j (i+1))
     rw [UN hj9,AU,hst] at hOs
     have hprod:=Yd hcb9 hzb
     have z0:(0:Int)≤(i:Int):=Ak _
     have z1:(i:Int) < (N:Int):=by omega
     have z2:(0:Int)≤(j:Int):=Ak _
     have z3:(j:Int) < (n:Int):=by omega
     have z4:(0:Int)≤(i4:Int):=Ak _
     have z5:(i4:Int) < 4:=by omega
     have w0:IntKind.i64.wrap ci=ci:=Am _ (by omega)
     have w1:IntKind.i64.wrap (ci * z)=ci * z:=Am _ (by omega)
     have w2':IntKind.i64.wrap (A+ci * z)=A+ci * z:=Am _ (by omega)
     have HT:=(Fr.refl wp).drew
     have o3:=HT.keep o1
     have o4:=HT.keepf o1 o2
     have s2:=HT.keep y2
     have sc:=HT.keep yc
     have sr:=HT.keep yr
     have sz:=HT.keep hzc
     replace hz9:=hZ hz9
     replace hze:=hZ hze
     replace hst:=hZ hst
     replace hA:=hZ hA
     replace hOs:=hZ hOs
     clear hAb hzb hprod
     go_wp2_with fail
     refine Da (S:=fun W=>W.cell? ⟨g,j,none⟩=some (.int .i64 A)∧W.cell? ⟨w.heap.size,2,none⟩=some (.slice (some ⟨mb,mo,none⟩) N cM)∧W.cell? ⟨w.heap.size+1,i4,none⟩=some (.int .i8 ci)∧W.cell? ⟨mb,mo+i,none⟩=some (.slice (some ⟨rb,ro,none⟩) n rc)∧W.cell? ⟨rb,ro+j,none⟩=some (.int .i64 z)) 20 (by kernel_rfl) ⟨o3,s2,sc,sr,sz⟩ (fun hHeld=>?_)
     refine uK 0 ?_
     refine uK 1 ?_
     refine uK 2 ?_
     refine uK 3 ?_
     refine uK 4 ?_
     refine uK 5 ?_
     refine uK 6 ?_
     refine uK 7 ?_
     refine uK 8 ?_
     refine uK 9 ?_
     refine uK 10 ?_
     refine uK 11 ?_
     refine uK 12 ?_
     refine uK 13 ?_
     refine uK 14 ?_
     refine uK 15 ?_
     refine uK 16 ?_
     refine uK 17 ?_
     refine uK 18 ?_
     refine uK 19 ?_
     refine uD 20 (fun K hK=>?_)
     go_simp
     refine hK.out _ _ ?_
     clear hK K
     clear hHeld
     refine uE ?_
     go_wp2_with fail
     have hOz:Gq (wp.setCell ⟨g,j,none⟩ (.int .i64 (A+ci * z))).drew g 0 (IJ M c n i (j+1)):=hOs.out
     go_roundg (gk - 1)
     case measure=>omega
     case rel=>exact ⟨j+1,by go_num,by omega,hfy.trans ((Fx.setCell (p:=(·=g)) (q:=⟨g,j,none⟩) (Fx.refl _ wp) (.inl rfl) _).trans (Fx.of_fr (Fr.refl _).drew)),hOz⟩
    ·obtain rfl:j=n:=by omega
     have f1:decide (j < j)=false:=Aa (by omega)
     have f2:decide ((j:Int) < (j:Int))=false:=Aa (by omega)
     rw [Ts] at hO
     go_wp2_with fail
     go_roundg (ko - 1)
     case measure=>omega
     case rel=>exact ⟨i+1,by go_num,by omega,hfx.trans hfy,hO.out⟩
  ·obtain rfl:i=N:=by omega
   have e1:decide (i < i)=false:=Aa (by omega)
   have e2:decide ((i:Int) < (i:Int))=false:=Aa (by omega)
   have hO9:=hO.out
   rw [hN.out,UO] at hO9
   replace hO9:=hZ hO9
   go_wp2_with fail
   go_ret
   exact ⟨g,n,rfl,((Fx.of_fr (hfb.trans hf2)).trans hfx).toFr (fun k hk e=>by have e:k=g:=e; omega),hO9.out,by omega⟩
theorem Gh (x v:List Int):∀ k,Cy x v k=Cd (fun j=>(x[j]?).getD 0) (fun j=>(v[j]?).getD 0) k
 | 0=>rfl
 | k+1=>by show Cy x v k+_=Cd _ _ k+_; rw [Gh x v k]
theorem L6 {n:Nat} {C:List (List Int)} {v:List Int} (hr:Bq n C):Dd C v=true ↔ ∀ i,i < C.length→Cd (Aw C i) (fun j=>(v[j]?).getD 0) n=0:=by
 unfold Dd
 rw [AF]
 constructor
 ·intro h i hi
  have h1:=h _ (AJ hi)
  have h2:Cy C[i] v C[i].length=0:=by simpa using h1
  rw [hr _ (AJ hi),Gh] at h2
  have e:BB C i=C[i]:=CK hi
  exact (Cv fun k _=>⟨by unfold Aw; rw [e],rfl⟩).trans h2
 ·intro h c hc
  obtain ⟨i,hi,rfl⟩:=FS hc
  have e:BB C i=C[i]:=CK hi
  have h1:=h i hi
  have h2:Cy C[i] v C[i].length=0:=by
   rw [hr _ (AJ hi),Gh]
   exact (Cv fun k _=>⟨by unfold Aw; rw [e],rfl⟩).trans h1
  rw [h2]; rfl
theorem Jn (M:List (List Int)) (c:List Int) (n:Nat):(K9 M c n).length=n:=by unfold K9; rw [AE,BX]
theorem Tc (M:List (List Int)) (c:List Int) (k:Nat):∀ i,RM M c k i=Cd (fun i=>(c[i % 4]?).getD 0) (fun l=>Aw M l k) i
 | 0=>rfl
 | i+1=>by show RM M c k i+_=Cd _ _ i+_; rw [Tc M c k i]
theorem W7 {M:List (List Int)} {c:List Int} {n:Nat} (hr:Bq n M) (k:Nat):((K9 M c n)[k]?).getD 0=Cd (fun i=>(c[i % 4]?).getD 0) (fun l=>Aw M l k) M.length:=by
 by_cases hk:k < n
 ·unfold K9
  rw [Au,List.getElem?_range hk,← Tc]; rfl
 ·rw [AG (by rw [Jn]; omega),BP,Cv (f':=fun _=>0) (g':=fun i=>(c[i % 4]?).getD 0) (fun i _=>⟨I7 hr (by omega),rfl⟩),Dp]; rfl
theorem Tg.krM {P:List Int} {C M:List (List Int)} (h:Tg P C M) (x:Nat→Int):DF M.length (Aw M) x ↔ Fu P.length C x:=by
 obtain ⟨gW,p,t,r,k⟩:=Dz (n:=P.length) h.n4 (by decide) C1 (B:=1000000000) (m:=C) (fun r hr x hx=>by
  have:=h.tabC.2.2.2 r hr x hx
  unfold Bk at this
  have:=AV this
  omega)
 have e:CI P.length C=M:=by unfold CI; rw [h.ann]; rfl
 rw [e] at k
 exact k.spans x
theorem Tg.krC {P:List Int} {C M:List (List Int)} (h:Tg P C M) (x:Nat→Int):DF C.length (Aw C) x ↔ Fu P.length M x:=by
 obtain ⟨gW,p,t,r,k⟩:=Dz (n:=P.length) h.n4 (by decide) C1 (B:=1000000000) (m:=M) (fun r hr x hx=>by
  have:=h.tabM.2.2.2 r hr x hx
  unfold Bk at this
  have:=AV this
  omega)
 have e:CI P.length M=C:=by unfold CI; rw [h.sat]; rfl
 rw [e] at k
 exact k.spans x
theorem Tg.sup {P:List Int} {C M:List (List Int)} (h:Tg P C M) {v:List Int} (hl:v.length=P.length):Dd C v=true ↔ DF M.length (Aw M) (fun j=>(v[j]?).getD 0):=by
 rw [h.krM,L6 h.tabC.2.2.1]
 refine ⟨fun a=>⟨fun k hk=>by show (v[k]?).getD 0=0; rw [AG (by omega)]; rfl,a⟩,fun a=>a.2⟩
theorem Tg.val {P:List Int} {C M:List (List Int)} (h:Tg P C M) (c:List Int):Dd C (K9 M c P.length)=true :=
 (h.sup (Jn _ _ _)).2 ((Ju (fun i=>(c[i % 4]?).getD 0) M.length (Ah _)).congr fun k=>W7 h.tabM.2.2.1 k)
end Go.Proofs.YtiniigadkknboaaGreatDoor
