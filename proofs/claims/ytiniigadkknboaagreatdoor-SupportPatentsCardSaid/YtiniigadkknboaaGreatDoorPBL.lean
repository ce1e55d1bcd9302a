/- Contracts and laws: PBL. -/
import Derived.Test.YtiniigadkknboaaGreatDoorPBJ
import Derived.Test.YtiniigadkknboaaGreatDoorPBK
import Derived.Test.YtiniigadkknboaaGreatDoorPBH
import Derived.Test.YtiniigadkknboaaGreatDoorPBE
import Derived.Test.YtiniigadkknboaaGreatDoorPBD

set_option maxRecDepth 100000
set_option maxHeartbeats 1000000
namespace Go.Proofs.YtiniigadkknboaaGreatDoor
open Go.RowKit Go.Lib
attribute [local go_sem ↓] Go.wp_at_zero Go.wp_at_succ
theorem el_new (w:World) (xs:List Int) (cs:Array Value) (h:cs=(xs.map iv).toArray):El (w.alloc (.cells cs 3)) iv (some ⟨w.heap.size,0,none⟩) xs:=by
 subst h
 refine .inr ⟨w.heap.size,0,rfl,by simp,fun i x hx=>?_⟩
 rw [Nat.zero_add,cells_of (heap_alloc_new w _)]
 simp [hx]
theorem Known22_any (w:World) (hG:G w) (hE:ErX w) :
 Calls Tryz.prog 11 #[] w fun e w'=>e=.returned (.bool true)∧Fr w w':=by
 obtain ⟨wa,hwa⟩:∃ wa,wa=w.alloc (.cells #[.int .i64 2,.int .i64 3,.int .i64 5] 3):=⟨_,rfl⟩
 have hfa:Fr w wa:=by rw [hwa]; exact (Fr.refl _).alloc _
 have hPa:El wa iv (some ⟨w.heap.size,0,none⟩) [2,3,5]:=by rw [hwa]; exact el_new w _ _ rfl
 have hdv:=Divisions_any 2 [3,5] (some ⟨w.heap.size,0,none⟩) 3 12 19 wa (hG.fr hfa) (hE.fr hfa) k22_pr (by decide) hPa (.inr ⟨by decide,k22_po 12 (by decide) (by decide)⟩) (.inr ⟨by decide,k22_po 19 (by decide) (by decide)⟩)
 rw [show dvE (2 :: [3,5]) 12 19=0 from k22_E,show jA (2 :: [3,5]) (patS (2 :: [3,5]) 12) (patS (2 :: [3,5]) 19)=k22C from k22_A,show jS (2 :: [3,5]) (patS (2 :: [3,5]) 12) (patS (2 :: [3,5]) 19)=k22M from k22_S] at hdv
 unfold TRet at hdv
 rw [show ([3,5]:List Int).length+1=3 from rfl,show (2 :: [3,5]:List Int).length=3 from rfl,show k22C.length=1 from rfl,show k22M.length=2 from rfl] at hdv
 replace hdv:=hZ hdv
 have hG1:=hZ (fun W (hW:Fr w W)=>hG.fr hW)
 have hE1:=hZ (fun W (hW:Fr w W)=>hE.fr hW)
 clear hG hE hPa
 go_enter Tryz.func11,Tryz.ntmps11
 go_wp2_with fail
 rw [← hwa]
 clear hwa
 refine hdv.out.mono ?_
 rintro e w1 ⟨hf1,hok,-⟩
 obtain ⟨pa,pc,ca,cc,ma,mc,rfl,hel,hmc,hmm,hcc,hcm⟩:=hok trivial
 clear hok hdv
 obtain ⟨w2,hw2⟩:∃ w2,w2=w1.alloc (.cells #[.slice pa 3 pc,.slice ca 1 cc,.slice ma 2 mc] 29):=⟨_,rfl⟩
 have hf2:Fr w1 w2:=by rw [hw2]; exact (Fr.refl _).alloc _
 have hT:=C3.new w1 (.slice pa 3 pc) (.slice ca 1 cc) (.slice ma 2 mc) 29
 rw [← hw2] at hT
 obtain ⟨tb,htb⟩:∃ tb,tb=w1.heap.size:=⟨_,rfl⟩
 rw [← htb] at hT
 have hfw:=(hfa.trans hf1).trans hf2
 have htm:TmF w2 pa ca ma pc cc mc k22P k22C k22M 0:=TmF.of (hG1.out _ hfw) ((hel w1 (Fx.refl _ _)).fr hf2) ((hmc w1 (Fx.refl _ _)).fr hf2) ((hmm w1 (Fx.refl _ _)).fr hf2) hcc k22_T
 have hpt:=Patents_any pa ca ma pc cc mc 2 [3,5] k22C k22M 0 31 w2 htm (fun _=>⟨k22_pr,htm.p,htm.c,k22_T.tabC.2.2.1,k22_T.tabC.1,k22_T.tabC.2.2.2,by decide,fun k h1 h2=>k22_po k h1 h2⟩) (hG1.out _ hfw)
 rw [show limE 0 31=0 from rfl,show dvT k22C (2 :: [3,5]) (31:Int).toNat=[5,7,12,19,24,26,31] from k22_dv,show ([3,5]:List Int).length+1=3 from rfl,show k22C.length=1 from rfl,show k22M.length=2 from rfl] at hpt
 unfold PtRet at hpt
 rw [show ([5,7,12,19,24,26,31]:List Int).length=7 from rfl] at hpt
 have b0:=hT.a
 have b1:=hT.b
 have b2:=hT.c
 replace hpt:=hZ hpt
 replace htm:=hZ htm
 replace hcm:=hZ hcm
 clear hT hel hmc hmm hcc
 go_upto_region 3 with (fail)
 rw [← hw2,← htb]
 clear hw2
 replace htb:=hZ htb
 go_wp2_with fail
 refine hpt.out.mono ?_
 rintro e w3 ⟨hf3,-,hok⟩
 obtain ⟨la,lc,rfl,hla⟩:=hok trivial
 clear hok hpt
 replace b0:=hf3.keep b0
 replace b1:=hf3.keep b1
 replace b2:=hf3.keep b2
 replace hla:=hZ hla
 have hfw3:=hfw.trans hf3
 obtain ⟨w4,hw4⟩:∃ w4,w4=w3.alloc (.cells #[.int .i64 12,.int .i64 19,.int .i64 28] 3):=⟨_,rfl⟩
 have hf4:Fr w3 w4:=by rw [hw4]; exact (Fr.refl _).alloc _
 have hv4:El w4 iv (some ⟨w3.heap.size,0,none⟩) [12,19,28]:=by rw [hw4]; exact el_new w3 _ _ rfl
 have hco:=SCoord_any pa ca ma pc cc mc k22P k22C k22M 0 [12,19,28] ([0,0,0],[12,19]) (some ⟨w3.heap.size,0,none⟩) 3 w4 (htm.out.fr (hf3.trans hf4)) hv4 (by decide) (hG1.out _ (hfw3.trans hf4)) (hE1.out _ (hfw3.trans hf4)) (fun _=>⟨k22_T.tabM,hcm.out,by decide,k22_red,fun x hx=>by
  have h9:Wd x:=by simp at hx; rcases hx with rfl | rfl <;> exact Wd.of40 (by decide)
  have:=h9.size; omega⟩)
 have hs0:sE 0 k22P [12,19,28]=0:=by
  unfold sE; rw [if_neg (by decide)]; exact k22_val.1
 rw [hs0,k22_sup.1,show k22P.length=3 from rfl,show k22C.length=1 from rfl,show k22M.length=2 from rfl,show ([12,19,28]:List Int).length=3 from rfl] at hco
 unfold SCoRet at hco
 rw [show (([0,0,0],[12,19]):List Int×List Int).2.length=2 from rfl] at hco
 replace hco:=hZ hco
 clear hs0 hv4
 go_wp2_with fail
 rw [← hw4]
 clear hw4
 refine hco.out.mono ?_
 rintro e w5 ⟨hf5,-,-,-,-,hok⟩
 obtain ⟨ka,kc,rfl,hka⟩:=hok trivial trivial rfl rfl
 clear hok hco
 replace hka:=hZ hka
 have hf35:=hf4.trans hf5
 have hfw5:=hfw3.trans hf35
 replace b0:=hf35.keep b0
 replace b1:=hf35.keep b1
 replace b2:=hf35.keep b2
 obtain ⟨w6,hw6⟩:∃ w6,w6=(w5.alloc (.cells #[.int .i64 5,.int .i64 8,.int .i64 12] 3)).alloc (.cells #[.int .i64 7,.int .i64 11,.int .i64 16] 3):=⟨_,rfl⟩
 have hf6:Fr w5 w6:=by rw [hw6]; exact ((Fr.refl _).alloc _).alloc _
 have hv6:El w6 iv (some ⟨w5.heap.size,0,none⟩) [5,8,12]:=by rw [hw6]; exact (el_new w5 [5,8,12] _ rfl).fr ((Fr.refl _).alloc _)
 have hu6:El w6 iv (some ⟨w5.heap.size+1,0,none⟩) [7,11,16]:=by
  have:=el_new (w5.alloc (.cells #[.int .i64 5,.int .i64 8,.int .i64 12] 3)) [7,11,16] _ rfl
  rw [World.size_alloc] at this
  rw [hw6]; exact this
 have hch:=Chain_any pa ca ma pc cc mc k22P k22C k22M 0 [5,8,12] [7,11,16] (some ⟨w5.heap.size,0,none⟩) (some ⟨w5.heap.size+1,0,none⟩) 3 3 5 w6 (htm.out.fr ((hf3.trans hf35).trans hf6)) hv6 hu6 (by decide) (by decide) (hG1.out _ (hfw5.trans hf6))
 have hs0:sbegE 0 k22P [[5,8,12],[7,11,16]]=0:=by
  unfold sbegE
  rw [if_neg (by decide)]
  show firstE [valE k22P [5,8,12],valE k22P [7,11,16]]=0
  rw [k22_val.2.1,k22_val.2.2]; rfl
 rw [hs0,k22_sup.2.1,k22_sup.2.2,show chE 0 true true 5=0 from rfl,show chL [5,8,12] [7,11,16] ((5:Int).toNat - 2)=_ from k22_ch,show k22P.length=3 from rfl,show k22C.length=1 from rfl,show k22M.length=2 from rfl,show ([5,8,12]:List Int).length=3 from rfl,show ([7,11,16]:List Int).length=3 from rfl] at hch
 unfold ChRet at hch
 replace hch:=hZ hch
 clear hs0 hv6 hu6
 go_wp2_with fail
 rw [← hw6]
 clear hw6
 refine hch.out.mono ?_
 rintro e w7 ⟨hf7,-,-,hok⟩
 obtain ⟨da,dc,rfl,hda⟩:=hok trivial _ rfl
 clear hok hch
 have hf57:=hf6.trans hf7
 replace b1:=hf57.keep b1
 clear b0 b2
 have hfw7:=hfw5.trans hf57
 have hda2:MatIs w7 da [[5,8,12],[7,11,16],[12,19,28],[19,30,44],[31,49,72]]:=hda
 obtain ⟨db,dq,ra,rc,rfl,hdc,hde⟩:=hda2.at (i:=4) (by decide)
 replace hdc:w7.cell? ⟨db,dq+4,none⟩=some (.slice ra 3 rc):=hdc
 replace hde:El w7 iv ra [31,49,72]:=hde
 replace hde:=hZ hde
 clear hda hda2
 have hC7:=htm.out.c.fr ((hf3.trans hf35).trans hf57)
 obtain ⟨w8,hw8⟩:∃ w8,w8=(w7.alloc (.cells #[.int .i64 4,.int .i64 (-4),.int .i64 1] 3)).alloc (.cells #[.slice (some ⟨w7.heap.size,0,none⟩) 3 3] 33):=⟨_,rfl⟩
 have hf8:Fr w7 w8:=by rw [hw8]; exact ((Fr.refl _).alloc _).alloc _
 have hm8:MatIs w8 (some ⟨w7.heap.size+1,0,none⟩) k22C:=by
  have:=Mat_one (w7.alloc (.cells #[.int .i64 4,.int .i64 (-4),.int .i64 1] 3)) (some ⟨w7.heap.size,0,none⟩) [4,-4,1] 3 (el_new w7 [4,-4,1] _ rfl)
  rw [World.size_alloc] at this
  rw [hw8]; exact this
 have heq:=Eq6_yes k22C ca (some ⟨w7.heap.size+1,0,none⟩) cc 1 w8 (hC7.fr hf8) hm8 (by decide) (by decide)
 rw [show k22C.length=1 from rfl] at heq
 replace heq:=hZ heq
 clear hC7 hm8 htm hcm
 go_wp2_with fail
 rw [← hw8]
 clear hw8
 refine heq.out.mono ?_
 rintro e w9 ⟨rfl,hf9⟩
 have hf39:=(hf35.trans hf57).trans (hf8.trans hf9)
 obtain ⟨wA,hwA⟩:∃ wA,wA=w9.alloc (.cells #[.int .i64 5,.int .i64 7,.int .i64 12,.int .i64 19,.int .i64 24,.int .i64 26,.int .i64 31] 3):=⟨_,rfl⟩
 have hfA:Fr w9 wA:=by rw [hwA]; exact (Fr.refl _).alloc _
 have hvA:El wA iv (some ⟨w9.heap.size,0,none⟩) [5,7,12,19,24,26,31]:=by rw [hwA]; exact el_new w9 _ _ rfl
 have hsi:=sameI_any [5,7,12,19,24,26,31] [5,7,12,19,24,26,31] la (some ⟨w9.heap.size,0,none⟩) lc 7 wA (hla.out.fr (hf39.trans hfA)) hvA (by decide) (by decide)
 rw [decide_eq_true rfl,show ([5,7,12,19,24,26,31]:List Int).length=7 from rfl] at hsi
 replace hsi:=hZ hsi
 clear hvA heq hla
 go_wp2_with fail
 rw [← hwA]
 clear hwA
 refine hsi.out.mono ?_
 rintro e wB ⟨rfl,hfB⟩
 have hf5B:=((hf57.trans (hf8.trans hf9)).trans hfA).trans hfB
 obtain ⟨wC,hwC⟩:∃ wC,wC=wB.alloc (.cells #[.int .i64 12,.int .i64 19] 3):=⟨_,rfl⟩
 have hfC:Fr wB wC:=by rw [hwC]; exact (Fr.refl _).alloc _
 have hvC:El wC iv (some ⟨wB.heap.size,0,none⟩) [12,19]:=by rw [hwC]; exact el_new wB _ _ rfl
 have hrw:=EqRows_any [12,19] [12,19] ka (some ⟨wB.heap.size,0,none⟩) kc 2 wC (hka.out.fr (hf5B.trans hfC)) hvC (by decide) (by decide)
 rw [decide_eq_true rfl,show ([12,19]:List Int).length=2 from rfl] at hrw
 replace hrw:=hZ hrw
 clear hvC hsi hka
 go_wp2_with fail
 rw [← hwC]
 clear hwC
 refine hrw.out.mono ?_
 rintro e wD ⟨rfl,hfD⟩
 have hf7D:=(((hf8.trans hf9).trans hfA).trans hfB).trans (hfC.trans hfD)
 replace hdc:=hf7D.keep hdc
 obtain ⟨wE,hwE⟩:∃ wE,wE=wD.alloc (.cells #[.int .i64 31,.int .i64 49,.int .i64 72] 3):=⟨_,rfl⟩
 have hfE:Fr wD wE:=by rw [hwE]; exact (Fr.refl _).alloc _
 have hvE:El wE iv (some ⟨wD.heap.size,0,none⟩) [31,49,72]:=by rw [hwE]; exact el_new wD _ _ rfl
 have hre:=EqRows_any [31,49,72] [31,49,72] ra (some ⟨wD.heap.size,0,none⟩) rc 3 wE (hde.out.fr (hf7D.trans hfE)) hvE (by decide) (by decide)
 rw [decide_eq_true rfl,show ([31,49,72]:List Int).length=3 from rfl] at hre
 replace hre:=hZ hre
 clear hvE hrw hde
 go_wp2_with fail
 rw [← hwE]
 clear hwE
 refine hre.out.mono ?_
 rintro e wF ⟨rfl,hfF⟩
 go_wp2_with fail
 go_ret
 exact ⟨rfl,(hfw7.trans hf7D).trans (hfE.trans hfF)⟩

def QuadIs (w:World) (a:Option Addr) (L:List (List Int)):Prop :=
 L=[]∨∃ b o,a=some ⟨b,o,none⟩∧b < w.heap.size∧∀ (i:Nat) (r:List Int),L[i]?=some r→∀ (k:Nat) (x:Int),r[k]?=some x→w.cell? ⟨b,o+i * 4+k,none⟩=some (.int .i8 x)
theorem QuadIs.fr {w w':World} {a:Option Addr} {L:List (List Int)} (h:QuadIs w a L) (k:Fr w w'):QuadIs w' a L:=by
 rcases h with h | ⟨b,o,ha,hb,hc⟩
 ·exact .inl h
 ·exact .inr ⟨b,o,ha,Nat.lt_of_lt_of_le hb k.size,fun i r hr j x hx=>k.keep (hc i r hr j x hx)⟩
def Quad8 (L:List (List Int)):Prop:=∀ r,r ∈ L→r.length=4∧∀ x,x ∈ r→-128≤x∧x≤127
theorem quad4 {r:List Int} (h:r.length=4):∃ a b c d,r=[a,b,c,d]:=by
 match r,h with
 | [a,b,c,d],_=>exact ⟨a,b,c,d,rfl⟩
theorem QuadIs.at {w:World} {a:Option Addr} {L:List (List Int)} (h:QuadIs w a L) (h8:Quad8 L) {i:Nat} (hi:i < L.length):∃ b o v0 v1 v2 v3,a=some ⟨b,o,none⟩∧L[i]?=some [v0,v1,v2,v3]∧w.cell? ⟨b,o+i * 4,none⟩=some (.int .i8 v0)∧w.cell? ⟨b,o+i * 4+1,none⟩=some (.int .i8 v1)∧w.cell? ⟨b,o+i * 4+2,none⟩=some (.int .i8 v2)∧w.cell? ⟨b,o+i * 4+3,none⟩=some (.int .i8 v3)∧∀ x,x ∈ [v0,v1,v2,v3]→-128≤x∧x≤127:=by
 rcases h with h | ⟨b,o,ha,-,hc⟩
 ·subst h; simp at hi
 ·have h9:=h8 _ (List.getElem_mem hi)
  have hg:L[i]?=some L[i]:=List.getElem?_eq_getElem hi
  obtain ⟨v0,v1,v2,v3,he⟩:=quad4 h9.1
  rw [he] at hg h9
  exact ⟨b,o,v0,v1,v2,v3,ha,hg,hc i _ hg 0 v0 rfl,hc i _ hg 1 v1 rfl,hc i _ hg 2 v2 rfl,hc i _ hg 3 v3 rfl,h9.2⟩
theorem Make18_any (np:Int) (qa:Option Addr) (QL:List (List Int)) (qc:Nat) (vals:Bool) (w:World) (hG:G w) (hE:ErX w) (hnp:0≤np∧np≤255) (hQ:QuadIs w qa QL) (hQ8:Quad8 QL) (hq3:QL.length≤3) :
 Calls Tryz.prog 20 #[.agg #[.int .u8 np,.slice qa QL.length qc,.bool vals]] w fun e w'=>∃ (P:List Int) (C M:List (List Int)) (aP aC aM:Option Addr) (cP cC cM:Nat),e=.returned (.agg #[.slice aP P.length cP,.slice aC C.length cC,.slice aM M.length cM])∧El w' iv aP P∧MatIs w' aC C∧MatIs w' aM M∧C.length≤cC∧M.length≤cM∧P=prm np∧Tg P C M∧Fr w w':=by
 have hgn:=gN_le hG
 obtain ⟨i1,ji,jz0,jz1,jz2⟩:=info_parts infoRow
 have hpr:=fun W=>Primes12_any np hnp.1 hnp.2 W
 obtain ⟨po1,po2,po3⟩:=pl10_ok (np.tmod 10).toNat
 change primeE (prm np)=0 at po1
 change 1≤(prm np).length at po2
 change (prm np).length≤4 at po3
 have hbd:=fun (m:List (List Int)) (aP am:Option Addr) (cP cm:Nat) (W:World) (hW:Fr w W) hP hm hr h3 hb hz=>Build18_any (prm np) m vals aP am cP cm W (hG.fr hW) (hE.fr hW) po1 po2 po3 hP hm hr h3 hb hz
 generalize prm np=P at *
 obtain ⟨n,hn⟩:∃ n,n=P.length:=⟨_,rfl⟩
 rw [← hn] at hpr po2 po3 hbd
 obtain ⟨q,hq⟩:∃ q,q=QL.length:=⟨_,rfl⟩
 rw [← hq] at hq3 ⊢
 obtain ⟨M,hM⟩:∃ M,M=QL.map (ivl n):=⟨_,rfl⟩
 have hMl:M.length=q:=by rw [hM,List.length_map,hq]
 have hMg:∀ i r,QL[i]?=some r→M[i]?=some (ivl n r):=fun i r hr=>by rw [hM,List.getElem?_map,hr]; rfl
 have hMr:Rect n M:=fun r hr=>by
  rw [hM] at hr
  obtain ⟨x,hx,rfl⟩:=List.mem_map.1 hr
  exact ivl_len (hQ8 x hx).1 po3
 have hMb:∀ r,r ∈ M→∀ x,x ∈ r→x.natAbs≤9:=fun r hr x hx=>by
  rw [hM] at hr
  obtain ⟨y,-,rfl⟩:=List.mem_map.1 hr
  exact ivl_bd x hx
 have hbm:=fun (aP am:Option Addr) (cP cm:Nat) (W:World) (hW:Fr w W) hP hm hz=>hbd M aP am cP cm W hW hP hm hMr (by rw [hMl]; exact hq3) hMb hz
 rw [hMl] at hbm
 clear hbd
 replace hn:=hZ hn
 replace hq:=hZ hq
 replace hM:=hZ hM
 replace hMl:=hZ hMl
 replace hMg:=hZ hMg
 replace hMr:=hZ hMr
 replace hMb:=hZ hMb
 replace hpr:=hZ hpr
 replace hbm:=hZ hbm
 replace hQ:=hZ hQ
 replace hQ8:=hZ hQ8
 clear po1 hE
 obtain ⟨wb,hwb⟩:∃ wb,wb=alls w [(.cells #[.int .u8 np,.slice qa q qc,.bool vals] 42),(.cells #[.slice none 0 0,.slice none 0 0,.slice none 0 0] 29)]:=⟨_,rfl⟩
 have hfb:Fr w wb:=by rw [hwb]; exact alls_fr _ w
 have g0:wb.heap[w.heap.size]?=some (.cells #[.int .u8 np,.slice qa q qc,.bool vals] 42 (0,0)):=by rw [hwb]; exact alls_get _ w 0 _ rfl
 have g1:wb.heap[w.heap.size+1]?=some (.cells #[.slice none 0 0,.slice none 0 0,.slice none 0 0] 29 (0,0)):=by rw [hwb]; exact alls_get _ w 1 _ rfl
 have b0:wb.cell? ⟨w.heap.size,0,none⟩=some (.int .u8 np):=cells_of g0 0
 have b1:wb.cell? ⟨w.heap.size,1,none⟩=some (.slice qa q qc):=cells_of g0 1
 have b2:wb.cell? ⟨w.heap.size,2,none⟩=some (.bool vals):=cells_of g0 2
 have t0:wb.cell? ⟨w.heap.size+1,0,none⟩=some (.slice none 0 0):=cells_of g1 0
 have t1:wb.cell? ⟨w.heap.size+1,1,none⟩=some (.slice none 0 0):=cells_of g1 1
 have t2:wb.cell? ⟨w.heap.size+1,2,none⟩=some (.slice none 0 0):=cells_of g1 2
 have f0:wb.frozen? ⟨w.heap.size+1,0,none⟩=false:=by unfold World.frozen?; rw [g1]; rfl
 have f1:wb.frozen? ⟨w.heap.size+1,1,none⟩=false:=by unfold World.frozen?; rw [g1]; rfl
 have f2:wb.frozen? ⟨w.heap.size+1,2,none⟩=false:=by unfold World.frozen?; rw [g1]; rfl
 have hwl:w.heap.size+1 < wb.heap.size:=lt_of_heap g1
 clear g0 g1
 go_enter Tryz.func20,Tryz.ntmps20
 go_upto_region 1 with (fail)
 change Code.wp _ _ _ _ (alls w [(.cells #[.int .u8 np,.slice qa q qc,.bool vals] 42),(.cells #[.slice none 0 0,.slice none 0 0,.slice none 0 0] 29)])
 rw [← hwb]
 clear hwb
 obtain ⟨tb,htb⟩:∃ tb,tb=w.heap.size:=⟨_,rfl⟩
 rw [← htb] at b0 b1 b2 t0 t1 t2 f0 f1 f2 hwl hgn ⊢
 replace htb:=hZ htb
 go_wp2_with fail
 refine (hpr.out _).mono ?_
 rintro e w1 ⟨pb,rfl,hpe,hpb,hf1⟩
 replace hpe:=hZ hpe
 have hfw:=hfb.trans hf1
 replace f0:=hf1.keepf t0 f0
 replace f1:=hf1.keepf t1 f1
 replace f2:=hf1.keepf t2 f2
 replace t0:=hf1.keep t0
 replace t1:=hf1.keep t1
 replace t2:=hf1.keep t2
 replace b1:=hf1.keep b1
 replace b2:=hf1.keep b2
 have hg1:gN≤w1.heap.size:=by have:=hf1.size; omega
 have htl:tb+1 < w1.heap.size:=by have:=hf1.size; omega
 have hpt:pb≠tb+1:=by omega
 replace hpt:=hZ hpt
 clear b0 hwl hf1 hfb hpb
 go_wp2_with fail
 go_loopg [4,5] q (fun k s4 s5 wr=>∃ (j:Nat) (hO:List (Nat×Nat×Nat)) (v:Value),v=s4∧s5=.int .i64 j∧j+k=q∧Fr w1 wr∧Hid (GI wr w1.heap.size 33 v hO (M.take j))∧Hid (∀ h,h ∈ hO→w1.heap.size≤h.1)∧Hid (j=0→v=.slice none 0 0))
 case atStart=>exact ⟨0,[],_,rfl,rfl,by omega,Fr.refl _,GI.nil _ _ _ hg1,fun h hm=>by simp at hm,fun _=>rfl⟩
 case round=>
  obtain ⟨j,hO,v4,hv4,rfl,hjk,hf,hgi,hnew,hz0⟩:=hrel
  subst hv4
  obtain ⟨wo,rfl⟩:∃ wo:World,wo=wr:=⟨_,rfl⟩
  have y1:=hf.keep b1
  have y2:=hf.keep b2
  by_cases hj:j < q
  ·have hdJ:decide (j < q)=true:=decide_eq_true hj
   have hd3:decide ((j:Int) < 3)=true:=decide_eq_true (by omega)
   obtain ⟨qb,qo,v0,v1,v2,v3,rfl,hLj,c0,c1,c2,c3,h8⟩:=(hQ.out.fr (hfw.trans hf)).at hQ8.out (i:=j) (by rw [← hq.out]; exact hj)
   have hsn:=hZ (take_snoc (hMg.out j _ hLj))
   have hiv:=hZ (fun W=>Interval12_any n (some ⟨pb,0,none⟩) n v0 v1 v2 v3 W po2 po3 h8)
   have hgl:Hid ((M.take j).length=j):=by show _=_; rw [List.length_take,hMl.out]; omega
   have hrl:Hid ((ivl n [v0,v1,v2,v3]).length=n):=ivl_len rfl po3
   generalize ivl n [v0,v1,v2,v3]=row at *
   have z0:(0:Int)≤(j:Int):=Int.natCast_nonneg _
   have z1:(j:Int) < (q:Int):=by omega
   clear hLj h8
   go_wp2_with fail
   refine (hiv.out _).mono ?_
   rintro e w2 ⟨gg,c,rfl,hf2,hown2⟩
   obtain ⟨hO2,-,-,hgb,hcp⟩:=ownsRow_ownI (Nat.le_trans hg1 hf.size) hown2
   have hgi2:=hgi.out.fr hf2
   have hne:v4.ownBlock≠some gg:=fun e=>by have h9:=(hgi.out.own.lt gg e).2; omega
   have hne2:∀ h',h' ∈ hO→h'.1≠gg:=fun h' hm e2=>by have h9:=hgi.out.lt h' hm; omega
   have hown3:=hgi2.own
   rw [hgl.out] at hown3
   have hvb:∀ b,v4.ownBlock=some b→w1.heap.size≤b:=fun b e=>(hgi2.own.lt b e).1
   replace hgi2:=hZ hgi2
   replace hown2:=hZ hown2
   replace hvb:=hZ hvb
   go_wp2_with (at_builtin; refine wpList_append_lies _ rfl _ _ 27 (by rfl) _ 33 _ _ 1 24 Tryz.underlying27 ji jz0 jz1 jz2 rfl (by decide) _ j _ (by rfl) (World.ownsRow.alloc hown3 _) ⟨w2.heap.size,0,none⟩ 1 1 [.slice (some ⟨gg,0,none⟩) n c] (by rfl) rfl (cell_one_newN _ _ _ _ (by simp)) (by simp [Value.oneCell']) (by decide) (by unfold maxLen; omega) (by omega) (by have:=(hf.trans hf2).size; have:=hf2.size; simp; omega) (w2.heap.size+1) (by simp) ?_; intro gA capA wA hownA hgrowA hatA hltA; skip)
   have hpush:=(hgi2.out.fr ((Fr.refl w2).alloc _)).pushN (hd:=(gg,0,c)) (hO2.fr ((Fr.refl w2).alloc _)) hne2 hne hgl.out (by unfold hdr; rw [hrl.out]) hownA hgrowA (hatA.imp id (fun e=>by rw [e]; simp))
   rw [← hsn.out] at hpush
   have hfrA:Fr w1 wA:=(((hf.trans hf2).alloc _)).grown hgrowA (fun k e=>hvb.out k e)
   go_wp2_with fail
   go_roundg (gk - 1)
   case measure=>omega
   case rel=>exact ⟨j+1,_,_,rfl,by go_num,by omega,hfrA,hpush,fun h hm9=>by rcases List.mem_append.1 hm9 with h1 | h1; exact hnew.out h h1; (simp at h1; subst h1; exact Nat.le_trans hf.size hgb),fun e=>by omega⟩
  ·obtain rfl:j=q:=by omega
   have hdJ:decide (j < j)=false:=decide_eq_false (by omega)
   rw [List.take_of_length_le (by rw [hMl.out]; exact Nat.le_refl _)] at hgi
   have hgo:=hgi.out
   obtain ⟨a9,c9,hs4,-⟩:=ownsRow_slice hgo.own
   subst hs4
   have hma:=hgo.mat
   rw [hMl.out] at hgo hz0 ⊢
   have hbl:=hZ (hbm.out (some ⟨pb,0,none⟩) a9 n c9 wo (hfw.trans hf) (hpe.out.fr hf) hma (fun e=>by
    have h1:=hMl.out
    rw [e] at h1
    have h2:=hz0.out h1.symm
    injection h2 with h2 h3 h4
    exact ⟨h2,h4⟩))
   replace hgo:=hZ hgo
   replace f0:=hf.keepf t0 f0
   replace f1:=hf.keepf t1 f1
   replace f2:=hf.keepf t2 f2
   replace t0:=hf.keep t0
   replace t1:=hf.keep t1
   replace t2:=hf.keep t2
   clear hma hgi hz0 b1 b2
   go_wp2_with fail
   refine hbl.out.mono ?_
   rintro e w2 ⟨P',C',M',aP,aC,aM,cP,cC,cM,err,rfl,hP2,hC2,hM2,hcC,hcM,hT2,hf2⟩
   replace hP2:=hZ hP2
   replace f0:=hf2.keepf t0 f0
   replace f1:=hf2.keepf t1 f1
   replace f2:=hf2.keepf t2 f2
   replace t0:=hf2.keep t0
   replace t1:=hf2.keep t1
   replace t2:=hf2.keep t2
   obtain ⟨nP,hnP⟩:∃ nP,nP=P'.length:=⟨_,rfl⟩
   obtain ⟨nC,hnC⟩:∃ nC,nC=C'.length:=⟨_,rfl⟩
   obtain ⟨nM,hnM⟩:∃ nM,nM=M'.length:=⟨_,rfl⟩
   rw [← hnP,← hnC,← hnM]
   replace hnP:=hZ hnP
   replace hnC:=hZ hnC
   replace hnM:=hZ hnM
   obtain ⟨w3,hw3⟩:∃ w3,w3=w2.alloc (.cells #[.slice aP nP cP,.slice aC nC cC,.slice aM nM cM] 29):=⟨_,rfl⟩
   have hf3:Fr w2 w3:=by rw [hw3]; exact (Fr.refl _).alloc _
   have g3:w3.heap[w2.heap.size]?=some (.cells #[.slice aP nP cP,.slice aC nC cC,.slice aM nM cM] 29 (0,0)):=by rw [hw3]; exact heap_alloc_new w2 _
   have x0:w3.cell? ⟨w2.heap.size,0,none⟩=some (.slice aP nP cP):=cells_of g3 0
   have x1:w3.cell? ⟨w2.heap.size,1,none⟩=some (.slice aC nC cC):=cells_of g3 1
   have x2:w3.cell? ⟨w2.heap.size,2,none⟩=some (.slice aM nM cM):=cells_of g3 2
   replace f0:=hf3.keepf t0 f0
   replace f1:=hf3.keepf t1 f1
   replace f2:=hf3.keepf t2 f2
   replace t0:=hf3.keep t0
   replace t1:=hf3.keep t1
   replace t2:=hf3.keep t2
   clear g3
   go_upto_region 8 with (fail)
   rw [← hw3]
   clear hw3
   have htl2:tb+1 < w2.heap.size:=by have:=hf.size; have:=hf2.size; omega
   obtain ⟨xb,hxb⟩:∃ xb,xb=w2.heap.size:=⟨_,rfl⟩
   rw [← hxb] at x0 x1 x2 htl2 ⊢
   replace hxb:=hZ hxb
   have qs:=three_store w3 (tb+1) (.slice aP nP cP) (.slice aC nC cC) (.slice aM nM cM) _ _ _ t0 t1 t2
   have q1:=qs.2.2.2.1
   have q2:=qs.2.2.2.2.1
   have u0:=hZ qs.1
   have u1:=hZ qs.2.1
   have u2:=hZ qs.2.2.1
   have hfx:=hZ qs.2.2.2.2.2
   clear qs
   go_wp2_with fail
   have r0:=u0.out
   have r1:=u1.out
   have r2:=u2.out
   refine bodyPost_ret (v:=.agg #[.slice aP nP cP,.slice aC nC cC,.slice aM nM cM]) (by simp [results,Tryz.results20,go_sem,r0,r1,r2]) rfl ?_
   have hT3:Fr wo w3:=hf2.trans hf3
   have hfin:=((Fx.of_fr (p:=fun q=>q=tb+1) ((hfw.trans hf).trans hT3)).trans hfx.out).toFr (fun q hq e=>by have e:q=tb+1:=e; have:=htb.out; omega)
   have hf23:=((Fx.of_fr (p:=fun q=>q=tb+1) hf3).trans hfx.out).low (n:=wo.heap.size) fun k e=>by have e:k=tb+1:=e; have:=hf.size; omega
   have hPe:∀ W',Fx (fun q=>q=tb+1) w3 W'→El W' iv aP P':=fun W' hW'=>by
    rcases hP2.out with ⟨rfl,rfl⟩
    exact (hpe.out.fr (hf.trans hT3)).fx hW' (fun e=>hpt.out e)
   exact ⟨P',C',M',aP,aC,aM,cP,cC,cM,by rw [hnP.out,hnC.out,hnM.out],hPe _ hfx.out,hC2 _ hf23,hM2 _ hf23,hcC,hcM,hP2.out.1,hT2,hfin⟩
theorem SupportPatents_any (np:Int) (qa:Option Addr) (QL:List (List Int)) (qc:Nat) (vals:Bool) (n:Int) (w:World) (hG:G w) (hE:ErX w) (hnp:0≤np∧np≤255) (hQ:QuadIs w qa QL) (hQ8:Quad8 QL) (hn:0≤n∧n≤255) :
 Calls Tryz.prog 5 #[.agg #[.int .u8 np,.slice qa QL.length qc,.bool vals],.int .u8 n] w fun e w'=>e=.returned (.bool true)∧Fr w w':=by
 obtain ⟨i0,hi,hz0,hz1,hz2⟩:=info_parts infoInt
 obtain ⟨q,hq⟩:∃ q:Nat,n.tmod 60=(q:Int):=⟨(n.tmod 60).toNat,by have:=Int.tmod_nonneg 60 hn.1; omega⟩
 have hq6:q < 60:=by have:=Int.tmod_lt_of_pos n (show (0:Int) < 60 by decide); omega
 obtain ⟨wb,hwb⟩:∃ wb,wb=w.alloc (.cells #[.int .u8 np,.slice qa QL.length qc,.bool vals] 42):=⟨_,rfl⟩
 have hfb:Fr w wb:=by rw [hwb]; exact (Fr.refl _).alloc _
 have hB:=C3.new w (.int .u8 np) (.slice qa QL.length qc) (.bool vals) 42
 rw [← hwb] at hB
 have x0:=hB.a
 have x1:=hB.b
 have x2:=hB.c
 have hkn:=hZ (fun W (hW:Fr w W)=>Known22_any W (hG.fr hW) (hE.fr hW))
 have hft:=hZ (fun W=>Fits18_any np vals qa QL.length qc W)
 by_cases h3:QL.length≤3
 case neg=>
  have d3:decide (QL.length≤3)=false:=decide_eq_false h3
  rw [d3] at hft
  generalize QL.length=k at *
  clear hQ hQ8 hG hE h3 d3 hB
  go_enter Tryz.func5,Tryz.ntmps5
  go_upto_region 1 with (fail)
  rw [← hwb]
  clear hwb
  go_wp2_with fail
  refine (hkn.out _ hfb).mono ?_
  rintro e w1 ⟨rfl,hf1⟩
  replace x0:=hf1.keep x0
  replace x1:=hf1.keep x1
  replace x2:=hf1.keep x2
  go_wp2_with fail
  refine (hft.out w1).mono ?_
  rintro e w2 ⟨rfl,hf2⟩
  go_wp2_with fail
  refine (hkn.out _ ((hfb.trans hf1).trans hf2)).mono ?_
  rintro e w3 ⟨rfl,hf3⟩
  go_wp2_with fail
  go_ret
  exact ⟨rfl,((hfb.trans hf1).trans hf2).trans hf3⟩
 have d3:decide (QL.length≤3)=true:=decide_eq_true h3
 rw [d3] at hft
 have hmk:=hZ (fun W (hW:Fr w W)=>Make18_any np qa QL qc vals W (hG.fr hW) (hE.fr hW) hnp (hQ.fr hW) hQ8 h3)
 have hG1:=hZ (fun W (hW:Fr w W)=>hG.fr hW)
 generalize QL.length=k at *
 clear hQ hQ8 h3 d3 hB hG hE
 obtain ⟨lim,hlim⟩:∃ lim,lim=q+1:=⟨_,rfl⟩
 have hlq:(q:Int)+1=(lim:Int):=by omega
 have hw9:IntKind.i64.wrap (1+(q:Int))=(lim:Int):=by rw [show (1:Int)+(q:Int)=(lim:Int) by omega]; exact IntWalk.i64_in _ (by omega)
 have hl60:lim≤60:=by omega
 have hl1:1≤lim:=by omega
 replace hlim:=hZ hlim
 go_enter Tryz.func5,Tryz.ntmps5
 go_upto_region 1 with (fail)
 rw [← hwb]
 clear hwb
 go_wp2_with fail
 refine (hkn.out _ hfb).mono ?_
 rintro e w1 ⟨rfl,hf1⟩
 replace x0:=hf1.keep x0
 replace x1:=hf1.keep x1
 replace x2:=hf1.keep x2
 go_wp2_with fail
 refine (hft.out w1).mono ?_
 rintro e w2 ⟨rfl,hf2⟩
 replace x0:=hf2.keep x0
 replace x1:=hf2.keep x1
 replace x2:=hf2.keep x2
 have hfw:=(hfb.trans hf1).trans hf2
 go_wp2_with fail
 refine (hmk.out w2 hfw).mono ?_
 rintro e w3 ⟨P,C,M,aP,aC,aM,cP,cC,cM,rfl,hP,hC,hM,hcC,-,hPp,hT,hf3⟩
 have hfw3:=hfw.trans hf3
 have htm:TmF w3 aP aC aM cP cC cM P C M 0:=TmF.of (hG1.out _ hfw3) hP hC hM hcC hT.w
 have hpk:∀ j:Nat,1≤j→j≤60→patOk P j=true:=fun j h1 h2=>by rw [hPp]; exact pat400 _ h1 (by omega)
 replace hPp:=hZ hPp
 obtain ⟨p0,r,rfl⟩:∃ p0 r,P=p0 :: r:=by
  cases P with
  | nil=>have:=hT.n1; simp at this
  | cons p0 r=>exact ⟨p0,r,rfl⟩
 obtain ⟨w4,hw4⟩:∃ W,W=w3.alloc (.cells #[.slice aP (p0 :: r).length cP,.slice aC C.length cC,.slice aM M.length cM] 29):=⟨_,rfl⟩
 have hf4:Fr w3 w4:=by rw [hw4]; exact (Fr.refl _).alloc _
 have hB4:=C3.new w3 (.slice aP (p0 :: r).length cP) (.slice aC C.length cC) (.slice aM M.length cM) 29
 rw [← hw4] at hB4
 obtain ⟨tb,htb⟩:∃ q,q=w3.heap.size:=⟨_,rfl⟩
 rw [← htb] at hB4
 have hfw4:=hfw3.trans hf4
 have htm4:=htm.fr hf4
 have hG4:=hZ (fun W (hW:Fr w4 W)=>hG1.out W (hfw4.trans hW))
 have hpr:=hT.prime
 have hlE:limE 0 (lim:Int)=0:=by
  unfold limE
  rw [if_neg (by decide),if_neg (by omega)]
 have hpt:=hZ (fun W (hW:Fr w4 W)=>Patents_any aP aC aM cP cC cM p0 r C M 0 lim W (htm4.fr hW) (fun _=>⟨hpr,(htm4.fr hW).p,(htm4.fr hW).c,hT.tabC.2.2.1,hT.tabC.1,hT.tabC.2.2.2,by omega,fun j h1 h2=>hpk j h1 (by omega)⟩) (hG4.out W hW))
 have hle:=hZ (fun W (hW:Fr w4 W)=>Least_any aP aC aM cP cC cM p0 r C M 0 lim W (htm4.fr hW) (fun _=>⟨hpr,(htm4.fr hW).p,(htm4.fr hW).c,hT.tabC.2.2.1,hT.tabC.1,hT.tabC.2.2.2,by omega,fun j h1 h2=>hpk j h1 (by omega)⟩) (hG4.out W hW))
 rw [hlE,Int.toNat_natCast] at hpt hle
 unfold PtRet at hpt
 unfold LsRet at hle
 have hn4:=hT.n4
 have hpa:=hZ (fun (j:Nat) (h1:1≤j) (h2:j≤60) W (hW:Fr w4 W)=>Patent_ok p0 r aP cP j W (by omega) hpr (hpk j h1 h2) (htm4.fr hW).p (hG4.out W hW))
 have hsu:=hZ (fun (v:List Int) (va:Option Addr) (vc:Nat) W (hW:Fr w4 W) (he:El W iv va v) (hl:v.length=r.length+1) (hf:∀ y,y ∈ v→fitB y=true)=>supp22_any C v (r.length+1) va aM aP aC vc cM M.length (r.length+1) cP cC W (hG4.out W hW) (htm4.fr hW).c hT.tabC.2.2.1 he hl (by rw [List.length_cons] at hn4; omega) (by have:=hT.tabC.1; omega) hf hT.tabC.2.2.2)
 have hpf:=hZ (fun (j:Nat) (h1:1≤j) (h2:j≤60)=>patS_fit (hpk j h1 h2) (by omega))
 have hpl:=hZ (fun (j:Nat)=>(patS_len (p0 :: r) j:(patS (p0 :: r) (j:Int)).length=r.length+1))
 have b0:=hB4.a
 have b1:=hB4.b
 have b2:=hB4.c
 rw [List.length_cons] at hpl
 rw [List.length_cons] at b0 hw4 ⊢
 generalize r.length+1=m at *
 generalize C.length=nC at *
 generalize M.length=nM at *
 clear hB4 htm htm4 hP hC hM hT hpk hpr hn4 hlE
 go_upto_region 4 with (fail)
 rw [← hw4,← htb]
 clear hw4
 replace htb:=hZ htb
 go_wp2_with fail
 refine (hpt.out w4 (Fr.refl _)).mono ?_
 rintro e w5 ⟨hf5,-,hok⟩
 obtain ⟨la,lc,rfl,hla⟩:=hok trivial
 clear hok hpt
 replace b0:=hf5.keep b0
 replace b1:=hf5.keep b1
 replace b2:=hf5.keep b2
 go_wp2_with fail
 refine (hle.out w5 hf5).mono ?_
 rintro e w6 ⟨hf6,-,hno,hyes⟩
 replace b0:=hf6.keep b0
 replace b1:=hf6.keep b1
 replace b2:=hf6.keep b2
 have hf46:=hf5.trans hf6
 replace hla:=hla.fr hf6
 obtain ⟨ln,lf,hls,hlz,hlc⟩:∃ (ln:Int) (lf:Bool),e=.returned (.tuple #[.int .i64 ln,.bool lf,.int .i64 0])∧(dvT C (p0 :: r) lim=[]→lf=false∧ln=0)∧∀ x t,dvT C (p0 :: r) lim=x :: t→lf=true∧ln=x:=by
  cases hL:dvT C (p0 :: r) lim with
  | nil=>exact ⟨0,false,hno trivial hL,fun _=>⟨rfl,rfl⟩,fun x t h=>(by cases h)⟩
  | cons x t=>exact ⟨x,true,hyes trivial x t hL,fun h=>(by cases h),fun x' t' h=>(by injection h with h1 h2; exact ⟨rfl,h1⟩)⟩
 subst hls
 clear hno hyes hle
 replace hla:=hZ hla
 replace hlz:=hZ hlz
 replace hlc:=hZ hlc
 go_wp2_with fail
 go_loopg [12,13] lim (fun kk s12 s13 wr=>∃ j:Nat,s13=.int .i64 j∧1≤j∧j+kk=lim+1∧Fr w6 wr∧Hid (wr.ownsRow w6.heap.size 3 1 s12 (dvT C (p0 :: r) (j - 1)).length ((dvT C (p0 :: r) (j - 1)).map iv)))
 case atStart=>exact ⟨1,rfl,by omega,by omega,Fr.refl _,World.ownsRow_nil _ _ _ _⟩
 case round=>
  obtain ⟨j,rfl,hj1,hjk,hf,hown⟩:=hrel
  replace b0:=hf.keep b0
  replace b1:=hf.keep b1
  replace b2:=hf.keep b2
  obtain ⟨wo,rfl⟩:∃ wo:World,wo=wr:=⟨_,rfl⟩
  by_cases hj:j≤lim
  ·have d1:decide (j≤lim)=true:=decide_eq_true hj
   have d2:decide ((j:Int)≤(lim:Int))=true:=decide_eq_true (by omega)
   have hpj:=hZ (hpa.out j hj1 (by omega) wo (hf46.trans hf))
   have hstep:=dvT_succ C (p0 :: r) (j - 1)
   rw [Nat.sub_add_cancel hj1] at hstep
   have hpl9:=hpl.out j
   have hpf9:=hpf.out j hj1 (by omega)
   have hdl:=dvT_len C (p0 :: r) (j - 1)
   obtain ⟨v,hv⟩:∃ v,v=patS (p0 :: r) (j:Int):=⟨_,rfl⟩
   rw [← hv] at hpj hstep hpl9 hpf9
   replace hv:=hZ hv
   obtain ⟨K,hK⟩:∃ K,K=(dvT C (p0 :: r) (j - 1)).length:=⟨_,rfl⟩
   rw [← hK] at hown hdl
   replace hstep:=hZ hstep
   replace hpf9:=hZ hpf9
   unfold PatRet at hpj
   rw [hpl9] at hpj
   replace hpl9:=hZ hpl9
   replace hK:=hZ hK
   go_wp2_with fail
   refine hpj.out.mono ?_
   rintro e w7 ⟨va,vc,rfl,hev,-,-,hf7⟩
   replace b0:=hf7.keep b0
   replace b1:=hf7.keep b1
   replace b2:=hf7.keep b2
   have hs7:=hZ (hsu.out v va vc w7 ((hf46.trans hf).trans hf7) hev hpl9.out hpf9.out)
   clear hev hpj
   cases hsv:supS C v with
   | false=>
     rw [hsv] at hs7
     have hst2:=hstep.out
     rw [if_neg (by rw [hsv]; decide)] at hst2
     replace hst2:=hZ hst2
     go_wp2_with fail
     refine hs7.out.mono ?_
     rintro e w8 ⟨rfl,hf8⟩
     have hown8:=hZ (ownsRow_fr hown.out (hf7.trans hf8))
     go_wp2_with fail
     go_roundg (gk - 1)
     case measure=>omega
     case rel=>exact ⟨j+1,by go_num,by omega,by omega,hf.trans (hf7.trans hf8),by rw [Nat.add_sub_cancel,hst2.out,← hK.out]; exact hown8.out⟩
   | true=>
     rw [hsv] at hs7
     have hst2:=hstep.out
     rw [if_pos hsv] at hst2
     replace hst2:=hZ hst2
     go_wp2_with fail
     refine hs7.out.mono ?_
     rintro e w8 ⟨rfl,hf8⟩
     have hown8:=ownsRow_fr hown.out (hf7.trans hf8)
     have hfo8:=hf.trans (hf7.trans hf8)
     have hs68:=hfo8.size
     go_wp2_with (at_builtin; refine wpList_append_lies _ rfl _ _ 23 (by rfl) _ 3 _ _ 1 8 Tryz.underlying23 hi hz0 hz1 hz2 rfl (by decide) _ K _ (by rfl) (World.ownsRow.alloc hown8 _) ⟨w8.heap.size,0,none⟩ 1 1 [.int .i64 j] (by rfl) rfl (cell_one_newN _ _ _ _ (by simp)) (by simp [Value.oneCell']) (by decide) (by unfold maxLen; omega) (by omega) (by skip; simp; omega) (w8.heap.size+1) (by simp) ?_; intro gA capA wA hownA hgrowA hatA hltA)
     have hownB:=hZ hownA
     have hfrA:Fr w6 wA:=(hfo8.alloc _).grown hgrowA (fun k e=>(hown8.lt k e).1)
     clear hownA hown8
     go_wp2_with fail
     go_roundg (gk - 1)
     case measure=>omega
     case rel=>exact ⟨j+1,by go_num,by omega,by omega,hfrA,by rw [Nat.add_sub_cancel,hst2.out,List.length_append,List.map_append,← hK.out]; exact hownB.out⟩
  ·obtain rfl:j=lim+1:=by omega
   have d1:decide (lim+1≤lim)=false:=decide_eq_false (by omega)
   have d2:decide (((lim+1:Nat):Int)≤(lim:Int))=false:=decide_eq_false (by omega)
   have d3:decide ((lim:Int)+1≤(lim:Int))=false:=decide_eq_false (by omega)
   rw [Nat.add_sub_cancel] at hown
   have hdl:=dvT_len C (p0 :: r) lim
   obtain ⟨L,hL⟩:∃ L,L=dvT C (p0 :: r) lim:=⟨_,rfl⟩
   rw [← hL] at hown hla hlz hlc hdl ⊢
   replace hL:=hZ hL
   obtain ⟨a9,c9,rfl,he9,-⟩:=own_readJ hown.out
   have hsi:=sameI_any L L la a9 lc c9 wo (hla.out.fr hf) he9 (by omega) (by omega)
   rw [decide_eq_true rfl] at hsi
   replace hsi:=hZ hsi
   have hend:=(hfw4.trans hf46).trans hf
   cases L with
   | nil=>
     obtain ⟨rfl,rfl⟩:=hlz.out rfl
     clear hown
     go_wp2_with fail
     refine hsi.out.mono ?_
     rintro e wz ⟨rfl,hfz⟩
     go_wp2_with fail
     go_ret
     exact ⟨rfl,hend.trans hfz⟩
   | cons x t=>
     obtain ⟨rfl,rfl⟩:=hlc.out x t rfl
     obtain ⟨gb,go,y,rfl,-,hy,hyc⟩:=he9.at (i:=0) (by simp)
     obtain rfl:ln=y:=by simpa using hy
     rw [Nat.add_zero] at hyc
     have y0:(0:Int) < (((ln :: t).length:Nat):Int):=by rw [List.length_cons]; omega
     have y1:decide ((0:Int) < (((ln :: t).length:Nat):Int))=true:=decide_eq_true y0
     have y2:decide (0 < (ln :: t).length)=true:=by simp
     generalize (ln :: t).length=K at *
     clear hown hy
     go_wp2_with fail
     refine hsi.out.mono ?_
     rintro e wz ⟨rfl,hfz⟩
     replace hyc:=hfz.keep hyc
     go_wp2_with fail
     go_ret
     exact ⟨rfl,hend.trans hfz⟩
end Go.Proofs.YtiniigadkknboaaGreatDoor
