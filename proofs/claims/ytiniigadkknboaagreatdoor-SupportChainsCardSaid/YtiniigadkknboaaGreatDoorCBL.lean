/- Contracts and laws: CBL. -/
import Derived.Test.YtiniigadkknboaaGreatDoorCBJ
import Derived.Test.YtiniigadkknboaaGreatDoorCBK
import Derived.Test.YtiniigadkknboaaGreatDoorCAG
import Derived.IntWalk
import Derived.Test.YtiniigadkknboaaGreatDoorCBD
import Derived.Test.YtiniigadkknboaaGreatDoorCBH
import Derived.Test.YtiniigadkknboaaGreatDoorCBE

set_option maxRecDepth 100000
set_option maxHeartbeats 1600000
namespace Go.Proofs.YtiniigadkknboaaGreatDoor
open Go.RowKit Go.Lib
attribute [local go_sem ↓] Go.wp_at_zero Go.wp_at_succ
theorem el_new (w:World) (xs:List Int) (cs:Array Value) (h:cs=(xs.map iv).toArray):El (w.alloc (.cells cs 3)) iv (some ⟨w.heap.size,0,none⟩) xs:=by
 subst h
 refine .inr ⟨w.heap.size,0,rfl,by simp,fun i x hx=>?_⟩
 rw [Nat.zero_add,cells_of (heap_alloc_new w _)]
 simp [hx]
theorem Known22_any (w:World) (hG:G w) (hE:ErX w) :
 Calls Tryz.prog 11 #[] w fun e w'=>e=.returned (.bool true)∧Fr w w':=by
 obtain ⟨wa,hwa⟩:∃ wa,wa=w.alloc (.cells #[.int .i64 2,.int .i64 3,.int .i64 5] 3):=⟨_,rfl⟩
 have hfa:Fr w wa:=by rw [hwa]; exact (Fr.refl _).alloc _
 have hPa:El wa iv (some ⟨w.heap.size,0,none⟩) [2,3,5]:=by rw [hwa]; exact el_new w _ _ rfl
 have hdv:=Divisions_any 2 [3,5] (some ⟨w.heap.size,0,none⟩) 3 12 19 wa (hG.fr hfa) (hE.fr hfa) k22_pr (by decide) hPa (.inr ⟨by decide,k22_po 12 (by decide) (by decide)⟩) (.inr ⟨by decide,k22_po 19 (by decide) (by decide)⟩)
 rw [show dvE (2 :: [3,5]) 12 19=0 from k22_E,show jA (2 :: [3,5]) (patS (2 :: [3,5]) 12) (patS (2 :: [3,5]) 19)=k22C from k22_A,show jS (2 :: [3,5]) (patS (2 :: [3,5]) 12) (patS (2 :: [3,5]) 19)=k22M from k22_S] at hdv
 unfold TRet at hdv
 rw [show ([3,5]:List Int).length+1=3 from rfl,show (2 :: [3,5]:List Int).length=3 from rfl,show k22C.length=1 from rfl,show k22M.length=2 from rfl] at hdv
 replace hdv:=hZ hdv
 have hG1:=hZ (fun W (hW:Fr w W)=>hG.fr hW)
 have hE1:=hZ (fun W (hW:Fr w W)=>hE.fr hW)
 clear hG hE hPa
 go_enter Tryz.func11,Tryz.ntmps11
 go_wp2_with fail
 rw [← hwa]
 clear hwa
 refine hdv.out.mono ?_
 rintro e w1 ⟨hf1,hok,-⟩
 obtain ⟨pa,pc,ca,cc,ma,mc,rfl,hel,hmc,hmm,hcc,hcm⟩:=hok trivial
 clear hok hdv
 obtain ⟨w2,hw2⟩:∃ w2,w2=w1.alloc (.cells #[.slice pa 3 pc,.slice ca 1 cc,.slice ma 2 mc] 29):=⟨_,rfl⟩
 have hf2:Fr w1 w2:=by rw [hw2]; exact (Fr.refl _).alloc _
 have hT:=C3.new w1 (.slice pa 3 pc) (.slice ca 1 cc) (.slice ma 2 mc) 29
 rw [← hw2] at hT
 obtain ⟨tb,htb⟩:∃ tb,tb=w1.heap.size:=⟨_,rfl⟩
 rw [← htb] at hT
 have hfw:=(hfa.trans hf1).trans hf2
 have htm:TmF w2 pa ca ma pc cc mc k22P k22C k22M 0:=TmF.of (hG1.out _ hfw) ((hel w1 (Fx.refl _ _)).fr hf2) ((hmc w1 (Fx.refl _ _)).fr hf2) ((hmm w1 (Fx.refl _ _)).fr hf2) hcc k22_T
 have hpt:=Patents_any pa ca ma pc cc mc 2 [3,5] k22C k22M 0 31 w2 htm (fun _=>⟨k22_pr,htm.p,htm.c,k22_T.tabC.2.2.1,k22_T.tabC.1,k22_T.tabC.2.2.2,by decide,fun k h1 h2=>k22_po k h1 h2⟩) (hG1.out _ hfw)
 rw [show limE 0 31=0 from rfl,show dvT k22C (2 :: [3,5]) (31:Int).toNat=[5,7,12,19,24,26,31] from k22_dv,show ([3,5]:List Int).length+1=3 from rfl,show k22C.length=1 from rfl,show k22M.length=2 from rfl] at hpt
 unfold PtRet at hpt
 rw [show ([5,7,12,19,24,26,31]:List Int).length=7 from rfl] at hpt
 have b0:=hT.a
 have b1:=hT.b
 have b2:=hT.c
 replace hpt:=hZ hpt
 replace htm:=hZ htm
 replace hcm:=hZ hcm
 clear hT hel hmc hmm hcc
 go_upto_region 3 with (fail)
 rw [← hw2,← htb]
 clear hw2
 replace htb:=hZ htb
 go_wp2_with fail
 refine hpt.out.mono ?_
 rintro e w3 ⟨hf3,-,hok⟩
 obtain ⟨la,lc,rfl,hla⟩:=hok trivial
 clear hok hpt
 replace b0:=hf3.keep b0
 replace b1:=hf3.keep b1
 replace b2:=hf3.keep b2
 replace hla:=hZ hla
 have hfw3:=hfw.trans hf3
 obtain ⟨w4,hw4⟩:∃ w4,w4=w3.alloc (.cells #[.int .i64 12,.int .i64 19,.int .i64 28] 3):=⟨_,rfl⟩
 have hf4:Fr w3 w4:=by rw [hw4]; exact (Fr.refl _).alloc _
 have hv4:El w4 iv (some ⟨w3.heap.size,0,none⟩) [12,19,28]:=by rw [hw4]; exact el_new w3 _ _ rfl
 have hco:=SCoord_any pa ca ma pc cc mc k22P k22C k22M 0 [12,19,28] ([0,0,0],[12,19]) (some ⟨w3.heap.size,0,none⟩) 3 w4 (htm.out.fr (hf3.trans hf4)) hv4 (by decide) (hG1.out _ (hfw3.trans hf4)) (hE1.out _ (hfw3.trans hf4)) (fun _=>⟨k22_T.tabM,hcm.out,by decide,k22_red,fun x hx=>by
  have h9:Wd x:=by simp at hx; rcases hx with rfl | rfl <;> exact Wd.of40 (by decide)
  have:=h9.size; omega⟩)
 have hs0:sE 0 k22P [12,19,28]=0:=by
  unfold sE; rw [if_neg (by decide)]; exact k22_val.1
 rw [hs0,k22_sup.1,show k22P.length=3 from rfl,show k22C.length=1 from rfl,show k22M.length=2 from rfl,show ([12,19,28]:List Int).length=3 from rfl] at hco
 unfold SCoRet at hco
 rw [show (([0,0,0],[12,19]):List Int×List Int).2.length=2 from rfl] at hco
 replace hco:=hZ hco
 clear hs0 hv4
 go_wp2_with fail
 rw [← hw4]
 clear hw4
 refine hco.out.mono ?_
 rintro e w5 ⟨hf5,-,-,-,-,hok⟩
 obtain ⟨ka,kc,rfl,hka⟩:=hok trivial trivial rfl rfl
 clear hok hco
 replace hka:=hZ hka
 have hf35:=hf4.trans hf5
 have hfw5:=hfw3.trans hf35
 replace b0:=hf35.keep b0
 replace b1:=hf35.keep b1
 replace b2:=hf35.keep b2
 obtain ⟨w6,hw6⟩:∃ w6,w6=(w5.alloc (.cells #[.int .i64 5,.int .i64 8,.int .i64 12] 3)).alloc (.cells #[.int .i64 7,.int .i64 11,.int .i64 16] 3):=⟨_,rfl⟩
 have hf6:Fr w5 w6:=by rw [hw6]; exact ((Fr.refl _).alloc _).alloc _
 have hv6:El w6 iv (some ⟨w5.heap.size,0,none⟩) [5,8,12]:=by rw [hw6]; exact (el_new w5 [5,8,12] _ rfl).fr ((Fr.refl _).alloc _)
 have hu6:El w6 iv (some ⟨w5.heap.size+1,0,none⟩) [7,11,16]:=by
  have:=el_new (w5.alloc (.cells #[.int .i64 5,.int .i64 8,.int .i64 12] 3)) [7,11,16] _ rfl
  rw [World.size_alloc] at this
  rw [hw6]; exact this
 have hch:=Chain_any pa ca ma pc cc mc k22P k22C k22M 0 [5,8,12] [7,11,16] (some ⟨w5.heap.size,0,none⟩) (some ⟨w5.heap.size+1,0,none⟩) 3 3 5 w6 (htm.out.fr ((hf3.trans hf35).trans hf6)) hv6 hu6 (by decide) (by decide) (hG1.out _ (hfw5.trans hf6))
 have hs0:sbegE 0 k22P [[5,8,12],[7,11,16]]=0:=by
  unfold sbegE
  rw [if_neg (by decide)]
  show firstE [valE k22P [5,8,12],valE k22P [7,11,16]]=0
  rw [k22_val.2.1,k22_val.2.2]; rfl
 rw [hs0,k22_sup.2.1,k22_sup.2.2,show chE 0 true true 5=0 from rfl,show chL [5,8,12] [7,11,16] ((5:Int).toNat - 2)=_ from k22_ch,show k22P.length=3 from rfl,show k22C.length=1 from rfl,show k22M.length=2 from rfl,show ([5,8,12]:List Int).length=3 from rfl,show ([7,11,16]:List Int).length=3 from rfl] at hch
 unfold ChRet at hch
 replace hch:=hZ hch
 clear hs0 hv6 hu6
 go_wp2_with fail
 rw [← hw6]
 clear hw6
 refine hch.out.mono ?_
 rintro e w7 ⟨hf7,-,-,hok⟩
 obtain ⟨da,dc,rfl,hda⟩:=hok trivial _ rfl
 clear hok hch
 have hf57:=hf6.trans hf7
 replace b1:=hf57.keep b1
 clear b0 b2
 have hfw7:=hfw5.trans hf57
 have hda2:MatIs w7 da [[5,8,12],[7,11,16],[12,19,28],[19,30,44],[31,49,72]]:=hda
 obtain ⟨db,dq,ra,rc,rfl,hdc,hde⟩:=hda2.at (i:=4) (by decide)
 replace hdc:w7.cell? ⟨db,dq+4,none⟩=some (.slice ra 3 rc):=hdc
 replace hde:El w7 iv ra [31,49,72]:=hde
 replace hde:=hZ hde
 clear hda hda2
 have hC7:=htm.out.c.fr ((hf3.trans hf35).trans hf57)
 obtain ⟨w8,hw8⟩:∃ w8,w8=(w7.alloc (.cells #[.int .i64 4,.int .i64 (-4),.int .i64 1] 3)).alloc (.cells #[.slice (some ⟨w7.heap.size,0,none⟩) 3 3] 33):=⟨_,rfl⟩
 have hf8:Fr w7 w8:=by rw [hw8]; exact ((Fr.refl _).alloc _).alloc _
 have hm8:MatIs w8 (some ⟨w7.heap.size+1,0,none⟩) k22C:=by
  have:=Mat_one (w7.alloc (.cells #[.int .i64 4,.int .i64 (-4),.int .i64 1] 3)) (some ⟨w7.heap.size,0,none⟩) [4,-4,1] 3 (el_new w7 [4,-4,1] _ rfl)
  rw [World.size_alloc] at this
  rw [hw8]; exact this
 have heq:=Eq6_yes k22C ca (some ⟨w7.heap.size+1,0,none⟩) cc 1 w8 (hC7.fr hf8) hm8 (by decide) (by decide)
 rw [show k22C.length=1 from rfl] at heq
 replace heq:=hZ heq
 clear hC7 hm8 htm hcm
 go_wp2_with fail
 rw [← hw8]
 clear hw8
 refine heq.out.mono ?_
 rintro e w9 ⟨rfl,hf9⟩
 have hf39:=(hf35.trans hf57).trans (hf8.trans hf9)
 obtain ⟨wA,hwA⟩:∃ wA,wA=w9.alloc (.cells #[.int .i64 5,.int .i64 7,.int .i64 12,.int .i64 19,.int .i64 24,.int .i64 26,.int .i64 31] 3):=⟨_,rfl⟩
 have hfA:Fr w9 wA:=by rw [hwA]; exact (Fr.refl _).alloc _
 have hvA:El wA iv (some ⟨w9.heap.size,0,none⟩) [5,7,12,19,24,26,31]:=by rw [hwA]; exact el_new w9 _ _ rfl
 have hsi:=sameI_any [5,7,12,19,24,26,31] [5,7,12,19,24,26,31] la (some ⟨w9.heap.size,0,none⟩) lc 7 wA (hla.out.fr (hf39.trans hfA)) hvA (by decide) (by decide)
 rw [decide_eq_true rfl,show ([5,7,12,19,24,26,31]:List Int).length=7 from rfl] at hsi
 replace hsi:=hZ hsi
 clear hvA heq hla
 go_wp2_with fail
 rw [← hwA]
 clear hwA
 refine hsi.out.mono ?_
 rintro e wB ⟨rfl,hfB⟩
 have hf5B:=((hf57.trans (hf8.trans hf9)).trans hfA).trans hfB
 obtain ⟨wC,hwC⟩:∃ wC,wC=wB.alloc (.cells #[.int .i64 12,.int .i64 19] 3):=⟨_,rfl⟩
 have hfC:Fr wB wC:=by rw [hwC]; exact (Fr.refl _).alloc _
 have hvC:El wC iv (some ⟨wB.heap.size,0,none⟩) [12,19]:=by rw [hwC]; exact el_new wB _ _ rfl
 have hrw:=EqRows_any [12,19] [12,19] ka (some ⟨wB.heap.size,0,none⟩) kc 2 wC (hka.out.fr (hf5B.trans hfC)) hvC (by decide) (by decide)
 rw [decide_eq_true rfl,show ([12,19]:List Int).length=2 from rfl] at hrw
 replace hrw:=hZ hrw
 clear hvC hsi hka
 go_wp2_with fail
 rw [← hwC]
 clear hwC
 refine hrw.out.mono ?_
 rintro e wD ⟨rfl,hfD⟩
 have hf7D:=(((hf8.trans hf9).trans hfA).trans hfB).trans (hfC.trans hfD)
 replace hdc:=hf7D.keep hdc
 obtain ⟨wE,hwE⟩:∃ wE,wE=wD.alloc (.cells #[.int .i64 31,.int .i64 49,.int .i64 72] 3):=⟨_,rfl⟩
 have hfE:Fr wD wE:=by rw [hwE]; exact (Fr.refl _).alloc _
 have hvE:El wE iv (some ⟨wD.heap.size,0,none⟩) [31,49,72]:=by rw [hwE]; exact el_new wD _ _ rfl
 have hre:=EqRows_any [31,49,72] [31,49,72] ra (some ⟨wD.heap.size,0,none⟩) rc 3 wE (hde.out.fr (hf7D.trans hfE)) hvE (by decide) (by decide)
 rw [decide_eq_true rfl,show ([31,49,72]:List Int).length=3 from rfl] at hre
 replace hre:=hZ hre
 clear hvE hrw hde
 go_wp2_with fail
 rw [← hwE]
 clear hwE
 refine hre.out.mono ?_
 rintro e wF ⟨rfl,hfF⟩
 go_wp2_with fail
 go_ret
 exact ⟨rfl,(hfw7.trans hf7D).trans (hfE.trans hfF)⟩
theorem el_fxlt {w0 W W':World} {a:Option Addr} {xs:List Int} {g:Nat} (h:El w0 iv a xs) (hf:Fr w0 W) (k:Fx (·=g) W W') (hg:w0.heap.size≤g):El W' iv a xs:=by
 rcases h with h | ⟨b,o,ha,hb,hc⟩
 ·exact .inl h
 ·have hb2:=Nat.lt_of_lt_of_le hb hf.size
  exact .inr ⟨b,o,ha,Nat.lt_of_lt_of_le hb2 k.size,fun i x hx=>k.keep (hf.keep (hc i x hx)) (fun e=>by have e:b=g:=e; omega)⟩
def acS (M:List (List Int)) (c:List Int) (k:Nat):Nat→Int
 | 0=>0
 | i+1=>acS M c k i+(c[i % 4]?).getD 0 * ent M i k
def valL (M:List (List Int)) (c:List Int) (n:Nat):List Int:=(List.range n).map fun k=>acS M c k M.length
def vrow (M:List (List Int)) (c:List Int) (n i j:Nat):List Int:=(List.range n).map fun k=>if k < j then acS M c k (i+1) else acS M c k i
theorem vrow_len (M:List (List Int)) (c:List Int) (n i j:Nat):(vrow M c n i j).length=n:=by unfold vrow; rw [List.length_map,List.length_range]
theorem vrow_get {M:List (List Int)} {c:List Int} {n i j k:Nat} (hk:k < n):(vrow M c n i j)[k]?=some (if k < j then acS M c k (i+1) else acS M c k i):=by
 unfold vrow; rw [List.getElem?_map,List.getElem?_range hk]; rfl
theorem vrow_set {M:List (List Int)} {c:List Int} {n i j:Nat} (hj:j < n):(vrow M c n i j).set j (acS M c j (i+1))=vrow M c n i (j+1):=by
 refine List.ext_getElem? fun k=>?_
 by_cases hk:k < n
 ·rw [List.getElem?_set,vrow_get hk,vrow_len,vrow_get hk]
  by_cases e:j=k
  ·subst e; rw [if_pos rfl,if_pos hj,if_pos (by omega)]
  ·rw [if_neg e]
   by_cases h:k < j
   ·rw [if_pos h,if_pos (by omega)]
   ·rw [if_neg h,if_neg (by omega)]
 ·rw [List.getElem?_eq_none (by rw [List.length_set,vrow_len]; omega),List.getElem?_eq_none (by rw [vrow_len]; omega)]
theorem vrow_next {M:List (List Int)} {c:List Int} {n i:Nat}:vrow M c n i n=vrow M c n (i+1) 0:=by
 unfold vrow
 refine List.map_congr_left fun k hk=>?_
 rw [if_pos (List.mem_range.1 hk),if_neg (Nat.not_lt_zero _)]
theorem vrow_zero {M:List (List Int)} {c:List Int} {n:Nat}:vrow M c n 0 0=List.replicate n 0:=by
 refine List.ext_getElem? fun k=>?_
 by_cases hk:k < n
 ·rw [vrow_get hk,List.getElem?_replicate,if_pos hk,if_neg (Nat.not_lt_zero _)]; rfl
 ·rw [List.getElem?_eq_none (by rw [vrow_len]; omega),List.getElem?_eq_none (by rw [List.length_replicate]; omega)]
theorem vrow_end {M:List (List Int)} {c:List Int} {n:Nat}:vrow M c n M.length 0=valL M c n:=by
 unfold vrow valL
 exact List.map_congr_left fun k hk=>by rw [if_neg (Nat.not_lt_zero _)]
theorem c8_bd {c:List Int} (hc:∀ x,x ∈ c→-128≤x∧x≤127) (i:Nat):((c[i]?).getD 0).natAbs≤128:=by
 cases e:c[i]? with
 | none=>simp
 | some x=>have:=hc x (List.mem_of_getElem? e); rw [Option.getD_some]; omega
theorem cz_bd {x y:Int} (hx:x.natAbs≤128) (hy:y.natAbs≤1000000000):(x * y).natAbs≤128000000000:=by
 have:=Nat.mul_le_mul hx hy
 rwa [← Int.natAbs_mul] at this
theorem acS_bd {M:List (List Int)} {c:List Int} (hc:∀ x,x ∈ c→-128≤x∧x≤127) (hM:∀ i k,(ent M i k).natAbs≤1000000000) (k:Nat):∀ i,(acS M c k i).natAbs≤i * 128000000000
 | 0=>by show (0:Int).natAbs≤_; simp
 | i+1=>by
   have h1:=acS_bd hc hM k i
   have h2:=cz_bd (c8_bd hc (i % 4)) (hM i k)
   show (acS M c k i+(c[i % 4]?).getD 0 * ent M i k).natAbs≤_
   rw [Nat.add_mul,Nat.one_mul]
   omega
theorem vals22_any (M:List (List Int)) (v0 v1 v2 v3:Int) (n:Nat) (aP aC aM:Option Addr) (cP nC cC cM:Nat) (w:World) (hG:G w) (hM:MatIs w aM M) (hT:TabOk n M) (hc:∀ x,x ∈ [v0,v1,v2,v3]→-128≤x∧x≤127) (hn1:1≤n) :
 Calls Tryz.prog 21 #[.agg #[.slice aP n cP,.slice aC nC cC,.slice aM M.length cM],.agg #[.int .i8 v0,.int .i8 v1,.int .i8 v2,.int .i8 v3]] w fun e w'=>∃ g cp,e=.returned (.slice (some ⟨g,0,none⟩) n cp)∧Fr w w'∧OwnI w' g 0 (valL M [v0,v1,v2,v3] n)∧w.heap.size≤g:=by
 have hgn:=gN_le hG
 obtain ⟨i0,hi,hz0,hz1,hz2⟩:=info_parts infoInt
 obtain ⟨c,hc9⟩:∃ c,c=[v0,v1,v2,v3]:=⟨_,rfl⟩
 obtain ⟨N,hN⟩:∃ N,N=M.length:=⟨_,rfl⟩
 have hN12:N≤12:=by have:=hT.1; omega
 have hn12:n≤12:=hT.2.1
 obtain ⟨wb,hwb⟩:∃ wb,wb=(w.alloc (.cells #[.slice aP n cP,.slice aC nC cC,.slice aM N cM] 29)).alloc (.cells #[.int .i8 v0,.int .i8 v1,.int .i8 v2,.int .i8 v3] 44):=⟨_,rfl⟩
 have hfb:Fr w wb:=by rw [hwb]; exact ((Fr.refl _).alloc _).alloc _
 have hB:=(C3.new w (.slice aP n cP) (.slice aC nC cC) (.slice aM N cM) 29).fr ((Fr.refl _).alloc (.cells #[.int .i8 v0,.int .i8 v1,.int .i8 v2,.int .i8 v3] 44))
 rw [← hwb] at hB
 have g1:wb.heap[w.heap.size+1]?=some (.cells #[.int .i8 v0,.int .i8 v1,.int .i8 v2,.int .i8 v3] 44 (0,0)):=by
  have:=heap_alloc_new (w.alloc (.cells #[.slice aP n cP,.slice aC nC cC,.slice aM N cM] 29)) (.cells #[.int .i8 v0,.int .i8 v1,.int .i8 v2,.int .i8 v3] 44 (0,0))
  rw [World.size_alloc] at this
  rw [hwb]; exact this
 have hcl:∀ i,i < 4→wb.cell? ⟨w.heap.size+1,i,none⟩=some (.int .i8 ((c[i]?).getD 0)):=fun i h=>by
  rw [cells_of g1,hc9]
  match i,h with
  | 0,_ | 1,_ | 2,_ | 3,_=>rfl
 have hsz:wb.heap.size=w.heap.size+2:=by rw [hwb,World.size_alloc,World.size_alloc]
 have heb:∀ i k,(ent M i k).natAbs≤1000000000:=fun i k=>ent_bd (fun r hr x hx=>by
  have:=hT.2.2.2 r hr x hx
  unfold fitB at this
  have:=of_decide_eq_true this
  omega) i k
 rw [← hc9] at hc ⊢
 rw [← hN]
 have hab:=fun k i=>acS_bd hc heb k i
 have hcb:=fun i=>c8_bd hc i
 have a0:=hB.a
 have a2:=hB.c
 have hrl:∀ i,i < N→(rowAt M i).length=n:=fun i h=>rowAt_len hT.2.2.1 (by omega)
 have hMb:=hM.fr hfb
 replace hN:=hZ hN
 replace hc9:=hZ hc9
 replace hc:=hZ hc
 replace heb:=hZ heb
 replace hab:=hZ hab
 replace hcb:=hZ hcb
 replace hcl:=hZ hcl
 replace hrl:=hZ hrl
 replace hMb:=hZ hMb
 clear hB g1 hM hT hG
 go_enter Tryz.func21,Tryz.ntmps21
 go_upto_region 1 with (fail)
 rw [← hwb]
 clear hwb
 go_wp2_with (at_make; refine wpList_make_full _ rfl _ _ 33 rfl wb.heap.size 3 i0 _ 1 Tryz.underlying33 hi hz0 hz1 _ _ _ _ n (by rfl) (by rfl) (by omega) (by omega) (by rw [hz2]; omega) (by unfold maxLen; omega) (Nat.le_refl _) ?_; intro w2 hown2 hgr2; rw [made_zero n rfl] at hown2; obtain ⟨hO,-,-,hgb,hcp⟩:=ownsRow_ownI (Nat.le_trans hgn hfb.size) hown2; have hf2:Fr wb w2:=(Fr.refl _).grown hgr2 (fun k e=>by cases e); replace hO:=hZ hO; clear hgr2)
 clear hown2
 obtain ⟨g,hg⟩:∃ g,g=w.heap.size+2:=⟨_,rfl⟩
 have hO1:=hO.out
 rw [hsz,← hg] at hO1
 replace hO:=hZ hO1
 rw [← hg]
 have hg2:w.heap.size+2≤g:=by omega
 have hgb8:g≤w.heap.size+2:=by omega
 have hgb7:wb.heap.size≤g:=by omega
 clear hO1 hg
 replace hsz:=hZ hsz
 have hgw2:g < w2.heap.size:=hO.out.2.1
 have b0:=hf2.keep a0
 have b2:=hf2.keep a2
 have hM2:=hZ (hMb.out.fr hf2)
 replace hO:Hid (OwnI w2 g 0 (vrow M c n 0 0)):=by rw [vrow_zero]; exact hO
 go_wp2_with fail
 go_loopg [6] N (fun kk s6 wr=>∃ i:Nat,s6=.int .i64 i∧i+kk=N∧Fx (·=g) w2 wr∧Hid (OwnI wr g 0 (vrow M c n i 0)))
 case atStart=>exact ⟨0,rfl,by omega,Fx.refl _ _,hO.out⟩
 case round=>
  clear hO
  obtain ⟨i,rfl,hik,hfx,hO⟩:=hrel
  obtain ⟨wo,rfl⟩:∃ wo:World,wo=wr:=⟨_,rfl⟩
  obtain ⟨ko,rfl⟩:∃ ko:Nat,ko=gk:=⟨_,rfl⟩
  have d0:=hfx.keep (q:=⟨w.heap.size,0,none⟩) b0 (by show ¬ w.heap.size=g; omega)
  have d2:=hfx.keep (q:=⟨w.heap.size,2,none⟩) b2 (by show ¬ w.heap.size=g; omega)
  by_cases hi9:i < N
  ·have e1:decide (i < N)=true:=decide_eq_true hi9
   have e2:decide ((i:Int) < (N:Int))=true:=decide_eq_true (by omega)
   obtain ⟨mb,mo,ra,rc,rfl,hrc,hre⟩:=hMb.out.at (i:=i) (by rw [← hN.out]; exact hi9)
   have hrow:rowAt M i=M[i]'(by rw [← hN.out]; exact hi9):=rowAt_eq _
   rw [← hrow] at hrc hre
   have hmlt:=World.block_lt_of_cell? wb _ hrc
   have hrl9:=hrl.out i hi9
   rw [hrl9] at hrc
   have hrc9:=hfx.keep (q:=⟨mb,mo+i,none⟩) (hf2.keep hrc) (by show ¬ mb=g; simp only at hmlt; omega)
   have hre9:=hZ (el_fxlt hre hf2 hfx (by omega))
   obtain ⟨i4,h4⟩:∃ i4,i4=i % 4:=⟨_,rfl⟩
   have h44:i4 < 4:=by rw [h4]; exact Nat.mod_lt _ (by decide)
   have hmod:(i:Int).tmod 4=(i4:Int):=by rw [h4]; rfl
   have hcc:=hfx.keep (q:=⟨w.heap.size+1,i4,none⟩) (hf2.keep (hcl.out i4 h44)) (by show ¬ w.heap.size+1=g; omega)
   have hcb9:=hcb.out i4
   obtain ⟨ci,hci⟩:∃ ci,ci=(c[i4]?).getD 0:=⟨_,rfl⟩
   rw [← hci] at hcc hcb9
   have hcstep:∀ k,acS M c k (i+1)=acS M c k i+ci * ent M i k:=fun k=>by rw [hci,h4]; rfl
   replace hrow:=hZ hrow
   replace hrl9:=hZ hrl9
   replace h4:=hZ h4
   replace hci:=hZ hci
   replace hcstep:=hZ hcstep
   have hmg:mb≠g:=by simp only at hmlt; omega
   have hre0:=hZ hre
   clear hrc hre hmlt hre9
   go_wp2_with fail
   go_loopg [7] n (fun kk s7 wr=>∃ j:Nat,s7=.int .i64 j∧j+kk=n∧Fx (·=g) wo wr∧Hid (OwnI wr g 0 (vrow M c n i j)))
   case atStart=>exact ⟨0,rfl,by omega,Fx.refl _ _,hO.out⟩
   case round=>
    clear hO
    obtain ⟨j,rfl,hjk,hfy,hO⟩:=hrel
    obtain ⟨wp,rfl⟩:∃ wp:World,wp=wr:=⟨_,rfl⟩
    by_cases hj9:j < n
    ·have f1:decide (j < n)=true:=decide_eq_true hj9
     have f2:decide ((j:Int) < (n:Int))=true:=decide_eq_true (by omega)
     have y2:=hfy.keep (q:=⟨w.heap.size,2,none⟩) d2 (by show ¬ w.heap.size=g; omega)
     have yc:=hfy.keep (q:=⟨w.heap.size+1,i4,none⟩) hcc (by show ¬ w.heap.size+1=g; omega)
     have yr:=hfy.keep (q:=⟨mb,mo+i,none⟩) hrc9 (by show ¬ mb=g; exact hmg)
     obtain ⟨rb,ro,z,rfl,-,hz9,hzc⟩:=(el_fxlt hre0.out hf2 (hfx.trans hfy) (by omega)).at (i:=j) (by rw [hrl9.out]; exact hj9)
     have hze:ent M i j=z:=by unfold ent; rw [hz9]; rfl
     have hzb:=heb.out i j
     rw [hze] at hzb
     have hst:=hcstep.out j
     rw [hze] at hst
     have hAb:=hab.out j i
     obtain ⟨A,hA⟩:∃ A,A=acS M c j i:=⟨_,rfl⟩
     rw [← hA] at hAb hst
     have hA1:=hO.out.2.2 j A (by rw [vrow_get hj9,if_neg (by omega),hA])
     rw [Nat.zero_add] at hA1
     obtain ⟨o1,o2⟩:=hA1
     have hOs:=ownI_set hO.out (k:=j) (by rw [vrow_len]; exact hj9) (acS M c j (i+1))
     rw [vrow_set hj9,Nat.zero_add,hst] at hOs
     have hprod:=cz_bd hcb9 hzb
     have z0:(0:Int)≤(i:Int):=Int.natCast_nonneg _
     have z1:(i:Int) < (N:Int):=by omega
     have z2:(0:Int)≤(j:Int):=Int.natCast_nonneg _
     have z3:(j:Int) < (n:Int):=by omega
     have z4:(0:Int)≤(i4:Int):=Int.natCast_nonneg _
     have z5:(i4:Int) < 4:=by omega
     have w0:IntKind.i64.wrap ci=ci:=IntWalk.i64_in _ (by omega)
     have w1:IntKind.i64.wrap (ci * z)=ci * z:=IntWalk.i64_in _ (by omega)
     have w2':IntKind.i64.wrap (A+ci * z)=A+ci * z:=IntWalk.i64_in _ (by omega)
     have hdr:=(Fr.refl wp).drew
     have o3:=hdr.keep o1
     have o4:=hdr.keepf o1 o2
     have s2:=hdr.keep y2
     have sc:=hdr.keep yc
     have sr:=hdr.keep yr
     have sz:=hdr.keep hzc
     replace hz9:=hZ hz9
     replace hze:=hZ hze
     replace hst:=hZ hst
     replace hA:=hZ hA
     replace hOs:=hZ hOs
     clear hAb hzb hprod
     go_wp2_with fail
     refine wp_region_U (S:=fun W=>W.cell? ⟨g,j,none⟩=some (.int .i64 A)∧W.cell? ⟨w.heap.size,2,none⟩=some (.slice (some ⟨mb,mo,none⟩) N cM)∧W.cell? ⟨w.heap.size+1,i4,none⟩=some (.int .i8 ci)∧W.cell? ⟨mb,mo+i,none⟩=some (.slice (some ⟨rb,ro,none⟩) n rc)∧W.cell? ⟨rb,ro+j,none⟩=some (.int .i64 z)) 20 (by kernel_rfl) ⟨o3,s2,sc,sr,sz⟩ (fun hHeld=>?_)
     refine uK 0 ?_
     refine uK 1 ?_
     refine uK 2 ?_
     refine uK 3 ?_
     refine uK 4 ?_
     refine uK 5 ?_
     refine uK 6 ?_
     refine uK 7 ?_
     refine uK 8 ?_
     refine uK 9 ?_
     refine uK 10 ?_
     refine uK 11 ?_
     refine uK 12 ?_
     refine uK 13 ?_
     refine uK 14 ?_
     refine uK 15 ?_
     refine uK 16 ?_
     refine uK 17 ?_
     refine uK 18 ?_
     refine uK 19 ?_
     refine uD 20 (fun K hK=>?_)
     go_simp
     refine hK.out _ _ ?_
     clear hK K
     clear hHeld
     refine uE ?_
     go_wp2_with fail
     have hOz:OwnI (wp.setCell ⟨g,j,none⟩ (.int .i64 (A+ci * z))).drew g 0 (vrow M c n i (j+1)):=hOs.out
     go_roundg (gk - 1)
     case measure=>omega
     case rel=>exact ⟨j+1,by go_num,by omega,hfy.trans ((Fx.setCell (p:=(·=g)) (q:=⟨g,j,none⟩) (Fx.refl _ wp) (.inl rfl) _).trans (Fx.of_fr (Fr.refl _).drew)),hOz⟩
    ·obtain rfl:j=n:=by omega
     have f1:decide (j < j)=false:=decide_eq_false (by omega)
     have f2:decide ((j:Int) < (j:Int))=false:=decide_eq_false (by omega)
     rw [vrow_next] at hO
     go_wp2_with fail
     go_roundg (ko - 1)
     case measure=>omega
     case rel=>exact ⟨i+1,by go_num,by omega,hfx.trans hfy,hO.out⟩
  ·obtain rfl:i=N:=by omega
   have e1:decide (i < i)=false:=decide_eq_false (by omega)
   have e2:decide ((i:Int) < (i:Int))=false:=decide_eq_false (by omega)
   have hO9:=hO.out
   rw [hN.out,vrow_end] at hO9
   replace hO9:=hZ hO9
   go_wp2_with fail
   go_ret
   exact ⟨g,n,rfl,((Fx.of_fr (hfb.trans hf2)).trans hfx).toFr (fun k hk e=>by have e:k=g:=e; omega),hO9.out,by omega⟩
theorem dotP_dtS (x v:List Int):∀ k,dotP x v k=dtS (fun j=>(x[j]?).getD 0) (fun j=>(v[j]?).getD 0) k
 | 0=>rfl
 | k+1=>by show dotP x v k+_=dtS _ _ k+_; rw [dotP_dtS x v k]
theorem supS_iff {n:Nat} {C:List (List Int)} {v:List Int} (hr:Rect n C):supS C v=true ↔ ∀ i,i < C.length→dtS (ent C i) (fun j=>(v[j]?).getD 0) n=0:=by
 unfold supS
 rw [List.all_eq_true]
 constructor
 ·intro h i hi
  have h1:=h _ (List.getElem_mem hi)
  have h2:dotP C[i] v C[i].length=0:=by simpa using h1
  rw [hr _ (List.getElem_mem hi),dotP_dtS] at h2
  have e:rowAt C i=C[i]:=rowAt_eq hi
  exact (dtS_congr fun k _=>⟨by unfold ent; rw [e],rfl⟩).trans h2
 ·intro h c hc
  obtain ⟨i,hi,rfl⟩:=List.getElem_of_mem hc
  have e:rowAt C i=C[i]:=rowAt_eq hi
  have h1:=h i hi
  have h2:dotP C[i] v C[i].length=0:=by
   rw [hr _ (List.getElem_mem hi),dotP_dtS]
   exact (dtS_congr fun k _=>⟨by unfold ent; rw [e],rfl⟩).trans h1
  rw [h2]; rfl
theorem addS_at {a b:List Int} (h:a.length=b.length) (k:Nat):((addS a b)[k]?).getD 0=(a[k]?).getD 0+(b[k]?).getD 0:=by
 by_cases hk:k < a.length
 ·have hl:k < (addS a b).length:=by rw [addS_len (n:=a.length) rfl h.symm]; exact hk
  rw [List.getElem?_eq_getElem hl,List.getElem?_eq_getElem hk,List.getElem?_eq_getElem (show k < b.length by omega)]
  simp [addS,addL]
 ·rw [List.getElem?_eq_none (by rw [addS_len (n:=a.length) rfl h.symm]; omega),List.getElem?_eq_none (by omega),List.getElem?_eq_none (show b.length≤k by omega)]
  rfl
theorem supS_add {n:Nat} {C:List (List Int)} {a b:List Int} (hr:Rect n C) (hl:a.length=b.length) (ha:supS C a=true) (hb:supS C b=true):supS C (addS a b)=true:=by
 rw [supS_iff hr] at ha hb ⊢
 intro i hi
 rw [dtS_flip,dtS_congr (f':=fun k=>(a[k]?).getD 0+1 * (b[k]?).getD 0) (g':=ent C i) (fun k _=>⟨by rw [addS_at hl]; omega,rfl⟩),dtS_add,dtS_mulL,dtS_flip,ha i hi,dtS_flip,hb i hi]
 rfl
theorem chL_sup {n:Nat} {C:List (List Int)} {v u:List Int} (hr:Rect n C) (hv:v.length=n) (hu:u.length=n) (hrv:rowE v=0) (hru:rowE u=0) (sv:supS C v=true) (su:supS C u=true):∀ (k:Nat) (l:List (List Int)),chL v u k=some l→∀ r,r ∈ l→supS C r=true
 | 0,l,h,r,hm=>by
   injection h with h
   subst h
   rcases List.mem_cons.1 hm with rfl | hm
   ·exact sv
   ·rw [List.mem_singleton.1 hm]; exact su
 | k+1,l,h,r,hm=>by
   rw [chL] at h
   obtain ⟨m,h1,h2⟩:=Option.bind_eq_some_iff.1 h
   have ih:=chL_sup hr hv hu hrv hru sv su k m h1
   obtain ⟨a,b⟩:=chL_some hv hu hrv hru k m h1
   by_cases e:rowE (addS (m[k]?.getD []) (m[k+1]?.getD []))=0
   ·rw [if_pos e] at h2
    injection h2 with h2
    subst h2
    rcases List.mem_append.1 hm with hm | hm
    ·exact ih r hm
    ·rw [List.mem_singleton.1 hm,List.getElem?_eq_getElem (by omega),List.getElem?_eq_getElem (by omega)]
     exact supS_add hr (by rw [Option.getD_some,Option.getD_some,(b _ (List.getElem_mem _)).1,(b _ (List.getElem_mem _)).1]) (ih _ (List.getElem_mem _)) (ih _ (List.getElem_mem _))
   ·rw [if_neg e] at h2; cases h2
theorem valL_len (M:List (List Int)) (c:List Int) (n:Nat):(valL M c n).length=n:=by unfold valL; rw [List.length_map,List.length_range]
theorem acS_dtS (M:List (List Int)) (c:List Int) (k:Nat):∀ i,acS M c k i=dtS (fun i=>(c[i % 4]?).getD 0) (fun l=>ent M l k) i
 | 0=>rfl
 | i+1=>by show acS M c k i+_=dtS _ _ i+_; rw [acS_dtS M c k i]
theorem valL_at {M:List (List Int)} {c:List Int} {n:Nat} (hr:Rect n M) (k:Nat):((valL M c n)[k]?).getD 0=dtS (fun i=>(c[i % 4]?).getD 0) (fun l=>ent M l k) M.length:=by
 by_cases hk:k < n
 ·unfold valL
  rw [List.getElem?_map,List.getElem?_range hk,← acS_dtS]; rfl
 ·rw [List.getElem?_eq_none (by rw [valL_len]; omega),dtS_flip,dtS_congr (f':=fun _=>0) (g':=fun i=>(c[i % 4]?).getD 0) (fun i _=>⟨ent_lt hr (by omega),rfl⟩),dtS_zeroL]; rfl
theorem Tg.krM {P:List Int} {C M:List (List Int)} (h:Tg P C M) (x:Nat→Int):Spn M.length (ent M) x ↔ Orth P.length C x:=by
 obtain ⟨gW,p,t,r,k⟩:=ker_is (n:=P.length) h.n4 (by decide) KA_pos (B:=1000000000) (m:=C) (fun r hr x hx=>by
  have:=h.tabC.2.2.2 r hr x hx
  unfold fitB at this
  have:=of_decide_eq_true this
  omega)
 have e:ker P.length C=M:=by unfold ker; rw [h.ann]; rfl
 rw [e] at k
 exact k.spans x
theorem Tg.sup {P:List Int} {C M:List (List Int)} (h:Tg P C M) {v:List Int} (hl:v.length=P.length):supS C v=true ↔ Spn M.length (ent M) (fun j=>(v[j]?).getD 0):=by
 rw [h.krM,supS_iff h.tabC.2.2.1]
 refine ⟨fun a=>⟨fun k hk=>by show (v[k]?).getD 0=0; rw [List.getElem?_eq_none (by omega)]; rfl,a⟩,fun a=>a.2⟩
theorem Tg.val {P:List Int} {C M:List (List Int)} (h:Tg P C M) (c:List Int):supS C (valL M c P.length)=true :=
 (h.sup (valL_len _ _ _)).2 ((sum_spn (fun i=>(c[i % 4]?).getD 0) M.length (Nat.le_refl _)).congr fun k=>valL_at h.tabM.2.2.1 k)
theorem rowE_of {v:List Int} (hl:v.length≤64) (hf:∀ y,y ∈ v→fitB y=true):rowE v=0 :=
 rowE_ok (by omega) (List.any_eq_false.2 fun y hy=>by simp [hf y hy])
theorem valE_of {P v:List Int} (hp:primeE P=0) (hl:v.length=P.length) (hf:∀ y,y ∈ v→fitB y=true):valE P v=0:=by
 have h6:=(primeE_mem hp).2.1
 have hr:=rowE_of (by omega) hf
 unfold valE
 rw [if_neg (by rw [hp]; simp),if_neg (by rw [hr]; simp),if_neg (by rw [hl]; simp)]
def QuadIs (w:World) (a:Option Addr) (L:List (List Int)):Prop :=
 L=[]∨∃ b o,a=some ⟨b,o,none⟩∧b < w.heap.size∧∀ (i:Nat) (r:List Int),L[i]?=some r→∀ (k:Nat) (x:Int),r[k]?=some x→w.cell? ⟨b,o+i * 4+k,none⟩=some (.int .i8 x)
theorem QuadIs.fr {w w':World} {a:Option Addr} {L:List (List Int)} (h:QuadIs w a L) (k:Fr w w'):QuadIs w' a L:=by
 rcases h with h | ⟨b,o,ha,hb,hc⟩
 ·exact .inl h
 ·exact .inr ⟨b,o,ha,Nat.lt_of_lt_of_le hb k.size,fun i r hr j x hx=>k.keep (hc i r hr j x hx)⟩
def Quad8 (L:List (List Int)):Prop:=∀ r,r ∈ L→r.length=4∧∀ x,x ∈ r→-128≤x∧x≤127
theorem quad4 {r:List Int} (h:r.length=4):∃ a b c d,r=[a,b,c,d]:=by
 match r,h with
 | [a,b,c,d],_=>exact ⟨a,b,c,d,rfl⟩
theorem QuadIs.at {w:World} {a:Option Addr} {L:List (List Int)} (h:QuadIs w a L) (h8:Quad8 L) {i:Nat} (hi:i < L.length):∃ b o v0 v1 v2 v3,a=some ⟨b,o,none⟩∧L[i]?=some [v0,v1,v2,v3]∧w.cell? ⟨b,o+i * 4,none⟩=some (.int .i8 v0)∧w.cell? ⟨b,o+i * 4+1,none⟩=some (.int .i8 v1)∧w.cell? ⟨b,o+i * 4+2,none⟩=some (.int .i8 v2)∧w.cell? ⟨b,o+i * 4+3,none⟩=some (.int .i8 v3)∧∀ x,x ∈ [v0,v1,v2,v3]→-128≤x∧x≤127:=by
 rcases h with h | ⟨b,o,ha,-,hc⟩
 ·subst h; simp at hi
 ·have h9:=h8 _ (List.getElem_mem hi)
  have hg:L[i]?=some L[i]:=List.getElem?_eq_getElem hi
  obtain ⟨v0,v1,v2,v3,he⟩:=quad4 h9.1
  rw [he] at hg h9
  exact ⟨b,o,v0,v1,v2,v3,ha,hg,hc i _ hg 0 v0 rfl,hc i _ hg 1 v1 rfl,hc i _ hg 2 v2 rfl,hc i _ hg 3 v3 rfl,h9.2⟩
theorem Make18_any (np:Int) (qa:Option Addr) (QL:List (List Int)) (qc:Nat) (vals:Bool) (w:World) (hG:G w) (hE:ErX w) (hnp:0≤np∧np≤255) (hQ:QuadIs w qa QL) (hQ8:Quad8 QL) (hq3:QL.length≤3) :
 Calls Tryz.prog 20 #[.agg #[.int .u8 np,.slice qa QL.length qc,.bool vals]] w fun e w'=>∃ (P:List Int) (C M:List (List Int)) (aP aC aM:Option Addr) (cP cC cM:Nat),e=.returned (.agg #[.slice aP P.length cP,.slice aC C.length cC,.slice aM M.length cM])∧El w' iv aP P∧MatIs w' aC C∧MatIs w' aM M∧C.length≤cC∧M.length≤cM∧P=prm np∧Tg P C M∧Fr w w':=by
 have hgn:=gN_le hG
 obtain ⟨i1,ji,jz0,jz1,jz2⟩:=info_parts infoRow
 have hpr:=fun W=>Primes12_any np hnp.1 hnp.2 W
 obtain ⟨po1,po2,po3⟩:=pl10_ok (np.tmod 10).toNat
 change primeE (prm np)=0 at po1
 change 1≤(prm np).length at po2
 change (prm np).length≤4 at po3
 have hbd:=fun (m:List (List Int)) (aP am:Option Addr) (cP cm:Nat) (W:World) (hW:Fr w W) hP hm hr h3 hb hz=>Build18_any (prm np) m vals aP am cP cm W (hG.fr hW) (hE.fr hW) po1 po2 po3 hP hm hr h3 hb hz
 generalize prm np=P at *
 obtain ⟨n,hn⟩:∃ n,n=P.length:=⟨_,rfl⟩
 rw [← hn] at hpr po2 po3 hbd
 obtain ⟨q,hq⟩:∃ q,q=QL.length:=⟨_,rfl⟩
 rw [← hq] at hq3 ⊢
 obtain ⟨M,hM⟩:∃ M,M=QL.map (ivl n):=⟨_,rfl⟩
 have hMl:M.length=q:=by rw [hM,List.length_map,hq]
 have hMg:∀ i r,QL[i]?=some r→M[i]?=some (ivl n r):=fun i r hr=>by rw [hM,List.getElem?_map,hr]; rfl
 have hMr:Rect n M:=fun r hr=>by
  rw [hM] at hr
  obtain ⟨x,hx,rfl⟩:=List.mem_map.1 hr
  exact ivl_len (hQ8 x hx).1 po3
 have hMb:∀ r,r ∈ M→∀ x,x ∈ r→x.natAbs≤9:=fun r hr x hx=>by
  rw [hM] at hr
  obtain ⟨y,-,rfl⟩:=List.mem_map.1 hr
  exact ivl_bd x hx
 have hbm:=fun (aP am:Option Addr) (cP cm:Nat) (W:World) (hW:Fr w W) hP hm hz=>hbd M aP am cP cm W hW hP hm hMr (by rw [hMl]; exact hq3) hMb hz
 rw [hMl] at hbm
 clear hbd
 replace hn:=hZ hn
 replace hq:=hZ hq
 replace hM:=hZ hM
 replace hMl:=hZ hMl
 replace hMg:=hZ hMg
 replace hMr:=hZ hMr
 replace hMb:=hZ hMb
 replace hpr:=hZ hpr
 replace hbm:=hZ hbm
 replace hQ:=hZ hQ
 replace hQ8:=hZ hQ8
 clear po1 hE
 obtain ⟨wb,hwb⟩:∃ wb,wb=alls w [(.cells #[.int .u8 np,.slice qa q qc,.bool vals] 42),(.cells #[.slice none 0 0,.slice none 0 0,.slice none 0 0] 29)]:=⟨_,rfl⟩
 have hfb:Fr w wb:=by rw [hwb]; exact alls_fr _ w
 have g0:wb.heap[w.heap.size]?=some (.cells #[.int .u8 np,.slice qa q qc,.bool vals] 42 (0,0)):=by rw [hwb]; exact alls_get _ w 0 _ rfl
 have g1:wb.heap[w.heap.size+1]?=some (.cells #[.slice none 0 0,.slice none 0 0,.slice none 0 0] 29 (0,0)):=by rw [hwb]; exact alls_get _ w 1 _ rfl
 have b0:wb.cell? ⟨w.heap.size,0,none⟩=some (.int .u8 np):=cells_of g0 0
 have b1:wb.cell? ⟨w.heap.size,1,none⟩=some (.slice qa q qc):=cells_of g0 1
 have b2:wb.cell? ⟨w.heap.size,2,none⟩=some (.bool vals):=cells_of g0 2
 have t0:wb.cell? ⟨w.heap.size+1,0,none⟩=some (.slice none 0 0):=cells_of g1 0
 have t1:wb.cell? ⟨w.heap.size+1,1,none⟩=some (.slice none 0 0):=cells_of g1 1
 have t2:wb.cell? ⟨w.heap.size+1,2,none⟩=some (.slice none 0 0):=cells_of g1 2
 have f0:wb.frozen? ⟨w.heap.size+1,0,none⟩=false:=by unfold World.frozen?; rw [g1]; rfl
 have f1:wb.frozen? ⟨w.heap.size+1,1,none⟩=false:=by unfold World.frozen?; rw [g1]; rfl
 have f2:wb.frozen? ⟨w.heap.size+1,2,none⟩=false:=by unfold World.frozen?; rw [g1]; rfl
 have hwl:w.heap.size+1 < wb.heap.size:=lt_of_heap g1
 clear g0 g1
 go_enter Tryz.func20,Tryz.ntmps20
 go_upto_region 1 with (fail)
 change Code.wp _ _ _ _ (alls w [(.cells #[.int .u8 np,.slice qa q qc,.bool vals] 42),(.cells #[.slice none 0 0,.slice none 0 0,.slice none 0 0] 29)])
 rw [← hwb]
 clear hwb
 obtain ⟨tb,htb⟩:∃ tb,tb=w.heap.size:=⟨_,rfl⟩
 rw [← htb] at b0 b1 b2 t0 t1 t2 f0 f1 f2 hwl hgn ⊢
 replace htb:=hZ htb
 go_wp2_with fail
 refine (hpr.out _).mono ?_
 rintro e w1 ⟨pb,rfl,hpe,hpb,hf1⟩
 replace hpe:=hZ hpe
 have hfw:=hfb.trans hf1
 replace f0:=hf1.keepf t0 f0
 replace f1:=hf1.keepf t1 f1
 replace f2:=hf1.keepf t2 f2
 replace t0:=hf1.keep t0
 replace t1:=hf1.keep t1
 replace t2:=hf1.keep t2
 replace b1:=hf1.keep b1
 replace b2:=hf1.keep b2
 have hg1:gN≤w1.heap.size:=by have:=hf1.size; omega
 have htl:tb+1 < w1.heap.size:=by have:=hf1.size; omega
 have hpt:pb≠tb+1:=by omega
 replace hpt:=hZ hpt
 clear b0 hwl hf1 hfb hpb
 go_wp2_with fail
 go_loopg [4,5] q (fun k s4 s5 wr=>∃ (j:Nat) (hO:List (Nat×Nat×Nat)) (v:Value),v=s4∧s5=.int .i64 j∧j+k=q∧Fr w1 wr∧Hid (GI wr w1.heap.size 33 v hO (M.take j))∧Hid (∀ h,h ∈ hO→w1.heap.size≤h.1)∧Hid (j=0→v=.slice none 0 0))
 case atStart=>exact ⟨0,[],_,rfl,rfl,by omega,Fr.refl _,GI.nil _ _ _ hg1,fun h hm=>by simp at hm,fun _=>rfl⟩
 case round=>
  obtain ⟨j,hO,v4,hv4,rfl,hjk,hf,hgi,hnew,hz0⟩:=hrel
  subst hv4
  obtain ⟨wo,rfl⟩:∃ wo:World,wo=wr:=⟨_,rfl⟩
  have y1:=hf.keep b1
  have y2:=hf.keep b2
  by_cases hj:j < q
  ·have hdJ:decide (j < q)=true:=decide_eq_true hj
   have hd3:decide ((j:Int) < 3)=true:=decide_eq_true (by omega)
   obtain ⟨qb,qo,v0,v1,v2,v3,rfl,hLj,c0,c1,c2,c3,h8⟩:=(hQ.out.fr (hfw.trans hf)).at hQ8.out (i:=j) (by rw [← hq.out]; exact hj)
   have hsn:=hZ (take_snoc (hMg.out j _ hLj))
   have hiv:=hZ (fun W=>Interval12_any n (some ⟨pb,0,none⟩) n v0 v1 v2 v3 W po2 po3 h8)
   have hgl:Hid ((M.take j).length=j):=by show _=_; rw [List.length_take,hMl.out]; omega
   have hrl:Hid ((ivl n [v0,v1,v2,v3]).length=n):=ivl_len rfl po3
   generalize ivl n [v0,v1,v2,v3]=row at *
   have z0:(0:Int)≤(j:Int):=Int.natCast_nonneg _
   have z1:(j:Int) < (q:Int):=by omega
   clear hLj h8
   go_wp2_with fail
   refine (hiv.out _).mono ?_
   rintro e w2 ⟨gg,c,rfl,hf2,hown2⟩
   obtain ⟨hO2,-,-,hgb,hcp⟩:=ownsRow_ownI (Nat.le_trans hg1 hf.size) hown2
   have hgi2:=hgi.out.fr hf2
   have hne:v4.ownBlock≠some gg:=fun e=>by have h9:=(hgi.out.own.lt gg e).2; omega
   have hne2:∀ h',h' ∈ hO→h'.1≠gg:=fun h' hm e2=>by have h9:=hgi.out.lt h' hm; omega
   have hown3:=hgi2.own
   rw [hgl.out] at hown3
   have hvb:∀ b,v4.ownBlock=some b→w1.heap.size≤b:=fun b e=>(hgi2.own.lt b e).1
   replace hgi2:=hZ hgi2
   replace hown2:=hZ hown2
   replace hvb:=hZ hvb
   go_wp2_with (at_builtin; refine wpList_append_lies _ rfl _ _ 27 (by rfl) _ 33 _ _ 1 24 Tryz.underlying27 ji jz0 jz1 jz2 rfl (by decide) _ j _ (by rfl) (World.ownsRow.alloc hown3 _) ⟨w2.heap.size,0,none⟩ 1 1 [.slice (some ⟨gg,0,none⟩) n c] (by rfl) rfl (cell_one_newN _ _ _ _ (by simp)) (by simp [Value.oneCell']) (by decide) (by unfold maxLen; omega) (by omega) (by have:=(hf.trans hf2).size; have:=hf2.size; simp; omega) (w2.heap.size+1) (by simp) ?_; intro gA capA wA hownA hgrowA hatA hltA; skip)
   have hpush:=(hgi2.out.fr ((Fr.refl w2).alloc _)).pushN (hd:=(gg,0,c)) (hO2.fr ((Fr.refl w2).alloc _)) hne2 hne hgl.out (by unfold hdr; rw [hrl.out]) hownA hgrowA (hatA.imp id (fun e=>by rw [e]; simp))
   rw [← hsn.out] at hpush
   have hfrA:Fr w1 wA:=(((hf.trans hf2).alloc _)).grown hgrowA (fun k e=>hvb.out k e)
   go_wp2_with fail
   go_roundg (gk - 1)
   case measure=>omega
   case rel=>exact ⟨j+1,_,_,rfl,by go_num,by omega,hfrA,hpush,fun h hm9=>by rcases List.mem_append.1 hm9 with h1 | h1; exact hnew.out h h1; (simp at h1; subst h1; exact Nat.le_trans hf.size hgb),fun e=>by omega⟩
  ·obtain rfl:j=q:=by omega
   have hdJ:decide (j < j)=false:=decide_eq_false (by omega)
   rw [List.take_of_length_le (by rw [hMl.out]; exact Nat.le_refl _)] at hgi
   have hgo:=hgi.out
   obtain ⟨a9,c9,hs4,-⟩:=ownsRow_slice hgo.own
   subst hs4
   have hma:=hgo.mat
   rw [hMl.out] at hgo hz0 ⊢
   have hbl:=hZ (hbm.out (some ⟨pb,0,none⟩) a9 n c9 wo (hfw.trans hf) (hpe.out.fr hf) hma (fun e=>by
    have h1:=hMl.out
    rw [e] at h1
    have h2:=hz0.out h1.symm
    injection h2 with h2 h3 h4
    exact ⟨h2,h4⟩))
   replace hgo:=hZ hgo
   replace f0:=hf.keepf t0 f0
   replace f1:=hf.keepf t1 f1
   replace f2:=hf.keepf t2 f2
   replace t0:=hf.keep t0
   replace t1:=hf.keep t1
   replace t2:=hf.keep t2
   clear hma hgi hz0 b1 b2
   go_wp2_with fail
   refine hbl.out.mono ?_
   rintro e w2 ⟨P',C',M',aP,aC,aM,cP,cC,cM,err,rfl,hP2,hC2,hM2,hcC,hcM,hT2,hf2⟩
   replace hP2:=hZ hP2
   replace f0:=hf2.keepf t0 f0
   replace f1:=hf2.keepf t1 f1
   replace f2:=hf2.keepf t2 f2
   replace t0:=hf2.keep t0
   replace t1:=hf2.keep t1
   replace t2:=hf2.keep t2
   obtain ⟨nP,hnP⟩:∃ nP,nP=P'.length:=⟨_,rfl⟩
   obtain ⟨nC,hnC⟩:∃ nC,nC=C'.length:=⟨_,rfl⟩
   obtain ⟨nM,hnM⟩:∃ nM,nM=M'.length:=⟨_,rfl⟩
   rw [← hnP,← hnC,← hnM]
   replace hnP:=hZ hnP
   replace hnC:=hZ hnC
   replace hnM:=hZ hnM
   obtain ⟨w3,hw3⟩:∃ w3,w3=w2.alloc (.cells #[.slice aP nP cP,.slice aC nC cC,.slice aM nM cM] 29):=⟨_,rfl⟩
   have hf3:Fr w2 w3:=by rw [hw3]; exact (Fr.refl _).alloc _
   have g3:w3.heap[w2.heap.size]?=some (.cells #[.slice aP nP cP,.slice aC nC cC,.slice aM nM cM] 29 (0,0)):=by rw [hw3]; exact heap_alloc_new w2 _
   have x0:w3.cell? ⟨w2.heap.size,0,none⟩=some (.slice aP nP cP):=cells_of g3 0
   have x1:w3.cell? ⟨w2.heap.size,1,none⟩=some (.slice aC nC cC):=cells_of g3 1
   have x2:w3.cell? ⟨w2.heap.size,2,none⟩=some (.slice aM nM cM):=cells_of g3 2
   replace f0:=hf3.keepf t0 f0
   replace f1:=hf3.keepf t1 f1
   replace f2:=hf3.keepf t2 f2
   replace t0:=hf3.keep t0
   replace t1:=hf3.keep t1
   replace t2:=hf3.keep t2
   clear g3
   go_upto_region 8 with (fail)
   rw [← hw3]
   clear hw3
   have htl2:tb+1 < w2.heap.size:=by have:=hf.size; have:=hf2.size; omega
   obtain ⟨xb,hxb⟩:∃ xb,xb=w2.heap.size:=⟨_,rfl⟩
   rw [← hxb] at x0 x1 x2 htl2 ⊢
   replace hxb:=hZ hxb
   have qs:=three_store w3 (tb+1) (.slice aP nP cP) (.slice aC nC cC) (.slice aM nM cM) _ _ _ t0 t1 t2
   have q1:=qs.2.2.2.1
   have q2:=qs.2.2.2.2.1
   have u0:=hZ qs.1
   have u1:=hZ qs.2.1
   have u2:=hZ qs.2.2.1
   have hfx:=hZ qs.2.2.2.2.2
   clear qs
   go_wp2_with fail
   have r0:=u0.out
   have r1:=u1.out
   have r2:=u2.out
   refine bodyPost_ret (v:=.agg #[.slice aP nP cP,.slice aC nC cC,.slice aM nM cM]) (by simp [results,Tryz.results20,go_sem,r0,r1,r2]) rfl ?_
   have hT3:Fr wo w3:=hf2.trans hf3
   have hfin:=((Fx.of_fr (p:=fun q=>q=tb+1) ((hfw.trans hf).trans hT3)).trans hfx.out).toFr (fun q hq e=>by have e:q=tb+1:=e; have:=htb.out; omega)
   have hf23:=((Fx.of_fr (p:=fun q=>q=tb+1) hf3).trans hfx.out).low (n:=wo.heap.size) fun k e=>by have e:k=tb+1:=e; have:=hf.size; omega
   have hPe:∀ W',Fx (fun q=>q=tb+1) w3 W'→El W' iv aP P':=fun W' hW'=>by
    rcases hP2.out with ⟨rfl,rfl⟩
    exact (hpe.out.fr (hf.trans hT3)).fx hW' (fun e=>hpt.out e)
   exact ⟨P',C',M',aP,aC,aM,cP,cC,cM,by rw [hnP.out,hnC.out,hnM.out],hPe _ hfx.out,hC2 _ hf23,hM2 _ hf23,hcC,hcM,hP2.out.1,hT2,hfin⟩
end Go.Proofs.YtiniigadkknboaaGreatDoor
