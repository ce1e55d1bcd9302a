/- Contracts and laws: WBL. -/
import Derived.Test.YtiniigadkknboaaGreatDoorWBJ
import Derived.Test.YtiniigadkknboaaGreatDoorWBK
import Derived.Test.YtiniigadkknboaaGreatDoorWBG
import Derived.Test.YtiniigadkknboaaGreatDoorWBE

set_option maxRecDepth 100000
set_option maxHeartbeats 800000
namespace Go.Proofs.YtiniigadkknboaaGreatDoor
open Go.RowKit Go.Lib
attribute [local go_sem ↓] Go.wp_at_zero Go.wp_at_succ
theorem el_new (w:World) (xs:List Int) (cs:Array Value) (h:cs=(xs.map iv).toArray):El (w.alloc (.cells cs 3)) iv (some ⟨w.heap.size,0,none⟩) xs:=by
 subst h
 refine .inr ⟨w.heap.size,0,rfl,by simp,fun i x hx=>?_⟩
 rw [Nat.zero_add,cells_of (heap_alloc_new w _)]
 simp [hx]
theorem Known22_any (w:World) (hG:G w) (hE:ErX w) :
 Calls Tryz.prog 11 #[] w fun e w'=>e=.returned (.bool true)∧Fr w w':=by
 obtain ⟨wa,hwa⟩:∃ wa,wa=w.alloc (.cells #[.int .i64 2,.int .i64 3,.int .i64 5] 3):=⟨_,rfl⟩
 have hfa:Fr w wa:=by rw [hwa]; exact (Fr.refl _).alloc _
 have hPa:El wa iv (some ⟨w.heap.size,0,none⟩) [2,3,5]:=by rw [hwa]; exact el_new w _ _ rfl
 have hdv:=Divisions_any 2 [3,5] (some ⟨w.heap.size,0,none⟩) 3 12 19 wa (hG.fr hfa) (hE.fr hfa) k22_pr (by decide) hPa (.inr ⟨by decide,k22_po 12 (by decide) (by decide)⟩) (.inr ⟨by decide,k22_po 19 (by decide) (by decide)⟩)
 rw [show dvE (2 :: [3,5]) 12 19=0 from k22_E,show jA (2 :: [3,5]) (patS (2 :: [3,5]) 12) (patS (2 :: [3,5]) 19)=k22C from k22_A,show jS (2 :: [3,5]) (patS (2 :: [3,5]) 12) (patS (2 :: [3,5]) 19)=k22M from k22_S] at hdv
 unfold TRet at hdv
 rw [show ([3,5]:List Int).length+1=3 from rfl,show (2 :: [3,5]:List Int).length=3 from rfl,show k22C.length=1 from rfl,show k22M.length=2 from rfl] at hdv
 replace hdv:=hZ hdv
 have hG1:=hZ (fun W (hW:Fr w W)=>hG.fr hW)
 have hE1:=hZ (fun W (hW:Fr w W)=>hE.fr hW)
 clear hG hE hPa
 go_enter Tryz.func11,Tryz.ntmps11
 go_wp2_with fail
 rw [← hwa]
 clear hwa
 refine hdv.out.mono ?_
 rintro e w1 ⟨hf1,hok,-⟩
 obtain ⟨pa,pc,ca,cc,ma,mc,rfl,hel,hmc,hmm,hcc,hcm⟩:=hok trivial
 clear hok hdv
 obtain ⟨w2,hw2⟩:∃ w2,w2=w1.alloc (.cells #[.slice pa 3 pc,.slice ca 1 cc,.slice ma 2 mc] 29):=⟨_,rfl⟩
 have hf2:Fr w1 w2:=by rw [hw2]; exact (Fr.refl _).alloc _
 have hT:=C3.new w1 (.slice pa 3 pc) (.slice ca 1 cc) (.slice ma 2 mc) 29
 rw [← hw2] at hT
 obtain ⟨tb,htb⟩:∃ tb,tb=w1.heap.size:=⟨_,rfl⟩
 rw [← htb] at hT
 have hfw:=(hfa.trans hf1).trans hf2
 have htm:TmF w2 pa ca ma pc cc mc k22P k22C k22M 0:=TmF.of (hG1.out _ hfw) ((hel w1 (Fx.refl _ _)).fr hf2) ((hmc w1 (Fx.refl _ _)).fr hf2) ((hmm w1 (Fx.refl _ _)).fr hf2) hcc k22_T
 have hpt:=Patents_any pa ca ma pc cc mc 2 [3,5] k22C k22M 0 31 w2 htm (fun _=>⟨k22_pr,htm.p,htm.c,k22_T.tabC.2.2.1,k22_T.tabC.1,k22_T.tabC.2.2.2,by decide,fun k h1 h2=>k22_po k h1 h2⟩) (hG1.out _ hfw)
 rw [show limE 0 31=0 from rfl,show dvT k22C (2 :: [3,5]) (31:Int).toNat=[5,7,12,19,24,26,31] from k22_dv,show ([3,5]:List Int).length+1=3 from rfl,show k22C.length=1 from rfl,show k22M.length=2 from rfl] at hpt
 unfold PtRet at hpt
 rw [show ([5,7,12,19,24,26,31]:List Int).length=7 from rfl] at hpt
 have b0:=hT.a
 have b1:=hT.b
 have b2:=hT.c
 replace hpt:=hZ hpt
 replace htm:=hZ htm
 replace hcm:=hZ hcm
 clear hT hel hmc hmm hcc
 go_upto_region 3 with (fail)
 rw [← hw2,← htb]
 clear hw2
 replace htb:=hZ htb
 go_wp2_with fail
 refine hpt.out.mono ?_
 rintro e w3 ⟨hf3,-,hok⟩
 obtain ⟨la,lc,rfl,hla⟩:=hok trivial
 clear hok hpt
 replace b0:=hf3.keep b0
 replace b1:=hf3.keep b1
 replace b2:=hf3.keep b2
 replace hla:=hZ hla
 have hfw3:=hfw.trans hf3
 obtain ⟨w4,hw4⟩:∃ w4,w4=w3.alloc (.cells #[.int .i64 12,.int .i64 19,.int .i64 28] 3):=⟨_,rfl⟩
 have hf4:Fr w3 w4:=by rw [hw4]; exact (Fr.refl _).alloc _
 have hv4:El w4 iv (some ⟨w3.heap.size,0,none⟩) [12,19,28]:=by rw [hw4]; exact el_new w3 _ _ rfl
 have hco:=SCoord_any pa ca ma pc cc mc k22P k22C k22M 0 [12,19,28] ([0,0,0],[12,19]) (some ⟨w3.heap.size,0,none⟩) 3 w4 (htm.out.fr (hf3.trans hf4)) hv4 (by decide) (hG1.out _ (hfw3.trans hf4)) (hE1.out _ (hfw3.trans hf4)) (fun _=>⟨k22_T.tabM,hcm.out,by decide,k22_red,fun x hx=>by
  have h9:Wd x:=by simp at hx; rcases hx with rfl | rfl <;> exact Wd.of40 (by decide)
  have:=h9.size; omega⟩)
 have hs0:sE 0 k22P [12,19,28]=0:=by
  unfold sE; rw [if_neg (by decide)]; exact k22_val.1
 rw [hs0,k22_sup.1,show k22P.length=3 from rfl,show k22C.length=1 from rfl,show k22M.length=2 from rfl,show ([12,19,28]:List Int).length=3 from rfl] at hco
 unfold SCoRet at hco
 rw [show (([0,0,0],[12,19]):List Int×List Int).2.length=2 from rfl] at hco
 replace hco:=hZ hco
 clear hs0 hv4
 go_wp2_with fail
 rw [← hw4]
 clear hw4
 refine hco.out.mono ?_
 rintro e w5 ⟨hf5,-,-,-,-,hok⟩
 obtain ⟨ka,kc,rfl,hka⟩:=hok trivial trivial rfl rfl
 clear hok hco
 replace hka:=hZ hka
 have hf35:=hf4.trans hf5
 have hfw5:=hfw3.trans hf35
 replace b0:=hf35.keep b0
 replace b1:=hf35.keep b1
 replace b2:=hf35.keep b2
 obtain ⟨w6,hw6⟩:∃ w6,w6=(w5.alloc (.cells #[.int .i64 5,.int .i64 8,.int .i64 12] 3)).alloc (.cells #[.int .i64 7,.int .i64 11,.int .i64 16] 3):=⟨_,rfl⟩
 have hf6:Fr w5 w6:=by rw [hw6]; exact ((Fr.refl _).alloc _).alloc _
 have hv6:El w6 iv (some ⟨w5.heap.size,0,none⟩) [5,8,12]:=by rw [hw6]; exact (el_new w5 [5,8,12] _ rfl).fr ((Fr.refl _).alloc _)
 have hu6:El w6 iv (some ⟨w5.heap.size+1,0,none⟩) [7,11,16]:=by
  have:=el_new (w5.alloc (.cells #[.int .i64 5,.int .i64 8,.int .i64 12] 3)) [7,11,16] _ rfl
  rw [World.size_alloc] at this
  rw [hw6]; exact this
 have hch:=Chain_any pa ca ma pc cc mc k22P k22C k22M 0 [5,8,12] [7,11,16] (some ⟨w5.heap.size,0,none⟩) (some ⟨w5.heap.size+1,0,none⟩) 3 3 5 w6 (htm.out.fr ((hf3.trans hf35).trans hf6)) hv6 hu6 (by decide) (by decide) (hG1.out _ (hfw5.trans hf6))
 have hs0:sbegE 0 k22P [[5,8,12],[7,11,16]]=0:=by
  unfold sbegE
  rw [if_neg (by decide)]
  show firstE [valE k22P [5,8,12],valE k22P [7,11,16]]=0
  rw [k22_val.2.1,k22_val.2.2]; rfl
 rw [hs0,k22_sup.2.1,k22_sup.2.2,show chE 0 true true 5=0 from rfl,show chL [5,8,12] [7,11,16] ((5:Int).toNat - 2)=_ from k22_ch,show k22P.length=3 from rfl,show k22C.length=1 from rfl,show k22M.length=2 from rfl,show ([5,8,12]:List Int).length=3 from rfl,show ([7,11,16]:List Int).length=3 from rfl] at hch
 unfold ChRet at hch
 replace hch:=hZ hch
 clear hs0 hv6 hu6
 go_wp2_with fail
 rw [← hw6]
 clear hw6
 refine hch.out.mono ?_
 rintro e w7 ⟨hf7,-,-,hok⟩
 obtain ⟨da,dc,rfl,hda⟩:=hok trivial _ rfl
 clear hok hch
 have hf57:=hf6.trans hf7
 replace b1:=hf57.keep b1
 clear b0 b2
 have hfw7:=hfw5.trans hf57
 have hda2:MatIs w7 da [[5,8,12],[7,11,16],[12,19,28],[19,30,44],[31,49,72]]:=hda
 obtain ⟨db,dq,ra,rc,rfl,hdc,hde⟩:=hda2.at (i:=4) (by decide)
 replace hdc:w7.cell? ⟨db,dq+4,none⟩=some (.slice ra 3 rc):=hdc
 replace hde:El w7 iv ra [31,49,72]:=hde
 replace hde:=hZ hde
 clear hda hda2
 have hC7:=htm.out.c.fr ((hf3.trans hf35).trans hf57)
 obtain ⟨w8,hw8⟩:∃ w8,w8=(w7.alloc (.cells #[.int .i64 4,.int .i64 (-4),.int .i64 1] 3)).alloc (.cells #[.slice (some ⟨w7.heap.size,0,none⟩) 3 3] 33):=⟨_,rfl⟩
 have hf8:Fr w7 w8:=by rw [hw8]; exact ((Fr.refl _).alloc _).alloc _
 have hm8:MatIs w8 (some ⟨w7.heap.size+1,0,none⟩) k22C:=by
  have:=Mat_one (w7.alloc (.cells #[.int .i64 4,.int .i64 (-4),.int .i64 1] 3)) (some ⟨w7.heap.size,0,none⟩) [4,-4,1] 3 (el_new w7 [4,-4,1] _ rfl)
  rw [World.size_alloc] at this
  rw [hw8]; exact this
 have heq:=Eq6_yes k22C ca (some ⟨w7.heap.size+1,0,none⟩) cc 1 w8 (hC7.fr hf8) hm8 (by decide) (by decide)
 rw [show k22C.length=1 from rfl] at heq
 replace heq:=hZ heq
 clear hC7 hm8 htm hcm
 go_wp2_with fail
 rw [← hw8]
 clear hw8
 refine heq.out.mono ?_
 rintro e w9 ⟨rfl,hf9⟩
 have hf39:=(hf35.trans hf57).trans (hf8.trans hf9)
 obtain ⟨wA,hwA⟩:∃ wA,wA=w9.alloc (.cells #[.int .i64 5,.int .i64 7,.int .i64 12,.int .i64 19,.int .i64 24,.int .i64 26,.int .i64 31] 3):=⟨_,rfl⟩
 have hfA:Fr w9 wA:=by rw [hwA]; exact (Fr.refl _).alloc _
 have hvA:El wA iv (some ⟨w9.heap.size,0,none⟩) [5,7,12,19,24,26,31]:=by rw [hwA]; exact el_new w9 _ _ rfl
 have hsi:=sameI_any [5,7,12,19,24,26,31] [5,7,12,19,24,26,31] la (some ⟨w9.heap.size,0,none⟩) lc 7 wA (hla.out.fr (hf39.trans hfA)) hvA (by decide) (by decide)
 rw [decide_eq_true rfl,show ([5,7,12,19,24,26,31]:List Int).length=7 from rfl] at hsi
 replace hsi:=hZ hsi
 clear hvA heq hla
 go_wp2_with fail
 rw [← hwA]
 clear hwA
 refine hsi.out.mono ?_
 rintro e wB ⟨rfl,hfB⟩
 have hf5B:=((hf57.trans (hf8.trans hf9)).trans hfA).trans hfB
 obtain ⟨wC,hwC⟩:∃ wC,wC=wB.alloc (.cells #[.int .i64 12,.int .i64 19] 3):=⟨_,rfl⟩
 have hfC:Fr wB wC:=by rw [hwC]; exact (Fr.refl _).alloc _
 have hvC:El wC iv (some ⟨wB.heap.size,0,none⟩) [12,19]:=by rw [hwC]; exact el_new wB _ _ rfl
 have hrw:=EqRows_any [12,19] [12,19] ka (some ⟨wB.heap.size,0,none⟩) kc 2 wC (hka.out.fr (hf5B.trans hfC)) hvC (by decide) (by decide)
 rw [decide_eq_true rfl,show ([12,19]:List Int).length=2 from rfl] at hrw
 replace hrw:=hZ hrw
 clear hvC hsi hka
 go_wp2_with fail
 rw [← hwC]
 clear hwC
 refine hrw.out.mono ?_
 rintro e wD ⟨rfl,hfD⟩
 have hf7D:=(((hf8.trans hf9).trans hfA).trans hfB).trans (hfC.trans hfD)
 replace hdc:=hf7D.keep hdc
 obtain ⟨wE,hwE⟩:∃ wE,wE=wD.alloc (.cells #[.int .i64 31,.int .i64 49,.int .i64 72] 3):=⟨_,rfl⟩
 have hfE:Fr wD wE:=by rw [hwE]; exact (Fr.refl _).alloc _
 have hvE:El wE iv (some ⟨wD.heap.size,0,none⟩) [31,49,72]:=by rw [hwE]; exact el_new wD _ _ rfl
 have hre:=EqRows_any [31,49,72] [31,49,72] ra (some ⟨wD.heap.size,0,none⟩) rc 3 wE (hde.out.fr (hf7D.trans hfE)) hvE (by decide) (by decide)
 rw [decide_eq_true rfl,show ([31,49,72]:List Int).length=3 from rfl] at hre
 replace hre:=hZ hre
 clear hvE hrw hde
 go_wp2_with fail
 rw [← hwE]
 clear hwE
 refine hre.out.mono ?_
 rintro e wF ⟨rfl,hfF⟩
 go_wp2_with fail
 go_ret
 exact ⟨rfl,(hfw7.trans hf7D).trans (hfE.trans hfF)⟩
theorem rowE_of {v:List Int} (hl:v.length≤64) (hf:∀ y,y ∈ v→fitB y=true):rowE v=0 :=
 rowE_ok (by omega) (List.any_eq_false.2 fun y hy=>by simp [hf y hy])
theorem valE_of {P v:List Int} (hp:primeE P=0) (hl:v.length=P.length) (hf:∀ y,y ∈ v→fitB y=true):valE P v=0:=by
 have h6:=(primeE_mem hp).2.1
 have hr:=rowE_of (by omega) hf
 unfold valE
 rw [if_neg (by rw [hp]; simp),if_neg (by rw [hr]; simp),if_neg (by rw [hl]; simp)]
theorem sE_of {P v:List Int} (h:valE P v=0):sE 0 P v=0:=by
 unfold sE; rw [if_neg (by simp)]; exact h
theorem supS_none (v:List Int):supS [] v=true:=rfl
theorem dotP_unit {n i:Nat} {v:List Int} (hi:i < n):∀ k,dotP (unitRow n i) v k=if i < k then (v[i]?).getD 0 else 0
 | 0=>by rw [dotP,if_neg (by omega)]
 | k+1=>by
   have he:((unitRow n i)[k]?).getD 0=if i=k then 1 else 0:=by
    have:=unitM_ent (k:=k) hi
    unfold ent rowAt unitM at this
    rw [List.getElem?_map,List.getElem?_range hi] at this
    exact this
   rw [dotP,dotP_unit hi k,he]
   by_cases e:i=k
   ·subst e; rw [if_neg (by omega),if_pos rfl,if_pos (by omega),Int.one_mul,Int.zero_add]
   ·rw [if_neg e,Int.zero_mul,Int.add_zero]
    by_cases h:i < k
    ·rw [if_pos h,if_pos (by omega)]
    ·rw [if_neg h,if_neg (by omega)]
theorem supS_unit {n:Nat} {v:List Int} (hn:1≤n) (h0:(v[0]?).getD 0≠0):supS (unitM n) v=false:=by
 have hr:(unitM n)[0]?=some (unitRow n 0):=by simp [unitM,List.getElem?_range hn]
 refine supS_no hr ?_
 have hl:(unitRow n 0).length=n:=by unfold unitRow; rw [List.length_set,List.length_replicate]
 rw [dotP_unit (by omega),hl,if_pos (by omega)]
 exact h0
theorem pat_head {p0:Int} {r:List Int} {s:Int} (hs:1≤s):((patS (p0 :: r) s)[0]?).getD 0≠0:=by
 show s≠0
 omega
theorem fits_all {v:List Int} (h:∀ y,y ∈ v→fitB y=true):v.all fitB=true:=List.all_eq_true.2 h
theorem SupportEnds_any (n steps:Int) (hn:0≤n∧n≤255) (hs:0≤steps∧steps≤65535) (w:World) (hG:G w) (hE:ErX w) :
 Calls Tryz.prog 7 #[.int .u8 n,.int .u16 steps] w fun e w'=>e=.returned (.bool true)∧Fr w w':=by
 obtain ⟨q,hq⟩:∃ q:Nat,steps.tmod 300=(q:Int):=⟨(steps.tmod 300).toNat,by have:=Int.tmod_nonneg 300 hs.1; omega⟩
 have hq3:q < 300:=by have:=Int.tmod_lt_of_pos steps (show (0:Int) < 300 by decide); omega
 have hkn:=hZ (Known22_any w hG hE)
 have hpm:=hZ (fun W=>Primes12_any n hn.1 hn.2 W)
 obtain ⟨hp,hp1,hp4⟩:primeE (prm n)=0∧1≤(prm n).length∧(prm n).length≤4:=pl10_ok _
 have hpk:patOk (prm n) ((q+1:Nat):Int)=true:=pat400 _ (by omega) (by omega)
 generalize prm n=P at *
 obtain ⟨p0,r,rfl⟩:∃ p0 r,P=p0 :: r:=by
  cases P with
  | nil=>simp at hp1
  | cons p0 r=>exact ⟨p0,r,rfl⟩
 have hG1:=hZ (fun W (hW:Fr w W)=>hG.fr hW)
 have hE1:=hZ (fun W (hW:Fr w W)=>hE.fr hW)
 rw [List.length_cons] at hp4
 obtain ⟨v,hv⟩:∃ v,v=patS (p0 :: r) ((q+1:Nat):Int):=⟨_,rfl⟩
 have hpt:=hZ (fun (a:Option Addr) (c:Nat) W (hW:Fr w W) (hP:El W iv a (p0 :: r))=>Patent_ok p0 r a c ((q+1:Nat):Int) W (by omega) hp hpk hP (hG.fr hW))
 have hvl:v.length=r.length+1:=by rw [hv,patS_len]; rfl
 have hvf:∀ y,y ∈ v→fitB y=true:=by rw [hv]; exact patS_fit hpk (by omega)
 have hv0:valE (p0 :: r) v=0:=valE_of hp hvl hvf
 have hvh:(v[0]?).getD 0≠0:=by rw [hv]; exact pat_head (by omega)
 rw [← hv] at hpt
 have h6:(p0 :: r).length≤6:=by rw [List.length_cons]; omega
 obtain ⟨s,hr1,hr2,hr3,hr4⟩:=unitM_red h6 hvl hvf
 rw [unitM_len] at hr1
 have ht1:=TgW.just hp
 have ht2:=TgW.triv hp
 have hsu:supS (unitM (p0 :: r).length) v=false:=supS_unit hp1 hvh
 have hja:=hZ (fun (a:Option Addr) (c:Nat) W (hW:Fr w W) (hP:El W iv a (p0 :: r))=>Just_any (p0 :: r) a c W (hG.fr hW) (hE.fr hW) hp hp4 hP)
 have htr:=hZ (fun (a:Option Addr) (c:Nat) W (hW:Fr w W) (hP:El W iv a (p0 :: r))=>Trivial_any (p0 :: r) a c W (hG.fr hW) (hE.fr hW) hp hp4 hP)
 have hs1:=hZ (fun (aP aM va:Option Addr) (cP cC cM vc:Nat) W (hW:Fr w W) (aC:Option Addr) (ht:TmF W aP aC aM cP cC cM (p0 :: r) [] (unitM (p0 :: r).length) 0) (he:El W iv va v)=>Supports_any aP aC aM cP cC cM (p0 :: r) [] (unitM (p0 :: r).length) 0 v va vc W ht he (by omega) (hG.fr hW))
 have hs2:=hZ (fun (aP aM va:Option Addr) (cP cC cM vc:Nat) W (hW:Fr w W) (aC:Option Addr) (ht:TmF W aP aC aM cP cC cM (p0 :: r) (unitM (p0 :: r).length) [] 0) (he:El W iv va v)=>Supports_any aP aC aM cP cC cM (p0 :: r) (unitM (p0 :: r).length) [] 0 v va vc W ht he (by omega) (hG.fr hW))
 have hs3:=hZ (fun (aP aM va:Option Addr) (cP cC cM vc:Nat) W (hW:Fr w W) (aC:Option Addr) (hcm:(unitM (p0 :: r).length).length≤cM) (ht:TmF W aP aC aM cP cC cM (p0 :: r) [] (unitM (p0 :: r).length) 0) (he:El W iv va v)=>SCoord_any aP aC aM cP cC cM (p0 :: r) [] (unitM (p0 :: r).length) 0 v s va vc W ht he (by omega) (hG.fr hW) (hE.fr hW) (fun _=>⟨unitM_tab h6,hcm,unitM_form _,by rw [unitM_len]; exact hr1,hr4⟩))
 rw [sE_of hv0,supS_none] at hs1
 rw [sE_of hv0,hsu] at hs2
 rw [sE_of hv0,supS_none] at hs3
 unfold SCoRet at hs3
 rw [hr3] at hs3
 have hall:=fits_all hvf
 have htf1:=hZ (fun (aP aC aM:Option Addr) (cP cC cM:Nat) W (hW:Fr w W) (h1:El W iv aP (p0 :: r)) (h2:MatIs W aC []) (h3:MatIs W aM (unitM (p0 :: r).length)) (h4:([]:List (List Int)).length≤cC)=>(TmF.of (hG.fr hW) h1 h2 h3 h4 ht1:TmF W aP aC aM cP cC cM (p0 :: r) [] (unitM (p0 :: r).length) 0))
 have htf2:=hZ (fun (aP aC aM:Option Addr) (cP cC cM:Nat) W (hW:Fr w W) (h1:El W iv aP (p0 :: r)) (h2:MatIs W aC (unitM (p0 :: r).length)) (h3:MatIs W aM []) (h4:(unitM (p0 :: r).length).length≤cC)=>(TmF.of (hG.fr hW) h1 h2 h3 h4 ht2:TmF W aP aC aM cP cC cM (p0 :: r) (unitM (p0 :: r).length) [] 0))
 have hre:=hZ (fun (a b:Option Addr) (c d:Nat) W (h1:El W iv a v) (h2:El W iv b v)=>EqRows_any v v a b c d W h1 h2 (by omega) (by omega))
 rw [decide_eq_true rfl] at hre
 unfold TRet at hja htr
 unfold PatRet at hpt
 obtain ⟨M,hM⟩:∃ M,M=unitM (p0 :: r).length:=⟨_,rfl⟩
 have hMl:M.length=r.length+1:=by rw [hM,unitM_len]; rfl
 rw [← hM] at hja htr hs1 hs2 hs3 htf1 htf2
 rw [hMl,List.length_cons] at hja htr hs1 hs2 hs3
 rw [hMl] at htf2
 rw [List.length_nil] at hja htr hs1 hs2 hs3 htf1
 rw [hvl] at hre hs1 hs2 hs3 hpt
 obtain ⟨P,hP⟩:∃ P,P=p0 :: r:=⟨_,rfl⟩
 have hPl:P.length=r.length+1:=by rw [hP]; rfl
 rw [← hP] at hpm hja htr hs1 hs2 hs3 htf1 htf2 hpt
 rw [hPl] at hpm
 generalize r.length+1=m at *
 replace hP:=hZ hP
 replace hPl:=hZ hPl
 replace hM:=hZ hM
 replace hMl:=hZ hMl
 replace hv:=hZ hv
 replace hvl:=hZ hvl
 replace hvf:=hZ hvf
 replace hvh:=hZ hvh
 replace hall:=hZ hall
 clear hr1 hr4 ht1 ht2 hsu h6 hp hp1 hpk hv0
 rw [show ((q+1:Nat):Int)=(q:Int)+1 by omega] at hpt
 have hq4:IntKind.i64.wrap (1+(q:Int))=((q+1:Nat):Int):=by rw [show (1:Int)+(q:Int)=((q+1:Nat):Int) by omega]; exact IntWalk.i64_in _ (by omega)
 clear hG hE
 go_enter Tryz.func7,Tryz.ntmps7
 go_wp2_with fail
 refine hkn.out.mono ?_
 rintro e w1 ⟨rfl,hf1⟩
 go_wp2_with fail
 refine (hpm.out w1).mono ?_
 rintro e w2 ⟨pb,rfl,hpe,-,hf2⟩
 have hfw:=hf1.trans hf2
 go_wp2_with fail
 refine (hpt.out _ _ w2 hfw hpe).mono ?_
 rintro e w3 ⟨va,vc,rfl,hev,-,-,hf3⟩
 replace hpe:=hpe.fr hf3
 replace hfw:=hfw.trans hf3
 clear hf3 hf2 hf1
 go_wp2_with fail
 refine (hja.out _ _ w3 hfw hpe).mono ?_
 rintro e w4 ⟨hf4,hok,-⟩
 obtain ⟨pa,pc,ca,cc,ma,mc,rfl,hP1,hC1,hM1,hc1,hc2⟩:=hok trivial
 clear hok
 replace hP1:=hP1 w4 (Fx.refl _ _)
 replace hC1:=hC1 w4 (Fx.refl _ _)
 replace hM1:=hM1 w4 (Fx.refl _ _)
 obtain ⟨w5,hww5⟩:∃ W,W=w4.alloc (.cells #[.slice pa m pc,.slice ca 0 cc,.slice ma m mc] 29):=⟨_,rfl⟩
 have hfw5:Fr w4 w5:=by rw [hww5]; exact (Fr.refl _).alloc _
 have hTw5:=C3.new w4 (.slice pa m pc) (.slice ca 0 cc) (.slice ma m mc) 29
 rw [← hww5] at hTw5
 obtain ⟨ab,hab⟩:∃ q,q=w4.heap.size:=⟨_,rfl⟩
 rw [← hab] at hTw5
 have hf35:=hf4.trans hfw5
 have hfw5':=hfw.trans hf35
 replace hpe:=hpe.fr hf35
 replace hev:=hev.fr hf35
 have a0:=hTw5.a
 have a1:=hTw5.b
 have a2:=hTw5.c
 have htA:=htf1.out pa ca ma pc cc mc w5 hfw5' (hP1.fr hfw5) (hC1.fr hfw5) (hM1.fr hfw5) hc1
 clear hP1 hC1 hM1 hTw5
 go_upto_region 6 with (fail)
 rw [← hww5,← hab]
 clear hww5
 replace hab:=hZ hab
 go_wp2_with fail
 refine (htr.out _ _ w5 hfw5' hpe).mono ?_
 rintro e w6 ⟨hf6,hok,-⟩
 obtain ⟨qa,qc,da,dc,na,nc,rfl,hP2,hC2,hM2,hc3,hc4⟩:=hok trivial
 clear hok
 replace hP2:=hP2 w6 (Fx.refl _ _)
 replace hC2:=hC2 w6 (Fx.refl _ _)
 replace hM2:=hM2 w6 (Fx.refl _ _)
 obtain ⟨w7,hww7⟩:∃ W,W=w6.alloc (.cells #[.slice qa m qc,.slice da m dc,.slice na 0 nc] 29):=⟨_,rfl⟩
 have hfw7:Fr w6 w7:=by rw [hww7]; exact (Fr.refl _).alloc _
 have hTw7:=C3.new w6 (.slice qa m qc) (.slice da m dc) (.slice na 0 nc) 29
 rw [← hww7] at hTw7
 obtain ⟨bb,hbb⟩:∃ q,q=w6.heap.size:=⟨_,rfl⟩
 rw [← hbb] at hTw7
 have hf57:=hf6.trans hfw7
 have hfw7':=hfw5'.trans hf57
 replace hev:=hev.fr hf57
 replace a0:=hf57.keep a0
 replace a1:=hf57.keep a1
 replace a2:=hf57.keep a2
 have b0:=hTw7.a
 have b1:=hTw7.b
 have b2:=hTw7.c
 have htB:=htf2.out qa da na qc dc nc w7 hfw7' (hP2.fr hfw7) (hC2.fr hfw7) (hM2.fr hfw7) hc3
 have htA7:=htA.fr hf57
 clear hP2 hC2 hM2 hTw7 hpe htA
 go_upto_region 7 with (fail)
 rw [← hww7,← hbb]
 clear hww7
 replace hbb:=hZ hbb
 have k1:=hZ (hs1.out pa ma va pc cc mc vc w7 hfw7' ca htA7 hev)
 replace htA7:=hZ htA7
 replace htB:=hZ htB
 replace hev:=hZ hev
 go_wp2_with fail
 refine k1.out.mono ?_
 rintro e w8 ⟨rfl,hf8⟩
 replace a0:=hf8.keep a0
 replace a1:=hf8.keep a1
 replace a2:=hf8.keep a2
 replace b0:=hf8.keep b0
 replace b1:=hf8.keep b1
 replace b2:=hf8.keep b2
 have k2:=hZ (hs2.out qa na va qc dc nc vc w8 (hfw7'.trans hf8) da (htB.out.fr hf8) (hev.out.fr hf8))
 clear k1
 go_wp2_with fail
 refine k2.out.mono ?_
 rintro e w9 ⟨rfl,hf9⟩
 replace a0:=hf9.keep a0
 replace a1:=hf9.keep a1
 replace a2:=hf9.keep a2
 have hf79:=hf8.trans hf9
 have hfw9:=hfw7'.trans hf79
 have k3:=hZ (hs3.out pa ma va pc cc mc vc w9 hfw9 ca hc2 (htA7.out.fr hf79) (hev.out.fr hf79))
 clear k2 b0 b1 b2
 go_wp2_with fail
 refine k3.out.mono ?_
 rintro e wA ⟨hfA,-,-,-,-,hok⟩
 obtain ⟨ka,kc,rfl,hka⟩:=hok trivial trivial hr2 hall.out
 clear hok k3
 have k4:=hZ (hre.out ka va kc vc wA hka (hev.out.fr (hf79.trans hfA)))
 replace hka:=hZ hka
 go_wp2_with fail
 refine k4.out.mono ?_
 rintro e wB ⟨rfl,hfB⟩
 go_wp2_with fail
 go_ret
 exact ⟨rfl,(hfw9.trans hfA).trans hfB⟩
end Go.Proofs.YtiniigadkknboaaGreatDoor
