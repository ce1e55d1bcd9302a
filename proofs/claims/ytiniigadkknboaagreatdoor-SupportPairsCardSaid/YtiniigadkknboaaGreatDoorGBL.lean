/- Contracts and laws: GBL. -/
import Derived.Test.YtiniigadkknboaaGreatDoorGBJ
import Derived.Test.YtiniigadkknboaaGreatDoorGBK
import Derived.Test.YtiniigadkknboaaGreatDoorShelf
import Derived.Test.YtiniigadkknboaaGreatDoorGBF
import Derived.Lib.Join
import Derived.Shelf.Strings.BuilderK
import Derived.Test.YtiniigadkknboaaGreatDoorGBC

set_option maxRecDepth 100000
set_option maxHeartbeats 4000000
namespace Go.Proofs.YtiniigadkknboaaGreatDoor
open Go.RowKit Go.Lib
attribute [local go_sem ↓] Go.wp_at_zero Go.wp_at_succ
theorem HG (w:World) (xs:List Int) (cs:Array Value) (h:cs=(xs.map iv).toArray):El (w.alloc (.cells cs 3)) iv (some ⟨w.heap.size,0,none⟩) xs:=by
 subst h
 refine .inr ⟨w.heap.size,0,rfl,by simp,fun i x hx=>?_⟩
 rw [AN,A1 (CB w _)]
 simp [hx]
theorem PJ (w:World) (hG:G w) (hE:LW w) :
 Calls Tryz.prog 11 #[] w fun e w'=>e=.returned (.bool true)∧Fr w w':=by
 obtain ⟨wa,hwa⟩:∃ wa,wa=w.alloc (.cells #[.int .i64 2,.int .i64 3,.int .i64 5] 3):=⟨_,rfl⟩
 have hfa:Fr w wa:=by rw [hwa]; exact (Fr.refl _).alloc _
 have hPa:El wa iv (some ⟨w.heap.size,0,none⟩) [2,3,5]:=by rw [hwa]; exact HG w _ _ rfl
 have hdv:=Im 2 [3,5] (some ⟨w.heap.size,0,none⟩) 3 12 19 wa (hG.fr hfa) (hE.fr hfa) Qp (by decide) hPa (.inr ⟨by decide,Qq 12 (by decide) (by decide)⟩) (.inr ⟨by decide,Qq 19 (by decide) (by decide)⟩)
 rw [show Wu (2 :: [3,5]) 12 19=0 from YD,show jA (2 :: [3,5]) (BM (2 :: [3,5]) 12) (BM (2 :: [3,5]) 19)=FC from Xb,show jS (2 :: [3,5]) (BM (2 :: [3,5]) 12) (BM (2 :: [3,5]) 19)=Gz from WZ] at hdv
 unfold PC at hdv
 rw [show ([3,5]:List Int).length+1=3 from rfl,show (2 :: [3,5]:List Int).length=3 from rfl,show FC.length=1 from rfl,show Gz.length=2 from rfl] at hdv
 replace hdv:=hZ hdv
 have hG1:=hZ (fun W (hW:Fr w W)=>hG.fr hW)
 have hE1:=hZ (fun W (hW:Fr w W)=>hE.fr hW)
 clear hG hE hPa
 go_enter Tryz.func11,Tryz.ntmps11
 go_wp2_with fail
 rw [← hwa]
 clear hwa
 refine hdv.out.mono ?_
 rintro e w1 ⟨hf1,hok,-⟩
 obtain ⟨pa,pc,ca,cc,ma,mc,rfl,hel,hmc,hmm,hcc,hcm⟩:=hok trivial
 clear hok hdv
 obtain ⟨w2,hw2⟩:∃ w2,w2=w1.alloc (.cells #[.slice pa 3 pc,.slice ca 1 cc,.slice ma 2 mc] 29):=⟨_,rfl⟩
 have hf2:Fr w1 w2:=by rw [hw2]; exact (Fr.refl _).alloc _
 have hT:=C3.new w1 (.slice pa 3 pc) (.slice ca 1 cc) (.slice ma 2 mc) 29
 rw [← hw2] at hT
 obtain ⟨tb,htb⟩:∃ tb,tb=w1.heap.size:=⟨_,rfl⟩
 rw [← htb] at hT
 have hfw:=(hfa.trans hf1).trans hf2
 have htm:RR w2 pa ca ma pc cc mc Ev FC Gz 0:=RR.of (hG1.out _ hfw) ((hel w1 (Fx.refl _ _)).fr hf2) ((hmc w1 (Fx.refl _ _)).fr hf2) ((hmm w1 (Fx.refl _ _)).fr hf2) hcc O2
 have hpt:=PD pa ca ma pc cc mc 2 [3,5] FC Gz 0 31 w2 htm (fun _=>⟨Qp,htm.p,htm.c,O2.tabC.2.2.1,O2.tabC.1,O2.tabC.2.2.2,by decide,fun k h1 h2=>Qq k h1 h2⟩) (hG1.out _ hfw)
 rw [show NB 0 31=0 from rfl,show Kj FC (2 :: [3,5]) (31:Int).toNat=[5,7,12,19,24,26,31] from XI,show ([3,5]:List Int).length+1=3 from rfl,show FC.length=1 from rfl,show Gz.length=2 from rfl] at hpt
 unfold Vl at hpt
 rw [show ([5,7,12,19,24,26,31]:List Int).length=7 from rfl] at hpt
 have b0:=hT.a
 have b1:=hT.b
 have b2:=hT.c
 replace hpt:=hZ hpt
 replace htm:=hZ htm
 replace hcm:=hZ hcm
 clear hT hel hmc hmm hcc
 go_upto_region 3 with (fail)
 rw [← hw2,← htb]
 clear hw2
 replace htb:=hZ htb
 go_wp2_with fail
 refine hpt.out.mono ?_
 rintro e w3 ⟨hf3,-,hok⟩
 obtain ⟨la,lc,rfl,hla⟩:=hok trivial
 clear hok hpt
 replace b0:=hf3.keep b0
 replace b1:=hf3.keep b1
 replace b2:=hf3.keep b2
 replace hla:=hZ hla
 have hfw3:=hfw.trans hf3
 obtain ⟨w4,hw4⟩:∃ w4,w4=w3.alloc (.cells #[.int .i64 12,.int .i64 19,.int .i64 28] 3):=⟨_,rfl⟩
 have hf4:Fr w3 w4:=by rw [hw4]; exact (Fr.refl _).alloc _
 have hv4:El w4 iv (some ⟨w3.heap.size,0,none⟩) [12,19,28]:=by rw [hw4]; exact HG w3 _ _ rfl
 have hco:=QG pa ca ma pc cc mc Ev FC Gz 0 [12,19,28] ([0,0,0],[12,19]) (some ⟨w3.heap.size,0,none⟩) 3 w4 (htm.out.fr (hf3.trans hf4)) hv4 (by decide) (hG1.out _ (hfw3.trans hf4)) (hE1.out _ (hfw3.trans hf4)) (fun _=>⟨O2.tabM,hcm.out,by decide,Wn,fun x hx=>by
  have h9:Wd x:=by simp at hx; rcases hx with rfl | rfl <;> exact Wd.of40 (by decide)
  have:=h9.size; omega⟩)
 have hs0:sE 0 Ev [12,19,28]=0:=by
  unfold sE; rw [Ag (by decide)]; exact NF.1
 rw [hs0,NG.1,show Ev.length=3 from rfl,show FC.length=1 from rfl,show Gz.length=2 from rfl,show ([12,19,28]:List Int).length=3 from rfl] at hco
 unfold Vc at hco
 rw [show (([0,0,0],[12,19]):List Int×List Int).2.length=2 from rfl] at hco
 replace hco:=hZ hco
 clear hs0 hv4
 go_wp2_with fail
 rw [← hw4]
 clear hw4
 refine hco.out.mono ?_
 rintro e w5 ⟨hf5,-,-,-,-,hok⟩
 obtain ⟨ka,kc,rfl,hka⟩:=hok trivial trivial rfl rfl
 clear hok hco
 replace hka:=hZ hka
 have hf35:=hf4.trans hf5
 have hfw5:=hfw3.trans hf35
 replace b0:=hf35.keep b0
 replace b1:=hf35.keep b1
 replace b2:=hf35.keep b2
 obtain ⟨w6,hw6⟩:∃ w6,w6=(w5.alloc (.cells #[.int .i64 5,.int .i64 8,.int .i64 12] 3)).alloc (.cells #[.int .i64 7,.int .i64 11,.int .i64 16] 3):=⟨_,rfl⟩
 have hf6:Fr w5 w6:=by rw [hw6]; exact ((Fr.refl _).alloc _).alloc _
 have hv6:El w6 iv (some ⟨w5.heap.size,0,none⟩) [5,8,12]:=by rw [hw6]; exact (HG w5 [5,8,12] _ rfl).fr ((Fr.refl _).alloc _)
 have hu6:El w6 iv (some ⟨w5.heap.size+1,0,none⟩) [7,11,16]:=by
  have:=HG (w5.alloc (.cells #[.int .i64 5,.int .i64 8,.int .i64 12] 3)) [7,11,16] _ rfl
  rw [AF] at this
  rw [hw6]; exact this
 have hch:=Td pa ca ma pc cc mc Ev FC Gz 0 [5,8,12] [7,11,16] (some ⟨w5.heap.size,0,none⟩) (some ⟨w5.heap.size+1,0,none⟩) 3 3 5 w6 (htm.out.fr ((hf3.trans hf35).trans hf6)) hv6 hu6 (by decide) (by decide) (hG1.out _ (hfw5.trans hf6))
 have hs0:Hf 0 Ev [[5,8,12],[7,11,16]]=0:=by
  unfold Hf
  rw [Ag (by decide)]
  show EU [EL Ev [5,8,12],EL Ev [7,11,16]]=0
  rw [NF.2.1,NF.2.2]; rfl
 rw [hs0,NG.2.1,NG.2.2,show Za 0 true true 5=0 from rfl,show PX [5,8,12] [7,11,16] ((5:Int).toNat - 2)=_ from XJ,show Ev.length=3 from rfl,show FC.length=1 from rfl,show Gz.length=2 from rfl,show ([5,8,12]:List Int).length=3 from rfl,show ([7,11,16]:List Int).length=3 from rfl] at hch
 unfold Jm at hch
 replace hch:=hZ hch
 clear hs0 hv6 hu6
 go_wp2_with fail
 rw [← hw6]
 clear hw6
 refine hch.out.mono ?_
 rintro e w7 ⟨hf7,-,-,hok⟩
 obtain ⟨da,dc,rfl,hda⟩:=hok trivial _ rfl
 clear hok hch
 have hf57:=hf6.trans hf7
 replace b1:=hf57.keep b1
 clear b0 b2
 have hfw7:=hfw5.trans hf57
 have hda2:A5 w7 da [[5,8,12],[7,11,16],[12,19,28],[19,30,44],[31,49,72]]:=hda
 obtain ⟨db,dq,ra,rc,rfl,hdc,hde⟩:=hda2.at (i:=4) (by decide)
 replace hdc:w7.cell? ⟨db,dq+4,none⟩=some (.slice ra 3 rc):=hdc
 replace hde:El w7 iv ra [31,49,72]:=hde
 replace hde:=hZ hde
 clear hda hda2
 have hC7:=htm.out.c.fr ((hf3.trans hf35).trans hf57)
 obtain ⟨w8,hw8⟩:∃ w8,w8=(w7.alloc (.cells #[.int .i64 4,.int .i64 (-4),.int .i64 1] 3)).alloc (.cells #[.slice (some ⟨w7.heap.size,0,none⟩) 3 3] 33):=⟨_,rfl⟩
 have hf8:Fr w7 w8:=by rw [hw8]; exact ((Fr.refl _).alloc _).alloc _
 have hm8:A5 w8 (some ⟨w7.heap.size+1,0,none⟩) FC:=by
  have:=R0 (w7.alloc (.cells #[.int .i64 4,.int .i64 (-4),.int .i64 1] 3)) (some ⟨w7.heap.size,0,none⟩) [4,-4,1] 3 (HG w7 [4,-4,1] _ rfl)
  rw [AF] at this
  rw [hw8]; exact this
 have heq:=WO FC ca (some ⟨w7.heap.size+1,0,none⟩) cc 1 w8 (hC7.fr hf8) hm8 (by decide) (by decide)
 rw [show FC.length=1 from rfl] at heq
 replace heq:=hZ heq
 clear hC7 hm8 htm hcm
 go_wp2_with fail
 rw [← hw8]
 clear hw8
 refine heq.out.mono ?_
 rintro e w9 ⟨rfl,hf9⟩
 have hf39:=(hf35.trans hf57).trans (hf8.trans hf9)
 obtain ⟨wA,hwA⟩:∃ wA,wA=w9.alloc (.cells #[.int .i64 5,.int .i64 7,.int .i64 12,.int .i64 19,.int .i64 24,.int .i64 26,.int .i64 31] 3):=⟨_,rfl⟩
 have hfA:Fr w9 wA:=by rw [hwA]; exact (Fr.refl _).alloc _
 have hvA:El wA iv (some ⟨w9.heap.size,0,none⟩) [5,7,12,19,24,26,31]:=by rw [hwA]; exact HG w9 _ _ rfl
 have hsi:=Sl [5,7,12,19,24,26,31] [5,7,12,19,24,26,31] la (some ⟨w9.heap.size,0,none⟩) lc 7 wA (hla.out.fr (hf39.trans hfA)) hvA (by decide) (by decide)
 rw [Ab rfl,show ([5,7,12,19,24,26,31]:List Int).length=7 from rfl] at hsi
 replace hsi:=hZ hsi
 clear hvA heq hla
 go_wp2_with fail
 rw [← hwA]
 clear hwA
 refine hsi.out.mono ?_
 rintro e wB ⟨rfl,hfB⟩
 have hf5B:=((hf57.trans (hf8.trans hf9)).trans hfA).trans hfB
 obtain ⟨wC,hwC⟩:∃ wC,wC=wB.alloc (.cells #[.int .i64 12,.int .i64 19] 3):=⟨_,rfl⟩
 have hfC:Fr wB wC:=by rw [hwC]; exact (Fr.refl _).alloc _
 have hvC:El wC iv (some ⟨wB.heap.size,0,none⟩) [12,19]:=by rw [hwC]; exact HG wB _ _ rfl
 have hrw:=E6 [12,19] [12,19] ka (some ⟨wB.heap.size,0,none⟩) kc 2 wC (hka.out.fr (hf5B.trans hfC)) hvC (by decide) (by decide)
 rw [Ab rfl,show ([12,19]:List Int).length=2 from rfl] at hrw
 replace hrw:=hZ hrw
 clear hvC hsi hka
 go_wp2_with fail
 rw [← hwC]
 clear hwC
 refine hrw.out.mono ?_
 rintro e wD ⟨rfl,hfD⟩
 have hf7D:=(((hf8.trans hf9).trans hfA).trans hfB).trans (hfC.trans hfD)
 replace hdc:=hf7D.keep hdc
 obtain ⟨wE,hwE⟩:∃ wE,wE=wD.alloc (.cells #[.int .i64 31,.int .i64 49,.int .i64 72] 3):=⟨_,rfl⟩
 have hfE:Fr wD wE:=by rw [hwE]; exact (Fr.refl _).alloc _
 have hvE:El wE iv (some ⟨wD.heap.size,0,none⟩) [31,49,72]:=by rw [hwE]; exact HG wD _ _ rfl
 have hre:=E6 [31,49,72] [31,49,72] ra (some ⟨wD.heap.size,0,none⟩) rc 3 wE (hde.out.fr (hf7D.trans hfE)) hvE (by decide) (by decide)
 rw [Ab rfl,show ([31,49,72]:List Int).length=3 from rfl] at hre
 replace hre:=hZ hre
 clear hvE hrw hde
 go_wp2_with fail
 rw [← hwE]
 clear hwE
 refine hre.out.mono ?_
 rintro e wF ⟨rfl,hfF⟩
 go_wp2_with fail
 go_ret
 exact ⟨rfl,(hfw7.trans hf7D).trans (hfE.trans hfF)⟩
theorem NJ:(Tryz.prog.info? 9).map (fun i=>(i.zero,i.size,i.bytes))=some (some (.string ⟨#[]⟩),1,16):=by kernel_rfl
def Hh (l:List ByteArray):ByteArray:=⟨(Lib.join (l.map (·.data.toList)) [32]).toArray⟩
def Ft (xs:List Int):ByteArray:=⟨#[91]⟩ ++ Hh (xs.map tx) ++ ⟨#[62]⟩
theorem Rr (l:List ByteArray) (k:Nat) (h:∀ x,x ∈ l→x.size≤k):lens (l.map (·.data.toList))≤k * l.length:=by
 induction l with
 | nil=>simp [lens]
 | cons x l ih=>
   have h1:=h x (by simp)
   have h2:=ih (fun y hy=>h y (by simp [hy]))
   have e:lens ((x :: l).map (·.data.toList))=x.size+lens (l.map (·.data.toList)):=by
    show x.data.toList.length+_=x.data.size+_
    rw [De]
    rfl
   rw [e,Aw,Nat.mul_add]
   omega
theorem HV (l:List ByteArray) (k:Nat) (h:∀ x,x ∈ l→x.size≤k) (hl:0 < l.length):(Lib.join (l.map (·.data.toList)) [32]).length≤(k+1) * l.length:=by
 have h1:=Rr l k h
 match l,hl with
 | x :: l,_=>
   have e:(x :: l).map (·.data.toList)=x.data.toList :: l.map (·.data.toList):=rfl
   rw [e] at h1 ⊢
   rw [join_length,An,Mt,Aw,Hl]
   rw [Aw] at h1
   omega
theorem K9 (xs:List Int) (hl:xs.length≤64) (hl1:0 < xs.length) (hb:∀ x,x ∈ xs→Bq x=true):(Ft xs).size≤1000:=by
 have h1:=HV (xs.map tx) 12 (fun y hy=>by
  obtain ⟨x,hx,rfl⟩:=Bc.1 hy
  have hfx:=hb x hx
  unfold Bq at hfx
  have hfx:=AL hfx
  exact Cl 11 x (by omega) (by omega)) (by rw [An]; omega)
 rw [An] at h1
 have h2:(Hh (xs.map tx)).size=(Lib.join ((xs.map tx).map (·.data.toList)) [32]).length:=by
  show (Lib.join ((xs.map tx).map (·.data.toList)) [32]).toArray.size=_
  rw [BL]
 unfold Ft
 rw [GT,GT,h2]
 show 1+_+1≤_
 omega
theorem Vd (xs:List Int) (a:Option Addr) (cap:Nat) (w:World) (hG:G w) (hx:El w iv a xs) (hl:xs.length≤64) (hl1:0 < xs.length) (hb:∀ x,x ∈ xs→Bq x=true) :
 Calls Tryz.prog 130 #[.slice a xs.length cap,.bool true] w fun e w'=>e=.returned (.tuple #[.string (Ft xs),.int .i64 0])∧Fr w w':=by
 obtain ⟨i1,ji,jz0,jz1,jz2⟩:=AZ NJ
 have hck:=hZ (D2 xs a cap w hx (by omega))
 rw [IX (by omega) (CO.2 (fun x hx=>by rw [hb x hx]; simp))] at hck
 obtain ⟨n,hn⟩:∃ n,n=xs.length:=⟨_,rfl⟩
 rw [← hn] at hl hl1 hck ⊢
 replace hn:=hZ hn
 replace hx:=hZ hx
 replace hb:=hZ hb
 replace hG:=hZ hG
 go_enter Tryz.func130,Tryz.ntmps130
 go_wp2_with fail
 refine hck.out.mono ?_
 rintro e w1 ⟨rfl,hf1⟩
 go_wp2_with fail
 go_loopg [7,18] n (fun k s7 s18 wr=>∃ i:Nat,s18=.int .i64 i∧i+k=n∧Fr w wr∧Hid (wr.ownsRow w.heap.size 9 1 s7 i ((xs.take i).map sv)))
 case atStart=>exact ⟨0,rfl,by omega,hf1,Bl _ _ _ _⟩
 case round=>
  obtain ⟨i,rfl,hik,hf,hown⟩:=hrel
  by_cases hi:i < n
  ·have hdI:decide (i < n)=true:=Ab hi
   obtain ⟨b,o,x,rfl,hbl,hxi,hcell⟩:=(hx.out.fr hf).at (i:=i) (by rw [← hn.out]; exact hi)
   have hfx:=hb.out x (Af hxi)
   unfold Bq at hfx
   have hfx:=AL hfx
   have hsn:Hid ((xs.take (i+1)).map sv=(xs.take i).map sv ++ [sv x]):=hZ (by rw [BN hxi,Ay]; rfl)
   replace hxi:=hZ hxi
   have z0:(0:Int)≤(i:Int):=Aj _
   have z1:(i:Int) < (n:Int):=by omega
   go_wp2_with fail
   refine (EE x (by omega) (by omega) _ (hG.out.fr hf)).mono ?_
   rintro e w3 ⟨rfl,hf3⟩
   have hownG:=Bg hown.out hf3
   have hz7:=hf.size
   have hz8:=hf3.size
   go_wp2_with (at_builtin; refine wpList_append_lies _ rfl _ _ 215 (by rfl) _ 9 _ _ 1 16 Tryz.underlying215 ji jz0 jz1 jz2 rfl (by decide) _ i _ (by rfl) (Az hownG _) ⟨w3.heap.size,0,none⟩ 1 1 [.string (tx x)] (by rfl) rfl (AK _ _ _ _ (by simp)) (by simp [Value.oneCell']) (by decide) (by unfold maxLen; omega) (by omega) (by skip; simp; omega) (w3.heap.size+1) (by simp) ?_; intro gA capA wA hownA hgrowA hatA hltA)
   go_wp2_with fail
   go_roundg (gk - 1)
   case measure=>omega
   case rel=>exact ⟨i+1,by go_num,by omega,((hf.trans hf3).alloc _).grown hgrowA (fun k e=>(hown.out.lt k e).1),by show _; rw [hsn.out]; exact hownA⟩
  ·have hdI:decide (i < n)=false:=Aa hi
   obtain rfl:n=i:=by omega
   have hown9:=hown.out
   rw [Ao (by rw [← hn.out]; exact Ah _)] at hown9
   obtain ⟨g,cp,h9,-⟩:=World.ownsRow.form hown9 hl1
   subst h9
   obtain ⟨-,-,hgl,hcp,hcells⟩:=Bo hown9
   have hjl:(Lib.join ((xs.map tx).map (·.data.toList)) (⟨#[32]⟩:ByteArray).data.toList).length≤140737488355328:=by
    have h1:=HV (xs.map tx) 12 (fun y hy=>by
     obtain ⟨x,hx,rfl⟩:=Bc.1 hy
     have hfx:=hb.out x hx
     unfold Bq at hfx
     have hfx:=AL hfx
     exact Cl 11 x (by omega) (by omega)) (by rw [An,← hn.out]; omega)
    rw [An] at h1
    have h2:(⟨#[32]⟩:ByteArray).data.toList=[32]:=rfl
    rw [h2]
    have:=hn.out
    omega
   have hjn:=hZ (Tryz.strings_Join g 0 cp (xs.map tx) ⟨#[32]⟩ wr (fun j y hj=>by
    rw [At] at hj
    obtain ⟨x,hx1,rfl⟩:=BO.1 hj
    have:=(hcells j (sv x) (by rw [At,hx1]; rfl)).1
    rw [AN]; exact this) hgl (by rw [An,← hn.out]; omega) (by rw [An,← hn.out]; omega) hjl)
   have hje:(⟨(Lib.join ((xs.map tx).map (·.data.toList)) (⟨#[32]⟩:ByteArray).data.toList).toArray⟩:ByteArray)=Hh (xs.map tx):=rfl
   rw [An,← hn.out,hje] at hjn
   have hSl:(Hh (xs.map tx)).size≤140737488355328:=by
    show (Lib.join ((xs.map tx).map (·.data.toList)) [32]).toArray.size≤_
    rw [BL]
    exact hjl
   have hfin:=hZ (show Ft xs=⟨#[91]⟩ ++ Hh (xs.map tx) ++ ⟨#[62]⟩ from rfl)
   generalize Hh (xs.map tx)=S at *
   clear hje hjl
   clear hown9 hcells
   go_wp2_with fail
   refine hjn.out.mono ?_
   rintro e w4 ⟨rfl,hf4⟩
   go_wp2_with fail
   go_ret2
   exact ⟨by rw [hfin.out]; rfl,hf.trans hf4⟩
def bR:Go.Shelf.Ren:=⟨fun | 166=>129 | 167=>131 | 169=>132 | 240=>164 | 276=>193 | n=>n,fun | 0=>0 | 3=>3 | 4=>4 | 5=>5 | 9=>9 | 20=>20 | 37=>177 | 70=>176 | 72=>179 | 75=>181 | 76=>182 | 80=>188 | 127=>217 | 164=>251 | n=>n,fun | n=>n⟩
theorem YL:Go.Proofs.Lays.n166 Tryz.prog bR:={
 mixed:=by kernel_rfl
 f166:=Tryz.func129.trans (congrArg some (by kernel_rfl))
 f240:=Tryz.func164.trans (congrArg some (by kernel_rfl))
 f276:=Tryz.func193.trans (congrArg some (by kernel_rfl))
 t0:=Tryz.underlying0
 a0:=Tryz.isAgg0
 z0:=Tryz.sizeOf0
 v0:=Tryz.zeroValue0
 t3:=Tryz.underlying3
 a3:=Tryz.isAgg3
 z3:=Tryz.sizeOf3
 v3:=Tryz.zeroValue3
 t4:=Tryz.underlying4
 a4:=Tryz.isAgg4
 z4:=Tryz.sizeOf4
 v4:=Tryz.zeroValue4
 t9:=Tryz.underlying9
 a9:=Tryz.isAgg9
 z9:=Tryz.sizeOf9
 v9:=Tryz.zeroValue9
 t20:=Tryz.underlying20
 a20:=Tryz.isAgg20
 z20:=Tryz.sizeOf20
 v20:=Tryz.zeroValue20
 t37:=Tryz.underlying177
 a37:=Tryz.isAgg177
 z37:=Tryz.sizeOf177
 v37:=Tryz.zeroValue177
 t70:=Tryz.underlying176
 a70:=Tryz.isAgg176
 z70:=Tryz.sizeOf176
 v70:=Tryz.zeroValue176
 t72:=Tryz.underlying179
 a72:=Tryz.isAgg179
 z72:=Tryz.sizeOf179
 v72:=Tryz.zeroValue179
 t75:=Tryz.underlying181
 a75:=Tryz.isAgg181
 z75:=Tryz.sizeOf181
 v75:=Tryz.zeroValue181
 t164:=Tryz.underlying251
 a164:=Tryz.isAgg251
 z164:=Tryz.sizeOf251
 v164:=Tryz.zeroValue251 }
theorem YK:Go.Proofs.Lays.n167 Tryz.prog bR:={
 mixed:=by kernel_rfl
 f167:=Tryz.func131.trans (congrArg some (by kernel_rfl))
 f240:=Tryz.func164.trans (congrArg some (by kernel_rfl))
 f276:=Tryz.func193.trans (congrArg some (by kernel_rfl))
 t0:=Tryz.underlying0
 a0:=Tryz.isAgg0
 z0:=Tryz.sizeOf0
 v0:=Tryz.zeroValue0
 t4:=Tryz.underlying4
 a4:=Tryz.isAgg4
 z4:=Tryz.sizeOf4
 v4:=Tryz.zeroValue4
 t5:=Tryz.underlying5
 a5:=Tryz.isAgg5
 z5:=Tryz.sizeOf5
 v5:=Tryz.zeroValue5
 t9:=Tryz.underlying9
 a9:=Tryz.isAgg9
 z9:=Tryz.sizeOf9
 v9:=Tryz.zeroValue9
 t20:=Tryz.underlying20
 a20:=Tryz.isAgg20
 z20:=Tryz.sizeOf20
 v20:=Tryz.zeroValue20
 t37:=Tryz.underlying177
 a37:=Tryz.isAgg177
 z37:=Tryz.sizeOf177
 v37:=Tryz.zeroValue177
 t70:=Tryz.underlying176
 a70:=Tryz.isAgg176
 z70:=Tryz.sizeOf176
 v70:=Tryz.zeroValue176
 t72:=Tryz.underlying179
 a72:=Tryz.isAgg179
 z72:=Tryz.sizeOf179
 v72:=Tryz.zeroValue179
 t75:=Tryz.underlying181
 a75:=Tryz.isAgg181
 z75:=Tryz.sizeOf181
 v75:=Tryz.zeroValue181
 t164:=Tryz.underlying251
 a164:=Tryz.isAgg251
 z164:=Tryz.sizeOf251
 v164:=Tryz.zeroValue251 }
theorem YJ:Go.Proofs.Lays.n169 Tryz.prog bR:={
 mixed:=by kernel_rfl
 f169:=Tryz.func132.trans (congrArg some (by kernel_rfl))
 t0:=Tryz.underlying0
 a0:=Tryz.isAgg0
 z0:=Tryz.sizeOf0
 v0:=Tryz.zeroValue0
 t3:=Tryz.underlying3
 a3:=Tryz.isAgg3
 z3:=Tryz.sizeOf3
 v3:=Tryz.zeroValue3
 t9:=Tryz.underlying9
 a9:=Tryz.isAgg9
 z9:=Tryz.sizeOf9
 v9:=Tryz.zeroValue9
 t37:=Tryz.underlying177
 a37:=Tryz.isAgg177
 z37:=Tryz.sizeOf177
 v37:=Tryz.zeroValue177
 t70:=Tryz.underlying176
 a70:=Tryz.isAgg176
 z70:=Tryz.sizeOf176
 v70:=Tryz.zeroValue176
 t72:=Tryz.underlying179
 a72:=Tryz.isAgg179
 z72:=Tryz.sizeOf179
 v72:=Tryz.zeroValue179
 t127:=Tryz.underlying217
 a127:=Tryz.isAgg217
 z127:=Tryz.sizeOf217
 v127:=Tryz.zeroValue217 }
theorem bX:Go.Proofs.Builder.Extra Tryz.prog bR:={
 sizeBuilder:=by kernel_rfl
 liesBuilder:=by kernel_rfl
 t5:=Tryz.underlying5
 a5:=Tryz.isAgg5
 z5:=Tryz.sizeOf5
 v5:=Tryz.zeroValue5
 infoByte:=by kernel_rfl
 cellsByte:=by kernel_rfl
 sizeByte:=by kernel_rfl
 neB5:=by decide }
def GO (w:World) (B b:Nat) (l:List UInt8):Prop:=Lib.IsBuilderF 179 5 B b (Lib.byteCells l) w
abbrev Bk (b:Nat) (w w':World):Prop:=Lib.OthersKept 5 (some b) w w'
theorem GO.new (w:World) (B:Nat) (hB:B≤w.heap.size):GO (w.alloc (.cells #[.pointer none,.slice none 0 0] 179)) B w.heap.size [] :=
 Lib.IsBuilderF.of (.inl ⟨hB,.slice none 0 0,CB w _,Bl _ _ _ _,by simp [Value.ownBlock]⟩)
theorem OJ {w w':World} {base:Nat} {e:TypeId} {size:Nat} {v:Value} {n:Nat} {xs:List Value} (h:w.ownsRowF base e size v n xs) (k:Fr w w'):w'.ownsRowF base e size v n xs:=by
 obtain ⟨h1,h2⟩:=h
 rcases h2 with h2 | ⟨g,cap,cur,fz,a1,a2,a3,a4⟩
 ·exact ⟨h1,.inl h2⟩
 ·exact ⟨h1,.inr ⟨g,cap,cur,fz,a1,a2,(k.block g (A8.1 a3).1).trans a3,a4⟩⟩
theorem BldAt.fr {w w':World} {T e:TypeId} {B b:Nat} {p:Value} {bs:List Value} (h:Lib.BuilderAtF T e B b p bs w) (k:Fr w w'):Lib.BuilderAtF T e B b p bs w':=by
 obtain ⟨h1,v,h2,h3,h4⟩:=h
 exact ⟨h1,v,(k.block b (A8.1 h2).1).trans h2,OJ h3 k,h4⟩
theorem GO.fr {w w':World} {B b:Nat} {l:List UInt8} (h:GO w B b l) (k:Fr w w'):GO w' B b l:=by
 rcases h with h | h
 ·exact .inl (BldAt.fr h k)
 ·exact .inr (BldAt.fr h k)
theorem U8 (B b:Nat) (l:List UInt8) (s:ByteArray) (w:World) (h:GO w B b l) (hlen:l.length+s.size≤1000000000) (hBw:B≤w.heap.size) :
 Calls Tryz.prog 129 #[.pointer (some ⟨b,0,none⟩),.string s] w fun e w'=>e=.returned (.tuple #[.int .i64 s.size,.nilIface])∧GO w' B b (l ++ s.data.toList)∧Below B w w'∧Bk b w w' :=
 (Any.Builder_WriteString_k YL bX B b (Lib.byteCells l) s w h (by rw [ZR]; omega) hBw).mono fun e w' ⟨h1,h2,h3,h4⟩=>⟨h1,.inr (by rw [ZS]; exact h2),h3,h4⟩
theorem YO (B b:Nat) (l:List UInt8) (c:UInt8) (w:World) (h:GO w B b l) (hlen:l.length+1≤1000000000) (hBw:B≤w.heap.size) :
 Calls Tryz.prog 131 #[.pointer (some ⟨b,0,none⟩),.int .u8 c.toNat] w fun e w'=>e=.returned .nilIface∧GO w' B b (l ++ [c])∧Below B w w'∧Bk b w w' :=
 (Any.Builder_WriteByte_k YK bX B b (Lib.byteCells l) c.toNat w h (by rw [ZR]; omega) hBw).mono fun e w' ⟨h1,h2,h3,h4⟩=>⟨h1,.inr (by rw [ZS]; exact h2),h3,h4⟩
theorem Zo (B b:Nat) (l:List UInt8) (w:World) (h:GO w B b l) (hBw:B≤w.heap.size) :
 Calls Tryz.prog 132 #[.pointer (some ⟨b,0,none⟩)] w fun e w'=>e=.returned (.string ⟨l.toArray⟩)∧Below B w w' :=
 (Any.Builder_String_any_k YJ bX B b l w h hBw).mono fun _ _ ⟨h1,_,h3,_⟩=>⟨h1,h3⟩
def Ie (xs:List Int):ByteArray:=⟨#[60]⟩ ++ Hh (xs.map tx) ++ ⟨#[93]⟩
theorem Lc (xs:List Int) (hl:xs.length≤64) (hl1:0 < xs.length) (hb:∀ x,x ∈ xs→Bq x=true):(Ie xs).size≤1000:=by
 have h1:=HV (xs.map tx) 12 (fun y hy=>by
  obtain ⟨x,hx,rfl⟩:=Bc.1 hy
  have hfx:=hb x hx
  unfold Bq at hfx
  have hfx:=AL hfx
  exact Cl 11 x (by omega) (by omega)) (by rw [An]; omega)
 rw [An] at h1
 have h2:(Hh (xs.map tx)).size=(Lib.join ((xs.map tx).map (·.data.toList)) [32]).length:=by
  show (Lib.join ((xs.map tx).map (·.data.toList)) [32]).toArray.size=_
  rw [BL]
 unfold Ie
 rw [GT,GT,h2]
 show 1+_+1≤_
 omega
theorem SW (xs:List Int) (a:Option Addr) (cap:Nat) (w:World) (hG:G w) (hx:El w iv a xs) (hl:xs.length≤64) (hl1:0 < xs.length) (hb:∀ x,x ∈ xs→Bq x=true) :
 Calls Tryz.prog 130 #[.slice a xs.length cap,.bool false] w fun e w'=>e=.returned (.tuple #[.string (Ie xs),.int .i64 0])∧Fr w w':=by
 obtain ⟨i1,ji,jz0,jz1,jz2⟩:=AZ NJ
 have hck:=hZ (D2 xs a cap w hx (by omega))
 rw [IX (by omega) (CO.2 (fun x hx=>by rw [hb x hx]; simp))] at hck
 obtain ⟨n,hn⟩:∃ n,n=xs.length:=⟨_,rfl⟩
 rw [← hn] at hl hl1 hck ⊢
 replace hn:=hZ hn
 replace hx:=hZ hx
 replace hb:=hZ hb
 replace hG:=hZ hG
 go_enter Tryz.func130,Tryz.ntmps130
 go_wp2_with fail
 refine hck.out.mono ?_
 rintro e w1 ⟨rfl,hf1⟩
 go_wp2_with fail
 go_loopg [7,18] n (fun k s7 s18 wr=>∃ i:Nat,s18=.int .i64 i∧i+k=n∧Fr w wr∧Hid (wr.ownsRow w.heap.size 9 1 s7 i ((xs.take i).map sv)))
 case atStart=>exact ⟨0,rfl,by omega,hf1,Bl _ _ _ _⟩
 case round=>
  obtain ⟨i,rfl,hik,hf,hown⟩:=hrel
  by_cases hi:i < n
  ·have hdI:decide (i < n)=true:=Ab hi
   obtain ⟨b,o,x,rfl,hbl,hxi,hcell⟩:=(hx.out.fr hf).at (i:=i) (by rw [← hn.out]; exact hi)
   have hfx:=hb.out x (Af hxi)
   unfold Bq at hfx
   have hfx:=AL hfx
   have hsn:Hid ((xs.take (i+1)).map sv=(xs.take i).map sv ++ [sv x]):=hZ (by rw [BN hxi,Ay]; rfl)
   replace hxi:=hZ hxi
   have z0:(0:Int)≤(i:Int):=Aj _
   have z1:(i:Int) < (n:Int):=by omega
   go_wp2_with fail
   refine (EE x (by omega) (by omega) _ (hG.out.fr hf)).mono ?_
   rintro e w3 ⟨rfl,hf3⟩
   have hownG:=Bg hown.out hf3
   have hz7:=hf.size
   have hz8:=hf3.size
   go_wp2_with (at_builtin; refine wpList_append_lies _ rfl _ _ 215 (by rfl) _ 9 _ _ 1 16 Tryz.underlying215 ji jz0 jz1 jz2 rfl (by decide) _ i _ (by rfl) (Az hownG _) ⟨w3.heap.size,0,none⟩ 1 1 [.string (tx x)] (by rfl) rfl (AK _ _ _ _ (by simp)) (by simp [Value.oneCell']) (by decide) (by unfold maxLen; omega) (by omega) (by skip; simp; omega) (w3.heap.size+1) (by simp) ?_; intro gA capA wA hownA hgrowA hatA hltA)
   go_wp2_with fail
   go_roundg (gk - 1)
   case measure=>omega
   case rel=>exact ⟨i+1,by go_num,by omega,((hf.trans hf3).alloc _).grown hgrowA (fun k e=>(hown.out.lt k e).1),by show _; rw [hsn.out]; exact hownA⟩
  ·have hdI:decide (i < n)=false:=Aa hi
   obtain rfl:n=i:=by omega
   have hown9:=hown.out
   rw [Ao (by rw [← hn.out]; exact Ah _)] at hown9
   obtain ⟨g,cp,h9,-⟩:=World.ownsRow.form hown9 hl1
   subst h9
   obtain ⟨-,-,hgl,hcp,hcells⟩:=Bo hown9
   have hjl:(Lib.join ((xs.map tx).map (·.data.toList)) (⟨#[32]⟩:ByteArray).data.toList).length≤140737488355328:=by
    have h1:=HV (xs.map tx) 12 (fun y hy=>by
     obtain ⟨x,hx,rfl⟩:=Bc.1 hy
     have hfx:=hb.out x hx
     unfold Bq at hfx
     have hfx:=AL hfx
     exact Cl 11 x (by omega) (by omega)) (by rw [An,← hn.out]; omega)
    rw [An] at h1
    have h2:(⟨#[32]⟩:ByteArray).data.toList=[32]:=rfl
    rw [h2]
    have:=hn.out
    omega
   have hjn:=hZ (Tryz.strings_Join g 0 cp (xs.map tx) ⟨#[32]⟩ wr (fun j y hj=>by
    rw [At] at hj
    obtain ⟨x,hx1,rfl⟩:=BO.1 hj
    have:=(hcells j (sv x) (by rw [At,hx1]; rfl)).1
    rw [AN]; exact this) hgl (by rw [An,← hn.out]; omega) (by rw [An,← hn.out]; omega) hjl)
   have hje:(⟨(Lib.join ((xs.map tx).map (·.data.toList)) (⟨#[32]⟩:ByteArray).data.toList).toArray⟩:ByteArray)=Hh (xs.map tx):=rfl
   rw [An,← hn.out,hje] at hjn
   have hSl:(Hh (xs.map tx)).size≤140737488355328:=by
    show (Lib.join ((xs.map tx).map (·.data.toList)) [32]).toArray.size≤_
    rw [BL]
    exact hjl
   have hfin:=hZ (show Ie xs=⟨#[60]⟩ ++ Hh (xs.map tx) ++ ⟨#[93]⟩ from rfl)
   generalize Hh (xs.map tx)=S at *
   clear hje hjl
   clear hown9 hcells
   go_wp2_with fail
   refine hjn.out.mono ?_
   rintro e w4 ⟨rfl,hf4⟩
   go_wp2_with fail
   go_ret2
   exact ⟨by rw [hfin.out]; rfl,hf.trans hf4⟩
def Nx (xs:List Int):ByteArray:=⟨(Lib.join ((xs.map tx).map (·.data.toList)) [46]).toArray⟩
theorem MS (c:UInt8) (l:List ByteArray) (k:Nat) (h:∀ x,x ∈ l→x.size≤k) (hl:0 < l.length):(Lib.join (l.map (·.data.toList)) [c]).length≤(k+1) * l.length:=by
 have h1:=Rr l k h
 match l,hl with
 | x :: l,_=>
   have e:(x :: l).map (·.data.toList)=x.data.toList :: l.map (·.data.toList):=rfl
   rw [e] at h1 ⊢
   rw [join_length,An,Mt,Aw,Hl]
   rw [Aw] at h1
   omega
theorem ME (xs:List Int) (hl:xs.length≤64) (hl1:0 < xs.length) (hb:∀ x,x ∈ xs→Bq x=true):(Nx xs).size≤1000:=by
 have h1:=MS 46 (xs.map tx) 12 (fun y hy=>by
  obtain ⟨x,hx,rfl⟩:=Bc.1 hy
  have hfx:=hb x hx
  unfold Bq at hfx
  have hfx:=AL hfx
  exact Cl 11 x (by omega) (by omega)) (by rw [An]; omega)
 rw [An] at h1
 show (Lib.join ((xs.map tx).map (·.data.toList)) [46]).toArray.size≤_
 rw [BL]
 omega
theorem Vn (xs:List Int) (a:Option Addr) (cap:Nat) (w:World) (hG:G w) (hx:El w iv a xs) (hl:xs.length≤64) (hl1:0 < xs.length) (hb:∀ x,x ∈ xs→Bq x=true) (hp:BQ xs=0) :
 Calls Tryz.prog 128 #[.slice a xs.length cap] w fun e w'=>e=.returned (.tuple #[.string (Nx xs),.int .i64 0])∧Fr w w':=by
 obtain ⟨i1,ji,jz0,jz1,jz2⟩:=AZ NJ
 have hck:=hZ (E5 xs a cap w hx (by omega))
 rw [hp] at hck
 obtain ⟨n,hn⟩:∃ n,n=xs.length:=⟨_,rfl⟩
 rw [← hn] at hl hl1 hck ⊢
 replace hn:=hZ hn
 replace hx:=hZ hx
 replace hb:=hZ hb
 replace hG:=hZ hG
 go_enter Tryz.func128,Tryz.ntmps128
 go_wp2_with fail
 refine hck.out.mono ?_
 rintro e w1 ⟨rfl,hf1⟩
 go_wp2_with fail
 go_loopg [5,15] n (fun k s5 s15 wr=>∃ i:Nat,s15=.int .i64 i∧i+k=n∧Fr w wr∧Hid (wr.ownsRow w.heap.size 9 1 s5 i ((xs.take i).map sv)))
 case atStart=>exact ⟨0,rfl,by omega,hf1,Bl _ _ _ _⟩
 case round=>
  obtain ⟨i,rfl,hik,hf,hown⟩:=hrel
  by_cases hi:i < n
  ·have hdI:decide (i < n)=true:=Ab hi
   obtain ⟨b,o,x,rfl,hbl,hxi,hcell⟩:=(hx.out.fr hf).at (i:=i) (by rw [← hn.out]; exact hi)
   have hfx:=hb.out x (Af hxi)
   unfold Bq at hfx
   have hfx:=AL hfx
   have hsn:Hid ((xs.take (i+1)).map sv=(xs.take i).map sv ++ [sv x]):=hZ (by rw [BN hxi,Ay]; rfl)
   replace hxi:=hZ hxi
   have z0:(0:Int)≤(i:Int):=Aj _
   have z1:(i:Int) < (n:Int):=by omega
   go_wp2_with fail
   refine (EE x (by omega) (by omega) _ (hG.out.fr hf)).mono ?_
   rintro e w3 ⟨rfl,hf3⟩
   have hownG:=Bg hown.out hf3
   have hz7:=hf.size
   have hz8:=hf3.size
   go_wp2_with (at_builtin; refine wpList_append_lies _ rfl _ _ 215 (by rfl) _ 9 _ _ 1 16 Tryz.underlying215 ji jz0 jz1 jz2 rfl (by decide) _ i _ (by rfl) (Az hownG _) ⟨w3.heap.size,0,none⟩ 1 1 [.string (tx x)] (by rfl) rfl (AK _ _ _ _ (by simp)) (by simp [Value.oneCell']) (by decide) (by unfold maxLen; omega) (by omega) (by skip; simp; omega) (w3.heap.size+1) (by simp) ?_; intro gA capA wA hownA hgrowA hatA hltA)
   go_wp2_with fail
   go_roundg (gk - 1)
   case measure=>omega
   case rel=>exact ⟨i+1,by go_num,by omega,((hf.trans hf3).alloc _).grown hgrowA (fun k e=>(hown.out.lt k e).1),by show _; rw [hsn.out]; exact hownA⟩
  ·have hdI:decide (i < n)=false:=Aa hi
   obtain rfl:n=i:=by omega
   have hown9:=hown.out
   rw [Ao (by rw [← hn.out]; exact Ah _)] at hown9
   obtain ⟨g,cp,h9,-⟩:=World.ownsRow.form hown9 hl1
   subst h9
   obtain ⟨-,-,hgl,hcp,hcells⟩:=Bo hown9
   have hjl:(Lib.join ((xs.map tx).map (·.data.toList)) (⟨#[46]⟩:ByteArray).data.toList).length≤140737488355328:=by
    have h1:=MS 46 (xs.map tx) 12 (fun y hy=>by
     obtain ⟨x,hx,rfl⟩:=Bc.1 hy
     have hfx:=hb.out x hx
     unfold Bq at hfx
     have hfx:=AL hfx
     exact Cl 11 x (by omega) (by omega)) (by rw [An,← hn.out]; omega)
    rw [An] at h1
    have h2:(⟨#[46]⟩:ByteArray).data.toList=[46]:=rfl
    rw [h2]
    have:=hn.out
    omega
   have hjn:=hZ (Tryz.strings_Join g 0 cp (xs.map tx) ⟨#[46]⟩ wr (fun j y hj=>by
    rw [At] at hj
    obtain ⟨x,hx1,rfl⟩:=BO.1 hj
    have:=(hcells j (sv x) (by rw [At,hx1]; rfl)).1
    rw [AN]; exact this) hgl (by rw [An,← hn.out]; omega) (by rw [An,← hn.out]; omega) hjl)
   have hje:(⟨(Lib.join ((xs.map tx).map (·.data.toList)) (⟨#[46]⟩:ByteArray).data.toList).toArray⟩:ByteArray)=Nx xs:=rfl
   rw [An,← hn.out,hje] at hjn
   have hSl:(Nx xs).size≤140737488355328:=by
    show (Lib.join ((xs.map tx).map (·.data.toList)) [46]).toArray.size≤_
    rw [BL]
    exact hjl
   obtain ⟨S,hS⟩:∃ S,S=Nx xs:=⟨_,rfl⟩
   rw [← hS] at hjn
   replace hS:=hZ hS
   clear hje hjl hSl
   clear hown9 hcells
   go_wp2_with fail
   refine hjn.out.mono ?_
   rintro e w4 ⟨rfl,hf4⟩
   go_wp2_with fail
   go_ret2
   exact ⟨by rw [← hS.out]; rfl,hf.trans hf4⟩
end Go.Proofs.YtiniigadkknboaaGreatDoor
