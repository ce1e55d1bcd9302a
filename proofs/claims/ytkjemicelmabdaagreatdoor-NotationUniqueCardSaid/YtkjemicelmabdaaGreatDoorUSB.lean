/- Contracts and laws: USB. -/
import Derived.Test.YtkjemicelmabdaaGreatDoorUSA
import Derived.Test.YtkjemicelmabdaaGreatDoorURB
import Derived.Test.YtkjemicelmabdaaGreatDoorURd
import Derived.Test.YtkjemicelmabdaaGreatDoorUChk
import Derived.Test.YtkjemicelmabdaaGreatDoorUD
import Derived.Test.YtkjemicelmabdaaGreatDoorUSW
import Derived.Test.YtkjemicelmabdaaGreatDoorUK
import Derived.Test.YtkjemicelmabdaaGreatDoorUKn
import Derived.Test.YtkjemicelmabdaaGreatDoorUNB
import Derived.Test.YtkjemicelmabdaaGreatDoorUMk
import Derived.Lib.SplitLaws

set_option maxRecDepth 100000
set_option maxHeartbeats 16000000
namespace Go.Proofs.YtkjemicelmabdaaGreatDoor
open Go.RowKit Go.Lib
attribute [local go_sem ↓] AQ AR
def Gl (x:Nat→Rat) (r:Nat→Int):Nat→Int×Int
 | 0=>(0,1)
 | k+1=>((Gl x r k).1 * (x k).den+(Gl x r k).2 * ((x k).num * r k),(Gl x r k).2 * (x k).den)
def GX (I:List (List Rat)) (r:List Int) (n i:Nat):Int×Int:=Gl (fun k=>BN I i k) (fun k=>(r[k]?).getD 0) n
def Q8 (I:List (List Rat)) (r:List Int) (n:Nat):Option (List Int) :=
 if (List.range n).all (fun i=>decide ((GX I r n i).1.fmod (GX I r n i).2=0)) then some ((List.range n).map fun i=>(GX I r n i).1.fdiv (GX I r n i).2) else none
def Mw (w:World) (res:Option (List Int)) (n:Nat) (e:Ending) (w':World):Prop:=match res with
 | none=>e=.returned (.tuple #[.slice none 0 0,.bool false])∧Fr w w'
 | some l=>∃ a c,e=.returned (.tuple #[.slice a n c,.bool true])∧El w' sv a l∧l.length=n∧Fr w w'
theorem NI {I:List (List Rat)} {r:List Int} {n i:Nat} (hi:i < n) (h:(GX I r n i).1.fmod (GX I r n i).2≠0):Q8 I r n=none:=by
 unfold Q8
 rw [Aj]
 intro h9
 exact h (Au (Ar.1 h9 i (AL.2 hi)))
theorem NH {I:List (List Rat)} {r:List Int} {n:Nat} (h:∀ i,i < n→(GX I r n i).1.fmod (GX I r n i).2=0):Q8 I r n=some ((List.range n).map fun i=>(GX I r n i).1.fdiv (GX I r n i).2):=by
 unfold Q8
 rw [Ak]
 exact Ar.2 fun i hi=>Ad (h i (AL.1 hi))
theorem Oj (N A:List Sy) (n:Nat) (C:List (List Int)) (D:Int) (r:List Int) (aN aA ra:Option Addr) (cN cA rc:Nat) (w:World) (hG:G w) (hn:DA w aN aA cA N A) (hlA:A.length=n) (hn1:1≤n) (hn3:n≤3)
 (hrA:∀ q,q ∈ A.map Sy.row→q.length=n) (hbT:IB 9 (Jm n (A.map Sy.row))) (hI:Gx (Jm n (A.map Sy.row)) n C D) (hC:Fw (Jm n (A.map Sy.row)) n C D)
 (hr:El w sv ra r) (hrl:r.length=n) (hr10:∀ x,x ∈ r→Bn 10 x) (hbd:∀ i k,i < n→k≤n→Bn 100 (Gl (fun k=>BN (B9 C D) i k) (fun k=>(r[k]?).getD 0) k).1∧Bn 100 (Gl (fun k=>BN (B9 C D) i k) (fun k=>(r[k]?).getD 0) k).2∧(Gl (fun k=>BN (B9 C D) i k) (fun k=>(r[k]?).getD 0) k).2≠0)
 (hent:∀ i k,i < n→k < n→Bn 10 (BN (B9 C D) i k).num∧Bn 10 ((BN (B9 C D) i k).den:Int)) :
 Calls Tryz.prog 34 #[.agg #[.slice aN N.length cN,.slice aA n cA],.slice ra n rc] w (Mw w (Q8 (B9 C D) r n) n):=by
 have hgn:=Ch hG
 obtain ⟨i0,hi,hz0,hz1,hz2⟩:=AG GC
 have hGf:=hZ (fun W (hW:Fr w W)=>hG.fr hW)
 have hrow:=hZ (fun W (hW:Fr w W)=>Hc aA cA A W (hG.fr hW) (hn.accs.fr hW) (by omega))
 rw [hlA] at hrow
 have hrectA:BU n (A.map Sy.row):=hrA
 have hlAr:(A.map Sy.row).length=n:=by rw [Al]; exact hlA
 have htr:=hZ (fun W a c (hW:Fr w W) (hm:BS W a (A.map Sy.row))=>MY (A.map Sy.row) a c n W (hG.fr hW) hm hrectA hn1 (by omega) (by omega) (by omega))
 rw [hlAr] at htr
 have hTl:(Jm n (A.map Sy.row)).length=n:=Jl n _
 have hTr:BU n (Jm n (A.map Sy.row)):=fun q hq=>by
  obtain ⟨k,-,rfl⟩:=AU.1 hq
  rw [Ma]; exact hlAr
 have hinv:=hZ (fun W a c (hW:Fr w W) (hm:BS W a (Jm n (A.map Sy.row)))=>Tp (Jm n (A.map Sy.row)) C D a c n W (hG.fr hW) hm hTr hTl hn1 hn3 hbT hI hC)
 rw [hTl] at hinv
 have hQl:(B9 C D).length=n:=by unfold B9; rw [Al]; exact hC.len
 have hQr:Hid (EG n (B9 C D)):=fun q hq=>by
  unfold B9 at hq
  obtain ⟨x,hx,rfl⟩:=AU.1 hq
  rw [Al]; exact hC.rect x hx
 have hnone:=hZ (fun i (h:i < n)=>NI (I:=B9 C D) (r:=r) (n:=n) h)
 have hsome:=hZ (NH (I:=B9 C D) (r:=r) (n:=n))
 generalize B9 C D=Q at *
 generalize Q8 Q r n=res at *
 obtain ⟨cnt,hcnt⟩:∃ cnt:Nat→Nat→Int×Int,cnt=fun i k=>Gl (fun k=>BN Q i k) (fun k=>(r[k]?).getD 0) k:=⟨_,rfl⟩
 have hc0:Hid (∀ i,cnt i 0=(0,1)):=fun i=>by rw [hcnt]; rfl
 have hcs:Hid (∀ i k,cnt i (k+1)=((cnt i k).1 * (BN Q i k).den+(cnt i k).2 * ((BN Q i k).num * (r[k]?).getD 0),(cnt i k).2 * (BN Q i k).den)):=fun i k=>by rw [hcnt]; rfl
 have hci:Hid (∀ i,GX Q r n i=cnt i n):=fun i=>by rw [hcnt]; rfl
 have hbd:Hid (∀ i k,i < n→k≤n→Bn 100 (cnt i k).1∧Bn 100 (cnt i k).2∧(cnt i k).2≠0):=fun i k h1 h2=>by rw [hcnt]; exact hbd i k h1 h2
 replace hent:=hZ hent
 replace hr:=hZ hr
 replace hrl:=hZ hrl
 replace hr10:=hZ hr10
 replace hQl:=hZ hQl
 clear hcnt hI hC hbT hTl hTr hrectA hlAr hrA hn hG
 obtain ⟨nb,hnb⟩:∃ nb,nb=w.heap.size:=⟨_,rfl⟩
 obtain ⟨W1,hW1⟩:∃ W1,W1=w.alloc (.cells #[.slice aN N.length cN,.slice aA n cA] 32):=⟨_,rfl⟩
 have f1:Fr w W1:=by rw [hW1]; exact (Fr.refl _).alloc _
 have hN1:Bm W1 nb (.slice aN N.length cN) (.slice aA n cA):=by rw [hW1,hnb]; exact Bm.new w _ _ _
 obtain ⟨n0,n1⟩:W1.cell? ⟨nb,0,none⟩=some (.slice aN N.length cN)∧W1.cell? ⟨nb,1,none⟩=some (.slice aA n cA):=⟨hN1.a,hN1.b⟩
 clear hN1
 generalize N.length=M at *
 go_enter Tryz.func34,Tryz.ntmps34
 go_upto_region 1 with (fail)
 rw [← hnb,← hW1]
 clear hW1 hnb
 go_wp2_with fail
 refine (hrow.out _ f1).mono ?_
 rintro e w2 ⟨a2,c2,rfl,hm2,f2⟩
 replace hm2:=hZ hm2
 go_wp2_with fail
 refine (htr.out _ _ _ (f1.trans f2) hm2.out).mono ?_
 rintro e w3 ⟨a3,c3,rfl,hm3,f3⟩
 replace hm3:=hZ hm3
 go_wp2_with fail
 refine (hinv.out _ _ _ ((f1.trans f2).trans f3) hm3.out).mono ?_
 rintro e w4 ⟨base,v4,hs4,rfl,hb4,hgg4,f4⟩
 have hF4:=((f1.trans f2).trans f3).trans f4
 obtain ⟨gb4,cp4,rfl⟩:∃ gb cp,v4=.slice (some ⟨gb,0,none⟩) n cp:=by
  rcases hgg4.own.2 with ⟨-,h0⟩ | ⟨g,cap2,-,hv,-⟩
  ·rw [hQl.out] at h0; omega
  ·rw [hQl.out] at hv; exact ⟨g,cap2,hv⟩
 obtain ⟨hg4,-,-,-⟩:=hgg4.grid
 replace hgg4:=hZ hgg4
 replace hg4:=hZ hg4
 clear n0 n1
 go_wp2_with fail
 go_loopg [7,10] n (fun k s7 s10 wr=>∃ i:Nat,s10=.int .i64 i∧i+k=n∧Fr w4 wr∧Hid (wr.ownsRow w4.heap.size 56 1 s7 i (((List.range i).map fun i=>(cnt i n).1.fdiv (cnt i n).2).map sv))∧Hid (∀ j,j < i→(cnt j n).1.fmod (cnt j n).2=0))
 case atStart=>exact ⟨0,rfl,by omega,Fr.refl _,AO _ _ _ _,fun j h=>absurd h (Bc _)⟩
 case round=>
  obtain ⟨i,rfl,hik,f5,hown,hall⟩:=hrel
  by_cases hin:i < n
  ·have dI:decide (i < n)=true:=Ad hin
   have zi0:(0:Int)≤(i:Int):=Ag _
   have zi1:(i:Int) < (n:Int):=by omega
   obtain ⟨bi,oi,ki,ei,cai,cfi,roi,boi⟩:=(hg4.out.fr f5).at (i:=i) (by rw [hQl.out]; exact hin)
   have hqi:=hQr.out.row (i:=i) (by rw [hQl.out]; exact hin)
   rw [hqi,AE] at cai
   obtain ⟨qr,hqr⟩:∃ qr,qr=Q[i]'(by rw [hQl.out]; exact hin):=⟨_,rfl⟩
   rw [← hqr] at roi hqi
   have hqg:Q[i]?=some qr:=by rw [hqr]; exact Aa _
   have hqe:Hid (∀ k,k < n→∀ x,qr[k]?=some x→x=BN Q i k):=fun k _ x hx=>by
    unfold BN CI
    rw [hqg]
    show x=(qr[k]?).getD 0
    rw [hx]; rfl
   clear hqg hqr
   replace hqi:=hZ hqi
   replace roi:=hZ roi
   replace cai:=hZ cai
   obtain ⟨wo,rfl⟩:∃ wo:World,wo=wr:=⟨_,rfl⟩
   obtain ⟨ko,rfl⟩:∃ ko:Nat,ko=gk:=⟨_,rfl⟩
   clear cfi boi ei
   go_wp2_with fail
   go_loopg [11,12,13] n (fun k s11 Ly s13 wr=>∃ (t:Nat) (num den:Int),s13=.int .i64 t∧s11=.string (tx num)∧Ly=.string (tx den)∧t+k=n∧Hid (cnt i t=(num,den))∧Fr wo wr)
   case atStart=>exact ⟨0,0,1,rfl,by rw [G7],by rw [Gy],by omega,hc0.out i,Fr.refl _⟩
   case round=>
    obtain ⟨t,num,den,rfl,rfl,rfl,htk,hct,f6⟩:=hrel
    by_cases ht:t < n
    ·have dT:decide (t < n)=true:=Ad ht
     have zt0:(0:Int)≤(t:Int):=Ag _
     have zt1:(t:Int) < (n:Int):=by omega
     obtain ⟨x,hx⟩:∃ x,qr[t]?=some x:=⟨_,Aa (by rw [hqi.out]; exact ht)⟩
     have hxe:=hqe.out t ht x hx
     obtain ⟨⟨q0,-⟩,q1,-⟩:=(roi.out.fr f6).2.2 t x hx
     have ca9:=f6.keep cai.out
     obtain ⟨rb,ro,y,hra,-,hyt,hyc⟩:=(((hr.out.fr hF4).fr f5).fr f6).at (i:=t) (by rw [hrl.out]; exact ht)
     subst hra
     have hy10:=hr10.out y (Ac hyt)
     have hst:=hcs.out i t
     rw [hct.out,hyt,← hxe] at hst
     have hst:cnt i (t+1)=(num * x.den+den * (x.num * y),den * x.den):=hst
     obtain ⟨b1,b2,-⟩:=hbd.out i t hin (by omega)
     rw [hct.out] at b1 b2
     have b1:Bn 100 num:=b1
     have b2:Bn 100 den:=b2
     obtain ⟨b3,b4⟩:=hent.out i t hin ht
     rw [← hxe] at b3 b4
     have hGr:=hGf.out _ (((hF4.trans f5).trans f6))
     have c1:=hZ (fun W (hW:Fr wr W)=>Oo 100 10 (by decide) (by decide) num x.den b1 b4 W (hGr.fr hW))
     have c2:=hZ (fun W (hW:Fr wr W)=>Oo 10 10 (by decide) (by decide) x.num y b3 hy10 W (hGr.fr hW))
     have c3:=hZ (fun W (hW:Fr wr W)=>Oo 100 20 (by decide) (by decide) den (x.num * y) b2 (b3.mul hy10) W (hGr.fr hW))
     have c4:=hZ (fun W (hW:Fr wr W)=>Rg 120 (by decide) (num * x.den) (den * (x.num * y)) ((b1.mul b4).mono (by decide)) (b2.mul (b3.mul hy10)) W (hGr.fr hW))
     have c5:=hZ (fun W (hW:Fr wr W)=>Oo 100 10 (by decide) (by decide) den x.den b2 b4 W (hGr.fr hW))
     replace hst:=hZ hst
     replace hyt:=hZ hyt
     replace hx:=hZ hx
     replace hxe:=hZ hxe
     clear b1 b2 b3 b4 hy10 hGr
     generalize x.num=xn at *
     generalize (x.den:Int)=xd at *
     have hi2:Hid (oi+t * 2=oi+t * 2):=rfl
     obtain ⟨p,hp⟩:∃ p,p=wr.heap.size:=⟨_,rfl⟩
     obtain ⟨W7,hW7⟩:∃ W7,W7=wr.alloc (.cells #[sv xn,sv xd] 134):=⟨_,rfl⟩
     have hF7:Fr wr W7:=by rw [hW7]; exact (Fr.refl _).alloc _
     have hX7:Bm W7 p (sv xn) (sv xd):=by rw [hW7,hp]; exact Bm.new wr _ _ _
     obtain ⟨x0,x1⟩:W7.cell? ⟨p,0,none⟩=some (sv xn)∧W7.cell? ⟨p,1,none⟩=some (sv xd):=⟨hX7.a,hX7.b⟩
     have y0:W7.cell? ⟨rb,ro+t,none⟩=some (sv y):=hF7.keep hyc
     clear hX7
     go_upto_region 12 with (fail)
     rw [← hp,← hW7]
     replace hW7:=hZ hW7
     replace hp:=hZ hp
     go_region_held3 (fun w'=>w'.cell? ⟨p,0,none⟩=some (sv xn)∧w'.cell? ⟨p,1,none⟩=some (sv xd)∧w'.cell? ⟨rb,ro+t,none⟩=some (sv y))
      (first | exact ⟨x0,x1,y0⟩ | (go_split_ands; refine ⟨?_, ?_, ?_⟩ <;> (refine Fr.keep (by assumption) ?_; assumption)) | go_keep)
      (first
       | (go_at_call 79; (with_reducible refine (c1.out _ ?_).mono ?_); (exact BM); rintro e w8 ⟨rfl,f8⟩)
       | (go_at_call 79; (with_reducible refine (c2.out _ ?_).mono ?_); (exact BM); rintro e w9 ⟨rfl,f9⟩)
       | (go_at_call 79; (with_reducible refine (c3.out _ ?_).mono ?_); (exact BM); rintro e w10 ⟨rfl,f10⟩)
       | (go_at_call 78; (with_reducible refine (c4.out _ ?_).mono ?_); (exact BM); rintro e w11 ⟨rfl,f11⟩))
     have hf12:Fr wr w11:=(by exact BM)
     have x9:=(((((Fr.refl W7).drew.trans f8).trans f9).trans f10).trans f11).keep x1
     go_wp2_with fail
     refine (c5.out _ hf12).mono ?_
     rintro e w13 ⟨rfl,f13⟩
     go_wp2_with fail
     go_roundg (gk - 1)
     case measure=>omega
     case rel=>exact ⟨t+1,_,_,by go_num,rfl,rfl,by omega,hst.out,(f6.trans hf12).trans f13⟩
    ·have hd:decide (t < n)=false:=Ab ht
     obtain rfl:n=t:=by omega
     obtain ⟨b1,b2,b3⟩:=hbd.out i n hin (Af _)
     have hci9:=hci.out i
     rw [hct.out] at b1 b2 b3 hci9
     have b1:Bn 100 num:=b1
     have b2:Bn 100 den:=b2
     have b3:den≠0:=b3
     have hdm:=Tr 100 100 (by decide) (by decide) num den b1 b2 b3 wr (hGf.out _ ((hF4.trans f5).trans f6))
     have hz:=DE (num.fmod den)
     replace hdm:=hZ hdm
     clear b1 b2 b3
     by_cases hm0:num.fmod den=0
     ·rw [Ad hm0] at hz
      have hsn:Hid ((List.range (i+1)).map (fun i=>(cnt i n).1.fdiv (cnt i n).2)=(List.range i).map (fun i=>(cnt i n).1.fdiv (cnt i n).2) ++ [num.fdiv den]):=by
       show _=_
       rw [List.range_succ,Ax,Rq,hct.out]
      have hall2:Hid (∀ j,j < i+1→(cnt j n).1.fmod (cnt j n).2=0):=fun j hj=>by
       by_cases e:j=i
       ·subst e; rw [hct.out]; exact hm0
       ·exact hall.out j (by omega)
      replace hm0:=hZ hm0
      generalize num.fdiv den=q at *
      generalize num.fmod den=rm at *
      go_wp2_with fail
      refine hdm.out.mono ?_
      rintro e w8 ⟨rfl,f8⟩
      go_wp2_with (at_builtin; refine As _ rfl _ _ 76 (by rfl) _ 56 _ _ 1 16 Tryz.underlying76 hi hz0 hz1 hz2 rfl (by decide) _ i _ (by rfl) (Av (A3 (A3 hown.out f6) f8) _) ⟨w8.heap.size,0,none⟩ 1 1 [sv q] (by rfl) rfl (AD _ _ _ _ (by simp)) (by simp [Value.oneCell']) (by decide) (by unfold maxLen; omega) (by omega) (by have:=((f5.trans f6).trans f8).size; simp; omega) (w8.heap.size+1) (by simp) ?_; intro gA capA wA hownA hgrowA hatA hltA)
      go_wp2_with fail
      go_roundg (ko - 1)
      case measure=>omega
      case rel=>exact ⟨i+1,by go_num,by omega,(((f5.trans f6).trans f8).alloc _).grown hgrowA (fun k e=>((A3 hown.out f6).lt k e).1),by show _; rw [hsn.out,Ax]; exact hownA,hall2⟩
     ·rw [Ab hm0] at hz
      have hrn:Hid (res=none):=hnone.out i hin (by rw [hci9]; exact hm0)
      replace hm0:=hZ hm0
      generalize num.fdiv den=q at *
      generalize num.fmod den=rm at *
      go_wp2_with fail
      refine hdm.out.mono ?_
      rintro e w8 ⟨rfl,f8⟩
      go_wp2_with fail
      go_ret2
      rw [hrn.out]
      exact ⟨rfl,((hF4.trans f5).trans f6).trans f8⟩
  ·have hd:decide (i < n)=false:=Ab hin
   obtain rfl:n=i:=by omega
   have hrs:Hid (res=some ((List.range n).map fun i=>(cnt i n).1.fdiv (cnt i n).2)):=by
    have h9:=hsome.out (fun i h=>by rw [hci.out]; exact hall.out i h)
    show _=_
    rw [h9]
    exact congrArg some (Cy fun i _=>by rw [hci.out])
   have hown9:=hown.out
   obtain ⟨g9,cp9,rfl⟩:=CF hown9 (by omega)
   have hell:Hid (El wr sv (some ⟨g9,0,none⟩) ((List.range n).map fun i=>(cnt i n).1.fdiv (cnt i n).2)):=(CG (Aw hgn hF4.size) hown9).1.el
   clear hown9
   go_wp2_with fail
   go_ret2
   rw [hrs.out]
   exact ⟨_,_,rfl,hell.out,by rw [Al,BP],hF4.trans f5⟩
theorem KK (xs ys:List Int) (n:Nat) (a b:Option Addr) (ca cb:Nat) (w:World) (hG:G w) (hx:El w iv a xs) (hy:El w iv b ys) (hxl:xs.length=n) (hyl:ys.length=n) (hn:n≤1000000) (hbx:∀ x,x ∈ xs→Bk x=true) (hby:∀ y,y ∈ ys→Bk y=true) :
 Calls Tryz.prog 35 #[.slice a n ca,.slice b n cb] w fun e w'=>∃ a' c',e=.returned (.slice a' n c')∧El w' sv a' (List.zipWith (· - ·) xs ys)∧Fr w w':=by
 have hgn:=Ch hG
 obtain ⟨i1,ji,jz0,jz1,jz2⟩:=AG GC
 obtain ⟨zs,hzs⟩:∃ zs,zs=List.zipWith (fun x y:Int=>x - y) xs ys:=⟨_,rfl⟩
 have hzl:Hid (zs.length=n):=by show _=_; rw [hzs,Ew,hxl,hyl]; exact TI _
 have hzg:Hid (∀ (t:Nat) (x y:Int),xs[t]?=some x→ys[t]?=some y→zs[t]?=some (x - y)):=fun t x y h1 h2=>by rw [hzs,CH,h1,h2]
 have hbx':Hid (∀ (t:Nat) (x:Int),xs[t]?=some x→-1000000000≤x∧x≤1000000000):=fun t x h=>Au (hbx x (Ac h))
 have hby':Hid (∀ (t:Nat) (x:Int),ys[t]?=some x→-1000000000≤x∧x≤1000000000):=fun t x h=>Au (hby x (Ac h))
 rw [← hzs]
 replace hG:=hZ hG
 replace hx:=hZ hx
 replace hy:=hZ hy
 replace hxl:=hZ hxl
 replace hyl:=hZ hyl
 clear hbx hby hzs
 go_enter Tryz.func35,Tryz.ntmps35
 go_wp2_with fail
 go_loopg [5,6] n (fun k s5 s6 wr=>∃ t:Nat,s6=.int .i64 t∧t+k=n∧Fr w wr∧Hid (wr.ownsRow w.heap.size 56 1 s5 t ((zs.take t).map sv)))
 case atStart=>exact ⟨0,rfl,by omega,Fr.refl _,AO _ _ _ _⟩
 case round=>
  obtain ⟨t,rfl,htk,hf,hown⟩:=hrel
  by_cases ht:t < n
  ·have hdT:decide (t < n)=true:=Ad ht
   obtain ⟨ab,ao,x,rfl,hbl,hxt,hcx⟩:=(hx.out.fr hf).at (i:=t) (by rw [hxl.out]; exact ht)
   obtain ⟨bb,bo,y,rfl,hbl2,hyt,hcy⟩:=(hy.out.fr hf).at (i:=t) (by rw [hyl.out]; exact ht)
   have hxb:=hbx'.out t x hxt
   have hyb:=hby'.out t y hyt
   have hsn:=hZ (Bh (hzg.out t x y hxt hyt))
   have habl:Hid (ab < w.heap.size):=by
    rcases hx.out with h | ⟨b',o',h1,h2,-⟩
    ·have:=hxl.out; rw [h] at this; simp at this; omega
    ·injection h1 with h1; injection h1 with h1 _; rw [h1]; exact h2
   have hbbl:Hid (bb < w.heap.size):=by
    rcases hy.out with h | ⟨b',o',h1,h2,-⟩
    ·have:=hyl.out; rw [h] at this; simp at this; omega
    ·injection h1 with h1; injection h1 with h1 _; rw [h1]; exact h2
   replace hxt:=hZ hxt
   replace hyt:=hZ hyt
   have y0:(0:Int)≤(t:Int):=Ag _
   have y1:(t:Int) < (n:Int):=by omega
   have hw9:IntKind.i64.wrap (x - y)=x - y:=AC _ (by omega)
   obtain ⟨wo,rfl⟩:∃ wo:World,wo=wr:=⟨_,rfl⟩
   have hof:=hZ (fun W (hW:Fr wo W)=>DQ (x - y) (by omega) (by omega) W ((hG.out.fr hf).fr hW))
   have hS0:=hZ (fun W' (hW':Fr wo W')=>(⟨hW'.keep hcx,hW'.keep hcy⟩:W'.cell? ⟨ab,ao+t,none⟩=some (iv x)∧W'.cell? ⟨bb,bo+t,none⟩=some (iv y)))
   have hvb:=hZ hown.out.lt
   go_wp2_with fail
   refine BL (S:=fun W'=>W'.cell? ⟨ab,ao+t,none⟩=some (iv x)∧W'.cell? ⟨bb,bo+t,none⟩=some (iv y)) 13 (by kernel_rfl) (hS0.out _ ((Fr.refl _).drew)) (fun hHeld=>?_)
   refine uK 0 ?_
   refine uK 1 ?_
   refine uK 2 ?_
   refine uK 3 ?_
   refine uK 4 ?_
   refine uK 5 ?_
   refine uK 6 ?_
   refine uK 7 ?_
   refine uK 8 ?_
   refine uK 9 ?_
   refine uC 10 (fun K hK=>?_)
   go_simp
   (refine (hof.out _ (by exact BM)).mono ?_; rintro e w6 ⟨rfl,hf6⟩)
   go_wp2_with fail
   refine hK.out _ _ (hS0.out _ (by exact BM)) (fun hHeld=>?_)
   clear hK K
   refine uC 11 (fun K hK=>?_)
   go_simp
   refine hK.out _ _ (hS0.out _ (by exact BM)) (fun hHeld=>?_)
   clear hK K
   have hf6w:Fr wo w6:=by exact BM
   have hf7:Fr wo (w6.alloc (.cells #[.string (tx (x - y))] 56)):=hf6w.alloc _
   have hown7:=A3 hown.out hf7
   have hcs:=AD w6 (.string (tx (x - y))) 56 w6.heap.size rfl
   have hz6:=(hf.trans hf6w).size
   have hSA:Hid (∀ wA,(w6.alloc (.cells #[.string (tx (x - y))] 56)).grownBy wA u5.ownBlock→(wA.cell? ⟨ab,ao+t,none⟩=some (iv x)∧wA.cell? ⟨bb,bo+t,none⟩=some (iv y))):=fun wA hgr=>
    ⟨(Fx.of_grown hgr).keep (q:=⟨ab,ao+t,none⟩) (hf7.keep hcx) (fun e=>by have e1:=(hvb.out ab e).1; have:=habl.out; omega),(Fx.of_grown hgr).keep (q:=⟨bb,bo+t,none⟩) (hf7.keep hcy) (fun e=>by have e1:=(hvb.out bb e).1; have:=hbbl.out; omega)⟩
   replace hcs:=hZ hcs
   refine uC 12 (fun K hK=>?_)
   (refine Dh _ rfl (.tmp 13) (.tmp 24) 76 rfl w.heap.size 56 i1 _ 1 16 Tryz.underlying76 ji jz0 jz1 jz2 rfl (by decide) u5 t ((zs.take t).map sv) (by simp [Act.eval]) hown7 ⟨w6.heap.size,0,none⟩ 1 1 [.string (tx (x - y))] (by simp [Act.eval]) rfl hcs.out (by simp [Value.oneCell']) (by decide) (by unfold maxLen; omega) (by omega) (by simp; omega) (w6.heap.size+1) (by simp) ?_; intro gA capA wA hownA hgrowA hatA hltA)
   refine hK.out _ _ ((hSA.out wA hgrowA)) (fun hHeld=>?_)
   clear hK K
   replace hownA:=hZ hownA
   clear hHeld
   refine uL 13 (fun K hK=>?_)
   go_simp
   refine hK.out _ _ ?_
   clear hK K
   go_wp2_with fail
   go_roundg (gk - 1)
   case measure=>omega
   case rel=>exact ⟨t+1,by go_num,by omega,(hf.trans hf7).grown hgrowA (fun k e=>(hvb.out k e).1),by show _; rw [hsn.out,Ax]; exact hownA.out⟩
  ·have hd:decide (t < n)=false:=Ab ht
   obtain rfl:n=t:=by omega
   have hown9:=hown.out
   rw [Ai (by rw [hzl.out]; exact Af _)] at hown9
   obtain ⟨a9,c9,rfl,h9⟩:=C4 hown9
   have hell:Hid (El wr sv a9 zs):=by
    rcases h9 with h9 | ⟨g,rfl⟩
    ·exact .inl (Aq (by rw [hzl.out]; exact h9))
    ·exact (CG hgn hown9).1.el
   clear hown9
   go_wp2_with fail
   go_ret
   exact ⟨_,_,rfl,hell.out,hf⟩
theorem OV (N A:List Sy) (d M:Nat) (Dl:Nat→List Int) (f:Nat→Option (List Int)) (ra aN aA:Option Addr) (rc cN cA:Nat) (w:World) (hG:G w) (hn:DA w aN aA cA N A) (hM:N.length=M) (hM6:M≤60) (hd3:d≤3)
 (hrowN:∀ x,x ∈ N→x.row.length=d)
 (hmn:∀ i x,N[i]?=some x→∀ W,Fr w W→Calls Tryz.prog 35 #[.slice ra d rc,.slice x.ra d x.rc] W fun e w'=>∃ a' c',e=.returned (.slice a' d c')∧El w' sv a' (Dl i)∧Fr W w')
 (hcn:∀ i,i < M→∀ W a c,Fr w W→El W sv a (Dl i)→Calls Tryz.prog 34 #[.agg #[.slice aN M cN,.slice aA d cA],.slice a d c] W (Mw W (f i) d))
 (hsm:∀ i cs,i < M→f i=some cs→∀ x,x ∈ cs→Sm x) :
 Calls Tryz.prog 11 #[.agg #[.slice aN M cN,.slice aA d cA],.slice ra d rc] w (Za w (J8 f M) d):=by
 have hgn:=Ch hG
 have hnone:=hZ (Lx (f:=f) (M:=M))
 have hsome:=hZ (fun i cs (hi:i < M) (h:∀ j,j < i→f j=none) (hc:f i=some cs)=>OW hi h hc)
 have hsh:=hZ (fun (cs:List Int) (h:∀ x,x ∈ cs→Sm x) (hl:cs.length=d) (W:World) (hW:Fr w W) (a:Option Addr) (c:Nat) (he:El W sv a cs)=>KG cs a c d W (hG.fr hW) he hl.symm (by omega) h)
 have hsy:=hZ hn.noms
 replace hmn:=hZ hmn
 replace hcn:=hZ hcn
 replace hsm:=hZ hsm
 replace hrowN:=hZ hrowN
 replace hM:=hZ hM
 generalize J8 f M=res at *
 clear hG hn
 obtain ⟨nb,hnb⟩:∃ nb,nb=w.heap.size:=⟨_,rfl⟩
 obtain ⟨W1,hW1⟩:∃ W1,W1=(w.alloc (.cells #[.slice aN M cN,.slice aA d cA] 32)).alloc (.cells #[.int .i64 0,.slice none 0 0] 37):=⟨_,rfl⟩
 have f1:Fr w W1:=by rw [hW1]; exact ((Fr.refl _).alloc _).alloc _
 have hN1:Bm W1 nb (.slice aN M cN) (.slice aA d cA):=by rw [hW1,hnb]; exact (Bm.new w _ _ _).fr ((Fr.refl _).alloc _)
 have hS1:Bm W1 (nb+1) (.int .i64 0) (.slice none 0 0):=by
  have:=Bm.new (w.alloc (.cells #[.slice aN M cN,.slice aA d cA] 32)) (.int .i64 0) (.slice none 0 0) 37
  rw [Az] at this
  rw [hW1,hnb]; exact this
 go_enter Tryz.func11,Tryz.ntmps11
 go_upto_region 1 with (fail)
 rw [← hW1,← hnb]
 clear hW1
 replace hnb:=hZ hnb
 replace hN1:=hZ hN1
 replace hS1:=hZ hS1
 go_wp2_with fail
 go_loopg [6] M (fun k s6 wr=>∃ i:Nat,s6=.int .i64 i∧i+k=M∧Hid (∀ j,j < i→f j=none)∧Fr W1 wr)
 case atStart=>exact ⟨0,rfl,by omega,fun j h=>absurd h (Bc _),Fr.refl _⟩
 case round=>
  obtain ⟨i,rfl,hik,hall,hf⟩:=hrel
  have hFr:=f1.trans hf
  obtain ⟨wo,rfl⟩:∃ wo:World,wo=wr:=⟨_,rfl⟩
  obtain ⟨ko,rfl⟩:∃ ko:Nat,ko=gk:=⟨_,rfl⟩
  have m0:=hf.keep hN1.out.a
  by_cases hi:i < M
  ·have hdI:decide (i < M)=true:=Ad hi
   obtain ⟨ab,ao,x,rfl,hbl,hxi,hc1,hc2,-⟩:=(hsy.out.fr hFr).at (i:=i) (by rw [hM.out]; exact hi)
   have hxm:=Ac hxi
   rw [hrowN.out x hxm] at hc2
   have z0:(0:Int)≤(i:Int):=Ag _
   have z1:(i:Int) < (M:Int):=by omega
   have hm1:=hZ (fun W (hW:Fr wo W)=>hmn.out i x hxi W (hFr.trans hW))
   have hc9:=hZ (fun W a c (hW:Fr wo W) h=>hcn.out i hi W a c (hFr.trans hW) h)
   replace hxi:=hZ hxi
   go_wp2_with fail
   have m1:=hf.keep hN1.out.b
   generalize x.ra=xa at *
   generalize x.rc=xc at *
   have hS0:=hZ (fun W' (hW':Fr wo W')=>(⟨hW'.keep m0,hW'.keep m1,hW'.keep hc2⟩:W'.cell? ⟨nb,0,none⟩=some (.slice (some ⟨ab,ao,none⟩) M cN)∧W'.cell? ⟨nb,1,none⟩=some (.slice aA d cA)∧W'.cell? ⟨ab,ao+i * 2+1,none⟩=some (.slice xa d xc)))
   have hd8:Fr wo wo.drew:=(Fr.refl wo).drew
   refine BL (S:=fun W'=>W'.cell? ⟨nb,0,none⟩=some (.slice (some ⟨ab,ao,none⟩) M cN)∧W'.cell? ⟨nb,1,none⟩=some (.slice aA d cA)∧W'.cell? ⟨ab,ao+i * 2+1,none⟩=some (.slice xa d xc)) 14 (by kernel_rfl) (hS0.out _ hd8) (fun hHeld=>?_)
   refine uK 0 ?_
   refine uK 1 ?_
   refine uK 2 ?_
   refine uK 3 ?_
   refine uK 4 ?_
   refine uK 5 ?_
   refine uK 6 ?_
   refine uK 7 ?_
   refine uC 8 (fun K hK=>?_)
   go_simp
   (refine (hm1.out _ (by exact BM)).mono ?_; rintro e w6 ⟨a6,c6,rfl,he6,hf6⟩)
   go_wp2_with fail
   refine hK.out _ _ (hS0.out _ (by exact BM)) (fun hHeld=>?_)
   clear hK K
   have hcf:=hc9.out
   cases hfi:f i with
   | none=>
     rw [hfi] at hcf
     replace hcf:=hZ (fun W a c (hW:Fr wo W) h=>hcf W a c hW h)
     refine uC 9 (fun K hK=>?_)
     go_simp
     (refine (hcf.out _ _ _ (by exact BM) he6).mono ?_; rintro e w7 ⟨rfl,hf7⟩)
     go_wp2_with fail
     refine hK.out _ _ (hS0.out _ (by exact BM)) (fun hHeld=>?_)
     clear hK K
     refine uK 10 ?_
     refine uK 11 ?_
     refine uK 12 ?_
     refine uK 13 ?_
     clear hHeld
     refine uL 14 (fun K hK=>?_)
     go_simp
     refine hK.out _ _ ?_
     clear hK K
     have hall2:Hid (∀ j,j < i+1→f j=none):=fun j hj=>by
      by_cases e:j=i
      ·subst e; exact hfi
      ·exact hall.out j (by omega)
     have f7:Fr wo w7:=(hd8.trans hf6).trans hf7
     clear hfi
     go_wp2_with fail
     go_roundg (ko - 1)
     case measure=>omega
     case rel=>exact ⟨i+1,by go_num,by omega,hall2,hf.trans f7⟩
   | some cs=>
     rw [hfi] at hcf
     replace hcf:=hZ (fun W a c (hW:Fr wo W) h=>hcf W a c hW h)
     refine uC 9 (fun K hK=>?_)
     go_simp
     (refine (hcf.out _ _ _ (by exact BM) he6).mono ?_; rintro e w7 ⟨a7,c7,rfl,he7,hl7,hf7⟩)
     go_wp2_with fail
     refine hK.out _ _ (hS0.out _ (by exact BM)) (fun hHeld=>?_)
     clear hK K
     refine uK 10 ?_
     refine uK 11 ?_
     refine uK 12 ?_
     refine uK 13 ?_
     clear hHeld
     refine uL 14 (fun K hK=>?_)
     go_simp
     refine hK.out _ _ ?_
     clear hK K
     have f7:Fr wo w7:=(hd8.trans hf6).trans hf7
     have hsh7:=hsh.out cs (hsm.out i cs hi hfi) hl7 w7 (hFr.trans f7) a7 c7 he7
     have hres:Hid (res=some (i,cs)):=hsome.out i cs hi hall.out hfi
     have hS7:=(hS1.out.fr hf).fr f7
     have hnb7:nb+1 < W1.heap.size:=hS1.out.lt
     have hz7:=hf.size
     have hz8:=f7.size
     clear hfi hcf hc9 hm1 hS0 hc1 hc2 m0 m1 he6
     replace he7:=hZ he7
     go_wp2_with fail
     refine hsh7.mono ?_
     clear hsh7
     rintro e w8 ⟨k1,k2⟩
     cases hfit:cs.all Bk with
     | true=>
       obtain ⟨a8,c8,rfl,he8,hl8,f8,hnw8⟩:=k1 hfit
       have hnw9:Hid (∀ W,Fx (·=nb+1) w8 W→El W iv a8 cs):=fun W hW=>by
        rcases hnw8 with h | ⟨g8,rfl,hg8⟩
        ·exact .inl (Aq (by omega))
        ·exact he8.fx hW (fun e=>by have e:g8=nb+1:=e; omega)
       have hnw7:Hid (d=0∨∃ b,a8=some b∧w.heap.size≤b.block):=by
        have hz9:=(hFr.trans f7).size
        exact hnw8.imp id fun ⟨g8,h1,h2⟩=>⟨_,h1,Aw hz9 h2⟩
       have hS9:=hS7.fr f8
       have hS10:=hZ ((hS9.set0 (.int .i64 i)).set1 (.slice a8 d c8))
       have hfx10:Hid (Fx (·=nb+1) w8 ((w8.setCell ⟨nb+1,0,none⟩ (.int .i64 i)).setCell ⟨nb+1,1,none⟩ (.slice a8 d c8))):=Fx.setCell (p:=(·=nb+1)) (q:=⟨nb+1,1,none⟩) (Fx.setCell (p:=(·=nb+1)) (q:=⟨nb+1,0,none⟩) (Fx.refl _ w8) (.inl rfl) _) (.inl rfl) _
       have x1:=(hS9.set0 (.int .i64 i)).b
       have x2:=(hS9.set0 (.int .i64 i)).fb
       have hfr9:=(hFr.trans f7).trans f8
       replace hl8:=hZ hl8
       obtain ⟨q4,q5,q6,q7⟩:=hS9
       clear k1 k2 hnw8 he8
       replace hfit:=hZ hfit
       go_wp2_with fail
       have q0:=hS10.out.a
       have q1:=hS10.out.b
       refine Ay (v:=.tuple #[.agg #[.int .i64 i,.slice a8 d c8],.int .i64 0]) (by simp [results,Tryz.results11,go_sem,q0,q1]) rfl ?_
       rw [hres.out]
       exact ⟨fun _=>⟨_,c8,rfl,hnw9.out _ hfx10.out,hl8.out,((Fx.of_fr hfr9).trans hfx10.out).toFr (fun k hk e=>by have e:k=nb+1:=e; have:=hnb.out; omega),hnw7.out⟩,fun h=>(by rw [hfit.out] at h; cases h)⟩
     | false=>
       obtain ⟨rfl,f8⟩:=k2 hfit
       have hS9:=hS7.fr f8
       have hfr9:=(hFr.trans f7).trans f8
       replace hfit:=hZ hfit
       clear k1 k2
       have hS10:=hZ ((hS9.set0 (.int .i64 0)).set1 (.slice none 0 0))
       have hfx10:Hid (Fx (·=nb+1) w8 ((w8.setCell ⟨nb+1,0,none⟩ (.int .i64 0)).setCell ⟨nb+1,1,none⟩ (.slice none 0 0))):=Fx.setCell (p:=(·=nb+1)) (q:=⟨nb+1,1,none⟩) (Fx.setCell (p:=(·=nb+1)) (q:=⟨nb+1,0,none⟩) (Fx.refl _ w8) (.inl rfl) _) (.inl rfl) _
       have x1:=(hS9.set0 (.int .i64 0)).b
       have x2:=(hS9.set0 (.int .i64 0)).fb
       obtain ⟨q4,q5,q6,q7⟩:=hS9
       go_wp2_with fail
       have q0:=hS10.out.a
       have q1:=hS10.out.b
       refine Ay (v:=.tuple #[.agg #[.int .i64 0,.slice none 0 0],.int .i64 4]) (by simp [results,Tryz.results11,go_sem,q0,q1]) rfl ?_
       rw [hres.out]
       exact ⟨fun h=>(by rw [hfit.out] at h; cases h),fun _=>⟨rfl,((Fx.of_fr hfr9).trans hfx10.out).toFr (fun k hk e=>by have e:k=nb+1:=e; have:=hnb.out; omega)⟩⟩
  ·have hdI:decide (i < M)=false:=Ab hi
   have hres:Hid (res=none):=hnone.out fun j hj=>hall.out j (by omega)
   have hS9:=hS1.out.fr hf
   have hnb7:nb+1 < W1.heap.size:=hS1.out.lt
   have hS10:=hZ ((hS9.set0 (.int .i64 0)).set1 (.slice none 0 0))
   have hfx10:Hid (Fx (·=nb+1) wo ((wo.setCell ⟨nb+1,0,none⟩ (.int .i64 0)).setCell ⟨nb+1,1,none⟩ (.slice none 0 0))):=Fx.setCell (p:=(·=nb+1)) (q:=⟨nb+1,1,none⟩) (Fx.setCell (p:=(·=nb+1)) (q:=⟨nb+1,0,none⟩) (Fx.refl _ wo) (.inl rfl) _) (.inl rfl) _
   have x1:=(hS9.set0 (.int .i64 0)).b
   have x2:=(hS9.set0 (.int .i64 0)).fb
   obtain ⟨q4,q5,q6,q7⟩:=hS9
   go_wp2_with fail
   have q0:=hS10.out.a
   have q1:=hS10.out.b
   refine Ay (v:=.tuple #[.agg #[.int .i64 0,.slice none 0 0],.int .i64 19]) (by simp [results,Tryz.results11,go_sem,q0,q1]) rfl ?_
   rw [hres.out]
   exact ⟨rfl,((Fx.of_fr hFr).trans hfx10.out).toFr (fun k hk e=>by have e:k=nb+1:=e; have:=hnb.out; omega)⟩
theorem L8 (f g h:Nat→Int):∀ n,Ce (fun j=>f j+g j) h n=Ce f h n+Ce g h n
 | 0=>rfl
 | n+1=>by show Ce _ h n+(f n+g n) * h n=Ce f h n+f n * h n+(Ce g h n+g n * h n); rw [L8 f g h n,HE]; omega
theorem GU (a:Int) (f h:Nat→Int):∀ n,Ce (fun j=>a * f j) h n=a * Ce f h n
 | 0=>by show (0:Int)=a * 0; omega
 | n+1=>by show Ce _ h n+a * f n * h n=a * (Ce f h n+f n * h n); rw [GU a f h n,OI,Qo]
theorem Ga (h:Nat→Int):∀ n,Ce (fun _=>0) h n=0
 | 0=>rfl
 | n+1=>by show Ce _ h n+0 * h n=0; rw [Ga h n]; omega
theorem Db {f g f' g':Nat→Int}:∀ {n:Nat},(∀ j,j < n→f j=f' j∧g j=g' j)→Ce f g n=Ce f' g' n
 | 0,_=>rfl
 | n+1,h=>by
   show Ce f g n+f n * g n=Ce f' g' n+f' n * g' n
   rw [Db (fun j hj=>h j (by omega)),(h n (by omega)).1,(h n (by omega)).2]
theorem Iq (a:Nat→Int) (b:Nat→Nat→Int) (e:Nat→Int) (n:Nat):∀ p,Ce (fun j=>Ce a (fun c=>b c j) p) e n=Ce a (fun c=>Ce (fun j=>b c j) e n) p
 | 0=>Ga e n
 | p+1=>by
   show Ce (fun j=>Ce a (fun c=>b c j) p+a p * b p j) e n=Ce a _ p+a p * Ce (fun j=>b p j) e n
   rw [L8,Iq a b e n p,GU]
theorem Fc (D:Int) (k:Nat) (g:Nat→Int):∀ n,Ce (fun j=>if k=j then D else 0) g n=if k < n then D * g k else 0
 | 0=>by rw [Aj (Bc _)]; rfl
 | n+1=>by
   show Ce _ g n+(if k=n then D else 0) * g n=_
   rw [Fc D k g n]
   by_cases h1:k < n
   ·rw [Ak h1,Aj (by omega),Ak (by omega)]; omega
   ·by_cases h2:k=n
    ·subst h2; rw [Aj h1,Ak rfl,Ak (by omega)]; omega
    ·rw [Aj h1,Aj h2,Aj (by omega)]; omega
theorem Fd (f g:Nat→Int):∀ n,Ce f g n=Ce g f n
 | 0=>rfl
 | n+1=>by show Ce f g n+f n * g n=Ce g f n+g n * f n; rw [Fd f g n,Cd]
theorem Og {f g:Nat→Int} {A B:Nat}:∀ {n:Nat},(∀ j,j < n→(f j).natAbs≤A∧(g j).natAbs≤B)→(Ce f g n).natAbs≤n * (A * B)
 | 0,_=>by rw [ZB]; exact Af 0
 | n+1,h=>by
   show (Ce f g n+f n * g n).natAbs≤_
   rw [Nat.add_one_mul]
   exact R7 (Og fun j hj=>h j (by omega)) (Bz (h n (by omega)).1 (h n (by omega)).2)
theorem Py {m:List (List Int)} {n j c:Nat} (hj:j < n):BD (Jm n m) j c=BD m c j:=by
 unfold BD
 rw [show C9 (Jm n m) j=Km m j by unfold C9; rw [Rv m hj]; rfl]
 unfold Km C9
 rw [Am]
 cases m[c]? with
 | none=>simp
 | some r=>rfl
theorem WL {m:List (List Int)} {n:Nat} (hn:n≤3) (hm:m.length=n) (hr:∀ r,r ∈ m→r.length=n):Fv (Jm n m)=Fv m:=by
 have hn4:n=0∨n=1∨n=2∨n=3:=by omega
 rcases hn4 with rfl | rfl | rfl | rfl
 ·rw [Aq hm]; rfl
 ·obtain ⟨r,rfl⟩:=Gt hm
  obtain ⟨a,rfl⟩:=Gt (hr r (by simp))
  rfl
 ·obtain ⟨r,r',rfl⟩:=ED hm
  obtain ⟨a,b,rfl⟩:=ED (hr r (by simp))
  obtain ⟨d,e,rfl⟩:=ED (hr r' (by simp))
  show a * e - d * b=a * e - b * d
  rw [Cd d b]
 ·obtain ⟨r,r',r'',rfl⟩:=Dz hm
  obtain ⟨a,b,c,rfl⟩:=Dz (hr r (by simp))
  obtain ⟨d,e,f,rfl⟩:=Dz (hr r' (by simp))
  obtain ⟨g,h,i,rfl⟩:=Dz (hr r'' (by simp))
  show Iy a d g b e h c f i=Iy a b c d e f g h i
  unfold Iy; grind
theorem Va {m:List (List Int)} {n B:Nat} (h:IB B m):IB B (Jm n m):=fun r hr x hx=>by
 obtain ⟨k,-,rfl⟩:=AU.1 hr
 obtain ⟨q,hq,rfl⟩:=AU.1 hx
 cases e:q[k]? with
 | none=>simp
 | some y=>exact h q hq y (Ac e)
theorem TX {m C C':List (List Int)} {n:Nat} {D D':Int} (h:Fw m n C D) (h':Fw (Jm n m) n C' D') {i k:Nat} (hi:i < n) (hk:k < n):D * BD C' i k=D' * BD C k i:=by
 have e1:Ce (fun j=>Ce (fun c=>BD C k c) (fun c=>BD m c j) n) (fun j=>BD C' i j) n=D * BD C' i k:=by
  have:=Fc D k (fun j=>BD C' i j) n
  rw [Ak hk] at this
  rw [← this]
  exact Db fun j hj=>⟨h.one k j hk hj,rfl⟩
 rw [← e1,Iq (fun c=>BD C k c) (fun c j=>BD m c j)]
 have e2:Ce (fun c=>BD C k c) (fun c=>Ce (fun j=>BD m c j) (fun j=>BD C' i j) n) n=Ce (fun c=>BD C k c) (fun c=>if i=c then D' else 0) n:=by
  refine Db fun c hc=>⟨rfl, ?_⟩
  rw [Fd,← h'.one i c hi hc]
  exact Db fun j hj=>⟨rfl,(Py hj).symm⟩
 rw [e2,Fd]
 have:=Fc D' i (fun c=>BD C k c) n
 rw [Ak hi] at this
 exact this
theorem HX {C:List (List Int)} {D:Int} {n i k:Nat} (hl:C.length=n) (hr:∀ r,r ∈ C→r.length=n) (hi:i < n) (hk:k < n):BN (B9 C D) i k=(BD C i k:Rat) / (D:Rat):=by
 obtain ⟨q,h1⟩:∃ q,C[i]?=some q:=⟨_,Aa (by omega)⟩
 obtain ⟨x,h2⟩:∃ x,q[k]?=some x:=⟨_,Aa (by rw [hr _ (Ac h1)]; exact hk)⟩
 unfold BN CI BD C9 B9
 rw [Am,h1]
 simp only [Ib,Bw]
 rw [Am,h2]; rfl
theorem XE {m C C':List (List Int)} {n:Nat} {D D':Int} (h:Fw m n C D) (h':Fw (Jm n m) n C' D') {i k:Nat} (hi:i < n) (hk:k < n):BN (B9 C' D') i k=BN (B9 C D) k i:=by
 rw [HX h'.len h'.rect hi hk,HX h.len h.rect hk hi]
 have e:=congrArg (fun t:Int=>(t:Rat)) (TX h h' hi hk)
 simp only [Bb] at e
 have hD:(D:Rat)≠0:=Gu h.d0
 have hD':(D':Rat)≠0:=Gu h'.d0
 generalize (BD C' i k:Rat)=x at *
 generalize (BD C k i:Rat)=y at *
 grind
theorem Jq {m C:List (List Int)} {n:Nat} {D:Int} (h:Fw m n C D) (d:List Int) {c:Nat} (hc:c < n):∀ k,k≤n→Eg (B9 C D) d c k=(Ce (fun j=>(d[j]?).getD 0) (fun j=>BD C j c) k:Rat) / (D:Rat)
 | 0,_=>by show (0:Rat)=((0:Int):Rat) / _; rw [HC]; exact (TG _).symm
 | k+1,hk=>by
   show Eg (B9 C D) d c k+_ * BN (B9 C D) k c=((Ce _ _ k+_ * BD C k c:Int):Rat) / _
   rw [Jq h d hc k (by omega),HX h.len h.rect (by omega) hc,ME,Bb]
   have hD:(D:Rat)≠0:=Gu h.d0
   grind
theorem K8 {x y:Int} (hy:y≠0):((x:Rat) / (y:Rat)).num.natAbs≤x.natAbs∧((x:Rat) / (y:Rat)).den≤y.natAbs:=by
 have e:(x:Rat) / (y:Rat)=Rat.divInt x y:=(E4 _ _).symm
 rw [e]
 constructor
 ·rw [Ys]
  refine Aw (Yz _ _) ?_
  rw [A1,Fl hy,Gj]; exact Af _
 ·rw [Yt,Aj hy]; exact MF _ _
theorem UR (x y:Int) (hy:0 < y):(((x:Rat) / (y:Rat)).den=1 ↔ x.fmod y=0)∧(x.fmod y=0→((x:Rat) / (y:Rat)).num=x.fdiv y):=by
 have hq:(y:Rat)≠0:=Gu (by omega)
 have key:x.fmod y=0→(x:Rat) / (y:Rat)=((x.fdiv y:Int):Rat):=fun h=>by
  have e:=G5 x y
  rw [h,TM] at e
  have e:=congrArg (fun t:Int=>(t:Rat)) e
  simp only [Bb] at e
  generalize ((x.fdiv y:Int):Rat)=q at *
  grind
 refine ⟨⟨fun h=>?_,fun h=>by rw [key h,FU]⟩,fun h=>by rw [key h,EV]⟩
 have e:(x:Rat) / (y:Rat)=((((x:Rat) / (y:Rat)).num:Int):Rat):=by
  have:=DR ((x:Rat) / (y:Rat))
  rw [h,E4] at this
  generalize ((x:Rat) / (y:Rat)).num=q at *
  rw [show (((1:Nat):Int):Rat)=1 from rfl] at this; grind
 generalize ((x:Rat) / (y:Rat)).num=q at e
 have e2:x=y * q:=by
  refine BA.1 ?_
  rw [Bb,← e]; grind
 rw [e2,Cd]; exact Int.mul_fmod_left ..
theorem JQ (x:Nat→Rat) (r:Nat→Int):∀ k,0 < (Gl x r k).2
 | 0=>by show (0:Int) < 1; decide
 | k+1=>Int.mul_pos (JQ x r k) (by have:=Hm (x k); omega)
def T6 (x:Nat→Rat) (r:Nat→Int):Nat→Rat
 | 0=>0
 | k+1=>T6 x r k+(r k:Rat) * x k
theorem PO (x:Nat→Rat) (r:Nat→Int):∀ k,((Gl x r k).1:Rat) / ((Gl x r k).2:Rat)=T6 x r k
 | 0=>by show ((0:Int):Rat) / ((1:Int):Rat)=0; rw [HC]; exact TG _
 | k+1=>by
   show (((Gl x r k).1 * (x k).den+(Gl x r k).2 * ((x k).num * r k):Int):Rat) / (((Gl x r k).2 * (x k).den:Int):Rat)=T6 x r k+(r k:Rat) * x k
   have h1:((Gl x r k).2:Rat)≠0:=Gu (by have:=JQ x r k; omega)
   have h2:(((x k).den:Int):Rat)≠0:=Gu (by have:=Hm (x k); omega)
   have h3:x k=((x k).num:Rat) / (((x k).den:Int):Rat):=by
    have:=DR (x k)
    rw [E4] at this; exact this.symm
   rw [← PO x r k,ME,Bb,Bb,Bb,Bb]
   generalize ((Gl x r k).1:Rat)=a at *
   generalize ((Gl x r k).2:Rat)=b at *
   generalize ((x k).num:Rat)=p at *
   generalize (((x k).den:Int):Rat)=q at *
   generalize (r k:Rat)=t at *
   rw [h3]
   grind
structure H2 (m C C':List (List Int)) (n:Nat) (D D':Int):Prop where
 inv:Fw m n C D
 inv':Fw (Jm n m) n C' D'
theorem H2.same {m C C':List (List Int)} {n:Nat} {D D':Int} (h:H2 m C C' n D D') (d:List Int):Q8 (B9 C' D') d n=CX (B9 C D) d n:=by
 have hv:∀ i,i < n→((GX (B9 C' D') d n i).1:Rat) / ((GX (B9 C' D') d n i).2:Rat)=Eg (B9 C D) d i n:=fun i hi=>by
  unfold GX
  rw [PO]
  have key:∀ k,k≤n→T6 (fun k=>BN (B9 C' D') i k) (fun k=>(d[k]?).getD 0) k=Eg (B9 C D) d i k:=fun k=>by
   induction k with
   | zero=>intro _; rfl
   | succ k ih=>
     intro hk
     show T6 _ _ k+_ * BN (B9 C' D') i k=Eg _ d i k+_ * BN (B9 C D) k i
     rw [ih (by omega),XE h.inv h.inv' hi (by omega)]
  exact key n (Af _)
 have hf:∀ i,i < n→_:=fun i hi=>UR (GX (B9 C' D') d n i).1 (GX (B9 C' D') d n i).2 (JQ _ _ _)
 by_cases hall:∀ i,i < n→(GX (B9 C' D') d n i).1.fmod (GX (B9 C' D') d n i).2=0
 ·rw [NH hall,HO (fun c hc=>by rw [← hv c hc]; exact ((hf c hc).1).2 (hall c hc))]
  unfold Hx
  exact congrArg some (Cy fun i hi=>by
   have hi:=AL.1 hi
   rw [← hv i hi]; exact ((hf i hi).2 (hall i hi)).symm)
 ·have:∃ i,i < n∧(GX (B9 C' D') d n i).1.fmod (GX (B9 C' D') d n i).2≠0:=Bl fun hno=>hall fun i hi=>Bl fun h9=>hno ⟨i,hi,h9⟩
  obtain ⟨i,hi,h9⟩:=this
  rw [NI hi h9,KF hi (fun e=>h9 ((hf i hi).1.1 (by rw [hv i hi]; exact e)))]
theorem H2.ent {m C C':List (List Int)} {n:Nat} {D D':Int} (h:H2 m C C' n D D') {i k:Nat} (hi:i < n) (hk:k < n):Bn 4 (BN (B9 C' D') i k).num∧Bn 4 ((BN (B9 C' D') i k).den:Int):=by
 rw [HX h.inv'.len h.inv'.rect hi hk]
 obtain ⟨h1,h2⟩:=K8 (x:=BD C' i k) h.inv'.d0
 have h3:=h.inv'.bd.ent i k
 have h4:=h.inv'.dB
 exact ⟨by unfold Bn; omega,by unfold Bn; rw [AA]; omega⟩
theorem H2.bds {m C C':List (List Int)} {n:Nat} {D D':Int} (h:H2 m C C' n D D') (hn:n≤3) {d:List Int} (hd:∀ x,x ∈ d→x.natAbs≤2000000000) {i k:Nat} (hi:i < n) (hk:k≤n) :
 Bn 100 (Gl (fun k=>BN (B9 C' D') i k) (fun k=>(d[k]?).getD 0) k).1∧Bn 100 (Gl (fun k=>BN (B9 C' D') i k) (fun k=>(d[k]?).getD 0) k).2∧(Gl (fun k=>BN (B9 C' D') i k) (fun k=>(d[k]?).getD 0) k).2≠0:=by
 have hr:∀ k:Nat,Bn 10 ((d[k]?).getD 0):=fun k=>by
  cases e:d[k]? with
  | none=>unfold Bn; decide
  | some x=>have:=hd x (Ac e); show x.natAbs < 10 ^ 10; omega
 have key:∀ k,k≤n→Bn (14+10 * k) (Gl (fun k=>BN (B9 C' D') i k) (fun k=>(d[k]?).getD 0) k).1∧Bn (1+4 * k) (Gl (fun k=>BN (B9 C' D') i k) (fun k=>(d[k]?).getD 0) k).2:=fun k=>by
  induction k with
  | zero=>intro _; exact ⟨by show Bn 14 0; unfold Bn; decide,by show Bn 1 1; unfold Bn; decide⟩
  | succ k ih=>
    intro hk
    obtain ⟨h1,h2⟩:=ih (by omega)
    obtain ⟨h3,h4⟩:=h.ent hi (show k < n by omega)
    refine ⟨?_,(h2.mul h4).mono (by omega)⟩
    have a1:=(h1.mul h4).mono (show 14+10 * k+4≤14+10 * k+9 by omega)
    have a2:=(h2.mul (h3.mul (hr k))).mono (show 1+4 * k+(4+10)≤14+10 * k+9 by omega)
    exact (a1.add a2).mono (by omega)
 obtain ⟨h1,h2⟩:=key k hk
 exact ⟨h1.mono (by omega),h2.mono (by omega),by have:=JQ (fun k=>BN (B9 C' D') i k) (fun k=>(d[k]?).getD 0) k; omega⟩
theorem H2.sum {m C C':List (List Int)} {n:Nat} {D D':Int} (h:H2 m C C' n D D') (hn:n≤3) {d:List Int} (hd:∀ x,x ∈ d→x.natAbs≤2000000000) {c k:Nat} (hc:c < n) (hk:k≤n):(Eg (B9 C D) d c k).num.natAbs < 1000000000000∧(Eg (B9 C D) d c k).den≤4374:=by
 rw [Jq h.inv d hc k hk]
 have hb:=K8 (x:=Ce (fun j=>(d[j]?).getD 0) (fun j=>BD C j c) k) h.inv.d0
 have h1:(Ce (fun j=>(d[j]?).getD 0) (fun j=>BD C j c) k).natAbs≤k * (2000000000 * 162):=Og fun j _=>⟨by
  show Int.natAbs ((d[j]?).getD 0)≤_
  cases e:d[j]? with
  | none=>decide
  | some x=>exact hd x (Ac e),h.inv.bd.ent j c⟩
 have h2:k * (2000000000 * 162)≤3 * (2000000000 * 162):=Cu _ (by omega)
 have:=h.inv.dB
 exact ⟨by omega,by omega⟩
theorem H2.sumOk {m C C':List (List Int)} {n:Nat} {D D':Int} (h:H2 m C C' n D D') (hn:n≤3) {d:List Int} (hd:∀ x,x ∈ d→x.natAbs≤2000000000):Go.Proofs.YtkjemicelmabdaaGreatDoor.sumOk (B9 C D) d n=true:=by
 refine Ar.2 fun c hc=>Ar.2 fun k hk=>Ad ?_
 have hc:=AL.1 hc
 have hk:=AL.1 hk
 obtain ⟨s1,s2⟩:=h.sum hn hd hc (show k≤n by omega)
 have hdk:((d[k]?).getD 0).natAbs≤2000000000:=by
  cases e:d[k]? with
  | none=>decide
  | some x=>exact hd x (Ac e)
 generalize (d[k]?).getD 0=y at *
 have hent:=HX (D:=D) h.inv.len h.inv.rect hk hc
 obtain ⟨e1,e2⟩:=K8 (x:=BD C k c) h.inv.d0
 have e3:=h.inv.bd.ent k c
 have e4:=h.inv.dB
 have hpr:(y:Rat) * BN (B9 C D) k c=((y * BD C k c:Int):Rat) / (D:Rat):=by
  rw [hent,Bb,HC,HC,Rat.mul_assoc]
 obtain ⟨p1,p2⟩:=K8 (x:=y * BD C k c) h.inv.d0
 have p3:(y * BD C k c).natAbs≤2000000000 * 162:=Bz hdk e3
 rw [hpr,hent]
 generalize ((y * BD C k c:Int):Rat) / (D:Rat)=P at *
 generalize (BD C k c:Rat) / (D:Rat)=E at *
 generalize Eg (B9 C D) d c k=S at *
 refine ⟨⟨.inl ⟨by rw [EV]; omega,by omega⟩,.inl ⟨by rw [FU]; decide,by rw [AA]; omega⟩⟩,.inl ⟨by omega,by rw [AA]; omega⟩,.inl ⟨by omega,by rw [AA]; omega⟩,.inr (.inr ⟨by rw [AA]; omega,by rw [AA]; omega⟩)⟩
theorem H2.small {m C C':List (List Int)} {n:Nat} {D D':Int} (h:H2 m C C' n D D') (hn:n≤3) {d l:List Int} (hd:∀ x,x ∈ d→x.natAbs≤2000000000) (hs:CX (B9 C D) d n=some l):∀ x,x ∈ l→x.natAbs < 1000000000000:=fun x hx=>by
 unfold CX at hs
 split at hs
 ·injection hs with hs
  rw [← hs] at hx
  obtain ⟨c,hc,rfl⟩:=AU.1 hx
  exact (h.sum hn hd (AL.1 hc) (Af _)).1
 ·cases hs
theorem Nv (c:UInt8) (r:List UInt8):∀ (x:List UInt8),c ∉ x→Lib.index (x ++ c :: r) [c]=x.length
 | [],_=>by
   show (if ([c]:List UInt8).isPrefixOf (c :: r) then (0:Int) else _)=0
   rw [Ak (by simp [List.isPrefixOf])]
 | b :: x,h=>by
   have h1:c≠b:=fun e=>h (by rw [e]; exact Bx)
   have h2:c ∉ x:=fun e=>h (BV _ e)
   show (if ([c]:List UInt8).isPrefixOf (b :: (x ++ c :: r)) then (0:Int) else if Lib.index (x ++ c :: r) [c] == -1 then -1 else Lib.index (x ++ c :: r) [c]+1)=_
   rw [Aj (by simp [List.isPrefixOf,h1]),Nv c r x h2,Aj (by simp),A6]
   omega
theorem GB (sep x:List UInt8) (r:List (List UInt8)):Lib.joinTail sep (x :: r)=sep ++ x ++ Lib.joinTail sep r:=by
 unfold Lib.joinTail; simp
theorem KD:∀ (ws:List (List UInt8)) (w0:List UInt8),(∀ w,w ∈ w0 :: ws→(32:UInt8) ∉ w)→Lib.splitK [32] 0 ws.length (w0 ++ Lib.joinTail [32] ws)=w0 :: ws
 | [],w0,_=>by show [w0 ++ Lib.joinTail [32] []]=_; unfold Lib.joinTail; simp
 | x :: ws,w0,h=>by
   have hi:Lib.index (w0 ++ Lib.joinTail [32] (x :: ws)) [32]=w0.length:=by
    rw [GB]
    exact Nv 32 _ w0 (h w0 Bx)
   have ih:=KD ws x (fun w hw=>h w (BV _ hw))
   rw [A6]
   unfold Lib.splitK
   rw [hi,Aj (by simp),GB]
   have e1:(w0 ++ ([32] ++ x ++ Lib.joinTail [32] ws)).take ((w0.length:Int).toNat+0)=w0:=by simp
   have e2:(w0 ++ ([32] ++ x ++ Lib.joinTail [32] ws)).drop ((w0.length:Int).toNat+([32]:List UInt8).length)=x ++ Lib.joinTail [32] ws:=by simp
   rw [e1,e2,ih]
theorem HZ:∀ (ws:List (List UInt8)),(∀ w,w ∈ ws→(32:UInt8) ∉ w)→(Lib.joinTail [32] ws).count 32=ws.length
 | [],_=>by unfold Lib.joinTail; simp
 | x :: ws,h=>by
   rw [GB,TL,TL,HZ ws (fun w hw=>h w (BV _ hw)),VT (h x Bx),A6]
   simp; omega
theorem LX (w0:ByteArray) (ws:List ByteArray):(EY (w0 :: ws)).data.toList=w0.data.toList ++ Lib.joinTail [32] (ws.map (·.data.toList)):=by
 unfold EY
 rw [BR,Lib.join_cons]
theorem KO:∀ {a b:List ByteArray},a.map (·.data.toList)=b.map (·.data.toList)→a=b
 | [],[],_=>rfl
 | [],_ :: _,h=>by simp at h
 | _ :: _,[],h=>by simp at h
 | x :: a,y :: b,h=>by
   rw [BR,BR] at h
   injection h with h1 h2
   rw [H1 h1,KO h2]
theorem KC (w0:ByteArray) (ws:List ByteArray) (h:∀ w,w ∈ w0 :: ws→(32:UInt8) ∉ w.data.toList):Lib.countB (EY (w0 :: ws)) ⟨#[32]⟩=ws.length∧Lib.splitB ⟨#[32]⟩ 0 (Lib.countB (EY (w0 :: ws)) ⟨#[32]⟩) (EY (w0 :: ws))=w0 :: ws:=by
 have hc:Lib.countB (EY (w0 :: ws)) ⟨#[32]⟩=ws.length:=by
  show Lib.count (EY (w0 :: ws)).data.toList [32]=_
  rw [Lib.count_one,LX,TL,HZ _ (fun w hw=>by
   obtain ⟨x,hx,rfl⟩:=AU.1 hw
   exact h x (BV _ hx)),VT (h w0 Bx),Al]
  omega
 refine ⟨hc, ?_⟩
 rw [hc]
 apply KO
 rw [Lib.splitB_data,LX]
 have:=KD (ws.map (·.data.toList)) w0.data.toList (fun w hw=>by
  rcases A2.1 hw with rfl | hw
  ·exact h w0 Bx
  ·obtain ⟨x,hx,rfl⟩:=AU.1 hw
   exact h x (BV _ hx))
 rw [Al] at this
 exact this

end Go.Proofs.YtkjemicelmabdaaGreatDoor
