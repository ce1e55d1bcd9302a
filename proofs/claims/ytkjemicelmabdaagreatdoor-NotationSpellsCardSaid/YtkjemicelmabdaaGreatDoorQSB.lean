/-
  Contracts and laws for the statements of the seat, QSB.
-/
import Derived.Test.YtkjemicelmabdaaGreatDoorQSA
import Derived.Test.YtkjemicelmabdaaGreatDoorQRB
import Derived.Test.YtkjemicelmabdaaGreatDoorQRd
import Derived.Test.YtkjemicelmabdaaGreatDoorQChk
import Derived.Test.YtkjemicelmabdaaGreatDoorQD
import Derived.Test.YtkjemicelmabdaaGreatDoorQSW
import Derived.Test.YtkjemicelmabdaaGreatDoorQK

set_option maxRecDepth 100000
set_option maxHeartbeats 16000000
namespace Go.Proofs.YtkjemicelmabdaaGreatDoor
open Go.RowKit Go.Lib
attribute [local go_sem ↓] Go.wp_at_zero Go.wp_at_succ
def cntF (x:Nat→Rat) (r:Nat→Int):Nat→Int×Int
 | 0=>(0,1)
 | k+1=>((cntF x r k).1 * (x k).den+(cntF x r k).2 * ((x k).num * r k),(cntF x r k).2 * (x k).den)
def cntI (I:List (List Rat)) (r:List Int) (n i:Nat):Int×Int:=cntF (fun k=>entQ I i k) (fun k=>(r[k]?).getD 0) n
def cntS (I:List (List Rat)) (r:List Int) (n:Nat):Option (List Int) :=
 if (List.range n).all (fun i=>decide ((cntI I r n i).1.fmod (cntI I r n i).2=0)) then some ((List.range n).map fun i=>(cntI I r n i).1.fdiv (cntI I r n i).2) else none
def CntRet (w:World) (res:Option (List Int)) (n:Nat) (e:Ending) (w':World):Prop:=match res with
 | none=>e=.returned (.tuple #[.slice none 0 0,.bool false])∧Fr w w'
 | some l=>∃ a c,e=.returned (.tuple #[.slice a n c,.bool true])∧El w' sv a l∧l.length=n∧Fr w w'
theorem cntS_none {I:List (List Rat)} {r:List Int} {n i:Nat} (hi:i < n) (h:(cntI I r n i).1.fmod (cntI I r n i).2≠0):cntS I r n=none:=by
 unfold cntS
 rw [if_neg]
 intro h9
 exact h (of_decide_eq_true (List.all_eq_true.1 h9 i (List.mem_range.2 hi)))
theorem cntS_some {I:List (List Rat)} {r:List Int} {n:Nat} (h:∀ i,i < n→(cntI I r n i).1.fmod (cntI I r n i).2=0):cntS I r n=some ((List.range n).map fun i=>(cntI I r n i).1.fdiv (cntI I r n i).2):=by
 unfold cntS
 rw [if_pos]
 exact List.all_eq_true.2 fun i hi=>decide_eq_true (h i (List.mem_range.1 hi))
theorem counts42_any (N A:List Sy) (n:Nat) (C:List (List Int)) (D:Int) (r:List Int) (aN aA ra:Option Addr) (cN cA rc:Nat) (w:World) (hG:G w) (hn:NotIs w aN aA cA N A) (hlA:A.length=n) (hn1:1≤n) (hn3:n≤3)
 (hrA:∀ q,q ∈ A.map Sy.row→q.length=n) (hbT:BdM 9 (trM n (A.map Sy.row))) (hI:InvBoth (trM n (A.map Sy.row)) n C D) (hC:InvIs (trM n (A.map Sy.row)) n C D)
 (hr:El w sv ra r) (hrl:r.length=n) (hr10:∀ x,x ∈ r→Bn 10 x) (hbd:∀ i k,i < n→k≤n→Bn 100 (cntF (fun k=>entQ (divC C D) i k) (fun k=>(r[k]?).getD 0) k).1∧Bn 100 (cntF (fun k=>entQ (divC C D) i k) (fun k=>(r[k]?).getD 0) k).2∧(cntF (fun k=>entQ (divC C D) i k) (fun k=>(r[k]?).getD 0) k).2≠0)
 (hent:∀ i k,i < n→k < n→Bn 10 (entQ (divC C D) i k).num∧Bn 10 ((entQ (divC C D) i k).den:Int)) :
 Calls Tryz.prog 34 #[.agg #[.slice aN N.length cN,.slice aA n cA],.slice ra n rc] w (CntRet w (cntS (divC C D) r n) n):=by
 have hgn:=gN_le hG
 obtain ⟨i0,hi,hz0,hz1,hz2⟩:=info_parts info65
 have hGf:=hZ (fun W (hW:Fr w W)=>hG.fr hW)
 have hrow:=hZ (fun W (hW:Fr w W)=>rows42_any aA cA A W (hG.fr hW) (hn.accs.fr hW) (by omega))
 rw [hlA] at hrow
 have hrectA:Rect n (A.map Sy.row):=hrA
 have hlAr:(A.map Sy.row).length=n:=by rw [List.length_map]; exact hlA
 have htr:=hZ (fun W a c (hW:Fr w W) (hm:MatIs W a (A.map Sy.row))=>Transpose_any (A.map Sy.row) a c n W (hG.fr hW) hm hrectA hn1 (by omega) (by omega) (by omega))
 rw [hlAr] at htr
 have hTl:(trM n (A.map Sy.row)).length=n:=trM_len n _
 have hTr:Rect n (trM n (A.map Sy.row)):=fun q hq=>by
  obtain ⟨k,-,rfl⟩:=List.mem_map.1 hq
  rw [colZ_len]; exact hlAr
 have hinv:=hZ (fun W a c (hW:Fr w W) (hm:MatIs W a (trM n (A.map Sy.row)))=>R6Inverse (trM n (A.map Sy.row)) C D a c n W (hG.fr hW) hm hTr hTl hn1 hn3 hbT hI hC)
 rw [hTl] at hinv
 have hQl:(divC C D).length=n:=by unfold divC; rw [List.length_map]; exact hC.len
 have hQr:Hid (RectQ n (divC C D)):=fun q hq=>by
  unfold divC at hq
  obtain ⟨x,hx,rfl⟩:=List.mem_map.1 hq
  rw [List.length_map]; exact hC.rect x hx
 have hnone:=hZ (fun i (h:i < n)=>cntS_none (I:=divC C D) (r:=r) (n:=n) h)
 have hsome:=hZ (cntS_some (I:=divC C D) (r:=r) (n:=n))
 generalize divC C D=Q at *
 generalize cntS Q r n=res at *
 obtain ⟨cnt,hcnt⟩:∃ cnt:Nat→Nat→Int×Int,cnt=fun i k=>cntF (fun k=>entQ Q i k) (fun k=>(r[k]?).getD 0) k:=⟨_,rfl⟩
 have hc0:Hid (∀ i,cnt i 0=(0,1)):=fun i=>by rw [hcnt]; rfl
 have hcs:Hid (∀ i k,cnt i (k+1)=((cnt i k).1 * (entQ Q i k).den+(cnt i k).2 * ((entQ Q i k).num * (r[k]?).getD 0),(cnt i k).2 * (entQ Q i k).den)):=fun i k=>by rw [hcnt]; rfl
 have hci:Hid (∀ i,cntI Q r n i=cnt i n):=fun i=>by rw [hcnt]; rfl
 have hbd:Hid (∀ i k,i < n→k≤n→Bn 100 (cnt i k).1∧Bn 100 (cnt i k).2∧(cnt i k).2≠0):=fun i k h1 h2=>by rw [hcnt]; exact hbd i k h1 h2
 replace hent:=hZ hent
 replace hr:=hZ hr
 replace hrl:=hZ hrl
 replace hr10:=hZ hr10
 replace hQl:=hZ hQl
 clear hcnt hI hC hbT hTl hTr hrectA hlAr hrA hn hG
 obtain ⟨nb,hnb⟩:∃ nb,nb=w.heap.size:=⟨_,rfl⟩
 obtain ⟨W1,hW1⟩:∃ W1,W1=w.alloc (.cells #[.slice aN N.length cN,.slice aA n cA] 32):=⟨_,rfl⟩
 have f1:Fr w W1:=by rw [hW1]; exact (Fr.refl _).alloc _
 have hN1:Cel2 W1 nb (.slice aN N.length cN) (.slice aA n cA):=by rw [hW1,hnb]; exact Cel2.new w _ _ _
 obtain ⟨n0,n1⟩:W1.cell? ⟨nb,0,none⟩=some (.slice aN N.length cN)∧W1.cell? ⟨nb,1,none⟩=some (.slice aA n cA):=⟨hN1.a,hN1.b⟩
 clear hN1
 generalize N.length=M at *
 go_enter Tryz.func34,Tryz.ntmps34
 go_upto_region 1 with (fail)
 rw [← hnb,← hW1]
 clear hW1 hnb
 go_wp2_with fail
 refine (hrow.out _ f1).mono ?_
 rintro e w2 ⟨a2,c2,rfl,hm2,f2⟩
 replace hm2:=hZ hm2
 go_wp2_with fail
 refine (htr.out _ _ _ (f1.trans f2) hm2.out).mono ?_
 rintro e w3 ⟨a3,c3,rfl,hm3,f3⟩
 replace hm3:=hZ hm3
 go_wp2_with fail
 refine (hinv.out _ _ _ ((f1.trans f2).trans f3) hm3.out).mono ?_
 rintro e w4 ⟨base,v4,hs4,rfl,hb4,hgg4,f4⟩
 have hF4:=((f1.trans f2).trans f3).trans f4
 obtain ⟨gb4,cp4,rfl⟩:∃ gb cp,v4=.slice (some ⟨gb,0,none⟩) n cp:=by
  rcases hgg4.own.2 with ⟨-,h0⟩ | ⟨g,cap2,-,hv,-⟩
  ·rw [hQl.out] at h0; omega
  ·rw [hQl.out] at hv; exact ⟨g,cap2,hv⟩
 obtain ⟨hg4,-,-,-⟩:=hgg4.grid
 replace hgg4:=hZ hgg4
 replace hg4:=hZ hg4
 clear n0 n1
 go_wp2_with fail
 go_loopg [7,10] n (fun k s7 s10 wr=>∃ i:Nat,s10=.int .i64 i∧i+k=n∧Fr w4 wr∧Hid (wr.ownsRow w4.heap.size 56 1 s7 i (((List.range i).map fun i=>(cnt i n).1.fdiv (cnt i n).2).map sv))∧Hid (∀ j,j < i→(cnt j n).1.fmod (cnt j n).2=0))
 case atStart=>exact ⟨0,rfl,by omega,Fr.refl _,World.ownsRow_nil _ _ _ _,fun j h=>absurd h (Nat.not_lt_zero _)⟩
 case round=>
  obtain ⟨i,rfl,hik,f5,hown,hall⟩:=hrel
  by_cases hin:i < n
  ·have dI:decide (i < n)=true:=decide_eq_true hin
   have zi0:(0:Int)≤(i:Int):=Int.natCast_nonneg _
   have zi1:(i:Int) < (n:Int):=by omega
   obtain ⟨bi,oi,ki,ei,cai,cfi,roi,boi⟩:=(hg4.out.fr f5).at (i:=i) (by rw [hQl.out]; exact hin)
   have hqi:=hQr.out.row (i:=i) (by rw [hQl.out]; exact hin)
   rw [hqi,Nat.zero_add] at cai
   obtain ⟨qr,hqr⟩:∃ qr,qr=Q[i]'(by rw [hQl.out]; exact hin):=⟨_,rfl⟩
   rw [← hqr] at roi hqi
   have hqg:Q[i]?=some qr:=by rw [hqr]; exact List.getElem?_eq_getElem _
   have hqe:Hid (∀ k,k < n→∀ x,qr[k]?=some x→x=entQ Q i k):=fun k _ x hx=>by
    unfold entQ rowQ
    rw [hqg]
    show x=(qr[k]?).getD 0
    rw [hx]; rfl
   clear hqg hqr
   replace hqi:=hZ hqi
   replace roi:=hZ roi
   replace cai:=hZ cai
   obtain ⟨wo,rfl⟩:∃ wo:World,wo=wr:=⟨_,rfl⟩
   obtain ⟨ko,rfl⟩:∃ ko:Nat,ko=gk:=⟨_,rfl⟩
   clear cfi boi ei
   go_wp2_with fail
   go_loopg [11,12,13] n (fun k s11 s12 s13 wr=>∃ (t:Nat) (num den:Int),s13=.int .i64 t∧s11=.string (tx num)∧s12=.string (tx den)∧t+k=n∧Hid (cnt i t=(num,den))∧Fr wo wr)
   case atStart=>exact ⟨0,0,1,rfl,by rw [tx_zero],by rw [tx_one],by omega,hc0.out i,Fr.refl _⟩
   case round=>
    obtain ⟨t,num,den,rfl,rfl,rfl,htk,hct,f6⟩:=hrel
    by_cases ht:t < n
    ·have dT:decide (t < n)=true:=decide_eq_true ht
     have zt0:(0:Int)≤(t:Int):=Int.natCast_nonneg _
     have zt1:(t:Int) < (n:Int):=by omega
     obtain ⟨x,hx⟩:∃ x,qr[t]?=some x:=⟨_,List.getElem?_eq_getElem (by rw [hqi.out]; exact ht)⟩
     have hxe:=hqe.out t ht x hx
     obtain ⟨⟨q0,-⟩,q1,-⟩:=(roi.out.fr f6).2.2 t x hx
     have ca9:=f6.keep cai.out
     obtain ⟨rb,ro,y,hra,-,hyt,hyc⟩:=(((hr.out.fr hF4).fr f5).fr f6).at (i:=t) (by rw [hrl.out]; exact ht)
     subst hra
     have hy10:=hr10.out y (List.mem_of_getElem? hyt)
     have hst:=hcs.out i t
     rw [hct.out,hyt,← hxe] at hst
     have hst:cnt i (t+1)=(num * x.den+den * (x.num * y),den * x.den):=hst
     obtain ⟨b1,b2,-⟩:=hbd.out i t hin (by omega)
     rw [hct.out] at b1 b2
     have b1:Bn 100 num:=b1
     have b2:Bn 100 den:=b2
     obtain ⟨b3,b4⟩:=hent.out i t hin ht
     rw [← hxe] at b3 b4
     have hGr:=hGf.out _ (((hF4.trans f5).trans f6))
     have c1:=hZ (fun W (hW:Fr wr W)=>R2MulG 100 10 (by decide) (by decide) num x.den b1 b4 W (hGr.fr hW))
     have c2:=hZ (fun W (hW:Fr wr W)=>R2MulG 10 10 (by decide) (by decide) x.num y b3 hy10 W (hGr.fr hW))
     have c3:=hZ (fun W (hW:Fr wr W)=>R2MulG 100 20 (by decide) (by decide) den (x.num * y) b2 (b3.mul hy10) W (hGr.fr hW))
     have c4:=hZ (fun W (hW:Fr wr W)=>R2AddG 120 (by decide) (num * x.den) (den * (x.num * y)) ((b1.mul b4).mono (by decide)) (b2.mul (b3.mul hy10)) W (hGr.fr hW))
     have c5:=hZ (fun W (hW:Fr wr W)=>R2MulG 100 10 (by decide) (by decide) den x.den b2 b4 W (hGr.fr hW))
     replace hst:=hZ hst
     replace hyt:=hZ hyt
     replace hx:=hZ hx
     replace hxe:=hZ hxe
     clear b1 b2 b3 b4 hy10 hGr
     generalize x.num=xn at *
     generalize (x.den:Int)=xd at *
     have hi2:Hid (oi+t * 2=oi+t * 2):=rfl
     obtain ⟨p,hp⟩:∃ p,p=wr.heap.size:=⟨_,rfl⟩
     obtain ⟨W7,hW7⟩:∃ W7,W7=wr.alloc (.cells #[sv xn,sv xd] 134):=⟨_,rfl⟩
     have hF7:Fr wr W7:=by rw [hW7]; exact (Fr.refl _).alloc _
     have hX7:Cel2 W7 p (sv xn) (sv xd):=by rw [hW7,hp]; exact Cel2.new wr _ _ _
     obtain ⟨x0,x1⟩:W7.cell? ⟨p,0,none⟩=some (sv xn)∧W7.cell? ⟨p,1,none⟩=some (sv xd):=⟨hX7.a,hX7.b⟩
     have y0:W7.cell? ⟨rb,ro+t,none⟩=some (sv y):=hF7.keep hyc
     clear hX7
     go_upto_region 12 with (fail)
     rw [← hp,← hW7]
     replace hW7:=hZ hW7
     replace hp:=hZ hp
     go_region_held3 (fun w'=>w'.cell? ⟨p,0,none⟩=some (sv xn)∧w'.cell? ⟨p,1,none⟩=some (sv xd)∧w'.cell? ⟨rb,ro+t,none⟩=some (sv y))
      (first | exact ⟨x0,x1,y0⟩ | (go_split_ands; refine ⟨?_, ?_, ?_⟩ <;> (refine Fr.keep (by assumption) ?_; assumption)) | go_keep)
      (first
       | (go_at_call 79; (with_reducible refine (c1.out _ ?_).mono ?_); (exact fr9); rintro e w8 ⟨rfl,f8⟩)
       | (go_at_call 79; (with_reducible refine (c2.out _ ?_).mono ?_); (exact fr9); rintro e w9 ⟨rfl,f9⟩)
       | (go_at_call 79; (with_reducible refine (c3.out _ ?_).mono ?_); (exact fr9); rintro e w10 ⟨rfl,f10⟩)
       | (go_at_call 78; (with_reducible refine (c4.out _ ?_).mono ?_); (exact fr9); rintro e w11 ⟨rfl,f11⟩))
     have hf12:Fr wr w11:=(by exact fr9)
     have x9:=(((((Fr.refl W7).drew.trans f8).trans f9).trans f10).trans f11).keep x1
     go_wp2_with fail
     refine (c5.out _ hf12).mono ?_
     rintro e w13 ⟨rfl,f13⟩
     go_wp2_with fail
     go_roundg (gk - 1)
     case measure=>omega
     case rel=>exact ⟨t+1,_,_,by go_num,rfl,rfl,by omega,hst.out,(f6.trans hf12).trans f13⟩
    ·have hd:decide (t < n)=false:=decide_eq_false ht
     obtain rfl:n=t:=by omega
     obtain ⟨b1,b2,b3⟩:=hbd.out i n hin (Nat.le_refl _)
     have hci9:=hci.out i
     rw [hct.out] at b1 b2 b3 hci9
     have b1:Bn 100 num:=b1
     have b2:Bn 100 den:=b2
     have b3:den≠0:=b3
     have hdm:=R2DivModG 100 100 (by decide) (by decide) num den b1 b2 b3 wr (hGf.out _ ((hF4.trans f5).trans f6))
     have hz:=tx_beq0 (num.fmod den)
     replace hdm:=hZ hdm
     clear b1 b2 b3
     by_cases hm0:num.fmod den=0
     ·rw [decide_eq_true hm0] at hz
      have hsn:Hid ((List.range (i+1)).map (fun i=>(cnt i n).1.fdiv (cnt i n).2)=(List.range i).map (fun i=>(cnt i n).1.fdiv (cnt i n).2) ++ [num.fdiv den]):=by
       show _=_
       rw [List.range_succ,List.map_append,List.map_singleton,hct.out]
      have hall2:Hid (∀ j,j < i+1→(cnt j n).1.fmod (cnt j n).2=0):=fun j hj=>by
       by_cases e:j=i
       ·subst e; rw [hct.out]; exact hm0
       ·exact hall.out j (by omega)
      replace hm0:=hZ hm0
      generalize num.fdiv den=q at *
      generalize num.fmod den=rm at *
      go_wp2_with fail
      refine hdm.out.mono ?_
      rintro e w8 ⟨rfl,f8⟩
      go_wp2_with (at_builtin; refine wpList_append_lies _ rfl _ _ 76 (by rfl) _ 56 _ _ 1 16 Tryz.underlying76 hi hz0 hz1 hz2 rfl (by decide) _ i _ (by rfl) (World.ownsRow.alloc (ownsRow_fr (ownsRow_fr hown.out f6) f8) _) ⟨w8.heap.size,0,none⟩ 1 1 [sv q] (by rfl) rfl (cell_one_newN _ _ _ _ (by simp)) (by simp [Value.oneCell']) (by decide) (by unfold maxLen; omega) (by omega) (by have:=((f5.trans f6).trans f8).size; simp; omega) (w8.heap.size+1) (by simp) ?_; intro gA capA wA hownA hgrowA hatA hltA)
      go_wp2_with fail
      go_roundg (ko - 1)
      case measure=>omega
      case rel=>exact ⟨i+1,by go_num,by omega,(((f5.trans f6).trans f8).alloc _).grown hgrowA (fun k e=>((ownsRow_fr hown.out f6).lt k e).1),by show _; rw [hsn.out,List.map_append]; exact hownA,hall2⟩
     ·rw [decide_eq_false hm0] at hz
      have hrn:Hid (res=none):=hnone.out i hin (by rw [hci9]; exact hm0)
      replace hm0:=hZ hm0
      generalize num.fdiv den=q at *
      generalize num.fmod den=rm at *
      go_wp2_with fail
      refine hdm.out.mono ?_
      rintro e w8 ⟨rfl,f8⟩
      go_wp2_with fail
      go_ret2
      rw [hrn.out]
      exact ⟨rfl,((hF4.trans f5).trans f6).trans f8⟩
  ·have hd:decide (i < n)=false:=decide_eq_false hin
   obtain rfl:n=i:=by omega
   have hrs:Hid (res=some ((List.range n).map fun i=>(cnt i n).1.fdiv (cnt i n).2)):=by
    have h9:=hsome.out (fun i h=>by rw [hci.out]; exact hall.out i h)
    show _=_
    rw [h9]
    exact congrArg some (List.map_congr_left fun i _=>by rw [hci.out])
   have hown9:=hown.out
   obtain ⟨g9,cp9,rfl⟩:=ownsRow_pos hown9 (by omega)
   have hell:Hid (El wr sv (some ⟨g9,0,none⟩) ((List.range n).map fun i=>(cnt i n).1.fdiv (cnt i n).2)):=(ownsRow_own (Nat.le_trans hgn hF4.size) hown9).1.el
   clear hown9
   go_wp2_with fail
   go_ret2
   rw [hrs.out]
   exact ⟨_,_,rfl,hell.out,by rw [List.length_map,List.length_range],hF4.trans f5⟩
theorem minus42_any (xs ys:List Int) (n:Nat) (a b:Option Addr) (ca cb:Nat) (w:World) (hG:G w) (hx:El w iv a xs) (hy:El w iv b ys) (hxl:xs.length=n) (hyl:ys.length=n) (hn:n≤1000000) (hbx:∀ x,x ∈ xs→fitB x=true) (hby:∀ y,y ∈ ys→fitB y=true) :
 Calls Tryz.prog 35 #[.slice a n ca,.slice b n cb] w fun e w'=>∃ a' c',e=.returned (.slice a' n c')∧El w' sv a' (List.zipWith (· - ·) xs ys)∧Fr w w':=by
 have hgn:=gN_le hG
 obtain ⟨i1,ji,jz0,jz1,jz2⟩:=info_parts info65
 obtain ⟨zs,hzs⟩:∃ zs,zs=List.zipWith (fun x y:Int=>x - y) xs ys:=⟨_,rfl⟩
 have hzl:Hid (zs.length=n):=by show _=_; rw [hzs,List.length_zipWith,hxl,hyl]; exact Nat.min_self _
 have hzg:Hid (∀ (t:Nat) (x y:Int),xs[t]?=some x→ys[t]?=some y→zs[t]?=some (x - y)):=fun t x y h1 h2=>by rw [hzs,List.getElem?_zipWith,h1,h2]
 have hbx':Hid (∀ (t:Nat) (x:Int),xs[t]?=some x→-1000000000≤x∧x≤1000000000):=fun t x h=>of_decide_eq_true (hbx x (List.mem_of_getElem? h))
 have hby':Hid (∀ (t:Nat) (x:Int),ys[t]?=some x→-1000000000≤x∧x≤1000000000):=fun t x h=>of_decide_eq_true (hby x (List.mem_of_getElem? h))
 rw [← hzs]
 replace hG:=hZ hG
 replace hx:=hZ hx
 replace hy:=hZ hy
 replace hxl:=hZ hxl
 replace hyl:=hZ hyl
 clear hbx hby hzs
 go_enter Tryz.func35,Tryz.ntmps35
 go_wp2_with fail
 go_loopg [5,6] n (fun k s5 s6 wr=>∃ t:Nat,s6=.int .i64 t∧t+k=n∧Fr w wr∧Hid (wr.ownsRow w.heap.size 56 1 s5 t ((zs.take t).map sv)))
 case atStart=>exact ⟨0,rfl,by omega,Fr.refl _,World.ownsRow_nil _ _ _ _⟩
 case round=>
  obtain ⟨t,rfl,htk,hf,hown⟩:=hrel
  by_cases ht:t < n
  ·have hdT:decide (t < n)=true:=decide_eq_true ht
   obtain ⟨ab,ao,x,rfl,hbl,hxt,hcx⟩:=(hx.out.fr hf).at (i:=t) (by rw [hxl.out]; exact ht)
   obtain ⟨bb,bo,y,rfl,hbl2,hyt,hcy⟩:=(hy.out.fr hf).at (i:=t) (by rw [hyl.out]; exact ht)
   have hxb:=hbx'.out t x hxt
   have hyb:=hby'.out t y hyt
   have hsn:=hZ (take_snoc (hzg.out t x y hxt hyt))
   have habl:Hid (ab < w.heap.size):=by
    rcases hx.out with h | ⟨b',o',h1,h2,-⟩
    ·have:=hxl.out; rw [h] at this; simp at this; omega
    ·injection h1 with h1; injection h1 with h1 _; rw [h1]; exact h2
   have hbbl:Hid (bb < w.heap.size):=by
    rcases hy.out with h | ⟨b',o',h1,h2,-⟩
    ·have:=hyl.out; rw [h] at this; simp at this; omega
    ·injection h1 with h1; injection h1 with h1 _; rw [h1]; exact h2
   replace hxt:=hZ hxt
   replace hyt:=hZ hyt
   have y0:(0:Int)≤(t:Int):=Int.natCast_nonneg _
   have y1:(t:Int) < (n:Int):=by omega
   have hw9:IntKind.i64.wrap (x - y)=x - y:=IntWalk.i64_in _ (by omega)
   obtain ⟨wo,rfl⟩:∃ wo:World,wo=wr:=⟨_,rfl⟩
   have hof:=hZ (fun W (hW:Fr wo W)=>OfR_any (x - y) (by omega) (by omega) W ((hG.out.fr hf).fr hW))
   have hS0:=hZ (fun W' (hW':Fr wo W')=>(⟨hW'.keep hcx,hW'.keep hcy⟩:W'.cell? ⟨ab,ao+t,none⟩=some (iv x)∧W'.cell? ⟨bb,bo+t,none⟩=some (iv y)))
   have hvb:=hZ hown.out.lt
   go_wp2_with fail
   refine wp_region_U (S:=fun W'=>W'.cell? ⟨ab,ao+t,none⟩=some (iv x)∧W'.cell? ⟨bb,bo+t,none⟩=some (iv y)) 13 (by kernel_rfl) (hS0.out _ ((Fr.refl _).drew)) (fun hHeld=>?_)
   refine uK 0 ?_
   refine uK 1 ?_
   refine uK 2 ?_
   refine uK 3 ?_
   refine uK 4 ?_
   refine uK 5 ?_
   refine uK 6 ?_
   refine uK 7 ?_
   refine uK 8 ?_
   refine uK 9 ?_
   refine uC 10 (fun K hK=>?_)
   go_simp
   (refine (hof.out _ (by exact fr9)).mono ?_; rintro e w6 ⟨rfl,hf6⟩)
   go_wp2_with fail
   refine hK.out _ _ (hS0.out _ (by exact fr9)) (fun hHeld=>?_)
   clear hK K
   refine uC 11 (fun K hK=>?_)
   go_simp
   refine hK.out _ _ (hS0.out _ (by exact fr9)) (fun hHeld=>?_)
   clear hK K
   have hf6w:Fr wo w6:=by exact fr9
   have hf7:Fr wo (w6.alloc (.cells #[.string (tx (x - y))] 56)):=hf6w.alloc _
   have hown7:=ownsRow_fr hown.out hf7
   have hcs:=cell_one_newN w6 (.string (tx (x - y))) 56 w6.heap.size rfl
   have hz6:=(hf.trans hf6w).size
   have hSA:Hid (∀ wA,(w6.alloc (.cells #[.string (tx (x - y))] 56)).grownBy wA u5.ownBlock→(wA.cell? ⟨ab,ao+t,none⟩=some (iv x)∧wA.cell? ⟨bb,bo+t,none⟩=some (iv y))):=fun wA hgr=>
    ⟨(Fx.of_grown hgr).keep (q:=⟨ab,ao+t,none⟩) (hf7.keep hcx) (fun e=>by have e1:=(hvb.out ab e).1; have:=habl.out; omega),(Fx.of_grown hgr).keep (q:=⟨bb,bo+t,none⟩) (hf7.keep hcy) (fun e=>by have e1:=(hvb.out bb e).1; have:=hbbl.out; omega)⟩
   replace hcs:=hZ hcs
   refine uC 12 (fun K hK=>?_)
   (refine step_append_lies _ rfl (.tmp 13) (.tmp 24) 76 rfl w.heap.size 56 i1 _ 1 16 Tryz.underlying76 ji jz0 jz1 jz2 rfl (by decide) u5 t ((zs.take t).map sv) (by simp [Act.eval]) hown7 ⟨w6.heap.size,0,none⟩ 1 1 [.string (tx (x - y))] (by simp [Act.eval]) rfl hcs.out (by simp [Value.oneCell']) (by decide) (by unfold maxLen; omega) (by omega) (by simp; omega) (w6.heap.size+1) (by simp) ?_; intro gA capA wA hownA hgrowA hatA hltA)
   refine hK.out _ _ ((hSA.out wA hgrowA)) (fun hHeld=>?_)
   clear hK K
   replace hownA:=hZ hownA
   clear hHeld
   refine uL 13 (fun K hK=>?_)
   go_simp
   refine hK.out _ _ ?_
   clear hK K
   go_wp2_with fail
   go_roundg (gk - 1)
   case measure=>omega
   case rel=>exact ⟨t+1,by go_num,by omega,(hf.trans hf7).grown hgrowA (fun k e=>(hvb.out k e).1),by show _; rw [hsn.out,List.map_append]; exact hownA.out⟩
  ·have hd:decide (t < n)=false:=decide_eq_false ht
   obtain rfl:n=t:=by omega
   have hown9:=hown.out
   rw [List.take_of_length_le (by rw [hzl.out]; exact Nat.le_refl _)] at hown9
   obtain ⟨a9,c9,rfl,h9⟩:=ownsRow_slice hown9
   have hell:Hid (El wr sv a9 zs):=by
    rcases h9 with h9 | ⟨g,rfl⟩
    ·exact .inl (List.eq_nil_of_length_eq_zero (by rw [hzl.out]; exact h9))
    ·exact (ownsRow_own hgn hown9).1.el
   clear hown9
   go_wp2_with fail
   go_ret
   exact ⟨_,_,rfl,hell.out,hf⟩
theorem spell42_any (N A:List Sy) (d M:Nat) (Dl:Nat→List Int) (f:Nat→Option (List Int)) (ra aN aA:Option Addr) (rc cN cA:Nat) (w:World) (hG:G w) (hn:NotIs w aN aA cA N A) (hM:N.length=M) (hM6:M≤60) (hd3:d≤3)
 (hrowN:∀ x,x ∈ N→x.row.length=d)
 (hmn:∀ i x,N[i]?=some x→∀ W,Fr w W→Calls Tryz.prog 35 #[.slice ra d rc,.slice x.ra d x.rc] W fun e w'=>∃ a' c',e=.returned (.slice a' d c')∧El w' sv a' (Dl i)∧Fr W w')
 (hcn:∀ i,i < M→∀ W a c,Fr w W→El W sv a (Dl i)→Calls Tryz.prog 34 #[.agg #[.slice aN M cN,.slice aA d cA],.slice a d c] W (CntRet W (f i) d))
 (hsm:∀ i cs,i < M→f i=some cs→∀ x,x ∈ cs→Sm x) :
 Calls Tryz.prog 11 #[.agg #[.slice aN M cN,.slice aA d cA],.slice ra d rc] w (SpO w (spF f M) d):=by
 have hgn:=gN_le hG
 have hnone:=hZ (spF_none (f:=f) (M:=M))
 have hsome:=hZ (fun i cs (hi:i < M) (h:∀ j,j < i→f j=none) (hc:f i=some cs)=>spF_some hi h hc)
 have hsh:=hZ (fun (cs:List Int) (h:∀ x,x ∈ cs→Sm x) (hl:cs.length=d) (W:World) (hW:Fr w W) (a:Option Addr) (c:Nat) (he:El W sv a cs)=>short42_new cs a c d W (hG.fr hW) he hl.symm (by omega) h)
 have hsy:=hZ hn.noms
 replace hmn:=hZ hmn
 replace hcn:=hZ hcn
 replace hsm:=hZ hsm
 replace hrowN:=hZ hrowN
 replace hM:=hZ hM
 generalize spF f M=res at *
 clear hG hn
 obtain ⟨nb,hnb⟩:∃ nb,nb=w.heap.size:=⟨_,rfl⟩
 obtain ⟨W1,hW1⟩:∃ W1,W1=(w.alloc (.cells #[.slice aN M cN,.slice aA d cA] 32)).alloc (.cells #[.int .i64 0,.slice none 0 0] 37):=⟨_,rfl⟩
 have f1:Fr w W1:=by rw [hW1]; exact ((Fr.refl _).alloc _).alloc _
 have hN1:Cel2 W1 nb (.slice aN M cN) (.slice aA d cA):=by rw [hW1,hnb]; exact (Cel2.new w _ _ _).fr ((Fr.refl _).alloc _)
 have hS1:Cel2 W1 (nb+1) (.int .i64 0) (.slice none 0 0):=by
  have:=Cel2.new (w.alloc (.cells #[.slice aN M cN,.slice aA d cA] 32)) (.int .i64 0) (.slice none 0 0) 37
  rw [World.size_alloc] at this
  rw [hW1,hnb]; exact this
 go_enter Tryz.func11,Tryz.ntmps11
 go_upto_region 1 with (fail)
 rw [← hW1,← hnb]
 clear hW1
 replace hnb:=hZ hnb
 replace hN1:=hZ hN1
 replace hS1:=hZ hS1
 go_wp2_with fail
 go_loopg [6] M (fun k s6 wr=>∃ i:Nat,s6=.int .i64 i∧i+k=M∧Hid (∀ j,j < i→f j=none)∧Fr W1 wr)
 case atStart=>exact ⟨0,rfl,by omega,fun j h=>absurd h (Nat.not_lt_zero _),Fr.refl _⟩
 case round=>
  obtain ⟨i,rfl,hik,hall,hf⟩:=hrel
  have hFr:=f1.trans hf
  obtain ⟨wo,rfl⟩:∃ wo:World,wo=wr:=⟨_,rfl⟩
  obtain ⟨ko,rfl⟩:∃ ko:Nat,ko=gk:=⟨_,rfl⟩
  have m0:=hf.keep hN1.out.a
  by_cases hi:i < M
  ·have hdI:decide (i < M)=true:=decide_eq_true hi
   obtain ⟨ab,ao,x,rfl,hbl,hxi,hc1,hc2,-⟩:=(hsy.out.fr hFr).at (i:=i) (by rw [hM.out]; exact hi)
   have hxm:=List.mem_of_getElem? hxi
   rw [hrowN.out x hxm] at hc2
   have z0:(0:Int)≤(i:Int):=Int.natCast_nonneg _
   have z1:(i:Int) < (M:Int):=by omega
   have hm1:=hZ (fun W (hW:Fr wo W)=>hmn.out i x hxi W (hFr.trans hW))
   have hc9:=hZ (fun W a c (hW:Fr wo W) h=>hcn.out i hi W a c (hFr.trans hW) h)
   replace hxi:=hZ hxi
   go_wp2_with fail
   have m1:=hf.keep hN1.out.b
   generalize x.ra=xa at *
   generalize x.rc=xc at *
   have hS0:=hZ (fun W' (hW':Fr wo W')=>(⟨hW'.keep m0,hW'.keep m1,hW'.keep hc2⟩:W'.cell? ⟨nb,0,none⟩=some (.slice (some ⟨ab,ao,none⟩) M cN)∧W'.cell? ⟨nb,1,none⟩=some (.slice aA d cA)∧W'.cell? ⟨ab,ao+i * 2+1,none⟩=some (.slice xa d xc)))
   have hd8:Fr wo wo.drew:=(Fr.refl wo).drew
   refine wp_region_U (S:=fun W'=>W'.cell? ⟨nb,0,none⟩=some (.slice (some ⟨ab,ao,none⟩) M cN)∧W'.cell? ⟨nb,1,none⟩=some (.slice aA d cA)∧W'.cell? ⟨ab,ao+i * 2+1,none⟩=some (.slice xa d xc)) 14 (by kernel_rfl) (hS0.out _ hd8) (fun hHeld=>?_)
   refine uK 0 ?_
   refine uK 1 ?_
   refine uK 2 ?_
   refine uK 3 ?_
   refine uK 4 ?_
   refine uK 5 ?_
   refine uK 6 ?_
   refine uK 7 ?_
   refine uC 8 (fun K hK=>?_)
   go_simp
   (refine (hm1.out _ (by exact fr9)).mono ?_; rintro e w6 ⟨a6,c6,rfl,he6,hf6⟩)
   go_wp2_with fail
   refine hK.out _ _ (hS0.out _ (by exact fr9)) (fun hHeld=>?_)
   clear hK K
   have hcf:=hc9.out
   cases hfi:f i with
   | none=>
     rw [hfi] at hcf
     replace hcf:=hZ (fun W a c (hW:Fr wo W) h=>hcf W a c hW h)
     refine uC 9 (fun K hK=>?_)
     go_simp
     (refine (hcf.out _ _ _ (by exact fr9) he6).mono ?_; rintro e w7 ⟨rfl,hf7⟩)
     go_wp2_with fail
     refine hK.out _ _ (hS0.out _ (by exact fr9)) (fun hHeld=>?_)
     clear hK K
     refine uK 10 ?_
     refine uK 11 ?_
     refine uK 12 ?_
     refine uK 13 ?_
     clear hHeld
     refine uL 14 (fun K hK=>?_)
     go_simp
     refine hK.out _ _ ?_
     clear hK K
     have hall2:Hid (∀ j,j < i+1→f j=none):=fun j hj=>by
      by_cases e:j=i
      ·subst e; exact hfi
      ·exact hall.out j (by omega)
     have f7:Fr wo w7:=(hd8.trans hf6).trans hf7
     clear hfi
     go_wp2_with fail
     go_roundg (ko - 1)
     case measure=>omega
     case rel=>exact ⟨i+1,by go_num,by omega,hall2,hf.trans f7⟩
   | some cs=>
     rw [hfi] at hcf
     replace hcf:=hZ (fun W a c (hW:Fr wo W) h=>hcf W a c hW h)
     refine uC 9 (fun K hK=>?_)
     go_simp
     (refine (hcf.out _ _ _ (by exact fr9) he6).mono ?_; rintro e w7 ⟨a7,c7,rfl,he7,hl7,hf7⟩)
     go_wp2_with fail
     refine hK.out _ _ (hS0.out _ (by exact fr9)) (fun hHeld=>?_)
     clear hK K
     refine uK 10 ?_
     refine uK 11 ?_
     refine uK 12 ?_
     refine uK 13 ?_
     clear hHeld
     refine uL 14 (fun K hK=>?_)
     go_simp
     refine hK.out _ _ ?_
     clear hK K
     have f7:Fr wo w7:=(hd8.trans hf6).trans hf7
     have hsh7:=hsh.out cs (hsm.out i cs hi hfi) hl7 w7 (hFr.trans f7) a7 c7 he7
     have hres:Hid (res=some (i,cs)):=hsome.out i cs hi hall.out hfi
     have hS7:=(hS1.out.fr hf).fr f7
     have hnb7:nb+1 < W1.heap.size:=hS1.out.lt
     have hz7:=hf.size
     have hz8:=f7.size
     clear hfi hcf hc9 hm1 hS0 hc1 hc2 m0 m1 he6
     replace he7:=hZ he7
     go_wp2_with fail
     refine hsh7.mono ?_
     clear hsh7
     rintro e w8 ⟨k1,k2⟩
     cases hfit:cs.all fitB with
     | true=>
       obtain ⟨a8,c8,rfl,he8,hl8,f8,hnw8⟩:=k1 hfit
       have hnw9:Hid (∀ W,Fx (·=nb+1) w8 W→El W iv a8 cs):=fun W hW=>by
        rcases hnw8 with h | ⟨g8,rfl,hg8⟩
        ·exact .inl (List.eq_nil_of_length_eq_zero (by omega))
        ·exact he8.fx hW (fun e=>by have e:g8=nb+1:=e; omega)
       have hnw7:Hid (d=0∨∃ b,a8=some b∧w.heap.size≤b.block):=by
        have hz9:=(hFr.trans f7).size
        exact hnw8.imp id fun ⟨g8,h1,h2⟩=>⟨_,h1,Nat.le_trans hz9 h2⟩
       have hS9:=hS7.fr f8
       have hS10:=hZ ((hS9.set0 (.int .i64 i)).set1 (.slice a8 d c8))
       have hfx10:Hid (Fx (·=nb+1) w8 ((w8.setCell ⟨nb+1,0,none⟩ (.int .i64 i)).setCell ⟨nb+1,1,none⟩ (.slice a8 d c8))):=Fx.setCell (p:=(·=nb+1)) (q:=⟨nb+1,1,none⟩) (Fx.setCell (p:=(·=nb+1)) (q:=⟨nb+1,0,none⟩) (Fx.refl _ w8) (.inl rfl) _) (.inl rfl) _
       have x1:=(hS9.set0 (.int .i64 i)).b
       have x2:=(hS9.set0 (.int .i64 i)).fb
       have hfr9:=(hFr.trans f7).trans f8
       replace hl8:=hZ hl8
       obtain ⟨q4,q5,q6,q7⟩:=hS9
       clear k1 k2 hnw8 he8
       replace hfit:=hZ hfit
       go_wp2_with fail
       have q0:=hS10.out.a
       have q1:=hS10.out.b
       refine bodyPost_ret (v:=.tuple #[.agg #[.int .i64 i,.slice a8 d c8],.int .i64 0]) (by simp [results,Tryz.results11,go_sem,q0,q1]) rfl ?_
       rw [hres.out]
       exact ⟨fun _=>⟨_,c8,rfl,hnw9.out _ hfx10.out,hl8.out,((Fx.of_fr hfr9).trans hfx10.out).toFr (fun k hk e=>by have e:k=nb+1:=e; have:=hnb.out; omega),hnw7.out⟩,fun h=>(by rw [hfit.out] at h; cases h)⟩
     | false=>
       obtain ⟨rfl,f8⟩:=k2 hfit
       have hS9:=hS7.fr f8
       have hfr9:=(hFr.trans f7).trans f8
       replace hfit:=hZ hfit
       clear k1 k2
       have hS10:=hZ ((hS9.set0 (.int .i64 0)).set1 (.slice none 0 0))
       have hfx10:Hid (Fx (·=nb+1) w8 ((w8.setCell ⟨nb+1,0,none⟩ (.int .i64 0)).setCell ⟨nb+1,1,none⟩ (.slice none 0 0))):=Fx.setCell (p:=(·=nb+1)) (q:=⟨nb+1,1,none⟩) (Fx.setCell (p:=(·=nb+1)) (q:=⟨nb+1,0,none⟩) (Fx.refl _ w8) (.inl rfl) _) (.inl rfl) _
       have x1:=(hS9.set0 (.int .i64 0)).b
       have x2:=(hS9.set0 (.int .i64 0)).fb
       obtain ⟨q4,q5,q6,q7⟩:=hS9
       go_wp2_with fail
       have q0:=hS10.out.a
       have q1:=hS10.out.b
       refine bodyPost_ret (v:=.tuple #[.agg #[.int .i64 0,.slice none 0 0],.int .i64 4]) (by simp [results,Tryz.results11,go_sem,q0,q1]) rfl ?_
       rw [hres.out]
       exact ⟨fun h=>(by rw [hfit.out] at h; cases h),fun _=>⟨rfl,((Fx.of_fr hfr9).trans hfx10.out).toFr (fun k hk e=>by have e:k=nb+1:=e; have:=hnb.out; omega)⟩⟩
  ·have hdI:decide (i < M)=false:=decide_eq_false hi
   have hres:Hid (res=none):=hnone.out fun j hj=>hall.out j (by omega)
   have hS9:=hS1.out.fr hf
   have hnb7:nb+1 < W1.heap.size:=hS1.out.lt
   have hS10:=hZ ((hS9.set0 (.int .i64 0)).set1 (.slice none 0 0))
   have hfx10:Hid (Fx (·=nb+1) wo ((wo.setCell ⟨nb+1,0,none⟩ (.int .i64 0)).setCell ⟨nb+1,1,none⟩ (.slice none 0 0))):=Fx.setCell (p:=(·=nb+1)) (q:=⟨nb+1,1,none⟩) (Fx.setCell (p:=(·=nb+1)) (q:=⟨nb+1,0,none⟩) (Fx.refl _ wo) (.inl rfl) _) (.inl rfl) _
   have x1:=(hS9.set0 (.int .i64 0)).b
   have x2:=(hS9.set0 (.int .i64 0)).fb
   obtain ⟨q4,q5,q6,q7⟩:=hS9
   go_wp2_with fail
   have q0:=hS10.out.a
   have q1:=hS10.out.b
   refine bodyPost_ret (v:=.tuple #[.agg #[.int .i64 0,.slice none 0 0],.int .i64 19]) (by simp [results,Tryz.results11,go_sem,q0,q1]) rfl ?_
   rw [hres.out]
   exact ⟨rfl,((Fx.of_fr hFr).trans hfx10.out).toFr (fun k hk e=>by have e:k=nb+1:=e; have:=hnb.out; omega)⟩
theorem dotZ_add (f g h:Nat→Int):∀ n,dotZ (fun j=>f j+g j) h n=dotZ f h n+dotZ g h n
 | 0=>rfl
 | n+1=>by show dotZ _ h n+(f n+g n) * h n=dotZ f h n+f n * h n+(dotZ g h n+g n * h n); rw [dotZ_add f g h n,Int.add_mul]; omega
theorem dotZ_mulL (a:Int) (f h:Nat→Int):∀ n,dotZ (fun j=>a * f j) h n=a * dotZ f h n
 | 0=>by show (0:Int)=a * 0; omega
 | n+1=>by show dotZ _ h n+a * f n * h n=a * (dotZ f h n+f n * h n); rw [dotZ_mulL a f h n,Int.mul_add,Int.mul_assoc]
theorem dotZ_zeroL (h:Nat→Int):∀ n,dotZ (fun _=>0) h n=0
 | 0=>rfl
 | n+1=>by show dotZ _ h n+0 * h n=0; rw [dotZ_zeroL h n]; omega
theorem dotZ_congr {f g f' g':Nat→Int}:∀ {n:Nat},(∀ j,j < n→f j=f' j∧g j=g' j)→dotZ f g n=dotZ f' g' n
 | 0,_=>rfl
 | n+1,h=>by
   show dotZ f g n+f n * g n=dotZ f' g' n+f' n * g' n
   rw [dotZ_congr (fun j hj=>h j (by omega)),(h n (by omega)).1,(h n (by omega)).2]
theorem dotZ_swap (a:Nat→Int) (b:Nat→Nat→Int) (e:Nat→Int) (n:Nat):∀ p,dotZ (fun j=>dotZ a (fun c=>b c j) p) e n=dotZ a (fun c=>dotZ (fun j=>b c j) e n) p
 | 0=>dotZ_zeroL e n
 | p+1=>by
   show dotZ (fun j=>dotZ a (fun c=>b c j) p+a p * b p j) e n=dotZ a _ p+a p * dotZ (fun j=>b p j) e n
   rw [dotZ_add,dotZ_swap a b e n p,dotZ_mulL]
theorem dotZ_delta (D:Int) (k:Nat) (g:Nat→Int):∀ n,dotZ (fun j=>if k=j then D else 0) g n=if k < n then D * g k else 0
 | 0=>by rw [if_neg (Nat.not_lt_zero _)]; rfl
 | n+1=>by
   show dotZ _ g n+(if k=n then D else 0) * g n=_
   rw [dotZ_delta D k g n]
   by_cases h1:k < n
   ·rw [if_pos h1,if_neg (by omega),if_pos (by omega)]; omega
   ·by_cases h2:k=n
    ·subst h2; rw [if_neg h1,if_pos rfl,if_pos (by omega)]; omega
    ·rw [if_neg h1,if_neg h2,if_neg (by omega)]; omega
theorem dotZ_comm (f g:Nat→Int):∀ n,dotZ f g n=dotZ g f n
 | 0=>rfl
 | n+1=>by show dotZ f g n+f n * g n=dotZ g f n+g n * f n; rw [dotZ_comm f g n,Int.mul_comm]
theorem dotZ_bd {f g:Nat→Int} {A B:Nat}:∀ {n:Nat},(∀ j,j < n→(f j).natAbs≤A∧(g j).natAbs≤B)→(dotZ f g n).natAbs≤n * (A * B)
 | 0,_=>by rw [Nat.zero_mul]; exact Nat.le_refl 0
 | n+1,h=>by
   show (dotZ f g n+f n * g n).natAbs≤_
   rw [Nat.add_one_mul]
   exact abs_add (dotZ_bd fun j hj=>h j (by omega)) (abs_mul (h n (by omega)).1 (h n (by omega)).2)
theorem entZ_trM {m:List (List Int)} {n j c:Nat} (hj:j < n):entZ (trM n m) j c=entZ m c j:=by
 unfold entZ
 rw [show rowZ (trM n m) j=colZ m j by unfold rowZ; rw [trM_get m hj]; rfl]
 unfold colZ rowZ
 rw [List.getElem?_map]
 cases m[c]? with
 | none=>simp
 | some r=>rfl
theorem detM_tr {m:List (List Int)} {n:Nat} (hn:n≤3) (hm:m.length=n) (hr:∀ r,r ∈ m→r.length=n):detM (trM n m)=detM m:=by
 have hn4:n=0∨n=1∨n=2∨n=3:=by omega
 rcases hn4 with rfl | rfl | rfl | rfl
 ·rw [List.eq_nil_of_length_eq_zero hm]; rfl
 ·obtain ⟨r,rfl⟩:=list1 hm
  obtain ⟨a,rfl⟩:=list1 (hr r (by simp))
  rfl
 ·obtain ⟨r,r',rfl⟩:=list2 hm
  obtain ⟨a,b,rfl⟩:=list2 (hr r (by simp))
  obtain ⟨d,e,rfl⟩:=list2 (hr r' (by simp))
  show a * e - d * b=a * e - b * d
  rw [Int.mul_comm d b]
 ·obtain ⟨r,r',r'',rfl⟩:=list3 hm
  obtain ⟨a,b,c,rfl⟩:=list3 (hr r (by simp))
  obtain ⟨d,e,f,rfl⟩:=list3 (hr r' (by simp))
  obtain ⟨g,h,i,rfl⟩:=list3 (hr r'' (by simp))
  show det3 a d g b e h c f i=det3 a b c d e f g h i
  unfold det3; grind
theorem bdM_tr {m:List (List Int)} {n B:Nat} (h:BdM B m):BdM B (trM n m):=fun r hr x hx=>by
 obtain ⟨k,-,rfl⟩:=List.mem_map.1 hr
 obtain ⟨q,hq,rfl⟩:=List.mem_map.1 hx
 cases e:q[k]? with
 | none=>simp
 | some y=>exact h q hq y (List.mem_of_getElem? e)
theorem tr_inv {m C C':List (List Int)} {n:Nat} {D D':Int} (h:InvIs m n C D) (h':InvIs (trM n m) n C' D') {i k:Nat} (hi:i < n) (hk:k < n):D * entZ C' i k=D' * entZ C k i:=by
 have e1:dotZ (fun j=>dotZ (fun c=>entZ C k c) (fun c=>entZ m c j) n) (fun j=>entZ C' i j) n=D * entZ C' i k:=by
  have:=dotZ_delta D k (fun j=>entZ C' i j) n
  rw [if_pos hk] at this
  rw [← this]
  exact dotZ_congr fun j hj=>⟨h.one k j hk hj,rfl⟩
 rw [← e1,dotZ_swap (fun c=>entZ C k c) (fun c j=>entZ m c j)]
 have e2:dotZ (fun c=>entZ C k c) (fun c=>dotZ (fun j=>entZ m c j) (fun j=>entZ C' i j) n) n=dotZ (fun c=>entZ C k c) (fun c=>if i=c then D' else 0) n:=by
  refine dotZ_congr fun c hc=>⟨rfl, ?_⟩
  rw [dotZ_comm,← h'.one i c hi hc]
  exact dotZ_congr fun j hj=>⟨rfl,(entZ_trM hj).symm⟩
 rw [e2,dotZ_comm]
 have:=dotZ_delta D' i (fun c=>entZ C k c) n
 rw [if_pos hi] at this
 exact this
theorem divC_ent {C:List (List Int)} {D:Int} {n i k:Nat} (hl:C.length=n) (hr:∀ r,r ∈ C→r.length=n) (hi:i < n) (hk:k < n):entQ (divC C D) i k=(entZ C i k:Rat) / (D:Rat):=by
 obtain ⟨q,h1⟩:∃ q,C[i]?=some q:=⟨_,List.getElem?_eq_getElem (by omega)⟩
 obtain ⟨x,h2⟩:∃ x,q[k]?=some x:=⟨_,List.getElem?_eq_getElem (by rw [hr _ (List.mem_of_getElem? h1)]; exact hk)⟩
 unfold entQ rowQ entZ rowZ divC
 rw [List.getElem?_map,h1]
 simp only [Option.map_some,Option.getD_some]
 rw [List.getElem?_map,h2]; rfl
theorem tr_ent {m C C':List (List Int)} {n:Nat} {D D':Int} (h:InvIs m n C D) (h':InvIs (trM n m) n C' D') {i k:Nat} (hi:i < n) (hk:k < n):entQ (divC C' D') i k=entQ (divC C D) k i:=by
 rw [divC_ent h'.len h'.rect hi hk,divC_ent h.len h.rect hk hi]
 have e:=congrArg (fun t:Int=>(t:Rat)) (tr_inv h h' hi hk)
 simp only [Rat.intCast_mul] at e
 have hD:(D:Rat)≠0:=intQ_ne h.d0
 have hD':(D':Rat)≠0:=intQ_ne h'.d0
 generalize (entZ C' i k:Rat)=x at *
 generalize (entZ C k i:Rat)=y at *
 grind
theorem sumQ_dot {m C:List (List Int)} {n:Nat} {D:Int} (h:InvIs m n C D) (d:List Int) {c:Nat} (hc:c < n):∀ k,k≤n→sumQ (divC C D) d c k=(dotZ (fun j=>(d[j]?).getD 0) (fun j=>entZ C j c) k:Rat) / (D:Rat)
 | 0,_=>by show (0:Rat)=((0:Int):Rat) / _; rw [Rat.div_def]; exact (Rat.zero_mul _).symm
 | k+1,hk=>by
   show sumQ (divC C D) d c k+_ * entQ (divC C D) k c=((dotZ _ _ k+_ * entZ C k c:Int):Rat) / _
   rw [sumQ_dot h d hc k (by omega),divC_ent h.len h.rect (by omega) hc,Rat.intCast_add,Rat.intCast_mul]
   have hD:(D:Rat)≠0:=intQ_ne h.d0
   grind
theorem frac_bd {x y:Int} (hy:y≠0):((x:Rat) / (y:Rat)).num.natAbs≤x.natAbs∧((x:Rat) / (y:Rat)).den≤y.natAbs:=by
 have e:(x:Rat) / (y:Rat)=Rat.divInt x y:=(Rat.divInt_eq_div _ _).symm
 rw [e]
 constructor
 ·rw [Rat.num_divInt]
  refine Nat.le_trans (Int.natAbs_ediv_le_natAbs _ _) ?_
  rw [Int.natAbs_mul,Int.natAbs_sign_of_ne_zero hy,Nat.one_mul]; exact Nat.le_refl _
 ·rw [Rat.den_divInt,if_neg hy]; exact Nat.div_le_self _ _
theorem frac_int (x y:Int) (hy:0 < y):(((x:Rat) / (y:Rat)).den=1 ↔ x.fmod y=0)∧(x.fmod y=0→((x:Rat) / (y:Rat)).num=x.fdiv y):=by
 have hq:(y:Rat)≠0:=intQ_ne (by omega)
 have key:x.fmod y=0→(x:Rat) / (y:Rat)=((x.fdiv y:Int):Rat):=fun h=>by
  have e:=Int.mul_fdiv_add_fmod x y
  rw [h,Int.add_zero] at e
  have e:=congrArg (fun t:Int=>(t:Rat)) e
  simp only [Rat.intCast_mul] at e
  generalize ((x.fdiv y:Int):Rat)=q at *
  grind
 refine ⟨⟨fun h=>?_,fun h=>by rw [key h,Rat.den_intCast]⟩,fun h=>by rw [key h,Rat.num_intCast]⟩
 have e:(x:Rat) / (y:Rat)=((((x:Rat) / (y:Rat)).num:Int):Rat):=by
  have:=Rat.num_divInt_den ((x:Rat) / (y:Rat))
  rw [h,Rat.divInt_eq_div] at this
  generalize ((x:Rat) / (y:Rat)).num=q at *
  rw [show (((1:Nat):Int):Rat)=1 from rfl] at this; grind
 generalize ((x:Rat) / (y:Rat)).num=q at e
 have e2:x=y * q:=by
  refine Rat.intCast_inj.1 ?_
  rw [Rat.intCast_mul,← e]; grind
 rw [e2,Int.mul_comm]; exact Int.mul_fmod_left ..
theorem cntF_pos (x:Nat→Rat) (r:Nat→Int):∀ k,0 < (cntF x r k).2
 | 0=>by show (0:Int) < 1; decide
 | k+1=>Int.mul_pos (cntF_pos x r k) (by have:=den_pos (x k); omega)
def sumR (x:Nat→Rat) (r:Nat→Int):Nat→Rat
 | 0=>0
 | k+1=>sumR x r k+(r k:Rat) * x k
theorem cntF_val (x:Nat→Rat) (r:Nat→Int):∀ k,((cntF x r k).1:Rat) / ((cntF x r k).2:Rat)=sumR x r k
 | 0=>by show ((0:Int):Rat) / ((1:Int):Rat)=0; rw [Rat.div_def]; exact Rat.zero_mul _
 | k+1=>by
   show (((cntF x r k).1 * (x k).den+(cntF x r k).2 * ((x k).num * r k):Int):Rat) / (((cntF x r k).2 * (x k).den:Int):Rat)=sumR x r k+(r k:Rat) * x k
   have h1:((cntF x r k).2:Rat)≠0:=intQ_ne (by have:=cntF_pos x r k; omega)
   have h2:(((x k).den:Int):Rat)≠0:=intQ_ne (by have:=den_pos (x k); omega)
   have h3:x k=((x k).num:Rat) / (((x k).den:Int):Rat):=by
    have:=Rat.num_divInt_den (x k)
    rw [Rat.divInt_eq_div] at this; exact this.symm
   rw [← cntF_val x r k,Rat.intCast_add,Rat.intCast_mul,Rat.intCast_mul,Rat.intCast_mul,Rat.intCast_mul]
   generalize ((cntF x r k).1:Rat)=a at *
   generalize ((cntF x r k).2:Rat)=b at *
   generalize ((x k).num:Rat)=p at *
   generalize (((x k).den:Int):Rat)=q at *
   generalize (r k:Rat)=t at *
   rw [h3]
   grind
structure SpOk (m C C':List (List Int)) (n:Nat) (D D':Int):Prop where
 inv:InvIs m n C D
 inv':InvIs (trM n m) n C' D'
theorem SpOk.same {m C C':List (List Int)} {n:Nat} {D D':Int} (h:SpOk m C C' n D D') (d:List Int):cntS (divC C' D') d n=solveS (divC C D) d n:=by
 have hv:∀ i,i < n→((cntI (divC C' D') d n i).1:Rat) / ((cntI (divC C' D') d n i).2:Rat)=sumQ (divC C D) d i n:=fun i hi=>by
  unfold cntI
  rw [cntF_val]
  have key:∀ k,k≤n→sumR (fun k=>entQ (divC C' D') i k) (fun k=>(d[k]?).getD 0) k=sumQ (divC C D) d i k:=fun k=>by
   induction k with
   | zero=>intro _; rfl
   | succ k ih=>
     intro hk
     show sumR _ _ k+_ * entQ (divC C' D') i k=sumQ _ d i k+_ * entQ (divC C D) k i
     rw [ih (by omega),tr_ent h.inv h.inv' hi (by omega)]
  exact key n (Nat.le_refl _)
 have hf:∀ i,i < n→_:=fun i hi=>frac_int (cntI (divC C' D') d n i).1 (cntI (divC C' D') d n i).2 (cntF_pos _ _ _)
 by_cases hall:∀ i,i < n→(cntI (divC C' D') d n i).1.fmod (cntI (divC C' D') d n i).2=0
 ·rw [cntS_some hall,solveS_some (fun c hc=>by rw [← hv c hc]; exact ((hf c hc).1).2 (hall c hc))]
  unfold numsQ
  exact congrArg some (List.map_congr_left fun i hi=>by
   have hi:=List.mem_range.1 hi
   rw [← hv i hi]; exact ((hf i hi).2 (hall i hi)).symm)
 ·have:∃ i,i < n∧(cntI (divC C' D') d n i).1.fmod (cntI (divC C' D') d n i).2≠0:=Classical.byContradiction fun hno=>hall fun i hi=>Classical.byContradiction fun h9=>hno ⟨i,hi,h9⟩
  obtain ⟨i,hi,h9⟩:=this
  rw [cntS_none hi h9,solveS_none hi (fun e=>h9 ((hf i hi).1.1 (by rw [hv i hi]; exact e)))]
theorem SpOk.ent {m C C':List (List Int)} {n:Nat} {D D':Int} (h:SpOk m C C' n D D') {i k:Nat} (hi:i < n) (hk:k < n):Bn 4 (entQ (divC C' D') i k).num∧Bn 4 ((entQ (divC C' D') i k).den:Int):=by
 rw [divC_ent h.inv'.len h.inv'.rect hi hk]
 obtain ⟨h1,h2⟩:=frac_bd (x:=entZ C' i k) h.inv'.d0
 have h3:=h.inv'.bd.ent i k
 have h4:=h.inv'.dB
 exact ⟨by unfold Bn; omega,by unfold Bn; rw [Int.natAbs_natCast]; omega⟩
theorem SpOk.bds {m C C':List (List Int)} {n:Nat} {D D':Int} (h:SpOk m C C' n D D') (hn:n≤3) {d:List Int} (hd:∀ x,x ∈ d→x.natAbs≤2000000000) {i k:Nat} (hi:i < n) (hk:k≤n) :
 Bn 100 (cntF (fun k=>entQ (divC C' D') i k) (fun k=>(d[k]?).getD 0) k).1∧Bn 100 (cntF (fun k=>entQ (divC C' D') i k) (fun k=>(d[k]?).getD 0) k).2∧(cntF (fun k=>entQ (divC C' D') i k) (fun k=>(d[k]?).getD 0) k).2≠0:=by
 have hr:∀ k:Nat,Bn 10 ((d[k]?).getD 0):=fun k=>by
  cases e:d[k]? with
  | none=>unfold Bn; decide
  | some x=>have:=hd x (List.mem_of_getElem? e); show x.natAbs < 10 ^ 10; omega
 have key:∀ k,k≤n→Bn (14+10 * k) (cntF (fun k=>entQ (divC C' D') i k) (fun k=>(d[k]?).getD 0) k).1∧Bn (1+4 * k) (cntF (fun k=>entQ (divC C' D') i k) (fun k=>(d[k]?).getD 0) k).2:=fun k=>by
  induction k with
  | zero=>intro _; exact ⟨by show Bn 14 0; unfold Bn; decide,by show Bn 1 1; unfold Bn; decide⟩
  | succ k ih=>
    intro hk
    obtain ⟨h1,h2⟩:=ih (by omega)
    obtain ⟨h3,h4⟩:=h.ent hi (show k < n by omega)
    refine ⟨?_,(h2.mul h4).mono (by omega)⟩
    have a1:=(h1.mul h4).mono (show 14+10 * k+4≤14+10 * k+9 by omega)
    have a2:=(h2.mul (h3.mul (hr k))).mono (show 1+4 * k+(4+10)≤14+10 * k+9 by omega)
    exact (a1.add a2).mono (by omega)
 obtain ⟨h1,h2⟩:=key k hk
 exact ⟨h1.mono (by omega),h2.mono (by omega),by have:=cntF_pos (fun k=>entQ (divC C' D') i k) (fun k=>(d[k]?).getD 0) k; omega⟩
theorem SpOk.sum {m C C':List (List Int)} {n:Nat} {D D':Int} (h:SpOk m C C' n D D') (hn:n≤3) {d:List Int} (hd:∀ x,x ∈ d→x.natAbs≤2000000000) {c k:Nat} (hc:c < n) (hk:k≤n):(sumQ (divC C D) d c k).num.natAbs < 1000000000000∧(sumQ (divC C D) d c k).den≤4374:=by
 rw [sumQ_dot h.inv d hc k hk]
 have hb:=frac_bd (x:=dotZ (fun j=>(d[j]?).getD 0) (fun j=>entZ C j c) k) h.inv.d0
 have h1:(dotZ (fun j=>(d[j]?).getD 0) (fun j=>entZ C j c) k).natAbs≤k * (2000000000 * 162):=dotZ_bd fun j _=>⟨by
  show Int.natAbs ((d[j]?).getD 0)≤_
  cases e:d[j]? with
  | none=>decide
  | some x=>exact hd x (List.mem_of_getElem? e),h.inv.bd.ent j c⟩
 have h2:k * (2000000000 * 162)≤3 * (2000000000 * 162):=Nat.mul_le_mul_right _ (by omega)
 have:=h.inv.dB
 exact ⟨by omega,by omega⟩
theorem SpOk.sumOk {m C C':List (List Int)} {n:Nat} {D D':Int} (h:SpOk m C C' n D D') (hn:n≤3) {d:List Int} (hd:∀ x,x ∈ d→x.natAbs≤2000000000):Go.Proofs.YtkjemicelmabdaaGreatDoor.sumOk (divC C D) d n=true:=by
 refine List.all_eq_true.2 fun c hc=>List.all_eq_true.2 fun k hk=>decide_eq_true ?_
 have hc:=List.mem_range.1 hc
 have hk:=List.mem_range.1 hk
 obtain ⟨s1,s2⟩:=h.sum hn hd hc (show k≤n by omega)
 have hdk:((d[k]?).getD 0).natAbs≤2000000000:=by
  cases e:d[k]? with
  | none=>decide
  | some x=>exact hd x (List.mem_of_getElem? e)
 generalize (d[k]?).getD 0=y at *
 have hent:=divC_ent (D:=D) h.inv.len h.inv.rect hk hc
 obtain ⟨e1,e2⟩:=frac_bd (x:=entZ C k c) h.inv.d0
 have e3:=h.inv.bd.ent k c
 have e4:=h.inv.dB
 have hpr:(y:Rat) * entQ (divC C D) k c=((y * entZ C k c:Int):Rat) / (D:Rat):=by
  rw [hent,Rat.intCast_mul,Rat.div_def,Rat.div_def,Rat.mul_assoc]
 obtain ⟨p1,p2⟩:=frac_bd (x:=y * entZ C k c) h.inv.d0
 have p3:(y * entZ C k c).natAbs≤2000000000 * 162:=abs_mul hdk e3
 rw [hpr,hent]
 generalize ((y * entZ C k c:Int):Rat) / (D:Rat)=P at *
 generalize (entZ C k c:Rat) / (D:Rat)=E at *
 generalize sumQ (divC C D) d c k=S at *
 refine ⟨⟨.inl ⟨by rw [Rat.num_intCast]; omega,by omega⟩,.inl ⟨by rw [Rat.den_intCast]; decide,by rw [Int.natAbs_natCast]; omega⟩⟩,.inl ⟨by omega,by rw [Int.natAbs_natCast]; omega⟩,.inl ⟨by omega,by rw [Int.natAbs_natCast]; omega⟩,.inr (.inr ⟨by rw [Int.natAbs_natCast]; omega,by rw [Int.natAbs_natCast]; omega⟩)⟩
theorem SpOk.small {m C C':List (List Int)} {n:Nat} {D D':Int} (h:SpOk m C C' n D D') (hn:n≤3) {d l:List Int} (hd:∀ x,x ∈ d→x.natAbs≤2000000000) (hs:solveS (divC C D) d n=some l):∀ x,x ∈ l→x.natAbs < 1000000000000:=fun x hx=>by
 unfold solveS at hs
 split at hs
 ·injection hs with hs
  rw [← hs] at hx
  obtain ⟨c,hc,rfl⟩:=List.mem_map.1 hx
  exact (h.sum hn hd (List.mem_range.1 hc) (Nat.le_refl _)).1
 ·cases hs
end Go.Proofs.YtkjemicelmabdaaGreatDoor
