/- Contracts and laws: UMk. -/
import Derived.Test.YtkjemicelmabdaaGreatDoorUChk
import Derived.Test.YtkjemicelmabdaaGreatDoorUKn
import Derived.Test.YtkjemicelmabdaaGreatDoorUSA
import Derived.Deep.CutRange
import Derived.Deep.CutBlock

set_option maxRecDepth 100000
set_option maxHeartbeats 16000000
namespace Go.Proofs.YtkjemicelmabdaaGreatDoor
open Go.RowKit Go.Lib
attribute [local go_sem ↓] AQ AR
def HA (r:Nat) (xs:List Int):List Int:=(xs.take r).map fun x=>x.tmod 10
def LS (i:Nat):ByteArray:=⟨#[UInt8.ofNat (65+i)]⟩
def OM:Nat→ByteArray
 | 0=>⟨#[35]⟩
 | 1=>⟨#[111]⟩
 | _=>⟨#[94]⟩
def Gq (r:Nat) (L:List (List Int)):List (ByteArray×List Int):=if L=[] then [(LS 0,List.replicate r 0)] else (L.take 8).mapIdx fun i x=>(LS i,HA r x)
def Hy (r:Nat) (B:List (List Int)):List (ByteArray×List Int):=(List.range r).map fun i=>(OM i,HA r (A7 B i))
def Mn (w:World) (a:Option Addr) (L:List (List Int)):Prop :=
 L=[]∨∃ b o,a=some ⟨b,o,none⟩∧b < w.heap.size∧∀ (i:Nat) (r:List Int),L[i]?=some r→∀ (k:Nat) (x:Int),r[k]?=some x→w.cell? ⟨b,o+i * 3+k,none⟩=some (.int .i8 x)
theorem Mn.fr {w w':World} {a:Option Addr} {L:List (List Int)} (h:Mn w a L) (k:Fr w w'):Mn w' a L:=by
 rcases h with h | ⟨b,o,ha,hb,hc⟩
 ·exact .inl h
 ·exact .inr ⟨b,o,ha,An hb k.size,fun i r hr j x hx=>k.keep (hc i r hr j x hx)⟩
def Mo (L:List (List Int)):Prop:=∀ r,r ∈ L→r.length=3∧∀ x,x ∈ r→-128≤x∧x≤127
theorem Jv {r:Nat} {xs:List Int} (h:xs.length=3) (hr:r≤3):(HA r xs).length=r:=by
 unfold HA; rw [Al,AB]; omega
theorem O1 {r k:Nat} {xs:List Int} {x:Int} (hk:k < r) (h:xs[k]?=some x):(HA r xs)[k]?=some (x.tmod 10):=by
 unfold HA; rw [Am,BZ,Ak hk,h]; rfl
theorem Qy (x:Int):-9≤x.tmod 10∧x.tmod 10≤9:=by
 have h1:=Int.tmod_lt_of_pos x (show (0:Int) < 10 by decide)
 have h2:=Int.lt_tmod_of_pos x (show (0:Int) < 10 by decide)
 omega
theorem Vi:∀ i,(OM i).size=1
 | 0 | 1 | _+2=>rfl
theorem RF {r:Nat} {xs:List Int}:∀ x,x ∈ HA r xs→x.natAbs≤9:=fun x hx=>by
 obtain ⟨y,-,rfl⟩:=AU.1 hx
 have:=Qy y
 omega
def Xu (d:Nat) (p:ByteArray×List Int):Prop:=p.1.size=1∧p.2.length=d∧∀ x,x ∈ p.2→x.natAbs≤9
theorem PY {d:Nat} {B:List (List Int)} (hd:d≤3) (h:Mo B) (hl:B.length=3):∀ p,p ∈ Hy d B→Xu d p:=fun p hp=>by
 obtain ⟨i,hi,rfl⟩:=AU.1 hp
 have hi2:i < d:=AL.1 hi
 refine ⟨Vi i,Jv ?_ hd,RF⟩
 rw [BB (by omega)]
 exact (h _ (AK _)).1
theorem Pi {d:Nat} {L:List (List Int)} (hd:d≤3) (h:Mo L):∀ p,p ∈ Gq d L→Xu d p:=fun p hp=>by
 unfold Gq at hp
 split at hp
 ·rw [Bo] at hp
  subst hp
  exact ⟨rfl,AH,fun x hx=>by rw [Ek hx]; decide⟩
 ·obtain ⟨i,hi,rfl⟩:=List.mem_iff_getElem.1 hp
  rw [List.getElem_mapIdx]
  refine ⟨rfl,Jv ?_ hd,RF⟩
  exact (h _ (Cv (AK _))).1
def Xy (w:World) (SN SA:List (ByteArray×List Int)) (d:Nat) (e:Ending) (w':World):Prop :=
 ∃ (N A:List Sy) (aN:Option Addr) (cN:Nat) (aA:Option Addr) (cA r:Nat) (fine:Bool),CD N=SN∧CD A=SA∧DA w' aN aA cA N A∧Fr w w'∧fine=decide (Cq N A r=0)∧(r≤d)∧(r=d→(∃ Fq,BQ ((SA.map Prod.snd).map CY) d=some Fq∧Fq.lead.length=d)∧Fv (SA.map Prod.snd)≠0)∧e=.returned (.tuple #[.agg #[.slice aN N.length cN,.slice aA A.length cA],.bool fine])
theorem Rj (R:Int) (hR0:0≤R) (hR1:R≤255) (d:Nat) (hd:(d:Int)=R % 4) (L:List (List Int)) (a:Option Addr) (c:Nat) (b0 b1 b2 b3 b4 b5 b6 b7 b8:Int) (w:World) (hG:G w) (hL:Mn w a L) (hL8:Mo L) (hB8:Mo [[b0,b1,b2],[b3,b4,b5],[b6,b7,b8]]) :
 Calls Tryz.prog 7 #[.agg #[.int .u8 R,.slice a L.length c,.int .i8 b0,.int .i8 b1,.int .i8 b2,.int .i8 b3,.int .i8 b4,.int .i8 b5,.int .i8 b6,.int .i8 b7,.int .i8 b8]] w
  (Xy w (Gq d L) (Hy d [[b0,b1,b2],[b3,b4,b5],[b6,b7,b8]]) d):=by
 have hgn:=Ch hG
 have hG1:=hZ hG
 replace hL:=hZ hL
 replace hL8:=hZ hL8
 replace hB8:=hZ hB8
 have hd3:d≤3:=by omega
 clear hG
 go_enter Tryz.func7,Tryz.ntmps7
 go_upto_region 3 with (fail)
 rw [← hd]
 replace hd:=hZ hd
 obtain ⟨W1,hW1⟩:∃ W1,W1=Gf w [(.cells #[.int .u8 R,.slice a L.length c,.int .i8 b0,.int .i8 b1,.int .i8 b2,.int .i8 b3,.int .i8 b4,.int .i8 b5,.int .i8 b6,.int .i8 b7,.int .i8 b8] 27),(.cells #[.slice none 0 0,.slice none 0 0] 32),(.cells #[.slice none 0 0,.slice none 0 0] 32)]:=⟨_,rfl⟩
 have g0:W1.heap[w.heap.size]?=some (.cells #[.int .u8 R,.slice a L.length c,.int .i8 b0,.int .i8 b1,.int .i8 b2,.int .i8 b3,.int .i8 b4,.int .i8 b5,.int .i8 b6,.int .i8 b7,.int .i8 b8] 27 (0,0)):=by rw [hW1]; exact CM _ w 0 _ rfl
 have g1:W1.heap[w.heap.size+1]?=some (.cells #[.slice none 0 0,.slice none 0 0] 32 (0,0)):=by rw [hW1]; exact CM _ w 1 _ rfl
 have g2:W1.heap[w.heap.size+1+1]?=some (.cells #[.slice none 0 0,.slice none 0 0] 32 (0,0)):=by rw [hW1]; exact CM _ w 2 _ rfl
 have hf1:Fr w W1:=by rw [hW1]; exact Hp _ w
 have hs1:W1.heap.size=w.heap.size+1+1+1:=by rw [hW1]; simp [Gf]
 change Code.wp _ _ _ _ (Gf w [(.cells #[.int .u8 R,.slice a L.length c,.int .i8 b0,.int .i8 b1,.int .i8 b2,.int .i8 b3,.int .i8 b4,.int .i8 b5,.int .i8 b6,.int .i8 b7,.int .i8 b8] 27),(.cells #[.slice none 0 0,.slice none 0 0] 32),(.cells #[.slice none 0 0,.slice none 0 0] 32)])
 rw [← hW1]
 clear hW1
 have hC2:∀ k,W1.heap[k]?=some (.cells #[.slice none 0 0,.slice none 0 0] 32 (0,0))→Bm W1 k (.slice none 0 0) (.slice none 0 0):=fun k h=>by
  refine ⟨by rw [Bg h]; rfl,by rw [Bg h]; rfl, ?_, ?_⟩ <;> (unfold World.frozen?; rw [h]; rfl)
 have hcn0:=hZ (hC2 _ g2)
 have hcr0:=hZ (hC2 _ g1)
 have q1:W1.cell? ⟨w.heap.size,1,none⟩=some (.slice a L.length c):=by rw [Bg g0]; rfl
 have hBc:Hid (∀ i k x,(A7 [[b0,b1,b2],[b3,b4,b5],[b6,b7,b8]] i)[k]?=some x→i < 3→k < 3→W1.cell? ⟨w.heap.size,2+i * 3+k,none⟩=some (.int .i8 x)):=fun i k x hx hi hk=>by
  rw [Bg g0]
  match i,hi with
  | 0,_ | 1,_ | 2,_=>
    match k,hk with
    | 0,_ | 1,_ | 2,_=>injection hx with hx; rw [← hx]; rfl
 clear hC2 g0 g1 g2
 obtain ⟨db,hdb⟩:∃ db,db=w.heap.size:=⟨_,rfl⟩
 obtain ⟨nb,hnb⟩:∃ nb,nb=db+1+1:=⟨_,rfl⟩
 rw [← hdb] at hcn0 hcr0 q1 hBc hs1 ⊢
 rw [← hnb] at hcn0 hs1 ⊢
 replace hs1:=hZ hs1
 replace hf1:=hZ hf1
 replace hdb:=hZ hdb
 have hdn:db≠nb:=by omega
 have hrn:db+1≠nb:=by omega
 replace hnb:=hZ hnb
 have hBl:([[b0,b1,b2],[b3,b4,b5],[b6,b7,b8]]:List (List Int)).length=3:=rfl
 generalize hB:[[b0,b1,b2],[b3,b4,b5],[b6,b7,b8]]=B at *
 clear hB
 replace hBl:=hZ hBl
 obtain ⟨nl,hnl⟩:∃ nl,nl=L.length:=⟨_,rfl⟩
 rw [← hnl] at q1 ⊢
 obtain ⟨m,hm⟩:∃ m,m=min nl 8:=⟨_,rfl⟩
 replace hnl:=hZ hnl
 obtain ⟨SN,hSN⟩:∃ SN:List (ByteArray×List Int),SN=(L.take 8).mapIdx fun i x=>(LS i,HA d x):=⟨_,rfl⟩
 have hSl:Hid (SN.length=m):=by show _=_; rw [hSN,DS,AB,hm,hnl.out,Nat.min_comm]
 have hSg:Hid (∀ i x,L[i]?=some x→i < 8→SN[i]?=some (LS i,HA d x)):=fun i x hx hi=>by
  rw [hSN,Ec,BZ,Ak hi,hx]; rfl
 replace hSN:=hZ hSN
 have hm8:m≤8:=by omega
 have hmn:m≤nl:=by omega
 obtain ⟨iI,jI,iz0,iz1,iz2⟩:=AG CS
 obtain ⟨iS,jS,sz0,sz1,sz2⟩:=AG JF
 go_upto_block 0 with (fail)
 go_cut [] from 16 to 102 (fun wc=>∃ (N:List Sy) (v:Value),Fx (·=nb) W1 wc∧Hid (Bm wc nb v (.slice none 0 0))∧Hid (CW wc (nb+1) v m N)∧Hid (CD N=SN))
 case first=>
  go_wp2_with fail
  go_loopg [6] m (fun k s6 wr=>∃ (i:Nat) (N:List Sy) (v:Value),s6=.int .i64 i∧i+k=m∧Fx (·=nb) W1 wr∧Hid (Bm wr nb v (.slice none 0 0))∧Hid (CW wr (nb+1) v i N)∧Hid (CD N=SN.take i))
  case atStart=>exact ⟨0,[],_,rfl,by omega,Fx.refl _ _,hcn0.out,CW.nil _ _,rfl⟩
  case round=>
   clear hcn0
   obtain ⟨i,N,v,rfl,him,hfx,hcn,hsy,hba⟩:=hrel
   have x1:=hfx.keep q1 hdn
   by_cases hi:i < m
   ·have d1:decide (i < nl)=true:=Ad (by omega)
    have d2:decide ((i:Int) < 8)=true:=Ad (by omega)
    have z0:(0:Int)≤(i:Int):=Ag _
    have z8:(i:Int) < 8:=by omega
    obtain ⟨xs,hxs⟩:∃ xs,L[i]?=some xs:=⟨_,Aa (by rw [← hnl.out]; omega)⟩
    have hxm:=hL8.out xs (Ac hxs)
    obtain ⟨lb,lo,rfl,hlb,hlc⟩:∃ b o,a=some ⟨b,o,none⟩∧b < w.heap.size∧∀ (k:Nat) (x:Int),xs[k]?=some x→w.cell? ⟨b,o+i * 3+k,none⟩=some (.int .i8 x):=by
     rcases hL.out with h | ⟨b,o,h1,h2,h3⟩
     ·rw [h] at hxs; cases hxs
     ·exact ⟨b,o,h1,h2,fun k x hx=>h3 i xs hxs k x hx⟩
    have hsn:=hZ (Bh (hSg.out i xs hxs (by omega)))
    have hu8:(UInt8.ofNat (65+i)).toNat=65+i:=by rw [UInt8.toNat_ofNat']; omega
    have hcv:(convert 48 9 (.slice (some ⟨wr.heap.size,0,none⟩) 1 1)).run Tryz.prog (wr.alloc (.cells #[.int .u8 (65+i)] 5))=.ok (.string (LS i)) (wr.alloc (.cells #[.int .u8 (65+i)] 5)):=by
     have h:=Zy (P:=Tryz.prog) (wr.alloc (.cells #[.int .u8 (65+i)] 5)) 48 9 5 ⟨wr.heap.size,0,none⟩ 1 [UInt8.ofNat (65+i)] Tryz.underlying48 Tryz.underlying5 Tryz.underlying9 (fun j hj=>by
      obtain rfl:j=0:=by simp at hj; omega
      rw [Lib.add_plain]
      show World.cell? _ ⟨wr.heap.size,0+0,none⟩=some (.int .u8 (((UInt8.ofNat (65+i)).toNat:Nat):Int))
      rw [hu8]
      have:=Du wr (.int .u8 (65+i)) 5
      rw [this]
      rfl)
     exact h
    have hxr:=Jv (r:=d) hxm.1 hd3
    replace hu8:=hZ hu8
    replace hxs:=hZ hxs
    replace hxm:=hZ hxm
    obtain ⟨wo,rfl⟩:∃ wo:World,wo=wr:=⟨_,rfl⟩
    obtain ⟨ko,rfl⟩:∃ ko:Nat,ko=gk:=⟨_,rfl⟩
    have ht1:=Bm.new ((wo.alloc (.cells #[.int .u8 (65+i)] 5)).alloc (.cells #[] 3)) (.string (LS i)) (.slice (some ⟨wo.heap.size+1,0,none⟩) 0 0) 65
    rw [Az,Az] at ht1
    have hto:=A3 (I2 (wo.alloc (.cells #[.int .u8 (65+i)] 5)) (wo.heap.size+1) 3 1 (by simp)) ((Fr.refl _).alloc (.cells #[.string (LS i),.slice (some ⟨wo.heap.size+1,0,none⟩) 0 0] 65))
    rw [Az] at hto
    have hft:Fr wo ((((wo.alloc (.cells #[.int .u8 (65+i)] 5)).alloc (.cells #[] 3)).alloc (.cells #[.string (LS i),.slice (some ⟨wo.heap.size+1,0,none⟩) 0 0] 65))):=(((Fr.refl _).alloc _).alloc _).alloc _
    obtain ⟨W2,hW2⟩:∃ W2,W2=((((wo.alloc (.cells #[.int .u8 (65+i)] 5)).alloc (.cells #[] 3)).alloc (.cells #[.string (LS i),.slice (some ⟨wo.heap.size+1,0,none⟩) 0 0] 65))):=⟨_,rfl⟩
    rw [← hW2] at ht1 hto hft
    have hs2:W2.heap.size=wo.heap.size+3:=by rw [hW2]; simp
    go_upto_region 7 with (fail)
    rw [← hW2]
    clear hW2 hcv
    obtain ⟨xb,hxb⟩:∃ xb,xb=wo.heap.size+1+1:=⟨_,rfl⟩
    rw [← hxb] at ht1 ⊢
    replace ht1:=hZ ht1
    replace hto:=hZ hto
    have hwx:wo.heap.size < xb:=by omega
    have hx2:xb < W2.heap.size:=by omega
    have hox:Hid ((Value.slice (some ⟨wo.heap.size+1,0,none⟩) 0 0).ownBlock≠some xb):=fun e=>by have e:some (wo.heap.size+1)=some xb:=e; injection e with e; omega
    replace hxb:=hZ hxb
    replace hs2:=hZ hs2
    go_wp2_with fail
    go_loopg [8] d (fun k s8 wv=>∃ (j:Nat) (u:Value),s8=.int .i64 j∧j+k=d∧Fr wo wv∧W2.heap.size≤wv.heap.size∧Hid (Bm wv xb (.string (LS i)) u)∧Hid (wv.ownsRow (wo.heap.size+1) 3 1 u j (((HA d xs).take j).map iv))∧Hid (u.ownBlock≠some xb)∧Hid (u≠.slice none 0 0))
    case atStart=>exact ⟨0,_,rfl,by omega,hft,Af _,ht1.out,hto.out,hox.out,fun e=>by injection e with e; cases e⟩
    case round=>
     clear ht1 hto hox
     obtain ⟨j,u,rfl,hjd,hf3,hz3,ht,hto,hox,hun⟩:=hrel
     have hx9:=hf3.trans (Fr.refl wr)
     have zj0:(0:Int)≤(j:Int):=Ag _
     obtain ⟨wv,rfl⟩:∃ wv:World,wv=wr:=⟨_,rfl⟩
     by_cases hjd2:j < d
     ·have dj:decide (j < d)=true:=Ad hjd2
      have zj3:(j:Int) < 3:=by omega
      have zi1:(i:Int) < (nl:Int):=by omega
      obtain ⟨x,hx⟩:∃ x,xs[j]?=some x:=⟨_,Aa (by rw [hxm.out.1]; omega)⟩
      obtain ⟨hx1,hx2⟩:=hxm.out.2 x (Ac hx)
      obtain ⟨hx3,hx4⟩:=Qy x
      have k1:IntKind.i64.wrap x=x:=AC _ (by omega)
      have hzw:wo.heap.size+3≤wv.heap.size:=by have:=hs2.out; omega
      have y1:=((hf1.out.trans (Fr.refl W1)))
      have x2:wv.cell? ⟨db,1,none⟩=some (.slice (some ⟨lb,lo,none⟩) nl c):=hf3.keep x1
      have hlv:=hlc j x hx
      have x3:wv.cell? ⟨lb,lo+i * 3+j,none⟩=some (.int .i8 x):=hf3.keep (hfx.keep (hf1.out.keep hlv) (fun e=>by have e:lb=nb:=e; have h1:=hnb.out; have h2:=hdb.out; omega))
      have hsn3:=hZ (Bh (O1 hjd2 hx))
      have nv:=ht.out.b
      have nf:=ht.out.fb
      have hlt:=hto.out.lt
      have hvb:Hid (∀ q,u.ownBlock=some q→wo.heap.size+1≤q∧q < wv.heap.size∧q≠xb):=fun q e=>⟨(hlt q e).1,(hlt q e).2,fun e2=>hox.out (by rw [e,e2])⟩
      have hS0:=hZ (fun W' (hW':Fr wv W')=>(⟨hW'.keep nv,hW'.keep x2,hW'.keep x3⟩:W'.cell? ⟨xb,1,none⟩=some u∧W'.cell? ⟨db,1,none⟩=some (.slice (some ⟨lb,lo,none⟩) nl c)∧W'.cell? ⟨lb,lo+i * 3+j,none⟩=some (.int .i8 x)))
      have hdbw:db < wo.heap.size:=by have h1:=hfx.size; have h2:=hs1.out; have h3:=hnb.out; omega
      have hlbw:lb < wo.heap.size:=by have h1:=hfx.size; have h2:=hf1.out.size; omega
      replace hx:=hZ hx
      replace hun:=hZ hun
      clear hlt hlv y1 hx9
      go_wp2_with fail
      refine BL (S:=fun W'=>W'.cell? ⟨xb,1,none⟩=some u∧W'.cell? ⟨db,1,none⟩=some (.slice (some ⟨lb,lo,none⟩) nl c)∧W'.cell? ⟨lb,lo+i * 3+j,none⟩=some (.int .i8 x)) 14 (by kernel_rfl) (hS0.out _ ((Fr.refl _).drew)) (fun hHeld=>?_)
      refine uM 0 39 ?_; try simp only [BT,Cp,Co]
      refine uM 1 40 ?_; try simp only [BT,Cp,Co]
      refine uM 2 41 ?_; try simp only [BT,Cp,Co]
      refine uM 3 42 ?_; try simp only [BT,Cp,Co]
      refine uM 4 43 ?_; try simp only [BT,Cp,Co]
      refine uM 5 44 ?_; try simp only [BT,Cp,Co]
      refine uM 6 45 ?_; try simp only [BT,Cp,Co]
      refine uM 7 46 ?_; try simp only [BT,Cp,Co]
      refine uM 8 47 ?_; try simp only [BT,Cp,Co]
      refine uM 9 48 ?_; try simp only [BT,Cp,Co]
      refine uM 10 49 ?_; try simp only [BT,Cp,Co]
      refine uC 11 (fun K hK=>?_)
      go_simp
      refine hK.out _ _ (hS0.out _ (by exact BM)) (fun hHeld=>?_)
      clear hK K
      try simp only [Act.put,BT]
      have hf7:Fr wv (wv.alloc (.cells #[.int .i64 (x.tmod 10)] 3)).drew:=((Fr.refl _).alloc _).drew
      have hcs:∀ (q:Nat) (y:Value),[Value.int .i64 (x.tmod 10)][q]?=some y→(wv.alloc (.cells #[.int .i64 (x.tmod 10)] 3)).drew.cell? ((⟨wv.heap.size,0,none⟩:Addr).add q)=some y:=fun q y hq=>(Fr.refl _).drew.keep (AD wv (.int .i64 (x.tmod 10)) 3 wv.heap.size rfl q y hq)
      have hsz7:(wv.alloc (.cells #[.int .i64 (x.tmod 10)] 3)).drew.heap.size=wv.heap.size+1:=by simp
      generalize (wv.alloc (.cells #[.int .i64 (x.tmod 10)] 3)).drew=W7 at *
      have hown7:=A3 hto.out hf7
      have hSA:Hid (∀ wA,W7.grownBy wA u.ownBlock→(wA.cell? ⟨xb,1,none⟩=some u∧wA.cell? ⟨db,1,none⟩=some (.slice (some ⟨lb,lo,none⟩) nl c)∧wA.cell? ⟨lb,lo+i * 3+j,none⟩=some (.int .i8 x))∧wA.frozen? ⟨xb,1,none⟩=false):=fun wA hgr=>
       ⟨⟨(Fx.of_grown hgr).keep (q:=⟨xb,1,none⟩) (hf7.keep nv) (fun e=>(hvb.out xb e).2.2 rfl),(Fx.of_grown hgr).keep (q:=⟨db,1,none⟩) (hf7.keep x2) (fun e=>by have e1:wo.heap.size+1≤db:=(hvb.out db e).1; omega),(Fx.of_grown hgr).keep (q:=⟨lb,lo+i * 3+j,none⟩) (hf7.keep x3) (fun e=>by have e1:wo.heap.size+1≤lb:=(hvb.out lb e).1; omega)⟩,
         (Fx.of_grown hgr).keepf (q:=⟨xb,1,none⟩) (hf7.keep nv) (hf7.keepf nv nf) (fun e=>(hvb.out xb e).2.2 rfl)⟩
      replace hcs:=hZ hcs
      refine uC 12 (fun K hK=>?_)
      (refine Dh _ rfl (.tmp 40) (.tmp 50) 29 rfl (wo.heap.size+1) 3 iI _ 1 8 Tryz.underlying29 jI iz0 iz1 iz2 rfl (by decide) u j (((HA d xs).take j).map iv) (by simp [Act.eval]) hown7 ⟨wv.heap.size,0,none⟩ 1 1 [.int .i64 (x.tmod 10)] (by simp [Act.eval]) rfl hcs.out (by simp [Value.oneCell']) (by decide) (by unfold maxLen; omega) (by omega) (by omega) (wv.heap.size+1) hsz7 ?_; intro gA capA wA hownA hgrowA hatA hltA)
      refine hK.out _ _ ((hSA.out wA hgrowA).1) (fun hHeld=>?_)
      clear hK K
      try simp only [Act.put,BT]
      have hSA2:=hSA.out wA hgrowA
      obtain ⟨⟨p1,p2,p4⟩,p3⟩:=hSA2
      replace hownA:=hZ hownA
      refine uM 13 52 ?_; try simp only [BT,Cp,Co]
      clear hHeld
      refine uL 14 (fun K hK=>?_)
      go_simp
      refine hK.out _ _ ?_
      clear hK K
      have hgx:gA≠xb:=by
       rcases hatA with e | e
       ·exact (hvb.out gA e).2.2
       ·omega
      have hfA:Fr wo wA:=(hf3.trans hf7).grown hgrowA (fun k e=>by have:=(hvb.out k e).1; omega)
      have hCA:Bm wA xb (.string (LS i)) u:=(ht.out.fr hf7).fx (Fx.of_grown hgrowA) (fun e=>(hvb.out xb e).2.2 rfl)
      have hC9:=hCA.set1 (.slice (some ⟨gA,0,none⟩) (j+1) capA)
      have hfx9:Fx (·=xb) wA (wA.setCell ⟨xb,1,none⟩ (.slice (some ⟨gA,0,none⟩) (j+1) capA)):=Fx.setCell (p:=(·=xb)) (q:=⟨xb,1,none⟩) (Fx.refl _ wA) (.inl rfl) _
      have hown9:=B2 hownA.out hfx9 (fun g hg e=>by have e1:some gA=some g:=hg; injection e1 with e1; exact hgx (e1.trans e))
      have hfr9:Fr wo (wA.setCell ⟨xb,1,none⟩ (.slice (some ⟨gA,0,none⟩) (j+1) capA)):=hfA.setCell (p:=⟨xb,1,none⟩) (by show wo.heap.size≤xb; omega) _
      have hz9:=Aw hz3 (Aw hf7.size (Aw hgrowA.size hfx9.size))
      replace hown9:=hZ hown9
      go_wp2_with fail
      go_roundg (gk - 1)
      case measure=>omega
      case rel=>exact ⟨j+1,_,by go_num,by omega,hfr9,hz9,hC9,by show World.ownsRow _ _ _ _ _ _ _; rw [hsn3.out,Ax]; exact hown9.out,fun e=>by have e1:some gA=some xb:=e; injection e1 with e1; exact hgx e1,fun e=>by injection e with e; cases e⟩
     ·have dj:decide (j < d)=false:=Ab hjd2
      obtain rfl:j=d:=by omega
      have hown9:=hto.out
      rw [Ai (by rw [hxr]; exact Af _)] at hown9
      obtain ⟨g,cg,rfl⟩:∃ g cg,u=.slice (some ⟨g,0,none⟩) j cg:=by
       rcases hown9.2 with ⟨h1,_⟩ | ⟨g',cap',cur',hv,_⟩
       ·exact absurd h1 hun.out
       ·exact ⟨_,_,hv⟩
      have hgl:=hown9.lt g rfl
      have helg:=Ei hown9
      have k0:=ht.out.a
      have k1:=ht.out.b
      have hcn3:=hcn.out.fr hf3
      have n0:=hcn3.a
      have hzo:=hfx.size
      rw [hs1.out] at hzo
      have hfa:Fr wv (wv.alloc (.cells #[.string (LS i),.slice (some ⟨g,0,none⟩) j cg] 65)):=(Fr.refl _).alloc _
      have hsy2:=(hsy.out.fr hf3).fr hfa
      have hownG:=hsy2.own
      have hvlt:=hsy.out.own.lt
      have hcA:∀ wA:World,(wv.alloc (.cells #[.string (LS i),.slice (some ⟨g,0,none⟩) j cg] 65)).grownBy wA v.ownBlock→Bm wA nb v (.slice none 0 0):=fun wA hg=>
       (hcn3.fr hfa).fx (Fx.of_grown hg) (fun e=>by have e1:v.ownBlock=some nb:=e; have:=(hsy2.own.lt nb e1).1; omega)
      have hel:=helg.fr hfa
      have hcs:=Es wv (.string (LS i)) (.slice (some ⟨g,0,none⟩) j cg) 65 wv.heap.size rfl
      have hvn:v.ownBlock≠some g:=fun e=>by have:=(hvlt g e).2; omega
      have hgb:nb+1≤g:=by omega
      replace hsy2:=hZ hsy2
      replace hcA:=hZ hcA
      replace hcs:=hZ hcs
      replace hel:=hZ hel
      replace hvlt:=hZ hvlt
      clear helg hown9 hcn3
      go_wp2_with (at_builtin; refine As _ rfl _ _ 30 (by rfl) _ 65 _ _ 2 40 Tryz.underlying30 jS sz0 sz1 sz2 rfl (by decide) _ i _ (by rfl) hownG ⟨wv.heap.size,0,none⟩ 1 1 [.string (LS i),.slice (some ⟨g,0,none⟩) j cg] (by rfl) rfl hcs.out (by simp [Value.oneCell']) (by decide) (by unfold maxLen; omega) (by omega) (by simp; omega) (wv.heap.size+1) (by simp) ?_; intro gA capA wA hownA hgrowA hatA hltA; have hcA2:=hcA.out wA hgrowA; have hb3:=hcA2.a; have hfb3:=hcA2.fa; replace hcA2:=hZ hcA2; replace hownA:=hZ hownA)
      have hpush:=hsy2.out.push (v':=.slice (some ⟨gA,0,none⟩) (i+1) capA) (x:=⟨LS i,HA j xs,some ⟨g,0,none⟩,cg⟩) rfl hgb (by simp; omega) hvn hel.out (by show World.ownsRow _ _ _ _ _ _ _; rw [show (Sy.enc ⟨LS i,HA j xs,some ⟨g,0,none⟩,cg⟩)=(.string (LS i),.slice (some ⟨g,0,none⟩) j cg) from by unfold Sy.enc; rw [hxr]]; exact hownA.out) hgrowA (hatA.imp id (fun e k hk=>by have hk:some gA=some k:=hk; injection hk with hk; rw [← hk,e]; simp))
      have hcn4:=hcA2.out.set0 (.slice (some ⟨gA,0,none⟩) (i+1) capA)
      have hfx9:Fx (·=nb) wA (wA.setCell ⟨nb,0,none⟩ (.slice (some ⟨gA,0,none⟩) (i+1) capA)):=Fx.setCell (p:=(·=nb)) (q:=⟨nb,0,none⟩) (Fx.refl _ wA) (.inl rfl) _
      have hpush2:=hpush.fx hfx9 (fun q hq e=>by have e:q=nb:=e; omega)
      have hfxA:Fx (·=nb) W1 wA:=((hfx.fr hf3).fr hfa).grownE hgrowA (fun k e=>by have:=(hvlt.out k e).1; rw [hs1.out]; omega)
      go_wp2_with fail
      go_roundg (ko - 1)
      case measure=>omega
      case rel=>exact ⟨i+1,_,_,by go_num,by omega,hfxA.trans hfx9,hcn4,hpush2,by show CD _=_; rw [hsn.out,← hba.out]; unfold CD; rw [Ax]; rfl⟩
   ·obtain rfl:i=m:=by omega
    have hba9:=hba.out
    rw [Ai (by rw [hSl.out]; exact Af _)] at hba9
    replace hba9:=hZ hba9
    by_cases hin:i < nl
    ·have d1:decide (i < nl)=true:=Ad hin
     have d2:decide ((i:Int) < 8)=false:=Ab (by omega)
     go_wp2_with fail
     go_meet
     case rel=>exact ⟨N,v,hfx,hcn,hsy,hba9⟩
    ·have d1:decide (i < nl)=false:=Ab hin
     go_wp2_with fail
     go_meet
     case rel=>exact ⟨N,v,hfx,hcn,hsy,hba9⟩
 case rest=>
  clear hcn0
  obtain ⟨N,v,hfx,hcn,hsy,hba⟩:=hcut
  obtain ⟨aN0,cN0,rfl,-,-⟩:=hsy.out.syms
  have n0:=hcn.out.a
  go_upto_if 62 with (fail)
  go_cut [] from 16 to 102 (fun wd=>∃ (N:List Sy) (M:Nat) (v:Value),Fx (·=nb) W1 wd∧Hid (Bm wd nb v (.slice none 0 0))∧Hid (CW wd (nb+1) v M N)∧Hid (CD N=Gq d L)∧M≤8)
  case first=>
   by_cases hm0:m=0
   ·have d1:((m:Int) == 0)=true:=by rw [hm0]; rfl
    have hL0:L=[]:=Aq (by rw [← hnl.out]; omega)
    have hno:Hid (Gq d L=[(LS 0,List.replicate d 0)]):=by show _=_; unfold Gq; rw [Ak hL0]
    replace hL0:=hZ hL0
    replace hm0:=hZ hm0
    have hzc:=hfx.size
    rw [hs1.out] at hzc
    go_wp2_with (at_make; refine Df _ rfl _ _ 29 rfl wc.heap.size 3 iI _ 1 Tryz.underlying29 jI iz0 iz1 _ _ _ _ d (by rfl) (by rfl) (by omega) (by omega) (by rw [iz2]; omega) (by unfold maxLen; omega) (Af _) ?_; intro w2 hown2 hgr2; have hw2:Fr wc w2:=(Fr.refl _).grown hgr2 (fun k e=>by cases e); have hcn7:=hcn.out.fr (hw2.alloc (.cells #[.string ⟨#[65]⟩,.slice (some ⟨wc.heap.size,0,none⟩) d d] 65)); have hb3:=hcn7.a; have hfb3:=hcn7.fa; replace hcn7:=hZ hcn7)
    rw [DH d rfl] at hown2
    have hlt2:=(hown2.lt wc.heap.size rfl).2
    have hlit:=CW.lit (w:=w2) (base:=nb+1) (x:=⟨LS 0,List.replicate d 0,some ⟨wc.heap.size,0,none⟩,d⟩) (g:=wc.heap.size) (by omega) rfl (by omega) hlt2 (Ei hown2)
    unfold Sy.enc at hlit
    rw [AH] at hlit
    have hset:=hcn7.out.set0 (.slice (some ⟨w2.heap.size,0,none⟩) 1 1)
    obtain ⟨W7,hW7⟩:∃ W7,W7=w2.alloc (.cells #[.string ⟨#[65]⟩,.slice (some ⟨wc.heap.size,0,none⟩) d d] 65):=⟨_,rfl⟩
    have hfx9:Fx (·=nb) W7 (W7.setCell ⟨nb,0,none⟩ (.slice (some ⟨w2.heap.size,0,none⟩) 1 1)):=Fx.setCell (p:=(·=nb)) (q:=⟨nb,0,none⟩) (Fx.refl _ W7) (.inl rfl) _
    have hlit9:=CW.fx (show CW W7 (nb+1) (.slice (some ⟨w2.heap.size,0,none⟩) 1 1) 1 [⟨LS 0,List.replicate d 0,some ⟨wc.heap.size,0,none⟩,d⟩] by rw [hW7]; exact hlit) hfx9 (fun q hq e=>by have e:q=nb:=e; omega)
    have hfw:=(hfx.fr (hw2.alloc (.cells #[.string ⟨#[65]⟩,.slice (some ⟨wc.heap.size,0,none⟩) d d] 65)))
    rw [← hW7] at hset hfw ⊢
    have hfw9:=hfw.trans hfx9
    go_meet
    case rel=>exact ⟨_,1,_,hfw9,hset,hlit9,by show CD _=_; rw [hno.out]; rfl,by omega⟩
   ·have d1:((m:Int) == 0)=false:=AF (by omega)
    have hno:CD N=Gq d L:=by
     rw [hba.out,hSN.out]
     unfold Gq
     rw [Aj (fun e=>hm0 (by rw [e] at hnl; have:=hnl.out; simp at this; omega))]
    replace hno:=hZ hno
    go_wp2_with fail
    go_meet
    case rel=>exact ⟨N,m,_,hfx,hcn,hsy,hno,hm8⟩
  case rest=>
   clear hcn hsy hba n0 hfx
   obtain ⟨N,M,v,hfx,hcn,hsy,hba,hM8⟩:=hcut
   obtain ⟨wM,rfl⟩:∃ wM:World,wM=wc:=⟨_,rfl⟩
   have hfx0:=hfx
   have hzM:=hfx.size
   rw [hs1.out] at hzM
   obtain ⟨SA,hSA0⟩:∃ SA,SA=Hy d B:=⟨_,rfl⟩
   have hAl:Hid (SA.length=d):=by show _=_; rw [hSA0]; unfold Hy; rw [Al,BP]
   have hAg:Hid (∀ i,i < d→SA[i]?=some (OM i,HA d (A7 B i))):=fun i hi=>by
    rw [hSA0]; unfold Hy; rw [Am,DD hi]; rfl
   replace hSA0:=hZ hSA0
   have hcn0:=hZ hcn.out
   have hsyN:=hZ hsy.out
   have hbaN:=hZ hba.out
   clear hcn hsy hba hfx
   go_wp2_with fail
   go_loopg [9] d (fun k s9 wr=>∃ (i:Nat) (A:List Sy) (vA:Value),s9=.int .i64 i∧i+k=d∧Fx (·=nb) wM wr∧Hid (Bm wr nb v vA)∧Hid (CW wr wM.heap.size vA i A)∧Hid (CD A=SA.take i)∧Hid (i=0→vA=.slice none 0 0))
   case atStart=>exact ⟨0,[],_,rfl,by omega,Fx.refl _ _,hcn0.out,CW.nil _ _,rfl,fun _=>rfl⟩
   case round=>
    clear hcn0
    obtain ⟨i,A,vA,rfl,him,hfx,hcn,hsy,hba,hva0⟩:=hrel
    by_cases hi:i < d
    ·have d1:decide (i < d)=true:=Ad hi
     have z0:(0:Int)≤(i:Int):=Ag _
     have z3:(i:Int) < 3:=by omega
     obtain ⟨xs,hxs⟩:∃ xs,xs=A7 B i:=⟨_,rfl⟩
     have hxm:=hB8.out xs (by rw [hxs,BB (by rw [hBl.out]; omega)]; exact AK _)
     have hlc:∀ (k:Nat) (x:Int),xs[k]?=some x→k < 3→W1.cell? ⟨db,2+i * 3+k,none⟩=some (.int .i8 x):=fun k x hx hk=>hBc.out i k x (by rw [← hxs]; exact hx) (by omega) hk
     have hsn:=hZ (Bh (hAg.out i hi))
     rw [← hxs] at hsn
     have hnc:(wr.alloc (.cells #[.string ⟨#[35]⟩,.string ⟨#[111]⟩,.string ⟨#[94]⟩] 9)).cell? ⟨wr.heap.size,i,none⟩=some (.string (OM i)):=by
      rw [Bg (CJ wr _)]
      match i,(show i < 3 by omega) with
      | 0,_ | 1,_ | 2,_=>rfl
     have hxr:=Jv (r:=d) hxm.1 hd3
     replace hxs:=hZ hxs
     replace hxm:=hZ hxm
     obtain ⟨wo,rfl⟩:∃ wo:World,wo=wr:=⟨_,rfl⟩
     obtain ⟨ko,rfl⟩:∃ ko:Nat,ko=gk:=⟨_,rfl⟩
     have ht1:=Bm.new ((wo.alloc (.cells #[.string ⟨#[35]⟩,.string ⟨#[111]⟩,.string ⟨#[94]⟩] 9)).alloc (.cells #[] 3)) (.string (OM i)) (.slice (some ⟨wo.heap.size+1,0,none⟩) 0 0) 65
     rw [Az,Az] at ht1
     have hto:=A3 (I2 (wo.alloc (.cells #[.string ⟨#[35]⟩,.string ⟨#[111]⟩,.string ⟨#[94]⟩] 9)) (wo.heap.size+1) 3 1 (by simp)) ((Fr.refl _).alloc (.cells #[.string (OM i),.slice (some ⟨wo.heap.size+1,0,none⟩) 0 0] 65))
     rw [Az] at hto
     have hft:Fr wo ((((wo.alloc (.cells #[.string ⟨#[35]⟩,.string ⟨#[111]⟩,.string ⟨#[94]⟩] 9)).alloc (.cells #[] 3)).alloc (.cells #[.string (OM i),.slice (some ⟨wo.heap.size+1,0,none⟩) 0 0] 65))):=(((Fr.refl _).alloc _).alloc _).alloc _
     obtain ⟨W2,hW2⟩:∃ W2,W2=((((wo.alloc (.cells #[.string ⟨#[35]⟩,.string ⟨#[111]⟩,.string ⟨#[94]⟩] 9)).alloc (.cells #[] 3)).alloc (.cells #[.string (OM i),.slice (some ⟨wo.heap.size+1,0,none⟩) 0 0] 65))):=⟨_,rfl⟩
     rw [← hW2] at ht1 hto hft
     have hs2:W2.heap.size=wo.heap.size+3:=by rw [hW2]; simp
     go_upto_region 18 with (fail)
     rw [← hW2]
     clear hW2 hnc
     obtain ⟨xb,hxb⟩:∃ xb,xb=wo.heap.size+1+1:=⟨_,rfl⟩
     rw [← hxb] at ht1 ⊢
     replace ht1:=hZ ht1
     replace hto:=hZ hto
     have hwx:wo.heap.size < xb:=by omega
     have hx2:xb < W2.heap.size:=by omega
     have hox:Hid ((Value.slice (some ⟨wo.heap.size+1,0,none⟩) 0 0).ownBlock≠some xb):=fun e=>by have e:some (wo.heap.size+1)=some xb:=e; injection e with e; omega
     replace hxb:=hZ hxb
     replace hs2:=hZ hs2
     go_wp2_with fail
     go_loopg [11] d (fun k s11 wv=>∃ (j:Nat) (u:Value),s11=.int .i64 j∧j+k=d∧Fr wo wv∧W2.heap.size≤wv.heap.size∧Hid (Bm wv xb (.string (OM i)) u)∧Hid (wv.ownsRow (wo.heap.size+1) 3 1 u j (((HA d xs).take j).map iv))∧Hid (u.ownBlock≠some xb)∧Hid (u≠.slice none 0 0))
     case atStart=>exact ⟨0,_,rfl,by omega,hft,Af _,ht1.out,hto.out,hox.out,fun e=>by injection e with e; cases e⟩
     case round=>
      clear ht1 hto hox
      obtain ⟨j,u,rfl,hjd,hf3,hz3,ht,hto,hox,hun⟩:=hrel
      have zj0:(0:Int)≤(j:Int):=Ag _
      obtain ⟨wv,rfl⟩:∃ wv:World,wv=wr:=⟨_,rfl⟩
      by_cases hjd2:j < d
      ·have dj:decide (j < d)=true:=Ad hjd2
       have zj3:(j:Int) < 3:=by omega
       obtain ⟨x,hx⟩:∃ x,xs[j]?=some x:=⟨_,Aa (by rw [hxm.out.1]; omega)⟩
       obtain ⟨hx1,hx2⟩:=hxm.out.2 x (Ac hx)
       obtain ⟨hx3,hx4⟩:=Qy x
       have k1:IntKind.i64.wrap x=x:=AC _ (by omega)
       have hzw:wo.heap.size+3≤wv.heap.size:=by have:=hs2.out; omega
       have x3:wv.cell? ⟨db,2+i * 3+j,none⟩=some (.int .i8 x):=hf3.keep ((hfx0.trans hfx).keep (hlc j x hx (by omega)) hdn)
       have hsn3:=hZ (Bh (O1 hjd2 hx))
       have nv:=ht.out.b
       have nf:=ht.out.fb
       have hlt:=hto.out.lt
       have hvb:Hid (∀ q,u.ownBlock=some q→wo.heap.size+1≤q∧q < wv.heap.size∧q≠xb):=fun q e=>⟨(hlt q e).1,(hlt q e).2,fun e2=>hox.out (by rw [e,e2])⟩
       have hS0:=hZ (fun W' (hW':Fr wv W')=>(⟨hW'.keep nv,hW'.keep x3⟩:W'.cell? ⟨xb,1,none⟩=some u∧W'.cell? ⟨db,2+i * 3+j,none⟩=some (.int .i8 x)))
       have hdbw:db < wo.heap.size:=by have h1:=hfx.size; have h3:=hnb.out; omega
       replace hx:=hZ hx
       replace hun:=hZ hun
       clear hlt hlc
       go_wp2_with fail
       refine BL (S:=fun W'=>W'.cell? ⟨xb,1,none⟩=some u∧W'.cell? ⟨db,2+i * 3+j,none⟩=some (.int .i8 x)) 13 (by kernel_rfl) (hS0.out _ ((Fr.refl _).drew)) (fun hHeld=>?_)
       refine uM 0 84 ?_; try simp only [BT,Cp,Co]
       refine uM 1 85 ?_; try simp only [BT,Cp,Co]
       refine uM 2 86 ?_; try simp only [BT,Cp,Co]
       refine uM 3 87 ?_; try simp only [BT,Cp,Co]
       refine uM 4 88 ?_; try simp only [BT,Cp,Co]
       refine uM 5 89 ?_; try simp only [BT,Cp,Co]
       refine uM 6 90 ?_; try simp only [BT,Cp,Co]
       refine uM 7 91 ?_; try simp only [BT,Cp,Co]
       refine uM 8 92 ?_; try simp only [BT,Cp,Co]
       refine uM 9 93 ?_; try simp only [BT,Cp,Co]
       refine uC 10 (fun K hK=>?_)
       go_simp
       refine hK.out _ _ (hS0.out _ (by exact BM)) (fun hHeld=>?_)
       clear hK K
       try simp only [Act.put,BT]
       have hf7:Fr wv (wv.alloc (.cells #[.int .i64 (x.tmod 10)] 3)).drew:=((Fr.refl _).alloc _).drew
       have hcs:∀ (q:Nat) (y:Value),[Value.int .i64 (x.tmod 10)][q]?=some y→(wv.alloc (.cells #[.int .i64 (x.tmod 10)] 3)).drew.cell? ((⟨wv.heap.size,0,none⟩:Addr).add q)=some y:=fun q y hq=>(Fr.refl _).drew.keep (AD wv (.int .i64 (x.tmod 10)) 3 wv.heap.size rfl q y hq)
       have hsz7:(wv.alloc (.cells #[.int .i64 (x.tmod 10)] 3)).drew.heap.size=wv.heap.size+1:=by simp
       generalize (wv.alloc (.cells #[.int .i64 (x.tmod 10)] 3)).drew=W7 at *
       have hown7:=A3 hto.out hf7
       have hSA:Hid (∀ wA,W7.grownBy wA u.ownBlock→(wA.cell? ⟨xb,1,none⟩=some u∧wA.cell? ⟨db,2+i * 3+j,none⟩=some (.int .i8 x))∧wA.frozen? ⟨xb,1,none⟩=false):=fun wA hgr=>
        ⟨⟨(Fx.of_grown hgr).keep (q:=⟨xb,1,none⟩) (hf7.keep nv) (fun e=>(hvb.out xb e).2.2 rfl),(Fx.of_grown hgr).keep (q:=⟨db,2+i * 3+j,none⟩) (hf7.keep x3) (fun e=>by have e1:wo.heap.size+1≤db:=(hvb.out db e).1; omega)⟩,
          (Fx.of_grown hgr).keepf (q:=⟨xb,1,none⟩) (hf7.keep nv) (hf7.keepf nv nf) (fun e=>(hvb.out xb e).2.2 rfl)⟩
       replace hcs:=hZ hcs
       refine uC 11 (fun K hK=>?_)
       (refine Dh _ rfl (.tmp 85) (.tmp 94) 29 rfl (wo.heap.size+1) 3 iI _ 1 8 Tryz.underlying29 jI iz0 iz1 iz2 rfl (by decide) u j (((HA d xs).take j).map iv) (by simp [Act.eval]) hown7 ⟨wv.heap.size,0,none⟩ 1 1 [.int .i64 (x.tmod 10)] (by simp [Act.eval]) rfl hcs.out (by simp [Value.oneCell']) (by decide) (by unfold maxLen; omega) (by omega) (by omega) (wv.heap.size+1) hsz7 ?_; intro gA capA wA hownA hgrowA hatA hltA)
       refine hK.out _ _ ((hSA.out wA hgrowA).1) (fun hHeld=>?_)
       clear hK K
       try simp only [Act.put,BT]
       have hSA2:=hSA.out wA hgrowA
       obtain ⟨⟨p1,p2⟩,p3⟩:=hSA2
       replace hownA:=hZ hownA
       refine uM 12 96 ?_; try simp only [BT,Cp,Co]
       clear hHeld
       refine uL 13 (fun K hK=>?_)
       go_simp
       refine hK.out _ _ ?_
       clear hK K
       have hgx:gA≠xb:=by
        rcases hatA with e | e
        ·exact (hvb.out gA e).2.2
        ·omega
       have hfA:Fr wo wA:=(hf3.trans hf7).grown hgrowA (fun k e=>by have:=(hvb.out k e).1; omega)
       have hCA:Bm wA xb (.string (OM i)) u:=(ht.out.fr hf7).fx (Fx.of_grown hgrowA) (fun e=>(hvb.out xb e).2.2 rfl)
       have hC9:=hCA.set1 (.slice (some ⟨gA,0,none⟩) (j+1) capA)
       have hfx9:Fx (·=xb) wA (wA.setCell ⟨xb,1,none⟩ (.slice (some ⟨gA,0,none⟩) (j+1) capA)):=Fx.setCell (p:=(·=xb)) (q:=⟨xb,1,none⟩) (Fx.refl _ wA) (.inl rfl) _
       have hown9:=B2 hownA.out hfx9 (fun g hg e=>by have e1:some gA=some g:=hg; injection e1 with e1; exact hgx (e1.trans e))
       have hfr9:Fr wo (wA.setCell ⟨xb,1,none⟩ (.slice (some ⟨gA,0,none⟩) (j+1) capA)):=hfA.setCell (p:=⟨xb,1,none⟩) (by show wo.heap.size≤xb; omega) _
       have hz9:=Aw hz3 (Aw hf7.size (Aw hgrowA.size hfx9.size))
       replace hown9:=hZ hown9
       go_wp2_with fail
       go_roundg (gk - 1)
       case measure=>omega
       case rel=>exact ⟨j+1,_,by go_num,by omega,hfr9,hz9,hC9,by show World.ownsRow _ _ _ _ _ _ _; rw [hsn3.out,Ax]; exact hown9.out,fun e=>by have e1:some gA=some xb:=e; injection e1 with e1; exact hgx e1,fun e=>by injection e with e; cases e⟩
      ·have dj:decide (j < d)=false:=Ab hjd2
       obtain rfl:j=d:=by omega
       have hown9:=hto.out
       rw [Ai (by rw [hxr]; exact Af _)] at hown9
       obtain ⟨g,cg,rfl⟩:∃ g cg,u=.slice (some ⟨g,0,none⟩) j cg:=by
        rcases hown9.2 with ⟨h1,_⟩ | ⟨g',cap',cur',hv,_⟩
        ·exact absurd h1 hun.out
        ·exact ⟨_,_,hv⟩
       have hgl:=hown9.lt g rfl
       have helg:=Ei hown9
       have k0:=ht.out.a
       have k1:=ht.out.b
       have hcn3:=hcn.out.fr hf3
       have n0:=hcn3.b
       have hzo:=hfx.size
       have hfa:Fr wv (wv.alloc (.cells #[.string (OM i),.slice (some ⟨g,0,none⟩) j cg] 65)):=(Fr.refl _).alloc _
       have hsy2:=(hsy.out.fr hf3).fr hfa
       have hownG:=hsy2.own
       have hvlt:=hsy.out.own.lt
       have hcA:∀ wA:World,(wv.alloc (.cells #[.string (OM i),.slice (some ⟨g,0,none⟩) j cg] 65)).grownBy wA vA.ownBlock→Bm wA nb v vA:=fun wA hg=>
        (hcn3.fr hfa).fx (Fx.of_grown hg) (fun e=>by have e1:vA.ownBlock=some nb:=e; have:=(hsy2.own.lt nb e1).1; omega)
       have hel:=helg.fr hfa
       have hcs:=Es wv (.string (OM i)) (.slice (some ⟨g,0,none⟩) j cg) 65 wv.heap.size rfl
       have hvn:vA.ownBlock≠some g:=fun e=>by have:=(hvlt g e).2; omega
       have hgb:wM.heap.size≤g:=by omega
       replace hsy2:=hZ hsy2
       replace hcA:=hZ hcA
       replace hcs:=hZ hcs
       replace hel:=hZ hel
       replace hvlt:=hZ hvlt
       clear helg hown9 hcn3
       go_wp2_with (at_builtin; refine As _ rfl _ _ 30 (by rfl) _ 65 _ _ 2 40 Tryz.underlying30 jS sz0 sz1 sz2 rfl (by decide) _ i _ (by rfl) hownG ⟨wv.heap.size,0,none⟩ 1 1 [.string (OM i),.slice (some ⟨g,0,none⟩) j cg] (by rfl) rfl hcs.out (by simp [Value.oneCell']) (by decide) (by unfold maxLen; omega) (by omega) (by simp; omega) (wv.heap.size+1) (by simp) ?_; intro gA capA wA hownA hgrowA hatA hltA; have hcA2:=hcA.out wA hgrowA; have hb3:=hcA2.b; have hfb3:=hcA2.fb; replace hcA2:=hZ hcA2; replace hownA:=hZ hownA)
       have hpush:=hsy2.out.push (v':=.slice (some ⟨gA,0,none⟩) (i+1) capA) (x:=⟨OM i,HA j xs,some ⟨g,0,none⟩,cg⟩) rfl hgb (by simp; omega) hvn hel.out (by show World.ownsRow _ _ _ _ _ _ _; rw [show (Sy.enc ⟨OM i,HA j xs,some ⟨g,0,none⟩,cg⟩)=(.string (OM i),.slice (some ⟨g,0,none⟩) j cg) from by unfold Sy.enc; rw [hxr]]; exact hownA.out) hgrowA (hatA.imp id (fun e k hk=>by have hk:some gA=some k:=hk; injection hk with hk; rw [← hk,e]; simp))
       have hcn4:=hcA2.out.set1 (.slice (some ⟨gA,0,none⟩) (i+1) capA)
       have hfx9:Fx (·=nb) wA (wA.setCell ⟨nb,1,none⟩ (.slice (some ⟨gA,0,none⟩) (i+1) capA)):=Fx.setCell (p:=(·=nb)) (q:=⟨nb,1,none⟩) (Fx.refl _ wA) (.inl rfl) _
       have hpush2:=hpush.fx hfx9 (fun q hq e=>by have e:q=nb:=e; omega)
       have hfxA:Fx (·=nb) wM wA:=((hfx.fr hf3).fr hfa).grownE hgrowA (fun k e=>(hvlt.out k e).1)
       go_wp2_with fail
       go_roundg (ko - 1)
       case measure=>omega
       case rel=>exact ⟨i+1,_,_,by go_num,by omega,hfxA.trans hfx9,hcn4,hpush2,by show CD _=_; rw [hsn.out,← hba.out]; unfold CD; rw [Ax]; rfl,fun e=>by omega⟩
    ·have d1:decide (i < d)=false:=Ab hi
     obtain rfl:d=i:=by omega
     have hbaA:=hba.out
     rw [Ai (by rw [hAl.out]; exact Af _)] at hbaA
     obtain ⟨aA,cA,rfl,hsA,hnA⟩:=hsy.out.syms
     have hsyN9:=hsyN.out.fx hfx (fun q hq e=>by have e:q=nb:=e; omega)
     obtain ⟨aN,cN,rfl,hsN,-⟩:=hsyN9.syms
     have hMl:=hsyN9.len
     have hdl:=hsy.out.len
     have hnt:DA wr aN aA cA N A:=⟨hsN,hsA,hnA⟩
     have hfw:Fr w wr:=(((Fx.of_fr hf1.out).trans hfx0).trans hfx).toFr (fun q hq e=>by have e:q=nb:=e; have h1:=hdb.out; have h2:=hnb.out; omega)
     have hArow:A.map Sy.row=SA.map Prod.snd:=by rw [← Et,hbaA]
     have hpA:=PY hd3 hB8.out hBl.out
     rw [← hSA0.out] at hpA
     have hpN:=Pi (d:=d) hd3 hL8.out
     rw [← hbaN.out] at hpN
     obtain ⟨r,hr1,hr2,hrk⟩:=WW (A.map Sy.row) d hd3 (by rw [Al]; exact hdl.symm) (fun q hq=>by rw [hArow] at hq; obtain ⟨y,hy,rfl⟩:=AU.1 hq; exact (hpA y hy).2.1) (fun q hq x hx=>by rw [hArow] at hq; obtain ⟨y,hy,rfl⟩:=AU.1 hq; exact (hpA y hy).2.2 x hx)
     have hfit:Vm (N ++ A):=fun x hx=>by
      rcases A4.1 hx with h9 | h9
      ·have h8:=hpN _ (Ge rfl h9)
       have e1:x.nm.size=1:=h8.1
       have e2:x.row.length=d:=h8.2.1
       exact ⟨by omega,by omega⟩
      ·have h8:=hpA _ (Ge hbaA h9)
       have e1:x.nm.size=1:=h8.1
       have e2:x.row.length=d:=h8.2.1
       exact ⟨by omega,by omega⟩
     have hck:=fun W (hW:Fr wr W)=>Qj aN aA cN cA r N A W (hG1.out.fr (hfw.trans hW)) (hnt.fr hW) hfit (by omega) (by omega) (by
      by_cases h0:d=0
      ·right
       have h1:=hva0.out h0
       injection h1 with h1 _ h3; exact ⟨h1,h3⟩
      ·left; omega) (fun _ a9 c9 W' hW' hm9=>by rw [← hdl]; exact hrk a9 c9 W' (hG1.out.fr ((hfw.trans hW).trans hW')) hm9)
     obtain ⟨E,hE⟩:∃ E,E=Cq N A r:=⟨_,rfl⟩
     rw [← hE,← hMl,← hdl] at hck
     replace hck:=hZ hck
     have n0:=hcn.out.a
     have n1:=hcn.out.b
     have hcr:=(hcr0.out.fx hfx0 hrn).fx hfx hrn
     have hsyA9:=hZ hsy.out
     have hsyN8:=hZ hsyN9
     have hrN:=hZ (fun W (hW:Fr wr W)=>hcr.fr hW)
     have hwz:db+1 < wr.heap.size:=hcr.lt
     have hrw:Hid (w.heap.size≤db+1):=by have:=hdb.out; show _≤_; omega
     clear hsN hsA hnt hcr hfit hArow hpA hpN hrk hsyN9 hsy hba hcn
     replace hMl:=hZ hMl
     replace hdl:=hZ hdl
     replace hnA:=hZ hnA
     replace hbaA:=hZ hbaA
     replace hE:=hZ hE
     replace hr1:=hZ hr1
     replace hr2:=hZ hr2
     obtain ⟨wv,rfl⟩:∃ wv:World,wv=wr:=⟨_,rfl⟩
     have hEb:(E == 0)=decide (E=0):=rfl
     go_wp2_with fail
     go_region_held3 (fun w'=>w'.cell? ⟨nb,0,none⟩=some (.slice aN M cN)∧w'.cell? ⟨nb,1,none⟩=some (.slice aA d cA))
      (first | ((refine ⟨Fr.keep (w:=wv) ?_ n0,Fr.keep (w:=wv) ?_ n1⟩ <;> (repeat (with_reducible first | assumption | exact Fr.refl _ | refine Fr.drew ?_ | refine Fr.drewN ?_ _ | refine Fr.alloc ?_ _ | refine Fr.trans ?_ (by assumption)))); done) | (refine ⟨?_, ?_⟩ <;> assumption))
      (first | (go_at_call 22; (with_reducible refine (hck.out _ ?_).mono ?_); (repeat (with_reducible first | assumption | exact Fr.refl _ | refine Fr.drew ?_ | refine Fr.drewN ?_ _ | refine Fr.alloc ?_ _ | refine Fr.trans ?_ (by assumption))); rintro e w6 ⟨rfl,hf6⟩; have hf6w:Fr wv w6:=((Fr.refl wv).drew.trans hf6); have hR6:=hrN.out _ hf6w; have p1:=hR6.a; have p2:=hR6.b; have p3:=hR6.fa; have p4:=hR6.fb; have p5:=(hR6.set0 (.slice aN M cN)).b; have p6:=(hR6.set0 (.slice aN M cN)).fb; have hfx6:Fx (·=db+1) wv ((w6.setCell ⟨db+1,0,none⟩ (.slice aN M cN)).setCell ⟨db+1,1,none⟩ (.slice aA d cA)):=Fx.setCell (p:=(·=db+1)) (q:=⟨db+1,1,none⟩) (Fx.setCell (p:=(·=db+1)) (q:=⟨db+1,0,none⟩) (Fx.of_fr hf6w) (.inl rfl) _) (.inl rfl) _; have t0:=hfx6.keep n0 (fun e=>hrn (Eq.symm e)); have t1:=hfx6.keep n1 (fun e=>hrn (Eq.symm e)); replace hfx6:=hZ hfx6; replace hR6:=hZ hR6))
     have hR9:=(hR6.out.set0 (.slice aN M cN)).set1 (.slice aA d cA)
     have hfxR:Fx (·=db+1) w6 ((w6.setCell ⟨db+1,0,none⟩ (.slice aN M cN)).setCell ⟨db+1,1,none⟩ (.slice aA d cA)):=Fx.setCell (p:=(·=db+1)) (q:=⟨db+1,1,none⟩) (Fx.setCell (p:=(·=db+1)) (q:=⟨db+1,0,none⟩) (Fx.refl _ w6) (.inl rfl) _) (.inl rfl) _
     have hnbw:=hnb.out
     have hsA9:=(hsyA9.out.fr hf6w).fx hfxR (fun q hq e=>by have e:q=db+1:=e; omega)
     have hsN9:=(hsyN8.out.fr hf6w).fx hfxR (fun q hq e=>by have e:q=db+1:=e; omega)
     obtain ⟨aN',cN',eN,hsN',-⟩:=hsN9.syms
     obtain ⟨aA',cA',eA,hsA',-⟩:=hsA9.syms
     injection eN with eN1 eN2 eN3
     injection eA with eA1 eA2 eA3
     subst eN1; subst eA1
     have hfrR:Fr w ((w6.setCell ⟨db+1,0,none⟩ (.slice aN M cN)).setCell ⟨db+1,1,none⟩ (.slice aA d cA)):=((hfw.trans hf6w).setCell (p:=⟨db+1,0,none⟩) hrw.out _).setCell (p:=⟨db+1,1,none⟩) hrw.out _
     have hfin:Xy w (Gq d L) (Hy d B) d (.returned (.tuple #[.agg #[.slice aN M cN,.slice aA d cA],.bool (decide (E=0))])) ((w6.setCell ⟨db+1,0,none⟩ (.slice aN M cN)).setCell ⟨db+1,1,none⟩ (.slice aA d cA)):=by
      refine ⟨N,A,aN,cN,aA,cA,r,decide (E=0),hbaN.out,by rw [hbaA.out]; exact hSA0.out,⟨hsN',hsA',hnA.out⟩,hfrR,by rw [hE.out],hr1.out, ?_,by rw [← hMl.out,← hdl.out]⟩
      intro hrd
      have:=hr2.out hrd
      rw [← Et,hbaA.out,hSA0.out] at this
      exact this
     replace hfin:=hZ hfin
     have u0:=hR9.a
     have u1:=hR9.b
     clear hR9 hfxR hnbw hsA9 hsN9 hsN' hsA' hfrR t0 t1 p1 p2 p3 p4 p5 p6 eN2 eN3 eA2 eA3
     go_wp2_with fail
     refine Ay (v:=.tuple #[.agg #[.slice aN M cN,.slice aA d cA],.bool (decide (E=0))]) (by simp [results,Tryz.results7,go_sem,u0,u1]) rfl hfin.out
end Go.Proofs.YtkjemicelmabdaaGreatDoor
