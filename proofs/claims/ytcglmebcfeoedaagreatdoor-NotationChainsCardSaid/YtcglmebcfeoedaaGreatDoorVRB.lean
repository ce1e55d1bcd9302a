/- Contracts and laws: VRB. -/
import Derived.Test.YtcglmebcfeoedaaGreatDoorVRA
import Derived.Laws.AppendOwnNone

set_option maxRecDepth 100000
set_option maxHeartbeats 4000000
namespace Go.Proofs.YtcglmebcfeoedaaGreatDoor
open Go.RowKit Go.Lib
attribute [local go_sem ↓] AA AB
def KZ (m:Nat) (T:List UInt8) (out:List Int):Prop:=(T=[]∧out=Dc m)∨∃ m',T=decDigits m'∧out ++ Dc m'=Dc m
theorem KZ.step {m m':Nat} {out:List Int} (hb:out ++ Dc m'=Dc m):∃ (q r:Nat) (T1 T2:List UInt8),decDigits m'=T1 ++ T2∧T1.length=q∧T2.length=r∧1≤r∧r≤9∧(9 < q+r→r=9)∧(q+r≤9→q=0) ∧
 (∀ c,c ∈ T2→48≤c.toNat∧c.toNat≤57)∧A4 0 T2 < 1000000000∧KZ m T1 (out ++ [(A4 0 T2:Int)]):=by
 by_cases hbig:1000000000≤m'
 ·have h1:0 < m' / 1000000000:=by omega
  have h2:=LH 9 (m' % 1000000000)
  have h3:=CX.2 (GJ (m' / 1000000000))
  have hv:=ON 9 (m' % 1000000000) (by show _ < 1000000000; omega)
  refine ⟨_,9,decDigits (m' / 1000000000),GV 9 (m' % 1000000000),L7 hbig,rfl,h2,by omega,by omega,fun _=>rfl,fun h=>by omega,OO _ _,by rw [hv]; omega,.inr ⟨_,rfl, ?_⟩⟩
  rw [hv,← hb,Mb hbig,BF]; rfl
 ·have h9:=Lb 9 m' (by omega) (by show _ < 1000000000; omega)
  have h1:=CX.2 (GJ m')
  refine ⟨0,_,[],decDigits m',rfl,rfl,rfl,by omega,h9,fun h=>by omega,fun _=>rfl,B2 _,by rw [B1]; omega,.inl ⟨rfl, ?_⟩⟩
  rw [B1,← hb,HC (by omega)]
theorem Ns (T:List UInt8) (hT:∀ c,c ∈ T→48≤c.toNat∧c.toNat≤57) (hv:A4 0 T < 1000000000) (j:Nat) (hj:j < T.length):48≤(T[j]'hj).toNat∧(T[j]'hj).toNat≤57∧A4 0 (T.take (j+1))=10 * A4 0 (T.take j)+((T[j]'hj).toNat - 48)∧A4 0 (T.take j) < 1000000000:=by
 obtain ⟨h1,h2⟩:=hT _ (A8 hj)
 refine ⟨h1,h2, ?_, ?_⟩
 ·rw [DZ hj,DM,L6]
 ·have:=Nu (T.take j) (T.drop j) 0 (fun c hc=>hT c (Oi hc))
  rw [DI] at this
  omega
theorem Xf (T1 T2:List UInt8) (q:Nat) (h:T1.length=q):(tb (T1 ++ T2)).extract 0 q=tb T1:=by
 rw [Lq,← h,X1]; rfl
theorem Ws (u:Nat) (w:World) (hs:(tx (u:Int)).size≤1000000) :
 Calls Tryz.prog 240 #[.string (tx (u:Int))] w fun e w'=>∃ a' c',e=.returned (.slice a' (digs u).length c')∧El w' iv a' (digs u)∧(digs u).length≤c'∧Fr w w':=by
 obtain ⟨i0,hi,hz0,hz1,hz2⟩:=AQ DQ
 have h0:tx (u:Int)=tb (decDigits u):=by rw [Ju,BS (by omega),AW]
 rw [h0,EK] at hs
 rw [h0]
 obtain ⟨N,hN⟩:∃ N,N=(decDigits u).length:=⟨_,rfl⟩
 rw [← hN] at hs
 have hT0:Hid (KZ u (decDigits u) []):=.inr ⟨u,rfl,rfl⟩
 replace hN:=hZ hN
 clear h0
 go_enter Tryz.func240,Tryz.ntmps240
 go_wp2_with fail
 go_loopg [0,3] N (fun gk s0 s3 wr=>∃ (T:List UInt8) (out:List Int) (i:Nat),s0=.string (tb T)∧T.length≤gk∧i+T.length≤N∧Fr w wr∧Hid (wr.ownsRow w.heap.size 3 1 s3 i (out.map iv))∧Hid (out.length=i)∧Hid (KZ u T out))
 case atStart=>exact ⟨_,[],0,rfl,by rw [hN.out]; exact Ag _,by rw [hN.out]; omega,Fr.refl _,A6 _ _ _ _,rfl,hT0.out⟩
 case round=>
  clear hT0
  obtain ⟨T,out,i,rfl,hTk,hiT,hf,hown,hol,hTs⟩:=hrel
  obtain ⟨ko,rfl⟩:∃ ko:Nat,ko=gk:=⟨_,rfl⟩
  rcases hTs.out with ⟨rfl,hch⟩ | ⟨m',rfl,hch⟩
  ·subst hch
   have hsz:(tb []).size=0:=rfl
   have hown9:=hown.out
   rw [← hol.out] at hown9
   obtain ⟨a9,c9,rfl,he9,hc9,-⟩:=Ia hown9
   have htr:=hZ (Jk (Dc u) a9 c9 wr he9 (by rw [hol.out]; omega) hc9)
   have hq:Hid (Bu (Dc u)=digs u):=KP u
   have hE:=hZ (Hi he9)
   have hle:=(BO (Dc u)).2
   rw [hq.out] at htr hE hle
   clear hown9 he9
   go_wp2_with fail
   refine htr.out.mono ?_
   rintro e w3 ⟨rfl,hf3⟩
   go_wp2_with fail
   go_ret
   exact ⟨_,_,rfl,hE.out.fr hf3,by omega,hf.trans hf3⟩
  ·obtain ⟨q,r,T1,T2,hT,hq,hr,r1,r9,hb1,hb2,hd,hv,hTs2⟩:=KZ.step hch
   rw [hT,Ar,hq,hr] at hTk hiT
   rw [hT]
   have hSs:(tb (T1 ++ T2)).size=q+r:=by rw [EK,Ar,hq,hr]
   have hpre:=hZ (Xf T1 T2 q hq)
   have hdg:Hid (∀ (j:Nat),j < r→∃ c:UInt8,(∀ h:q+j < (tb (T1 ++ T2)).size,(tb (T1 ++ T2))[q+j]'h=c)∧48≤c.toNat∧c.toNat≤57∧A4 0 (T2.take (j+1))=10 * A4 0 (T2.take j)+(c.toNat - 48)∧A4 0 (T2.take j) < 1000000000):=fun j hj=>by
    obtain ⟨h1,h2,h3,h4⟩:=Ns T2 hd hv j (by omega)
    refine ⟨T2[j]'(by omega),fun h=>?_,h1,h2,h3,h4⟩
    exact (WO (T1 ++ T2) (q+j) h (by rw [Ar]; omega)).trans (by rw [List.getElem_append_right (by omega)]; simp [hq])
   have hdv:Hid (A4 0 (T2.take r) < 1000000000):=by show _ < _; rw [Ak (by omega)]; exact hv
   have hTs:Hid (KZ u T1 (out ++ [(A4 0 (T2.take r):Int)])):=by show KZ _ _ _; rw [Ak (by omega)]; exact hTs2
   have hTsz:=hZ (show (tb T1).size=q by rw [EK,hq])
   generalize tb (T1 ++ T2)=S at *
   have z0:decide ((0:Int) < (S.size:Int))=true:=Ac (by omega)
   replace hq:=hZ hq
   replace hr:=hZ hr
   replace hd:=hZ hd
   replace hv:=hZ hv
   replace hTs2:=hZ hTs2
   replace hT:=hZ hT
   clear hch
   by_cases hbig:9 < q+r
   ·have hr9:=hb1 hbig
    have z1:decide ((9:Int) < (S.size:Int))=true:=Ac (by omega)
    have hw1:IntKind.i64.wrap ((S.size:Int) - 9)=(q:Int):=by rw [show (S.size:Int) - 9=(q:Int) by omega]; exact Al _ (by omega)
    clear hb1 hb2
    go_wp2_with fail
    go_loopg [5,6] r (fun k s5 s6 wr2=>∃ j:Nat,s6=.int .i64 ((q:Int)+(j:Int))∧s5=.int .i64 (A4 0 (T2.take j):Nat)∧j+k=r∧wr2=wr)
    case atStart=>exact ⟨0,congrArg (Value.int IntKind.i64) (by first | omega | (have:=hq0.out; omega)),rfl,by omega,rfl⟩
    case round=>
     obtain ⟨j,rfl,rfl,hjk,rfl⟩:=hrel
     by_cases hj:j < r
     ·obtain ⟨c,hc,hc1,hc2,hcv,hcb⟩:=hdg.out j hj
      have dj:decide ((q:Int)+(j:Int) < (S.size:Int))=true:=Ac (by omega)
      have y0:(0:Int)≤(q:Int)+(j:Int):=by omega
      have y1:(q:Int)+(j:Int) < (S.size:Int):=by omega
      have y2:((q:Int)+(j:Int)).toNat=q+j:=by omega
      have hu:IntKind.u8.wrap ((c.toNat:Int) - 48)=(c.toNat:Int) - 48:=PT _ (by omega)
      have hu2:(c.toNat:Int) - 48=((c.toNat - 48:Nat):Int):=by omega
      generalize A4 0 (T2.take j)=V at *
      have hw9:IntKind.i64.wrap (10 * (V:Int))=10 * (V:Int):=Al _ (by omega)
      go_wp2_with fail
      go_roundg (gk - 1)
      case measure=>omega
      case rel=>exact ⟨j+1,by go_num,by rw [hcv]; exact congrArg (Value.int IntKind.i64) (by omega),by omega,rfl⟩
     ·obtain rfl:j=r:=by omega
      have dj:decide ((q:Int)+(j:Int) < (S.size:Int))=false:=Aa (by omega)
      have hV9:=hdv.out
      generalize A4 0 (T2.take j)=V at *
      have hownG:=hown.out
      go_wp2_with (at_builtin; refine At _ rfl _ _ 43 (by rfl) _ 3 _ _ 1 8 Tryz.underlying43 hi hz0 hz1 hz2 rfl (by decide) _ i _ (by rfl) (Au hownG _) ⟨wr.heap.size,0,none⟩ 1 1 [.int .i64 V] (by rfl) rfl (AF _ _ _ _ (by simp)) (by simp [Value.oneCell']) (by decide) (by unfold maxLen; omega) (by omega) (by have:=hf.size; simp; omega) (wr.heap.size+1) (by simp) ?_; intro gA capA wA hownA hgrowA hatA hltA)
      go_wp2_with fail
      go_roundg (ko - 1)
      case measure=>omega
      case rel=>exact ⟨T1,out ++ [(V:Int)],i+1,(by rw [hpre.out]),by have:=hq.out; omega,by have:=hq.out; omega,(hf.alloc _).grown hgrowA (fun k e=>(hown.out.lt k e).1),by show World.ownsRow _ _ _ _ _ _ _; rw [Aw]; exact hownA,by show _=_; rw [Ar,hol.out]; rfl,hTs.out⟩
   ·have hq0:=hb2 (by omega)
    have hpre0:Hid (tb T1=ByteArray.empty):=by show _=_; rw [AD (hq.out.trans hq0)]; rfl
    replace hq0:=hZ hq0
    have z1:decide ((9:Int) < (S.size:Int))=false:=Aa (by omega)
    clear hb1 hb2
    go_wp2_with fail
    go_loopg [5,6] r (fun k s5 s6 wr2=>∃ j:Nat,s6=.int .i64 ((q:Int)+(j:Int))∧s5=.int .i64 (A4 0 (T2.take j):Nat)∧j+k=r∧wr2=wr)
    case atStart=>exact ⟨0,congrArg (Value.int IntKind.i64) (by first | omega | (have:=hq0.out; omega)),rfl,by omega,rfl⟩
    case round=>
     obtain ⟨j,rfl,rfl,hjk,rfl⟩:=hrel
     by_cases hj:j < r
     ·obtain ⟨c,hc,hc1,hc2,hcv,hcb⟩:=hdg.out j hj
      have dj:decide ((q:Int)+(j:Int) < (S.size:Int))=true:=Ac (by omega)
      have y0:(0:Int)≤(q:Int)+(j:Int):=by omega
      have y1:(q:Int)+(j:Int) < (S.size:Int):=by omega
      have y2:((q:Int)+(j:Int)).toNat=q+j:=by omega
      have hu:IntKind.u8.wrap ((c.toNat:Int) - 48)=(c.toNat:Int) - 48:=PT _ (by omega)
      have hu2:(c.toNat:Int) - 48=((c.toNat - 48:Nat):Int):=by omega
      generalize A4 0 (T2.take j)=V at *
      have hw9:IntKind.i64.wrap (10 * (V:Int))=10 * (V:Int):=Al _ (by omega)
      go_wp2_with fail
      go_roundg (gk - 1)
      case measure=>omega
      case rel=>exact ⟨j+1,by go_num,by rw [hcv]; exact congrArg (Value.int IntKind.i64) (by omega),by omega,rfl⟩
     ·obtain rfl:j=r:=by omega
      have dj:decide ((q:Int)+(j:Int) < (S.size:Int))=false:=Aa (by omega)
      have hV9:=hdv.out
      generalize A4 0 (T2.take j)=V at *
      have hownG:=hown.out
      go_wp2_with (at_builtin; refine At _ rfl _ _ 43 (by rfl) _ 3 _ _ 1 8 Tryz.underlying43 hi hz0 hz1 hz2 rfl (by decide) _ i _ (by rfl) (Au hownG _) ⟨wr.heap.size,0,none⟩ 1 1 [.int .i64 V] (by rfl) rfl (AF _ _ _ _ (by simp)) (by simp [Value.oneCell']) (by decide) (by unfold maxLen; omega) (by omega) (by have:=hf.size; simp; omega) (wr.heap.size+1) (by simp) ?_; intro gA capA wA hownA hgrowA hatA hltA)
      go_wp2_with fail
      go_roundg (ko - 1)
      case measure=>omega
      case rel=>exact ⟨T1,out ++ [(V:Int)],i+1,(by rw [hpre0.out]),by have:=hq.out; omega,by have:=hq.out; omega,(hf.alloc _).grown hgrowA (fun k e=>(hown.out.lt k e).1),by show World.ownsRow _ _ _ _ _ _ _; rw [Aw]; exact hownA,by show _=_; rw [Ar,hol.out]; rfl,hTs.out⟩
theorem RB (u:Nat):∀ i,0 < u / 1000000000 ^ i→(decDigits (u / 1000000000 ^ i)).length+9 * i=(decDigits u).length
 | 0,_=>by simp
 | i+1,h=>by
   have e:u / 1000000000 ^ (i+1)=u / 1000000000 ^ i / 1000000000:=by rw [Bj,BC]
   rw [e] at h ⊢
   have ih:=RB u i (by omega)
   have hb:1000000000≤u / 1000000000 ^ i:=by omega
   rw [L7 hb,Ar,LH] at ih
   omega
theorem TU (u i:Nat) (h:0 < u / 1000000000 ^ (i+1)):tb (decDigits (u / 1000000000 ^ (i+1)) ++ GV 9 (u / 1000000000 ^ i % 1000000000))=tx ((u / 1000000000 ^ i:Nat):Int):=by
 have e:u / 1000000000 ^ (i+1)=u / 1000000000 ^ i / 1000000000:=by rw [Bj,BC]
 rw [e] at h ⊢
 generalize u / 1000000000 ^ i=v at *
 rw [Ju,BS (Af _),AW,L7 (m:=v) (by omega)]
theorem Ih {u i:Nat} {d:Int} (h:(digs u)[i]?=some d):0 < u / 1000000000 ^ i∧d=((u / 1000000000 ^ i % 1000000000:Nat):Int):=by
 have h1:=Fb i u
 have h2:=CK h
 rw [h1] at h2
 by_cases h0:u / 1000000000 ^ i=0
 ·rw [h0,Bq] at h2; cases h2
 ·have hp:=QR h0
  rw [B6 hp] at h2
  injection h2 with h2
  exact ⟨hp,h2.symm⟩
theorem XS (u:Nat) (a:Option Addr) (cap:Nat) (w:World) (hG:G w) (hel:El w iv a (digs u)) (hs:(tx (u:Int)).size≤10000000) (hl:(digs u).length≤10000000) :
 Calls Tryz.prog 285 #[.slice a (digs u).length cap] w fun e w'=>e=.returned (.string (tx (u:Int)))∧Fr w w':=by
 by_cases hu:u=0
 ·subst hu
  have e0:digs 0=[]:=Bq
  have e1:tx ((0:Nat):Int)=⟨#[48]⟩:=Ix
  rw [e0,e1]
  go_enter Tryz.func285,Tryz.ntmps285
  go_wp2_with fail
  go_ret
  exact ⟨rfl,Fr.refl _⟩
 ·have htu:tx (u:Int)=tb (decDigits u):=by rw [Ju,BS (by omega),AW]
  rw [htu,EK] at hs
  have hq:=hZ (fun i h=>RB u i h)
  have hstep:=hZ (fun i h=>TU u i h)
  have hget:=hZ (fun i d (h:(digs u)[i]?=some d)=>Ih h)
  have hend:Hid (∀ i,i+1=(digs u).length→u / 1000000000 ^ i < 1000000000):=fun i hi=>by
   have h1:=Fb (i+1) u
   rw [AL (by omega)] at h1
   have h2:=DL.1 h1.symm
   rw [Bj,← BC] at h2
   omega
  have hp:0 < (digs u).length:=CX.2 (fun e=>hu (DL.1 e))
  have hf0:Hid (u / 1000000000 ^ 0=u):=by show _=_; simp
  obtain ⟨N,hN⟩:∃ N,N=(decDigits u).length:=⟨_,rfl⟩
  rw [← hN] at hs hq
  generalize hxs:digs u=xs at *
  obtain ⟨n,hn⟩:∃ n,n=xs.length:=⟨_,rfl⟩
  rw [← hn] at hl hp hend ⊢
  have hGf:=hZ (fun W (hW:Fr w W)=>hG.fr hW)
  obtain ⟨k0,hk0⟩:∃ k0,n=k0+1:=⟨n - 1,by omega⟩
  obtain ⟨b,o,d,rfl,-,hdk,hdc⟩:=hel.at (i:=k0) (by omega)
  obtain ⟨hd1,hd2⟩:=hget.out k0 d hdk
  have hd3:=hend.out k0 hk0.symm
  rw [CN hd3] at hd2
  have hit:=hZ (fun W (hW:Fr w W)=>FC d (by omega) (by omega) W (hGf.out _ hW))
  have e0:((n:Int) == 0)=false:=Ay (by omega)
  have z0:(0:Int)≤(k0:Int):=by omega
  have z1:(k0:Int) < (n:Int):=by omega
  have hw1:IntKind.i64.wrap ((n:Int) - 1)=(k0:Int):=by rw [show (n:Int) - 1=(k0:Int) by omega]; exact Al _ (by omega)
  have hw2:IntKind.i64.wrap ((n:Int) - 2)=(k0:Int) - 1:=by rw [show (n:Int) - 2=(k0:Int) - 1 by omega]; exact Al _ (by omega)
  replace hn:=hZ hn
  replace hxs:=hZ hxs
  replace htu:=hZ htu
  replace hdk:=hZ hdk
  replace hd2:=hZ hd2
  replace hN:=hZ hN
  replace hel:=hZ hel
  replace hk0:=hZ hk0
  clear hG hu
  go_enter Tryz.func285,Tryz.ntmps285
  go_wp2_with fail
  refine (hit.out _ (Fr.refl _)).mono ?_
  rintro e w1 ⟨rfl,hf1⟩
  rw [hd2.out]
  go_wp2_with fail
  go_loopg [3,4] k0 (fun gk s3 s4 wr=>∃ i:Int,s4=.int .i64 i∧i+1=gk∧gk≤k0∧s3=.string (tx ((u / 1000000000 ^ gk:Nat):Int))∧Fr w wr∧Hid (0 < u / 1000000000 ^ gk))
  case atStart=>exact ⟨_,rfl,by omega,Ag _,rfl,hf1,hd1⟩
  case round=>
   obtain ⟨i,rfl,hik,hgn,rfl,hf,hpos⟩:=hrel
   by_cases h0:gk=0
   ·subst h0
    obtain rfl:i=-1:=by omega
    have hf1:=hf0.out
    generalize u / 1000000000 ^ 0=v at *
    subst hf1
    go_wp2_with fail
    go_ret
    exact ⟨rfl,hf⟩
   ·obtain ⟨k,rfl⟩:∃ k,gk=k+1:=⟨gk - 1,by omega⟩
    obtain rfl:i=(k:Int):=by omega
    obtain ⟨b',o',c,hae,-,hck,hcc⟩:=(hel.out.fr hf).at (i:=k) (by have:=hn.out; have:=hk0.out; omega)
    injection hae with hae; injection hae with hb9 ho9
    subst hb9; subst ho9
    obtain ⟨hc1,hc2⟩:=hget.out k c hck
    have hst:=hstep.out k hpos.out
    have hsz:=hq.out (k+1) hpos.out
    have hpos2:=hZ hc1
    obtain ⟨dg,hdg⟩:∃ dg,dg=u / 1000000000 ^ k % 1000000000:=⟨_,rfl⟩
    have hdl:dg < 1000000000:=by omega
    rw [← hdg] at hst hc2
    have hpl:=Lb 9 dg (by omega) (by show _ < 1000000000; exact hdl)
    have hpr:=LG 9 dg (by omega) (by show _ < 1000000000; exact hdl)
    have hit:=hZ (fun W (hW:Fr w W)=>FC (dg:Int) (by omega) (by omega) W (hGf.out _ hW))
    subst hc2
    have htd:tx (dg:Int)=tb (List.replicate 0 48 ++ decDigits dg):=by rw [Ju,BS (by omega),AW]; rfl
    have hts:tx ((u / 1000000000 ^ (k+1):Nat):Int)=tb (decDigits (u / 1000000000 ^ (k+1))):=by rw [Ju,BS (Af _),AW]
    rw [hts]
    obtain ⟨A9,hA9⟩:∃ A9,A9=decDigits (u / 1000000000 ^ (k+1)):=⟨_,rfl⟩
    rw [← hA9] at hst hsz ⊢
    obtain ⟨D9,hD9⟩:∃ D9,D9=decDigits dg:=⟨_,rfl⟩
    rw [← hD9] at hpl hpr htd
    have y0:(0:Int)≤(k:Int):=by omega
    have y1:(k:Int) < (n:Int):=by have:=hk0.out; omega
    have hAs:(tb A9).size=A9.length:=EK A9
    replace hst:=hZ hst
    replace hpr:=hZ hpr
    replace hA9:=hZ hA9
    replace hD9:=hZ hD9
    replace hdg:=hZ hdg
    replace hts:=hZ hts
    replace htd:=hZ htd
    replace hck:=hZ hck
    obtain ⟨ko,rfl⟩:∃ ko:Nat,ko=k:=⟨_,rfl⟩
    go_wp2_with fail
    refine (hit.out _ hf).mono ?_
    rintro e w2 ⟨rfl,hf2⟩
    rw [htd.out]
    go_wp2_with fail
    go_loopg [5] (9 - D9.length) (fun gk s5 wr2=>∃ j:Nat,s5=.string (tb (List.replicate j 48 ++ D9))∧j+D9.length+gk=9∧wr2=w2)
    case atStart=>exact ⟨0,rfl,by omega,rfl⟩
    case round=>
     obtain ⟨j,rfl,hjk,rfl⟩:=hrel
     have hSz:(tb (List.replicate j 48 ++ D9)).size=j+D9.length:=by rw [EK,Ar,AH]
     by_cases hj:gk=0
     ·subst hj
      have dj:decide (((tb (List.replicate j 48 ++ D9)).size:Int) < 9)=false:=Aa (by omega)
      have hfin:Hid (tb A9 ++ tb (List.replicate j 48 ++ D9)=tx ((u / 1000000000 ^ ko:Nat):Int)):=by
       show _=_
       rw [← hst.out,hpr.out,TC,show 9 - D9.length=j by omega]
      generalize tb (List.replicate j 48 ++ D9)=S at *
      have v1:¬ (9223372036854775807 < (tb A9).size+S.size):=by omega
      go_wp2_with fail
      go_roundg ko
      case measure=>omega
      case rel=>exact ⟨_,rfl,by omega,by omega,by rw [hfin.out],hf.trans hf2,hpos2⟩
     ·have dj:decide (((tb (List.replicate j 48 ++ D9)).size:Int) < 9)=true:=Ac (by omega)
      have hfin:Hid ((⟨#[48]⟩:ByteArray) ++ tb (List.replicate j 48 ++ D9)=tb (List.replicate (j+1) 48 ++ D9)):=by
       show _=_
       have e:(⟨#[48]⟩:ByteArray)=tb [48]:=rfl
       rw [e,TC]; rfl
      have hSe:Hid (∀ T,T=tb (List.replicate j 48 ++ D9)→(⟨#[48]⟩:ByteArray) ++ T=tb (List.replicate (j+1) 48 ++ D9)):=fun T hT=>by rw [hT]; exact hfin.out
      generalize tb (List.replicate j 48 ++ D9)=S at *
      have v1:¬ (9223372036854775807 < 1+S.size):=by omega
      have v2:¬ (9223372036854775807 < (⟨#[48]⟩:ByteArray).size+S.size):=by show ¬ (9223372036854775807 < 1+S.size); omega
      go_wp2_with fail
      go_roundg (gk - 1)
      case measure=>omega
      case rel=>exact ⟨j+1,by rw [hfin.out],by omega,rfl⟩
def Hl (neg:Bool) (u:Nat):Int:=if neg then -(u:Int) else (u:Int)
theorem Ha (neg:Bool) (u:Nat) (l:List Int) (hlu:Bu l=digs u) (a:Option Addr) (cap:Nat) (w:World) (hG:G w) (hel:El w iv a l) (hs:(tx (u:Int)).size≤10000000) (hl:l.length≤4000000) (hc:l.length≤cap) :
 Calls Tryz.prog 241 #[.bool neg,.slice a l.length cap] w fun e w'=>e=.returned (.string (tx (Hl neg u)))∧Fr w w':=by
 have ht:=hZ (fun W (hW:Fr w W)=>Jk l a cap W (hel.fr hW) hl hc)
 have hle:=(BO l).2
 have hE:=Hi hel
 rw [hlu] at ht hle hE
 have hj:=hZ (fun W (hW:Fr w W)=>XS u a cap W (hG.fr hW) (hE.fr hW) hs (by omega))
 have h0:(digs u).length=0 ↔ u=0:=by rw [Gl,DL]
 generalize digs u=xs at *
 obtain ⟨n,hn⟩:∃ n,n=xs.length:=⟨_,rfl⟩
 rw [← hn] at ht hj h0 hle
 replace hn:=hZ hn
 replace hE:=hZ hE
 replace hlu:=hZ hlu
 clear hG
 cases neg with
 | false=>
   have hfin:=hZ (show tx (Hl false u)=tx (u:Int) from rfl)
   clear h0
   go_enter Tryz.func241,Tryz.ntmps241
   go_wp2_with fail
   refine (ht.out _ (Fr.refl _)).mono ?_
   rintro e w1 ⟨rfl,hf1⟩
   go_wp2_with fail
   refine (hj.out _ hf1).mono ?_
   rintro e w2 ⟨rfl,hf2⟩
   go_wp2_with fail
   go_ret
   exact ⟨by rw [hfin.out]; rfl,hf1.trans hf2⟩
 | true=>
   by_cases hu:u=0
   ·have hfin:=hZ (show tx (Hl true u)=tx (u:Int) by subst hu; rfl)
    have z0:decide (0 < n)=false:=Aa (by omega)
    have z1:decide ((0:Int) < (n:Int))=false:=Aa (by omega)
    replace hu:=hZ hu
    clear h0
    go_enter Tryz.func241,Tryz.ntmps241
    go_wp2_with fail
    refine (ht.out _ (Fr.refl _)).mono ?_
    rintro e w1 ⟨rfl,hf1⟩
    go_wp2_with fail
    refine (hj.out _ hf1).mono ?_
    rintro e w2 ⟨rfl,hf2⟩
    go_wp2_with fail
    go_ret
    exact ⟨by rw [hfin.out]; rfl,hf1.trans hf2⟩
   ·have hfin:=hZ (show (⟨#[45]⟩:ByteArray) ++ tx (u:Int)=tx (Hl true u) from NI (by omega))
    have z0:decide (0 < n)=true:=Ac (by omega)
    have z1:decide ((0:Int) < (n:Int))=true:=Ac (by omega)
    obtain ⟨S,hS⟩:∃ S,S=tx (u:Int):=⟨_,rfl⟩
    rw [← hS] at hs hj hfin
    have v1:¬ (9223372036854775807 < 1+S.size):=by omega
    have v2:¬ (9223372036854775807 < (⟨#[45]⟩:ByteArray).size+S.size):=by show ¬ (9223372036854775807 < 1+S.size); omega
    replace hu:=hZ hu
    replace hS:=hZ hS
    clear h0
    go_enter Tryz.func241,Tryz.ntmps241
    go_wp2_with fail
    refine (ht.out _ (Fr.refl _)).mono ?_
    rintro e w1 ⟨rfl,hf1⟩
    go_wp2_with fail
    refine (hj.out _ hf1).mono ?_
    rintro e w2 ⟨rfl,hf2⟩
    go_wp2_with fail
    go_ret
    exact ⟨by rw [← hfin.out]; rfl,hf1.trans hf2⟩
def Bn (k:Nat) (n:Int):Prop:=n.natAbs < 10 ^ k
theorem Bn.mono {j k:Nat} {n:Int} (h:Bn j n) (hk:j≤k):Bn k n:=An h (BW (by decide) hk)
theorem Bn.size {k:Nat} {n:Int} (h:Bn k n):(tx (n.natAbs:Int)).size≤k+1:=by
 rw [DB,BS (Af _),AW]
 exact Lb (k+1) n.natAbs (by omega) (Bn.mono h (by omega))
theorem Bn.size2 {k:Nat} {n:Int} (h:Bn k n):(tx n).size≤k+2:=by
 have h1:=h.size
 rw [DB,BS (Af _),AW] at h1
 rw [DB]
 by_cases hn:n < 0
 ·rw [FP hn,A3]; omega
 ·rw [BS (by omega),show n.toNat=n.natAbs by omega]; omega
theorem Bn.digs {k:Nat} {n:Int} (h:Bn k n):(Go.Proofs.YtcglmebcfeoedaaGreatDoor.digs n.natAbs).length≤k:=by
 refine Ev k n.natAbs (An h ?_)
 exact Nat.pow_le_pow_left (by decide) k
theorem Bn.abs {k:Nat} {n:Int} (h:Bn k n):Bn k (n.natAbs:Int):=h
theorem Bn.neg {k:Nat} {n:Int} (h:Bn k n):Bn k (-n):=by unfold Bn at *; rw [Fm]; exact h
theorem Bn.add {k:Nat} {a b:Int} (ha:Bn k a) (hb:Bn k b):Bn (k+1) (a+b):=by
 unfold Bn at *
 have h1:=Int.natAbs_add_le a b
 rw [Bj]
 omega
theorem Bn.sub {k:Nat} {a b:Int} (ha:Bn k a) (hb:Bn k b):Bn (k+1) (a - b):=by
 rw [Int.sub_eq_add_neg]; exact ha.add hb.neg
theorem Bn.mul {j k:Nat} {a b:Int} (ha:Bn j a) (hb:Bn k b):Bn (j+k) (a * b):=by
 unfold Bn at *
 rw [BD,Gk]
 exact Vo ha hb
theorem E5 {n:Int} (h:(tx (n.natAbs:Int)).size≤18):RO n:=by
 rw [DB,BS (Af _),AW] at h
 have h1:=(CB (decDigits n.natAbs) 0 (B2 _)).2
 rw [B1,Az,Ex] at h1
 have h2:10 ^ (decDigits n.natAbs).length≤10 ^ 18:=BW (by decide) h
 have h3:n.natAbs < 1000000000000000000:=An h1 h2
 unfold RO
 omega
theorem UX (n:Int) (hn:¬ (tx (n.natAbs:Int)).size≤18) (w:World) (hs:(tx n).size≤1000000000) :
 Calls Tryz.prog 238 #[.string (tx n)] w fun e w'=>e=.returned (.tuple #[.int .i64 0,.bool false])∧w=w':=by
 have hd:=hZ (fun W=>Hc n W hs)
 generalize tx (n.natAbs:Int)=u at *
 have d0:decide ((18:Int) < (u.size:Int))=true:=Ac (by omega)
 go_enter Tryz.func238,Tryz.ntmps238
 go_wp2_with fail
 refine (hd.out _).mono ?_
 rintro e w1 ⟨rfl,rfl⟩
 go_wp2_with fail
 go_ret2
 exact ⟨rfl,rfl⟩
def sd (n:Int):Int:=if n < 0 then -1 else 1
theorem KA (n:Int) (w:World) :
 Calls Tryz.prog 242 #[.string (tx n)] w fun e w'=>e=.returned (.int .i64 (sd n))∧w=w':=by
 have hsg:=hZ (fun W=>U0 n W)
 by_cases h:n < 0
 ·have hfin:=hZ (show sd n=-1 by unfold sd; rw [Aj h])
  have d0:decide (n.sign < 0)=true:=Ac (by rw [Int.sign_eq_neg_one_of_neg h]; decide)
  generalize n.sign=s at *
  go_enter Tryz.func242,Tryz.ntmps242
  go_wp2_with fail
  refine (hsg.out _).mono ?_
  rintro e w1 ⟨rfl,rfl⟩
  go_wp2_with fail
  go_ret
  exact ⟨Bk hfin.out.symm,rfl⟩
 ·have hfin:=hZ (show sd n=1 by unfold sd; rw [Ai h])
  have d0:decide (n.sign < 0)=false:=Aa (by first | (rcases B7 n 0 with h9 | h9 | h9; exact absurd h9 h; (rw [h9]; decide); (rw [Int.sign_eq_one_of_pos h9]; decide)))
  generalize n.sign=s at *
  go_enter Tryz.func242,Tryz.ntmps242
  go_wp2_with fail
  refine (hsg.out _).mono ?_
  rintro e w1 ⟨rfl,rfl⟩
  go_wp2_with fail
  go_ret
  exact ⟨Bk hfin.out.symm,rfl⟩
theorem Gw (n:Int) (k:Nat) (hk:k≤100000) (h:Bn k n):∃ v b,(b=true→v=n∧RO n)∧(b=true∨b=false)∧Hid (∀ W,Calls Tryz.prog 238 #[.string (tx n)] W fun e w'=>e=.returned (.tuple #[.int .i64 v,.bool b])∧W=w'):=by
 have h2:=h.size2
 by_cases hn:(tx (n.natAbs:Int)).size≤18
 ·exact ⟨n,true,fun _=>⟨rfl,E5 hn⟩,.inl rfl,fun W=>Ff n (E5 hn) W⟩
 ·exact ⟨0,false,(fun e=>by cases e),.inr rfl,fun W=>UX n hn W (by omega)⟩
theorem Hb (n:Int) (k:Nat) (hk:k≤100000) (h:Bn k n):Hid (∀ W,Calls Tryz.prog 69 #[.string (tx n)] W fun e w'=>e=.returned (.string (tx (n.natAbs:Int)))∧W=w') ∧
 Hid (∀ W,Calls Tryz.prog 240 #[.string (tx (n.natAbs:Int))] W fun e w'=>∃ a' c',e=.returned (.slice a' (digs n.natAbs).length c')∧El w' iv a' (digs n.natAbs)∧(digs n.natAbs).length≤c'∧Fr W w'):=by
 have h1:=h.size
 have h2:=h.size2
 exact ⟨fun W=>Hc n W (by omega),fun W=>Ws n.natAbs W (by omega)⟩
theorem TL {a b:Int} (h:sd a=sd b):Hl (decide (sd a < 0)) (a.natAbs+b.natAbs)=a+b:=by
 unfold sd at *
 unfold Hl
 by_cases ha:a < 0
 ·rw [Aj ha] at h ⊢
  by_cases hb:b < 0
  ·rw [Aj (by decide)]; omega
  ·rw [Ai hb] at h; omega
 ·rw [Ai ha] at h ⊢
  by_cases hb:b < 0
  ·rw [Aj hb] at h; omega
  ·rw [Ai (by decide)]; omega
theorem OA {a b:Int} (h:¬ sd a=sd b) (hle:b.natAbs≤a.natAbs):Hl (decide (sd a < 0)) (a.natAbs - b.natAbs)=a+b:=by
 unfold sd at *
 unfold Hl
 by_cases ha:a < 0
 ·rw [Aj ha] at h ⊢
  by_cases hb:b < 0
  ·rw [Aj hb] at h; omega
  ·rw [Aj (by decide)]; omega
 ·rw [Ai ha] at h ⊢
  by_cases hb:b < 0
  ·rw [Ai (by decide)]; omega
  ·rw [Ai hb] at h; omega
theorem U2 (k:Nat) (hk:k≤90000) (a b:Int) (ha:Bn k a) (hb:Bn k b) (w:World) (hG:G w) :
 Calls Tryz.prog 243 #[.string (tx a),.string (tx b)] w fun e w'=>e=.returned (.string (tx (a+b)))∧Fr w w':=by
 obtain ⟨va,ba,ha1,ha2,hqa⟩:=Gw a k (by omega) ha
 obtain ⟨vb,bb,hb1,hb2,hqb⟩:=Gw b k (by omega) hb
 by_cases hboth:ba=true∧bb=true
 ·exact Wu a b (ha1 hboth.1).2 (hb1 hboth.2).2 w hG
 ·obtain ⟨hda,hsa⟩:=Hb a k (by omega) ha
  obtain ⟨hdb,hsb⟩:=Hb b k (by omega) hb
  have hna:=hZ (fun W=>KA a W)
  have hnb:=hZ (fun W=>KA b W)
  have hla:=ha.digs
  have hlb:=hb.digs
  have hsum:=(ha.add hb)
  have hpl:=hZ (fun W p q c d (h1:El W iv p (digs a.natAbs)) (h2:El W iv q (digs b.natAbs))=>XR (digs a.natAbs) (digs b.natAbs) p q c d W h1 h2 (BE _) (BE _) (by omega) (by omega))
  have hpd:C5 (digs a.natAbs) (digs b.natAbs) 0=digs (a.natAbs+b.natAbs):=by
   have:=Qa (a.natAbs+b.natAbs) a.natAbs b.natAbs 0 (Ag _) (by omega)
   simpa using this
  rw [hpd] at hpl
  have hor:=hZ (fun W p q c d (h1:El W iv p (digs a.natAbs)) (h2:El W iv q (digs b.natAbs))=>RQ a.natAbs b.natAbs p q c d W h1 h2 (by omega) (by omega))
  have hGf:=hZ (fun W (hW:Fr w W)=>hG.fr hW)
  by_cases hsd:sd a=sd b
  ·have hval:=TL hsd
   have hN:Bn (k+1) ((a.natAbs+b.natAbs:Nat):Int):=by
    show (((a.natAbs+b.natAbs:Nat):Int)).natAbs < _
    rw [AC]
    have e:((a.natAbs:Int)+(b.natAbs:Int)).natAbs=a.natAbs+b.natAbs:=by omega
    have:=Bn.add ha.abs hb.abs
    unfold Bn at this
    rw [e] at this; exact this
   have hNs:=hN.size
   have hNd:=hN.digs
   rw [AC] at hNs hNd
   have hsg:=hZ (fun W p c (hW:Fr w W) (h1:El W iv p (digs (a.natAbs+b.natAbs))) (h2:(digs (a.natAbs+b.natAbs)).length≤c)=>Ha (decide (sd a < 0)) (a.natAbs+b.natAbs) _ (EY _) p c W (hGf.out _ hW) h1 (by omega) (by omega) h2)
   rw [hval] at hsg
   have e0:(sd a == sd b)=true:=by rw [hsd]; exact FH _
   generalize digs a.natAbs=xa at *
   generalize digs b.natAbs=xb at *
   generalize digs (a.natAbs+b.natAbs)=xs at *
   generalize tx (a.natAbs:Int)=ta at *
   generalize tx (b.natAbs:Int)=tb' at *
   generalize tx (a+b)=ts at *
   generalize tx a=sa at *
   generalize tx b=sb' at *
   obtain ⟨za,hza⟩:∃ za,za=sd a:=⟨_,rfl⟩
   obtain ⟨zb,hzb⟩:∃ zb,zb=sd b:=⟨_,rfl⟩
   rw [← hza] at hna e0 hsg
   rw [← hzb] at hnb e0
   clear hG ha hb ha1 hb1 hpd hval hN hNs hNd hsum hsd hor hza hzb hla hlb
   go_enter Tryz.func243,Tryz.ntmps243
   go_wp2_with fail
   refine (hqa.out _).mono ?_; rintro e w1 ⟨rfl,rfl⟩
   go_wp2_with fail
   refine (hqb.out _).mono ?_; rintro e w1 ⟨rfl,rfl⟩
   rcases ha2 with rfl | rfl <;> rcases hb2 with rfl | rfl
   ·exact absurd ⟨rfl,rfl⟩ hboth
   all_goals
    clear hboth
    go_wp2_with fail
    refine (hda.out _).mono ?_; rintro e w1 ⟨rfl,rfl⟩
    go_wp2_with fail
    refine (hsa.out _).mono ?_; rintro e w1 ⟨pa,ca,rfl,hea,-,hf1⟩
    replace hea:=hZ hea
    go_wp2_with fail
    refine (hdb.out _).mono ?_; rintro e w2 ⟨rfl,rfl⟩
    go_wp2_with fail
    refine (hsb.out _).mono ?_; rintro e w2 ⟨pb,cb,rfl,heb,-,hf2⟩
    replace heb:=hZ heb
    go_wp2_with fail
    refine (hna.out _).mono ?_; rintro e w3 ⟨rfl,rfl⟩
    go_wp2_with fail
    refine (hnb.out _).mono ?_; rintro e w3 ⟨rfl,rfl⟩
    go_wp2_with fail
    refine (hna.out _).mono ?_; rintro e w3 ⟨rfl,rfl⟩
    go_wp2_with fail
    refine (hpl.out _ _ _ _ _ (hea.out.fr hf2) heb.out).mono ?_; rintro e w3 ⟨pc,cc,rfl,hec,hlc,hf3,-⟩
    replace hec:=hZ hec
    go_wp2_with fail
    refine (hsg.out _ _ _ ((hf1.trans hf2).trans hf3) hec.out hlc).mono ?_; rintro e w4 ⟨rfl,hf4⟩
    go_wp2_with fail
    go_ret
    exact ⟨rfl,((hf1.trans hf2).trans hf3).trans hf4⟩
  ·have e0:(sd a == sd b)=false:=Ay hsd
   have hmin:=hZ (fun W p q c d (h1:El W iv p (digs a.natAbs)) (h2:El W iv q (digs b.natAbs))=>Oa (digs a.natAbs) (digs b.natAbs) p q c d W h1 h2 (BE _) (BE _) (by omega) (by omega))
   have hmin2:=hZ (fun W p q c d (h1:El W iv p (digs b.natAbs)) (h2:El W iv q (digs a.natAbs))=>Oa (digs b.natAbs) (digs a.natAbs) p q c d W h1 h2 (BE _) (BE _) (by omega) (by omega))
   by_cases hle:b.natAbs≤a.natAbs
   ·have hval:=OA hsd hle
    have hmd:Bu (CU (digs a.natAbs) (digs b.natAbs) 0)=digs (a.natAbs - b.natAbs):=by
     have:=Ib a.natAbs b.natAbs 0 (by omega) (by omega)
     simpa using this
    rw [hmd] at hmin
    have hN:Bn k ((a.natAbs - b.natAbs:Nat):Int):=by
     unfold Bn at *
     rw [AC]; omega
    have hNs:=hN.size
    have hNd:=hN.digs
    rw [AC] at hNs hNd
    have hsg:=hZ (fun W p c (hW:Fr w W) (h1:El W iv p (digs (a.natAbs - b.natAbs))) (h2:(digs (a.natAbs - b.natAbs)).length≤c)=>Ha (decide (sd a < 0)) (a.natAbs - b.natAbs) _ (EY _) p c W (hGf.out _ hW) h1 (by omega) (by omega) h2)
    rw [hval] at hsg
    have e1:decide (0≤EA a.natAbs b.natAbs)=true:=Ac (by unfold EA; rw [Ai (by omega)]; split <;> decide)
    generalize EA a.natAbs b.natAbs=oc at *
    generalize digs (a.natAbs - b.natAbs)=xs at *
    generalize digs a.natAbs=xa at *
    generalize digs b.natAbs=xb at *
    generalize tx (a.natAbs:Int)=ta at *
    generalize tx (b.natAbs:Int)=tb' at *
    generalize tx (a+b)=ts at *
    generalize tx a=sa at *
    generalize tx b=sb' at *
    obtain ⟨za,hza⟩:∃ za,za=sd a:=⟨_,rfl⟩
    obtain ⟨zb,hzb⟩:∃ zb,zb=sd b:=⟨_,rfl⟩
    rw [← hza] at hna e0 hsg
    rw [← hzb] at hnb e0
    clear hG ha hb ha1 hb1 hpd hval hN hNs hNd hsum hsd hza hzb hla hlb hmd hmin2 hpl hle
    go_enter Tryz.func243,Tryz.ntmps243
    go_wp2_with fail
    refine (hqa.out _).mono ?_; rintro e w1 ⟨rfl,rfl⟩
    go_wp2_with fail
    refine (hqb.out _).mono ?_; rintro e w1 ⟨rfl,rfl⟩
    rcases ha2 with rfl | rfl <;> rcases hb2 with rfl | rfl
    ·exact absurd ⟨rfl,rfl⟩ hboth
    all_goals
     clear hboth
     go_wp2_with fail
     refine (hda.out _).mono ?_; rintro e w1 ⟨rfl,rfl⟩
     go_wp2_with fail
     refine (hsa.out _).mono ?_; rintro e w1 ⟨pa,ca,rfl,hea,-,hf1⟩
     replace hea:=hZ hea
     go_wp2_with fail
     refine (hdb.out _).mono ?_; rintro e w2 ⟨rfl,rfl⟩
     go_wp2_with fail
     refine (hsb.out _).mono ?_; rintro e w2 ⟨pb,cb,rfl,heb,-,hf2⟩
     replace heb:=hZ heb
     go_wp2_with fail
     refine (hna.out _).mono ?_; rintro e w3 ⟨rfl,rfl⟩
     go_wp2_with fail
     refine (hnb.out _).mono ?_; rintro e w3 ⟨rfl,rfl⟩
     go_wp2_with fail
     refine (hor.out _ _ _ _ _ (hea.out.fr hf2) heb.out).mono ?_; rintro e w3 ⟨rfl,hf3⟩
     go_wp2_with fail
     refine (hna.out _).mono ?_; rintro e w4 ⟨rfl,rfl⟩
     go_wp2_with fail
     refine (hmin.out _ _ _ _ _ (hea.out.fr (hf2.trans hf3)) (heb.out.fr hf3)).mono ?_; rintro e w4 ⟨pc,cc,rfl,hec,hlc,hf4,-⟩
     replace hec:=hZ hec
     go_wp2_with fail
     refine (hsg.out _ _ _ (((hf1.trans hf2).trans hf3).trans hf4) hec.out hlc).mono ?_; rintro e w5 ⟨rfl,hf5⟩
     go_wp2_with fail
     go_ret
     exact ⟨rfl,(((hf1.trans hf2).trans hf3).trans hf4).trans hf5⟩
   ·have hval:Hl (decide (sd b < 0)) (b.natAbs - a.natAbs)=a+b:=by rw [OA (fun e=>hsd e.symm) (by omega)]; omega
    have hmd:Bu (CU (digs b.natAbs) (digs a.natAbs) 0)=digs (b.natAbs - a.natAbs):=by
     have:=Ib b.natAbs a.natAbs 0 (by omega) (by omega)
     simpa using this
    rw [hmd] at hmin2
    have hN:Bn k ((b.natAbs - a.natAbs:Nat):Int):=by
     unfold Bn at *
     rw [AC]; omega
    have hNs:=hN.size
    have hNd:=hN.digs
    rw [AC] at hNs hNd
    have hsg:=hZ (fun W p c (hW:Fr w W) (h1:El W iv p (digs (b.natAbs - a.natAbs))) (h2:(digs (b.natAbs - a.natAbs)).length≤c)=>Ha (decide (sd b < 0)) (b.natAbs - a.natAbs) _ (EY _) p c W (hGf.out _ hW) h1 (by omega) (by omega) h2)
    rw [hval] at hsg
    have e1:decide (0≤EA a.natAbs b.natAbs)=false:=Aa (by unfold EA; rw [Aj (by omega)]; decide)
    generalize EA a.natAbs b.natAbs=oc at *
    generalize digs (b.natAbs - a.natAbs)=xs at *
    generalize digs a.natAbs=xa at *
    generalize digs b.natAbs=xb at *
    generalize tx (a.natAbs:Int)=ta at *
    generalize tx (b.natAbs:Int)=tb' at *
    generalize tx (a+b)=ts at *
    generalize tx a=sa at *
    generalize tx b=sb' at *
    obtain ⟨za,hza⟩:∃ za,za=sd a:=⟨_,rfl⟩
    obtain ⟨zb,hzb⟩:∃ zb,zb=sd b:=⟨_,rfl⟩
    rw [← hza] at hna e0
    rw [← hzb] at hnb e0 hsg
    clear hG ha hb ha1 hb1 hpd hval hN hNs hNd hsum hsd hza hzb hla hlb hmd hmin hpl hle
    go_enter Tryz.func243,Tryz.ntmps243
    go_wp2_with fail
    refine (hqa.out _).mono ?_; rintro e w1 ⟨rfl,rfl⟩
    go_wp2_with fail
    refine (hqb.out _).mono ?_; rintro e w1 ⟨rfl,rfl⟩
    rcases ha2 with rfl | rfl <;> rcases hb2 with rfl | rfl
    ·exact absurd ⟨rfl,rfl⟩ hboth
    all_goals
     clear hboth
     go_wp2_with fail
     refine (hda.out _).mono ?_; rintro e w1 ⟨rfl,rfl⟩
     go_wp2_with fail
     refine (hsa.out _).mono ?_; rintro e w1 ⟨pa,ca,rfl,hea,-,hf1⟩
     replace hea:=hZ hea
     go_wp2_with fail
     refine (hdb.out _).mono ?_; rintro e w2 ⟨rfl,rfl⟩
     go_wp2_with fail
     refine (hsb.out _).mono ?_; rintro e w2 ⟨pb,cb,rfl,heb,-,hf2⟩
     replace heb:=hZ heb
     go_wp2_with fail
     refine (hna.out _).mono ?_; rintro e w3 ⟨rfl,rfl⟩
     go_wp2_with fail
     refine (hnb.out _).mono ?_; rintro e w3 ⟨rfl,rfl⟩
     go_wp2_with fail
     refine (hor.out _ _ _ _ _ (hea.out.fr hf2) heb.out).mono ?_; rintro e w3 ⟨rfl,hf3⟩
     go_wp2_with fail
     refine (hnb.out _).mono ?_; rintro e w4 ⟨rfl,rfl⟩
     go_wp2_with fail
     refine (hmin2.out _ _ _ _ _ (heb.out.fr hf3) (hea.out.fr (hf2.trans hf3))).mono ?_; rintro e w4 ⟨pc,cc,rfl,hec,hlc,hf4,-⟩
     replace hec:=hZ hec
     go_wp2_with fail
     refine (hsg.out _ _ _ (((hf1.trans hf2).trans hf3).trans hf4) hec.out hlc).mono ?_; rintro e w5 ⟨rfl,hf5⟩
     go_wp2_with fail
     go_ret
     exact ⟨rfl,(((hf1.trans hf2).trans hf3).trans hf4).trans hf5⟩
theorem UZ (k:Nat) (hk:k≤90000) (a b:Int) (ha:Bn k a) (hb:Bn k b) (w:World) (hG:G w) :
 Calls Tryz.prog 196 #[.string (tx a),.string (tx b)] w fun e w'=>e=.returned (.string (tx (a - b)))∧Fr w w':=by
 have sb:=hb.size2
 go_enter Tryz.func196,Tryz.ntmps196
 go_wp2_with fail
 refine (WT b _ (by omega)).mono ?_; rintro e w1 ⟨rfl,rfl⟩
 go_wp2_with fail
 refine (U2 k hk a (-b) ha hb.neg _ hG).mono ?_; rintro e w3 ⟨rfl,hf3⟩
 go_wp2_with fail
 go_ret
 exact ⟨rfl,hf3⟩
theorem OB (a b:Int):Hl (sd a != sd b) (a.natAbs * b.natAbs)=a * b:=by
 unfold Hl sd
 have h:=BD a b
 by_cases ha:a < 0
 ·rw [Aj ha]
  by_cases hb:b < 0
  ·rw [Aj hb,Ai (by decide),← h]
   have:=Int.mul_pos_of_neg_of_neg ha hb
   omega
  ·rw [Ai hb,Aj (by decide),← h]
   have:a * b≤0:=QU (by omega) (by omega)
   omega
 ·rw [Ai ha]
  by_cases hb:b < 0
  ·rw [Aj hb,Aj (by decide),← h]
   have:a * b≤0:=QV (by omega) (by omega)
   omega
  ·rw [Ai hb,Ai (by decide),← h]
   have:0≤a * b:=Cv (by omega) (by omega)
   omega
theorem Nh {a b:Int} (hs:(tx (a.natAbs:Int)).size+(tx (b.natAbs:Int)).size≤18):-9223372036854775808≤a * b∧a * b≤9223372036854775807:=by
 rw [DB,DB,BS (Af _),BS (Af _),AW,AW] at hs
 have h1:=(CB (decDigits a.natAbs) 0 (B2 _)).2
 have h2:=(CB (decDigits b.natAbs) 0 (B2 _)).2
 rw [B1,Az,Ex] at h1 h2
 have h3:(a * b).natAbs < 10 ^ ((decDigits a.natAbs).length+(decDigits b.natAbs).length):=by
  rw [BD,Gk]; exact Vo h1 h2
 have h4:10 ^ ((decDigits a.natAbs).length+(decDigits b.natAbs).length)≤10 ^ 18:=BW (by decide) hs
 have h5:(a * b).natAbs < 1000000000000000000:=An h3 h4
 generalize a * b=c at *
 omega
theorem U1 (j k:Nat) (hj:j≤40000) (hk:k≤40000) (a b:Int) (ha:Bn j a) (hb:Bn k b) (w:World) (hG:G w) :
 Calls Tryz.prog 197 #[.string (tx a),.string (tx b)] w fun e w'=>e=.returned (.string (tx (a * b)))∧Fr w w':=by
 by_cases hs:(tx (a.natAbs:Int)).size+(tx (b.natAbs:Int)).size≤18
 ·obtain ⟨m1,m2⟩:=Nh hs
  exact Wt a b (E5 (by omega)) (E5 (by omega)) hs m1 m2 w hG
 ·obtain ⟨hda,hsa⟩:=Hb a j (by omega) ha
  obtain ⟨hdb,hsb⟩:=Hb b k (by omega) hb
  have hna:=hZ (fun W=>KA a W)
  have hnb:=hZ (fun W=>KA b W)
  have hla:=ha.digs
  have hlb:=hb.digs
  have hta:=ha.size
  have htb:=hb.size
  have htm:=hZ (fun W p q c d (h1:El W iv p (digs a.natAbs)) (h2:El W iv q (digs b.natAbs))=>RP (digs a.natAbs) (digs b.natAbs) (a.natAbs * b.natAbs) (by rw [BZ,BZ]; exact (AU _ _).symm) p q c d W h1 h2 (BE _) (BE _) (by omega) (by omega))
  have hGf:=hZ (fun W (hW:Fr w W)=>hG.fr hW)
  have hval:=OB a b
  have hN:Bn (j+k) ((a.natAbs * b.natAbs:Nat):Int):=by
   have:=ha.mul hb
   unfold Bn at *
   rw [AC,← BD]; exact this
  have hNs:=hN.size
  have hNd:=hN.digs
  rw [AC] at hNs hNd
  have hsg:=hZ (fun W p c (hW:Fr w W) (h1:El W iv p (digs (a.natAbs * b.natAbs))) (h2:(digs (a.natAbs * b.natAbs)).length≤c)=>Ha (sd a != sd b) (a.natAbs * b.natAbs) _ (EY _) p c W (hGf.out _ hW) h1 (by omega) (by omega) h2)
  rw [hval] at hsg
  generalize a.natAbs * b.natAbs=ab at *
  generalize digs ab=xs at *
  generalize digs a.natAbs=xa at *
  generalize digs b.natAbs=xb at *
  generalize tx (a.natAbs:Int)=ta at *
  generalize tx (b.natAbs:Int)=tb' at *
  generalize tx (a * b)=ts at *
  generalize tx a=sa at *
  generalize tx b=sb' at *
  generalize sd a=za at *
  generalize sd b=zb at *
  have d0:decide ((ta.size:Int)+(tb'.size:Int)≤18)=false:=Aa (by omega)
  clear hG ha hb hval hN hNs hNd hla hlb
  go_enter Tryz.func197,Tryz.ntmps197
  go_wp2_with fail
  refine (hda.out _).mono ?_; rintro e w1 ⟨rfl,rfl⟩
  go_wp2_with fail
  refine (hdb.out _).mono ?_; rintro e w1 ⟨rfl,rfl⟩
  go_wp2_with fail
  refine (hna.out _).mono ?_; rintro e w1 ⟨rfl,rfl⟩
  go_wp2_with fail
  refine (hnb.out _).mono ?_; rintro e w1 ⟨rfl,rfl⟩
  go_wp2_with fail
  refine (hda.out _).mono ?_; rintro e w1 ⟨rfl,rfl⟩
  go_wp2_with fail
  refine (hsa.out _).mono ?_; rintro e w1 ⟨pa,ca,rfl,hea,-,hf1⟩
  replace hea:=hZ hea
  go_wp2_with fail
  refine (hdb.out _).mono ?_; rintro e w2 ⟨rfl,rfl⟩
  go_wp2_with fail
  refine (hsb.out _).mono ?_; rintro e w2 ⟨pb,cb,rfl,heb,-,hf2⟩
  replace heb:=hZ heb
  go_wp2_with fail
  refine (htm.out _ _ _ _ _ (hea.out.fr hf2) heb.out).mono ?_; rintro e w3 ⟨pc,cc,rfl,hec,hlc,hf3⟩
  replace hec:=hZ hec
  go_wp2_with fail
  refine (hsg.out _ _ _ ((hf1.trans hf2).trans hf3) hec.out hlc).mono ?_; rintro e w4 ⟨rfl,hf4⟩
  go_wp2_with fail
  go_ret
  exact ⟨rfl,((hf1.trans hf2).trans hf3).trans hf4⟩
structure HH (u v n k:Nat) (out:List Int):Prop where
 len:out.length=n
 dg:Dg out
 low:out.take k=List.replicate k 0
 vl:val (out.drop k)=((u / 1000000000 ^ k / v:Nat):Int)
theorem HH.start (u v:Nat):HH u v (digs u).length (digs u).length (List.replicate (digs u).length 0):=by
 refine ⟨AH,fun d hd=>?_, ?_, ?_⟩
 ·rw [CI hd]; omega
 ·rw [Ak (by rw [AH]; exact Ag _)]
 ·rw [AL (by rw [AH]; exact Ag _)]
  have h:=Fb (digs u).length u
  rw [Ep] at h
  rw [DL.1 h.symm,Nat.zero_div]; rfl
theorem HH.fin {u v n:Nat} {out:List Int} (h:HH u v n 0 out):Bu out=digs (u / v):=by
 have:=h.vl
 rw [DG,EE,Fj] at this
 rw [DC h.dg,this,AW]
theorem Nr (U v d:Nat) (_hv:0 < v):(1000000000 * U+d) / v=1000000000 * (U / v)+(1000000000 * (U % v)+d) / v∧(1000000000 * U+d) % v=(1000000000 * (U % v)+d) % v:=by
 have h:=DV U v
 have e:1000000000 * U+d=v * (1000000000 * (U / v))+(1000000000 * (U % v)+d):=by
  have:v * (1000000000 * (U / v))=1000000000 * (v * (U / v)):=Nat.mul_left_comm _ _ _
  rw [this]; omega
 rw [e]
 exact ⟨by rw [Nat.mul_add_div _hv],by rw [Nat.mul_add_mod]⟩
theorem Ig (U v d:Nat) (hv:0 < v) (hd:d < 1000000000):(1000000000 * (U % v)+d) / v < 1000000000:=by
 rw [B0 hv]
 have h:=CL U hv
 have h2:1000000000 * (U % v+1)≤1000000000 * v:=CC _ h
 omega
theorem HH.step {u v n k q:Nat} {out:List Int} (h:HH u v n (k+1) out) (hk:k < n) (hv:0 < v) (hq:q=(1000000000 * (u / 1000000000 ^ (k+1) % v)+u / 1000000000 ^ k % 1000000000) / v):HH u v n k (out.set k (q:Int)):=by
 have e:u / 1000000000 ^ (k+1)=u / 1000000000 ^ k / 1000000000:=by rw [Bj,BC]
 have hl:=h.len
 have hq9:q < 1000000000:=by rw [hq]; exact Ig _ _ _ hv (CL _ (by decide))
 refine ⟨by rw [AN]; exact hl,h.dg.set k ⟨Af _,by omega⟩, ?_, ?_⟩
 ·have h1:=h.low
  rw [ZB (Ag _)]
  have h2:(out.take (k+1)).take k=(List.replicate (k+1) (0:Int)).take k:=by rw [h1]
  rw [X0,Dj (by omega),List.take_replicate,Dj (by omega)] at h2
  exact h2
 ·have h1:=h.vl
  rw [B9 (by rw [AN]; omega),List.getElem_set_self,ZE (by omega)]
  show (q:Int)+1000000000 * val (out.drop (k+1))=_
  rw [h1,hq,e]
  have h2:=(Nr (u / 1000000000 ^ k / 1000000000) v (u / 1000000000 ^ k % 1000000000) hv).1
  rw [DV] at h2
  rw [h2]
  omega
theorem Ki (u v k:Nat) (hv:0 < v):(1000000000 * (u / 1000000000 ^ (k+1) % v)+u / 1000000000 ^ k % 1000000000) % v=u / 1000000000 ^ k % v:=by
 have e:u / 1000000000 ^ (k+1)=u / 1000000000 ^ k / 1000000000:=by rw [Bj,BC]
 have h2:=(Nr (u / 1000000000 ^ k / 1000000000) v (u / 1000000000 ^ k % 1000000000) hv).2
 rw [DV] at h2
 rw [e]; exact h2.symm
theorem RZ (d r:Nat) (hd:d < 1000000000):Bu ((d:Int) :: digs r)=digs (1000000000 * r+d):=by
 have h:Dg ((d:Int) :: digs r):=Dg.mk ⟨Af _,by omega⟩ (BE r)
 rw [DC h]
 congr 1
 show ((d:Int)+1000000000 * val (digs r)).toNat=_
 rw [BZ]; omega
theorem VG {x y:Nat}:decide (EA x y≤0)=decide (x≤y):=by
 unfold EA
 by_cases h:x < y
 ·rw [Aj h,Ac (show x≤y by omega)]; rfl
 ·rw [Ai h]
  by_cases h2:y < x
  ·rw [Aj h2,Aa (show ¬ x≤y by omega)]; rfl
  ·rw [Ai h2,Ac (show x≤y by omega)]; rfl
theorem V5 {v m r q:Nat} (hv:0 < v) (hq:q=r / v):v * m≤r ↔ m≤q:=by
 rw [hq,MW hv,EF]
theorem UY (u v:Nat) (hv:0 < v) (a b:Option Addr) (ca cb:Nat) (w:World) (hx:El w iv a (digs u)) (hy:El w iv b (digs v)) (hl:(digs u).length≤100000) (hm:(digs v).length≤100000) :
 Calls Tryz.prog 239 #[.slice a (digs u).length ca,.slice b (digs v).length cb] w fun e w'=>∃ a1 c1 a2 c2,e=.returned (.tuple #[.slice a1 (digs (u / v)).length c1,.slice a2 (digs (u % v)).length c2])∧El w' iv a1 (digs (u / v))∧(digs (u / v)).length≤c1∧El w' iv a2 (digs (u % v))∧(digs (u % v)).length≤c2∧Fr w w':=by
 obtain ⟨i0,hi,hz0,hz1,hz2⟩:=AQ DQ
 obtain ⟨nx,hnx⟩:∃ nx,nx=(digs u).length:=⟨_,rfl⟩
 obtain ⟨ny,hny⟩:∃ ny,ny=(digs v).length:=⟨_,rfl⟩
 have hM0:HH u v nx nx (List.replicate nx 0):=by rw [hnx]; exact HH.start u v
 have hget:=hZ (fun i d (h:(digs u)[i]?=some d)=>Ih h)
 have hR0:u / 1000000000 ^ nx=0:=by
  have h:=Fb (digs u).length u
  rw [Ep] at h
  rw [hnx]; exact DL.1 h.symm
 have hvl:∀ x,x < v→(digs x).length≤100001:=fun x hx9=>by
  by_cases h9:(digs v).length < (digs x).length
  ·have:=G0 v x h9; omega
  ·omega
 have hvl2:∀ x d,x < v→d < 1000000000→(digs (1000000000 * x+d)).length≤100002:=fun x d hx9 hd=>by
  by_cases h0:1000000000 * x+d=0
  ·rw [h0,Bq]; exact Bm _
  ·rw [B6 (by omega),A3,show (1000000000 * x+d) / 1000000000=x by omega]
   have:=hvl x hx9; omega
 have htm:Hid (∀ (m:Nat) W q c d o,m < 1000000000→El W iv q (digs v)→El W iv o [(m:Int)]→Calls Tryz.prog 244 #[.slice q (digs v).length c,.slice o 1 d] W fun e w'=>∃ a' c',e=.returned (.slice a' (digs (v * m)).length c')∧El w' iv a' (digs (v * m))∧(digs (v * m)).length≤c'∧Fr W w'):=fun m W q c d o hm9 h1 h2=>
  RP (digs v) [(m:Int)] (v * m) (by rw [BZ]; show (v:Int) * ((m:Int)+1000000000 * 0)=_; rw [Dw,IR]; exact (AU _ _).symm) q o c d W h1 h2 (BE _) (fun x hx9=>by rw [Bo] at hx9; subst hx9; exact ⟨Af _,by omega⟩) (by omega) (by simp)
 have hvm:∀ m,m < 1000000000→(digs (v * m)).length≤100002:=fun m hm9=>by
  by_cases h9:(digs (1000000000 * (v - 1)+999999999)).length < (digs (v * m)).length
  ·have h1:=G0 _ _ h9
   have h2:v * m≤v * 999999999:=CC _ (by omega)
   omega
  ·have:=hvl2 (v - 1) 999999999 (by omega) (by omega); omega
 rw [← hnx] at hl ⊢
 rw [← hny] at hm htm ⊢
 replace hvm:=hZ hvm
 replace hvl2:=hZ hvl2
 replace hvl:=hZ hvl
 replace hx:=hZ hx
 replace hy:=hZ hy
 replace hnx:=hZ hnx
 replace hny:=hZ hny
 replace hM0:=hZ hM0
 replace hR0:=hZ hR0
 replace hv:=hZ hv
 obtain ⟨B,hB⟩:∃ B,B=w.heap.size:=⟨_,rfl⟩
 go_enter Tryz.func239,Tryz.ntmps239
 go_wp2_with (at_make; refine Dz _ rfl _ _ 43 rfl w.heap.size 3 i0 _ 1 Tryz.underlying43 hi hz0 hz1 _ _ _ _ nx (by rfl) (by rfl) (by omega) (by omega) (by rw [hz2]; omega) (by unfold maxLen; omega) (Ag _) ?_; intro w2 hown2 hgr2)
 have hfw2:Fr w w2:=(Fr.refl w).grown hgr2 (fun k e=>by cases e)
 have hown0:HP w2 B (List.replicate nx 0):=by
  rw [hB]; exact Q9 rfl hown2
 rw [← hB]
 replace hown0:=hZ hown0
 replace hB:=hZ hB
 clear hown2 hgr2
 have hw1:IntKind.i64.wrap ((nx:Int) - 1)=(nx:Int) - 1:=Al _ (by omega)
 go_wp2_with fail
 go_loopg [7,8] nx (fun gk s7 s8 wr=>∃ (i:Int) (r:Nat) (ra:Option Addr) (rc:Nat) (out:List Int),s8=.int .i64 i∧i+1=gk∧gk≤nx∧s7=.slice ra (digs r).length rc∧Hid (r=u / 1000000000 ^ gk % v)∧Hid (El wr iv ra (digs r))∧Hid ((digs r).length≤rc)∧Hid (ra=none→rc=0)∧Fr w wr∧Hid (HP wr B out)∧Hid (HH u v nx gk out))
 case atStart=>exact ⟨_,0,none,0,_,rfl,by omega,Ag _,by rw [Bq]; rfl,by show _=_; rw [hR0.out,Nat.zero_mod],.inl Bq,by show _≤_; rw [Bq]; exact Ag _,fun _=>rfl,hfw2,hown0,hM0⟩
 case round=>
  clear hown0 hM0 hfw2 hw1
  obtain ⟨i,r,ra,rc,out,rfl,hik,hgn,rfl,hr,hre,hrc,hrn,hf,hown,hM⟩:=hrel
  obtain ⟨ko,rfl⟩:∃ ko:Nat,ko=gk:=⟨_,rfl⟩
  by_cases h0:ko=0
  ·subst h0
   obtain rfl:i=-1:=by omega
   have hq:=hM.out.fin
   have hlen:=hM.out.len
   have htr:=Jk out (some ⟨B,0,none⟩) nx wr hown.out.el (by omega) (by omega)
   have hle:=(BO out).2
   have hE:=Hi hown.out.el
   rw [hq,hlen] at htr hle
   rw [hq] at hE
   have hr9:Hid (u % v=r):=by show _=_; rw [hr.out,EE,Fj]
   replace htr:=hZ htr
   replace hE:=hZ hE
   replace hle:=hZ hle
   clear hq hlen
   go_wp2_with fail
   refine htr.out.mono ?_
   rintro e w3 ⟨rfl,hf3⟩
   go_wp2_with fail
   go_ret2
   rw [hr9.out]
   exact ⟨_,_,_,_,rfl,hE.out.fr hf3,hle.out,hre.out.fr hf3,hrc.out,hf.trans hf3⟩
  ·obtain ⟨k,rfl⟩:∃ k,ko=k+1:=⟨ko - 1,by omega⟩
   obtain rfl:i=(k:Int):=by omega
   obtain ⟨xb,xo,d,rfl,-,hdk,hdc⟩:=(hx.out.fr hf).at (i:=k) (by rw [← hnx.out]; omega)
   obtain ⟨-,hd2⟩:=hget.out k d hdk
   obtain ⟨dg,hdg⟩:∃ dg,dg=u / 1000000000 ^ k % 1000000000:=⟨_,rfl⟩
   rw [← hdg] at hd2
   have hdl:dg < 1000000000:=by rw [hdg]; exact CL _ (by decide)
   subst hd2
   have hrv:r < v:=by rw [hr.out]; exact CL _ hv.out
   have hrl:=hvl.out r hrv
   have hr2l:=hvl2.out r dg hrv hdl
   have htc:=RZ dg r hdl
   obtain ⟨r2,hr2⟩:∃ r2,r2=1000000000 * r+dg:=⟨_,rfl⟩
   rw [← hr2] at htc hr2l
   obtain ⟨q,hq⟩:∃ q,q=r2 / v:=⟨_,rfl⟩
   have hq9:q < 1000000000:=by rw [hq,hr2,hr.out]; exact Ig _ _ _ hv.out hdl
   have hMs:Hid (HH u v nx k (out.set k (q:Int))):=hM.out.step (by omega) hv.out (by rw [hq,hr2,hr.out,hdg])
   have hrs:Hid (r2 % v=u / 1000000000 ^ k % v):=by show _=_; rw [hr2,hr.out,hdg]; exact Ki u v k hv.out
   have hhalf:=hZ (fun m=>V5 (m:=m) hv.out hq)
   have hkn:k < out.length:=by rw [hM.out.len]; omega
   have hown9:=hown.out
   have y0:(0:Int)≤(k:Int):=by omega
   have y1:(k:Int) < (nx:Int):=by omega
   have y2:((k+1:Nat):Int) - 1=(k:Int):=by omega
   have hlit:∀ W,Fr wr W→Hid ((W.alloc (.cells #[.int .i64 dg] 3)).ownsRow W.heap.size 3 1 (.slice (some ⟨W.heap.size,0,none⟩) 1 1) 1 [iv dg]):=fun W hW=>EV W #[.int .i64 dg] 1 (Ag _) (by decide) rfl
   have hL9:=(hlit wr (Fr.refl _)).out
   replace hdk:=hZ hdk
   replace hdg:=hZ hdg
   replace hr2:=hZ hr2
   replace hq:=hZ hq
   replace hM:=hZ hM
   clear hlit
   have hnews:Hid (∀ ad,ra=some ad→∀ (j:Nat) (u9:Value),((digs r).map iv)[j]?=some u9→(wr.alloc (.cells #[.int .i64 dg] 3)).cell? (ad.add j)=some u9):=fun ad e j u9 hj=>by
    rw [Ao] at hj
    cases hg:(digs r)[j]? with
    | none=>rw [hg] at hj; cases hj
    | some x=>
      rw [hg] at hj
      injection hj with hj
      rw [← hj]
      rcases hre.out with h | ⟨b',o',ha,-,hc⟩
      ·rw [h] at hg; simp at hg
      ·rw [ha] at e
       injection e with e
       subst e
       have h9:=((Fr.refl wr).alloc (.cells #[.int .i64 dg] 3)).keep (hc j x hg)
       have e9:(⟨b',o',none⟩:Addr).add j=⟨b',o'+j,none⟩:=by
        unfold Addr.add
        by_cases h0:j=0
        ·rw [Aj h0,h0]; rfl
        ·rw [Ai h0]
       rw [e9]; exact h9
   have hone:Hid (∀ u9,u9 ∈ (digs r).map iv→u9.oneCell'=true):=fun u9 h9=>by
    obtain ⟨x,-,rfl⟩:=Bg.1 h9
    rfl
   have hnil:Hid (ra=none→digs r=[]):=fun e=>by
    rcases hre.out with h | ⟨b',o',ha,-,hc⟩
    ·exact h
    ·rw [e] at ha; cases ha
   have hr2e:Hid (digs r2=Bu ((dg:Int) :: digs r)):=htc.symm
   have hwz:=hf.size
   go_upto_region 6 with (fail)
   go_cut [7] from 22 to 30 (fun s7 wc=>∃ a2 c2,s7=.slice (some a2) (digs r2).length c2∧Fr wr wc∧El wc iv (some a2) (digs r2)∧(digs r2).length≤c2∧B < a2.block)
   case first=>
    clear hMs hrs hhalf hM hx hy hget htm hvm hvl hvl2
    have hBl:B < wr.heap.size:=hown.out.1
    have hfa:Fr wr (wr.alloc (.cells #[.int .i64 dg] 3)):=(Fr.refl _).alloc _
    cases ra with
    | none=>
      obtain rfl:=hrn.out rfl
      have hz9:=hnil.out rfl
      have hE1:=Ia (l:=[(dg:Int)]) hL9
      obtain ⟨a9,c9,he9,hE1,hc9,-⟩:=hE1
      have he9:a9=some ⟨wr.heap.size,0,none⟩∧c9=1:=by
       injection he9 with h1 h2 h3
       exact ⟨h1.symm,h3.symm⟩
      obtain ⟨rfl,rfl⟩:=he9
      have htr:=Jk [(dg:Int)] (some ⟨wr.heap.size,0,none⟩) 1 _ hE1 (by simp) hc9
      have hle:=(BO [(dg:Int)]).2
      have hE2:=Hi hE1
      rw [hz9] at hr2e
      rw [← hr2e.out] at htr hle hE2
      replace htr:=hZ htr
      replace hE2:=hZ hE2
      have hlz:(digs r).length=0:=by rw [hz9]; rfl
      rw [hlz]
      clear hz9 hlz hE1 hr2e
      go_wp2_with (at_builtin; refine wpList_append_own_none rfl _ _ 43 (by rfl) wr.heap.size 3 i0 1 Tryz.underlying43 hi _ 1 _ (by rfl) hL9 (by rfl) ?_)
      go_wp2_with fail
      refine htr.out.mono ?_
      rintro e w3 ⟨rfl,hf3⟩
      go_wp2_with fail
      go_meet
      case rel=>exact ⟨_,_,rfl,hfa.trans hf3,hE2.out.fr hf3,hle,hBl⟩
    | some ad=>
      go_wp2_with (at_builtin; refine wpList_append_own _ rfl _ _ 43 (by rfl) wr.heap.size 3 i0 _ 1 8 Tryz.underlying43 hi hz0 hz1 hz2 rfl (by decide) _ 1 _ (by rfl) hL9 ad (digs r).length rc ((digs r).map iv) (by rfl) (by rw [Am,Fi]) (hnews.out ad rfl) hone.out (by unfold maxLen; omega) (by omega) (by simp) ?_; intro v9 w9 ho9 hg9 hn9)
      obtain ⟨g9,c9,rfl,-⟩:=Ct ho9 (by omega)
      have hgb9:wr.heap.size≤g9:=(ho9.lt g9 rfl).1
      have hf9:Fr wr w9:=hfa.grown hg9 (fun k e=>by have e:wr.heap.size=k:=by simpa [Value.ownBlock] using e
                                                    omega)
      have ho8:w9.ownsRow wr.heap.size 3 1 (.slice (some ⟨g9,0,none⟩) ((dg:Int) :: digs r).length c9) ((dg:Int) :: digs r).length (((dg:Int) :: digs r).map iv):=by
       rw [A3,EG]; exact ho9
      obtain ⟨a8,c8,he8,hE1,hc8,-⟩:=Ia ho8
      have he9:a8=some ⟨g9,0,none⟩∧c8=c9:=by
       injection he8 with h1 h2 h3
       exact ⟨h1.symm,h3.symm⟩
      obtain ⟨rfl,rfl⟩:=he9
      have htr:=Jk ((dg:Int) :: digs r) (some ⟨g9,0,none⟩) c8 _ hE1 (by rw [A3]; omega) hc8
      have hle:=(BO ((dg:Int) :: digs r)).2
      have hE2:=Hi hE1
      rw [← hr2e.out] at htr hle hE2
      rw [A3,EG] at htr
      rw [A3] at hle hc8
      replace htr:=hZ htr
      replace hE2:=hZ hE2
      clear hE1 hr2e ho8 ho9 he8 hn9
      go_wp2_with fail
      refine htr.out.mono ?_
      rintro e w3 ⟨rfl,hf3⟩
      go_wp2_with fail
      go_meet
      case rel=>exact ⟨_,_,rfl,hf9.trans hf3,hE2.out.fr hf3,by omega,An hBl hgb9⟩
   obtain ⟨a2,c2,rfl,hfc,hE2,hc2,ha2B⟩:=hcut
   replace hE2:=hZ hE2
   obtain ⟨W5,rfl⟩:∃ W5:World,W5=wc:=⟨_,rfl⟩
   have hF5:=hf.trans hfc
   clear hL9 hnews hone hnil hre hrn hrc hdc hr2e hwz hown9
   obtain ⟨G9,hG9⟩:∃ G,G=999999999:=⟨_,rfl⟩
   go_wp2_with fail
   go_loopg [9,10] G9 (fun gk s9 s10 wr2=>∃ lo hi:Nat,s9=.int .i64 lo∧s10=.int .i64 hi∧hi≤lo+gk∧lo≤q∧q≤hi∧hi≤999999999∧Fr W5 wr2)
   case atStart=>exact ⟨0,999999999,rfl,rfl,by omega,by omega,by omega,by omega,Fr.refl _⟩
   case round=>
    obtain ⟨lo,hi',rfl,rfl,hgh,hlq,hqh,hh9,hf2⟩:=hrel
    obtain ⟨wx,rfl⟩:∃ wx:World,wx=wr:=⟨_,rfl⟩
    by_cases hlt:lo < hi'
    ·have d0:decide (lo < hi')=true:=Ac hlt
     have d1:decide ((lo:Int) < (hi':Int))=true:=Ac (by omega)
     obtain ⟨mid,hmid⟩:∃ mid,mid=(lo+hi'+1) / 2:=⟨_,rfl⟩
     have t1:((lo:Int)+(hi':Int)+1).tdiv 2=(mid:Int):=by rw [DH (by omega)]; omega
     have t2:((lo:Int)+(hi':Int)+1) / 2=(mid:Int):=by omega
     have hm1:1≤mid∧lo < mid∧mid≤hi':=by omega
     replace hmid:=hZ hmid
     have hml:=hvm.out mid (by omega)
     have hE3:El (wx.alloc (.cells #[.int .i64 mid] 3)) iv (some ⟨wx.heap.size,0,none⟩) [(mid:Int)]:=.inr ⟨_,_,rfl,by simp,fun j x hj=>by
      match j,hj with
      | 0,hj=>injection hj with hj; subst hj; exact D6 _ _ _
      | j+1,hj=>simp at hj⟩
     have ha3:Fr wx (wx.alloc (.cells #[.int .i64 mid] 3)):=(Fr.refl _).alloc _
     have hFx:=hF5.trans hf2
     have ht9:=hZ (fun W (hW:Fr wx W) d o (h:El W iv o [(mid:Int)])=>htm.out mid W b cb d o (by omega) (hy.out.fr (hFx.trans hW)) h)
     have ho9:=hZ (fun W (hW:Fr wx W) p c (h:El W iv p (digs (v * mid)))=>RQ (v * mid) r2 p (some a2) c c2 W h (hE2.out.fr (hf2.trans hW)) (by omega) (by omega))
     have hdle:=hZ (VG (x:=v * mid) (y:=r2))
     have hhf:=hhalf.out mid
     replace hE3:=hZ hE3
     by_cases hmq:mid≤q
     ·have d2:decide (EA (v * mid) r2≤0)=true:=by rw [hdle.out]; exact Ac (hhf.2 hmq)
      generalize EA (v * mid) r2=sg at *
      clear hhf
      go_wp2_with fail
      refine (ht9.out _ ha3 1 _ hE3.out).mono ?_
      rintro e w3 ⟨pc,cc,rfl,hec,-,hf3⟩
      replace hec:=hZ hec
      go_wp2_with fail
      refine (ho9.out _ (ha3.trans hf3) _ _ hec.out).mono ?_
      rintro e w4 ⟨rfl,hf4⟩
      go_wp2_with fail
      go_roundg (gk - 1)
      case measure=>omega
      case rel=>exact ⟨mid,hi',rfl,rfl,by omega,by omega,by omega,by omega,((hf2.trans ha3).trans hf3).trans hf4⟩
     ·have d2:decide (EA (v * mid) r2≤0)=false:=by rw [hdle.out]; exact Aa (fun h=>hmq (hhf.1 h))
      generalize EA (v * mid) r2=sg at *
      clear hhf
      go_wp2_with fail
      refine (ht9.out _ ha3 1 _ hE3.out).mono ?_
      rintro e w3 ⟨pc,cc,rfl,hec,-,hf3⟩
      replace hec:=hZ hec
      go_wp2_with fail
      refine (ho9.out _ (ha3.trans hf3) _ _ hec.out).mono ?_
      rintro e w4 ⟨rfl,hf4⟩
      go_wp2_with fail
      go_roundg (gk - 1)
      case measure=>omega
      case rel=>exact ⟨lo,mid - 1,rfl,congrArg (Value.int IntKind.i64) (by omega),by omega,by omega,by omega,by omega,((hf2.trans ha3).trans hf3).trans hf4⟩
    ·have d0:decide (lo < hi')=false:=Aa hlt
     have d1:decide ((lo:Int) < (hi':Int))=false:=Aa (by omega)
     obtain rfl:hi'=q:=by omega
     obtain rfl:lo=hi':=by omega
     have hownx:=hZ (hown.out.fr (hfc.trans hf2))
     obtain ⟨z9,hz9⟩:∃ z,out[k]?=some z:=⟨_,Ab hkn⟩
     obtain ⟨c0,g0⟩:=hownx.out.2 _ _ hz9
     have hw8:=hownx.out.set hkn (lo:Int)
     have hFx:Fr w wx:=hF5.trans hf2
     have hfz:Hid (Fx (·=B) wx (wx.setCell ⟨B,k,none⟩ (.int .i64 lo))):=Fx.setCell (p:=(·=B)) (q:=⟨B,k,none⟩) (Fx.refl _ _) (.inl rfl) _
     have hFz:Hid (Fr w (wx.setCell ⟨B,k,none⟩ (.int .i64 lo))):=((Fx.of_fr hFx).trans hfz.out).toFr (fun k hk e=>by have e:k=B:=e; have:=hB.out; omega)
     have hEx:El wx iv (some a2) (digs r2):=hE2.out.fr hf2
     have hE6:=hZ (El.fxr hEx hfz.out (fun ad e=>by injection e with e; subst e; show ¬ a2.block=B; omega))
     obtain ⟨W6,hW6⟩:∃ W,W=wx.setCell ⟨B,k,none⟩ (.int .i64 lo):=⟨_,rfl⟩
     have hw9:Hid (HP W6 B (out.set k (lo:Int))):=by rw [hW6]; exact hw8
     rw [← hW6] at hFz hE6
     have z2:(0:Int)≤(k:Int):=by omega
     replace hz9:=hZ hz9
     clear hw8 hfz hEx
     go_upto_region 14 with (fail)
     rw [← hW6]
     clear hW6 c0 g0
     by_cases hz:lo=0
     ·have d2:decide ((0:Int) < (lo:Int))=false:=Aa (by omega)
      have d3:decide (0 < lo)=false:=Aa (by omega)
      have hlt9:Hid (r2 % v=r2):=by
       show _=_
       have:=DV r2 v
       rw [← hq.out,hz,Nat.mul_zero,Az] at this
       exact this
      replace hz:=hZ hz
      go_wp2_with fail
      go_roundg k
      case measure=>omega
      case rel=>exact ⟨_,r2,some a2,c2,out.set k (lo:Int),rfl,by omega,by omega,rfl,by show _=_; rw [← hrs.out,hlt9.out],hE6,hc2,(fun e=>by cases e),hFz.out,hw9,hMs⟩
     ·have d2:decide ((0:Int) < (lo:Int))=true:=Ac (by omega)
      have d3:decide (0 < lo)=true:=Ac (by omega)
      have hml:=hvm.out lo hq9
      have hle9:v * lo≤r2:=(hhalf.out lo).2 (Ag _)
      have hmd:Bu (CU (digs r2) (digs (v * lo)) 0)=digs (r2 % v):=by
       have h9:=Ib r2 (v * lo) 0 (by omega) (by omega)
       have h8:=DV r2 v
       rw [← hq.out] at h8
       rw [show r2 - v * lo - 0=r2 % v by omega] at h9
       exact h9
      have hpos:0 < (digs r2).length:=CX.2 (fun e=>by
       have h9:=DL.1 e
       have h8:1 * 1≤v * lo:=CH hv.out (by omega)
       omega)
      have hE3:El (W6.alloc (.cells #[.int .i64 lo] 3)) iv (some ⟨W6.heap.size,0,none⟩) [(lo:Int)]:=.inr ⟨_,_,rfl,by simp,fun j x hj=>by
       match j,hj with
       | 0,hj=>injection hj with hj; subst hj; exact D6 _ _ _
       | j+1,hj=>simp at hj⟩
      have ha3:Fr W6 (W6.alloc (.cells #[.int .i64 lo] 3)):=(Fr.refl _).alloc _
      have ht9:=hZ (fun W (hW:Fr W6 W) d o (h:El W iv o [(lo:Int)])=>htm.out lo W b cb d o hq9 (hy.out.fr (hFz.out.trans hW)) h)
      have hm9:=hZ (fun W (hW:Fr W6 W) q d (h:El W iv q (digs (v * lo)))=>Oa (digs r2) (digs (v * lo)) (some a2) q c2 d W (hE6.out.fr hW) h (BE _) (BE _) (by omega) (by omega))
      rw [hmd] at hm9
      replace hE3:=hZ hE3
      replace hpos:=hZ hpos
      replace hz:=hZ hz
      clear hmd
      go_wp2_with fail
      refine (ht9.out _ ha3 1 _ hE3.out).mono ?_
      rintro e w3 ⟨pc,cc,rfl,hec,-,hf3⟩
      replace hec:=hZ hec
      go_wp2_with fail
      refine (hm9.out _ (ha3.trans hf3) _ _ hec.out).mono ?_
      rintro e w4 ⟨pd,cd,rfl,hed,hcd,hf4,hsm⟩
      replace hed:=hZ hed
      replace hsm:=hZ hsm
      have hf64:=(ha3.trans hf3).trans hf4
      go_wp2_with fail
      go_roundg k
      case measure=>omega
      case rel=>exact ⟨_,r2 % v,pd,cd,out.set k (lo:Int),rfl,by omega,by omega,rfl,hrs,hed,hcd,(fun e=>by obtain ⟨ad,h9⟩:=hsm.out hpos.out; rw [e] at h9; cases h9),hFz.out.trans hf64,hw9.out.fr hf64,hMs⟩
theorem NU (a:Int):(∃ n:Nat,a=n∧¬ a < 0)∨∃ n:Nat,a=-(n:Int)∧a < 0:=by
 by_cases h:a < 0
 ·exact .inr ⟨a.natAbs,by omega,h⟩
 ·exact .inl ⟨a.natAbs,by omega,h⟩
theorem Kf (a b:Int):Hl (sd a != sd b) (a.natAbs / b.natAbs)=a.tdiv b:=by
 rcases NU a with ⟨m,rfl,ha⟩ | ⟨m,rfl,ha⟩ <;> rcases NU b with ⟨n,rfl,hb⟩ | ⟨n,rfl,hb⟩ <;> unfold sd Hl
 ·rw [Ai ha,Ai hb,AC,AC,Ai (by decide)]; exact (Ok m n).symm
 ·rw [Ai ha,Aj hb,AC,Fm,AC,Aj (by decide),Int.tdiv_neg]; exact congrArg Neg.neg (Ok m n).symm
 ·rw [Aj ha,Ai hb,AC,Fm,AC,Aj (by decide),Y5]; exact congrArg Neg.neg (Ok m n).symm
 ·rw [Aj ha,Aj hb,Fm,Fm,AC,AC,Ai (by decide),Y5,Int.tdiv_neg,Int.neg_neg]; exact (Ok m n).symm
theorem IA (a b:Int):Hl (decide (sd a < 0)) (a.natAbs % b.natAbs)=a.tmod b:=by
 have hb:a.tmod b=a.tmod (b.natAbs:Int):=by
  rcases NU b with ⟨n,rfl,-⟩ | ⟨n,rfl,-⟩
  ·rw [AC]
  ·rw [Fm,AC,Int.tmod_neg]
 rw [hb]
 rcases NU a with ⟨m,rfl,ha⟩ | ⟨m,rfl,ha⟩ <;> unfold sd Hl
 ·rw [Ai ha,AC,Ai (by decide)]; exact (Int.ofNat_tmod m _).symm
 ·rw [Aj ha,Fm,AC,Aj (by decide),Int.neg_tmod]; exact congrArg Neg.neg (Int.ofNat_tmod m _).symm
theorem TN (a b:Int):(sd a != sd b)=true ↔ ¬ (a < 0 ↔ b < 0):=by
 unfold sd
 by_cases ha:a < 0 <;> by_cases hb:b < 0 <;> simp [ha,hb]
theorem K5 {a b:Int} (h:a.tmod b≠0):a.tmod b < 0 ↔ a < 0:=by
 have e:=IA a b
 unfold sd Hl at e
 by_cases ha:a < 0
 ·rw [Aj ha,Aj (by decide)] at e; omega
 ·rw [Ai ha,Ai (by decide)] at e; omega
theorem SU (j k:Nat) (hj:j≤40000) (hk:k≤40000) (a b:Int) (ha:Bn j a) (hb:Bn k b) (h0:b≠0) (w:World) (hG:G w) :
 Calls Tryz.prog 195 #[.string (tx a),.string (tx b)] w fun e w'=>e=.returned (.tuple #[.string (tx (a.fdiv b)),.string (tx (a.fmod b))])∧Fr w w':=by
 obtain ⟨va,ba,ha1,ha2,hqa⟩:=Gw a j (by omega) ha
 obtain ⟨vb,bb,hb1,hb2,hqb⟩:=Gw b k (by omega) hb
 by_cases hboth:ba=true∧bb=true
 ·exact QI a b (ha1 hboth.1).2 (hb1 hboth.2).2 h0 w hG
 ·obtain ⟨hda,hsa⟩:=Hb a j (by omega) ha
  obtain ⟨hdb,hsb⟩:=Hb b k (by omega) hb
  have hna:=hZ (fun W=>KA a W)
  have hnb:=hZ (fun W=>KA b W)
  have hla:=ha.digs
  have hlb:=hb.digs
  have hdv:=hZ (fun W p q c d (h1:El W iv p (digs a.natAbs)) (h2:El W iv q (digs b.natAbs))=>UY a.natAbs b.natAbs (by omega) p q c d W h1 h2 (by omega) (by omega))
  have hGf:=hZ (fun W (hW:Fr w W)=>hG.fr hW)
  have hvq:=Kf a b
  have hvr:=IA a b
  have hNq:Bn j ((a.natAbs / b.natAbs:Nat):Int):=by
   show (((a.natAbs / b.natAbs:Nat):Int)).natAbs < _
   rw [AC]; exact BI (C1 _ _) ha
  have hNr:Bn k ((a.natAbs % b.natAbs:Nat):Int):=by
   show (((a.natAbs % b.natAbs:Nat):Int)).natAbs < _
   rw [AC]; exact Nat.lt_trans (CL _ (by omega)) hb
  have hqs:=hNq.size
  have hqd:=hNq.digs
  have hrs:=hNr.size
  have hrd:=hNr.digs
  rw [AC] at hqs hqd hrs hrd
  have hsq:=hZ (fun W p c (hW:Fr w W) (h1:El W iv p (digs (a.natAbs / b.natAbs))) (h2:(digs (a.natAbs / b.natAbs)).length≤c)=>Ha (sd a != sd b) (a.natAbs / b.natAbs) _ (EY _) p c W (hGf.out _ hW) h1 (by omega) (by omega) h2)
  have hsr:=hZ (fun W p c (hW:Fr w W) (h1:El W iv p (digs (a.natAbs % b.natAbs))) (h2:(digs (a.natAbs % b.natAbs)).length≤c)=>Ha (decide (sd a < 0)) (a.natAbs % b.natAbs) _ (EY _) p c W (hGf.out _ hW) h1 (by omega) (by omega) h2)
  rw [hvq] at hsq
  rw [hvr] at hsr
  have hbq:Bn (j+1) (a.tdiv b):=by
   show (a.tdiv b).natAbs < _
   have:=Lp a b
   exact BI this (Bn.mono ha (by omega))
  have hbr:Bn (j+k) (a.tmod b):=by
   show (a.tmod b).natAbs < _
   exact Nat.lt_trans (GQ a b h0) (Bn.mono hb (by omega))
  have hsub:=hZ (fun W (hW:G W)=>UZ (j+1) (by omega) (a.tdiv b) 1 hbq (Bn.mono (j:=1) (by unfold Bn; decide) (by omega)) W hW)
  have hadd:=hZ (fun W (hW:G W)=>U2 (j+k) (by omega) (a.tmod b) b hbr (Bn.mono hb (by omega)) W hW)
  rw [show tx 1=⟨#[49]⟩ from GA] at hsub
  have hzr:=C8 (a.tmod b)
  by_cases hc:a.tmod b≠0∧¬ (a < 0 ↔ b < 0)
  ·have hfin:=hZ (FV a b h0 hc.1 (by rw [K5 hc.1]; exact hc.2))
   have e1:((tx (a.tmod b)).toList == [48])=false:=by rw [hzr]; exact Aa hc.1
   have e2:(sd a != sd b)=true:=(TN a b).2 hc.2
   generalize digs (a.natAbs / b.natAbs)=xq at *
   generalize digs (a.natAbs % b.natAbs)=xr at *
   generalize digs a.natAbs=xa at *
   generalize digs b.natAbs=xb at *
   generalize tx (a.natAbs:Int)=ta at *
   generalize tx (b.natAbs:Int)=tb' at *
   generalize hA:a.fdiv b=fq at *
   generalize hB:a.fmod b=fr at *
   generalize a.tdiv b=tq at *
   generalize a.tmod b=tr at *
   generalize tx a=sa at *
   generalize tx b=sb' at *
   obtain ⟨za,hza⟩:∃ za,za=sd a:=⟨_,rfl⟩
   obtain ⟨zb,hzb⟩:∃ zb,zb=sd b:=⟨_,rfl⟩
   rw [← hza] at hna hsq hsr e2
   rw [← hzb] at hnb hsq e2
   rw [e2] at hsq
   clear hG ha hb ha1 hb1 hvq hvr hNq hNr hqs hqd hrs hrd hbq hbr hzr hc hla hlb h0 hA hB hza hzb
   rcases ha2 with rfl | rfl <;> rcases hb2 with rfl | rfl
   ·exact absurd ⟨rfl,rfl⟩ hboth
   all_goals
    clear hboth
    go_enter Tryz.func195,Tryz.ntmps195
    go_wp2_with fail
    refine (hqa.out _).mono ?_; rintro e w1 ⟨rfl,rfl⟩
    go_wp2_with fail
    refine (hqb.out _).mono ?_; rintro e w1 ⟨rfl,rfl⟩
    go_wp2_with fail
    refine (hda.out _).mono ?_; rintro e w1 ⟨rfl,rfl⟩
    go_wp2_with fail
    refine (hsa.out _).mono ?_; rintro e w1 ⟨pa,ca,rfl,hea,-,hf1⟩
    replace hea:=hZ hea
    go_wp2_with fail
    refine (hdb.out _).mono ?_; rintro e w2 ⟨rfl,rfl⟩
    go_wp2_with fail
    refine (hsb.out _).mono ?_; rintro e w2 ⟨pb,cb,rfl,heb,-,hf2⟩
    replace heb:=hZ heb
    go_wp2_with fail
    refine (hdv.out _ _ _ _ _ (hea.out.fr hf2) heb.out).mono ?_; rintro e w3 ⟨pc,cc,pd,cd,rfl,hec,hlc,hed,hld,hf3⟩
    replace hec:=hZ hec
    replace hed:=hZ hed
    replace hlc:=hZ hlc
    replace hld:=hZ hld
    go_wp2_with fail
    refine (hna.out _).mono ?_; rintro e w4 ⟨rfl,rfl⟩
    go_wp2_with fail
    refine (hnb.out _).mono ?_; rintro e w4 ⟨rfl,rfl⟩
    go_wp2_with fail
    refine (hsq.out _ _ _ ((hf1.trans hf2).trans hf3) hec.out hlc.out).mono ?_; rintro e w4 ⟨rfl,hf4⟩
    go_wp2_with fail
    refine (hna.out _).mono ?_; rintro e w5 ⟨rfl,rfl⟩
    go_wp2_with fail
    refine (hsr.out _ _ _ (((hf1.trans hf2).trans hf3).trans hf4) (hed.out.fr hf4) hld.out).mono ?_; rintro e w5 ⟨rfl,hf5⟩
    go_wp2_with fail
    refine (hna.out _).mono ?_; rintro e w6 ⟨rfl,rfl⟩
    go_wp2_with fail
    refine (hnb.out _).mono ?_; rintro e w6 ⟨rfl,rfl⟩
    go_wp2_with fail
    refine (hsub.out _ (hGf.out _ ((((hf1.trans hf2).trans hf3).trans hf4).trans hf5))).mono ?_; rintro e w6 ⟨rfl,hf6⟩
    go_wp2_with fail
    refine (hadd.out _ (hGf.out _ (((((hf1.trans hf2).trans hf3).trans hf4).trans hf5).trans hf6))).mono ?_; rintro e w7 ⟨rfl,hf7⟩
    go_wp2_with fail
    go_ret2
    exact ⟨by rw [hfin.out.1,hfin.out.2]; rfl,(((((hf1.trans hf2).trans hf3).trans hf4).trans hf5).trans hf6).trans hf7⟩
  ·by_cases hz:a.tmod b=0
   ·have hfin:=hZ (Ec a b h0 (.inl hz))
    have e1:((tx (a.tmod b)).toList == [48])=true:=by rw [hzr]; exact Ac hz
    have e2:(sd a != sd b)=(sd a != sd b):=rfl
    generalize digs (a.natAbs / b.natAbs)=xq at *
    generalize digs (a.natAbs % b.natAbs)=xr at *
    generalize digs a.natAbs=xa at *
    generalize digs b.natAbs=xb at *
    generalize tx (a.natAbs:Int)=ta at *
    generalize tx (b.natAbs:Int)=tb' at *
    generalize hA:a.fdiv b=fq at *
    generalize hB:a.fmod b=fr at *
    generalize a.tdiv b=tq at *
    generalize a.tmod b=tr at *
    generalize tx a=sa at *
    generalize tx b=sb' at *
    obtain ⟨za,hza⟩:∃ za,za=sd a:=⟨_,rfl⟩
    obtain ⟨zb,hzb⟩:∃ zb,zb=sd b:=⟨_,rfl⟩
    rw [← hza] at hna hsq hsr e2
    rw [← hzb] at hnb hsq e2
    clear hG ha hb ha1 hb1 hvq hvr hNq hNr hqs hqd hrs hrd hbq hbr hzr hc hla hlb h0 hA hB hza hzb e2 hsub hadd hz
    rcases ha2 with rfl | rfl <;> rcases hb2 with rfl | rfl
    ·exact absurd ⟨rfl,rfl⟩ hboth
    all_goals
     clear hboth
     go_enter Tryz.func195,Tryz.ntmps195
     go_wp2_with fail
     refine (hqa.out _).mono ?_; rintro e w1 ⟨rfl,rfl⟩
     go_wp2_with fail
     refine (hqb.out _).mono ?_; rintro e w1 ⟨rfl,rfl⟩
     go_wp2_with fail
     refine (hda.out _).mono ?_; rintro e w1 ⟨rfl,rfl⟩
     go_wp2_with fail
     refine (hsa.out _).mono ?_; rintro e w1 ⟨pa,ca,rfl,hea,-,hf1⟩
     replace hea:=hZ hea
     go_wp2_with fail
     refine (hdb.out _).mono ?_; rintro e w2 ⟨rfl,rfl⟩
     go_wp2_with fail
     refine (hsb.out _).mono ?_; rintro e w2 ⟨pb,cb,rfl,heb,-,hf2⟩
     replace heb:=hZ heb
     go_wp2_with fail
     refine (hdv.out _ _ _ _ _ (hea.out.fr hf2) heb.out).mono ?_; rintro e w3 ⟨pc,cc,pd,cd,rfl,hec,hlc,hed,hld,hf3⟩
     replace hec:=hZ hec
     replace hed:=hZ hed
     replace hlc:=hZ hlc
     replace hld:=hZ hld
     go_wp2_with fail
     refine (hna.out _).mono ?_; rintro e w4 ⟨rfl,rfl⟩
     go_wp2_with fail
     refine (hnb.out _).mono ?_; rintro e w4 ⟨rfl,rfl⟩
     go_wp2_with fail
     refine (hsq.out _ _ _ ((hf1.trans hf2).trans hf3) hec.out hlc.out).mono ?_; rintro e w4 ⟨rfl,hf4⟩
     go_wp2_with fail
     refine (hna.out _).mono ?_; rintro e w5 ⟨rfl,rfl⟩
     go_wp2_with fail
     refine (hsr.out _ _ _ (((hf1.trans hf2).trans hf3).trans hf4) (hed.out.fr hf4) hld.out).mono ?_; rintro e w5 ⟨rfl,hf5⟩
     go_wp2_with fail
     go_ret2
     exact ⟨by rw [hfin.out.1,hfin.out.2]; rfl,(((hf1.trans hf2).trans hf3).trans hf4).trans hf5⟩
   ·have hsm:(a < 0 ↔ b < 0):=Ca fun h=>hc ⟨hz,h⟩
    have hfin:=hZ (Ec a b h0 (.inr (by rw [K5 hz]; exact hsm)))
    have e1:((tx (a.tmod b)).toList == [48])=false:=by rw [hzr]; exact Aa hz
    have e2:(sd a != sd b)=false:=by cases h:(sd a != sd b) with
     | false=>rfl
     | true=>exact absurd hsm ((TN a b).1 h)
    generalize digs (a.natAbs / b.natAbs)=xq at *
    generalize digs (a.natAbs % b.natAbs)=xr at *
    generalize digs a.natAbs=xa at *
    generalize digs b.natAbs=xb at *
    generalize tx (a.natAbs:Int)=ta at *
    generalize tx (b.natAbs:Int)=tb' at *
    generalize hA:a.fdiv b=fq at *
    generalize hB:a.fmod b=fr at *
    generalize a.tdiv b=tq at *
    generalize a.tmod b=tr at *
    generalize tx a=sa at *
    generalize tx b=sb' at *
    obtain ⟨za,hza⟩:∃ za,za=sd a:=⟨_,rfl⟩
    obtain ⟨zb,hzb⟩:∃ zb,zb=sd b:=⟨_,rfl⟩
    rw [← hza] at hna hsq hsr e2
    rw [← hzb] at hnb hsq e2
    rw [e2] at hsq
    clear hG ha hb ha1 hb1 hvq hvr hNq hNr hqs hqd hrs hrd hbq hbr hzr hc hla hlb h0 hA hB hza hzb hsub hadd hz hsm
    rcases ha2 with rfl | rfl <;> rcases hb2 with rfl | rfl
    ·exact absurd ⟨rfl,rfl⟩ hboth
    all_goals
     clear hboth
     go_enter Tryz.func195,Tryz.ntmps195
     go_wp2_with fail
     refine (hqa.out _).mono ?_; rintro e w1 ⟨rfl,rfl⟩
     go_wp2_with fail
     refine (hqb.out _).mono ?_; rintro e w1 ⟨rfl,rfl⟩
     go_wp2_with fail
     refine (hda.out _).mono ?_; rintro e w1 ⟨rfl,rfl⟩
     go_wp2_with fail
     refine (hsa.out _).mono ?_; rintro e w1 ⟨pa,ca,rfl,hea,-,hf1⟩
     replace hea:=hZ hea
     go_wp2_with fail
     refine (hdb.out _).mono ?_; rintro e w2 ⟨rfl,rfl⟩
     go_wp2_with fail
     refine (hsb.out _).mono ?_; rintro e w2 ⟨pb,cb,rfl,heb,-,hf2⟩
     replace heb:=hZ heb
     go_wp2_with fail
     refine (hdv.out _ _ _ _ _ (hea.out.fr hf2) heb.out).mono ?_; rintro e w3 ⟨pc,cc,pd,cd,rfl,hec,hlc,hed,hld,hf3⟩
     replace hec:=hZ hec
     replace hed:=hZ hed
     replace hlc:=hZ hlc
     replace hld:=hZ hld
     go_wp2_with fail
     refine (hna.out _).mono ?_; rintro e w4 ⟨rfl,rfl⟩
     go_wp2_with fail
     refine (hnb.out _).mono ?_; rintro e w4 ⟨rfl,rfl⟩
     go_wp2_with fail
     refine (hsq.out _ _ _ ((hf1.trans hf2).trans hf3) hec.out hlc.out).mono ?_; rintro e w4 ⟨rfl,hf4⟩
     go_wp2_with fail
     refine (hna.out _).mono ?_; rintro e w5 ⟨rfl,rfl⟩
     go_wp2_with fail
     refine (hsr.out _ _ _ (((hf1.trans hf2).trans hf3).trans hf4) (hed.out.fr hf4) hld.out).mono ?_; rintro e w5 ⟨rfl,hf5⟩
     go_wp2_with fail
     refine (hna.out _).mono ?_; rintro e w6 ⟨rfl,rfl⟩
     go_wp2_with fail
     refine (hnb.out _).mono ?_; rintro e w6 ⟨rfl,rfl⟩
     go_wp2_with fail
     go_ret2
     exact ⟨by rw [hfin.out.1,hfin.out.2]; rfl,(((hf1.trans hf2).trans hf3).trans hf4).trans hf5⟩
end Go.Proofs.YtcglmebcfeoedaaGreatDoor
