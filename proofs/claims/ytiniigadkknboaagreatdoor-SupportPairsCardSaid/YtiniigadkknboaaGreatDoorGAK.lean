/- Contracts and laws: GAK. -/
import Derived.Test.YtiniigadkknboaaGreatDoorGAD
import Derived.Test.YtiniigadkknboaaGreatDoorGAJ
import Derived.Test.YtiniigadkknboaaGreatDoorGAI

set_option maxRecDepth 100000
set_option maxHeartbeats 4000000
namespace Go.Proofs.YtiniigadkknboaaGreatDoor
open Go.RowKit Go.Lib
def tb (l:List UInt8):ByteArray:=⟨l.toArray⟩
theorem IM (l:List UInt8):(tb l).data.toList=l:=by simp [tb]
theorem DU (l:List UInt8):(tb l).size=l.length:=by simp [tb,ByteArray.size]
theorem TB (a b:List UInt8):tb a ++ tb b=tb (a ++ b):=by
 refine NY ?_
 rw [ZC,PV,IM,IM,IM]
theorem K4 (l:List UInt8) (i j:Nat):(tb l).extract i j=tb ((l.take j).drop i):=by
 refine NY ?_
 rw [IM,Zv,ZU,IM]
 rw [List.drop_take]
theorem Id (n:Int):tx n=tb (itoa n):=rfl
def Gr:Nat→Nat→List UInt8
 | 0,_=>[]
 | k+1,m=>Gr k (m / 10) ++ [UInt8.ofNat (48+m % 10)]
theorem Li:∀ (k m:Nat),(Gr k m).length=k
 | 0,_=>rfl
 | k+1,m=>by show (Gr k (m / 10) ++ [_]).length=k+1; rw [Ar,Li k]; rfl
theorem RM {n:Nat} (h:10≤n):decDigits n=decDigits (n / 10) ++ [UInt8.ofNat (48+n % 10)]:=by
 rw [decDigits,dif_neg (by omega)]
theorem SK {n:Nat} (h:n < 10):decDigits n=[UInt8.ofNat (48+n)]:=by rw [decDigits,dif_pos h]
theorem M4:∀ (k a m:Nat),0 < a→m < 10 ^ k→decDigits (a * 10 ^ k+m)=decDigits a ++ Gr k m
 | 0,a,m,ha,hm=>by
   have hm:m < 1:=hm
   obtain rfl:m=0:=by omega
   show decDigits (a * 1+0)=decDigits a ++ []
   rw [BE,DG,FV]
 | k+1,a,m,ha,hm=>by
   have e:a * 10 ^ (k+1)=a * 10 ^ k * 10:=by rw [Br,P0]
   have hp:0 < a * 10 ^ k:=ZL ha (E7 (by decide))
   rw [Br] at hm
   have ih:=M4 k a (m / 10) ha (by omega)
   rw [e]
   generalize a * 10 ^ k=q at *
   rw [RM (n:=q * 10+m) (by omega),show (q * 10+m) / 10=q+m / 10 by omega,show (q * 10+m) % 10=m % 10 by omega,ih,Bd]
   rfl
theorem MF:∀ k,Gr k 0=List.replicate k 48
 | 0=>rfl
 | k+1=>by
   show Gr k (0 / 10) ++ [_]=_
   rw [show 0 / 10=0 from rfl,MF k,List.replicate_succ']; rfl
theorem Lh:∀ (k m:Nat),1≤k→m < 10 ^ k→Gr k m=List.replicate (k - (decDigits m).length) 48 ++ decDigits m
 | 0,m,h,_=>by omega
 | k+1,m,_,hm=>by
   show Gr k (m / 10) ++ [_]=_
   by_cases h:m < 10
   ·rw [SK h,Hd h,CH h,MF]; rfl
   ·have hk:1≤k:=by
     by_cases h0:k=0
     ·subst h0; simp at hm; omega
     ·omega
    rw [Br] at hm
    rw [Lh k (m / 10) hk (by omega),RM (n:=m) (by omega),Ar,Mt,Bd,Nat.add_sub_add_right]
theorem KO (k m:Nat) (hk:1≤k) (hm:m < 10 ^ k):(decDigits m).length≤k:=by
 rw [decDigits_length]; exact G4 k m hk hm
theorem OH:∀ (k m:Nat),∀ c ∈ Gr k m,48≤c.toNat∧c.toNat≤57
 | 0,m=>fun c hc=>by cases hc
 | k+1,m=>fun c hc=>by
   rcases BD.1 (show c ∈ Gr k (m / 10) ++ [_] from hc) with h | h
   ·exact OH k _ c h
   ·simp only [AX] at h; subst h; rw [EX (m % 10) (by omega)]; omega
theorem OG:∀ (k m:Nat),m < 10 ^ k→Bh 0 (Gr k m)=m
 | 0,m,h=>by have h:m < 1:=h; show 0=m; omega
 | k+1,m,h=>by
   rw [Br] at h
   show Bh 0 (Gr k (m / 10) ++ [_])=m
   rw [Ee,OG k (m / 10) (by omega)]
   show m / 10 * 10+((UInt8.ofNat (48+m % 10)).toNat - 48)=m
   rw [EX (m % 10) (by omega)]; omega
def C0 (m:Nat):List Int:=if m < 1000000000 then [(m:Int)] else ((m % 1000000000:Nat):Int) :: C0 (m / 1000000000)
termination_by m
decreasing_by omega
theorem G8 {m:Nat} (h:m < 1000000000):C0 m=[(m:Int)]:=by rw [C0,Ai h]
theorem LK {m:Nat} (h:1000000000≤m):C0 m=((m % 1000000000:Nat):Int) :: C0 (m / 1000000000):=by rw [C0,Ag (by omega)]
theorem Ps:∀ m,0 < m→C0 m=digs m:=fun m=>by
 induction m using Nat.strongRecOn with
 | _ m ih=>
   intro h
   by_cases h9:m < 1000000000
   ·rw [G8 h9,Pk h h9]
   ·rw [LK (by omega),Cd h,ih _ (by omega) (by omega)]
theorem Kk (m:Nat):BA (C0 m)=digs m:=by
 by_cases h:m=0
 ·subst h; rw [G8 (by omega),Bw]; rfl
 ·rw [Ps m (by omega)]; exact EM _
theorem LF {m:Nat} (h:1000000000≤m):decDigits m=decDigits (m / 1000000000) ++ Gr 9 (m % 1000000000):=by
 have:=M4 9 (m / 1000000000) (m % 1000000000) (by omega) (by show _ < 1000000000; omega)
 rw [← this]
 congr 1
 show m=m / 1000000000 * 1000000000+m % 1000000000
 omega
theorem EW:∀ (i n:Nat),(digs n).drop i=digs (n / 1000000000 ^ i)
 | 0,n=>by rw [Fa,Em,E9]
 | i+1,n=>by
   by_cases h:n=0
   ·subst h; rw [Bw,Nat.zero_div,Bw,List.drop_nil]
   ·rw [Cd (by omega),List.drop_succ_cons,EW i,BF,Br,Di]
attribute [local go_sem ↓] Go.wp_at_zero Go.wp_at_succ
def Kr (m:Nat) (T:List UInt8) (out:List Int):Prop:=(T=[]∧out=C0 m)∨∃ m',T=decDigits m'∧out ++ C0 m'=C0 m
theorem Kr.step {m m':Nat} {out:List Int} (hb:out ++ C0 m'=C0 m):∃ (q r:Nat) (T1 T2:List UInt8),decDigits m'=T1 ++ T2∧T1.length=q∧T2.length=r∧1≤r∧r≤9∧(9 < q+r→r=9)∧(q+r≤9→q=0) ∧
 (∀ c,c ∈ T2→48≤c.toNat∧c.toNat≤57)∧Bh 0 T2 < 1000000000∧Kr m T1 (out ++ [(Bh 0 T2:Int)]):=by
 by_cases hbig:1000000000≤m'
 ·have h1:0 < m' / 1000000000:=by omega
  have h2:=Li 9 (m' % 1000000000)
  have h3:=Cy.2 (EY (m' / 1000000000))
  have hv:=OG 9 (m' % 1000000000) (by show _ < 1000000000; omega)
  refine ⟨_,9,decDigits (m' / 1000000000),Gr 9 (m' % 1000000000),LF hbig,rfl,h2,by omega,by omega,fun _=>rfl,fun h=>by omega,OH _ _,by rw [hv]; omega,.inr ⟨_,rfl, ?_⟩⟩
  rw [hv,← hb,LK hbig,Bd]; rfl
 ·have h9:=KO 9 m' (by omega) (by show _ < 1000000000; omega)
  have h1:=Cy.2 (EY m')
  refine ⟨0,_,[],decDigits m',rfl,rfl,rfl,by omega,h9,fun h=>by omega,fun _=>rfl,B6 _,by rw [B5]; omega,.inl ⟨rfl, ?_⟩⟩
  rw [B5,← hb,G8 (by omega)]
theorem M0 (T:List UInt8) (hT:∀ c,c ∈ T→48≤c.toNat∧c.toNat≤57) (hv:Bh 0 T < 1000000000) (j:Nat) (hj:j < T.length):48≤(T[j]'hj).toNat∧(T[j]'hj).toNat≤57∧Bh 0 (T.take (j+1))=10 * Bh 0 (T.take j)+((T[j]'hj).toNat - 48)∧Bh 0 (T.take j) < 1000000000:=by
 obtain ⟨h1,h2⟩:=hT _ (AG hj)
 refine ⟨h1,h2, ?_, ?_⟩
 ·rw [Ti hj,Ee,LE]
 ·have:=M3 (T.take j) (T.drop j) 0 (fun c hc=>hT c (Oa hc))
  rw [EJ] at this
  omega
theorem Xz (T1 T2:List UInt8) (q:Nat) (h:T1.length=q):(tb (T1 ++ T2)).extract 0 q=tb T1:=by
 rw [K4,← h,Yc]; rfl
theorem WG (u:Nat) (w:World) (hs:(tx (u:Int)).size≤1000000) :
 Calls Tryz.prog 119 #[.string (tx (u:Int))] w fun e w'=>∃ a' c',e=.returned (.slice a' (digs u).length c')∧El w' iv a' (digs u)∧(digs u).length≤c'∧Fr w w':=by
 obtain ⟨i0,hi,hz0,hz1,hz2⟩:=AZ C6
 have h0:tx (u:Int)=tb (decDigits u):=by rw [Id,BV (by omega),AR]
 rw [h0,DU] at hs
 rw [h0]
 obtain ⟨N,hN⟩:∃ N,N=(decDigits u).length:=⟨_,rfl⟩
 rw [← hN] at hs
 have hT0:Hid (Kr u (decDigits u) []):=.inr ⟨u,rfl,rfl⟩
 replace hN:=hZ hN
 clear h0
 go_enter Tryz.func119,Tryz.ntmps119
 go_wp2_with fail
 go_loopg [0,3] N (fun gk s0 s3 wr=>∃ (T:List UInt8) (out:List Int) (i:Nat),s0=.string (tb T)∧T.length≤gk∧i+T.length≤N∧Fr w wr∧Hid (wr.ownsRow w.heap.size 3 1 s3 i (out.map iv))∧Hid (out.length=i)∧Hid (Kr u T out))
 case atStart=>exact ⟨_,[],0,rfl,by rw [hN.out]; exact Ah _,by rw [hN.out]; omega,Fr.refl _,Bl _ _ _ _,rfl,hT0.out⟩
 case round=>
  clear hT0
  obtain ⟨T,out,i,rfl,hTk,hiT,hf,hown,hol,hTs⟩:=hrel
  obtain ⟨ko,rfl⟩:∃ ko:Nat,ko=gk:=⟨_,rfl⟩
  rcases hTs.out with ⟨rfl,hch⟩ | ⟨m',rfl,hch⟩
  ·subst hch
   have hsz:(tb []).size=0:=rfl
   have hown9:=hown.out
   rw [← hol.out] at hown9
   obtain ⟨a9,c9,rfl,he9,hc9,-⟩:=Gt hown9
   have htr:=hZ (IA (C0 u) a9 c9 wr he9 (by rw [hol.out]; omega) hc9)
   have hq:Hid (BA (C0 u)=digs u):=Kk u
   have hE:=hZ (GX he9)
   have hle:=(BS (C0 u)).2
   rw [hq.out] at htr hE hle
   clear hown9 he9
   go_wp2_with fail
   refine htr.out.mono ?_
   rintro e w3 ⟨rfl,hf3⟩
   go_wp2_with fail
   go_ret
   exact ⟨_,_,rfl,hE.out.fr hf3,by omega,hf.trans hf3⟩
  ·obtain ⟨q,r,T1,T2,hT,hq,hr,r1,r9,hb1,hb2,hd,hv,hTs2⟩:=Kr.step hch
   rw [hT,Ar,hq,hr] at hTk hiT
   rw [hT]
   have hSs:(tb (T1 ++ T2)).size=q+r:=by rw [DU,Ar,hq,hr]
   have hpre:=hZ (Xz T1 T2 q hq)
   have hdg:Hid (∀ (j:Nat),j < r→∃ c:UInt8,(∀ h:q+j < (tb (T1 ++ T2)).size,(tb (T1 ++ T2))[q+j]'h=c)∧48≤c.toNat∧c.toNat≤57∧Bh 0 (T2.take (j+1))=10 * Bh 0 (T2.take j)+(c.toNat - 48)∧Bh 0 (T2.take j) < 1000000000):=fun j hj=>by
    obtain ⟨h1,h2,h3,h4⟩:=M0 T2 hd hv j (by omega)
    refine ⟨T2[j]'(by omega),fun h=>?_,h1,h2,h3,h4⟩
    exact (Xh (T1 ++ T2) (q+j) h (by rw [Ar]; omega)).trans (by rw [List.getElem_append_right (by omega)]; simp [hq])
   have hdv:Hid (Bh 0 (T2.take r) < 1000000000):=by show _ < _; rw [Ao (by omega)]; exact hv
   have hTs:Hid (Kr u T1 (out ++ [(Bh 0 (T2.take r):Int)])):=by show Kr _ _ _; rw [Ao (by omega)]; exact hTs2
   have hTsz:=hZ (show (tb T1).size=q by rw [DU,hq])
   generalize tb (T1 ++ T2)=S at *
   have z0:decide ((0:Int) < (S.size:Int))=true:=Ab (by omega)
   replace hq:=hZ hq
   replace hr:=hZ hr
   replace hd:=hZ hd
   replace hv:=hZ hv
   replace hTs2:=hZ hTs2
   replace hT:=hZ hT
   clear hch
   by_cases hbig:9 < q+r
   ·have hr9:=hb1 hbig
    have z1:decide ((9:Int) < (S.size:Int))=true:=Ab (by omega)
    have hw1:IntKind.i64.wrap ((S.size:Int) - 9)=(q:Int):=by rw [show (S.size:Int) - 9=(q:Int) by omega]; exact Ak _ (by omega)
    clear hb1 hb2
    go_wp2_with fail
    go_loopg [5,6] r (fun k s5 s6 wr2=>∃ j:Nat,s6=.int .i64 ((q:Int)+(j:Int))∧s5=.int .i64 (Bh 0 (T2.take j):Nat)∧j+k=r∧wr2=wr)
    case atStart=>exact ⟨0,congrArg (Value.int IntKind.i64) (by first | omega | (have:=hq0.out; omega)),rfl,by omega,rfl⟩
    case round=>
     obtain ⟨j,rfl,rfl,hjk,rfl⟩:=hrel
     by_cases hj:j < r
     ·obtain ⟨c,hc,hc1,hc2,hcv,hcb⟩:=hdg.out j hj
      have dj:decide ((q:Int)+(j:Int) < (S.size:Int))=true:=Ab (by omega)
      have y0:(0:Int)≤(q:Int)+(j:Int):=by omega
      have y1:(q:Int)+(j:Int) < (S.size:Int):=by omega
      have y2:((q:Int)+(j:Int)).toNat=q+j:=by omega
      have hu:IntKind.u8.wrap ((c.toNat:Int) - 48)=(c.toNat:Int) - 48:=P2 _ (by omega)
      have hu2:(c.toNat:Int) - 48=((c.toNat - 48:Nat):Int):=by omega
      generalize Bh 0 (T2.take j)=V at *
      have hw9:IntKind.i64.wrap (10 * (V:Int))=10 * (V:Int):=Ak _ (by omega)
      go_wp2_with fail
      go_roundg (gk - 1)
      case measure=>omega
      case rel=>exact ⟨j+1,by go_num,by rw [hcv]; exact congrArg (Value.int IntKind.i64) (by omega),by omega,rfl⟩
     ·obtain rfl:j=r:=by omega
      have dj:decide ((q:Int)+(j:Int) < (S.size:Int))=false:=Aa (by omega)
      have hV9:=hdv.out
      generalize Bh 0 (T2.take j)=V at *
      have hownG:=hown.out
      go_wp2_with (at_builtin; refine wpList_append_lies _ rfl _ _ 23 (by rfl) _ 3 _ _ 1 8 Tryz.underlying23 hi hz0 hz1 hz2 rfl (by decide) _ i _ (by rfl) (Az hownG _) ⟨wr.heap.size,0,none⟩ 1 1 [.int .i64 V] (by rfl) rfl (AK _ _ _ _ (by simp)) (by simp [Value.oneCell']) (by decide) (by unfold maxLen; omega) (by omega) (by have:=hf.size; simp; omega) (wr.heap.size+1) (by simp) ?_; intro gA capA wA hownA hgrowA hatA hltA)
      go_wp2_with fail
      go_roundg (ko - 1)
      case measure=>omega
      case rel=>exact ⟨T1,out ++ [(V:Int)],i+1,(by rw [hpre.out]),by have:=hq.out; omega,by have:=hq.out; omega,(hf.alloc _).grown hgrowA (fun k e=>(hown.out.lt k e).1),by show World.ownsRow _ _ _ _ _ _ _; rw [Ay]; exact hownA,by show _=_; rw [Ar,hol.out]; rfl,hTs.out⟩
   ·have hq0:=hb2 (by omega)
    have hpre0:Hid (tb T1=ByteArray.empty):=by show _=_; rw [Bf (hq.out.trans hq0)]; rfl
    replace hq0:=hZ hq0
    have z1:decide ((9:Int) < (S.size:Int))=false:=Aa (by omega)
    clear hb1 hb2
    go_wp2_with fail
    go_loopg [5,6] r (fun k s5 s6 wr2=>∃ j:Nat,s6=.int .i64 ((q:Int)+(j:Int))∧s5=.int .i64 (Bh 0 (T2.take j):Nat)∧j+k=r∧wr2=wr)
    case atStart=>exact ⟨0,congrArg (Value.int IntKind.i64) (by first | omega | (have:=hq0.out; omega)),rfl,by omega,rfl⟩
    case round=>
     obtain ⟨j,rfl,rfl,hjk,rfl⟩:=hrel
     by_cases hj:j < r
     ·obtain ⟨c,hc,hc1,hc2,hcv,hcb⟩:=hdg.out j hj
      have dj:decide ((q:Int)+(j:Int) < (S.size:Int))=true:=Ab (by omega)
      have y0:(0:Int)≤(q:Int)+(j:Int):=by omega
      have y1:(q:Int)+(j:Int) < (S.size:Int):=by omega
      have y2:((q:Int)+(j:Int)).toNat=q+j:=by omega
      have hu:IntKind.u8.wrap ((c.toNat:Int) - 48)=(c.toNat:Int) - 48:=P2 _ (by omega)
      have hu2:(c.toNat:Int) - 48=((c.toNat - 48:Nat):Int):=by omega
      generalize Bh 0 (T2.take j)=V at *
      have hw9:IntKind.i64.wrap (10 * (V:Int))=10 * (V:Int):=Ak _ (by omega)
      go_wp2_with fail
      go_roundg (gk - 1)
      case measure=>omega
      case rel=>exact ⟨j+1,by go_num,by rw [hcv]; exact congrArg (Value.int IntKind.i64) (by omega),by omega,rfl⟩
     ·obtain rfl:j=r:=by omega
      have dj:decide ((q:Int)+(j:Int) < (S.size:Int))=false:=Aa (by omega)
      have hV9:=hdv.out
      generalize Bh 0 (T2.take j)=V at *
      have hownG:=hown.out
      go_wp2_with (at_builtin; refine wpList_append_lies _ rfl _ _ 23 (by rfl) _ 3 _ _ 1 8 Tryz.underlying23 hi hz0 hz1 hz2 rfl (by decide) _ i _ (by rfl) (Az hownG _) ⟨wr.heap.size,0,none⟩ 1 1 [.int .i64 V] (by rfl) rfl (AK _ _ _ _ (by simp)) (by simp [Value.oneCell']) (by decide) (by unfold maxLen; omega) (by omega) (by have:=hf.size; simp; omega) (wr.heap.size+1) (by simp) ?_; intro gA capA wA hownA hgrowA hatA hltA)
      go_wp2_with fail
      go_roundg (ko - 1)
      case measure=>omega
      case rel=>exact ⟨T1,out ++ [(V:Int)],i+1,(by rw [hpre0.out]),by have:=hq.out; omega,by have:=hq.out; omega,(hf.alloc _).grown hgrowA (fun k e=>(hown.out.lt k e).1),by show World.ownsRow _ _ _ _ _ _ _; rw [Ay]; exact hownA,by show _=_; rw [Ar,hol.out]; rfl,hTs.out⟩
theorem RK (u:Nat):∀ i,0 < u / 1000000000 ^ i→(decDigits (u / 1000000000 ^ i)).length+9 * i=(decDigits u).length
 | 0,_=>by simp
 | i+1,h=>by
   have e:u / 1000000000 ^ (i+1)=u / 1000000000 ^ i / 1000000000:=by rw [Br,BF]
   rw [e] at h ⊢
   have ih:=RK u i (by omega)
   have hb:1000000000≤u / 1000000000 ^ i:=by omega
   rw [LF hb,Ar,Li] at ih
   omega
theorem TW (u i:Nat) (h:0 < u / 1000000000 ^ (i+1)):tb (decDigits (u / 1000000000 ^ (i+1)) ++ Gr 9 (u / 1000000000 ^ i % 1000000000))=tx ((u / 1000000000 ^ i:Nat):Int):=by
 have e:u / 1000000000 ^ (i+1)=u / 1000000000 ^ i / 1000000000:=by rw [Br,BF]
 rw [e] at h ⊢
 generalize u / 1000000000 ^ i=v at *
 rw [Id,BV (Aj _),AR,LF (m:=v) (by omega)]
theorem HI {u i:Nat} {d:Int} (h:(digs u)[i]?=some d):0 < u / 1000000000 ^ i∧d=((u / 1000000000 ^ i % 1000000000:Nat):Int):=by
 have h1:=EW i u
 have h2:=CD h
 rw [h1] at h2
 by_cases h0:u / 1000000000 ^ i=0
 ·rw [h0,Bw] at h2; cases h2
 ·have hp:=QV h0
  rw [Cd hp] at h2
  injection h2 with h2
  exact ⟨hp,h2.symm⟩
theorem X0 (u:Nat) (a:Option Addr) (cap:Nat) (w:World) (hG:G w) (hel:El w iv a (digs u)) (hs:(tx (u:Int)).size≤10000000) (hl:(digs u).length≤10000000) :
 Calls Tryz.prog 161 #[.slice a (digs u).length cap] w fun e w'=>e=.returned (.string (tx (u:Int)))∧Fr w w':=by
 by_cases hu:u=0
 ·subst hu
  have e0:digs 0=[]:=Bw
  have e1:tx ((0:Nat):Int)=⟨#[48]⟩:=HP
  rw [e0,e1]
  go_enter Tryz.func161,Tryz.ntmps161
  go_wp2_with fail
  go_ret
  exact ⟨rfl,Fr.refl _⟩
 ·have htu:tx (u:Int)=tb (decDigits u):=by rw [Id,BV (by omega),AR]
  rw [htu,DU] at hs
  have hq:=hZ (fun i h=>RK u i h)
  have hstep:=hZ (fun i h=>TW u i h)
  have hget:=hZ (fun i d (h:(digs u)[i]?=some d)=>HI h)
  have hend:Hid (∀ i,i+1=(digs u).length→u / 1000000000 ^ i < 1000000000):=fun i hi=>by
   have h1:=EW (i+1) u
   rw [AQ (by omega)] at h1
   have h2:=Dv.1 h1.symm
   rw [Br,← BF] at h2
   omega
  have hp:0 < (digs u).length:=Cy.2 (fun e=>hu (Dv.1 e))
  have hf0:Hid (u / 1000000000 ^ 0=u):=by show _=_; simp
  obtain ⟨N,hN⟩:∃ N,N=(decDigits u).length:=⟨_,rfl⟩
  rw [← hN] at hs hq
  generalize hxs:digs u=xs at *
  obtain ⟨n,hn⟩:∃ n,n=xs.length:=⟨_,rfl⟩
  rw [← hn] at hl hp hend ⊢
  have hGf:=hZ (fun W (hW:Fr w W)=>hG.fr hW)
  obtain ⟨k0,hk0⟩:∃ k0,n=k0+1:=⟨n - 1,by omega⟩
  obtain ⟨b,o,d,rfl,-,hdk,hdc⟩:=hel.at (i:=k0) (by omega)
  obtain ⟨hd1,hd2⟩:=hget.out k0 d hdk
  have hd3:=hend.out k0 hk0.symm
  rw [CH hd3] at hd2
  have hit:=hZ (fun W (hW:Fr w W)=>EE d (by omega) (by omega) W (hGf.out _ hW))
  have e0:((n:Int) == 0)=false:=A2 (by omega)
  have z0:(0:Int)≤(k0:Int):=by omega
  have z1:(k0:Int) < (n:Int):=by omega
  have hw1:IntKind.i64.wrap ((n:Int) - 1)=(k0:Int):=by rw [show (n:Int) - 1=(k0:Int) by omega]; exact Ak _ (by omega)
  have hw2:IntKind.i64.wrap ((n:Int) - 2)=(k0:Int) - 1:=by rw [show (n:Int) - 2=(k0:Int) - 1 by omega]; exact Ak _ (by omega)
  replace hn:=hZ hn
  replace hxs:=hZ hxs
  replace htu:=hZ htu
  replace hdk:=hZ hdk
  replace hd2:=hZ hd2
  replace hN:=hZ hN
  replace hel:=hZ hel
  replace hk0:=hZ hk0
  clear hG hu
  go_enter Tryz.func161,Tryz.ntmps161
  go_wp2_with fail
  refine (hit.out _ (Fr.refl _)).mono ?_
  rintro e w1 ⟨rfl,hf1⟩
  rw [hd2.out]
  go_wp2_with fail
  go_loopg [3,4] k0 (fun gk s3 s4 wr=>∃ i:Int,s4=.int .i64 i∧i+1=gk∧gk≤k0∧s3=.string (tx ((u / 1000000000 ^ gk:Nat):Int))∧Fr w wr∧Hid (0 < u / 1000000000 ^ gk))
  case atStart=>exact ⟨_,rfl,by omega,Ah _,rfl,hf1,hd1⟩
  case round=>
   obtain ⟨i,rfl,hik,hgn,rfl,hf,hpos⟩:=hrel
   by_cases h0:gk=0
   ·subst h0
    obtain rfl:i=-1:=by omega
    have hf1:=hf0.out
    generalize u / 1000000000 ^ 0=v at *
    subst hf1
    go_wp2_with fail
    go_ret
    exact ⟨rfl,hf⟩
   ·obtain ⟨k,rfl⟩:∃ k,gk=k+1:=⟨gk - 1,by omega⟩
    obtain rfl:i=(k:Int):=by omega
    obtain ⟨b',o',c,hae,-,hck,hcc⟩:=(hel.out.fr hf).at (i:=k) (by have:=hn.out; have:=hk0.out; omega)
    injection hae with hae; injection hae with hb9 ho9
    subst hb9; subst ho9
    obtain ⟨hc1,hc2⟩:=hget.out k c hck
    have hst:=hstep.out k hpos.out
    have hsz:=hq.out (k+1) hpos.out
    have hpos2:=hZ hc1
    obtain ⟨dg,hdg⟩:∃ dg,dg=u / 1000000000 ^ k % 1000000000:=⟨_,rfl⟩
    have hdl:dg < 1000000000:=by omega
    rw [← hdg] at hst hc2
    have hpl:=KO 9 dg (by omega) (by show _ < 1000000000; exact hdl)
    have hpr:=Lh 9 dg (by omega) (by show _ < 1000000000; exact hdl)
    have hit:=hZ (fun W (hW:Fr w W)=>EE (dg:Int) (by omega) (by omega) W (hGf.out _ hW))
    subst hc2
    have htd:tx (dg:Int)=tb (List.replicate 0 48 ++ decDigits dg):=by rw [Id,BV (by omega),AR]; rfl
    have hts:tx ((u / 1000000000 ^ (k+1):Nat):Int)=tb (decDigits (u / 1000000000 ^ (k+1))):=by rw [Id,BV (Aj _),AR]
    rw [hts]
    obtain ⟨A9,hA9⟩:∃ A9,A9=decDigits (u / 1000000000 ^ (k+1)):=⟨_,rfl⟩
    rw [← hA9] at hst hsz ⊢
    obtain ⟨D9,hD9⟩:∃ D9,D9=decDigits dg:=⟨_,rfl⟩
    rw [← hD9] at hpl hpr htd
    have y0:(0:Int)≤(k:Int):=by omega
    have y1:(k:Int) < (n:Int):=by have:=hk0.out; omega
    have hAs:(tb A9).size=A9.length:=DU A9
    replace hst:=hZ hst
    replace hpr:=hZ hpr
    replace hA9:=hZ hA9
    replace hD9:=hZ hD9
    replace hdg:=hZ hdg
    replace hts:=hZ hts
    replace htd:=hZ htd
    replace hck:=hZ hck
    obtain ⟨ko,rfl⟩:∃ ko:Nat,ko=k:=⟨_,rfl⟩
    go_wp2_with fail
    refine (hit.out _ hf).mono ?_
    rintro e w2 ⟨rfl,hf2⟩
    rw [htd.out]
    go_wp2_with fail
    go_loopg [5] (9 - D9.length) (fun gk s5 wr2=>∃ j:Nat,s5=.string (tb (List.replicate j 48 ++ D9))∧j+D9.length+gk=9∧wr2=w2)
    case atStart=>exact ⟨0,rfl,by omega,rfl⟩
    case round=>
     obtain ⟨j,rfl,hjk,rfl⟩:=hrel
     have hSz:(tb (List.replicate j 48 ++ D9)).size=j+D9.length:=by rw [DU,Ar,AO]
     by_cases hj:gk=0
     ·subst hj
      have dj:decide (((tb (List.replicate j 48 ++ D9)).size:Int) < 9)=false:=Aa (by omega)
      have hfin:Hid (tb A9 ++ tb (List.replicate j 48 ++ D9)=tx ((u / 1000000000 ^ ko:Nat):Int)):=by
       show _=_
       rw [← hst.out,hpr.out,TB,show 9 - D9.length=j by omega]
      generalize tb (List.replicate j 48 ++ D9)=S at *
      have v1:¬ (9223372036854775807 < (tb A9).size+S.size):=by omega
      go_wp2_with fail
      go_roundg ko
      case measure=>omega
      case rel=>exact ⟨_,rfl,by omega,by omega,by rw [hfin.out],hf.trans hf2,hpos2⟩
     ·have dj:decide (((tb (List.replicate j 48 ++ D9)).size:Int) < 9)=true:=Ab (by omega)
      have hfin:Hid ((⟨#[48]⟩:ByteArray) ++ tb (List.replicate j 48 ++ D9)=tb (List.replicate (j+1) 48 ++ D9)):=by
       show _=_
       have e:(⟨#[48]⟩:ByteArray)=tb [48]:=rfl
       rw [e,TB]; rfl
      have hSe:Hid (∀ T,T=tb (List.replicate j 48 ++ D9)→(⟨#[48]⟩:ByteArray) ++ T=tb (List.replicate (j+1) 48 ++ D9)):=fun T hT=>by rw [hT]; exact hfin.out
      generalize tb (List.replicate j 48 ++ D9)=S at *
      have v1:¬ (9223372036854775807 < 1+S.size):=by omega
      have v2:¬ (9223372036854775807 < (⟨#[48]⟩:ByteArray).size+S.size):=by show ¬ (9223372036854775807 < 1+S.size); omega
      go_wp2_with fail
      go_roundg (gk - 1)
      case measure=>omega
      case rel=>exact ⟨j+1,by rw [hfin.out],by omega,rfl⟩
def G1 (neg:Bool) (u:Nat):Int:=if neg then -(u:Int) else (u:Int)
theorem GK (neg:Bool) (u:Nat) (l:List Int) (hlu:BA l=digs u) (a:Option Addr) (cap:Nat) (w:World) (hG:G w) (hel:El w iv a l) (hs:(tx (u:Int)).size≤10000000) (hl:l.length≤4000000) (hc:l.length≤cap) :
 Calls Tryz.prog 122 #[.bool neg,.slice a l.length cap] w fun e w'=>e=.returned (.string (tx (G1 neg u)))∧Fr w w':=by
 have ht:=hZ (fun W (hW:Fr w W)=>IA l a cap W (hel.fr hW) hl hc)
 have hle:=(BS l).2
 have hE:=GX hel
 rw [hlu] at ht hle hE
 have hj:=hZ (fun W (hW:Fr w W)=>X0 u a cap W (hG.fr hW) (hE.fr hW) hs (by omega))
 have h0:(digs u).length=0 ↔ u=0:=by rw [Ky,Dv]
 generalize digs u=xs at *
 obtain ⟨n,hn⟩:∃ n,n=xs.length:=⟨_,rfl⟩
 rw [← hn] at ht hj h0 hle
 replace hn:=hZ hn
 replace hE:=hZ hE
 replace hlu:=hZ hlu
 clear hG
 cases neg with
 | false=>
   have hfin:=hZ (show tx (G1 false u)=tx (u:Int) from rfl)
   clear h0
   go_enter Tryz.func122,Tryz.ntmps122
   go_wp2_with fail
   refine (ht.out _ (Fr.refl _)).mono ?_
   rintro e w1 ⟨rfl,hf1⟩
   go_wp2_with fail
   refine (hj.out _ hf1).mono ?_
   rintro e w2 ⟨rfl,hf2⟩
   go_wp2_with fail
   go_ret
   exact ⟨by rw [hfin.out]; rfl,hf1.trans hf2⟩
 | true=>
   by_cases hu:u=0
   ·have hfin:=hZ (show tx (G1 true u)=tx (u:Int) by subst hu; rfl)
    have z0:decide (0 < n)=false:=Aa (by omega)
    have z1:decide ((0:Int) < (n:Int))=false:=Aa (by omega)
    replace hu:=hZ hu
    clear h0
    go_enter Tryz.func122,Tryz.ntmps122
    go_wp2_with fail
    refine (ht.out _ (Fr.refl _)).mono ?_
    rintro e w1 ⟨rfl,hf1⟩
    go_wp2_with fail
    refine (hj.out _ hf1).mono ?_
    rintro e w2 ⟨rfl,hf2⟩
    go_wp2_with fail
    go_ret
    exact ⟨by rw [hfin.out]; rfl,hf1.trans hf2⟩
   ·have hfin:=hZ (show (⟨#[45]⟩:ByteArray) ++ tx (u:Int)=tx (G1 true u) from Nl (by omega))
    have z0:decide (0 < n)=true:=Ab (by omega)
    have z1:decide ((0:Int) < (n:Int))=true:=Ab (by omega)
    obtain ⟨S,hS⟩:∃ S,S=tx (u:Int):=⟨_,rfl⟩
    rw [← hS] at hs hj hfin
    have v1:¬ (9223372036854775807 < 1+S.size):=by omega
    have v2:¬ (9223372036854775807 < (⟨#[45]⟩:ByteArray).size+S.size):=by show ¬ (9223372036854775807 < 1+S.size); omega
    replace hu:=hZ hu
    replace hS:=hZ hS
    clear h0
    go_enter Tryz.func122,Tryz.ntmps122
    go_wp2_with fail
    refine (ht.out _ (Fr.refl _)).mono ?_
    rintro e w1 ⟨rfl,hf1⟩
    go_wp2_with fail
    refine (hj.out _ hf1).mono ?_
    rintro e w2 ⟨rfl,hf2⟩
    go_wp2_with fail
    go_ret
    exact ⟨by rw [← hfin.out]; rfl,hf1.trans hf2⟩

def Bn (k:Nat) (n:Int):Prop:=n.natAbs < 10 ^ k
theorem Bn.mono {j k:Nat} {n:Int} (h:Bn j n) (hk:j≤k):Bn k n:=Aq h (BP (by decide) hk)
theorem Bn.size {k:Nat} {n:Int} (h:Bn k n):(tx (n.natAbs:Int)).size≤k+1:=by
 rw [Do,BV (Aj _),AR]
 exact KO (k+1) n.natAbs (by omega) (Bn.mono h (by omega))
theorem Bn.size2 {k:Nat} {n:Int} (h:Bn k n):(tx n).size≤k+2:=by
 have h1:=h.size
 rw [Do,BV (Aj _),AR] at h1
 rw [Do]
 by_cases hn:n < 0
 ·rw [Fd hn,Aw]; omega
 ·rw [BV (by omega),show n.toNat=n.natAbs by omega]; omega
theorem Bn.digs {k:Nat} {n:Int} (h:Bn k n):(Go.Proofs.YtiniigadkknboaaGreatDoor.digs n.natAbs).length≤k:=by
 refine Ed k n.natAbs (Aq h ?_)
 exact Nat.pow_le_pow_left (by decide) k
theorem Bn.abs {k:Nat} {n:Int} (h:Bn k n):Bn k (n.natAbs:Int):=h
theorem Bn.neg {k:Nat} {n:Int} (h:Bn k n):Bn k (-n):=by unfold Bn at *; rw [Dr]; exact h
theorem Bn.add {k:Nat} {a b:Int} (ha:Bn k a) (hb:Bn k b):Bn (k+1) (a+b):=by
 unfold Bn at *
 have h1:=Int.natAbs_add_le a b
 rw [Br]
 omega
theorem Bn.sub {k:Nat} {a b:Int} (ha:Bn k a) (hb:Bn k b):Bn (k+1) (a - b):=by
 rw [Int.sub_eq_add_neg]; exact ha.add hb.neg
theorem Bn.mul {j k:Nat} {a b:Int} (ha:Bn j a) (hb:Bn k b):Bn (j+k) (a * b):=by
 unfold Bn at *
 rw [Be,C1]
 exact Kw ha hb
theorem EO {n:Int} (h:(tx (n.natAbs:Int)).size≤18):RU n:=by
 rw [Do,BV (Aj _),AR] at h
 have h1:=(Cr (decDigits n.natAbs) 0 (B6 _)).2
 rw [B5,AN,E8] at h1
 have h2:10 ^ (decDigits n.natAbs).length≤10 ^ 18:=BP (by decide) h
 have h3:n.natAbs < 1000000000000000000:=Aq h1 h2
 unfold RU
 omega
theorem Ve (n:Int) (hn:¬ (tx (n.natAbs:Int)).size≤18) (w:World) (hs:(tx n).size≤1000000000) :
 Calls Tryz.prog 118 #[.string (tx n)] w fun e w'=>e=.returned (.tuple #[.int .i64 0,.bool false])∧w=w':=by
 have hd:=hZ (fun W=>HK n W hs)
 generalize tx (n.natAbs:Int)=u at *
 have d0:decide ((18:Int) < (u.size:Int))=true:=Ab (by omega)
 go_enter Tryz.func118,Tryz.ntmps118
 go_wp2_with fail
 refine (hd.out _).mono ?_
 rintro e w1 ⟨rfl,rfl⟩
 go_wp2_with fail
 go_ret2
 exact ⟨rfl,rfl⟩
def sd (n:Int):Int:=if n < 0 then -1 else 1
theorem JU (n:Int) (w:World) :
 Calls Tryz.prog 121 #[.string (tx n)] w fun e w'=>e=.returned (.int .i64 (sd n))∧w=w':=by
 have hsg:=hZ (fun W=>Vh n W)
 by_cases h:n < 0
 ·have hfin:=hZ (show sd n=-1 by unfold sd; rw [Ai h])
  have d0:decide (n.sign < 0)=true:=Ab (by rw [Int.sign_eq_neg_one_of_neg h]; decide)
  generalize n.sign=s at *
  go_enter Tryz.func121,Tryz.ntmps121
  go_wp2_with fail
  refine (hsg.out _).mono ?_
  rintro e w1 ⟨rfl,rfl⟩
  go_wp2_with fail
  go_ret
  exact ⟨Cv hfin.out.symm,rfl⟩
 ·have hfin:=hZ (show sd n=1 by unfold sd; rw [Ag h])
  have d0:decide (n.sign < 0)=false:=Aa (by first | (rcases Ce n 0 with h9 | h9 | h9; exact absurd h9 h; (rw [h9]; decide); (rw [Int.sign_eq_one_of_pos h9]; decide)))
  generalize n.sign=s at *
  go_enter Tryz.func121,Tryz.ntmps121
  go_wp2_with fail
  refine (hsg.out _).mono ?_
  rintro e w1 ⟨rfl,rfl⟩
  go_wp2_with fail
  go_ret
  exact ⟨Cv hfin.out.symm,rfl⟩
theorem F5 (n:Int) (k:Nat) (hk:k≤100000) (h:Bn k n):∃ v b,(b=true→v=n∧RU n)∧(b=true∨b=false)∧Hid (∀ W,Calls Tryz.prog 118 #[.string (tx n)] W fun e w'=>e=.returned (.tuple #[.int .i64 v,.bool b])∧W=w'):=by
 have h2:=h.size2
 by_cases hn:(tx (n.natAbs:Int)).size≤18
 ·exact ⟨n,true,fun _=>⟨rfl,EO hn⟩,.inl rfl,fun W=>E4 n (EO hn) W⟩
 ·exact ⟨0,false,(fun e=>by cases e),.inr rfl,fun W=>Ve n hn W (by omega)⟩
theorem GL (n:Int) (k:Nat) (hk:k≤100000) (h:Bn k n):Hid (∀ W,Calls Tryz.prog 120 #[.string (tx n)] W fun e w'=>e=.returned (.string (tx (n.natAbs:Int)))∧W=w') ∧
 Hid (∀ W,Calls Tryz.prog 119 #[.string (tx (n.natAbs:Int))] W fun e w'=>∃ a' c',e=.returned (.slice a' (digs n.natAbs).length c')∧El w' iv a' (digs n.natAbs)∧(digs n.natAbs).length≤c'∧Fr W w'):=by
 have h1:=h.size
 have h2:=h.size2
 exact ⟨fun W=>HK n W (by omega),fun W=>WG n.natAbs W (by omega)⟩
theorem TM {a b:Int} (h:sd a=sd b):G1 (decide (sd a < 0)) (a.natAbs+b.natAbs)=a+b:=by
 unfold sd at *
 unfold G1
 by_cases ha:a < 0
 ·rw [Ai ha] at h ⊢
  by_cases hb:b < 0
  ·rw [Ai (by decide)]; omega
  ·rw [Ag hb] at h; omega
 ·rw [Ag ha] at h ⊢
  by_cases hb:b < 0
  ·rw [Ai hb] at h; omega
  ·rw [Ag (by decide)]; omega
theorem Oo {a b:Int} (h:¬ sd a=sd b) (hle:b.natAbs≤a.natAbs):G1 (decide (sd a < 0)) (a.natAbs - b.natAbs)=a+b:=by
 unfold sd at *
 unfold G1
 by_cases ha:a < 0
 ·rw [Ai ha] at h ⊢
  by_cases hb:b < 0
  ·rw [Ai hb] at h; omega
  ·rw [Ai (by decide)]; omega
 ·rw [Ag ha] at h ⊢
  by_cases hb:b < 0
  ·rw [Ag (by decide)]; omega
  ·rw [Ag hb] at h; omega
theorem Vj (k:Nat) (hk:k≤90000) (a b:Int) (ha:Bn k a) (hb:Bn k b) (w:World) (hG:G w) :
 Calls Tryz.prog 79 #[.string (tx a),.string (tx b)] w fun e w'=>e=.returned (.string (tx (a+b)))∧Fr w w':=by
 obtain ⟨va,ba,ha1,ha2,hqa⟩:=F5 a k (by omega) ha
 obtain ⟨vb,bb,hb1,hb2,hqb⟩:=F5 b k (by omega) hb
 by_cases hboth:ba=true∧bb=true
 ·exact WI a b (ha1 hboth.1).2 (hb1 hboth.2).2 w hG
 ·obtain ⟨hda,hsa⟩:=GL a k (by omega) ha
  obtain ⟨hdb,hsb⟩:=GL b k (by omega) hb
  have hna:=hZ (fun W=>JU a W)
  have hnb:=hZ (fun W=>JU b W)
  have hla:=ha.digs
  have hlb:=hb.digs
  have hsum:=(ha.add hb)
  have hpl:=hZ (fun W p q c d (h1:El W iv p (digs a.natAbs)) (h2:El W iv q (digs b.natAbs))=>XZ (digs a.natAbs) (digs b.natAbs) p q c d W h1 h2 (BK _) (BK _) (by omega) (by omega))
  have hpd:CW (digs a.natAbs) (digs b.natAbs) 0=digs (a.natAbs+b.natAbs):=by
   have:=Qi (a.natAbs+b.natAbs) a.natAbs b.natAbs 0 (Ah _) (by omega)
   simpa using this
  rw [hpd] at hpl
  have hor:=hZ (fun W p q c d (h1:El W iv p (digs a.natAbs)) (h2:El W iv q (digs b.natAbs))=>RY a.natAbs b.natAbs p q c d W h1 h2 (by omega) (by omega))
  have hGf:=hZ (fun W (hW:Fr w W)=>hG.fr hW)
  by_cases hsd:sd a=sd b
  ·have hval:=TM hsd
   have hN:Bn (k+1) ((a.natAbs+b.natAbs:Nat):Int):=by
    show (((a.natAbs+b.natAbs:Nat):Int)).natAbs < _
    rw [AJ]
    have e:((a.natAbs:Int)+(b.natAbs:Int)).natAbs=a.natAbs+b.natAbs:=by omega
    have:=Bn.add ha.abs hb.abs
    unfold Bn at this
    rw [e] at this; exact this
   have hNs:=hN.size
   have hNd:=hN.digs
   rw [AJ] at hNs hNd
   have hsg:=hZ (fun W p c (hW:Fr w W) (h1:El W iv p (digs (a.natAbs+b.natAbs))) (h2:(digs (a.natAbs+b.natAbs)).length≤c)=>GK (decide (sd a < 0)) (a.natAbs+b.natAbs) _ (EM _) p c W (hGf.out _ hW) h1 (by omega) (by omega) h2)
   rw [hval] at hsg
   have e0:(sd a == sd b)=true:=by rw [hsd]; exact Ku _
   generalize digs a.natAbs=xa at *
   generalize digs b.natAbs=xb at *
   generalize digs (a.natAbs+b.natAbs)=xs at *
   generalize tx (a.natAbs:Int)=ta at *
   generalize tx (b.natAbs:Int)=tb' at *
   generalize tx (a+b)=ts at *
   generalize tx a=sa at *
   generalize tx b=sb' at *
   obtain ⟨za,hza⟩:∃ za,za=sd a:=⟨_,rfl⟩
   obtain ⟨zb,hzb⟩:∃ zb,zb=sd b:=⟨_,rfl⟩
   rw [← hza] at hna e0 hsg
   rw [← hzb] at hnb e0
   clear hG ha hb ha1 hb1 hpd hval hN hNs hNd hsum hsd hor hza hzb hla hlb
   go_enter Tryz.func79,Tryz.ntmps79
   go_wp2_with fail
   refine (hqa.out _).mono ?_; rintro e w1 ⟨rfl,rfl⟩
   go_wp2_with fail
   refine (hqb.out _).mono ?_; rintro e w1 ⟨rfl,rfl⟩
   rcases ha2 with rfl | rfl <;> rcases hb2 with rfl | rfl
   ·exact absurd ⟨rfl,rfl⟩ hboth
   all_goals
    clear hboth
    go_wp2_with fail
    refine (hda.out _).mono ?_; rintro e w1 ⟨rfl,rfl⟩
    go_wp2_with fail
    refine (hsa.out _).mono ?_; rintro e w1 ⟨pa,ca,rfl,hea,-,hf1⟩
    replace hea:=hZ hea
    go_wp2_with fail
    refine (hdb.out _).mono ?_; rintro e w2 ⟨rfl,rfl⟩
    go_wp2_with fail
    refine (hsb.out _).mono ?_; rintro e w2 ⟨pb,cb,rfl,heb,-,hf2⟩
    replace heb:=hZ heb
    go_wp2_with fail
    refine (hna.out _).mono ?_; rintro e w3 ⟨rfl,rfl⟩
    go_wp2_with fail
    refine (hnb.out _).mono ?_; rintro e w3 ⟨rfl,rfl⟩
    go_wp2_with fail
    refine (hna.out _).mono ?_; rintro e w3 ⟨rfl,rfl⟩
    go_wp2_with fail
    refine (hpl.out _ _ _ _ _ (hea.out.fr hf2) heb.out).mono ?_; rintro e w3 ⟨pc,cc,rfl,hec,hlc,hf3,-⟩
    replace hec:=hZ hec
    go_wp2_with fail
    refine (hsg.out _ _ _ ((hf1.trans hf2).trans hf3) hec.out hlc).mono ?_; rintro e w4 ⟨rfl,hf4⟩
    go_wp2_with fail
    go_ret
    exact ⟨rfl,((hf1.trans hf2).trans hf3).trans hf4⟩
  ·have e0:(sd a == sd b)=false:=A2 hsd
   have hmin:=hZ (fun W p q c d (h1:El W iv p (digs a.natAbs)) (h2:El W iv q (digs b.natAbs))=>N1 (digs a.natAbs) (digs b.natAbs) p q c d W h1 h2 (BK _) (BK _) (by omega) (by omega))
   have hmin2:=hZ (fun W p q c d (h1:El W iv p (digs b.natAbs)) (h2:El W iv q (digs a.natAbs))=>N1 (digs b.natAbs) (digs a.natAbs) p q c d W h1 h2 (BK _) (BK _) (by omega) (by omega))
   by_cases hle:b.natAbs≤a.natAbs
   ·have hval:=Oo hsd hle
    have hmd:BA (CN (digs a.natAbs) (digs b.natAbs) 0)=digs (a.natAbs - b.natAbs):=by
     have:=HB a.natAbs b.natAbs 0 (by omega) (by omega)
     simpa using this
    rw [hmd] at hmin
    have hN:Bn k ((a.natAbs - b.natAbs:Nat):Int):=by
     unfold Bn at *
     rw [AJ]; omega
    have hNs:=hN.size
    have hNd:=hN.digs
    rw [AJ] at hNs hNd
    have hsg:=hZ (fun W p c (hW:Fr w W) (h1:El W iv p (digs (a.natAbs - b.natAbs))) (h2:(digs (a.natAbs - b.natAbs)).length≤c)=>GK (decide (sd a < 0)) (a.natAbs - b.natAbs) _ (EM _) p c W (hGf.out _ hW) h1 (by omega) (by omega) h2)
    rw [hval] at hsg
    have e1:decide (0≤Ej a.natAbs b.natAbs)=true:=Ab (by unfold Ej; rw [Ag (by omega)]; split <;> decide)
    generalize Ej a.natAbs b.natAbs=oc at *
    generalize digs (a.natAbs - b.natAbs)=xs at *
    generalize digs a.natAbs=xa at *
    generalize digs b.natAbs=xb at *
    generalize tx (a.natAbs:Int)=ta at *
    generalize tx (b.natAbs:Int)=tb' at *
    generalize tx (a+b)=ts at *
    generalize tx a=sa at *
    generalize tx b=sb' at *
    obtain ⟨za,hza⟩:∃ za,za=sd a:=⟨_,rfl⟩
    obtain ⟨zb,hzb⟩:∃ zb,zb=sd b:=⟨_,rfl⟩
    rw [← hza] at hna e0 hsg
    rw [← hzb] at hnb e0
    clear hG ha hb ha1 hb1 hpd hval hN hNs hNd hsum hsd hza hzb hla hlb hmd hmin2 hpl hle
    go_enter Tryz.func79,Tryz.ntmps79
    go_wp2_with fail
    refine (hqa.out _).mono ?_; rintro e w1 ⟨rfl,rfl⟩
    go_wp2_with fail
    refine (hqb.out _).mono ?_; rintro e w1 ⟨rfl,rfl⟩
    rcases ha2 with rfl | rfl <;> rcases hb2 with rfl | rfl
    ·exact absurd ⟨rfl,rfl⟩ hboth
    all_goals
     clear hboth
     go_wp2_with fail
     refine (hda.out _).mono ?_; rintro e w1 ⟨rfl,rfl⟩
     go_wp2_with fail
     refine (hsa.out _).mono ?_; rintro e w1 ⟨pa,ca,rfl,hea,-,hf1⟩
     replace hea:=hZ hea
     go_wp2_with fail
     refine (hdb.out _).mono ?_; rintro e w2 ⟨rfl,rfl⟩
     go_wp2_with fail
     refine (hsb.out _).mono ?_; rintro e w2 ⟨pb,cb,rfl,heb,-,hf2⟩
     replace heb:=hZ heb
     go_wp2_with fail
     refine (hna.out _).mono ?_; rintro e w3 ⟨rfl,rfl⟩
     go_wp2_with fail
     refine (hnb.out _).mono ?_; rintro e w3 ⟨rfl,rfl⟩
     go_wp2_with fail
     refine (hor.out _ _ _ _ _ (hea.out.fr hf2) heb.out).mono ?_; rintro e w3 ⟨rfl,hf3⟩
     go_wp2_with fail
     refine (hna.out _).mono ?_; rintro e w4 ⟨rfl,rfl⟩
     go_wp2_with fail
     refine (hmin.out _ _ _ _ _ (hea.out.fr (hf2.trans hf3)) (heb.out.fr hf3)).mono ?_; rintro e w4 ⟨pc,cc,rfl,hec,hlc,hf4,-⟩
     replace hec:=hZ hec
     go_wp2_with fail
     refine (hsg.out _ _ _ (((hf1.trans hf2).trans hf3).trans hf4) hec.out hlc).mono ?_; rintro e w5 ⟨rfl,hf5⟩
     go_wp2_with fail
     go_ret
     exact ⟨rfl,(((hf1.trans hf2).trans hf3).trans hf4).trans hf5⟩
   ·have hval:G1 (decide (sd b < 0)) (b.natAbs - a.natAbs)=a+b:=by rw [Oo (fun e=>hsd e.symm) (by omega)]; omega
    have hmd:BA (CN (digs b.natAbs) (digs a.natAbs) 0)=digs (b.natAbs - a.natAbs):=by
     have:=HB b.natAbs a.natAbs 0 (by omega) (by omega)
     simpa using this
    rw [hmd] at hmin2
    have hN:Bn k ((b.natAbs - a.natAbs:Nat):Int):=by
     unfold Bn at *
     rw [AJ]; omega
    have hNs:=hN.size
    have hNd:=hN.digs
    rw [AJ] at hNs hNd
    have hsg:=hZ (fun W p c (hW:Fr w W) (h1:El W iv p (digs (b.natAbs - a.natAbs))) (h2:(digs (b.natAbs - a.natAbs)).length≤c)=>GK (decide (sd b < 0)) (b.natAbs - a.natAbs) _ (EM _) p c W (hGf.out _ hW) h1 (by omega) (by omega) h2)
    rw [hval] at hsg
    have e1:decide (0≤Ej a.natAbs b.natAbs)=false:=Aa (by unfold Ej; rw [Ai (by omega)]; decide)
    generalize Ej a.natAbs b.natAbs=oc at *
    generalize digs (b.natAbs - a.natAbs)=xs at *
    generalize digs a.natAbs=xa at *
    generalize digs b.natAbs=xb at *
    generalize tx (a.natAbs:Int)=ta at *
    generalize tx (b.natAbs:Int)=tb' at *
    generalize tx (a+b)=ts at *
    generalize tx a=sa at *
    generalize tx b=sb' at *
    obtain ⟨za,hza⟩:∃ za,za=sd a:=⟨_,rfl⟩
    obtain ⟨zb,hzb⟩:∃ zb,zb=sd b:=⟨_,rfl⟩
    rw [← hza] at hna e0
    rw [← hzb] at hnb e0 hsg
    clear hG ha hb ha1 hb1 hpd hval hN hNs hNd hsum hsd hza hzb hla hlb hmd hmin hpl hle
    go_enter Tryz.func79,Tryz.ntmps79
    go_wp2_with fail
    refine (hqa.out _).mono ?_; rintro e w1 ⟨rfl,rfl⟩
    go_wp2_with fail
    refine (hqb.out _).mono ?_; rintro e w1 ⟨rfl,rfl⟩
    rcases ha2 with rfl | rfl <;> rcases hb2 with rfl | rfl
    ·exact absurd ⟨rfl,rfl⟩ hboth
    all_goals
     clear hboth
     go_wp2_with fail
     refine (hda.out _).mono ?_; rintro e w1 ⟨rfl,rfl⟩
     go_wp2_with fail
     refine (hsa.out _).mono ?_; rintro e w1 ⟨pa,ca,rfl,hea,-,hf1⟩
     replace hea:=hZ hea
     go_wp2_with fail
     refine (hdb.out _).mono ?_; rintro e w2 ⟨rfl,rfl⟩
     go_wp2_with fail
     refine (hsb.out _).mono ?_; rintro e w2 ⟨pb,cb,rfl,heb,-,hf2⟩
     replace heb:=hZ heb
     go_wp2_with fail
     refine (hna.out _).mono ?_; rintro e w3 ⟨rfl,rfl⟩
     go_wp2_with fail
     refine (hnb.out _).mono ?_; rintro e w3 ⟨rfl,rfl⟩
     go_wp2_with fail
     refine (hor.out _ _ _ _ _ (hea.out.fr hf2) heb.out).mono ?_; rintro e w3 ⟨rfl,hf3⟩
     go_wp2_with fail
     refine (hnb.out _).mono ?_; rintro e w4 ⟨rfl,rfl⟩
     go_wp2_with fail
     refine (hmin2.out _ _ _ _ _ (heb.out.fr hf3) (hea.out.fr (hf2.trans hf3))).mono ?_; rintro e w4 ⟨pc,cc,rfl,hec,hlc,hf4,-⟩
     replace hec:=hZ hec
     go_wp2_with fail
     refine (hsg.out _ _ _ (((hf1.trans hf2).trans hf3).trans hf4) hec.out hlc).mono ?_; rintro e w5 ⟨rfl,hf5⟩
     go_wp2_with fail
     go_ret
     exact ⟨rfl,(((hf1.trans hf2).trans hf3).trans hf4).trans hf5⟩
theorem Vg (k:Nat) (hk:k≤90000) (a b:Int) (ha:Bn k a) (hb:Bn k b) (w:World) (hG:G w) :
 Calls Tryz.prog 168 #[.string (tx a),.string (tx b)] w fun e w'=>e=.returned (.string (tx (a - b)))∧Fr w w':=by
 have sb:=hb.size2
 go_enter Tryz.func168,Tryz.ntmps168
 go_wp2_with fail
 refine (YR b _ (by omega)).mono ?_; rintro e w1 ⟨rfl,rfl⟩
 go_wp2_with fail
 refine (Vj k hk a (-b) ha hb.neg _ hG).mono ?_; rintro e w3 ⟨rfl,hf3⟩
 go_wp2_with fail
 go_ret
 exact ⟨rfl,hf3⟩
theorem Oq (a b:Int):G1 (sd a != sd b) (a.natAbs * b.natAbs)=a * b:=by
 unfold G1 sd
 have h:=Be a b
 by_cases ha:a < 0
 ·rw [Ai ha]
  by_cases hb:b < 0
  ·rw [Ai hb,Ag (by decide),← h]
   have:=Int.mul_pos_of_neg_of_neg ha hb
   omega
  ·rw [Ag hb,Ai (by decide),← h]
   have:a * b≤0:=Q1 (by omega) (by omega)
   omega
 ·rw [Ag ha]
  by_cases hb:b < 0
  ·rw [Ai hb,Ai (by decide),← h]
   have:a * b≤0:=Int.mul_nonpos_of_nonneg_of_nonpos (by omega) (by omega)
   omega
  ·rw [Ag hb,Ag (by decide),← h]
   have:0≤a * b:=BR (by omega) (by omega)
   omega
theorem MM {a b:Int} (hs:(tx (a.natAbs:Int)).size+(tx (b.natAbs:Int)).size≤18):-9223372036854775808≤a * b∧a * b≤9223372036854775807:=by
 rw [Do,Do,BV (Aj _),BV (Aj _),AR,AR] at hs
 have h1:=(Cr (decDigits a.natAbs) 0 (B6 _)).2
 have h2:=(Cr (decDigits b.natAbs) 0 (B6 _)).2
 rw [B5,AN,E8] at h1 h2
 have h3:(a * b).natAbs < 10 ^ ((decDigits a.natAbs).length+(decDigits b.natAbs).length):=by
  rw [Be,C1]; exact Kw h1 h2
 have h4:10 ^ ((decDigits a.natAbs).length+(decDigits b.natAbs).length)≤10 ^ 18:=BP (by decide) hs
 have h5:(a * b).natAbs < 1000000000000000000:=Aq h3 h4
 generalize a * b=c at *
 omega
theorem Vi (j k:Nat) (hj:j≤40000) (hk:k≤40000) (a b:Int) (ha:Bn j a) (hb:Bn k b) (w:World) (hG:G w) :
 Calls Tryz.prog 80 #[.string (tx a),.string (tx b)] w fun e w'=>e=.returned (.string (tx (a * b)))∧Fr w w':=by
 by_cases hs:(tx (a.natAbs:Int)).size+(tx (b.natAbs:Int)).size≤18
 ·obtain ⟨m1,m2⟩:=MM hs
  exact WH a b (EO (by omega)) (EO (by omega)) hs m1 m2 w hG
 ·obtain ⟨hda,hsa⟩:=GL a j (by omega) ha
  obtain ⟨hdb,hsb⟩:=GL b k (by omega) hb
  have hna:=hZ (fun W=>JU a W)
  have hnb:=hZ (fun W=>JU b W)
  have hla:=ha.digs
  have hlb:=hb.digs
  have hta:=ha.size
  have htb:=hb.size
  have htm:=hZ (fun W p q c d (h1:El W iv p (digs a.natAbs)) (h2:El W iv q (digs b.natAbs))=>RX (digs a.natAbs) (digs b.natAbs) (a.natAbs * b.natAbs) (by rw [B4,B4]; exact (AM _ _).symm) p q c d W h1 h2 (BK _) (BK _) (by omega) (by omega))
  have hGf:=hZ (fun W (hW:Fr w W)=>hG.fr hW)
  have hval:=Oq a b
  have hN:Bn (j+k) ((a.natAbs * b.natAbs:Nat):Int):=by
   have:=ha.mul hb
   unfold Bn at *
   rw [AJ,← Be]; exact this
  have hNs:=hN.size
  have hNd:=hN.digs
  rw [AJ] at hNs hNd
  have hsg:=hZ (fun W p c (hW:Fr w W) (h1:El W iv p (digs (a.natAbs * b.natAbs))) (h2:(digs (a.natAbs * b.natAbs)).length≤c)=>GK (sd a != sd b) (a.natAbs * b.natAbs) _ (EM _) p c W (hGf.out _ hW) h1 (by omega) (by omega) h2)
  rw [hval] at hsg
  generalize a.natAbs * b.natAbs=ab at *
  generalize digs ab=xs at *
  generalize digs a.natAbs=xa at *
  generalize digs b.natAbs=xb at *
  generalize tx (a.natAbs:Int)=ta at *
  generalize tx (b.natAbs:Int)=tb' at *
  generalize tx (a * b)=ts at *
  generalize tx a=sa at *
  generalize tx b=sb' at *
  generalize sd a=za at *
  generalize sd b=zb at *
  have d0:decide ((ta.size:Int)+(tb'.size:Int)≤18)=false:=Aa (by omega)
  clear hG ha hb hval hN hNs hNd hla hlb
  go_enter Tryz.func80,Tryz.ntmps80
  go_wp2_with fail
  refine (hda.out _).mono ?_; rintro e w1 ⟨rfl,rfl⟩
  go_wp2_with fail
  refine (hdb.out _).mono ?_; rintro e w1 ⟨rfl,rfl⟩
  go_wp2_with fail
  refine (hna.out _).mono ?_; rintro e w1 ⟨rfl,rfl⟩
  go_wp2_with fail
  refine (hnb.out _).mono ?_; rintro e w1 ⟨rfl,rfl⟩
  go_wp2_with fail
  refine (hda.out _).mono ?_; rintro e w1 ⟨rfl,rfl⟩
  go_wp2_with fail
  refine (hsa.out _).mono ?_; rintro e w1 ⟨pa,ca,rfl,hea,-,hf1⟩
  replace hea:=hZ hea
  go_wp2_with fail
  refine (hdb.out _).mono ?_; rintro e w2 ⟨rfl,rfl⟩
  go_wp2_with fail
  refine (hsb.out _).mono ?_; rintro e w2 ⟨pb,cb,rfl,heb,-,hf2⟩
  replace heb:=hZ heb
  go_wp2_with fail
  refine (htm.out _ _ _ _ _ (hea.out.fr hf2) heb.out).mono ?_; rintro e w3 ⟨pc,cc,rfl,hec,hlc,hf3⟩
  replace hec:=hZ hec
  go_wp2_with fail
  refine (hsg.out _ _ _ ((hf1.trans hf2).trans hf3) hec.out hlc).mono ?_; rintro e w4 ⟨rfl,hf4⟩
  go_wp2_with fail
  go_ret
  exact ⟨rfl,((hf1.trans hf2).trans hf3).trans hf4⟩
end Go.Proofs.YtiniigadkknboaaGreatDoor
