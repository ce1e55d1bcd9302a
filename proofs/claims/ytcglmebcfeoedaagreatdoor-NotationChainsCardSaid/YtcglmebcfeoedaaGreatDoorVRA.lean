/- Contracts and laws: VRA. -/
import Derived.Test.YtcglmebcfeoedaaGreatDoorVA
import Derived.Test.YtcglmebcfeoedaaGreatDoorVC
import Derived.Test.YtcglmebcfeoedaaGreatDoorVB
import Derived.Deep.RegionHeld3
import Derived.Deep.Cut
import Derived.IntWalk
import Derived.Test.YtcglmebcfeoedaaGreatDoorVRF

set_option maxRecDepth 100000
set_option maxHeartbeats 2000000
namespace Go.Proofs.YtcglmebcfeoedaaGreatDoor
open Go.RowKit Go.Lib

attribute [local go_sem ↓] AA AB
theorem Ia {w:World} {base:Nat} {v:Value} {l:List Int} (h:w.ownsRow base 3 1 v l.length (l.map iv)):∃ a c,v=.slice a l.length c∧El w iv a l∧l.length≤c∧∀ ad,a=some ad→base≤ad.block:=by
 rcases h.2 with ⟨h1,h2⟩ | ⟨g,cap,cur,hv,_⟩
 ·have:=AD h2
  subst this
  exact ⟨none,0,h1,.inl rfl,Ag _,fun ad e=>by cases e⟩
 ·subst hv
  obtain ⟨-,h1,h2,h3,h4⟩:=Bf h
  refine ⟨_,_,rfl,.inr ⟨g,0,rfl,h2,fun i x hx=>?_⟩,h3,fun ad e=>by injection e with e; subst e; exact h1⟩
  rw [Az]
  exact (h4 i (iv x) (by rw [Ao,hx]; rfl)).1
theorem CK {l:List Int} {j:Nat} {x:Int} (h:l[j]?=some x):l.drop j=x :: l.drop (j+1):=by
 obtain ⟨h1,rfl⟩:=Ah.1 h
 exact B9 h1

theorem JA {n m:Nat} (h:n < m):EA n m=-1:=by unfold EA; rw [Aj h]
theorem K7 {n m:Nat} (h:m < n):EA n m=1:=by unfold EA; rw [Ai (by omega),Aj h]
theorem Q5 (n:Nat):EA n n=0:=by unfold EA; rw [Ai (by omega),Ai (by omega)]
def tb (l:List UInt8):ByteArray:=⟨l.toArray⟩
theorem Jx (l:List UInt8):(tb l).data.toList=l:=by simp [tb]
theorem EK (l:List UInt8):(tb l).size=l.length:=by simp [tb,ByteArray.size]
theorem TC (a b:List UInt8):tb a ++ tb b=tb (a ++ b):=by
 refine Il ?_
 rw [MY,IM,Jx,Jx,Jx]
theorem Lq (l:List UInt8) (i j:Nat):(tb l).extract i j=tb ((l.take j).drop i):=by
 refine Il ?_
 rw [Jx,GO,HS,Jx]
 rw [List.drop_take]
theorem Ju (n:Int):tx n=tb (itoa n):=rfl
def GV:Nat→Nat→List UInt8
 | 0,_=>[]
 | k+1,m=>GV k (m / 10) ++ [UInt8.ofNat (48+m % 10)]
theorem LH:∀ (k m:Nat),(GV k m).length=k
 | 0,_=>rfl
 | k+1,m=>by show (GV k (m / 10) ++ [_]).length=k+1; rw [Ar,LH k]; rfl
theorem RD {n:Nat} (h:10≤n):decDigits n=decDigits (n / 10) ++ [UInt8.ofNat (48+n % 10)]:=by
 rw [decDigits,Y2 (by omega)]
theorem SD {n:Nat} (h:n < 10):decDigits n=[UInt8.ofNat (48+n)]:=by rw [decDigits,dif_pos h]
theorem Nw:∀ (k a m:Nat),0 < a→m < 10 ^ k→decDigits (a * 10 ^ k+m)=decDigits a ++ GV k m
 | 0,a,m,ha,hm=>by
   have hm:m < 1:=hm
   obtain rfl:m=0:=by omega
   show decDigits (a * 1+0)=decDigits a ++ []
   rw [BJ,C9,Fi]
 | k+1,a,m,ha,hm=>by
   have e:a * 10 ^ (k+1)=a * 10 ^ k * 10:=by rw [Bj,PS]
   have hp:0 < a * 10 ^ k:=Vs ha (Fh (by decide))
   rw [Bj] at hm
   have ih:=Nw k a (m / 10) ha (by omega)
   rw [e]
   generalize a * 10 ^ k=q at *
   rw [RD (n:=q * 10+m) (by omega),show (q * 10+m) / 10=q+m / 10 by omega,show (q * 10+m) % 10=m % 10 by omega,ih,BF]
   rfl
theorem Nb:∀ k,GV k 0=List.replicate k 48
 | 0=>rfl
 | k+1=>by
   show GV k (0 / 10) ++ [_]=_
   rw [show 0 / 10=0 from rfl,Nb k,List.replicate_succ']; rfl
theorem LG:∀ (k m:Nat),1≤k→m < 10 ^ k→GV k m=List.replicate (k - (decDigits m).length) 48 ++ decDigits m
 | 0,m,h,_=>by omega
 | k+1,m,_,hm=>by
   show GV k (m / 10) ++ [_]=_
   by_cases h:m < 10
   ·rw [SD h,HJ h,CN h,Nb]; rfl
   ·have hk:1≤k:=by
     by_cases h0:k=0
     ·subst h0; simp at hm; omega
     ·omega
    rw [Bj] at hm
    rw [LG k (m / 10) hk (by omega),RD (n:=m) (by omega),Ar,Ze,BF,Nat.add_sub_add_right]
theorem Lb (k m:Nat) (hk:1≤k) (hm:m < 10 ^ k):(decDigits m).length≤k:=by
 rw [decDigits_length]; exact Hu k m hk hm
theorem OO:∀ (k m:Nat),∀ c ∈ GV k m,48≤c.toNat∧c.toNat≤57
 | 0,m=>fun c hc=>by cases hc
 | k+1,m=>fun c hc=>by
   rcases A5.1 (show c ∈ GV k (m / 10) ++ [_] from hc) with h | h
   ·exact OO k _ c h
   ·simp only [Bo] at h; subst h; rw [Fc (m % 10) (by omega)]; omega
theorem ON:∀ (k m:Nat),m < 10 ^ k→A4 0 (GV k m)=m
 | 0,m,h=>by have h:m < 1:=h; show 0=m; omega
 | k+1,m,h=>by
   rw [Bj] at h
   show A4 0 (GV k (m / 10) ++ [_])=m
   rw [DM,ON k (m / 10) (by omega)]
   show m / 10 * 10+((UInt8.ofNat (48+m % 10)).toNat - 48)=m
   rw [Fc (m % 10) (by omega)]; omega
def Dc (m:Nat):List Int:=if m < 1000000000 then [(m:Int)] else ((m % 1000000000:Nat):Int) :: Dc (m / 1000000000)
termination_by m
decreasing_by omega
theorem HC {m:Nat} (h:m < 1000000000):Dc m=[(m:Int)]:=by rw [Dc,Aj h]
theorem Mb {m:Nat} (h:1000000000≤m):Dc m=((m % 1000000000:Nat):Int) :: Dc (m / 1000000000):=by rw [Dc,Ai (by omega)]
theorem Pk:∀ m,0 < m→Dc m=digs m:=fun m=>by
 induction m using Nat.strongRecOn with
 | _ m ih=>
   intro h
   by_cases h9:m < 1000000000
   ·rw [HC h9,Pa h h9]
   ·rw [Mb (by omega),B6 h,ih _ (by omega) (by omega)]
theorem KP (m:Nat):Bu (Dc m)=digs m:=by
 by_cases h:m=0
 ·subst h; rw [HC (by omega),Bq]; rfl
 ·rw [Pk m (by omega)]; exact EY _
theorem L7 {m:Nat} (h:1000000000≤m):decDigits m=decDigits (m / 1000000000) ++ GV 9 (m % 1000000000):=by
 have:=Nw 9 (m / 1000000000) (m % 1000000000) (by omega) (by show _ < 1000000000; omega)
 rw [← this]
 congr 1
 show m=m / 1000000000 * 1000000000+m % 1000000000
 omega
theorem Fb:∀ (i n:Nat),(digs n).drop i=digs (n / 1000000000 ^ i)
 | 0,n=>by rw [DG,EE,Fj]
 | i+1,n=>by
   by_cases h:n=0
   ·subst h; rw [Bq,Nat.zero_div,Bq,List.drop_nil]
   ·rw [B6 (by omega),List.drop_succ_cons,Fb i,BC,Bj,EF]
theorem El.fxr {W W':World} {a:Option Addr} {l:List Int} {r:Nat} (h:El W iv a l) (k:Fx (·=r) W W') (hr:∀ ad,a=some ad→ad.block≠r):El W' iv a l:=by
 rcases h with h | ⟨b,o,ha,hb,hc⟩
 ·exact .inl h
 ·exact .inr ⟨b,o,ha,An hb k.size,fun i x hx=>k.keep (hc i x hx) (show b≠r from hr _ ha)⟩
def GU (d:Int):List Int→List Int→Int→List Int
 | [],_,_=>[]
 | o :: os,[],c=>if 0 < c then ((c+o) % 1000000000) :: GU d os [] ((c+o) / 1000000000) else o :: os
 | o :: os,b :: bs,c=>((c+o+d * b) % 1000000000) :: GU d os bs ((c+o+d * b) / 1000000000)
theorem K8 (d o b c:Int) (os bs:List Int):GU d (o :: os) (b :: bs) c=((c+o+d * b) % 1000000000) :: GU d os bs ((c+o+d * b) / 1000000000):=by rw [GU]
theorem JD (d o c:Int) (os:List Int):GU d (o :: os) [] c=if 0 < c then ((c+o) % 1000000000) :: GU d os [] ((c+o) / 1000000000) else o :: os:=by rw [GU]
theorem NN (d c:Int) (bs:List Int):GU d [] bs c=[]:=by rw [GU]
def pw:Nat→Int
 | 0=>1
 | n+1=>1000000000 * pw n
theorem Hq:∀ n,0 < pw n
 | 0=>by show (0:Int) < 1; omega
 | n+1=>by have:=Hq n; show 0 < 1000000000 * pw n; omega
theorem PV:∀ {l:List Int},Dg l→val l < pw l.length
 | [],_=>by show (0:Int) < 1; omega
 | d :: l,h=>by
   have h1:=h.cons.1
   have:=PV h.cons.2
   show d+1000000000 * val l < 1000000000 * pw l.length
   omega
theorem F3:∀ (a b:List Int),val (a ++ b)=val a+pw a.length * val b
 | [],b=>by show val b=0+1 * val b; omega
 | d :: a,b=>by
   show d+1000000000 * val (a ++ b)=d+1000000000 * val a+1000000000 * pw a.length * val b
   rw [F3 a b,Vu,YF]; omega
def Ir (d:Int) (os bs:List Int) (c:Int):Prop:=val os+d * val bs+c < pw os.length
theorem Ir.step {d o b c:Int} {os bs:List Int} (h:Ir d (o :: os) (b :: bs) c):Ir d os bs ((c+o+d * b) / 1000000000):=by
 unfold Ir at *
 have e:val (o :: os)+d * val (b :: bs)+c=(c+o+d * b)+1000000000 * (val os+d * val bs):=by
  show o+1000000000 * val os+d * (b+1000000000 * val bs)+c=_
  rw [Vu,Int.mul_left_comm d]; omega
 rw [e] at h
 have h:c+o+d * b+1000000000 * (val os+d * val bs) < 1000000000 * pw os.length:=h
 generalize val os+d * val bs=V at *
 generalize d * b=q at *
 omega
theorem Ir.step0 {d o c:Int} {os:List Int} (h:Ir d (o :: os) [] c):Ir d os [] ((c+o) / 1000000000):=by
 unfold Ir at *
 have h:o+1000000000 * val os+d * 0+c < 1000000000 * pw os.length:=h
 show val os+d * 0+_ < _
 rw [Dw] at h ⊢
 omega
theorem Ir.ne {d c:Int} {bs:List Int} (h:Ir d [] bs c) (hd:0≤d) (hb:Dg bs) (hc:0≤c):c=0:=by
 unfold Ir at h
 have h:0+d * val bs+c < 1:=h
 have:=Cv hd (I4 hb)
 omega
theorem Ly (d:Int):∀ (os bs:List Int) (c:Int),(GU d os bs c).length=os.length
 | [],bs,c=>by rw [NN]
 | o :: os,[],c=>by
   rw [JD]
   split
   ·rw [A3,A3,Ly d os]
   ·rfl
 | o :: os,b :: bs,c=>by rw [K8,A3,A3,Ly d os]
theorem NO {d:Int} (hd:0≤d∧d < 1000000000):∀ (os bs:List Int) (c:Int),Dg os→Dg bs→0≤c→Dg (GU d os bs c)
 | [],bs,c,_,_,_=>by rw [NN]; intro x hx; simp at hx
 | o :: os,[],c,ho,hb,hc=>by
   rw [JD]
   have h1:=ho.cons
   split
   ·exact Dg.mk (by omega) (NO hd os [] _ h1.2 hb (by omega))
   ·exact ho
 | o :: os,b :: bs,c,ho,hb,hc=>by
   rw [K8]
   have h1:=ho.cons
   have h2:=hb.cons
   have h3:=Cv hd.1 h2.1.1
   exact Dg.mk (by omega) (NO hd os bs _ h1.2 h2.2 (by omega))
theorem Lx {d:Int} (hd:0≤d):∀ (os bs:List Int) (c:Int),Dg os→Dg bs→0≤c→Ir d os bs c→val (GU d os bs c)=val os+d * val bs+c
 | [],bs,c,_,hb,hc,h=>by
   rw [NN]
   have h0:=h.ne hd hb hc
   unfold Ir at h
   have h:0+d * val bs+c < 1:=h
   have:=Cv hd (I4 hb)
   show (0:Int)=0+d * val bs+c
   omega
 | o :: os,[],c,ho,hb,hc,h=>by
   rw [JD]
   have h1:=ho.cons
   split
   ·have ih:=Lx hd os [] ((c+o) / 1000000000) h1.2 hb (by omega) h.step0
    show (c+o) % 1000000000+1000000000 * val (GU d os [] ((c+o) / 1000000000))=o+1000000000 * val os+d * 0+c
    rw [ih]
    show (c+o) % 1000000000+1000000000 * (val os+d * 0+(c+o) / 1000000000)=_
    rw [Dw]
    omega
   ·show o+1000000000 * val os=o+1000000000 * val os+d * 0+c
    rw [Dw]; omega
 | o :: os,b :: bs,c,ho,hb,hc,h=>by
   rw [K8]
   have h1:=ho.cons
   have h2:=hb.cons
   have h3:=Cv hd h2.1.1
   have ih:=Lx hd os bs ((c+o+d * b) / 1000000000) h1.2 h2.2 (by omega) h.step
   show (c+o+d * b) % 1000000000+1000000000 * val (GU d os bs ((c+o+d * b) / 1000000000))=o+1000000000 * val os+d * (b+1000000000 * val bs)+c
   rw [ih,Vu d,Int.mul_left_comm d]
   generalize d * val bs=q
   generalize d * b=r
   omega
theorem P9:∀ (a b:Nat),pw (a+b)=pw a * pw b
 | 0,b=>by rw [Az]; show pw b=1 * pw b; omega
 | a+1,b=>by
   rw [Nat.add_right_comm]
   show 1000000000 * pw (a+b)=1000000000 * pw a * pw b
   rw [P9 a b,YF]
theorem Rd {a b:Nat} (h:a≤b):pw a≤pw b:=by
 obtain ⟨k,rfl⟩:∃ k,b=a+k:=⟨b - a,by omega⟩
 rw [P9]
 have h1:=Hq a
 have h2:=Hq k
 have:=HR (show (1:Int)≤pw k by omega) (IQ h1)
 omega
theorem Dg.take {l:List Int} (h:Dg l) (k:Nat):Dg (l.take k):=fun x hx=>h x (Cu hx)
theorem Dg.drop {l:List Int} (h:Dg l) (k:Nat):Dg (l.drop k):=fun x hx=>h x (Oi hx)
structure MP (xs ys out:List Int) (i:Nat):Prop where
 dg:Dg out
 len:out.length=xs.length+ys.length+1
 vl:val out=val (xs.take i) * val ys
theorem MP.fit {xs ys out:List Int} {i:Nat} {d:Int} (h:MP xs ys out i) (hx:Dg xs) (hy:Dg ys) (hd:xs[i]?=some d):Ir d (out.drop i) ys 0:=by
 obtain ⟨hi,he⟩:=Ah.1 hd
 obtain ⟨d0,d1⟩:=hx d (Ae hd)
 have h1:=F3 (out.take i) (out.drop i)
 rw [DI,h.vl,AG,h.len,Dj (by omega)] at h1
 have h2:=PV (hx.take i)
 rw [AG,Dj (by omega)] at h2
 have h3:=PV hy
 have h4:=I4 hy
 have h5:=I4 (h.dg.take i)
 have h6:=I4 (h.dg.drop i)
 have p1:=Hq i
 have p2:=Hq ys.length
 have h7:pw i * val (out.drop i) < pw i * pw ys.length:=by
  have a1:val (xs.take i) * val ys≤pw i * val ys:=AP (by omega) h4
  have a2:pw i * val ys < pw i * pw ys.length:=Int.mul_lt_mul_of_pos_left h3 p1
  omega
 have h8:val (out.drop i) < pw ys.length:=Int.lt_of_mul_lt_mul_left h7 (IQ p1)
 have h9:d * val ys≤999999999 * val ys:=AP (by omega) h4
 have h10:=Rd (show ys.length+1≤(out.drop i).length by rw [B3,h.len]; omega)
 have h11:pw (ys.length+1)=1000000000 * pw ys.length:=rfl
 unfold Ir
 omega
theorem MP.step {xs ys out:List Int} {i:Nat} {d:Int} (h:MP xs ys out i) (hx:Dg xs) (hy:Dg ys) (hd:xs[i]?=some d):MP xs ys (out.take i ++ GU d (out.drop i) ys 0) (i+1):=by
 have hf:=h.fit hx hy hd
 obtain ⟨hi,he⟩:=Ah.1 hd
 obtain ⟨d0,d1⟩:=hx d (Ae hd)
 have hl:(out.take i).length=i:=by rw [AG,h.len]; omega
 refine ⟨?_, ?_, ?_⟩
 ·intro x hx'
  rcases A5.1 hx' with h1 | h1
  ·exact h.dg.take i x h1
  ·exact NO ⟨d0,d1⟩ _ _ _ (h.dg.drop i) hy (Ez _) x h1
 ·rw [Ar,hl,Ly,B3,h.len]; omega
 ·have h1:=F3 (out.take i) (out.drop i)
  rw [DI,h.vl,hl] at h1
  have h2:xs.take (i+1)=xs.take i ++ [d]:=by rw [D2,hd]; rfl
  rw [F3,Lx d0 _ _ _ (h.dg.drop i) hy (Ez _) hf,hl,h2,F3,AG,Dj (by omega)]
  show val (out.take i)+pw i * (val (out.drop i)+d * val ys+0)=(val (xs.take i)+pw i * (d+1000000000 * 0)) * val ys
  rw [IR,Dw,IR,Vu,Gm,← Int.add_assoc,← h1,YF]
def HP (w:World) (b:Nat) (xs:List Int):Prop :=
 b < w.heap.size∧∀ j x,xs[j]?=some x→w.cell? ⟨b,j,none⟩=some (iv x)∧w.frozen? ⟨b,j,none⟩=false
theorem HP.fx {p:Nat→Prop} {w w':World} {b:Nat} {xs:List Int} (h:HP w b xs) (k:Fx p w w') (hp:¬ p b):HP w' b xs :=
 ⟨An h.1 k.size,fun j x hx=>by rw [k.cell h.1 hp,k.frozen h.1 hp]; exact h.2 j x hx⟩
theorem HP.fr {w w':World} {b:Nat} {xs:List Int} (h:HP w b xs) (k:Fr w w'):HP w' b xs :=
 h.fx (p:=fun _=>False) (Fx.of_fr k) (fun e=>e)
theorem HP.set {w:World} {b:Nat} {xs:List Int} (h:HP w b xs) {k:Nat} (hk:k < xs.length) (x:Int):HP (w.setCell ⟨b,k,none⟩ (iv x)) b (xs.set k x):=by
 obtain ⟨h2,h3⟩:=h
 refine ⟨by simpa [World.setCell] using h2,fun j y hy=>?_⟩
 rw [Ap]
 rw [BA] at hy
 by_cases e:k=j
 ·subst e
  rw [Aj rfl,Aj hk] at hy
  injection hy with hy; subst hy
  have h4:=h3 k xs[k] (Ab hk)
  exact ⟨Aq _ _ _ (by rw [h4.1]; rfl),h4.2⟩
 ·rw [Ai e] at hy
  have h4:=h3 j y hy
  refine ⟨?_,h4.2⟩
  rw [Ad w ⟨b,k,none⟩ ⟨b,j,none⟩ _ (fun e2=>by injection e2 with e3 e4; omega)]
  exact h4.1
theorem HP.el {w:World} {b:Nat} {xs:List Int} (h:HP w b xs):El w iv (some ⟨b,0,none⟩) xs :=
 .inr ⟨b,0,rfl,h.1,fun i x hx=>by rw [Az]; exact (h.2 i x hx).1⟩
structure JX (d:Int) (pre F:List Int) (i N:Nat) (ys:List Int) (k:Nat) (c:Int) (cur:List Int):Prop where
 len:cur.length=N
 dg:Dg cur
 fit:Ir d (cur.drop (i+k)) (ys.drop k) c
 eq:cur.take (i+k) ++ GU d (cur.drop (i+k)) (ys.drop k) c=pre ++ F
theorem OC {l:List Int} {j:Nat} (h:j < l.length) (v:Int):(l.set j v).take (j+1)=l.take j ++ [v]:=by
 rw [D2,ZB (Ag _),List.getElem?_set_self h]; rfl
theorem JB {l:List Int} {j:Nat} (v:Int):(l.set j v).drop (j+1)=l.drop (j+1):=by
 rw [ZE (by omega)]
theorem Dg.set {l:List Int} (h:Dg l) (j:Nat) {v:Int} (hv:0≤v∧v < 1000000000):Dg (l.set j v):=fun x hx=>by
 rcases B8 hx with h1 | rfl
 ·exact h x h1
 ·exact hv
theorem JX.at {d:Int} {pre F:List Int} {i N:Nat} {ys:List Int} {k:Nat} {c:Int} {cur:List Int} (h:JX d pre F i N ys k c cur) (hd:0≤d) (hy:Dg ys) (hc:0≤c) (hk:k < ys.length∧i+ys.length < N∨0 < c):i+k < N:=by
 rcases hk with h1 | h1
 ·omega
 ·by_cases hl:i+k < N
  ·exact hl
  ·have h2:=h.fit
   rw [AL (by rw [h.len]; omega)] at h2
   have:=h2.ne hd (hy.drop k) hc
   omega
theorem JX.step1 {d:Int} {pre F:List Int} {i N:Nat} {ys:List Int} {k:Nat} {c b o:Int} {cur:List Int} (h:JX d pre F i N ys k c cur) (hb:ys[k]?=some b) (ho:cur[i+k]?=some o) :
 JX d pre F i N ys (k+1) ((c+o+d * b) / 1000000000) (cur.set (i+k) ((c+o+d * b) % 1000000000)):=by
 have hl:=(Ah.1 ho).1
 have h1:=h.fit
 have h2:=h.eq
 rw [CK ho,CK hb] at h1 h2
 refine ⟨by rw [AN]; exact h.len,h.dg.set _ (by omega), ?_, ?_⟩
 ·rw [← Nat.add_assoc,JB]; exact h1.step
 ·rw [← Nat.add_assoc,JB,OC hl,← h2,K8,BF]; rfl
theorem JX.step0 {d:Int} {pre F:List Int} {i N:Nat} {ys:List Int} {k:Nat} {c o:Int} {cur:List Int} (h:JX d pre F i N ys k c cur) (hc:0 < c) (hb:ys.length≤k) (ho:cur[i+k]?=some o) :
 JX d pre F i N ys (k+1) ((c+o) / 1000000000) (cur.set (i+k) ((c+o) % 1000000000)):=by
 have hl:=(Ah.1 ho).1
 have h1:=h.fit
 have h2:=h.eq
 rw [CK ho,AL hb] at h1 h2
 refine ⟨by rw [AN]; exact h.len,h.dg.set _ (by omega), ?_, ?_⟩
 ·rw [← Nat.add_assoc,JB,show ys.drop (k+1)=[] from AL (by omega)]; exact h1.step0
 ·rw [← Nat.add_assoc,JB,OC hl,← h2,show ys.drop (k+1)=[] from AL (by omega),JD,Aj hc,BF]; rfl
theorem JX.fin {d:Int} {pre F:List Int} {i N:Nat} {ys:List Int} {k:Nat} {cur:List Int} (h:JX d pre F i N ys k 0 cur) (hb:ys.length≤k):cur=pre ++ F:=by
 rw [← h.eq,AL hb]
 have e:GU d (cur.drop (i+k)) [] 0=cur.drop (i+k):=by
  cases cur.drop (i+k) with
  | nil=>rw [NN]
  | cons o os=>rw [JD,Ai (by omega)]
 rw [e,DI]
theorem JX.start {d:Int} {out ys:List Int} {i N:Nat} (hl:out.length=N) (hg:Dg out) (hf:Ir d (out.drop i) ys 0):JX d (out.take i) (GU d (out.drop i) ys 0) i N ys 0 0 out :=
 ⟨hl,hg,hf,rfl⟩
theorem MP.zero (xs ys:List Int):MP xs ys (List.replicate (xs.length+ys.length+1) 0) 0:=by
 refine ⟨fun x hx=>by have:=CI hx; omega,AH, ?_⟩
 have:∀ n,val (List.replicate n 0)=0:=fun n=>by
  induction n with
  | zero=>rfl
  | succ n ih=>show (0:Int)+1000000000 * val (List.replicate n 0)=0; rw [ih]; rfl
 rw [this]
 show (0:Int)=0 * val ys
 rw [Tc]
theorem Ub (v:Value) (n:Nat):(madeCells #[v] n).toList=List.replicate n v:=by
 refine Cm (fun i=>?_)
 by_cases hi:i < n
 ·simp [madeCells,hi,Nat.mod_one]
 ·simp [madeCells,hi]
theorem Q9 {w2:World} {b n:Nat} {base:Nat} {e:TypeId} {z:Value} (hz:z.cells=#[iv 0]) (h:w2.ownsRow base e 1 (.slice (some ⟨b,0,none⟩) n n) n (madeCells z.cells (n * 1)).toList):HP w2 b (List.replicate n 0):=by
 obtain ⟨h1,h2,h3⟩:=IV h
 have hL:(madeCells z.cells (n * 1)).toList=List.replicate n (iv 0):=by
  rw [hz,Fi]
  exact Ub _ n
 rw [hL] at h1
 refine ⟨Qi h1,fun j x hx=>?_⟩
 have hj:j < n:=by simpa using (Ah.1 hx).1
 have hx0:x=0:=CI (Ae hx)
 subst hx0
 exact ⟨by rw [Bt h1 j]; simp [hj],by unfold World.frozen?; rw [h1]; rfl⟩

theorem M3 (l:List Int):∀ n,n≤l.length→Bu (l.take n)=l.take (Bu (l.take n)).length∧(Bu (l.take n)).length≤n
 | 0,_=>⟨rfl,Ag _⟩
 | n+1,h=>by
   obtain ⟨d,hd⟩:∃ d,l[n]?=some d:=⟨_,Ab (by omega)⟩
   by_cases h0:d=0
   ·rw [I6 hd h0]
    obtain ⟨h1,h2⟩:=M3 l n (by omega)
    exact ⟨h1,by omega⟩
   ·rw [I7 hd h0,AG,Dj h]
    exact ⟨rfl,Ag _⟩
theorem BO (l:List Int):Bu l=l.take (Bu l).length∧(Bu l).length≤l.length:=by
 have h:=M3 l l.length (Ag _)
 rw [List.take_length] at h
 exact h
theorem Hi {w:World} {a:Option Addr} {l:List Int} (h:El w iv a l):El w iv a (Bu l):=by
 rw [(BO l).1]; exact h.take _
theorem Jk (l:List Int) (a:Option Addr) (cap:Nat) (w:World) (hel:El w iv a l) (hl:l.length≤4000000) (hc:l.length≤cap) :
 Calls Tryz.prog 282 #[.slice a l.length cap] w fun e w'=>e=.returned (.slice a (Bu l).length cap)∧Fr w w':=by
 obtain ⟨n,hn⟩:∃ n,n=l.length:=⟨_,rfl⟩
 rw [← hn] at hl hc
 rw [← hn]
 replace hn:=hZ hn
 go_enter Tryz.func282,Tryz.ntmps282
 go_wp2_with fail
 go_loopg [3] n (fun k s3 wr=>s3=.int .i64 (k:Int)∧k≤n∧Fr w wr∧Hid (Bu (l.take k)=Bu l))
 case atStart=>exact ⟨rfl,Ag _,Fr.refl _,by show _=_; rw [Ak (by rw [hn.out]; exact Ag _)]⟩
 case round=>
  obtain ⟨rfl,hle,hf,ht⟩:=hrel
  by_cases hk0:gk=0
  ·subst hk0
   have hlen:Hid ((Bu l).length=0):=by show _=_; rw [← ht.out]; rfl
   go_wp2_with fail
   go_ret
   exact ⟨by rw [hlen.out]; rfl,hf⟩
  ·obtain ⟨k,rfl⟩:∃ k,gk=k+1:=⟨gk - 1,by omega⟩
   obtain ⟨b,o,d,rfl,hb,hk,hcell⟩:=(hel.fr hf).at (i:=k) (by have:=hn.out; omega)
   have z0:(0:Int)≤(k:Int):=by omega
   have z1:(k:Int) < (n:Int):=by omega
   have z2:decide ((0:Int) < (k:Int)+1)=true:=Ac (by omega)
   have z3:decide ((0:Int) < ((k+1:Nat):Int))=true:=Ac (by omega)
   have hw1:IntKind.i64.wrap (((k+1:Nat):Int) - 1)=(k:Int):=by rw [show ((k+1:Nat):Int) - 1=(k:Int) by omega]; exact Al _ (by omega)
   by_cases hd:d=0
   ·have e0:(d == 0)=true:=by rw [hd]; rfl
    have ht2:Hid (Bu (l.take k)=Bu l):=(I6 hk hd).symm.trans ht.out
    replace hk:=hZ hk
    go_wp2_with fail
    go_roundg k
    case measure=>omega
    case rel=>exact ⟨by go_num,by omega,hf,ht2⟩
   ·have e0:(d == 0)=false:=Ay hd
    have hlen:Hid ((Bu l).length=k+1):=by show _=_; rw [← ht.out,I7 hk hd,AG]; have:=hn.out; omega
    have z4:((k:Int)+1).toNat=k+1:=by omega
    have z5:(k:Int)+1≤(cap:Int):=by omega
    have z6:((k+1:Nat):Int)≤(cap:Int):=by omega
    replace hk:=hZ hk
    go_wp2_with fail
    go_ret
    exact ⟨by rw [hlen.out]; rfl,hf⟩
theorem RQ (u v:Nat) (a b:Option Addr) (ca cb:Nat) (w:World) (hx:El w iv a (digs u)) (hy:El w iv b (digs v)) (hl:(digs u).length≤1000000) (hm:(digs v).length≤1000000) :
 Calls Tryz.prog 283 #[.slice a (digs u).length ca,.slice b (digs v).length cb] w fun e w'=>e=.returned (.int .i64 (EA u v))∧Fr w w':=by
 by_cases hlen:(digs u).length=(digs v).length
 ·have hval:∀ k x y,(digs u)[k]?=some x→(digs v)[k]?=some y→x < y→(digs u).drop (k+1)=(digs v).drop (k+1)→EA u v=-1:=fun k x y hk hk2 hxy hd=>by
   have:=HU k (digs u) (digs v) (BE u) (BE v) hlen (fun x' y' e1 e2=>by rw [hk] at e1; rw [hk2] at e2; injection e1 with e1; injection e2 with e2; subst e1; subst e2; exact hxy) (Ah.1 hk).1 hd
   rw [BZ,BZ] at this
   exact JA (by omega)
  have hval2:∀ k x y,(digs u)[k]?=some x→(digs v)[k]?=some y→y < x→(digs u).drop (k+1)=(digs v).drop (k+1)→EA u v=1:=fun k x y hk hk2 hxy hd=>by
   have:=HU k (digs v) (digs u) (BE v) (BE u) hlen.symm (fun x' y' e1 e2=>by rw [hk2] at e1; rw [hk] at e2; injection e1 with e1; injection e2 with e2; subst e1; subst e2; exact hxy) (Ah.1 hk2).1 hd.symm
   rw [BZ,BZ] at this
   exact K7 (by omega)
  have heq0:(digs u).drop 0=(digs v).drop 0→EA u v=0:=fun h=>by
   rw [DG,DG] at h
   rw [Pb h]; exact Q5 v
  generalize EA u v=r at *
  generalize digs u=xs at *
  generalize digs v=ys at *
  have hne:((xs.length:Int) != ys.length)=false:=by rw [hlen]; simp
  obtain ⟨n,hn⟩:∃ n,n=xs.length:=⟨_,rfl⟩
  obtain ⟨m,hmm⟩:∃ m,m=ys.length:=⟨_,rfl⟩
  rw [← hn,← hmm] at hne
  rw [← hn] at hl
  rw [← hmm] at hm
  rw [← hn,← hmm]
  have hnm:(n:Int)≤m:=by omega
  replace hn:=hZ hn
  replace hmm:=hZ hmm
  replace hlen:=hZ hlen
  replace hval:=hZ hval
  replace hval2:=hZ hval2
  replace heq0:=hZ heq0
  replace hx:=hZ hx
  replace hy:=hZ hy
  go_enter Tryz.func283,Tryz.ntmps283
  go_wp2_with fail
  go_loopg [5] n (fun gk s5 wr=>∃ i:Int,s5=.int .i64 i∧i+1=gk∧gk≤n∧Fr w wr∧Hid (xs.drop gk=ys.drop gk))
  case atStart=>exact ⟨_,rfl,by omega,Ag _,Fr.refl _,by show _=_; rw [AL (by have:=hn.out; omega),AL (by have:=hn.out; have:=hlen.out; omega)]⟩
  case round=>
   obtain ⟨i,rfl,hik,hgn,hf,hb⟩:=hrel
   by_cases h0:gk=0
   ·subst h0
    obtain rfl:i=-1:=by omega
    have hfin:=hZ (heq0.out hb.out)
    go_wp2_with fail
    go_ret
    exact ⟨by rw [hfin.out]; rfl,hf⟩
   ·obtain ⟨k,rfl⟩:∃ k,gk=k+1:=⟨gk - 1,by omega⟩
    obtain rfl:i=(k:Int):=by omega
    obtain ⟨xb,xo,x,rfl,-,hxk,hxc⟩:=(hx.out.fr hf).at (i:=k) (by rw [← hn.out]; omega)
    obtain ⟨yb,yo,y,rfl,-,hyk,hyc⟩:=(hy.out.fr hf).at (i:=k) (by rw [← hlen.out,← hn.out]; omega)
    have z0:(0:Int)≤(k:Int):=by omega
    have z1:(k:Int) < (n:Int):=by omega
    have z2:(k:Int) < (m:Int):=by omega
    by_cases h1:x < y
    ·have d1:decide (x < y)=true:=Ac h1
     have hfin:=hZ (hval.out k x y hxk hyk h1 hb.out)
     go_wp2_with fail
     go_quiet (fail)
     go_wp2_with fail
     go_ret
     exact ⟨by rw [hfin.out]; rfl,hf.drewN _⟩
    ·have d1:decide (x < y)=false:=Aa h1
     by_cases h2:y < x
     ·have d2:decide (y < x)=true:=Ac h2
      have hfin:=hZ (hval2.out k x y hxk hyk h2 hb.out)
      go_wp2_with fail
      go_quiet (fail)
      go_wp2_with fail
      go_quiet (fail)
      go_wp2_with fail
      go_ret
      exact ⟨by rw [hfin.out]; rfl,(hf.drewN _).drewN _⟩
     ·have d2:decide (y < x)=false:=Aa h2
      obtain rfl:x=y:=by omega
      have hb2:=hZ (show xs.drop k=ys.drop k by rw [CK hxk,CK hyk,hb.out])
      go_wp2_with fail
      go_quiet (fail)
      go_wp2_with fail
      go_quiet (fail)
      go_wp2_with fail
      go_roundg k
      case measure=>omega
      case rel=>exact ⟨_,rfl,by omega,by omega,hf.drewN _,hb2⟩
 ·have hne:(((digs u).length:Int) != (digs v).length)=true:=by rw [Bl]; omega
  by_cases h1:(digs u).length < (digs v).length
  ·have d1:decide ((digs u).length < (digs v).length)=true:=Ac h1
   have hfin:=hZ (JA (G0 u v h1))
   clear hlen
   go_enter Tryz.func283,Tryz.ntmps283
   go_wp2_with fail
   go_ret
   exact ⟨by rw [hfin.out]; rfl,Fr.refl _⟩
  ·have d1:decide ((digs u).length < (digs v).length)=false:=Aa h1
   have hfin:=hZ (K7 (G0 v u (by omega)))
   clear hlen
   go_enter Tryz.func283,Tryz.ntmps283
   go_wp2_with fail
   go_ret
   exact ⟨by rw [hfin.out]; rfl,Fr.refl _⟩
theorem XR (xs ys:List Int) (a b:Option Addr) (ca cb:Nat) (w:World) (hx:El w iv a xs) (hy:El w iv b ys) (dx:Dg xs) (dy:Dg ys) (hl:xs.length≤1000000) (hm:ys.length≤1000000) :
 Calls Tryz.prog 286 #[.slice a xs.length ca,.slice b ys.length cb] w fun e w'=>∃ a' c',e=.returned (.slice a' (C5 xs ys 0).length c')∧El w' iv a' (C5 xs ys 0)∧(C5 xs ys 0).length≤c'∧Fr w w'∧∀ ad,a'=some ad→w.heap.size≤ad.block:=by
 obtain ⟨n,hn⟩:∃ n,n=xs.length:=⟨_,rfl⟩
 obtain ⟨m,hmm⟩:∃ m,m=ys.length:=⟨_,rfl⟩
 rw [← hn] at hl
 rw [← hmm] at hm
 rw [← hn,← hmm]
 obtain ⟨M,hM1,hM2,hM3⟩:∃ M,n≤M∧m≤M∧M≤1000000:=⟨max n m,by omega,by omega,by omega⟩
 replace hn:=hZ hn
 replace hmm:=hZ hmm
 replace hx:=hZ hx
 replace hy:=hZ hy
 replace dx:=hZ dx
 replace dy:=hZ dy
 obtain ⟨i0,hi,hz0,hz1,hz2⟩:=AQ DQ
 go_enter Tryz.func286,Tryz.ntmps286
 go_wp2_with fail
 go_loopg [5,6,7] (M+1) (fun gk s5 s6 s7 wr=>∃ (j:Nat) (c:Int) (out:List Int),s7=.int .i64 j∧s6=.int .i64 c∧(0≤c∧c≤1)∧j+gk=M+1∧(gk=0→c=0)∧Hid (out.length=j)∧Fr w wr∧Hid (wr.ownsRow w.heap.size 3 1 s5 j (out.map iv))∧Hid (C5 xs ys 0=out ++ C5 (xs.drop j) (ys.drop j) c))
 case atStart=>exact ⟨0,0,[],rfl,rfl,by omega,by omega,fun h=>by omega,rfl,Fr.refl _,A6 _ _ _ _,rfl⟩
 case round=>
  obtain ⟨j,c,out,rfl,rfl,hc,hjk,hg0,hol,hf,hown,hb⟩:=hrel
  obtain ⟨hc0,hc1⟩:=hc
  by_cases h1:j < n
  ·have d1:decide (j < n)=true:=Ac h1
   obtain ⟨xb,xo,x,rfl,-,hxj,hxc⟩:=(hx.out.fr hf).at (i:=j) (by rw [← hn.out]; exact h1)
   obtain ⟨x0,x1⟩:=dx.out x (Ae hxj)
   by_cases h2:j < m
   ·have d2:decide (j < m)=true:=Ac h2
    obtain ⟨yb,yo,y,rfl,-,hyj,hyc⟩:=(hy.out.fr hf).at (i:=j) (by rw [← hmm.out]; exact h2)
    obtain ⟨y0,y1⟩:=dy.out y (Ae hyj)
    have z0:(0:Int)≤(j:Int):=by omega
    have z1:(j:Int) < (n:Int):=by omega
    have z2:(j:Int) < (m:Int):=by omega
    have hs:=hZ (show C5 xs ys 0=(out ++ [(c+x+y) % 1000000000]) ++ C5 (xs.drop (j+1)) (ys.drop (j+1)) ((c+x+y) / 1000000000) by
     rw [hb.out,CK hxj,CK hyj,OM,BF]; rfl)
    go_wp2_with (at_builtin; refine At _ rfl _ _ 43 (by rfl) _ 3 _ _ 1 8 Tryz.underlying43 hi hz0 hz1 hz2 rfl (by decide) _ j _ (by rfl) (Au hown.out _) ⟨wr.heap.size,0,none⟩ 1 1 [iv ((c+x+y) % 1000000000)] (by rfl) rfl (AF _ _ _ _ (by simp)) (by simp [Value.oneCell']) (by decide) (by unfold maxLen; omega) (by omega) (by have:=hf.size; simp; omega) (wr.heap.size+1) (by simp) ?_; intro gA capA wA hownA hgrowA hatA hltA)
    go_wp2_with fail
    go_roundg (gk - 1)
    case measure=>omega
    case rel=>exact ⟨j+1,(c+x+y) / 1000000000,out ++ [(c+x+y) % 1000000000],by go_num,rfl,by omega,by omega,fun h=>by omega,by show _=_; rw [Ar,hol.out]; rfl,(hf.alloc _).grown hgrowA (fun k e=>(hown.out.lt k e).1),by show _; rw [Aw]; exact hownA,hs⟩
   ·have d2:decide (j < m)=false:=Aa h2
    have hs:=hZ (show C5 xs ys 0=(out ++ [(c+x) % 1000000000]) ++ C5 (xs.drop (j+1)) (ys.drop (j+1)) ((c+x) / 1000000000) by
     rw [hb.out,CK hxj,show ys.drop j=[] from AL (by have:=hmm.out; omega),show ys.drop (j+1)=[] from AL (by have:=hmm.out; omega),OL,BF]; rfl)
    have z0:(0:Int)≤(j:Int):=by omega
    have z1:(j:Int) < (n:Int):=by omega
    go_wp2_with (at_builtin; refine At _ rfl _ _ 43 (by rfl) _ 3 _ _ 1 8 Tryz.underlying43 hi hz0 hz1 hz2 rfl (by decide) _ j _ (by rfl) (Au hown.out _) ⟨wr.heap.size,0,none⟩ 1 1 [iv ((c+x) % 1000000000)] (by rfl) rfl (AF _ _ _ _ (by simp)) (by simp [Value.oneCell']) (by decide) (by unfold maxLen; omega) (by omega) (by have:=hf.size; simp; omega) (wr.heap.size+1) (by simp) ?_; intro gA capA wA hownA hgrowA hatA hltA)
    go_wp2_with fail
    go_roundg (gk - 1)
    case measure=>omega
    case rel=>exact ⟨j+1,(c+x) / 1000000000,out ++ [(c+x) % 1000000000],by go_num,rfl,by omega,by omega,fun h=>by omega,by show _=_; rw [Ar,hol.out]; rfl,(hf.alloc _).grown hgrowA (fun k e=>(hown.out.lt k e).1),by show _; rw [Aw]; exact hownA,hs⟩
  ·have d1:decide (j < n)=false:=Aa h1
   have hdx:xs.drop j=[]:=AL (by have:=hn.out; omega)
   have hdx1:xs.drop (j+1)=[]:=AL (by have:=hn.out; omega)
   by_cases h2:j < m
   ·have d2:decide (j < m)=true:=Ac h2
    obtain ⟨yb,yo,y,rfl,-,hyj,hyc⟩:=(hy.out.fr hf).at (i:=j) (by rw [← hmm.out]; exact h2)
    obtain ⟨y0,y1⟩:=dy.out y (Ae hyj)
    have z0:(0:Int)≤(j:Int):=by omega
    have z2:(j:Int) < (m:Int):=by omega
    have hs:=hZ (show C5 xs ys 0=(out ++ [(c+y) % 1000000000]) ++ C5 (xs.drop (j+1)) (ys.drop (j+1)) ((c+y) / 1000000000) by
     rw [hb.out,hdx,hdx1,CK hyj,OK,BF]; rfl)
    clear hdx hdx1
    go_wp2_with (at_builtin; refine At _ rfl _ _ 43 (by rfl) _ 3 _ _ 1 8 Tryz.underlying43 hi hz0 hz1 hz2 rfl (by decide) _ j _ (by rfl) (Au hown.out _) ⟨wr.heap.size,0,none⟩ 1 1 [iv ((c+y) % 1000000000)] (by rfl) rfl (AF _ _ _ _ (by simp)) (by simp [Value.oneCell']) (by decide) (by unfold maxLen; omega) (by omega) (by have:=hf.size; simp; omega) (wr.heap.size+1) (by simp) ?_; intro gA capA wA hownA hgrowA hatA hltA)
    go_wp2_with fail
    go_roundg (gk - 1)
    case measure=>omega
    case rel=>exact ⟨j+1,(c+y) / 1000000000,out ++ [(c+y) % 1000000000],by go_num,rfl,by omega,by omega,fun h=>by omega,by show _=_; rw [Ar,hol.out]; rfl,(hf.alloc _).grown hgrowA (fun k e=>(hown.out.lt k e).1),by show _; rw [Aw]; exact hownA,hs⟩
   ·have d2:decide (j < m)=false:=Aa h2
    have hdy:ys.drop j=[]:=AL (by have:=hmm.out; omega)
    have hdy1:ys.drop (j+1)=[]:=AL (by have:=hmm.out; omega)
    by_cases h3:c=0
    ·subst h3
     have hfin:C5 xs ys 0=out:=by rw [hb.out,hdx,hdy,H8,Ai (by omega),BJ]
     have hown9:=hown.out
     rw [← hol.out] at hown9
     obtain ⟨a9,c9,rfl,he9,hc9,hb9⟩:=Ia hown9
     replace hb9:=hZ hb9
     rw [← hfin] at he9 hc9
     have hr9:=hZ (show C5 xs ys 0=out from hfin)
     have he9:=hZ he9
     clear hown9 hfin hdx hdx1 hdy hdy1
     go_wp2_with fail
     go_ret
     exact ⟨a9,c9,by rw [hr9.out]; rfl,he9.out,hc9,hf,hb9.out⟩
    ·obtain rfl:c=1:=by omega
     have hs:=hZ (show C5 xs ys 0=(out ++ [(1:Int)]) ++ C5 (xs.drop (j+1)) (ys.drop (j+1)) 0 by
      rw [hb.out,hdx,hdx1,hdy,hdy1,H8,H8,Aj (by omega),Ai (by omega),BJ])
     clear hdx hdx1 hdy hdy1
     go_wp2_with (at_builtin; refine At _ rfl _ _ 43 (by rfl) _ 3 _ _ 1 8 Tryz.underlying43 hi hz0 hz1 hz2 rfl (by decide) _ j _ (by rfl) (Au hown.out _) ⟨wr.heap.size,0,none⟩ 1 1 [iv 1] (by rfl) rfl (AF _ _ _ _ (by simp)) (by simp [Value.oneCell']) (by decide) (by unfold maxLen; omega) (by omega) (by have:=hf.size; simp; omega) (wr.heap.size+1) (by simp) ?_; intro gA capA wA hownA hgrowA hatA hltA)
     go_wp2_with fail
     go_roundg (gk - 1)
     case measure=>omega
     case rel=>exact ⟨j+1,0,out ++ [1],by go_num,rfl,by omega,by omega,fun _=>rfl,by show _=_; rw [Ar,hol.out]; rfl,(hf.alloc _).grown hgrowA (fun k e=>(hown.out.lt k e).1),by show _; rw [Aw]; exact hownA,hs⟩
theorem Oa (xs ys:List Int) (a b:Option Addr) (ca cb:Nat) (w:World) (hx:El w iv a xs) (hy:El w iv b ys) (dx:Dg xs) (dy:Dg ys) (hl:xs.length≤1000000) (hm:ys.length≤1000000) :
 Calls Tryz.prog 284 #[.slice a xs.length ca,.slice b ys.length cb] w fun e w'=>∃ a' c',e=.returned (.slice a' (Bu (CU xs ys 0)).length c')∧El w' iv a' (Bu (CU xs ys 0))∧(Bu (CU xs ys 0)).length≤c'∧Fr w w'∧(0 < xs.length→∃ ad,a'=some ad):=by
 obtain ⟨n,hn⟩:∃ n,n=xs.length:=⟨_,rfl⟩
 obtain ⟨m,hmm⟩:∃ m,m=ys.length:=⟨_,rfl⟩
 rw [← hn] at hl
 rw [← hmm] at hm
 rw [← hn,← hmm]
 replace hn:=hZ hn
 replace hmm:=hZ hmm
 replace hx:=hZ hx
 replace hy:=hZ hy
 replace dx:=hZ dx
 replace dy:=hZ dy
 obtain ⟨i0,hi,hz0,hz1,hz2⟩:=AQ DQ
 go_enter Tryz.func284,Tryz.ntmps284
 go_wp2_with fail
 go_loopg [5,6,7] n (fun gk s5 s6 s7 wr=>∃ (j:Nat) (c:Int) (out:List Int),s7=.int .i64 j∧s6=.int .i64 c∧(0≤c∧c≤1)∧j+gk=n∧Hid (out.length=j)∧Fr w wr∧Hid (wr.ownsRow w.heap.size 3 1 s5 j (out.map iv))∧Hid (CU xs ys 0=out ++ CU (xs.drop j) (ys.drop j) c))
 case atStart=>exact ⟨0,0,[],rfl,rfl,by omega,by omega,rfl,Fr.refl _,A6 _ _ _ _,rfl⟩
 case round=>
  obtain ⟨j,c,out,rfl,rfl,hc,hjk,hol,hf,hown,hb⟩:=hrel
  obtain ⟨hc0,hc1⟩:=hc
  by_cases h1:j < n
  ·have d1:decide (j < n)=true:=Ac h1
   obtain ⟨xb,xo,x,rfl,-,hxj,hxc⟩:=(hx.out.fr hf).at (i:=j) (by rw [← hn.out]; exact h1)
   obtain ⟨x0,x1⟩:=dx.out x (Ae hxj)
   have z0:(0:Int)≤(j:Int):=by omega
   have z1:(j:Int) < (n:Int):=by omega
   by_cases h2:j < m
   ·have d2:decide (j < m)=true:=Ac h2
    obtain ⟨yb,yo,y,rfl,-,hyj,hyc⟩:=(hy.out.fr hf).at (i:=j) (by rw [← hmm.out]; exact h2)
    obtain ⟨y0,y1⟩:=dy.out y (Ae hyj)
    have z2:(j:Int) < (m:Int):=by omega
    have hs:=hZ (show CU xs ys 0=(out ++ [HM (x - c - y)]) ++ CU (xs.drop (j+1)) (ys.drop (j+1)) (FO (x - c - y)) by
     rw [hb.out,CK hxj,CK hyj,Nj,BF]; rfl)
    by_cases h3:x - c - y < 0
    ·have d3:decide (x - c - y < 0)=true:=Ac h3
     rw [show HM (x - c - y)=x - c - y+1000000000 by unfold HM; rw [Aj h3],show FO (x - c - y)=1 by unfold FO; rw [Aj h3]] at hs
     go_wp2_with (at_builtin; refine At _ rfl _ _ 43 (by rfl) _ 3 _ _ 1 8 Tryz.underlying43 hi hz0 hz1 hz2 rfl (by decide) _ j _ (by rfl) (Au hown.out _) ⟨wr.heap.size,0,none⟩ 1 1 [iv (x - c - y+1000000000)] (by rfl) rfl (AF _ _ _ _ (by simp)) (by simp [Value.oneCell']) (by decide) (by unfold maxLen; omega) (by omega) (by have:=hf.size; simp; omega) (wr.heap.size+1) (by simp) ?_; intro gA capA wA hownA hgrowA hatA hltA)
     go_wp2_with fail
     go_roundg (gk - 1)
     case measure=>omega
     case rel=>exact ⟨j+1,1,out ++ [x - c - y+1000000000],by go_num,rfl,by omega,by omega,by show _=_; rw [Ar,hol.out]; rfl,(hf.alloc _).grown hgrowA (fun k e=>(hown.out.lt k e).1),by show _; rw [Aw]; exact hownA,hs⟩
    ·have d3:decide (x - c - y < 0)=false:=Aa h3
     rw [show HM (x - c - y)=x - c - y by unfold HM; rw [Ai h3],show FO (x - c - y)=0 by unfold FO; rw [Ai h3]] at hs
     go_wp2_with (at_builtin; refine At _ rfl _ _ 43 (by rfl) _ 3 _ _ 1 8 Tryz.underlying43 hi hz0 hz1 hz2 rfl (by decide) _ j _ (by rfl) (Au hown.out _) ⟨wr.heap.size,0,none⟩ 1 1 [iv (x - c - y)] (by rfl) rfl (AF _ _ _ _ (by simp)) (by simp [Value.oneCell']) (by decide) (by unfold maxLen; omega) (by omega) (by have:=hf.size; simp; omega) (wr.heap.size+1) (by simp) ?_; intro gA capA wA hownA hgrowA hatA hltA)
     go_wp2_with fail
     go_roundg (gk - 1)
     case measure=>omega
     case rel=>exact ⟨j+1,0,out ++ [x - c - y],by go_num,rfl,by omega,by omega,by show _=_; rw [Ar,hol.out]; rfl,(hf.alloc _).grown hgrowA (fun k e=>(hown.out.lt k e).1),by show _; rw [Aw]; exact hownA,hs⟩
   ·have d2:decide (j < m)=false:=Aa h2
    have hs:=hZ (show CU xs ys 0=(out ++ [HM (x - c)]) ++ CU (xs.drop (j+1)) (ys.drop (j+1)) (FO (x - c)) by
     rw [hb.out,CK hxj,show ys.drop j=[] from AL (by have:=hmm.out; omega),show ys.drop (j+1)=[] from AL (by have:=hmm.out; omega),Ni,BF]; rfl)
    by_cases h3:x - c < 0
    ·have d3:decide (x - c < 0)=true:=Ac h3
     rw [show HM (x - c)=x - c+1000000000 by unfold HM; rw [Aj h3],show FO (x - c)=1 by unfold FO; rw [Aj h3]] at hs
     go_wp2_with (at_builtin; refine At _ rfl _ _ 43 (by rfl) _ 3 _ _ 1 8 Tryz.underlying43 hi hz0 hz1 hz2 rfl (by decide) _ j _ (by rfl) (Au hown.out _) ⟨wr.heap.size,0,none⟩ 1 1 [iv (x - c+1000000000)] (by rfl) rfl (AF _ _ _ _ (by simp)) (by simp [Value.oneCell']) (by decide) (by unfold maxLen; omega) (by omega) (by have:=hf.size; simp; omega) (wr.heap.size+1) (by simp) ?_; intro gA capA wA hownA hgrowA hatA hltA)
     go_wp2_with fail
     go_roundg (gk - 1)
     case measure=>omega
     case rel=>exact ⟨j+1,1,out ++ [x - c+1000000000],by go_num,rfl,by omega,by omega,by show _=_; rw [Ar,hol.out]; rfl,(hf.alloc _).grown hgrowA (fun k e=>(hown.out.lt k e).1),by show _; rw [Aw]; exact hownA,hs⟩
    ·have d3:decide (x - c < 0)=false:=Aa h3
     rw [show HM (x - c)=x - c by unfold HM; rw [Ai h3],show FO (x - c)=0 by unfold FO; rw [Ai h3]] at hs
     go_wp2_with (at_builtin; refine At _ rfl _ _ 43 (by rfl) _ 3 _ _ 1 8 Tryz.underlying43 hi hz0 hz1 hz2 rfl (by decide) _ j _ (by rfl) (Au hown.out _) ⟨wr.heap.size,0,none⟩ 1 1 [iv (x - c)] (by rfl) rfl (AF _ _ _ _ (by simp)) (by simp [Value.oneCell']) (by decide) (by unfold maxLen; omega) (by omega) (by have:=hf.size; simp; omega) (wr.heap.size+1) (by simp) ?_; intro gA capA wA hownA hgrowA hatA hltA)
     go_wp2_with fail
     go_roundg (gk - 1)
     case measure=>omega
     case rel=>exact ⟨j+1,0,out ++ [x - c],by go_num,rfl,by omega,by omega,by show _=_; rw [Ar,hol.out]; rfl,(hf.alloc _).grown hgrowA (fun k e=>(hown.out.lt k e).1),by show _; rw [Aw]; exact hownA,hs⟩
  ·obtain rfl:j=n:=by omega
   have d1:decide (j < j)=false:=Aa h1
   have hfin:CU xs ys 0=out:=by rw [hb.out,show xs.drop j=[] from AL (by have:=hn.out; omega),OU,BJ]
   have hown9:=hown.out
   rw [← hol.out] at hown9
   obtain ⟨a9,c9,rfl,he9,hc9,-⟩:=Ia hown9
   have hsm:Hid (0 < out.length→∃ ad,a9=some ad):=fun h=>by
    obtain ⟨g,c,e,-⟩:=Ct hown9 h
    injection e with e
    exact ⟨_,e⟩
   have hlo:out.length≤1000000:=by rw [hol.out]; omega
   have htr:=hZ (Jk out a9 c9 wr he9 (by omega) hc9)
   have hr9:=hZ (show CU xs ys 0=out from hfin)
   have he9:=hZ he9
   clear hown9 hfin hlo
   go_wp2_with fail
   refine htr.out.mono ?_
   rintro e w3 ⟨rfl,hf3⟩
   go_wp2_with fail
   go_ret
   have hle:=(BO out).2
   exact ⟨a9,c9,by rw [hr9.out]; rfl,by rw [hr9.out]; exact (Hi he9.out).fr hf3,by rw [hr9.out]; omega,hf.trans hf3,fun h=>hsm.out (by rw [hol.out]; exact h)⟩
theorem RP (xs ys:List Int) (n:Nat) (hn:val xs * val ys=(n:Int)) (a b:Option Addr) (ca cb:Nat) (w:World) (hx:El w iv a xs) (hy:El w iv b ys) (dx:Dg xs) (dy:Dg ys) (hl:xs.length≤1000000) (hm:ys.length≤1000000) :
 Calls Tryz.prog 244 #[.slice a xs.length ca,.slice b ys.length cb] w fun e w'=>∃ a' c',e=.returned (.slice a' (digs n).length c')∧El w' iv a' (digs n)∧(digs n).length≤c'∧Fr w w':=by
 obtain ⟨nx,hnx⟩:∃ nx,nx=xs.length:=⟨_,rfl⟩
 obtain ⟨ny,hny⟩:∃ ny,ny=ys.length:=⟨_,rfl⟩
 rw [← hnx] at hl
 rw [← hny] at hm
 rw [← hnx,← hny]
 replace hnx:=hZ hnx
 replace hny:=hZ hny
 replace hx:=hZ hx
 replace hy:=hZ hy
 replace dx:=hZ dx
 replace dy:=hZ dy
 replace hn:=hZ hn
 obtain ⟨i0,hi,hz0,hz1,hz2⟩:=AQ DQ
 have hw1:IntKind.i64.wrap ((nx:Int)+(ny:Int))=(nx:Int)+(ny:Int):=Al _ (by omega)
 have hw2:IntKind.i64.wrap ((nx:Int)+(ny:Int)+1)=(nx:Int)+(ny:Int)+1:=Al _ (by omega)
 go_enter Tryz.func244,Tryz.ntmps244
 go_wp2_with (at_make; refine Dz _ rfl _ _ 43 rfl w.heap.size 3 i0 _ 1 Tryz.underlying43 hi hz0 hz1 _ _ _ _ (nx+ny+1) (by rfl) (by rfl) (by omega) (by omega) (by rw [hz2]; omega) (by unfold maxLen; omega) (Ag _) ?_; intro w2 hown2 hgr2)
 have hfw2:Fr w w2:=(Fr.refl w).grown hgr2 (fun k e=>by cases e)
 obtain ⟨B,hB⟩:∃ B,B=w.heap.size:=⟨_,rfl⟩
 have hown0:HP w2 B (List.replicate (nx+ny+1) 0):=by
  rw [hB]; exact Q9 rfl hown2
 have hM0:MP xs ys (List.replicate (nx+ny+1) 0) 0:=by rw [hnx.out,hny.out]; exact MP.zero xs ys
 rw [← hB]
 replace hown0:=hZ hown0
 replace hM0:=hZ hM0
 replace hB:=hZ hB
 clear hown2 hgr2 hw1 hw2
 go_loopg [6] nx (fun gk s6 wr=>∃ (i:Nat) (out:List Int),s6=.int .i64 i∧i+gk=nx∧Fr w wr∧Hid (HP wr B out)∧Hid (MP xs ys out i))
 case atStart=>exact ⟨0,_,rfl,by omega,hfw2,hown0,hM0⟩
 case round=>
  clear hown0 hM0 hfw2
  obtain ⟨i,out,rfl,hig,hf,hown,hM⟩:=hrel
  by_cases hi1:i < nx
  ·have d1:decide (i < nx)=true:=Ac hi1
   obtain ⟨xb,xo,d,rfl,-,hxi,hxc0⟩:=(hx.out.fr hf).at (i:=i) (by rw [← hnx.out]; exact hi1)
   obtain ⟨e0,e1⟩:=dx.out d (Ae hxi)
   have hfit:=hM.out.fit dx.out dy.out hxi
   have hMs:=hZ (hM.out.step dx.out dy.out hxi)
   have hR0:=hZ (JX.start (ys:=ys) (d:=d) (i:=i) hM.out.len hM.out.dg hfit)
   replace hxi:=hZ hxi
   clear hfit
   have hNl:=hZ (show xs.length+ys.length+1=nx+ny+1 by rw [hnx.out,hny.out])
   have z0:(0:Int)≤(i:Int):=by omega
   have z1:(i:Int) < (nx:Int):=by omega
   obtain ⟨ko,rfl⟩:∃ ko:Nat,ko=gk:=⟨_,rfl⟩
   go_wp2_with fail
   go_loopg [7,8] (nx+ny+1 - i) (fun gk s7 s8 wr2=>∃ (k:Nat) (c:Int) (cur:List Int),s7=.int .i64 c∧s8=.int .i64 k∧i+k+gk=nx+ny+1∧(0≤c∧c < 1000000000)∧Fr w wr2∧Hid (HP wr2 B cur)∧Hid (JX d (out.take i) (GU d (out.drop i) ys 0) i (xs.length+ys.length+1) ys k c cur))
   case atStart=>exact ⟨0,0,out,rfl,rfl,by omega,by omega,hf,hown,hR0⟩
   case round=>
    clear hown hR0 hM
    obtain ⟨k,c,cur,rfl,rfl,hkg,⟨hc0,hc1⟩,hf2,hown,hR⟩:=hrel
    clear hxc0
    obtain ⟨xb',xo',d',hae,-,hxi',hxc0⟩:=(hx.out.fr hf2).at (i:=i) (by rw [← hnx.out]; exact hi1)
    injection hae with hae; injection hae with hb9 ho9
    subst hb9; subst ho9
    rw [hxi.out] at hxi'
    injection hxi' with hxi'; subst hxi'
    by_cases hk1:k < ny
    ·have d2:decide (k < ny)=true:=Ac hk1
     have hN:=hR.out.at e0 dy.out hc0 (.inl ⟨by rw [← hny.out]; exact hk1,by have:=hNl.out; rw [this,← hny.out]; omega⟩)
     rw [hNl.out] at hN
     obtain ⟨yb,yo,y,rfl,-,hyk,hyc0⟩:=(hy.out.fr hf2).at (i:=k) (by rw [← hny.out]; exact hk1)
     obtain ⟨y0,y1⟩:=dy.out y (Ae hyk)
     obtain ⟨o,ho⟩:∃ o,cur[i+k]?=some o:=⟨_,Ab (by rw [hR.out.len,hNl.out]; exact hN)⟩
     obtain ⟨o0,o1⟩:=hR.out.dg o (Ae ho)
     obtain ⟨w0,w1⟩:=hown.out.2 _ _ ho
     have hRs0:=hR.out.step1 hyk ho
     have p0:0≤d * y:=Cv e0 y0
     have p1:d * y≤999999999 * 999999999:=Int.mul_le_mul (by omega) (by omega) y0 (by omega)
     have p2:IntKind.i64.wrap (d * y)=d * y:=Al _ (by omega)
     rw [show c+o+d * y=o+c+d * y by omega] at hRs0
     have hRs:=hZ hRs0
     have p3:((i:Int)+(k:Int)).toNat=i+k:=by omega
     have z2:(0:Int)≤(k:Int):=by omega
     have z3:(k:Int) < (ny:Int):=by omega
     have z4:(0:Int)≤(i:Int)+(k:Int):=by omega
     have z5:(i:Int)+(k:Int) < ((nx+ny+1:Nat):Int):=by omega
     replace hyk:=hZ hyk
     replace ho:=hZ ho
     have hlc:=hZ (Ah.1 ho.out).1
     clear hRs0
     go_wp2_with fail
     go_quiet (fail)
     go_wp2_with fail
     go_roundg (gk - 1)
     case measure=>omega
     case rel=>exact ⟨k+1,_,_,rfl,by go_num,by omega,by omega,(hf2.drewN _).setCell (by rw [hB.out]; exact Ag _) _,(hown.out.fr ((Fr.refl _).drewN _)).set hlc.out _,hRs⟩
    ·have d2:decide (k < ny)=false:=Aa hk1
     by_cases hc:0 < c
     ·have d3:decide (0 < c)=true:=Ac hc
      have hN:=hR.out.at e0 dy.out hc0 (.inr hc)
      rw [hNl.out] at hN
      obtain ⟨o,ho⟩:∃ o,cur[i+k]?=some o:=⟨_,Ab (by rw [hR.out.len,hNl.out]; exact hN)⟩
      obtain ⟨o0,o1⟩:=hR.out.dg o (Ae ho)
      obtain ⟨w0,w1⟩:=hown.out.2 _ _ ho
      have hRs0:=hR.out.step0 hc (by rw [← hny.out]; omega) ho
      rw [show c+o=o+c by omega] at hRs0
      have hRs:=hZ hRs0
      have p3:((i:Int)+(k:Int)).toNat=i+k:=by omega
      have z2:(0:Int)≤(k:Int):=by omega
      have z4:(0:Int)≤(i:Int)+(k:Int):=by omega
      have z5:(i:Int)+(k:Int) < ((nx+ny+1:Nat):Int):=by omega
      replace ho:=hZ ho
      have hlc:=hZ (Ah.1 ho.out).1
      clear hRs0
      go_wp2_with fail
      go_roundg (gk - 1)
      case measure=>omega
      case rel=>exact ⟨k+1,_,_,rfl,by go_num,by omega,by omega,hf2.setCell (by rw [hB.out]; exact Ag _) _,hown.out.set hlc.out _,hRs⟩
     ·have d3:decide (0 < c)=false:=Aa hc
      obtain rfl:c=0:=by omega
      have hfin:=hR.out.fin (by rw [← hny.out]; omega)
      have hMs2:=hMs.out
      rw [← hfin] at hMs2
      replace hMs2:=hZ hMs2
      clear hfin
      go_wp2_with fail
      go_roundg (ko - 1)
      case measure=>omega
      case rel=>exact ⟨i+1,cur,by go_num,by omega,hf2,hown,hMs2⟩
  ·have d1:decide (i < nx)=false:=Aa hi1
   obtain rfl:nx=i:=by omega
   have hol:out.length=nx+ny+1:=by rw [hM.out.len,hnx.out,hny.out]
   have hv:val out=(n:Int):=by
    rw [hM.out.vl,Ak (by rw [hnx.out]; exact Ag _)]; exact hn.out
   have htr:Bu out=digs n:=by rw [DC hM.out.dg,hv,AW]
   have htrim:=Jk out (some ⟨B,0,none⟩) (nx+ny+1) wr hown.out.el (by rw [hol]; omega) (by rw [hol]; exact Ag _)
   have hle:=(BO out).2
   have hE:=Hi hown.out.el
   rw [htr,hol] at hle htrim
   rw [htr] at hE
   replace htrim:=hZ htrim
   replace hE:=hZ hE
   clear hol hv htr
   go_wp2_with fail
   refine htrim.out.mono ?_
   rintro e w3 ⟨rfl,hf3⟩
   go_wp2_with fail
   go_ret
   exact ⟨_,_,rfl,hE.out.fr hf3,hle,hf.trans hf3⟩
end Go.Proofs.YtcglmebcfeoedaaGreatDoor
