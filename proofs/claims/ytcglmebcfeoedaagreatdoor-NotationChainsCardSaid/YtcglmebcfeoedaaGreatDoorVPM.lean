/- Contracts and laws: VPM. -/
import Derived.Test.YtcglmebcfeoedaaGreatDoorVPL
import Derived.Test.YtcglmebcfeoedaaGreatDoorVSB
import Derived.Test.YtcglmebcfeoedaaGreatDoorVJ
import Derived.Test.YtcglmebcfeoedaaGreatDoorVI
import Derived.Test.YtcglmebcfeoedaaGreatDoorVL

namespace Go.Proofs.YtcglmebcfeoedaaGreatDoor
open Go.RowKit Go.Lib
structure Sq (m c B:Nat) (g:List (List Int)):Prop where
 low:∀ k,k < c→∀ i,k < i→i < m→ent g i k=0
 pos:∀ k,k < c→0 < ent g k k
 up:∀ k,k < c→∀ i,i < k→0≤ent g i k∧ent g i k < ent g k k
 bd:∀ k,k < c→(ent g k k).natAbs≤B
theorem Sq.done {m c B:Nat} {g g':List (List Int)} (h:Sq m c B g) (d:S4 g g' c c m) (hb:(ent g' c c).natAbs≤B):Sq m (c+1) B g':=by
 have old:=fun k (hk:k < c)=>d.old k (fun i a b=>h.low k hk i (by omega) b)
 refine ⟨fun k hk i a b=>?_,fun k hk=>?_,fun k hk i a=>?_,fun k hk=>?_⟩
 ·by_cases e:k=c
  ·subst e; exact d.low i a b
  ·obtain ⟨o1,o2⟩:=old k (by omega)
   by_cases e1:i < c
   ·rw [o2 i e1]; exact h.low k (by omega) i a b
   ·exact o1 i (by omega) b
 ·by_cases e:k=c
  ·subst e; exact d.pos
  ·rw [(old k (by omega)).2 k (by omega)]; exact h.pos k (by omega)
 ·by_cases e:k=c
  ·subst e; exact d.up i a
  ·rw [(old k (by omega)).2 k (by omega),(old k (by omega)).2 i (by omega)]; exact h.up k (by omega) i a
 ·by_cases e:k=c
  ·subst e; exact hb
  ·rw [(old k (by omega)).2 k (by omega)]; exact h.bd k (by omega)
theorem Sq.some {m c B:Nat} {g:List (List Int)} (hm:m≤3) (hc:c < m) (h:Sq m c B g) (hd:JR m (ent g)≠0):∃ i,c≤i∧i < m∧ent g i c≠0:=by
 refine Ca fun hno=>hd ?_
 have hz:∀ i,c≤i→i < m→ent g i c=0:=fun i a b=>Ca fun h9=>hno ⟨i,a,b,h9⟩
 have h4:m=1∨m=2∨m=3:=by omega
 have l:=h.low
 rcases h4 with rfl | rfl | rfl
 ·obtain rfl:c=0:=by omega
  exact hz 0 (by omega) (by omega)
 ·have:c=0∨c=1:=by omega
  rcases this with rfl | rfl
  ·simp [JR,hz 0 (by omega) (by omega),hz 1 (by omega) (by omega)]
  ·simp [JR,hz 1 (by omega) (by omega),l 0 (by omega) 1 (by omega) (by omega)]
 ·have:c=0∨c=1∨c=2:=by omega
  rcases this with rfl | rfl | rfl
  ·simp [JR,hz 0 (by omega) (by omega),hz 1 (by omega) (by omega),hz 2 (by omega) (by omega)]
  ·simp [JR,hz 1 (by omega) (by omega),hz 2 (by omega) (by omega),l 0 (by omega) 1 (by omega) (by omega),l 0 (by omega) 2 (by omega) (by omega)]
  ·simp [JR,hz 2 (by omega) (by omega),l 0 (by omega) 1 (by omega) (by omega),l 0 (by omega) 2 (by omega) (by omega),l 1 (by omega) 2 (by omega) (by omega)]
theorem Qv {F n c t t':Nat} {g g3:List (List Int)} (h:GK F g c t=some (g3,t')) (ht:t < g.length):DR F (n+1) c g t=DR F n (c+1) g3 t':=by
 rw [DR,Aj ht,h]; rfl
structure ER (d B:Nat) (g gF:List (List Int)):Prop where
 rect:Ce d gF
 len:gF.length=d
 uni:Mn d (ent g) (ent gF)
 sq:Sq d d B gF
theorem Q4 {n d c F:Nat} {g0 g g3:List (List Int)} {B:Nat} (hc:c < d) (hn:c < n) (hr:Ce n g) (hl:g.length=d) (hu:Mn d (ent g0) (ent g)) (hs:Sq d c B g) (h:GK F g c c=some (g3,c+1)) (hb:(ent g3 c c).natAbs≤B) :
 Ce n g3∧g3.length=d∧Mn d (ent g0) (ent g3)∧Sq d (c+1) B g3∧DR F (n - c) c g c=DR F (n - (c+1)) (c+1) g3 (c+1):=by
 obtain ⟨u,a,b,-⟩:=Ot F g g3 (c+1) hr (by omega) h
 rw [hl] at u
 rcases L8 F g g3 (c+1) hr (by omega) h with ⟨e,-⟩ | ⟨-,dn⟩
 ·omega
 ·rw [hl] at dn
  refine ⟨a,by omega,hu.trans u,hs.done dn hb, ?_⟩
  rw [show n - c=(n - (c+1))+1 by omega]
  exact Qv h (by omega)
theorem Pe {d c B:Nat} {g0 g:List (List Int)} (hd:d≤3) (hc:c < d) (hu:Mn d (ent g0) (ent g)) (hs:Sq d c B g) (h0:JR d (ent g0)≠0):∃ i,c≤i∧i < d∧ent g i c≠0 :=
 hs.some hd hc (by rcases QZ hd hu with h | h <;> omega)
theorem Sq.zero (m B:Nat) (g:List (List Int)):Sq m 0 B g:=⟨fun _ h=>absurd h (Bs _),fun _ h=>absurd h (Bs _),fun _ h=>absurd h (Bs _),fun _ h=>absurd h (Bs _)⟩
theorem Ss {F n c t:Nat} {g:List (List Int)} (h:g.length≤t):DR F n c g t=some (g,t):=by
 cases n
 ·rfl
 ·rw [DR,Ai (by omega)]
theorem ER.bd {d B:Nat} {g gF:List (List Int)} (h:ER d B g gF) (i k:Nat):(ent gF i k).natAbs≤B:=by
 by_cases hk:k < d
 ·by_cases h1:i < k
  ·have:=h.sq.up k hk i h1
   have:=h.sq.bd k hk
   omega
  ·by_cases h2:i=k
   ·rw [h2]; exact h.sq.bd k hk
   ·by_cases h3:i < d
    ·rw [h.sq.low k hk i (by omega) h3]; exact Bm _
    ·unfold ent Bv
     rw [show gF[i]?=none from AM (by have:=h.len; omega)]
     exact Bm _
 ·rw [XD h.rect (by omega)]; exact Bm _
theorem TH {m:Nat} {E:Nat→Nat→Int} {x:Nat→Int} (h:Gi m E x):∃ c:Nat→Int,∀ k,x k=HO c (fun i=>E i k) m:=by
 induction h with
 | zero e=>exact ⟨fun _=>0,fun k=>by rw [e,Jg]⟩
 | @add x y i q hi _ e ih=>
   obtain ⟨c,hc⟩:=ih
   refine ⟨fun j=>c j+if i=j then q else 0,fun k=>?_⟩
   have:=L3 q i (fun i=>E i k) m
   rw [Aj hi] at this
   rw [e,hc,O9,this]
theorem O8 {f g:Nat→Int} {j:Nat}:∀ {n:Nat},(∀ i,i < n→i≠j→f i * g i=0)→HO f g n=if j < n then f j * g j else 0
 | 0,_=>by rw [Ai (Bs _)]; rfl
 | n+1,h=>by
   show HO f g n+f n * g n=_
   rw [O8 (n:=n) (fun i a b=>h i (by omega) b)]
   by_cases e:n=j
   ·subst e; rw [Ai (by omega),Aj (by omega)]; omega
   ·rw [h n (by omega) e]
    by_cases e2:j < n
    ·rw [Aj e2,Aj (by omega)]; omega
    ·rw [Ai e2,Ai (by omega)]; rfl
theorem Sq.zero_of {d B:Nat} {g:List (List Int)} (h:Sq d d B g) {x:Nat→Int} (hx:Gi d (ent g) x) (hs:∀ k,k < d→(x k).natAbs < (ent g k k).natAbs):∀ k,k < d→x k=0:=by
 obtain ⟨c,hc⟩:=TH hx
 have key:∀ j,j≤d→∀ i,i < j→c i=0:=fun j=>by
  induction j with
  | zero=>exact fun _ i hi=>absurd hi (Bs _)
  | succ j ih=>
    intro hj i hi
    by_cases e:i=j
    ·subst e
     have h1:=O8 (f:=c) (g:=fun r=>ent g r i) (j:=i) (n:=d) fun r a b=>by
      by_cases e2:r < i
      ·rw [ih (by omega) r e2]; exact Tc _
      ·rw [h.low i (by omega) r (by omega) a]; exact Dw _
     rw [Aj (by omega),← hc] at h1
     have h2:=hs i (by omega)
     rw [h1,BD] at h2
     refine Ca fun h9=>?_
     have:1 * (ent g i i).natAbs≤(c i).natAbs * (ent g i i).natAbs:=Be _ (by omega)
     omega
    ·exact ih (by omega) i (by omega)
 intro k hk
 rw [hc k,L4 (f':=fun _=>0) (g':=fun i=>ent g i k) fun j hj=>⟨key d (Ag _) j hj,rfl⟩,Jg]
def WW (d:Nat) (g:List (List Int)) (x:Nat→Int):Prop:=∀ k,k < d→0≤x k∧x k < ent g k k
theorem Sq.same {d B:Nat} {g:List (List Int)} (h:Sq d d B g) {x y:Nat→Int} (hx:WW d g x) (hy:WW d g y) (hd:Gi d (ent g) fun k=>x k - y k):∀ k,k < d→x k=y k:=fun k hk=>by
 have:=h.zero_of hd (fun k hk=>by have:=hx k hk; have:=hy k hk; show (x k - y k).natAbs < _; omega) k hk
 have:x k - y k=0:=this
 omega
def Ja (g:List (List Int)) (x:Nat→Int):Nat→Nat→Int
 | 0=>x
 | i+1=>fun k=>Ja g x i k - (Ja g x i i).fdiv (ent g i i) * ent g i k
theorem Ra {d:Nat} {g:List (List Int)} {x:Nat→Int}:∀ i,i≤d→Gi d (ent g) fun k=>x k - Ja g x i k
 | 0,_=>.zero fun k=>by show x k - x k=0; omega
 | i+1,h=>.add (x:=fun k=>x k - Ja g x i k) i ((Ja g x i i).fdiv (ent g i i)) (by omega) (Ra i (by omega)) fun k=>by
    show x k - (Ja g x i k - (Ja g x i i).fdiv (ent g i i) * ent g i k)=x k - Ja g x i k+_
    omega
theorem OH {d B:Nat} {g:List (List Int)} (h:Sq d d B g) {x:Nat→Int}:∀ i,i≤d→∀ k,k < i→0≤Ja g x i k∧Ja g x i k < ent g k k
 | 0,_,k,hk=>absurd hk (Bs _)
 | i+1,hi,k,hk=>by
   show 0≤Ja g x i k - (Ja g x i i).fdiv (ent g i i) * ent g i k∧Ja g x i k - (Ja g x i i).fdiv (ent g i i) * ent g i k < _
   by_cases e:k=i
   ·subst e
    rw [H2]
    exact ⟨Dx _ (h.pos k (by omega)),EH _ (h.pos k (by omega))⟩
   ·rw [h.low k (by omega) i (by omega) (by omega),Dw,Td]
    exact OH h i (by omega) k (by omega)
theorem VO {xs:List Int} {p:Nat} (h0:∀ k,k < p→(xs[k]?).getD 0=0) (h1:(xs[p]?).getD 0≠0):Et xs=p:=by
 unfold Et
 rcases Ks (fun x:Int=>x != 0) xs with ⟨-,h⟩ | ⟨k,x,h2,h3,h4,h5⟩
 ·exfalso
  cases e:xs[p]? with
  | none=>rw [e] at h1; exact h1 rfl
  | some y=>
    rw [e] at h1
    have:=h y (Ae e)
    simp at this
    exact h1 this
 ·rw [h2]
  have h4:x≠0:=by simpa using h4
  by_cases e1:k < p
  ·have:=h0 k e1; rw [h3] at this; exact absurd this h4
  ·by_cases e2:p < k
   ·cases e:xs[p]? with
    | none=>rw [e] at h1; exact absurd rfl h1
    | some y=>
      rw [e] at h1
      have:=h5 p y e2 e
      simp at this
      exact absurd this h1
   ·omega
theorem Sq.piv {d B:Nat} {g:List (List Int)} (h:Sq d d B g) {i:Nat} (hi:i < d):Et (Bv g i)=i :=
 VO (fun k hk=>h.low k (by omega) i hk hi) (by have:=h.pos i hi; show ent g i i≠0; omega)
theorem ER.ok {d B:Nat} {g0 g:List (List Int)} (h:ER d B g0 g):Hx g=true:=by
 refine As.2 fun i hi=>?_
 have hi:=AZ.1 hi
 rw [h.len] at hi
 simp only [Bb,J7]
 rw [h.sq.piv hi,AW]
 refine ⟨⟨⟨by omega,by have:=h.sq.pos i hi; show 0≤ent g i i; omega⟩, ?_⟩,As.2 fun x hx=>?_⟩
 ·split
  ·omega
  ·rw [h.sq.piv (show i - 1 < d by omega)]; omega
 ·obtain ⟨j,hj⟩:=AO hx
  have hjl:=(Ah.1 hj).1
  rw [AG] at hjl
  rw [BN,Aj (by omega)] at hj
  have e:x=Bv g j:=by unfold Bv; rw [hj]; rfl
  have h9:=h.sq.up i hi j (by omega)
  unfold KN
  rw [e,Tf,Bool.or_eq_false_iff]
  exact ⟨Aa (by show ¬ ent g j i < 0; omega),Aa (by show ¬ ent g i i≤ent g j i; omega)⟩
theorem V7 {x p:Int} {A:Nat} (hp:0 < p) (h:x.natAbs≤A * p.natAbs):(x.fdiv p).natAbs≤A:=by
 have e:=MX x p
 have h2:=Dx x hp
 have h3:=EH x hp
 generalize x.fdiv p=z at *
 generalize x.fmod p=f at *
 have h4:((A * p.natAbs:Nat):Int)=(A:Int) * p:=by rw [AU]; congr 1; omega
 refine Ca fun h9=>?_
 have h5:z≤-(A:Int) - 1∨(A:Int)+1≤z:=by omega
 rcases h5 with h5 | h5
 ·have h6:=HR h5 (show (0:Int)≤p by omega)
  have h7:p * (-(A:Int) - 1)=-((A:Int) * p) - p:=by grind
  omega
 ·have h6:=HR h5 (show (0:Int)≤p by omega)
  have h7:p * ((A:Int)+1)=(A:Int) * p+p:=by grind
  omega
theorem Rb {d B X:Nat} {g0 g:List (List Int)} (h:ER d B g0 g) (hd:d≤3) (hX:1≤X) (hB:4 * X * B < 10000000000000000000000000000000000000000) {x:List Int} (hl:x.length=d) (hx:∀ k:Nat,((x[k]?).getD 0).natAbs≤X):∀ i,i≤d→∃ s,H7 g x i=some s∧(∀ k:Nat,(s.1[k]?).getD 0=Ja g (fun k=>(x[k]?).getD 0) i k)∧(∀ y,y ∈ s.2→y.natAbs≤8 * X)∧∀ k:Nat,k < d→((s.1[k]?).getD 0).natAbs≤X * 2 ^ i * (ent g k k).natAbs
 | 0,_=>⟨(x,[]),rfl,fun _=>rfl,fun y hy=>by (cases hy),fun k hk=>by
    have:=hx k
    have h1:=h.sq.pos k hk
    have:X * 2 ^ 0 * 1≤X * 2 ^ 0 * (ent g k k).natAbs:=CC _ (by omega)
    show ((x[k]?).getD 0).natAbs≤_
    omega⟩
 | i+1,hi=>by
   obtain ⟨s,h1,h2,h3,h4⟩:=Rb h hd hX hB hl hx i (by omega)
   have hp:=h.sq.piv (show i < d by omega)
   have hs1:=(EM i s h1).1
   have h2i:2 ^ i≤4:=by
    have:i=0∨i=1∨i=2:=by omega
    rcases this with rfl | rfl | rfl <;> decide
   have hA:X * 2 ^ i≤4 * X:=by rw [EF 4]; exact CC X h2i
   have hB1:B≤4 * X * B:=Mu B (by omega)
   have hX1:4 * X≤4 * X * B:=Eo _ (by have:=h.sq.pos 0 (by omega); have:=h.sq.bd 0 (by omega); omega)
   have hq:=V7 (h.sq.pos i (by omega)) (h4 i (by omega))
   have hsm:∀ k:Nat,((s.1[k]?).getD 0).natAbs < 10000000000000000000000000000000000000000:=fun k=>by
    by_cases hk:k < d
    ·have a:=h4 k hk
     have b:=h.sq.bd k hk
     have:X * 2 ^ i * (ent g k k).natAbs≤4 * X * B:=CH hA b
     omega
    ·rw [AM (by omega)]; show (0:Int).natAbs < _; decide
   have hrl:=EI h.rect (show i < g.length by have:=h.len; omega)
   obtain ⟨y,hy⟩:=Lr (q:=((s.1[i]?).getD 0).fdiv (ent g i i)) (xs:=s.1) (ys:=Bv g i) (by rw [hrl,hs1,hl]) (fun _ k=>Qe (by omega) (by have:=h.bd i k; show (ent g i k).natAbs < _; omega) (by have:=hsm k; omega))
   have hget:=M4 hy (by rw [hrl,hs1,hl])
   refine ⟨(y,s.2 ++ [((s.1[i]?).getD 0).fdiv (ent g i i)]), ?_,fun k=>?_,fun z hz=>?_,fun k hk=>?_⟩
   ·show (H7 g x i).bind (Hn (Bv g i))=_
    rw [h1]
    show Hn (Bv g i) s=_
    unfold Hn
    rw [hp,AW]
    have c1:M5 ((s.1[i]?).getD 0)=true:=GC (by have:=hsm i; omega)
    have c2:M5 (((Bv g i)[i]?).getD 0)=true:=GC (by have:=h.bd i i; show (ent g i i).natAbs < _; omega)
    have c3:(((Bv g i)[i]?).getD 0 != 0)=true:=by
     have:=h.sq.pos i (by omega)
     have h9:ent g i i≠0:=by omega
     exact Bl.2 h9
    rw [c1,c2,c3]
    show (DO (((s.1[i]?).getD 0).fdiv (ent g i i)) s.1 (Bv g i)).map _=_
    rw [hy]; rfl
   ·rw [hget k,h2,h2]; rfl
   ·rcases A5.1 hz with h9 | h9
    ·exact h3 z h9
    ·rw [Bo] at h9; subst h9; omega
   ·rw [hget k]
    by_cases e:k < i
    ·have:((Bv g i)[k]?).getD 0=0:=h.sq.low k hk i e (by omega)
     rw [this,Dw,Td]
     have:=h4 k hk
     have:X * 2 ^ i * (ent g k k).natAbs≤X * 2 ^ (i+1) * (ent g k k).natAbs:=Be _ (CC X (by rw [Bj]; omega))
     omega
    ·have hle:(((Bv g i)[k]?).getD 0).natAbs≤(ent g k k).natAbs:=by
      show (ent g i k).natAbs≤_
      by_cases e2:i=k
      ·subst e2; exact Ag _
      ·have:=h.sq.up k hk i (by omega); omega
     have:=Pu (h4 k hk) hq hle
     have e3:X * 2 ^ (i+1) * (ent g k k).natAbs=X * 2 ^ i * (ent g k k).natAbs+X * 2 ^ i * (ent g k k).natAbs:=by rw [Bj]; grind
     omega
def CJ (g:List (List Int)) (x:List Int):Nat→Int
 | 0=>0
 | k+1=>CJ g x k * Ef g k+(x[k]?).getD 0
def My (g:List (List Int)):Nat→Int
 | 0=>1
 | k+1=>My g k * Ef g k
def Gf (g:List (List Int)) (k:Nat) (x:List Int):Prop:=∀ j:Nat,j < k→0≤(x[j]?).getD 0∧(x[j]?).getD 0 < Ef g j
theorem Gr {g:List (List Int)} {x:List Int}:∀ k,Gf g k x→0≤CJ g x k∧CJ g x k < My g k
 | 0,_=>⟨Ez _,by show (0:Int) < 1; decide⟩
 | k+1,h=>by
   obtain ⟨h1,h2⟩:=Gr k fun j hj=>h j (by omega)
   obtain ⟨h3,h4⟩:=h k (by omega)
   have h5:0≤Ef g k:=by omega
   refine ⟨Int.add_nonneg (Cv h1 h5) h3, ?_⟩
   show CJ g x k * Ef g k+(x[k]?).getD 0 < My g k * Ef g k
   have h6:=AP (show CJ g x k+1≤My g k by omega) h5
   rw [Gm,Ey] at h6
   omega
theorem I5 {g:List (List Int)} {x y:List Int}:∀ k,(∀ j:Nat,j < k→(x[j]?).getD 0=(y[j]?).getD 0)→CJ g x k=CJ g y k
 | 0,_=>rfl
 | k+1,h=>by
   show CJ g x k * _+_=CJ g y k * _+_
   rw [I5 k fun j hj=>h j (by omega),h k (by omega)]
theorem HV {g:List (List Int)} {x y:List Int}:∀ k,Gf g k x→Gf g k y→CJ g x k=CJ g y k→∀ j:Nat,j < k→(x[j]?).getD 0=(y[j]?).getD 0
 | 0,_,_,_,j,hj=>absurd hj (Bs _)
 | k+1,hx,hy,h,j,hj=>by
   have h:CJ g x k * Ef g k+(x[k]?).getD 0=CJ g y k * Ef g k+(y[k]?).getD 0:=h
   obtain ⟨a1,a2⟩:=hx k (by omega)
   obtain ⟨b1,b2⟩:=hy k (by omega)
   have key:CJ g x k=CJ g y k:=by
    refine Ca fun hne=>?_
    have h9:CJ g x k+1≤CJ g y k∨CJ g y k+1≤CJ g x k:=by omega
    rcases h9 with h9 | h9
    ·have:=AP h9 (show 0≤Ef g k by omega)
     rw [Gm,Ey] at this; omega
    ·have:=AP h9 (show 0≤Ef g k by omega)
     rw [Gm,Ey] at this; omega
   by_cases e:j=k
   ·subst e; rw [key] at h; omega
   ·exact HV k (fun j hj=>hx j (by omega)) (fun j hj=>hy j (by omega)) key j (by omega)
theorem Uk (x:List Int) (k:Nat) (v:Int) (hk:k < x.length) (j:Nat):((x.set k v)[j]?).getD 0=if j=k then v else (x[j]?).getD 0:=by
 rw [BA]
 by_cases e:k=j
 ·subst e; rw [Aj rfl,Aj hk,Aj rfl]; rfl
 ·rw [Ai e,Ai fun h=>e h.symm]
theorem IE {g:List (List Int)}:∀ (k:Nat) (x:List Int),k≤x.length→(∀ j,j < k→0 < Ef g j)→Gf g k x→(match Gy g k x with | none=>CJ g x k+1=My g k | some y=>Gf g k y∧CJ g y k=CJ g x k+1∧(∀ j:Nat,k≤j→(y[j]?).getD 0=(x[j]?).getD 0)∧y.length=x.length)
 | 0,x,_,_,_=>by rw [Gy]; rfl
 | k+1,x,hl,hp,hx=>by
   rw [Gy]
   have hset:=fun v j=>Uk x k v (by omega) j
   obtain ⟨a1,a2⟩:=hx k (by omega)
   by_cases e:(x[k]?).getD 0=Ef g k - 1
   ·rw [Aj e]
    have hb:Gf g k (x.set k 0):=fun j hj=>by rw [hset,Ai (by omega)]; exact hx j (by omega)
    have ih:=IE k (x.set k 0) (by rw [AN]; omega) (fun j hj=>hp j (by omega)) hb
    have hv:CJ g (x.set k 0) k=CJ g x k:=I5 k fun j hj=>by rw [hset,Ai (by omega)]
    cases hn:Gy g k (x.set k 0) with
    | none=>
      rw [hn] at ih
      replace ih:CJ g (x.set k 0) k+1=My g k:=ih
      rw [hv] at ih
      show CJ g x k * Ef g k+(x[k]?).getD 0+1=My g k * Ef g k
      rw [← ih,Gm,Ey,e]; omega
    | some y=>
      rw [hn] at ih
      obtain ⟨i1,i2,i3,i4⟩:=ih
      have hyk:(y[k]?).getD 0=0:=by rw [i3 k (Ag _),hset,Aj rfl]
      refine ⟨fun j hj=>?_, ?_,fun j hj=>?_,by rw [i4,AN]⟩
      ·by_cases e2:j=k
       ·subst e2; rw [hyk]; exact ⟨Ez _,hp j (by omega)⟩
       ·exact i1 j (by omega)
      ·show CJ g y k * Ef g k+(y[k]?).getD 0=CJ g x k * Ef g k+(x[k]?).getD 0+1
       rw [i2,hv,hyk,e,Gm,Ey]; omega
      ·rw [i3 j (by omega),hset,Ai (by omega)]
   ·rw [Ai e]
    refine ⟨fun j hj=>?_, ?_,fun j hj=>by rw [hset,Ai (by omega)],AN⟩
    ·rw [hset]
     by_cases e2:j=k
     ·subst e2; rw [Aj rfl]; omega
     ·rw [Ai e2]; exact hx j hj
    ·show CJ g _ k * Ef g k+_=CJ g x k * Ef g k+(x[k]?).getD 0+1
     rw [I5 (y:=x) k fun j hj=>by rw [hset,Ai (by omega)],hset,Aj rfl]; omega
def SP (g:List (List Int)) (p:List Int→Bool) (d:Nat):Nat→List Int→Option (Option (List Int))
 | 0,_=>none
 | f+1,x=>if p x then match Gy g d x with | none=>some none | some y=>SP g p d f y else some (some x)
theorem RK {g:List (List Int)} {p:List Int→Bool} {d:Nat} (hp:∀ j,j < d→0 < Ef g j):∀ (f:Nat) (x:List Int),x.length=d→Gf g d x→My g d - CJ g x d≤f→∃ res,SP g p d f x=some res ∧
 (match res with | none=>∀ y:List Int,y.length=d→Gf g d y→CJ g x d≤CJ g y d→p y=true | some y=>y.length=d∧Gf g d y∧p y=false)
 | 0,x,hl,hb,hf=>by have:=(Gr d hb).2; omega
 | f+1,x,hl,hb,hf=>by
   rw [SP]
   by_cases e:p x=true
   ·rw [Aj e]
    have h:=IE d x (by omega) hp hb
    cases hn:Gy g d x with
    | none=>
      rw [hn] at h
      replace h:CJ g x d+1=My g d:=h
      refine ⟨none,rfl,fun y hy1 hy2 hy3=>?_⟩
      have h1:=(Gr d hy2).2
      have h2:=HV d hb hy2 (by omega)
      have:y=x:=Cm fun j=>by
       by_cases hj:j < d
       ·have:=h2 j hj
        rw [Ab (by omega),Ab (by omega)] at this ⊢
        simp at this; rw [this]
       ·rw [AM (by omega),AM (by omega)]
      rw [this]; exact e
    | some y=>
      rw [hn] at h
      obtain ⟨i1,i2,-,i4⟩:=h
      obtain ⟨res,r1,r2⟩:=RK hp f y (by omega) i1 (by omega)
      refine ⟨res,r1, ?_⟩
      cases res with
      | some z=>exact r2
      | none=>
        intro z hz1 hz2 hz3
        by_cases e2:CJ g x d=CJ g z d
        ·have h2:=HV d hb hz2 e2
         have:z=x:=Cm fun j=>by
          by_cases hj:j < d
          ·have:=h2 j hj
           rw [Ab (by omega),Ab (by omega)] at this ⊢
           simp at this; rw [this]
          ·rw [AM (by omega),AM (by omega)]
         rw [this]; exact e
        ·exact r2 z hz1 hz2 (by omega)
   ·rw [Ai e]
    exact ⟨some x,rfl,hl,hb,by simpa using e⟩
theorem VC {g:List (List Int)} {d B:Nat} (hd:d≤3) (h:Sq d d B g):JR d (ent g)=My g d:=by
 have h4:d=0∨d=1∨d=2∨d=3:=by omega
 rcases h4 with rfl | rfl | rfl | rfl
 ·rfl
 ·show ent g 0 0=1 * Ef g 0
  rw [Ey]; rfl
 ·have h1:=h.low 0 (by omega) 1 (by omega) (by omega)
  show ent g 0 0 * ent g 1 1 - ent g 0 1 * ent g 1 0=1 * Ef g 0 * Ef g 1
  rw [h1]
  show ent g 0 0 * ent g 1 1 - ent g 0 1 * 0=1 * ent g 0 0 * ent g 1 1
  grind
 ·have h1:=h.low 0 (by omega) 1 (by omega) (by omega)
  have h2:=h.low 0 (by omega) 2 (by omega) (by omega)
  have h3:=h.low 1 (by omega) 2 (by omega) (by omega)
  show ent g 0 0 * (ent g 1 1 * ent g 2 2 - ent g 1 2 * ent g 2 1) - ent g 0 1 * (ent g 1 0 * ent g 2 2 - ent g 1 2 * ent g 2 0)+ent g 0 2 * (ent g 1 0 * ent g 2 1 - ent g 1 1 * ent g 2 0)=1 * ent g 0 0 * ent g 1 1 * ent g 2 2
  rw [h1,h2,h3]
  grind
theorem Nk (n:Int):(32:UInt8) ∉ (tx n).data.toList:=by
 rw [Fo]
 unfold itoa
 intro h
 have hd:∀ u:Nat,(32:UInt8) ∉ decDigits u:=fun u h=>by have:=B2 u _ h; revert this; decide
 split at h
 ·rcases A1.1 h with h | h
  ·revert h; decide
  ·exact hd _ h
 ·exact hd _ h
theorem Li:∀ {xs ys:List Int},xs.map tx=ys.map tx→xs=ys
 | [],[],_=>rfl
 | [],_ :: _,h=>by simp at h
 | _ :: _,[],h=>by simp at h
 | x :: xs,y :: ys,h=>by
   rw [BQ,BQ] at h
   injection h with h1 h2
   rw [Xc h1,Li h2]
theorem Sb {xs ys:List Int} (hl:xs.length=ys.length) (h:Dk xs=Dk ys):xs=ys:=by
 have h1:(EP (xs.map tx))=EP (ys.map tx):=by
  have h2:=congrArg (fun b:ByteArray=>b.data.toList) h
  unfold Dk at h2
  simp only [MY,IM] at h2
  have h3:=List.append_cancel_right h2
  exact Il (List.append_cancel_left h3)
 cases xs with
 | nil=>rw [List.length_nil] at hl; exact (AD hl.symm).symm
 | cons x xs=>
   cases ys with
   | nil=>simp at hl
   | cons y ys=>
     have hn:∀ (z:Int) (l:List Int),∀ w,w ∈ tx z :: l.map tx→(32:UInt8) ∉ w.data.toList:=fun z l w hw=>by
      rcases A1.1 hw with rfl | hw
      ·exact Nk _
      ·obtain ⟨v,-,rfl⟩:=Bg.1 hw; exact Nk _
     have a1:=(KI (tx x) (xs.map tx) (hn x xs)).2
     have a2:=(KI (tx y) (ys.map tx) (hn y ys)).2
     rw [BQ,BQ] at h1
     rw [h1,a2] at a1
     exact (Li (xs:=y :: ys) (ys:=x :: xs) (by rw [BQ,BQ]; exact a1)).symm
theorem NL {x y:List Int} {d:Nat} (hx:x.length=d) (hy:y.length=d) (h:∀ k:Nat,k < d→(x[k]?).getD 0=(y[k]?).getD 0):x=y:=Cm fun j=>by
 by_cases hj:j < d
 ·have:=h j hj
  rw [Ab (by omega),Ab (by omega)] at this ⊢
  simp at this; rw [this]
 ·rw [AM (by omega),AM (by omega)]
section
variable {m g:List (List Int)} {d B:Nat}
structure KS (m g:List (List Int)) (d:Nat) (x y:List Int):Prop where
 len:y.length=d
 box:Gf g d y
 sp:Gi d (ent m) fun k=>(x[k]?).getD 0 - (y[k]?).getD 0
theorem UF (hg:ER d B m g) {y z:List Int} (hy:y.length=d) (hz:z.length=d) (by':Gf g d y) (bz:Gf g d z) (h:Gi d (ent m) fun k=>(y[k]?).getD 0 - (z[k]?).getD 0):y=z :=
 NL hy hz fun k hk=>hg.sq.same (x:=fun k=>(y[k]?).getD 0) (y:=fun k=>(z[k]?).getD 0) (fun k hk=>by' k hk) (fun k hk=>bz k hk) ((Tn hg.uni _).1 h) k hk
theorem KS.eq_iff (hg:ER d B m g) {x y z:List Int} (h:KS m g d x y) (hz:z.length=d) (bz:Gf g d z):z=y ↔ Gi d (ent m) fun k=>(z[k]?).getD 0 - (x[k]?).getD 0:=by
 constructor
 ·rintro rfl
  exact (Gi.addmul (x:=fun _=>0) (-1) (.zero fun _=>rfl) h.sp).congr fun k=>by omega
 ·intro hs
  refine UF hg hz h.len bz h.box ?_
  exact (hs.addmul 1 h.sp).congr fun k=>by omega
theorem KS.same_iff (hg:ER d B m g) {x x' y y':List Int} (h:KS m g d x y) (h':KS m g d x' y'):y=y' ↔ Gi d (ent m) fun k=>(x[k]?).getD 0 - (x'[k]?).getD 0:=by
 rw [KS.eq_iff hg h' h.len h.box]
 constructor
 ·intro hs; exact (hs.addmul 1 h.sp).congr fun k=>by omega
 ·intro hs; exact (hs.addmul (-1) h.sp).congr fun k=>by omega
end
theorem Rh:∀ {l1 l2:List Nat},l1.Nodup→(∀ a,a ∈ l1→a ∈ l2)→l1.length≤l2.length
 | [],_,_,_=>Bm _
 | a :: l,l2,h,hs=>by
   obtain ⟨s,t,rfl⟩:=List.append_of_mem (hs a Bp)
   obtain ⟨h1,h2⟩:=List.nodup_cons.1 h
   have ih:=Rh (l1:=l) (l2:=s ++ t) h2 fun b hb=>by
    have:=hs b (BX _ hb)
    rcases A5.1 this with h3 | h3
    ·exact A5.2 (.inl h3)
    ·rcases A1.1 h3 with h4 | h4
     ·subst h4; exact absurd hb h1
     ·exact A5.2 (.inr h4)
   rw [Ar,A3]
   rw [Ar] at ih
   rw [A3]; omega
theorem T7 {f:Nat→Nat} {M:Nat} (h:∀ i j,i < j→j < M→f i≠f j):((List.range M).map f).Nodup:=by
 rw [List.nodup_iff_pairwise_ne,List.pairwise_map]
 refine List.Pairwise.imp_of_mem (R:=fun i j=>i < j) (fun {a b} ha hb hab=>h a b hab (AZ.1 hb)) List.pairwise_lt_range
theorem Uz {g:List (List Int)} {d M:Nat} (hp:∀ j,j < d→0 < Ef g j) {R:Nat→List Int} (hR:∀ i,i < M→(R i).length=d∧Gf g d (R i)) (hne:∀ i j,i < j→j < M→R i≠R j) (hall:∀ y:List Int,y.length=d→Gf g d y→∃ i,i < M∧R i=y):(M:Int)=My g d:=by
 have hv:∀ i,i < M→0≤CJ g (R i) d∧CJ g (R i) d < My g d:=fun i hi=>Gr d (hR i hi).2
 obtain ⟨f,hf⟩:∃ f:Nat→Nat,f=fun i=>(CJ g (R i) d).toNat:=⟨_,rfl⟩
 have hinj:∀ i j,i < j→j < M→f i≠f j:=fun i j hij hj e=>by
  rw [hf] at e
  have e:(CJ g (R i) d).toNat=(CJ g (R j) d).toNat:=e
  have a:=hv i (by omega)
  have b:=hv j hj
  have h1:CJ g (R i) d=CJ g (R j) d:=by omega
  exact hne i j hij hj (NL (hR i (by omega)).1 (hR j hj).1 (HV d (hR i (by omega)).2 (hR j hj).2 h1))
 have h1:=Rh (l2:=List.range (My g d).toNat) (T7 hinj) fun a ha=>by
  obtain ⟨i,hi,rfl⟩:=Bg.1 ha
  have:=hv i (AZ.1 hi)
  rw [hf]
  exact AZ.2 (by show (CJ g (R i) d).toNat < _; omega)
 have hex:∀ v:Nat,(v:Int) < My g d→∃ y:List Int,y.length=d∧Gf g d y∧CJ g y d=v:=fun v=>by
  induction v with
  | zero=>
    intro _
    have hz:∀ j:Nat,((List.replicate d (0:Int))[j]?).getD 0=0:=fun j=>by rw [Cq]; split <;> rfl
    refine ⟨List.replicate d 0,AH,fun j hj=>by rw [hz]; exact ⟨Ez _,hp j hj⟩, ?_⟩
    have:∀ k,CJ g (List.replicate d 0) k=0:=fun k=>by
     induction k with
     | zero=>rfl
     | succ k ih=>show CJ g _ k * _+_=_; rw [ih,hz]; omega
    exact this d
  | succ v ih=>
    intro hlt
    obtain ⟨y,y1,y2,y3⟩:=ih (by omega)
    have h9:=IE d y (by omega) hp y2
    cases hn:Gy g d y with
    | none=>
      rw [hn] at h9
      replace h9:CJ g y d+1=My g d:=h9
      omega
    | some z=>
      rw [hn] at h9
      obtain ⟨i1,i2,-,i4⟩:=h9
      exact ⟨z,by omega,i1,by omega⟩
 have h2:=Rh (l1:=List.range (My g d).toNat) (l2:=(List.range M).map f) List.nodup_range fun v hv'=>by
  obtain ⟨y,y1,y2,y3⟩:=hex v (by have:=AZ.1 hv'; omega)
  obtain ⟨i,hi,rfl⟩:=hall y y1 y2
  exact Bg.2 ⟨i,AZ.2 hi,by rw [hf]; show (CJ g (R i) d).toNat=v; omega⟩
 rw [Am,Bz,Bz] at h1 h2
 have:0≤My g d:=by
  by_cases h0:M=0
  ·have:∀ k,(∀ j,j < k→0 < Ef g j)→0 < My g k:=fun k=>by
    induction k with
    | zero=>intro _; show (0:Int) < 1; decide
    | succ k ih=>intro h; exact Int.mul_pos (ih fun j hj=>h j (by omega)) (h k (by omega))
   have:=this d hp; omega
  ·have:=hv 0 (by omega); omega
 omega
theorem Pv {g:List (List Int)} {l:List ByteArray} {d:Nat} (hp:∀ j,j < d→0 < Ef g j) (hf:∀ x:List Int,x.length=d→Gf g d x→x.all Bi=true):∀ (f:Nat) (x:List Int),x.length=d→Gf g d x→Mk g l d f x=SP g (fun x=>l.any fun y=>y.toList == (Dk x).toList) d f x
 | 0,_,_,_=>rfl
 | f+1,x,hl,hb=>by
   rw [Mk,SP,Aj (hf x hl hb)]
   have h9:=IE d x (by omega) hp hb
   cases hn:Gy g d x with
   | none=>rfl
   | some y=>
     rw [hn] at h9
     obtain ⟨i1,-,-,i4⟩:=h9
     show (if _ then Mk g l d f y else _)=if _ then SP g _ d f y else _
     rw [Pv hp hf f y (by omega) i1]
end Go.Proofs.YtcglmebcfeoedaaGreatDoor
