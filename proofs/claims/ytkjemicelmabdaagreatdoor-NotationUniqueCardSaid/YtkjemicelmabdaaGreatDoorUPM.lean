/- Contracts and laws: UPM. -/
import Derived.Test.YtkjemicelmabdaaGreatDoorUPL
import Derived.Test.YtkjemicelmabdaaGreatDoorUSB
import Derived.Test.YtkjemicelmabdaaGreatDoorUJ
import Derived.Test.YtkjemicelmabdaaGreatDoorUI
import Derived.Test.YtkjemicelmabdaaGreatDoorUL
import Derived.Test.YtkjemicelmabdaaGreatDoorUSC

namespace Go.Proofs.YtkjemicelmabdaaGreatDoor
open Go.RowKit Go.Lib
structure Sq (m c B:Nat) (g:List (List Int)):Prop where
 low:∀ k,k < c→∀ i,k < i→i < m→ent g i k=0
 pos:∀ k,k < c→0 < ent g k k
 up:∀ k,k < c→∀ i,i < k→0≤ent g i k∧ent g i k < ent g k k
 bd:∀ k,k < c→(ent g k k).natAbs≤B
theorem Sq.done {m c B:Nat} {g g':List (List Int)} (h:Sq m c B g) (d:TB g g' c c m) (hb:(ent g' c c).natAbs≤B):Sq m (c+1) B g':=by
 have old:=fun k (hk:k < c)=>d.old k (fun i a b=>h.low k hk i (by omega) b)
 refine ⟨fun k hk i a b=>?_,fun k hk=>?_,fun k hk i a=>?_,fun k hk=>?_⟩
 ·by_cases e:k=c
  ·subst e; exact d.low i a b
  ·obtain ⟨o1,o2⟩:=old k (by omega)
   by_cases e1:i < c
   ·rw [o2 i e1]; exact h.low k (by omega) i a b
   ·exact o1 i (by omega) b
 ·by_cases e:k=c
  ·subst e; exact d.pos
  ·rw [(old k (by omega)).2 k (by omega)]; exact h.pos k (by omega)
 ·by_cases e:k=c
  ·subst e; exact d.up i a
  ·rw [(old k (by omega)).2 k (by omega),(old k (by omega)).2 i (by omega)]; exact h.up k (by omega) i a
 ·by_cases e:k=c
  ·subst e; exact hb
  ·rw [(old k (by omega)).2 k (by omega)]; exact h.bd k (by omega)
theorem Sq.some {m c B:Nat} {g:List (List Int)} (hm:m≤3) (hc:c < m) (h:Sq m c B g) (hd:JM m (ent g)≠0):∃ i,c≤i∧i < m∧ent g i c≠0:=by
 refine Bl fun hno=>hd ?_
 have hz:∀ i,c≤i→i < m→ent g i c=0:=fun i a b=>Bl fun h9=>hno ⟨i,a,b,h9⟩
 have h4:m=1∨m=2∨m=3:=by omega
 have l:=h.low
 rcases h4 with rfl | rfl | rfl
 ·obtain rfl:c=0:=by omega
  exact hz 0 (by omega) (by omega)
 ·have:c=0∨c=1:=by omega
  rcases this with rfl | rfl
  ·simp [JM,hz 0 (by omega) (by omega),hz 1 (by omega) (by omega)]
  ·simp [JM,hz 1 (by omega) (by omega),l 0 (by omega) 1 (by omega) (by omega)]
 ·have:c=0∨c=1∨c=2:=by omega
  rcases this with rfl | rfl | rfl
  ·simp [JM,hz 0 (by omega) (by omega),hz 1 (by omega) (by omega),hz 2 (by omega) (by omega)]
  ·simp [JM,hz 1 (by omega) (by omega),hz 2 (by omega) (by omega),l 0 (by omega) 1 (by omega) (by omega),l 0 (by omega) 2 (by omega) (by omega)]
  ·simp [JM,hz 2 (by omega) (by omega),l 0 (by omega) 1 (by omega) (by omega),l 0 (by omega) 2 (by omega) (by omega),l 1 (by omega) 2 (by omega) (by omega)]
theorem QY {F n c t t':Nat} {g g3:List (List Int)} (h:Gk F g c t=some (g3,t')) (ht:t < g.length):ET F (n+1) c g t=ET F n (c+1) g3 t':=by
 rw [ET,Ak ht,h]; rfl
structure DP (d B:Nat) (g gF:List (List Int)):Prop where
 rect:BU d gF
 len:gF.length=d
 uni:KV d (ent g) (ent gF)
 sq:Sq d d B gF
theorem Ii {d c F:Nat} {g0 g g3:List (List Int)} {B:Nat} (hc:c < d) (hr:BU d g) (hl:g.length=d) (hu:KV d (ent g0) (ent g)) (hs:Sq d c B g) (h:Gk F g c c=some (g3,c+1)) (hb:(ent g3 c c).natAbs≤B) :
 BU d g3∧g3.length=d∧KV d (ent g0) (ent g3)∧Sq d (c+1) B g3∧ET F (d - c) c g c=ET F (d - (c+1)) (c+1) g3 (c+1):=by
 obtain ⟨u,a,b,-⟩:=OR F g g3 (c+1) hr (by omega) h
 rw [hl] at u
 rcases Mc F g g3 (c+1) hr (by omega) h with ⟨e,-⟩ | ⟨-,dn⟩
 ·omega
 ·rw [hl] at dn
  refine ⟨a,by omega,hu.trans u,hs.done dn hb, ?_⟩
  rw [show d - c=(d - (c+1))+1 by omega]
  exact QY h (by omega)
theorem JN {d c B:Nat} {g0 g:List (List Int)} (hd:d≤3) (hc:c < d) (hu:KV d (ent g0) (ent g)) (hs:Sq d c B g) (h0:JM d (ent g0)≠0):∃ i,c≤i∧i < d∧ent g i c≠0 :=
 hs.some hd hc (by rcases Rs hd hu with h | h <;> omega)
theorem Sq.zero (m B:Nat) (g:List (List Int)):Sq m 0 B g:=⟨fun _ h=>absurd h (Bc _),fun _ h=>absurd h (Bc _),fun _ h=>absurd h (Bc _),fun _ h=>absurd h (Bc _)⟩
theorem UT {d:Nat} {g:List (List Int)} (d1:1≤d) (d3:d≤3) (hr:BU d g) (hl:g.length=d) (hb:∀ i,i < d→∀ k,(ent g i k).natAbs≤9) (h0:JM d (ent g)≠0):∃ gF,ET 200000 d 0 g 0=some (gF,d)∧DP d 176418 g gF:=by
 have h4:d=1∨d=2∨d=3:=by omega
 have z0:=Sq.zero d 176418 g
 obtain ⟨i,-,hi,hn⟩:=JN d3 (c:=0) (by omega) .refl z0 h0
 rcases h4 with rfl | rfl | rfl
 ·obtain rfl:i=0:=by omega
  obtain ⟨g1,k1,-,k3⟩:=Md (t:=0) (c:=0) (T:=0) (V:=9) (F:=200000) hr (by omega) hn (by omega) (by omega) (by omega) (fun i h=>absurd h (Bc _)) (hb 0 (by omega))
  obtain ⟨a1,a2,a3,a4,a5⟩:=Ii (c:=0) (by omega) hr hl .refl z0 k1 (by have:=k3 0; omega)
  exact ⟨g1,a5,a1,a2,a3,a4⟩
 ·obtain ⟨g1,k1,-,k3⟩:=PN (t:=0) (c:=0) (T:=0) (K:=9) (F:=200000) (P2.of hr hl (by omega) (fun i h=>absurd h (Bc _)) (hb 0 (by omega)) (hb 1 (by omega))) (by
   have:i=0∨i=1:=by omega
   rcases this with rfl | rfl
   ·exact .inl hn
   ·exact .inr hn) (by omega) (by omega) (by omega) (by omega)
  obtain ⟨a1,a2,a3,a4,a5⟩:=Ii (c:=0) (by omega) hr hl .refl z0 k1 (by have:=(k3 0).1; omega)
  obtain ⟨j,j1,j2,jn⟩:=JN d3 (c:=1) (by omega) a3 a4 h0
  obtain rfl:j=1:=by omega
  obtain ⟨g2,q1,-,q3⟩:=Md (t:=1) (c:=1) (T:=162) (V:=162) (F:=200000) a1 (by omega) jn (by omega) (by omega) (by omega) (fun i h k=>by
   obtain rfl:i=0:=by omega
   exact (k3 k).1) (fun k=>(k3 k).2)
  obtain ⟨b1,b2,b3,b4,b5⟩:=Ii (c:=1) (by omega) a1 a2 a3 a4 q1 (by have:=q3 1; omega)
  exact ⟨g2,a5.trans b5,b1,b2,b3,b4⟩
 ·have hsh:Vo 0 g [[ent g 0 0,9],[ent g 1 0,9],[ent g 2 0,9]]:=⟨hl,rfl,fun i hi=>by
   have:i=0∨i=1∨i=2:=by omega
   rcases this with rfl | rfl | rfl <;> rfl,fun i hi k=>by
   have:=hb i hi k
   have h9:i=0∨i=1∨i=2:=by omega
   rcases h9 with rfl | rfl | rfl <;> (show _≤(9:Int); omega)⟩
  obtain ⟨g1,k1,k2⟩:=Q7 (K:=297) (F:=200000) hr hsh (XK (hb 0 (by omega) 0) (hb 1 (by omega) 0) (hb 2 (by omega) 0)) (by omega) (by omega) ⟨i,hi,hn⟩
  obtain ⟨a1,a2,a3,a4,a5⟩:=Ii (c:=0) (by omega) hr hl .refl z0 k1 (by have:=k2 0 (by omega) 0; omega)
  obtain ⟨j,j1,j2,jn⟩:=JN d3 (c:=1) (by omega) a3 a4 h0
  obtain ⟨g2,q1,q2,q3⟩:=PN (t:=1) (c:=1) (T:=297) (K:=297) (F:=200000) (P2.of a1 a2 (by omega) (fun i h k=>k2 i (by omega) k) (k2 1 (by omega)) (k2 2 (by omega))) (by
   have:j=1∨j=2:=by omega
   rcases this with rfl | rfl
   ·exact .inl jn
   ·exact .inr jn) (by omega) (by omega) (by omega) (by omega)
  obtain ⟨b1,b2,b3,b4,b5⟩:=Ii (c:=1) (by omega) a1 a2 a3 a4 q1 (by have:=(q3 1).1; omega)
  obtain ⟨l,l1,l2,ln⟩:=JN d3 (c:=2) (by omega) b3 b4 h0
  obtain rfl:l=2:=by omega
  obtain ⟨g3,r1,-,r3⟩:=Md (t:=2) (c:=2) (T:=52396443) (V:=176418) (F:=200000) b1 (by omega) ln (by omega) (by omega) (by omega) (fun i h k=>by
   have:i=0∨i=1:=by omega
   rcases this with rfl | rfl
   ·have:=q2 0 (by omega) k; omega
   ·have:=(q3 k).1; omega) (fun k=>(q3 k).2)
  obtain ⟨c1,c2,c3,c4,c5⟩:=Ii (c:=2) (by omega) b1 b2 b3 b4 r1 (by have:=r3 2; omega)
  exact ⟨g3,(a5.trans b5).trans c5,c1,c2,c3,c4⟩
theorem DP.bd {d B:Nat} {g gF:List (List Int)} (h:DP d B g gF) (i k:Nat):(ent gF i k).natAbs≤B:=by
 by_cases hk:k < d
 ·by_cases h1:i < k
  ·have:=h.sq.up k hk i h1
   have:=h.sq.bd k hk
   omega
  ·by_cases h2:i=k
   ·rw [h2]; exact h.sq.bd k hk
   ·by_cases h3:i < d
    ·rw [h.sq.low k hk i (by omega) h3]; exact Bs _
    ·unfold ent A7
     rw [show gF[i]?=none from AJ (by have:=h.len; omega)]
     exact Bs _
 ·rw [Q2 h.rect (by omega)]; exact Bs _
theorem Ub {m:Nat} {E:Nat→Nat→Int} {x:Nat→Int} (h:FM m E x):∃ c:Nat→Int,∀ k,x k=Ce c (fun i=>E i k) m:=by
 induction h with
 | zero e=>exact ⟨fun _=>0,fun k=>by rw [e,Ga]⟩
 | @add x y i q hi _ e ih=>
   obtain ⟨c,hc⟩:=ih
   refine ⟨fun j=>c j+if i=j then q else 0,fun k=>?_⟩
   have:=Fc q i (fun i=>E i k) m
   rw [Ak hi] at this
   rw [e,hc,L8,this]
theorem T5 {m:Nat} {E:Nat→Nat→Int} (c:Nat→Int):∀ j,j≤m→FM m E fun k=>Ce c (fun i=>E i k) j
 | 0,_=>.zero fun _=>rfl
 | j+1,h=>.add j (c j) (by omega) (T5 c j (by omega)) fun _=>rfl
theorem PE {f g:Nat→Int} {j:Nat}:∀ {n:Nat},(∀ i,i < n→i≠j→f i * g i=0)→Ce f g n=if j < n then f j * g j else 0
 | 0,_=>by rw [Aj (Bc _)]; rfl
 | n+1,h=>by
   show Ce f g n+f n * g n=_
   rw [PE (n:=n) (fun i a b=>h i (by omega) b)]
   by_cases e:n=j
   ·subst e; rw [Aj (by omega),Ak (by omega)]; omega
   ·rw [h n (by omega) e]
    by_cases e2:j < n
    ·rw [Ak e2,Ak (by omega)]; omega
    ·rw [Aj e2,Aj (by omega)]; rfl
theorem Sq.zero_of {d B:Nat} {g:List (List Int)} (h:Sq d d B g) {x:Nat→Int} (hx:FM d (ent g) x) (hs:∀ k,k < d→(x k).natAbs < (ent g k k).natAbs):∀ k,k < d→x k=0:=by
 obtain ⟨c,hc⟩:=Ub hx
 have key:∀ j,j≤d→∀ i,i < j→c i=0:=fun j=>by
  induction j with
  | zero=>exact fun _ i hi=>absurd hi (Bc _)
  | succ j ih=>
    intro hj i hi
    by_cases e:i=j
    ·subst e
     have h1:=PE (f:=c) (g:=fun r=>ent g r i) (j:=i) (n:=d) fun r a b=>by
      by_cases e2:r < i
      ·rw [ih (by omega) r e2]; exact ZH _
      ·rw [h.low i (by omega) r (by omega) a]; exact Di _
     rw [Ak (by omega),← hc] at h1
     have h2:=hs i (by omega)
     rw [h1,A1] at h2
     refine Bl fun h9=>?_
     have:1 * (ent g i i).natAbs≤(c i).natAbs * (ent g i i).natAbs:=Cu _ (by omega)
     omega
    ·exact ih (by omega) i (by omega)
 intro k hk
 rw [hc k,Db (f':=fun _=>0) (g':=fun i=>ent g i k) fun j hj=>⟨key d (Af _) j hj,rfl⟩,Ga]
def XA (d:Nat) (g:List (List Int)) (x:Nat→Int):Prop:=∀ k,k < d→0≤x k∧x k < ent g k k
theorem Sq.same {d B:Nat} {g:List (List Int)} (h:Sq d d B g) {x y:Nat→Int} (hx:XA d g x) (hy:XA d g y) (hd:FM d (ent g) fun k=>x k - y k):∀ k,k < d→x k=y k:=fun k hk=>by
 have:=h.zero_of hd (fun k hk=>by have:=hx k hk; have:=hy k hk; show (x k - y k).natAbs < _; omega) k hk
 have:x k - y k=0:=this
 omega
def He (g:List (List Int)) (x:Nat→Int):Nat→Nat→Int
 | 0=>x
 | i+1=>fun k=>He g x i k - (He g x i i).fdiv (ent g i i) * ent g i k
theorem N1 {d:Nat} {g:List (List Int)} {x:Nat→Int}:∀ i,i≤d→FM d (ent g) fun k=>x k - He g x i k
 | 0,_=>.zero fun k=>by show x k - x k=0; omega
 | i+1,h=>.add (x:=fun k=>x k - He g x i k) i ((He g x i i).fdiv (ent g i i)) (by omega) (N1 i (by omega)) fun k=>by
    show x k - (He g x i k - (He g x i i).fdiv (ent g i i) * ent g i k)=x k - He g x i k+_
    omega
theorem LC {d B:Nat} {g:List (List Int)} (h:Sq d d B g) {x:Nat→Int}:∀ i,i≤d→∀ k,k < i→0≤He g x i k∧He g x i k < ent g k k
 | 0,_,k,hk=>absurd hk (Bc _)
 | i+1,hi,k,hk=>by
   show 0≤He g x i k - (He g x i i).fdiv (ent g i i) * ent g i k∧He g x i k - (He g x i i).fdiv (ent g i i) * ent g i k < _
   by_cases e:k=i
   ·subst e
    rw [HM]
    exact ⟨DK _ (h.pos k (by omega)),EN _ (h.pos k (by omega))⟩
   ·rw [h.low k (by omega) i (by omega) (by omega),Di,MA]
    exact LC h i (by omega) k (by omega)
theorem Wn {xs:List Int} {p:Nat} (h0:∀ k,k < p→(xs[k]?).getD 0=0) (h1:(xs[p]?).getD 0≠0):EC xs=p:=by
 unfold EC
 rcases Ki (fun x:Int=>x != 0) xs with ⟨-,h⟩ | ⟨k,x,h2,h3,h4,h5⟩
 ·exfalso
  cases e:xs[p]? with
  | none=>rw [e] at h1; exact h1 rfl
  | some y=>
    rw [e] at h1
    have:=h y (Ac e)
    simp at this
    exact h1 this
 ·rw [h2]
  have h4:x≠0:=by simpa using h4
  by_cases e1:k < p
  ·have:=h0 k e1; rw [h3] at this; exact absurd this h4
  ·by_cases e2:p < k
   ·cases e:xs[p]? with
    | none=>rw [e] at h1; exact absurd rfl h1
    | some y=>
      rw [e] at h1
      have:=h5 p y e2 e
      simp at this
      exact absurd this h1
   ·omega
theorem Sq.piv {d B:Nat} {g:List (List Int)} (h:Sq d d B g) {i:Nat} (hi:i < d):EC (A7 g i)=i :=
 Wn (fun k hk=>h.low k (by omega) i hk hi) (by have:=h.pos i hi; show ent g i i≠0; omega)
theorem DP.ok {d B:Nat} {g0 g:List (List Int)} (h:DP d B g0 g):HV g=true:=by
 refine Ar.2 fun i hi=>?_
 have hi:=AL.1 hi
 rw [h.len] at hi
 simp only [AP,C0]
 rw [h.sq.piv hi,Br]
 refine ⟨⟨⟨by omega,by have:=h.sq.pos i hi; show 0≤ent g i i; omega⟩, ?_⟩,Ar.2 fun x hx=>?_⟩
 ·split
  ·omega
  ·rw [h.sq.piv (show i - 1 < d by omega)]; omega
 ·obtain ⟨j,hj⟩:=AM hx
  have hjl:=(Ah.1 hj).1
  rw [AB] at hjl
  rw [BZ,Ak (by omega)] at hj
  have e:x=A7 g j:=by unfold A7; rw [hj]; rfl
  have h9:=h.sq.up i hi j (by omega)
  unfold KM
  rw [e,TN,Bool.or_eq_false_iff]
  exact ⟨Ab (by show ¬ ent g j i < 0; omega),Ab (by show ¬ ent g i i≤ent g j i; omega)⟩
theorem WF {x p:Int} {A:Nat} (hp:0 < p) (h:x.natAbs≤A * p.natAbs):(x.fdiv p).natAbs≤A:=by
 have e:=G5 x p
 have h2:=DK x hp
 have h3:=EN x hp
 generalize x.fdiv p=z at *
 generalize x.fmod p=f at *
 have h4:((A * p.natAbs:Nat):Int)=(A:Int) * p:=by rw [CO]; congr 1; omega
 refine Bl fun h9=>?_
 have h5:z≤-(A:Int) - 1∨(A:Int)+1≤z:=by omega
 rcases h5 with h5 | h5
 ·have h6:=Do h5 (show (0:Int)≤p by omega)
  have h7:p * (-(A:Int) - 1)=-((A:Int) * p) - p:=by grind
  omega
 ·have h6:=Do h5 (show (0:Int)≤p by omega)
  have h7:p * ((A:Int)+1)=(A:Int) * p+p:=by grind
  omega
theorem Uo {d B:Nat} {g0 g:List (List Int)} (h:DP d B g0 g) (hd:d≤3) (hB:B < 1000000) {x:List Int} (hl:x.length=d) (hx:∀ k:Nat,((x[k]?).getD 0).natAbs≤9):∀ i,i≤d→∃ s,Iv g x i=some s∧(∀ k:Nat,(s.1[k]?).getD 0=He g (fun k=>(x[k]?).getD 0) i k)∧(∀ y,y ∈ s.2→y.natAbs≤72)∧∀ k:Nat,k < d→((s.1[k]?).getD 0).natAbs≤9 * 2 ^ i * (ent g k k).natAbs
 | 0,_=>⟨(x,[]),rfl,fun _=>rfl,fun y hy=>by (cases hy),fun k hk=>by
    have:=hx k
    have h1:=h.sq.pos k hk
    have:9 * 2 ^ 0 * 1≤9 * 2 ^ 0 * (ent g k k).natAbs:=It _ (by omega)
    show ((x[k]?).getD 0).natAbs≤_
    omega⟩
 | i+1,hi=>by
   obtain ⟨s,h1,h2,h3,h4⟩:=Uo h hd hB hl hx i (by omega)
   have hp:=h.sq.piv (show i < d by omega)
   have hs1:=(EW i s h1).1
   have h2i:2 ^ i≤4:=by
    have:i=0∨i=1∨i=2:=by omega
    rcases this with rfl | rfl | rfl <;> decide
   have hA:9 * 2 ^ i≤36:=by omega
   have hq:=WF (h.sq.pos i (by omega)) (h4 i (by omega))
   have hsm:∀ k:Nat,((s.1[k]?).getD 0).natAbs < 100000000:=fun k=>by
    by_cases hk:k < d
    ·have a:=h4 k hk
     have b:=h.sq.bd k hk
     have:9 * 2 ^ i * (ent g k k).natAbs≤36 * B:=BF hA b
     omega
    ·rw [AJ (by omega)]; show (0:Int).natAbs < _; decide
   have hrl:=EQ h.rect (show i < g.length by have:=h.len; omega)
   obtain ⟨y,hy⟩:=Lq (q:=((s.1[i]?).getD 0).fdiv (ent g i i)) (xs:=s.1) (ys:=A7 g i) (by rw [hrl,hs1,hl]) (fun _ k=>N2 (by omega) (by have:=h.bd i k; show (ent g i k).natAbs < _; omega) (by have:=hsm k; omega))
   have hget:=Nb hy (by rw [hrl,hs1,hl])
   refine ⟨(y,s.2 ++ [((s.1[i]?).getD 0).fdiv (ent g i i)]), ?_,fun k=>?_,fun z hz=>?_,fun k hk=>?_⟩
   ·show (Iv g x i).bind (Hf (A7 g i))=_
    rw [h1]
    show Hf (A7 g i) s=_
    unfold Hf
    rw [hp,Br]
    have c1:Ng ((s.1[i]?).getD 0)=true:=E9 (by have:=hsm i; omega)
    have c2:Ng (((A7 g i)[i]?).getD 0)=true:=E9 (by have:=h.bd i i; show (ent g i i).natAbs < _; omega)
    have c3:(((A7 g i)[i]?).getD 0 != 0)=true:=by
     have:=h.sq.pos i (by omega)
     have h9:ent g i i≠0:=by omega
     exact BJ.2 h9
    rw [c1,c2,c3]
    show (E6 (((s.1[i]?).getD 0).fdiv (ent g i i)) s.1 (A7 g i)).map _=_
    rw [hy]; rfl
   ·rw [hget k,h2,h2]; rfl
   ·rcases A4.1 hz with h9 | h9
    ·exact h3 z h9
    ·rw [Bo] at h9; subst h9; omega
   ·rw [hget k]
    by_cases e:k < i
    ·have:((A7 g i)[k]?).getD 0=0:=h.sq.low k hk i e (by omega)
     rw [this,Di,MA]
     have:=h4 k hk
     have:9 * 2 ^ i * (ent g k k).natAbs≤9 * 2 ^ (i+1) * (ent g k k).natAbs:=Cu _ (by rw [B1]; omega)
     omega
    ·have hle:(((A7 g i)[k]?).getD 0).natAbs≤(ent g k k).natAbs:=by
      show (ent g i k).natAbs≤_
      by_cases e2:i=k
      ·subst e2; exact Af _
      ·have:=h.sq.up k hk i (by omega); omega
     have:=PZ (h4 k hk) hq hle
     have e3:9 * 2 ^ (i+1) * (ent g k k).natAbs=9 * 2 ^ i * (ent g k k).natAbs+9 * 2 ^ i * (ent g k k).natAbs:=by rw [B1]; grind
     omega
def CV (g:List (List Int)) (x:List Int):Nat→Int
 | 0=>0
 | k+1=>CV g x k * D4 g k+(x[k]?).getD 0
def NX (g:List (List Int)):Nat→Int
 | 0=>1
 | k+1=>NX g k * D4 g k
def EJ (g:List (List Int)) (k:Nat) (x:List Int):Prop:=∀ j:Nat,j < k→0≤(x[j]?).getD 0∧(x[j]?).getD 0 < D4 g j
theorem Jj {g:List (List Int)} {x:List Int}:∀ k,EJ g k x→0≤CV g x k∧CV g x k < NX g k
 | 0,_=>⟨HD _,by show (0:Int) < 1; decide⟩
 | k+1,h=>by
   obtain ⟨h1,h2⟩:=Jj k fun j hj=>h j (by omega)
   obtain ⟨h3,h4⟩:=h k (by omega)
   have h5:0≤D4 g k:=by omega
   refine ⟨Int.add_nonneg (Fm h1 h5) h3, ?_⟩
   show CV g x k * D4 g k+(x[k]?).getD 0 < NX g k * D4 g k
   have h6:=B5 (show CV g x k+1≤NX g k by omega) h5
   rw [HE,Dn] at h6
   omega
theorem IR {g:List (List Int)} {x y:List Int}:∀ k,(∀ j:Nat,j < k→(x[j]?).getD 0=(y[j]?).getD 0)→CV g x k=CV g y k
 | 0,_=>rfl
 | k+1,h=>by
   show CV g x k * _+_=CV g y k * _+_
   rw [IR k fun j hj=>h j (by omega),h k (by omega)]
theorem Ji {g:List (List Int)} {x y:List Int}:∀ k,EJ g k x→EJ g k y→CV g x k=CV g y k→∀ j:Nat,j < k→(x[j]?).getD 0=(y[j]?).getD 0
 | 0,_,_,_,j,hj=>absurd hj (Bc _)
 | k+1,hx,hy,h,j,hj=>by
   have h:CV g x k * D4 g k+(x[k]?).getD 0=CV g y k * D4 g k+(y[k]?).getD 0:=h
   obtain ⟨a1,a2⟩:=hx k (by omega)
   obtain ⟨b1,b2⟩:=hy k (by omega)
   have key:CV g x k=CV g y k:=by
    refine Bl fun hne=>?_
    have h9:CV g x k+1≤CV g y k∨CV g y k+1≤CV g x k:=by omega
    rcases h9 with h9 | h9
    ·have:=B5 h9 (show 0≤D4 g k by omega)
     rw [HE,Dn] at this; omega
    ·have:=B5 h9 (show 0≤D4 g k by omega)
     rw [HE,Dn] at this; omega
   by_cases e:j=k
   ·subst e; rw [key] at h; omega
   ·exact Ji k (fun j hj=>hx j (by omega)) (fun j hj=>hy j (by omega)) key j (by omega)
theorem UO (x:List Int) (k:Nat) (v:Int) (hk:k < x.length) (j:Nat):((x.set k v)[j]?).getD 0=if j=k then v else (x[j]?).getD 0:=by
 rw [AX]
 by_cases e:k=j
 ·subst e; rw [Ak rfl,Ak hk,Ak rfl]; rfl
 ·rw [Aj e,Aj fun h=>e h.symm]
theorem FR {g:List (List Int)}:∀ (k:Nat) (x:List Int),k≤x.length→(∀ j,j < k→0 < D4 g j)→EJ g k x→(match EX g k x with | none=>CV g x k+1=NX g k | some y=>EJ g k y∧CV g y k=CV g x k+1∧(∀ j:Nat,k≤j→(y[j]?).getD 0=(x[j]?).getD 0)∧y.length=x.length)
 | 0,x,_,_,_=>by rw [EX]; rfl
 | k+1,x,hl,hp,hx=>by
   rw [EX]
   have hset:=fun v j=>UO x k v (by omega) j
   obtain ⟨a1,a2⟩:=hx k (by omega)
   by_cases e:(x[k]?).getD 0=D4 g k - 1
   ·rw [Ak e]
    have hb:EJ g k (x.set k 0):=fun j hj=>by rw [hset,Aj (by omega)]; exact hx j (by omega)
    have ih:=FR k (x.set k 0) (by rw [AN]; omega) (fun j hj=>hp j (by omega)) hb
    have hv:CV g (x.set k 0) k=CV g x k:=IR k fun j hj=>by rw [hset,Aj (by omega)]
    cases hn:EX g k (x.set k 0) with
    | none=>
      rw [hn] at ih
      replace ih:CV g (x.set k 0) k+1=NX g k:=ih
      rw [hv] at ih
      show CV g x k * D4 g k+(x[k]?).getD 0+1=NX g k * D4 g k
      rw [← ih,HE,Dn,e]; omega
    | some y=>
      rw [hn] at ih
      obtain ⟨i1,i2,i3,i4⟩:=ih
      have hyk:(y[k]?).getD 0=0:=by rw [i3 k (Af _),hset,Ak rfl]
      refine ⟨fun j hj=>?_, ?_,fun j hj=>?_,by rw [i4,AN]⟩
      ·by_cases e2:j=k
       ·subst e2; rw [hyk]; exact ⟨HD _,hp j (by omega)⟩
       ·exact i1 j (by omega)
      ·show CV g y k * D4 g k+(y[k]?).getD 0=CV g x k * D4 g k+(x[k]?).getD 0+1
       rw [i2,hv,hyk,e,HE,Dn]; omega
      ·rw [i3 j (by omega),hset,Aj (by omega)]
   ·rw [Aj e]
    refine ⟨fun j hj=>?_, ?_,fun j hj=>by rw [hset,Aj (by omega)],AN⟩
    ·rw [hset]
     by_cases e2:j=k
     ·subst e2; rw [Ak rfl]; omega
     ·rw [Aj e2]; exact hx j hj
    ·show CV g _ k * D4 g k+_=CV g x k * D4 g k+(x[k]?).getD 0+1
     rw [IR (y:=x) k fun j hj=>by rw [hset,Aj (by omega)],hset,Ak rfl]; omega
def Hq (g:List (List Int)) (p:List Int→Bool) (d:Nat):Nat→List Int→Option (Option (List Int))
 | 0,_=>none
 | f+1,x=>if p x then match EX g d x with | none=>some none | some y=>Hq g p d f y else some (some x)
theorem R8 {g:List (List Int)} {p:List Int→Bool} {d:Nat} (hp:∀ j,j < d→0 < D4 g j):∀ (f:Nat) (x:List Int),x.length=d→EJ g d x→NX g d - CV g x d≤f→∃ res,Hq g p d f x=some res ∧
 (match res with | none=>∀ y:List Int,y.length=d→EJ g d y→CV g x d≤CV g y d→p y=true | some y=>y.length=d∧EJ g d y∧p y=false)
 | 0,x,hl,hb,hf=>by have:=(Jj d hb).2; omega
 | f+1,x,hl,hb,hf=>by
   rw [Hq]
   by_cases e:p x=true
   ·rw [Ak e]
    have h:=FR d x (by omega) hp hb
    cases hn:EX g d x with
    | none=>
      rw [hn] at h
      replace h:CV g x d+1=NX g d:=h
      refine ⟨none,rfl,fun y hy1 hy2 hy3=>?_⟩
      have h1:=(Jj d hy2).2
      have h2:=Ji d hb hy2 (by omega)
      have:y=x:=CB fun j=>by
       by_cases hj:j < d
       ·have:=h2 j hj
        rw [Aa (by omega),Aa (by omega)] at this ⊢
        simp at this; rw [this]
       ·rw [AJ (by omega),AJ (by omega)]
      rw [this]; exact e
    | some y=>
      rw [hn] at h
      obtain ⟨i1,i2,-,i4⟩:=h
      obtain ⟨res,r1,r2⟩:=R8 hp f y (by omega) i1 (by omega)
      refine ⟨res,r1, ?_⟩
      cases res with
      | some z=>exact r2
      | none=>
        intro z hz1 hz2 hz3
        by_cases e2:CV g x d=CV g z d
        ·have h2:=Ji d hb hz2 e2
         have:z=x:=CB fun j=>by
          by_cases hj:j < d
          ·have:=h2 j hj
           rw [Aa (by omega),Aa (by omega)] at this ⊢
           simp at this; rw [this]
          ·rw [AJ (by omega),AJ (by omega)]
         rw [this]; exact e
        ·exact r2 z hz1 hz2 (by omega)
   ·rw [Aj e]
    exact ⟨some x,rfl,hl,hb,by simpa using e⟩
theorem Mm {g:List (List Int)} {p q:List Int→Bool} {d:Nat} (hp:∀ j,j < d→0 < D4 g j) (h:∀ x:List Int,x.length=d→EJ g d x→p x=q x):∀ (f:Nat) (x:List Int),x.length=d→EJ g d x→Hq g p d f x=Hq g q d f x
 | 0,_,_,_=>rfl
 | f+1,x,hl,hb=>by
   rw [Hq,Hq,h x hl hb]
   have h9:=FR d x (by omega) hp hb
   cases hn:EX g d x with
   | none=>rfl
   | some y=>
     rw [hn] at h9
     obtain ⟨i1,-,-,i4⟩:=h9
     show (if _ then Hq g p d f y else _)=if _ then Hq g q d f y else _
     rw [Mm hp h f y (by omega) i1]
theorem XW {m C C':List (List Int)} {n:Nat} {D D':Int} (h:H2 m C C' n D D') {i c:Nat} (hi:i < n) (hc:c < n):Ce (fun j=>BD m c j) (fun j=>BD C j i) n=if c=i then D else 0:=by
 refine YA h.inv'.d0 ?_
 have e1:D' * Ce (fun j=>BD m c j) (fun j=>BD C j i) n=D * Ce (fun j=>BD C' i j) (fun j=>BD (Jm n m) j c) n:=by
  rw [Fd,← GU,← GU]
  refine Db fun j hj=>⟨(TX h.inv h.inv' hi hj).symm,(Py hj).symm⟩
 rw [e1,h.inv'.one i c hi hc]
 by_cases e:i=c
 ·rw [Ak e,Ak e.symm,Cd]
 ·rw [Aj e,Aj (fun h=>e h.symm),Di,Di]
theorem Nf {m C:List (List Int)} {n:Nat} {D:Int} (h:Fw m n C D) {z cs:List Int} (hs:CX (B9 C D) z n=some cs):cs.length=n∧∀ j,j < n→D * (cs[j]?).getD 0=Ce (fun k=>(z[k]?).getD 0) (fun k=>BD C k j) n:=by
 have hall:(∀ j,j < n→(Eg (B9 C D) z j n).den=1)∧cs=Hx (B9 C D) z n:=by
  unfold CX at hs
  split at hs
  ·rename_i h9
   injection hs with hs
   exact ⟨fun j hj=>Au (Ar.1 h9 j (AL.2 hj)),hs.symm⟩
  ·cases hs
 have hD:(D:Rat)≠0:=Gu h.d0
 refine ⟨by rw [hall.2]; exact GP _ _ _,fun j hj=>?_⟩
 have h1:=hall.1 j hj
 have h2:=Jq h z hj n (Af _)
 rw [hall.2,Kd hj]
 show D * (Eg (B9 C D) z j n).num=_
 generalize Eg (B9 C D) z j n=q at *
 have h3:q=(q.num:Rat):=by
  have:=DR q
  rw [h1,E4,show (((1:Nat):Int):Rat)=1 from rfl] at this
  grind
 refine BA.1 ?_
 rw [Bb,← h3,h2]
 generalize ((Ce (fun k=>(z[k]?).getD 0) (fun k=>BD C k j) n:Int):Rat)=y at *
 grind
theorem Uc {m C:List (List Int)} {n:Nat} {D:Int} (h:Fw m n C D) (hn:n≤3) {z cs:List Int} (hs:CX (B9 C D) z n=some cs) {B:Nat} (hz:∀ x,x ∈ z→x.natAbs≤B):∀ x,x ∈ cs→x.natAbs≤3 * (B * 162):=fun x hx=>by
 obtain ⟨h1,h2⟩:=Nf h hs
 obtain ⟨j,hj⟩:=AM hx
 have hjn:j < n:=by rw [← h1]; exact (Ah.1 hj).1
 have h3:=h2 j hjn
 rw [hj,Bw] at h3
 have h4:=Og (f:=fun k=>(z[k]?).getD 0) (g:=fun k=>BD C k j) (A:=B) (B:=162) (n:=n) fun k hk=>⟨by
  show ((z[k]?).getD 0).natAbs≤B
  cases e:z[k]? with
  | none=>exact Bs _
  | some y=>exact hz y (Ac e),h.bd.ent k j⟩
 rw [← h3,A1] at h4
 have h5:=ZD x.natAbs (show 0 < D.natAbs from by have:=h.d0; omega)
 have h6:n * (B * 162)≤3 * (B * 162):=Cu _ hn
 omega
theorem QE {m C C':List (List Int)} {n:Nat} {D D':Int} (h:H2 m C C' n D D') {z:List Int} {c:Nat→Int} (hz:∀ k,k < n→(z[k]?).getD 0=Ce c (fun i=>BD m i k) n):∃ cs,CX (B9 C D) z n=some cs∧cs.length=n∧∀ i,i < n→(cs[i]?).getD 0=c i:=by
 have hD:(D:Rat)≠0:=Gu h.inv.d0
 have key:∀ i,i < n→Eg (B9 C D) z i n=((c i:Int):Rat):=fun i hi=>by
  have e:Ce (fun j=>(z[j]?).getD 0) (fun j=>BD C j i) n=D * c i:=by
   have e1:Ce (fun j=>(z[j]?).getD 0) (fun j=>BD C j i) n=Ce (fun k=>Ce c (fun i=>BD m i k) n) (fun j=>BD C j i) n:=Db fun j hj=>⟨hz j hj,rfl⟩
   have e2:Ce c (fun t=>Ce (fun j=>BD m t j) (fun j=>BD C j i) n) n=Ce c (fun t=>if i=t then D else 0) n:=Db fun t ht=>⟨rfl,by
    show Ce (fun j=>BD m t j) (fun j=>BD C j i) n=_
    rw [XW h hi ht]
    by_cases e:t=i
    ·rw [Ak e,Ak e.symm]
    ·rw [Aj e,Aj (fun h=>e h.symm)]⟩
   rw [e1,Iq c (fun i k=>BD m i k),e2,Fd]
   have:=Fc D i c n
   rw [Ak hi] at this
   exact this
  rw [Jq h.inv z hi n (Af _),e,Bb]
  generalize ((c i:Int):Rat)=y
  grind
 have h1:=HO (I:=B9 C D) (d:=z) (r:=n) fun i hi=>by rw [key i hi,FU]
 refine ⟨_,h1,GP _ _ _,fun i hi=>?_⟩
 rw [Kd hi,key i hi,EV]; rfl
theorem WG {m:List (List Int)} {n k:Nat} (hr:BU n m) (hk:n≤k) (i:Nat):ent m i k=0:=Q2 hr hk
theorem Sw {m C C':List (List Int)} {n:Nat} {D D':Int} (h:H2 m C C' n D D') (hr:BU n m) {z:List Int} (hz:z.length=n):(CX (B9 C D) z n).isSome=true ↔ FM n (ent m) (fun k=>(z[k]?).getD 0):=by
 constructor
 ·intro h1
  obtain ⟨cs,hs⟩:=FP.1 h1
  obtain ⟨h2,h3⟩:=Nf h.inv hs
  have h4:=T5 (E:=ent m) (fun i=>(cs[i]?).getD 0) n (Af _)
  refine h4.congr fun k=>?_
  by_cases hk:k < n
  ·refine YA h.inv.d0 ?_
   have e2:Ce (fun j=>D * (cs[j]?).getD 0) (fun j=>ent m j k) n=Ce (fun j=>Ce (fun k=>(z[k]?).getD 0) (fun k=>BD C k j) n) (fun j=>BD m j k) n:=Db fun j hj=>⟨h3 j hj,rfl⟩
   have e3:Ce (fun i=>(z[i]?).getD 0) (fun i=>Ce (fun j=>BD C i j) (fun j=>BD m j k) n) n=Ce (fun i=>(z[i]?).getD 0) (fun i=>if k=i then D else 0) n:=Db fun i hi=>⟨rfl,by
    show Ce (fun j=>BD C i j) (fun j=>BD m j k) n=_
    rw [h.inv.one i k hi hk]
    by_cases e:i=k
    ·rw [Ak e,Ak e.symm]
    ·rw [Aj e,Aj (fun h=>e h.symm)]⟩
   have e4:=Fc D k (fun i=>(z[i]?).getD 0) n
   rw [Ak hk] at e4
   rw [← GU,e2,Iq (fun i=>(z[i]?).getD 0) (fun i j=>BD C i j),e3,Fd,e4]
  ·rw [AJ (by omega)]
   have e5:Ce (fun i=>(cs[i]?).getD 0) (fun i=>ent m i k) n=Ce (fun i=>(cs[i]?).getD 0) (fun _=>0) n:=Db fun j _=>⟨rfl,WG hr (by omega) j⟩
   rw [e5,Fd,Ga]; rfl
 ·intro h1
  obtain ⟨c,hc⟩:=Ub h1
  obtain ⟨cs,hs,-⟩:=QE h (c:=c) fun k _=>hc k
  rw [hs]; rfl
theorem Nu (n:Int):(32:UInt8) ∉ (tx n).data.toList:=by
 rw [Fo]
 unfold itoa
 intro h
 have hd:∀ u:Nat,(32:UInt8) ∉ decDigits u:=fun u h=>by have:=Cn u _ h; revert this; decide
 split at h
 ·rcases A2.1 h with h | h
  ·revert h; decide
  ·exact hd _ h
 ·exact hd _ h
theorem Lj:∀ {xs ys:List Int},xs.map tx=ys.map tx→xs=ys
 | [],[],_=>rfl
 | [],_ :: _,h=>by simp at h
 | _ :: _,[],h=>by simp at h
 | x :: xs,y :: ys,h=>by
   rw [BR,BR] at h
   injection h with h1 h2
   rw [XD h1,Lj h2]
theorem SF {xs ys:List Int} (hl:xs.length=ys.length) (h:CT xs=CT ys):xs=ys:=by
 have h1:(EY (xs.map tx))=EY (ys.map tx):=by
  have h2:=congrArg (fun b:ByteArray=>b.data.toList) h
  unfold CT at h2
  simp only [M7,Ql] at h2
  have h3:=List.append_cancel_right h2
  exact H1 (List.append_cancel_left h3)
 cases xs with
 | nil=>rw [List.length_nil] at hl; exact (Aq hl.symm).symm
 | cons x xs=>
   cases ys with
   | nil=>simp at hl
   | cons y ys=>
     have hn:∀ (z:Int) (l:List Int),∀ w,w ∈ tx z :: l.map tx→(32:UInt8) ∉ w.data.toList:=fun z l w hw=>by
      rcases A2.1 hw with rfl | hw
      ·exact Nu _
      ·obtain ⟨v,-,rfl⟩:=AU.1 hw; exact Nu _
     have a1:=(KC (tx x) (xs.map tx) (hn x xs)).2
     have a2:=(KC (tx y) (ys.map tx) (hn y ys)).2
     rw [BR,BR] at h1
     rw [h1,a2] at a1
     exact (Lj (xs:=y :: ys) (ys:=x :: xs) (by rw [BR,BR]; exact a1)).symm
theorem RD {x y:List Int} {d:Nat} (hx:x.length=d) (hy:y.length=d) (h:∀ k:Nat,k < d→(x[k]?).getD 0=(y[k]?).getD 0):x=y:=CB fun j=>by
 by_cases hj:j < d
 ·have:=h j hj
  rw [Aa (by omega),Aa (by omega)] at this ⊢
  simp at this; rw [this]
 ·rw [AJ (by omega),AJ (by omega)]
def VZ (x y:List Int):List Int:=List.zipWith (· - ·) x y
theorem T8 {x y:List Int} {d:Nat} (hx:x.length=d) (hy:y.length=d) (k:Nat):((VZ x y)[k]?).getD 0=(x[k]?).getD 0 - (y[k]?).getD 0:=by
 unfold VZ
 rw [CH]
 by_cases hk:k < d
 ·rw [Aa (show k < x.length by omega),Aa (show k < y.length by omega)]; rfl
 ·rw [AJ (show x.length≤k by omega),AJ (show y.length≤k by omega)]; rfl
section
variable {m g:List (List Int)} {d B:Nat}
structure KP (m g:List (List Int)) (d:Nat) (x y:List Int):Prop where
 len:y.length=d
 box:EJ g d y
 sp:FM d (ent m) fun k=>(x[k]?).getD 0 - (y[k]?).getD 0
theorem O3 (hg:DP d B m g) (hd:d≤3) (hB:B < 1000000) {x:List Int} (hl:x.length=d) (hx:∀ y,y ∈ x→y.natAbs≤9) :
 KP m g d x (DW g x)∧(∃ s,Iv g x d=some s∧s.1=DW g x∧(∀ y,y ∈ s.1→y.natAbs≤72 * B)∧∀ y,y ∈ s.2→y.natAbs≤72):=by
 have hx':∀ k:Nat,((x[k]?).getD 0).natAbs≤9:=fun k=>by
  cases e:x[k]? with
  | none=>exact Bs _
  | some y=>exact hx y (Ac e)
 obtain ⟨s,h1,h2,h3,h4⟩:=Uo hg hd hB hl hx' d (Af _)
 have e:DW g x=s.1:=by unfold DW; rw [hg.len,h1]; rfl
 have hsl:=(EW d s h1).1
 have hb:=fun k (hk:k < d)=>LC hg.sq (x:=fun k=>(x[k]?).getD 0) d (Af _) k hk
 have hs:=N1 (g:=g) (x:=fun k=>(x[k]?).getD 0) d (Af _)
 rw [e]
 refine ⟨⟨by rw [hsl,hl],fun k hk=>?_,(Qu hg.uni _).2 (hs.congr fun k=>by rw [h2])⟩,s,h1,rfl,fun y hy=>?_,h3⟩
 ·rw [h2]; exact hb k hk
 ·obtain ⟨k,hk⟩:=AM hy
  have hkd:k < d:=by rw [← hl,← hsl]; exact (Ah.1 hk).1
  have:=hb k hkd
  rw [← h2,hk,Bw] at this
  have:=hg.sq.bd k hkd
  omega
theorem U9 (hg:DP d B m g) {y z:List Int} (hy:y.length=d) (hz:z.length=d) (by':EJ g d y) (bz:EJ g d z) (h:FM d (ent m) fun k=>(y[k]?).getD 0 - (z[k]?).getD 0):y=z :=
 RD hy hz fun k hk=>hg.sq.same (x:=fun k=>(y[k]?).getD 0) (y:=fun k=>(z[k]?).getD 0) (fun k hk=>by' k hk) (fun k hk=>bz k hk) ((Qu hg.uni _).1 h) k hk
theorem KP.eq_iff (hg:DP d B m g) {x y z:List Int} (h:KP m g d x y) (hz:z.length=d) (bz:EJ g d z):z=y ↔ FM d (ent m) fun k=>(z[k]?).getD 0 - (x[k]?).getD 0:=by
 constructor
 ·rintro rfl
  exact (FM.addmul (x:=fun _=>0) (-1) (.zero fun _=>rfl) h.sp).congr fun k=>by omega
 ·intro hs
  refine U9 hg hz h.len bz h.box ?_
  exact (hs.addmul 1 h.sp).congr fun k=>by omega
theorem KP.same_iff (hg:DP d B m g) {x x' y y':List Int} (h:KP m g d x y) (h':KP m g d x' y'):y=y' ↔ FM d (ent m) fun k=>(x[k]?).getD 0 - (x'[k]?).getD 0:=by
 rw [KP.eq_iff hg h' h.len h.box]
 constructor
 ·intro hs; exact (hs.addmul 1 h.sp).congr fun k=>by omega
 ·intro hs; exact (hs.addmul (-1) h.sp).congr fun k=>by omega
end
theorem UC:∀ {l1 l2:List Nat},l1.Nodup→(∀ a,a ∈ l1→a ∈ l2)→l1.length≤l2.length
 | [],_,_,_=>Bs _
 | a :: l,l2,h,hs=>by
   obtain ⟨s,t,rfl⟩:=List.append_of_mem (hs a Bx)
   obtain ⟨h1,h2⟩:=List.nodup_cons.1 h
   have ih:=UC (l1:=l) (l2:=s ++ t) h2 fun b hb=>by
    have:=hs b (BV _ hb)
    rcases A4.1 this with h3 | h3
    ·exact A4.2 (.inl h3)
    ·rcases A2.1 h3 with h4 | h4
     ·subst h4; exact absurd hb h1
     ·exact A4.2 (.inr h4)
   rw [At,A6]
   rw [At] at ih
   rw [A6]; omega
theorem XT {f:Nat→Nat} {M:Nat} (h:∀ i j,i < j→j < M→f i≠f j):((List.range M).map f).Nodup:=by
 rw [List.nodup_iff_pairwise_ne,List.pairwise_map]
 refine List.Pairwise.imp_of_mem (R:=fun i j=>i < j) (fun {a b} ha hb hab=>h a b hab (AL.1 hb)) List.pairwise_lt_range
theorem U7 {g:List (List Int)} {d M:Nat} (hp:∀ j,j < d→0 < D4 g j) {R:Nat→List Int} (hR:∀ i,i < M→(R i).length=d∧EJ g d (R i)) (hne:∀ i j,i < j→j < M→R i≠R j) (hall:∀ y:List Int,y.length=d→EJ g d y→∃ i,i < M∧R i=y):(M:Int)=NX g d:=by
 have hv:∀ i,i < M→0≤CV g (R i) d∧CV g (R i) d < NX g d:=fun i hi=>Jj d (hR i hi).2
 obtain ⟨f,hf⟩:∃ f:Nat→Nat,f=fun i=>(CV g (R i) d).toNat:=⟨_,rfl⟩
 have hinj:∀ i j,i < j→j < M→f i≠f j:=fun i j hij hj e=>by
  rw [hf] at e
  have e:(CV g (R i) d).toNat=(CV g (R j) d).toNat:=e
  have a:=hv i (by omega)
  have b:=hv j hj
  have h1:CV g (R i) d=CV g (R j) d:=by omega
  exact hne i j hij hj (RD (hR i (by omega)).1 (hR j hj).1 (Ji d (hR i (by omega)).2 (hR j hj).2 h1))
 have h1:=UC (l2:=List.range (NX g d).toNat) (XT hinj) fun a ha=>by
  obtain ⟨i,hi,rfl⟩:=AU.1 ha
  have:=hv i (AL.1 hi)
  rw [hf]
  exact AL.2 (by show (CV g (R i) d).toNat < _; omega)
 have hex:∀ v:Nat,(v:Int) < NX g d→∃ y:List Int,y.length=d∧EJ g d y∧CV g y d=v:=fun v=>by
  induction v with
  | zero=>
    intro _
    have hz:∀ j:Nat,((List.replicate d (0:Int))[j]?).getD 0=0:=fun j=>by rw [Cs]; split <;> rfl
    refine ⟨List.replicate d 0,AH,fun j hj=>by rw [hz]; exact ⟨HD _,hp j hj⟩, ?_⟩
    have:∀ k,CV g (List.replicate d 0) k=0:=fun k=>by
     induction k with
     | zero=>rfl
     | succ k ih=>show CV g _ k * _+_=_; rw [ih,hz]; omega
    exact this d
  | succ v ih=>
    intro hlt
    obtain ⟨y,y1,y2,y3⟩:=ih (by omega)
    have h9:=FR d y (by omega) hp y2
    cases hn:EX g d y with
    | none=>
      rw [hn] at h9
      replace h9:CV g y d+1=NX g d:=h9
      omega
    | some z=>
      rw [hn] at h9
      obtain ⟨i1,i2,-,i4⟩:=h9
      exact ⟨z,by omega,i1,by omega⟩
 have h2:=UC (l1:=List.range (NX g d).toNat) (l2:=(List.range M).map f) List.nodup_range fun v hv'=>by
  obtain ⟨y,y1,y2,y3⟩:=hex v (by have:=AL.1 hv'; omega)
  obtain ⟨i,hi,rfl⟩:=hall y y1 y2
  exact AU.2 ⟨i,AL.2 hi,by rw [hf]; show (CV g (R i) d).toNat=v; omega⟩
 rw [Al,BP,BP] at h1 h2
 have:0≤NX g d:=by
  by_cases h0:M=0
  ·have:∀ k,(∀ j,j < k→0 < D4 g j)→0 < NX g k:=fun k=>by
    induction k with
    | zero=>intro _; show (0:Int) < 1; decide
    | succ k ih=>intro h; exact Int.mul_pos (ih fun j hj=>h j (by omega)) (h k (by omega))
   have:=this d hp; omega
  ·have:=hv 0 (by omega); omega
 omega
theorem P0 {g:List (List Int)} {l:List ByteArray} {d:Nat} (hp:∀ j,j < d→0 < D4 g j) (hf:∀ x:List Int,x.length=d→EJ g d x→x.all Bk=true):∀ (f:Nat) (x:List Int),x.length=d→EJ g d x→KU g l d f x=Hq g (fun x=>l.any fun y=>y.toList == (CT x).toList) d f x
 | 0,_,_,_=>rfl
 | f+1,x,hl,hb=>by
   rw [KU,Hq,Ak (hf x hl hb)]
   have h9:=FR d x (by omega) hp hb
   cases hn:EX g d x with
   | none=>rfl
   | some y=>
     rw [hn] at h9
     obtain ⟨i1,-,-,i4⟩:=h9
     show (if _ then KU g l d f y else _)=if _ then Hq g _ d f y else _
     rw [P0 hp hf f y (by omega) i1]
theorem PD {m:List (List Int)} {d:Nat} (hd:d≤3) (hm:m.length=d) (hr:∀ r,r ∈ m→r.length=d):JM d (ent m)=Fv m:=by
 have h4:d=0∨d=1∨d=2∨d=3:=by omega
 rcases h4 with rfl | rfl | rfl | rfl
 ·rw [Aq hm]; rfl
 ·obtain ⟨r,rfl⟩:=Gt hm
  obtain ⟨a,rfl⟩:=Gt (hr r (by simp))
  rfl
 ·obtain ⟨r,s,rfl⟩:=ED hm
  obtain ⟨a,b,rfl⟩:=ED (hr r (by simp))
  obtain ⟨c,e,rfl⟩:=ED (hr s (by simp))
  rfl
 ·obtain ⟨r,s,t,rfl⟩:=Dz hm
  obtain ⟨a,b,c,rfl⟩:=Dz (hr r (by simp))
  obtain ⟨e,f,g,rfl⟩:=Dz (hr s (by simp))
  obtain ⟨h,i,j,rfl⟩:=Dz (hr t (by simp))
  show a * (f * j - g * i) - b * (e * j - g * h)+c * (e * i - f * h)=Iy a b c e f g h i j
  unfold Iy
  grind
theorem VY {g:List (List Int)} {d B:Nat} (hd:d≤3) (h:Sq d d B g):JM d (ent g)=NX g d:=by
 have h4:d=0∨d=1∨d=2∨d=3:=by omega
 rcases h4 with rfl | rfl | rfl | rfl
 ·rfl
 ·show ent g 0 0=1 * D4 g 0
  rw [Dn]; rfl
 ·have h1:=h.low 0 (by omega) 1 (by omega) (by omega)
  show ent g 0 0 * ent g 1 1 - ent g 0 1 * ent g 1 0=1 * D4 g 0 * D4 g 1
  rw [h1]
  show ent g 0 0 * ent g 1 1 - ent g 0 1 * 0=1 * ent g 0 0 * ent g 1 1
  grind
 ·have h1:=h.low 0 (by omega) 1 (by omega) (by omega)
  have h2:=h.low 0 (by omega) 2 (by omega) (by omega)
  have h3:=h.low 1 (by omega) 2 (by omega) (by omega)
  show ent g 0 0 * (ent g 1 1 * ent g 2 2 - ent g 1 2 * ent g 2 1) - ent g 0 1 * (ent g 1 0 * ent g 2 2 - ent g 1 2 * ent g 2 0)+ent g 0 2 * (ent g 1 0 * ent g 2 1 - ent g 1 1 * ent g 2 0)=1 * ent g 0 0 * ent g 1 1 * ent g 2 2
  rw [h1,h2,h3]
  grind
theorem F5 {f:Nat→Option (List Int)} {M:Nat}:(J8 f M).isSome=true ↔ ∃ i,i < M∧(f i).isSome=true:=by
 constructor
 ·intro h
  obtain ⟨⟨i,cs⟩,h⟩:=FP.1 h
  obtain ⟨h1,h2⟩:=V0 h
  exact ⟨i,h1,by rw [h2]; rfl⟩
 ·rintro ⟨i,hi,h⟩
  cases h9:J8 f M with
  | some p=>rfl
  | none=>
    exfalso
    have:=Yu.1 h9 i (AL.2 hi)
    obtain ⟨cs,hc⟩:=FP.1 h
    rw [hc] at this; cases this
structure De (RN RA:List (List Int)) (d M:Nat) (C:List (List Int)) (D:Int) (C':List (List Int)) (D':Int):Prop where
 d1:1≤d
 d3:d≤3
 lA:RA.length=d
 rA:∀ q,q ∈ RA→q.length=d∧∀ x,x ∈ q→x.natAbs≤9
 det:Fv RA≠0
 lN:RN.length=M
 rN:∀ q,q ∈ RN→q.length=d∧∀ x,x ∈ q→x.natAbs≤9
 ok:H2 RA C C' d D D'
section
variable {RN RA C C':List (List Int)} {d M:Nat} {D D':Int}
theorem De.row (h:De RN RA d M C D C' D') {i:Nat} (hi:i < M):(A7 RN i).length=d∧∀ x,x ∈ A7 RN i→x.natAbs≤9:=by
 rw [BB (by rw [h.lN]; exact hi)]
 exact h.rN _ (AK _)
theorem De.form (h:De RN RA d M C D C' D'):∃ B,ET 200000 d 0 RA 0=some (B,d)∧DP d 176418 RA B :=
 UT h.d1 h.d3 (fun q hq=>(h.rA q hq).1) h.lA (fun i hi k=>by
  have hm:A7 RA i ∈ RA:=by rw [BB (by rw [h.lA]; exact hi)]; exact AK _
  unfold ent
  cases e:(A7 RA i)[k]? with
  | none=>exact Bs _
  | some y=>exact (h.rA _ hm).2 y (Ac e)) (by rw [PD h.d3 h.lA fun q hq=>(h.rA q hq).1]; exact h.det)
theorem De.iff (h:De RN RA d M C D C' D') {r:List Int} (hr:r.length=d) {i:Nat} (hi:i < M):(J5 C D RN d r i).isSome=true ↔ FM d (ent RA) fun k=>(r[k]?).getD 0 - ((A7 RN i)[k]?).getD 0:=by
 have h1:=(h.row hi).1
 unfold J5
 rw [Sw h.ok (fun q hq=>(h.rA q hq).1) (by rw [Ew,hr,h1]; exact TI _)]
 have e:(fun k:Nat=>((VZ r (A7 RN i))[k]?).getD 0)=fun k:Nat=>(r[k]?).getD 0 - ((A7 RN i)[k]?).getD 0:=funext fun k=>T8 hr h1 k
 unfold VZ at e
 rw [e]
theorem De.rep (h:De RN RA d M C D C' D') {B:List (List Int)} (hB:DP d 176418 RA B) {i:Nat} (hi:i < M):KP RA B d (A7 RN i) (DW B (A7 RN i)) :=
 (O3 hB h.d3 (by decide) (h.row hi).1 (h.row hi).2).1
theorem De.dig (_:De RN RA d M C D C' D') {B:List (List Int)} (hB:DP d 176418 RA B):∀ j,j < d→0 < D4 B j:=fun j hj=>hB.sq.pos j hj
theorem De.fit (_:De RN RA d M C D C' D') {B:List (List Int)} (hB:DP d 176418 RA B):∀ x:List Int,x.length=d→EJ B d x→x.all Bk=true:=fun x hl hb=>Ar.2 fun y hy=>by
 obtain ⟨k,hk⟩:=AM hy
 have hkd:k < d:=by rw [← hl]; exact (Ah.1 hk).1
 have h1:=hb k hkd
 rw [hk,Bw] at h1
 have h2:=hB.sq.bd k hkd
 have h3:D4 B k=ent B k k:=rfl
 exact Ad ⟨by omega,by omega⟩
theorem De.keys (h:De RN RA d M C D C' D') {B:List (List Int)} (hB:DP d 176418 RA B) {x:List Int} (hl:x.length=d) (hb:EJ B d x) :
 ((RN.map fun q=>CT (DW B q)).any fun y=>y.toList == (CT x).toList)=(J8 (J5 C D RN d x) M).isSome:=by
 have key:((RN.map fun q=>CT (DW B q)).any fun y=>y.toList == (CT x).toList)=true ↔ (J8 (J5 C D RN d x) M).isSome=true:=by
  rw [F5,K0]
  constructor
  ·rintro ⟨y,hy,he⟩
   obtain ⟨q,hq,rfl⟩:=AU.1 hy
   obtain ⟨i,hi⟩:=AM hq
   have hiM:i < M:=by rw [← h.lN]; exact (Ah.1 hi).1
   have hqi:A7 RN i=q:=by rw [BB (by rw [h.lN]; exact hiM)]; exact (Ah.1 hi).2
   have hrep:=h.rep hB hiM
   rw [hqi] at hrep
   have he:=eq_of_beq he
   rw [CA,CA] at he
   have hx:=SF (by rw [hrep.len,hl]) (H1 he)
   refine ⟨i,hiM,(h.iff hl hiM).2 ?_⟩
   rw [hqi]
   exact (hrep.eq_iff hB hl hb).1 hx.symm
  ·rintro ⟨i,hi,hs⟩
   have hrep:=h.rep hB hi
   have hx:=(hrep.eq_iff hB hl hb).2 ((h.iff hl hi).1 hs)
   refine ⟨_,AU.2 ⟨A7 RN i,by rw [BB (by rw [h.lN]; exact hi)]; exact AK _,rfl⟩, ?_⟩
   rw [← hx]; exact Ez _
 cases h1:(J8 (J5 C D RN d x) M).isSome with
 | true=>exact key.2 h1
 | false=>
   cases h2:(RN.map fun q=>CT (DW B q)).any fun y=>y.toList == (CT x).toList with
   | false=>rfl
   | true=>rw [key.1 h2] at h1; cases h1
theorem De.search (h:De RN RA d M C D C' D') {B:List (List Int)} (hB:DP d 176418 RA B):∃ F res,Hq B (fun x=>(J8 (J5 C D RN d x) M).isSome) d F (List.replicate d 0)=some res∧KU B (RN.map fun q=>CT (DW B q)) d F (List.replicate d 0)=some res ∧
 (res=none→∀ y:List Int,y.length=d→EJ B d y→(J8 (J5 C D RN d y) M).isSome=true):=by
 have hp:=h.dig hB
 have hz:∀ j:Nat,((List.replicate d (0:Int))[j]?).getD 0=0:=fun j=>by rw [Cs]; split <;> rfl
 have hz1:(List.replicate d (0:Int)).length=d:=AH
 have hz2:EJ B d (List.replicate d 0):=fun j hj=>by rw [hz]; exact ⟨HD _,hp j hj⟩
 have hz3:CV B (List.replicate d 0) d=0:=by
  have:∀ k,CV B (List.replicate d 0) k=0:=fun k=>by
   induction k with
   | zero=>rfl
   | succ k ih=>show CV B _ k * _+_=_; rw [ih,hz]; omega
  exact this d
 obtain ⟨res,h1,h2⟩:=R8 (p:=fun x=>(J8 (J5 C D RN d x) M).isSome) hp (NX B d).toNat (List.replicate d 0) hz1 hz2 (by omega)
 refine ⟨_,res,h1, ?_, ?_⟩
 ·rw [P0 hp (h.fit hB) _ _ hz1 hz2,Mm hp (fun x hl hb=>h.keys hB hl hb) _ _ hz1 hz2]
  exact h1
 ·rintro rfl y hy hb
  exact h2 y hy hb (by rw [hz3]; exact (Jj d hb).1)
def P7 (C:List (List Int)) (D:Int) (RN:List (List Int)) (d M:Nat):Prop:=∀ i j,i < j→j < M→J5 C D RN d (A7 RN j) i=none
theorem De.one (h:De RN RA d M C D C' D') (hno:P7 C D RN d M) {r:List Int} (hr:r.length=d) {i j:Nat} (hi:i < M) (hj:j < M) (h1:(J5 C D RN d r i).isSome=true) (h2:(J5 C D RN d r j).isSome=true):i=j:=by
 have key:∀ i j,i < j→j < M→(J5 C D RN d r i).isSome=true→(J5 C D RN d r j).isSome=true→False:=fun i j hij hj h1 h2=>by
  have a:=(h.iff hr (by omega)).1 h1
  have b:=(h.iff hr hj).1 h2
  have c:=(h.iff (h.row hj).1 (show i < M by omega)).2 ((a.addmul (-1) b).congr fun k=>by omega)
  rw [hno i j hij hj] at c; cases c
 refine Bl fun hne=>?_
 rcases Nat.lt_or_gt_of_ne hne with h9 | h9
 ·exact key i j h9 hj h1 h2
 ·exact key j i h9 hi h2 h1
theorem De.full (h:De RN RA d M C D C' D') {B:List (List Int)} (hB:DP d 176418 RA B) (hall:∀ y:List Int,y.length=d→EJ B d y→(J8 (J5 C D RN d y) M).isSome=true) {r:List Int} (hr:r.length=d):(J8 (J5 C D RN d r) M).isSome=true:=by
 obtain ⟨y,hyl,hyg⟩:∃ y:List Int,y.length=d∧∀ k:Nat,(y[k]?).getD 0=He B (fun k=>(r[k]?).getD 0) d k:=by
  refine ⟨(List.range d).map fun k=>He B (fun k=>(r[k]?).getD 0) d k,by rw [Al,BP],fun k=>?_⟩
  by_cases hk:k < d
  ·rw [Am,DD hk]; rfl
  ·rw [AJ (by rw [Al,BP]; omega)]
   have:∀ i,i≤d→He B (fun k=>(r[k]?).getD 0) i k=0:=fun i=>by
    induction i with
    | zero=>intro _; show (r[k]?).getD 0=0; rw [AJ (by omega)]; rfl
    | succ i ih=>intro hi; show He B _ i k - _ * ent B i k=0; rw [ih (by omega),Q2 (i:=i) (k:=k) hB.rect (by omega),Di,MA]
   exact (this d (Af _)).symm
 have hbox:EJ B d y:=fun k hk=>by rw [hyg]; exact LC hB.sq d (Af _) k hk
 obtain ⟨i,hi,hs⟩:=F5.1 (hall y hyl hbox)
 have h1:=(h.iff hyl hi).1 hs
 have h2:=(Qu hB.uni _).2 (N1 (g:=B) (x:=fun k=>(r[k]?).getD 0) d (Af _))
 exact F5.2 ⟨i,hi,(h.iff hr hi).2 ((h1.addmul 1 h2).congr fun k=>by rw [hyg]; omega)⟩
theorem De.count (h:De RN RA d M C D C' D') {B:List (List Int)} (hB:DP d 176418 RA B) (hno:P7 C D RN d M) (hall:∀ y:List Int,y.length=d→EJ B d y→(J8 (J5 C D RN d y) M).isSome=true):(M:Int)=((Fv RA).natAbs:Int):=by
 have h1:=U7 (g:=B) (d:=d) (M:=M) (h.dig hB) (R:=fun i=>DW B (A7 RN i)) (fun i hi=>⟨(h.rep hB hi).len,(h.rep hB hi).box⟩) (fun i j hij hj e=>by
  have:=((h.rep hB (show i < M by omega)).same_iff hB (h.rep hB hj)).1 e
  have c:=(h.iff (h.row hj).1 (show i < M by omega)).2 ((FM.addmul (x:=fun _=>0) (-1) (.zero fun _=>rfl) this).congr fun k=>by omega)
  rw [hno i j hij hj] at c; cases c) (fun y hy hb=>by
  obtain ⟨i,hi,hs⟩:=F5.1 (hall y hy hb)
  exact ⟨i,hi,((h.rep hB hi).eq_iff hB hy hb |>.2 ((h.iff hy hi).1 hs)).symm⟩)
 have h2:=VY h.d3 hB.sq
 have h3:=Rs h.d3 hB.uni
 rw [PD h.d3 h.lA fun q hq=>(h.rA q hq).1,h2] at h3
 omega
end
end Go.Proofs.YtkjemicelmabdaaGreatDoor
