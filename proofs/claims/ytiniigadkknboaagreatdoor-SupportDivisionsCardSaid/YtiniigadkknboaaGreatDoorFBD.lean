/- Contracts and laws: FBD. -/
import Derived.Test.YtiniigadkknboaaGreatDoorFBC
import Derived.Test.YtiniigadkknboaaGreatDoorFAW
import Derived.Test.YtiniigadkknboaaGreatDoorFAF
import Derived.Deep.CutBlock

set_option maxRecDepth 100000
set_option maxHeartbeats 4000000
namespace Go.Proofs.YtiniigadkknboaaGreatDoor
theorem RG (D:Int) (k:Nat) (g:Nat→Int) (n:Nat):Cd (fun j=>if j=k then D else 0) g n=if k < n then D * g k else 0:=by
 rw [show (fun j=>if j=k then D else 0)=(fun j=>if k=j then D else 0) from funext fun j=>by
  by_cases h:j=k
  ·rw [Ai h,Ai h.symm]
  ·rw [Ae h,Ae (fun e=>h e.symm)]]
 exact DS D k g n
theorem Gi:∀ n,IF (fun _=>false) n=n
 | 0=>rfl
 | n+1=>by show IF _ n+1=_; rw [Gi n]
def KV (n:Nat) (f g h:Nat→Int):Prop:=∃ (D:Int) (V:Nat→Nat→Int) (Z:Nat→Bool) (Bd:Nat),D≠0∧(∀ j,j < n→∀ k,n≤k→V j k=0)∧(∀ j,j < n→Cd (V j) f n=0∧Cd (V j) g n=0∧Cd (V j) h n=0) ∧
 (∀ x:Nat→Int,(∀ k,n≤k→x k=0)→Cd f x n=0→Cd g x n=0→Cd h x n=0→∀ k,D * x k=Cd x (fun j=>V j k) n) ∧
 (∀ j,j < n→∀ k,(V j k).natAbs≤Bd)∧(∀ j,j < n→Z j=true→∀ k,V j k=0)∧(∀ t,t≤IF Z n→Mx t Bd≤1000000000) ∧
 ∀ x:Nat→Int,(∀ k,n≤k→x k=0)→(∀ j,j < n→Cd (V j) x n=0)→∃ a b c:Int,∀ k,k < n→D * x k=a * f k+b * g k+c * h k
theorem KV.swap {n:Nat} {f g h:Nat→Int} (H:KV n f g h):KV n g f h:=by
 obtain ⟨D,V,Z,Bd,h0,h1,h2,h3,h4,h5,h6,h7⟩:=H
 exact ⟨D,V,Z,Bd,h0,h1,fun j hj=>⟨(h2 j hj).2.1,(h2 j hj).1,(h2 j hj).2.2⟩,fun x a b c d=>h3 x a c b d,h4,h5,h6,fun x a b=>by obtain ⟨p,q,r,e⟩:=h7 x a b; exact ⟨q,p,r,fun k hk=>by rw [e k hk]; omega⟩⟩
theorem KV.rot {n:Nat} {f g h:Nat→Int} (H:KV n f g h):KV n g h f:=by
 obtain ⟨D,V,Z,Bd,h0,h1,h2,h3,h4,h5,h6,h7⟩:=H
 exact ⟨D,V,Z,Bd,h0,h1,fun j hj=>⟨(h2 j hj).2.1,(h2 j hj).2.2,(h2 j hj).1⟩,fun x a b c d=>h3 x a d b c,h4,h5,h6,fun x a b=>by obtain ⟨p,q,r,e⟩:=h7 x a b; exact ⟨q,r,p,fun k hk=>by rw [e k hk]; omega⟩⟩
def Pi (D:Int) (q1 q2 q3:Nat) (A B C:Nat→Int) (j k:Nat):Int:=(if j=k then D else 0)+(if q1=k then A j else 0)+(if q2=k then B j else 0)+(if q3=k then C j else 0)
theorem Lq (D:Int) (q1 q2 q3:Nat) (A B C:Nat→Int) (j:Nat) (x:Nat→Int) {n:Nat} (hj:j < n) (h1:q1 < n) (h2:q2 < n) (h3:q3 < n):Cd (Pi D q1 q2 q3 A B C j) x n=D * x j+A j * x q1+B j * x q2+C j * x q3:=by
 have e:Pi D q1 q2 q3 A B C j=fun k=>(((if j=k then D else 0)+(if q1=k then A j else 0))+(if q2=k then B j else 0))+(if q3=k then C j else 0):=rfl
 rw [e,CZ,CZ,CZ,DS,DS,DS,DS,Ai hj,Ai h1,Ai h2,Ai h3]
theorem Mu {f g h x:Nat→Int} {n:Nat} (hf:Cd f x n=0) (hg:Cd g x n=0) (hh:Cd h x n=0) {A:Nat→Int} {a b c:Int} (hA:∀ j,A j=a * f j+b * g j+c * h j):Cd x A n=0:=by
 rw [BP,show A=fun j=>a * f j+b * g j+c * h j from funext hA,CZ,CZ,Co,Co,Co,hf,hg,hh]
 omega
theorem KV.mk' {n:Nat} {f g h:Nat→Int} {D:Int} {q1 q2 q3:Nat} {A B C:Nat→Int} {Z:Nat→Bool} {Bd:Nat} (hD:D≠0) (h1:q1 < n) (h2:q2 < n) (h3:q3 < n) (hA:∃ a b c:Int,∀ j,A j=a * f j+b * g j+c * h j) (hB:∃ a b c:Int,∀ j,B j=a * f j+b * g j+c * h j) (hC:∃ a b c:Int,∀ j,C j=a * f j+b * g j+c * h j)
 (o1:∀ j,D * f j+A j * f q1+B j * f q2+C j * f q3=0) (o2:∀ j,D * g j+A j * g q1+B j * g q2+C j * g q3=0) (o3:∀ j,D * h j+A j * h q1+B j * h q2+C j * h q3=0) (hbd:∀ j k,(Pi D q1 q2 q3 A B C j k).natAbs≤Bd) (hz:∀ j,Z j=true→∀ k,Pi D q1 q2 q3 A B C j k=0) (hm:∀ t,t≤IF Z n→Mx t Bd≤1000000000):KV n f g h:=by
 obtain ⟨a1,a2,a3,hA⟩:=hA
 obtain ⟨b1,b2,b3,hB⟩:=hB
 obtain ⟨c1,c2,c3,hC⟩:=hC
 refine ⟨D,Pi D q1 q2 q3 A B C,Z,Bd,hD,fun j hj k hk=>?_,fun j hj=>?_,fun x hx xf xg xh k=>?_,fun j _ k=>hbd j k,fun j _ z k=>hz j z k,hm,fun x hx ho=>?_⟩
 ·unfold Pi
  rw [Ae (by omega),Ae (by omega),Ae (by omega),Ae (by omega)]; rfl
 ·rw [Lq _ _ _ _ _ _ _ _ _ hj h1 h2 h3,Lq _ _ _ _ _ _ _ _ _ hj h1 h2 h3,Lq _ _ _ _ _ _ _ _ _ hj h1 h2 h3]
  exact ⟨o1 j,o2 j,o3 j⟩
 ·have pick:∀ (q:Nat) (W:Nat→Int),Cd x W n=0→Cd (fun j=>if q=k then W j else 0) x n=0:=fun q W hW=>by
   by_cases e:q=k
   ·simp only [Ai e]; rw [BP]; exact hW
   ·simp only [Ae e]; exact Dp _ _
  rw [BP]
  have e:(fun j=>Pi D q1 q2 q3 A B C j k)=fun j=>(((if j=k then D else 0)+(if q1=k then A j else 0))+(if q2=k then B j else 0))+(if q3=k then C j else 0):=rfl
  rw [e,CZ,CZ,CZ,RG,pick q1 A (Mu xf xg xh hA),pick q2 B (Mu xf xg xh hB),pick q3 C (Mu xf xg xh hC)]
  by_cases hk:k < n
  ·rw [Ai hk]; omega
  ·rw [Ae hk,hx k (by omega)]; omega
 ·refine ⟨-(a1 * x q1+b1 * x q2+c1 * x q3),-(a2 * x q1+b2 * x q2+c2 * x q3),-(a3 * x q1+b3 * x q2+c3 * x q3),fun k hk=>?_⟩
  have h9:=ho k hk
  rw [Lq _ _ _ _ _ _ _ _ _ hk h1 h2 h3,hA,hB,hC] at h9
  grind
theorem ZJ {x y:Int} (hx:x.natAbs≤9) (hy:y.natAbs≤9):(x * y).natAbs≤81:=by
 have:=Az hx hy
 rwa [← AZ] at this
theorem Vt {x y:Int} (hx:x.natAbs≤9) (hy:y.natAbs≤162):(x * y).natAbs≤1458:=by
 have:=Az hx hy
 rwa [← AZ] at this
def mn (f g:Nat→Int) (i j:Nat):Int:=f i * g j - f j * g i
def d3 (f g h:Nat→Int) (i j k:Nat):Int:=f i * mn g h j k - f j * mn g h i k+f k * mn g h i j
theorem SN {f g:Nat→Int} (hf:∀ k,(f k).natAbs≤9) (hg:∀ k,(g k).natAbs≤9) (i j:Nat):(mn f g i j).natAbs≤162:=by
 have:=ZJ (hf i) (hg j)
 have:=ZJ (hf j) (hg i)
 unfold mn
 omega
theorem ZN {f g h:Nat→Int} (hf:∀ k,(f k).natAbs≤9) (hg:∀ k,(g k).natAbs≤9) (hh:∀ k,(h k).natAbs≤9) (i j k:Nat):(d3 f g h i j k).natAbs≤4374:=by
 have:=Vt (hf i) (SN hg hh j k)
 have:=Vt (hf j) (SN hg hh i k)
 have:=Vt (hf k) (SN hg hh i j)
 unfold d3
 omega
theorem TR:Mx 1 4374≤1000000000∧Mx 1 162≤1000000000∧Mx 2 162≤1000000000∧Mx 1 9≤1000000000∧Mx 2 9≤1000000000∧Mx 3 9≤1000000000∧Mx 1 1≤1000000000∧Mx 2 1≤1000000000∧Mx 3 1≤1000000000∧Mx 4 1≤1000000000:=by decide +kernel
theorem ZI (B:Nat):Mx 0 B=0:=rfl
theorem kv3 {n:Nat} (hn:n≤4) {f g h:Nat→Int} (hf:∀ k,(f k).natAbs≤9) (hg:∀ k,(g k).natAbs≤9) (hh:∀ k,(h k).natAbs≤9) {q1 q2 q3:Nat} (h1:q1 < n) (h2:q2 < n) (h3:q3 < n) (hD:d3 f g h q1 q2 q3≠0):KV n f g h:=by
 have n12:q1≠q2:=fun e=>by subst e; apply hD; unfold d3 mn; grind
 have n13:q1≠q3:=fun e=>by subst e; apply hD; unfold d3 mn; grind
 have n23:q2≠q3:=fun e=>by subst e; apply hD; unfold d3 mn; grind
 have bd:=fun i j k=>ZN hf hg hh i j k
 have hz:∀ j,(j=q1∨j=q2∨j=q3)→∀ k,Pi (d3 f g h q1 q2 q3) q1 q2 q3 (fun j=>-d3 f g h j q2 q3) (fun j=>-d3 f g h q1 j q3) (fun j=>-d3 f g h q1 q2 j) j k=0:=fun j hj k=>by
  unfold Pi
  rcases hj with rfl | rfl | rfl
  ·have e1:d3 f g h j j q3=0:=by unfold d3 mn; grind
   have e2:d3 f g h j q2 j=0:=by unfold d3 mn; grind
   simp only [e1,e2]
   by_cases e:j=k <;> simp [e] <;> omega
  ·have e1:d3 f g h j j q3=0:=by unfold d3 mn; grind
   have e2:d3 f g h q1 j j=0:=by unfold d3 mn; grind
   simp only [e1,e2]
   by_cases e:j=k <;> simp [e] <;> omega
  ·have e1:d3 f g h j q2 j=0:=by unfold d3 mn; grind
   have e2:d3 f g h q1 j j=0:=by unfold d3 mn; grind
   simp only [e1,e2]
   by_cases e:j=k <;> simp [e] <;> omega
 refine KV.mk' (Z:=fun l=>if l=q3 then true else if l=q2 then true else if l=q1 then true else false) (Bd:=4374) hD h1 h2 h3 (A:=fun j=>-d3 f g h j q2 q3) (B:=fun j=>-d3 f g h q1 j q3) (C:=fun j=>-d3 f g h q1 q2 j) ⟨-mn g h q2 q3,mn f h q2 q3,-mn f g q2 q3,fun j=>by unfold d3 mn; grind⟩ ⟨mn g h q1 q3,-mn f h q1 q3,mn f g q1 q3,fun j=>by unfold d3 mn; grind⟩ ⟨-mn g h q1 q2,mn f h q1 q2,-mn f g q1 q2,fun j=>by unfold d3 mn; grind⟩
  (fun j=>by unfold d3 mn; grind) (fun j=>by unfold d3 mn; grind) (fun j=>by unfold d3 mn; grind) (fun j k=>?_) (fun j hj k=>hz j (by by_cases e3:j=q3; exact .inr (.inr e3); by_cases e2:j=q2; exact .inr (.inl e2); by_cases e1:j=q1; exact .inl e1; simp [e1,e2,e3] at hj) k) (fun t ht=>?_)
 ·by_cases hj:j=q1∨j=q2∨j=q3
  ·rw [hz j hj k]; simp
  ·have b0:=bd q1 q2 q3
   have b1:=bd j q2 q3
   have b2:=bd q1 j q3
   have b3:=bd q1 q2 j
   unfold Pi
   simp only
   by_cases k0:j=k
   ·rw [Ai k0,Ae (by omega),Ae (by omega),Ae (by omega)]; omega
   ·rw [Ae k0]
    by_cases k1:q1=k
    ·rw [Ai k1,Ae (by omega),Ae (by omega)]; omega
    ·rw [Ae k1]
     by_cases k2:q2=k
     ·rw [Ai k2,Ae (by omega)]; omega
     ·rw [Ae k2]
      by_cases k3:q3=k
      ·rw [Ai k3]; omega
      ·rw [Ae k3]; decide
 ·have c1:=FI (Z:=fun _=>false) (q:=q1) rfl n h1
  have c2:=FI (Z:=fun l=>if l=q1 then true else false) (q:=q2) (by simp; omega) n h2
  have c3:=FI (Z:=fun l=>if l=q2 then true else if l=q1 then true else false) (q:=q3) (by simp; omega) n h3
  rw [Gi] at c1
  have ht1:t≤1:=by omega
  match t,ht1 with
  | 0,_=>rw [ZI]; omega
  | 1,_=>exact TR.1
theorem kv2 {n:Nat} (hn:n≤4) {f g h:Nat→Int} (hf:∀ k,(f k).natAbs≤9) (hg:∀ k,(g k).natAbs≤9) {q1 q2:Nat} (h1:q1 < n) (h2:q2 < n) (hD:mn f g q1 q2≠0) (hz3:∀ i j k,d3 f g h i j k=0):KV n f g h:=by
 have n12:q1≠q2:=fun e=>by subst e; apply hD; unfold mn; grind
 have bd:=fun i j=>SN hf hg i j
 have hz:∀ j,(j=q1∨j=q2)→∀ k,Pi (mn f g q1 q2) q1 q2 q1 (fun j=>-mn f g j q2) (fun j=>-mn f g q1 j) (fun _=>0) j k=0:=fun j hj k=>by
  unfold Pi
  rcases hj with rfl | rfl
  ·have e1:mn f g j j=0:=by unfold mn; grind
   simp only [e1]
   by_cases e:j=k <;> simp [e] <;> omega
  ·have e1:mn f g j j=0:=by unfold mn; grind
   simp only [e1]
   by_cases e:j=k <;> simp [e] <;> omega
 refine KV.mk' (Z:=fun l=>if l=q2 then true else if l=q1 then true else false) (Bd:=162) hD h1 h2 h1 (A:=fun j=>-mn f g j q2) (B:=fun j=>-mn f g q1 j) (C:=fun _=>0) ⟨-g q2,f q2,0,fun j=>by unfold mn; grind⟩ ⟨g q1,-f q1,0,fun j=>by unfold mn; grind⟩ ⟨0,0,0,fun j=>by omega⟩
  (fun j=>by unfold mn; grind) (fun j=>by unfold mn; grind) (fun j=>by have:=hz3 q1 q2 j; unfold d3 mn at this; unfold mn; grind) (fun j k=>?_) (fun j hj k=>hz j (by by_cases e2:j=q2; exact .inr e2; by_cases e1:j=q1; exact .inl e1; simp [e1,e2] at hj) k) (fun t ht=>?_)
 ·by_cases hj:j=q1∨j=q2
  ·rw [hz j hj k]; simp
  ·have b0:=bd q1 q2
   have b1:=bd j q2
   have b2:=bd q1 j
   have b9:(0:Int).natAbs≤162:=by decide
   unfold Pi
   simp only [ite_self,Dl]
   by_cases k0:j=k
   ·rw [Ai k0,Ae (by omega),Ae (by omega)]; omega
   ·rw [Ae k0]
    by_cases k1:q1=k
    ·rw [Ai k1,Ae (by omega)]; omega
    ·rw [Ae k1]
     by_cases k2:q2=k
     ·rw [Ai k2]; omega
     ·rw [Ae k2]; decide
 ·have c1:=FI (Z:=fun _=>false) (q:=q1) rfl n h1
  have c2:=FI (Z:=fun l=>if l=q1 then true else false) (q:=q2) (by simp; omega) n h2
  rw [Gi] at c1
  have ht1:t≤2:=by omega
  match t,ht1 with
  | 0,_=>rw [ZI]; omega
  | 1,_=>exact TR.2.1
  | 2,_=>exact TR.2.2.1
theorem kv1 {n:Nat} (hn:n≤4) {f g h:Nat→Int} (hf:∀ k,(f k).natAbs≤9) {q1:Nat} (h1:q1 < n) (hD:f q1≠0) (hg:∀ i j,mn f g i j=0) (hh:∀ i j,mn f h i j=0):KV n f g h:=by
 have hz:∀ j,j=q1→∀ k,Pi (f q1) q1 q1 q1 (fun j=>-f j) (fun _=>0) (fun _=>0) j k=0:=fun j hj k=>by
  unfold Pi
  subst hj
  by_cases e:j=k <;> simp [e] <;> omega
 refine KV.mk' (Z:=fun l=>if l=q1 then true else false) (Bd:=9) hD h1 h1 h1 (A:=fun j=>-f j) (B:=fun _=>0) (C:=fun _=>0) ⟨-1,0,0,fun j=>by omega⟩ ⟨0,0,0,fun j=>by omega⟩ ⟨0,0,0,fun j=>by omega⟩
  (fun j=>by grind) (fun j=>by have:=hg q1 j; unfold mn at this; grind) (fun j=>by have:=hh q1 j; unfold mn at this; grind) (fun j k=>?_) (fun j hj k=>hz j (by by_cases e1:j=q1; exact e1; simp [e1] at hj) k) (fun t ht=>?_)
 ·by_cases hj:j=q1
  ·rw [hz j hj k]; simp
  ·have b0:=hf q1
   have b1:=hf j
   unfold Pi
   simp only [ite_self,Dl]
   by_cases k0:j=k
   ·rw [Ai k0,Ae (by omega)]; omega
   ·rw [Ae k0]
    by_cases k1:q1=k
    ·rw [Ai k1]; omega
    ·rw [Ae k1]; decide
 ·have c1:=FI (Z:=fun _=>false) (q:=q1) rfl n h1
  rw [Gi] at c1
  have ht1:t≤3:=by omega
  match t,ht1 with
  | 0,_=>rw [ZI]; omega
  | 1,_=>exact TR.2.2.2.1
  | 2,_=>exact TR.2.2.2.2.1
  | 3,_=>exact TR.2.2.2.2.2.1
theorem kv0 {n:Nat} (hn:n≤4) (hn1:1≤n) {f g h:Nat→Int} (hf:∀ k,f k=0) (hg:∀ k,g k=0) (hh:∀ k,h k=0):KV n f g h:=by
 refine KV.mk' (Z:=fun _=>false) (Bd:=1) (D:=1) (by decide) (q1:=0) (q2:=0) (q3:=0) hn1 hn1 hn1 (A:=fun _=>0) (B:=fun _=>0) (C:=fun _=>0) ⟨0,0,0,fun j=>by omega⟩ ⟨0,0,0,fun j=>by omega⟩ ⟨0,0,0,fun j=>by omega⟩
  (fun j=>by rw [hf,hf]; omega) (fun j=>by rw [hg,hg]; omega) (fun j=>by rw [hh,hh]; omega) (fun j k=>?_) (fun j hj=>by cases hj) (fun t ht=>?_)
 ·unfold Pi
  simp only [ite_self,Dl]
  by_cases k0:j=k
  ·rw [Ai k0]; decide
  ·rw [Ae k0]; decide
 ·rw [Gi] at ht
  have ht1:t≤4:=by omega
  match t,ht1 with
  | 0,_=>rw [ZI]; omega
  | 1,_=>exact TR.2.2.2.2.2.2.1
  | 2,_=>exact TR.2.2.2.2.2.2.2.1
  | 3,_=>exact TR.2.2.2.2.2.2.2.2.1
  | 4,_=>exact TR.2.2.2.2.2.2.2.2.2
theorem YM {n:Nat} (hn:n≤4) (hn1:1≤n) {f g h:Nat→Int} (hf:∀ k,(f k).natAbs≤9) (hg:∀ k,(g k).natAbs≤9) (hh:∀ k,(h k).natAbs≤9) (zf:∀ k,n≤k→f k=0) (zg:∀ k,n≤k→g k=0) (zh:∀ k,n≤k→h k=0):KV n f g h:=by
 have lt:∀ {x:Nat→Int},(∀ k,n≤k→x k=0)→∀ k,x k≠0→k < n:=fun hx k hk=>FM fun e=>hk (hx k e)
 by_cases c3:∃ i j k,d3 f g h i j k≠0
 ·obtain ⟨i,j,k,hd⟩:=c3
  have l:∀ a b c,d3 f g h a b c≠0→a < n∧b < n∧c < n:=fun a b c hd=>by
   refine ⟨FM fun e=>hd ?_,FM fun e=>hd ?_,FM fun e=>hd ?_⟩ <;> (unfold d3 mn; rw [zf _ e,zg _ e,zh _ e]; grind)
  obtain ⟨l1,l2,l3⟩:=l i j k hd
  exact kv3 hn hf hg hh l1 l2 l3 hd
 ·have z3:∀ i j k,d3 f g h i j k=0:=fun i j k=>At fun e=>c3 ⟨i,j,k,e⟩
  have lm:∀ {x y:Nat→Int},(∀ k,n≤k→x k=0)→(∀ k,n≤k→y k=0)→∀ a b,mn x y a b≠0→a < n∧b < n:=fun hx hy a b hd=>by
   refine ⟨FM fun e=>hd ?_,FM fun e=>hd ?_⟩ <;> (unfold mn; rw [hx _ e,hy _ e]; omega)
  by_cases c2:∃ i j,mn f g i j≠0
  ·obtain ⟨i,j,hd⟩:=c2
   obtain ⟨l1,l2⟩:=lm zf zg i j hd
   exact kv2 hn hf hg l1 l2 hd z3
  ·have m1:∀ i j,mn f g i j=0:=fun i j=>At fun e=>c2 ⟨i,j,e⟩
   by_cases c4:∃ i j,mn g h i j≠0
   ·obtain ⟨i,j,hd⟩:=c4
    obtain ⟨l1,l2⟩:=lm zg zh i j hd
    exact (kv2 hn hg hh l1 l2 hd (fun a b c=>by have:=z3 a b c; unfold d3 mn at this ⊢; grind):KV n g h f).rot.rot
   ·have m2:∀ i j,mn g h i j=0:=fun i j=>At fun e=>c4 ⟨i,j,e⟩
    by_cases c5:∃ i j,mn f h i j≠0
    ·obtain ⟨i,j,hd⟩:=c5
     obtain ⟨l1,l2⟩:=lm zf zh i j hd
     exact (kv2 hn hf hh l1 l2 hd (fun a b c=>by have:=z3 a b c; unfold d3 mn at this ⊢; grind):KV n f h g).swap.rot
    ·have m3:∀ i j,mn f h i j=0:=fun i j=>At fun e=>c5 ⟨i,j,e⟩
     by_cases e1:∃ k,f k≠0
     ·obtain ⟨k,hk⟩:=e1
      exact kv1 hn hf (lt zf k hk) hk m1 m3
     ·have f0:∀ k,f k=0:=fun k=>At fun e=>e1 ⟨k,e⟩
      by_cases e2:∃ k,g k≠0
      ·obtain ⟨k,hk⟩:=e2
       exact (kv1 hn hg (lt zg k hk) hk (fun i j=>by have:=m1 i j; unfold mn at this ⊢; grind) m2:KV n g f h).swap
      ·have g0:∀ k,g k=0:=fun k=>At fun e=>e2 ⟨k,e⟩
       by_cases e3:∃ k,h k≠0
       ·obtain ⟨k,hk⟩:=e3
        exact (kv1 hn hh (lt zh k hk) hk (fun i j=>by have:=m3 i j; unfold mn at this ⊢; grind) (fun i j=>by have:=m2 i j; unfold mn at this ⊢; grind):KV n h f g).rot
       ·exact kv0 hn hn1 f0 g0 (fun k=>At fun e=>e3 ⟨k,e⟩)
end Go.Proofs.YtiniigadkknboaaGreatDoor
namespace Go.Proofs.YtiniigadkknboaaGreatDoor
open Go.RowKit Go.Lib
theorem Og {t:Nat} {E:Nat→Nat→Int} {x:Nat→Int}:DF t E x ↔ SpF t E x :=
 ⟨Di,fun ⟨c,hc⟩=>(Ju c t (Ah _)).congr hc⟩
theorem JI {t n:Nat} {E:Nat→Nat→Int} {x y:Nat→Int} (h:DF t E y) (ho:∀ i,i < t→Cd (E i) x n=0):Cd y x n=0:=by
 induction h with
 | zero e=>rw [show _=fun _=>(0:Int) from funext e]; exact Dp _ _
 | add i q hi hx e ih=>
   rw [show _=fun k=>_+q * E i k from funext e,CZ,Co,ih,ho i hi]; omega
theorem HE {m:List (List Int)} {i:Nat} (h:m.length≤i) (k:Nat):Aw m i k=0:=by
 unfold Aw BB
 rw [AG h]; rfl
theorem Ja {g:List (List Int)} {B:Nat} (hB:B≤1000000000) (h:∀ i,i < g.length→∀ k,(Aw g i k).natAbs≤B):Bp g=true:=by
 refine AF.2 fun r hr=>AF.2 fun x hx=>?_
 have:=RL h r hr x hx
 unfold Bk
 exact Ab (by omega)
theorem Mx9 {t:Nat} (h:t≤3):Mx t 9≤1000000000:=by
 match t,h with
 | 0,_=>rw [ZI]; omega
 | 1,_=>exact TR.2.2.2.1
 | 2,_=>exact TR.2.2.2.2.1
 | 3,_=>exact TR.2.2.2.2.2.1
theorem TE {n:Nat} {m:List (List Int)} (hn1:1≤n) (hn:n≤4) (hm:m.length≤3) (hr:Bq n m) (hb:∀ r,r ∈ m→∀ x,x ∈ r→x.natAbs≤9):Bp (Hx n m)=true∧Bp (CI n (Hx n m))=true∧Bp (CI n (CI n (Hx n m)))=true:=by
 have fb:∀ i k,(Aw m i k).natAbs≤9:=fun i k=>Mq hb i k
 have fz:∀ i k,n≤k→Aw m i k=0:=fun i k hk=>I7 hr hk
 obtain ⟨D,V,Z,Bd,v0,v1,v2,v3,v4,v5,v6,v7⟩:=YM hn hn1 (fb 0) (fb 1) (fb 2) (fz 0) (fz 1) (fz 2)
 have a0:=C1
 -- the form
 obtain ⟨gF,tF,p,e1,e2,e3,e4,e5,e6,-⟩:=KY (n:=n) (B:=9) (by omega) hr (by decide) (by omega) hb
 obtain ⟨-,-,-,-,hU⟩:=F6 _ 0 0 m gF tF (fun _=>0) hr (FL.init _ _) e1
 have hsp:=LS hU
 obtain ⟨L,hL⟩:∃ L,L=Hx n m:=⟨_,rfl⟩
 rw [← hL]
 have hLl:L.length=tF:=by rw [hL,e2,Av]; omega
 have hLe:∀ i,i < tF→∀ k,Aw L i k=Aw gF i k:=fun i hi k=>by
  rw [hL,e2]; unfold Aw BB; rw [Bf,Ai hi]
 have hz:∀ i,tF≤i→i < m.length→∀ k,Aw gF i k=0:=fun i h1 h2 k=>by
  by_cases hk:k < n
  ·exact e4.zero i h1 (by omega) k hk
  ·exact I7 e5 (by omega)
 have toL:∀ x,DF m.length (Aw m) x→SpF tF (Aw gF) x:=fun x hx=>by
  obtain ⟨c,hc⟩:=Di ((hsp x).1 hx)
  refine ⟨c,fun k=>?_⟩
  rw [hc k]
  obtain ⟨d,hd⟩:∃ d,m.length=tF+d:=⟨m.length - tF,by omega⟩
  rw [hd]
  exact JU d (fun i h1 h2=>by rw [hz i h1 (by omega)]; omega)
 have fromL:∀ i,i < tF→DF m.length (Aw m) (Aw gF i):=fun i hi=>(hsp _).2 (DF.row (by omega))
 have ext:∀ (c:Nat→Int) (k:Nat),Cd c (fun l=>Aw m l k) 3=Cd c (fun l=>Aw m l k) m.length:=fun c k=>by
  obtain ⟨d,hd⟩:∃ d,3=m.length+d:=⟨3 - m.length,by omega⟩
  rw [hd]
  exact JU d (fun i h1 h2=>by rw [HE h1]; omega)
 obtain ⟨t1,b1⟩:=LH tF p (Aw gF) 3 (fun l=>Aw m l) (fun _=>false) 9 e4.fn (fun l hl=>by
  by_cases h:l < m.length
  ·exact toL _ (DF.row h)
  ·exact ⟨fun _=>0,fun k=>by rw [Dp]; exact HE (by omega) k⟩)
  (fun i hi=>by
   obtain ⟨c,hc⟩:=Di (fromL i hi)
   exact ⟨1,by decide,c,fun k=>by rw [ext,← hc k]; omega⟩)
  (fun l _ k=>fb l k) (fun l _ h=>by cases h)
 rw [Gi] at t1
 have fitL:Bp L=true:=Ja (Mx9 t1) (fun i hi k=>by rw [hLe i (by omega)]; exact b1 i (by omega) k)
 -- what is orthogonal
 have oLm:∀ x,Fu n L x→Fu n m x:=fun x hx=>⟨hx.1,fun i hi=>JI (Og.2 (toL _ (DF.row hi))) (fun l hl=>by
  have:=hx.2 l (by omega)
  rw [show Aw gF l=Aw L l from funext fun k=>(hLe l hl k).symm]
  exact this)⟩
 have omL:∀ x,Fu n m x→Fu n L x:=fun x hx=>⟨hx.1,fun i hi=>by
  rw [show Aw L i=Aw gF i from funext fun k=>hLe i (by omega) k]
  exact JI (fromL i (by omega)) hx.2⟩
 have oro:∀ x,Fu n m x→∀ l,Cd (Aw m l) x n=0:=fun x hx l=>by
  by_cases h:l < m.length
  ·exact hx.2 l h
  ·rw [show Aw m l=fun _=>0 from funext fun k=>HE (by omega) k]; exact Dp _ _
 -- the kernel
 obtain ⟨g1,p1,q1,r1,k1⟩:=Dz (n:=n) hn (by decide) a0 (GL fitL)
 have hA:=k1.spans
 obtain ⟨A,hAe⟩:∃ A,A=CI n L:=⟨_,rfl⟩
 rw [← hAe] at k1 hA ⊢
 have vA:∀ j,j < n→DF A.length (Aw A) (V j):=fun j hj=>(hA _).2 (omL _ ⟨v1 j hj,fun i hi=>by
  rw [BP]
  obtain ⟨w1,w2,w3⟩:=v2 j hj
  have h3:i=0∨i=1∨i=2:=by omega
  rcases h3 with rfl | rfl | rfl <;> assumption⟩)
 have rowA:∀ i,i < A.length→Fu n m (Aw A i):=fun i hi=>oLm _ ((hA _).1 (DF.row hi))
 obtain ⟨t2,b2⟩:=LH A.length _ (Aw A) n V Z Bd k1.kech.fn (fun j hj=>Og.1 (vA j hj))
  (fun i hi=>by
   have ho:=rowA i hi
   exact ⟨D,v0,Aw A i,fun k=>v3 _ ho.1 (oro _ ho 0) (oro _ ho 1) (oro _ ho 2) k⟩)
  v4 v5
 have fitA:Bp A=true:=Ja (v6 _ t2) b2
 -- the saturation
 obtain ⟨g2,p2,q2,r2,k2⟩:=Dz (n:=n) hn (by decide) a0 (GL fitA)
 have hS:=k2.spans
 obtain ⟨S,hSe⟩:∃ S,S=CI n A:=⟨_,rfl⟩
 rw [← hSe] at k2 hS ⊢
 obtain ⟨t3,b3⟩:=LH S.length _ (Aw S) 3 (fun l=>Aw m l) (fun _=>false) 9 k2.kech.fn
  (fun l _=>Og.1 ((hS _).2 ⟨fz l,fun i hi=>by rw [BP]; exact oro _ (rowA i hi) l⟩))
  (fun i hi=>by
   have ho:=(hS _).1 (DF.row hi)
   obtain ⟨a,b,c,he⟩:=v7 (Aw S i) ho.1 (fun j hj=>JI (vA j hj) ho.2)
   refine ⟨D,v0,fun l=>if l=0 then a else if l=1 then b else c,fun k=>?_⟩
   show _=0+a * Aw m 0 k+b * Aw m 1 k+c * Aw m 2 k
   by_cases hk:k < n
   ·rw [he k hk]; omega
   ·rw [ho.1 k (by omega),fz 0 k (by omega),fz 1 k (by omega),fz 2 k (by omega)]; omega)
  (fun l _ k=>fb l k) (fun l _ h=>by cases h)
 rw [Gi] at t3
 exact ⟨fitL,fitA,Ja (Mx9 t3) b3⟩
attribute [local go_sem ↓] Go.wp_at_zero Go.wp_at_succ
def H7:Nat→List Int
 | 0=>[2,3,5]
 | 1=>[2,3,5,7]
 | 2=>[2,3]
 | 3=>[2,3,7]
 | 4=>[2,5,7]
 | 5=>[3,5,7]
 | 6=>[2,3,5,11]
 | 7=>[2]
 | 8=>[2,3,7,13]
 | _=>[3,5,7,13]
theorem SI:∀ k,BM (H7 k)=0∧1≤(H7 k).length∧(H7 k).length≤4
 | 0 | 1 | 2 | 3 | 4 | 5 | 6 | 7 | 8=>by refine ⟨?_, ?_, ?_⟩ <;> decide +kernel
 | _+9=>by
   show BM [3,5,7,13]=0∧1≤[3,5,7,13].length∧[3,5,7,13].length≤4
   refine ⟨?_, ?_, ?_⟩ <;> decide +kernel
def PB (n:Int):List Int:=H7 (n.tmod 10).toNat
theorem J0 (n:Int) (h0:0≤n) (h1:n≤255) (w:World) :
 Calls Tryz.prog 12 #[.int .u8 n] w fun e w'=>∃ b,e=.returned (.slice (some ⟨b,0,none⟩) (PB n).length (PB n).length)∧El w' iv (some ⟨b,0,none⟩) (PB n)∧w.heap.size≤b∧Fr w w':=by
 obtain ⟨k,hk⟩:∃ k:Nat,n.tmod 10=(k:Int):=⟨(n.tmod 10).toNat,by have:=Int.tmod_nonneg 10 h0; omega⟩
 have hk10:k < 10:=by have:=Sd n (show (0:Int) < 10 by decide); omega
 have hp:PB n=H7 k:=by unfold PB; rw [hk,AR]
 rw [hp]
 clear hp
 obtain ⟨W,hW⟩:∃ W,W=Dj w [(.cells #[.int .i64 2,.int .i64 3,.int .i64 5] 3),(.cells #[.int .i64 2,.int .i64 3,.int .i64 5,.int .i64 7] 3),(.cells #[.int .i64 2,.int .i64 3] 3),(.cells #[.int .i64 2,.int .i64 3,.int .i64 7] 3),(.cells #[.int .i64 2,.int .i64 5,.int .i64 7] 3),(.cells #[.int .i64 3,.int .i64 5,.int .i64 7] 3),(.cells #[.int .i64 2,.int .i64 3,.int .i64 5,.int .i64 11] 3),(.cells #[.int .i64 2] 3),(.cells #[.int .i64 2,.int .i64 3,.int .i64 7,.int .i64 13] 3),(.cells #[.int .i64 3,.int .i64 5,.int .i64 7,.int .i64 13] 3),(.cells #[.slice (some ⟨w.heap.size,0,none⟩) 3 3,.slice (some ⟨w.heap.size+1,0,none⟩) 4 4,.slice (some ⟨w.heap.size+1+1,0,none⟩) 2 2,.slice (some ⟨w.heap.size+1+1+1,0,none⟩) 3 3,.slice (some ⟨w.heap.size+1+1+1+1,0,none⟩) 3 3,.slice (some ⟨w.heap.size+1+1+1+1+1,0,none⟩) 3 3,.slice (some ⟨w.heap.size+1+1+1+1+1+1,0,none⟩) 4 4,.slice (some ⟨w.heap.size+1+1+1+1+1+1+1,0,none⟩) 1 1,.slice (some ⟨w.heap.size+1+1+1+1+1+1+1+1,0,none⟩) 4 4,.slice (some ⟨w.heap.size+1+1+1+1+1+1+1+1+1,0,none⟩) 4 4] 24)]:=⟨_,rfl⟩
 have hf:Fr w W:=by rw [hW]; exact Ds _ w
 have hel:∀ (b:Nat) (xs:List Int) (cs:Array Value),W.heap[b]?=some (.cells cs 3 (0,0))→(∀ (i:Nat) (x:Int),xs[i]?=some x→cs[i]?=some (.int .i64 x))→El W iv (some ⟨b,0,none⟩) xs:=fun b xs cs hb hc=>.inr ⟨b,0,rfl,Hz hb,fun i x hx=>by rw [AU,AH hb]; exact hc i x hx⟩
 have key:∃ b,w.heap.size≤b∧W.cell? ⟨w.heap.size+10,k,none⟩=some (.slice (some ⟨b,0,none⟩) (H7 k).length (H7 k).length)∧El W iv (some ⟨b,0,none⟩) (H7 k):=by
  have hg:∀ (i:Nat) (o:Obj),_→W.heap[w.heap.size+i]?=some o:=fun i o h=>by rw [hW]; exact BT _ w i o h
  refine ⟨w.heap.size+k,Nat.le_add_right _ _, ?_, ?_⟩
  ·rw [AH (hg 10 _ rfl)]
   match k,hk10 with
   | 0,_ | 1,_ | 2,_ | 3,_ | 4,_ | 5,_ | 6,_ | 7,_ | 8,_ | 9,_=>rfl
  ·match k,hk10 with
   | 0,_ | 1,_ | 2,_ | 3,_ | 4,_ | 5,_ | 6,_ | 7,_ | 8,_ | 9,_=>
     refine hel _ _ _ (hg _ _ rfl) fun i x hx=>?_
     match i,hx with
     | 0,hx=>injection hx with hx; subst hx; rfl
     | 1,hx=>first | (injection hx with hx; subst hx; rfl) | cases hx
     | 2,hx=>first | (injection hx with hx; subst hx; rfl) | cases hx
     | 3,hx=>first | (injection hx with hx; subst hx; rfl) | cases hx
     | i+4,hx=>cases hx
 clear hel
 obtain ⟨b,hb9,hc,he⟩:=key
 replace hb9:=hZ hb9
 generalize H7 k=P at *
 obtain ⟨m,hm⟩:∃ m,m=P.length:=⟨_,rfl⟩
 rw [← hm] at hc ⊢
 replace he:=hZ he
 replace hm:=hZ hm
 replace hf:=hZ hf
 have zk0:(0:Int)≤(k:Int):=Ak _
 have zk1:(k:Int) < 10:=by omega
 go_enter Tryz.func12,Tryz.ntmps12
 go_upto_region 2 with (fail)
 rw [show w.heap.size+10=w.heap.size+1+1+1+1+1+1+1+1+1+1 from rfl] at hc
 change Code.wp _ _ _ _ (Dj w [(.cells #[.int .i64 2,.int .i64 3,.int .i64 5] 3),(.cells #[.int .i64 2,.int .i64 3,.int .i64 5,.int .i64 7] 3),(.cells #[.int .i64 2,.int .i64 3] 3),(.cells #[.int .i64 2,.int .i64 3,.int .i64 7] 3),(.cells #[.int .i64 2,.int .i64 5,.int .i64 7] 3),(.cells #[.int .i64 3,.int .i64 5,.int .i64 7] 3),(.cells #[.int .i64 2,.int .i64 3,.int .i64 5,.int .i64 11] 3),(.cells #[.int .i64 2] 3),(.cells #[.int .i64 2,.int .i64 3,.int .i64 7,.int .i64 13] 3),(.cells #[.int .i64 3,.int .i64 5,.int .i64 7,.int .i64 13] 3),(.cells #[.slice (some ⟨w.heap.size,0,none⟩) 3 3,.slice (some ⟨w.heap.size+1,0,none⟩) 4 4,.slice (some ⟨w.heap.size+1+1,0,none⟩) 2 2,.slice (some ⟨w.heap.size+1+1+1,0,none⟩) 3 3,.slice (some ⟨w.heap.size+1+1+1+1,0,none⟩) 3 3,.slice (some ⟨w.heap.size+1+1+1+1+1,0,none⟩) 3 3,.slice (some ⟨w.heap.size+1+1+1+1+1+1,0,none⟩) 4 4,.slice (some ⟨w.heap.size+1+1+1+1+1+1+1,0,none⟩) 1 1,.slice (some ⟨w.heap.size+1+1+1+1+1+1+1+1,0,none⟩) 4 4,.slice (some ⟨w.heap.size+1+1+1+1+1+1+1+1+1,0,none⟩) 4 4] 24)])
 rw [← hW]
 clear hW
 go_wp2_with fail
 go_ret
 exact ⟨b,rfl,he.out,hb9.out,hf.out⟩
def TW (k:Nat) (r:List Int):List Int:=(r.take k).map fun x=>x.tmod 10
theorem JL {k:Nat} {r:List Int} (h:r.length=4) (hk:k≤4):(TW k r).length=k:=by
 unfold TW; rw [AE,Av]; omega
theorem Xv {k i:Nat} {r:List Int} {x:Int} (hi:i < k) (h:r[i]?=some x):(TW k r)[i]?=some (x.tmod 10):=by
 unfold TW; rw [Au,Bf,Ai hi,h]; rfl
theorem Sj (x:Int):-9≤x.tmod 10∧x.tmod 10≤9:=by
 have h1:=Sd x (show (0:Int) < 10 by decide)
 have h2:=Int.lt_tmod_of_pos x (show (0:Int) < 10 by decide)
 omega
theorem VH {k:Nat} {r:List Int}:∀ x,x ∈ TW k r→x.natAbs≤9:=fun x hx=>by
 obtain ⟨y,-,rfl⟩:=Cb.1 hx
 have:=Sj y
 omega
theorem Ip (n:Nat) (a:Option Addr) (cap:Nat) (v0 v1 v2 v3:Int) (w:World) (hP1:1≤n) (hP4:n≤4) (hr:∀ x,x ∈ [v0,v1,v2,v3]→-128≤x∧x≤127) :
 Calls Tryz.prog 39 #[.slice a n cap,.agg #[.int .i8 v0,.int .i8 v1,.int .i8 v2,.int .i8 v3]] w fun e w'=>∃ g c,e=.returned (.slice (some ⟨g,0,none⟩) n c)∧Fr w w'∧w'.ownsRow w.heap.size 3 1 (.slice (some ⟨g,0,none⟩) n c) n ((TW n [v0,v1,v2,v3]).map iv):=by
 obtain ⟨i0,ji,jz0,jz1,jz2⟩:=A5 CX
 obtain ⟨r,hr9⟩:∃ r,r=[v0,v1,v2,v3]:=⟨_,rfl⟩
 have hrl:r.length=4:=by rw [hr9]; rfl
 obtain ⟨wb,hwb⟩:∃ wb,wb=Dj w [(.cells #[.int .i8 v0,.int .i8 v1,.int .i8 v2,.int .i8 v3] 44)]:=⟨_,rfl⟩
 have hfb:Fr w wb:=by rw [hwb]; exact Ds _ w
 have g0:wb.heap[w.heap.size]?=some (.cells #[.int .i8 v0,.int .i8 v1,.int .i8 v2,.int .i8 v3] 44 (0,0)):=by rw [hwb]; exact BT _ w 0 _ rfl
 have hcl:∀ i x,r[i]?=some x→wb.cell? ⟨w.heap.size,i,none⟩=some (.int .i8 x):=fun i x hx=>by
  rw [AH g0]
  rw [hr9] at hx
  match i,hx with
  | 0,hx | 1,hx | 2,hx | 3,hx=>injection hx with hx; subst hx; rfl
  | i+4,hx=>cases hx
 rw [← hr9] at hr ⊢
 obtain ⟨L,hL⟩:∃ L,L=TW n r:=⟨_,rfl⟩
 have hLl:L.length=n:=by rw [hL]; exact JL hrl hP4
 have hLg:∀ i x,i < n→r[i]?=some x→L[i]?=some (x.tmod 10):=fun i x hi hx=>by rw [hL]; exact Xv hi hx
 rw [← hL]
 replace hL:=hZ hL
 replace hLg:=hZ hLg
 replace hcl:=hZ hcl
 replace hr:=hZ hr
 replace hr9:=hZ hr9
 clear g0
 go_enter Tryz.func39,Tryz.ntmps39
 go_upto_region 1 with (fail)
 change Code.wp _ _ _ _ (Dj w [(.cells #[.int .i8 v0,.int .i8 v1,.int .i8 v2,.int .i8 v3] 44)])
 rw [← hwb]
 clear hwb
 obtain ⟨tb,htb⟩:∃ tb,tb=w.heap.size:=⟨_,rfl⟩
 rw [← htb] at hcl ⊢
 replace htb:=hZ htb
 go_wp2_with fail
 go_loopg [5,6] n (fun k s5 s6 wr=>∃ i:Nat,s6=.int .i64 i∧i+k=n∧Fr wb wr∧wr.ownsRow wb.heap.size 3 1 s5 i ((L.take i).map iv))
 case atStart=>exact ⟨0,rfl,by omega,Fr.refl _,by simpa using Br _ _ _ _⟩
 case round=>
  obtain ⟨i,rfl,hik,hf,hown⟩:=hrel
  by_cases hi:i < n
  ·have hdI:decide (i < n)=true:=Ab hi
   have hd4:decide ((i:Int) < 4)=true:=Ab (by omega)
   obtain ⟨x,hx⟩:∃ x,r[i]?=some x:=⟨_,Ac (by omega)⟩
   have hc:=hf.keep (hcl.out i x hx)
   have hx8:=hr.out x (Af hx)
   have hsn:=hZ (BH (hLg.out i x hi hx))
   have hxt:=Sj x
   replace hx:=hZ hx
   have z0:(0:Int)≤(i:Int):=Ak _
   have z1:(i:Int) < 4:=by omega
   obtain ⟨hx1,hx2⟩:=hx8
   go_wp2_with (at_builtin; refine wpList_append_lies _ rfl _ _ 33 (by rfl) _ 3 _ _ 1 8 Tryz.underlying33 ji jz0 jz1 jz2 rfl (by decide) _ i _ (by rfl) (AA hown _) ⟨wr.heap.size,0,none⟩ 1 1 [iv (x.tmod 10)] (by rfl) rfl (AN _ _ _ _ (by simp)) (by simp [Value.oneCell']) (by decide) (by unfold maxLen; omega) (by omega) (by have:=hf.size; simp; omega) (wr.heap.size+1) (by simp) ?_; intro gA capA wA hownA hgrowA hatA hltA)
   go_wp2_with fail
   go_roundg (gk - 1)
   case measure=>omega
   case rel=>exact ⟨i+1,by go_num,by omega,(hf.alloc _).grown hgrowA (fun k e=>(hown.lt k e).1),by rw [hsn.out,AD]; exact hownA⟩
  ·obtain rfl:i=n:=by omega
   have hdI:decide (i < i)=false:=Aa (by omega)
   rw [Ap (by rw [hLl]; exact Ah _)] at hown
   obtain ⟨g,c,rfl⟩:=Db hown hP1
   go_wp2_with fail
   go_ret
   exact ⟨g,c,rfl,hfb.trans hf,Cw hown hfb.size⟩
theorem MO (np:Int) (vals:Bool) (qa:Option Addr) (m qc:Nat) (w:World) :
 Calls Tryz.prog 18 #[.agg #[.int .u8 np,.slice qa m qc,.bool vals]] w fun e w'=>e=.returned (.bool (decide (m≤3)))∧Fr w w':=by
 have hfA:Fr w (w.alloc (.cells #[.int .u8 np,.slice qa m qc,.bool vals] 42)):=(Fr.refl w).alloc _
 replace hfA:=hZ hfA
 have hd:decide ((m:Int)≤3)=decide (m≤3):=by
  by_cases h:m≤3
  ·rw [Ab h,Ab (by omega)]
  ·rw [Aa h,Aa (by omega)]
 rw [← hd]
 clear hd
 go_enter Tryz.func18,Tryz.ntmps18
 go_wp2_with fail
 go_ret
 exact ⟨rfl,hfA.out⟩
theorem FW.any {w:World} {n:Nat} {g:List (List Int)} {e:Ending} {w':World} (h:FW w n g e w'):∃ (n':Int) (a':Option Addr) (k' c':Nat) (err:Int),e=.returned (.tuple #[.agg #[.int .i64 n',.slice a' k' c'],.int .i64 err])∧Fr w w'∧(Bp g=true→err=0∧n'=n∧k'=g.length∧k'≤c'∧∀ W,Fx (· < w.heap.size) w' W→A2 W a' g)∧(Bp g=false→err=4):=by
 cases hb:Bp g with
 | true=>
   obtain ⟨a,c,he,hc,hm,hf⟩:=h.1 hb
   exact ⟨n,a,g.length,c,0,he,hf,fun _=>⟨rfl,rfl,rfl,hc,hm⟩,fun h=>(by cases h)⟩
 | false=>
   obtain ⟨he,hf⟩:=h.2 hb
   exact ⟨0,none,0,0,4,he,hf,fun h=>(by cases h),fun _=>rfl⟩
theorem H1 (wr:World) (r:Nat) (u v x u0 v0 x0:Value) (h0:wr.cell? ⟨r,0,none⟩=some u0) (h1:wr.cell? ⟨r,1,none⟩=some v0) (h2:wr.cell? ⟨r,2,none⟩=some x0) :
 (((wr.setCell ⟨r,0,none⟩ u).setCell ⟨r,1,none⟩ v).setCell ⟨r,2,none⟩ x).cell? ⟨r,0,none⟩=some u∧(((wr.setCell ⟨r,0,none⟩ u).setCell ⟨r,1,none⟩ v).setCell ⟨r,2,none⟩ x).cell? ⟨r,1,none⟩=some v∧(((wr.setCell ⟨r,0,none⟩ u).setCell ⟨r,1,none⟩ v).setCell ⟨r,2,none⟩ x).cell? ⟨r,2,none⟩=some x ∧
   (wr.setCell ⟨r,0,none⟩ u).cell? ⟨r,1,none⟩=some v0∧((wr.setCell ⟨r,0,none⟩ u).setCell ⟨r,1,none⟩ v).cell? ⟨r,2,none⟩=some x0∧Fx (·=r) wr (((wr.setCell ⟨r,0,none⟩ u).setCell ⟨r,1,none⟩ v).setCell ⟨r,2,none⟩ x):=by
 have ne:∀ (i j:Nat),i≠j→(⟨r,i,none⟩:Addr)≠⟨r,j,none⟩:=fun i j h e=>by injection e with _ e; exact h e
 have e1:(wr.setCell ⟨r,0,none⟩ u).cell? ⟨r,1,none⟩=some v0:=by rw [Ad _ _ _ _ (ne 0 1 (by decide))]; exact h1
 have e2:((wr.setCell ⟨r,0,none⟩ u).setCell ⟨r,1,none⟩ v).cell? ⟨r,2,none⟩=some x0:=by rw [Ad _ _ _ _ (ne 1 2 (by decide)),Ad _ _ _ _ (ne 0 2 (by decide))]; exact h2
 refine ⟨?_, ?_, ?_,e1,e2,Fx.setCell (p:=(·=r)) (q:=⟨r,2,none⟩) (Fx.setCell (p:=(·=r)) (q:=⟨r,1,none⟩) (Fx.setCell (p:=(·=r)) (q:=⟨r,0,none⟩) (Fx.refl _ _) (.inl rfl) u) (.inl rfl) v) (.inl rfl) x⟩
 ·rw [Ad _ _ _ _ (ne 2 0 (by decide)),Ad _ _ _ _ (ne 1 0 (by decide))]; exact Al _ _ _ (by rw [h0]; rfl)
 ·rw [Ad _ _ _ _ (ne 2 1 (by decide))]; exact Al _ _ _ (by rw [e1]; rfl)
 ·exact Al _ _ _ (by rw [e2]; rfl)
def Zc (w:World) (P0:List Int) (a0:Option Addr) (e:Ending) (w':World):Prop:=∃ (P:List Int) (C M:List (List Int)) (aP aC aM:Option Addr) (cP cC cM:Nat) (err:Int),e=.returned (.tuple #[.agg #[.slice aP P.length cP,.slice aC C.length cC,.slice aM M.length cM],.int .i64 err])∧(P=P0∧aP=a0)∧(∀ W,Fx (· < w.heap.size) w' W→A2 W aC C)∧(∀ W,Fx (· < w.heap.size) w' W→A2 W aM M)∧C.length≤cC∧M.length≤cM∧Tg P C M∧Fr w w'
theorem Fx.newer {p q:Nat→Prop} {a b c:World} (h:Fx p a b) (k:Fx q b c) (hq:∀ j,j < a.heap.size→q j→p j):Fx p a c :=
 ⟨k.os.trans h.os,k.tape.trans h.tape,k.output.trans h.output,Ar h.size k.size,fun j hj hp=>(k.block j (An hj h.size) (fun e=>hp (hq j hj e))).trans (h.block j hj hp)⟩
theorem Fx.low {p:Nat→Prop} {n:Nat} {w w':World} (h:Fx p w w') (hp:∀ k,p k→k < n):Fx (· < n) w w':=h.mono fun k hk=>hp k hk
theorem QR (P:List Int) (m:List (List Int)) (vals:Bool) (aP am:Option Addr) (cP cm:Nat) (w:World) (hG:G w) (hE:Jd w) (hp:BM P=0) (hP1:1≤P.length) (hP4:P.length≤4) (hP:El w iv aP P) (hm:A2 w am m) (hr:Bq P.length m) (hm3:m.length≤3) (hb:∀ r,r ∈ m→∀ x,x ∈ r→x.natAbs≤9) (hz:m=[]→am=none∧cm=0) :
 Calls Tryz.prog 52 #[.slice aP P.length cP,.slice am m.length cm,.bool vals] w (Zc w P aP):=by
 have a0:=C1
 obtain ⟨ftL,ftA,ftS⟩:=TE hP1 hP4 hm3 hr hb
 obtain ⟨oS,oR,oL,oF⟩:=Rp (n:=P.length) (m:=m) (B:=9) hP4 (by omega) hr (by decide) (by omega) hb
 have hpc:∀ W,Fr w W→Calls Tryz.prog 44 #[.slice aP P.length cP] W fun e w'=>e=.returned (.int .i64 0)∧Fr W w':=fun W hW=>(Ft P aP cP W (hP.fr hW) (by omega)).mono fun e w' ⟨h1,h2⟩=>⟨by rw [h1,hp],by rw [h2]; exact Fr.refl _⟩
 have htab:DR P.length m:=⟨by omega,by omega,hr,fun r hr x hx=>by
  have:=hb r hr x hx
  unfold Bk
  exact Ab (by omega)⟩
 have hof:∀ W,Fr w W→Calls Tryz.prog 48 #[.int .i64 (P.length:Nat),.slice am m.length cm] W (FW W P.length (Hx P.length m)):=fun W hW=>by
  by_cases h0:m=[]
  ·obtain ⟨rfl,rfl⟩:=hz h0
   subst h0
   rw [SM]
   exact (Wx P.length W hP1 (by omega)).mono fun e w' ⟨h1,h2⟩=>⟨fun _=>⟨none,0,h1,Ah _,fun W _=>.inl rfl,h2⟩,fun h=>by cases h⟩
  ·obtain ⟨gF,tF,p,k1,k2,-⟩:=KY (n:=P.length) (m:=m) (B:=9) (by omega) hr (by decide) (by omega) hb
   rw [k2] at oS ⊢
   have hm0:0 < m.length:=Cq.2 h0
   exact Y8 m gF FX tF am cm P.length W (hG.fr hW) (hm.fr hW) htab hm0 hP1 k1 oS (hE.fr hW)
 generalize hL9:Hx P.length m=L at *
 have hsub:Bp L=true→Tg P (CI P.length (CI P.length L)) (CI P.length L)→True:=fun _ _=>trivial
 have hlat:Bp L=true→∀ W la lc,Fr w W→A2 W la L→L.length≤lc →
  Calls Tryz.prog 50 #[.agg #[.int .i64 (P.length:Nat),.slice la L.length lc]] W (FW W P.length (CI P.length (CI P.length L))) ∧
  Calls Tryz.prog 49 #[.agg #[.int .i64 (P.length:Nat),.slice la L.length lc]] W (FW W P.length (CI P.length L)):=fun hL W la lc hW hMt hlc=>by
  obtain ⟨j1,j2,j3,j4,j5,j6,j7,j8⟩:=Rv (n:=P.length) hP4 hL
  have hT:DR P.length L:=⟨by omega,by omega,oR,JS hL⟩
  have hfine:GE W P.length la L.length lc:=fun W' hW'=>FK L la lc P.length W' (hMt.fr hW') hT hlc oF
  exact ⟨OU L (CI P.length L) _ la lc P.length FX W (hG.fr hW) hMt hfine oR hP1 (by omega) (by omega) (GD hT) j1 j2 j3 (by omega) (by omega) (EI j5 (by omega)) j8 (hE.fr hW),
   O4 L _ la lc P.length FX W (hG.fr hW) hMt hfine oR hP1 (by omega) (by omega) (GD hT) j1 (by omega) (EI j3 (by omega)) j7 (hE.fr hW)⟩
 have htg:Bp L=true→Bp (CI P.length L)=true→Bp (CI P.length (CI P.length L))=true→Tg P (CI P.length (CI P.length L)) (CI P.length L)∧Tg P (CI P.length L) (CI P.length (CI P.length L)):=fun h1 h2 h3=>Sn hP1 hP4 hp h1 oR h2 h3
 generalize CI P.length (CI P.length L)=S at *
 generalize CI P.length L=A at *
 obtain ⟨n,hn⟩:∃ n,n=P.length:=⟨_,rfl⟩
 obtain ⟨nm,hnm⟩:∃ nm,nm=m.length:=⟨_,rfl⟩
 rw [← hn] at hpc hof hlat ⊢
 rw [← hnm] at hof ⊢
 replace hn:=hZ hn
 replace hnm:=hZ hnm
 replace hP:=hZ hP
 replace hpc:=hZ hpc
 replace hof:=hZ hof
 replace hlat:=hZ hlat
 replace htg:=hZ htg
 replace ftL:=hZ ftL
 replace ftA:=hZ ftA
 replace ftS:=hZ ftS
 clear hsub hm hr hb hz hp htab oS oR oL oF hG hE hL9 hm3
 obtain ⟨wb,hwb⟩:∃ wb,wb=Dj w [(.cells #[.slice none 0 0,.slice none 0 0,.slice none 0 0] 29)]:=⟨_,rfl⟩
 have hfb:Fr w wb:=by rw [hwb]; exact Ds _ w
 have g0:wb.heap[w.heap.size]?=some (.cells #[.slice none 0 0,.slice none 0 0,.slice none 0 0] 29 (0,0)):=by rw [hwb]; exact BT _ w 0 _ rfl
 have t0:wb.cell? ⟨w.heap.size,0,none⟩=some (.slice none 0 0):=AH g0 0
 have t1:wb.cell? ⟨w.heap.size,1,none⟩=some (.slice none 0 0):=AH g0 1
 have t2:wb.cell? ⟨w.heap.size,2,none⟩=some (.slice none 0 0):=AH g0 2
 have f0:wb.frozen? ⟨w.heap.size,0,none⟩=false:=by unfold World.frozen?; rw [g0]; rfl
 have f1:wb.frozen? ⟨w.heap.size,1,none⟩=false:=by unfold World.frozen?; rw [g0]; rfl
 have f2:wb.frozen? ⟨w.heap.size,2,none⟩=false:=by unfold World.frozen?; rw [g0]; rfl
 have htbl:w.heap.size < wb.heap.size:=Hz g0
 clear g0
 go_enter Tryz.func52,Tryz.ntmps52
 go_upto_region 1 with (fail)
 change Code.wp _ _ _ _ (Dj w [(.cells #[.slice none 0 0,.slice none 0 0,.slice none 0 0] 29)])
 rw [← hwb]
 clear hwb
 obtain ⟨tb,htb⟩:∃ tb,tb=w.heap.size:=⟨_,rfl⟩
 rw [← htb] at t0 t1 t2 f0 f1 f2 htbl ⊢
 replace htb:=hZ htb
 go_wp2_with fail
 refine (hpc.out _ hfb).mono ?_
 rintro e w1 ⟨rfl,hf1⟩
 go_wp2_with fail
 refine (hof.out _ (hfb.trans hf1)).mono ?_
 rintro e w2 hret
 obtain ⟨n1,la,k1,c1,e1,rfl,hf2,hok,hno⟩:=hret.any
 clear hret
 have hf12:=hf1.trans hf2
 replace f0:=hf12.keepf t0 f0
 replace f1:=hf12.keepf t1 f1
 replace f2:=hf12.keepf t2 f2
 replace t0:=hf12.keep t0
 replace t1:=hf12.keep t1
 replace t2:=hf12.keep t2
 have hfw:=hfb.trans hf12
 have htb2:tb < w2.heap.size:=An htbl hf12.size
 clear hf1 hf2 hf12 hfb htbl
 obtain ⟨w3,hw3⟩:∃ w3,w3=w2.alloc (.cells #[.int .i64 n1,.slice la k1 c1] 76):=⟨_,rfl⟩
 have hf3:Fr w2 w3:=by rw [hw3]; exact (Fr.refl _).alloc _
 have l0:w3.cell? ⟨w2.heap.size,0,none⟩=some (.int .i64 n1):=by rw [hw3]; exact (Ct _ _ _ _).1
 have l1:w3.cell? ⟨w2.heap.size,1,none⟩=some (.slice la k1 c1):=by rw [hw3]; exact (Ce _ _ _ _).1
 go_upto_region 5 with (fail)
 rw [← hw3]
 clear hw3
 obtain ⟨lb,hlb⟩:∃ lb,lb=w2.heap.size:=⟨_,rfl⟩
 rw [← hlb] at l0 l1 ⊢
 replace hlb:=hZ hlb
 replace f0:=hf3.keepf t0 f0
 replace f1:=hf3.keepf t1 f1
 replace f2:=hf3.keepf t2 f2
 replace t0:=hf3.keep t0
 replace t1:=hf3.keep t1
 replace t2:=hf3.keep t2
 replace hfw:=hfw.trans hf3
 have htb3:tb < w3.heap.size:=A0 w3 _ t0
 cases hbL:Bp L with
 | false=>
   exact absurd hbL (by rw [ftL.out]; decide)
 | true=>
   obtain ⟨rfl,rfl,rfl,hc1,hmt⟩:=hok hbL
   clear hok hno
   have hmt3:=hmt w3 (Fx.of_fr hf3)
   replace hlat:=hlat.out hbL
   replace htg:=htg.out hbL
   replace hmt:=hZ hmt
   have hlat3:=hZ (fun W (hW:Fr w3 W)=>hlat W la c1 (hfw.trans hW) (hmt3.fr hW) hc1)
   clear hlat
   generalize L.length=nL at *
   go_wp2_with fail
   refine (hlat3.out _ (Fr.refl _)).1.mono ?_
   rintro e w4 hret
   obtain ⟨n4,sa,k4,c4,e4,rfl,hf4,hok4,hno4⟩:=hret.any
   clear hret
   replace f0:=hf4.keepf t0 f0
   replace f1:=hf4.keepf t1 f1
   replace f2:=hf4.keepf t2 f2
   replace t0:=hf4.keep t0
   replace t1:=hf4.keep t1
   replace t2:=hf4.keep t2
   replace l0:=hf4.keep l0
   replace l1:=hf4.keep l1
   obtain ⟨w5,hw5⟩:∃ w5,w5=w4.alloc (.cells #[.int .i64 n4,.slice sa k4 c4] 76):=⟨_,rfl⟩
   have hf5:Fr w4 w5:=by rw [hw5]; exact (Fr.refl _).alloc _
   have s0:w5.cell? ⟨w4.heap.size,0,none⟩=some (.int .i64 n4):=by rw [hw5]; exact (Ct _ _ _ _).1
   have s1:w5.cell? ⟨w4.heap.size,1,none⟩=some (.slice sa k4 c4):=by rw [hw5]; exact (Ce _ _ _ _).1
   have s2:w5.frozen? ⟨w4.heap.size,0,none⟩=false:=by rw [hw5]; exact (Ct _ _ _ _).2
   have s3:w5.frozen? ⟨w4.heap.size,1,none⟩=false:=by rw [hw5]; exact (Ce _ _ _ _).2
   go_upto_region 8 with (fail)
   rw [← hw5]
   clear hw5
   obtain ⟨sb,hsb⟩:∃ sb,sb=w4.heap.size:=⟨_,rfl⟩
   rw [← hsb] at s0 s1 s2 s3 ⊢
   have hsl:sb < w5.heap.size:=A0 w5 _ s0
   replace hsb:=hZ hsb
   replace f0:=hf5.keepf t0 f0
   replace f1:=hf5.keepf t1 f1
   replace f2:=hf5.keepf t2 f2
   replace t0:=hf5.keep t0
   replace t1:=hf5.keep t1
   replace t2:=hf5.keep t2
   replace l0:=hf5.keep l0
   replace l1:=hf5.keep l1
   have hf35:=hf4.trans hf5
   go_wp2_with fail
   refine (hlat3.out _ hf35).2.mono ?_
   rintro e w6 hret
   obtain ⟨n6,xa,k6,c6,e6,rfl,hf6,hok6,hno6⟩:=hret.any
   clear hret l0 l1
   replace f0:=hf6.keepf t0 f0
   replace f1:=hf6.keepf t1 f1
   replace f2:=hf6.keepf t2 f2
   replace t0:=hf6.keep t0
   replace t1:=hf6.keep t1
   replace t2:=hf6.keep t2
   replace s2:=hf6.keepf s0 s2
   replace s3:=hf6.keepf s1 s3
   replace s0:=hf6.keep s0
   replace s1:=hf6.keep s1
   obtain ⟨w7,hw7⟩:∃ w7,w7=w6.alloc (.cells #[.int .i64 n6,.slice xa k6 c6] 76):=⟨_,rfl⟩
   have hf7:Fr w6 w7:=by rw [hw7]; exact (Fr.refl _).alloc _
   have x0:w7.cell? ⟨w6.heap.size,0,none⟩=some (.int .i64 n6):=by rw [hw7]; exact (Ct _ _ _ _).1
   have x1:w7.cell? ⟨w6.heap.size,1,none⟩=some (.slice xa k6 c6):=by rw [hw7]; exact (Ce _ _ _ _).1
   have x2:w7.frozen? ⟨w6.heap.size,0,none⟩=false:=by rw [hw7]; exact (Ct _ _ _ _).2
   have x3:w7.frozen? ⟨w6.heap.size,1,none⟩=false:=by rw [hw7]; exact (Ce _ _ _ _).2
   go_upto_region 9 with (fail)
   rw [← hw7]
   clear hw7
   obtain ⟨xb,hxb⟩:∃ xb,xb=w6.heap.size:=⟨_,rfl⟩
   rw [← hxb] at x0 x1 x2 x3 ⊢
   replace hxb:=hZ hxb
   replace f0:=hf7.keepf t0 f0
   replace f1:=hf7.keepf t1 f1
   replace f2:=hf7.keepf t2 f2
   replace t0:=hf7.keep t0
   replace t1:=hf7.keep t1
   replace t2:=hf7.keep t2
   replace s2:=hf7.keepf s0 s2
   replace s3:=hf7.keepf s1 s3
   replace s0:=hf7.keep s0
   replace s1:=hf7.keep s1
   have hf37:=hf35.trans (hf6.trans hf7)
   have hfw7:=hfw.trans hf37
   have hsbl:tb < sb∧w3.heap.size≤sb:=⟨by have:=hf3.size; have:=hf4.size; have:=hsb.out; omega,by have:=hf4.size; have:=hsb.out; omega⟩
   have hxbl:sb < xb:=by have:=hf6.size; have:=hxb.out; omega
   cases hbS:Bp S with
   | false=>
     exact absurd hbS (by rw [ftS.out]; decide)
   | true=>
     obtain ⟨rfl,rfl,rfl,hc4,hm4⟩:=hok4 hbS
     cases hbA:Bp A with
     | false=>
       exact absurd hbA (by rw [ftA.out]; decide)
     | true=>
       obtain ⟨rfl,rfl,rfl,hc6,hm6⟩:=hok6 hbA
       have htg2:=hZ (htg hbA hbS)
       clear hok4 hno4 hok6 hno6 hlat3 htg
       have htb5:tb < w5.heap.size:=by omega
       replace hm4:=hZ hm4
       replace hm6:=hZ hm6
       have hf47:=hf5.trans (hf6.trans hf7)
       have hl3:∀ k,k < w.heap.size→k < w3.heap.size:=fun k hk=>An hk hfw.size
       have hl5:∀ k,k < w.heap.size→k < w5.heap.size:=fun k hk=>An hk (hfw.trans hf35).size
       replace hl3:=hZ hl3
       replace hl5:=hZ hl5
       cases vals with
       | false=>
         have qs:=H1 w7 tb (.slice aP n cP) (.slice sa S.length c4) (.slice xa A.length c6) _ _ _ t0 t1 t2
         have q1:=qs.2.2.2.1
         have q2:=qs.2.2.2.2.1
         have u0:=hZ qs.1
         have u1:=hZ qs.2.1
         have u2:=hZ qs.2.2.1
         have hfx:=hZ qs.2.2.2.2.2
         clear qs
         go_wp2_with fail
         have y0:=u0.out
         have y1:=u1.out
         have y2:=u2.out
         refine AK (v:=.tuple #[.agg #[.slice aP n cP,.slice sa S.length c4,.slice xa A.length c6],.int .i64 0]) (by simp [results,Tryz.results52,go_sem,y0,y1,y2]) rfl ?_
         have hfin:=((Fx.of_fr (p:=fun q=>q=tb) hfw7).trans hfx.out).toFr (fun q hq e=>by have e:q=tb:=e; have:=htb.out; omega)
         have hA4:=((Fx.of_fr hf47).trans hfx.out).low (n:=w3.heap.size) fun k e=>by have e:k=tb:=e; omega
         have hA6:=((Fx.of_fr hf7).trans hfx.out).low (n:=w5.heap.size) fun k e=>by have e:k=tb:=e; omega
         exact ⟨P,S,A,aP,sa,xa,cP,c4,c6,0,by rw [hn.out],⟨rfl,rfl⟩,fun W hW=>hm4.out _ (hA4.trans (hW.mono fun k e=>hl3.out k e)),fun W hW=>hm6.out _ (hA6.trans (hW.mono fun k e=>hl5.out k e)),hc4,hc6,htg2.out.1,hfin⟩
       | true=>
         have a1:=Ci w7 sb (.int .i64 n) (.slice xa A.length c6) _ _ s0 s1
         have r1:=a1.2.2.1
         have k1:=FB w7 xb sb _ _ (.int .i64 n) (.slice xa A.length c6) ⟨x0,x1⟩ (by omega)
         have r2:=k1.1
         have r3:=k1.2
         obtain ⟨W1,hW1⟩:∃ W1,W1=(w7.setCell ⟨sb,0,none⟩ (.int .i64 n)).setCell ⟨sb,1,none⟩ (.slice xa A.length c6):=⟨_,rfl⟩
         have a2:=Ci W1 xb (.int .i64 n) (.slice sa S.length c4) _ _ (by rw [hW1]; exact r2) (by rw [hW1]; exact r3)
         have r4:=a2.2.2.1
         have k2:=FB W1 sb xb _ _ (.int .i64 n) (.slice sa S.length c4) ⟨by rw [hW1]; exact a1.1,by rw [hW1]; exact a1.2.1⟩ (by omega)
         have z1:=k2.2
         have z2:=a2.2.1
         have hfx8:=(a1.2.2.2.mono (q:=fun q=>q=sb∨q=xb) fun k e=>.inl e)
         rw [← hW1] at hfx8
         replace hfx8:=hfx8.trans (a2.2.2.2.mono (q:=fun q=>q=sb∨q=xb) fun k e=>.inr e)
         rw [hW1] at r4
         obtain ⟨W8,hW8⟩:∃ W8,W8=(W1.setCell ⟨xb,0,none⟩ (.int .i64 n)).setCell ⟨xb,1,none⟩ (.slice sa S.length c4):=⟨_,rfl⟩
         rw [← hW8] at hfx8 z1 z2
         have hnt:¬ (tb=sb∨tb=xb):=by omega
         have j0:=hfx8.keep t0 hnt
         have j1:=hfx8.keep t1 hnt
         have j2:=hfx8.keep t2 hnt
         have j3:=hfx8.keepf t0 f0 hnt
         have j4:=hfx8.keepf t1 f1 hnt
         have j5:=hfx8.keepf t2 f2 hnt
         clear a1 a2 k1 k2
         rw [hW1] at hW8
         clear hW1
         replace hfx8:=hZ hfx8
         replace hnt:=hZ hnt
         replace z1:=hZ z1
         replace z2:=hZ z2
         replace j0:=hZ j0
         replace j1:=hZ j1
         replace j2:=hZ j2
         replace j3:=hZ j3
         replace j4:=hZ j4
         replace j5:=hZ j5
         go_upto_region 13 with (fail)
         rw [← hW8]
         clear hW8 r1 r2 r3 r4 t0 t1 t2 f0 f1 f2 s0 s1 x0 x1
         replace t0:=j0.out
         replace t1:=j1.out
         replace t2:=j2.out
         replace f0:=j3.out
         replace f1:=j4.out
         replace f2:=j5.out
         replace z1:=z1.out
         replace z2:=z2.out
         have qs:=H1 W8 tb (.slice aP n cP) (.slice xa A.length c6) (.slice sa S.length c4) _ _ _ t0 t1 t2
         have q1:=qs.2.2.2.1
         have q2:=qs.2.2.2.2.1
         have u0:=hZ qs.1
         have u1:=hZ qs.2.1
         have u2:=hZ qs.2.2.1
         have hfx:=hZ qs.2.2.2.2.2
         clear qs
         go_wp2_with fail
         have y0:=u0.out
         have y1:=u1.out
         have y2:=u2.out
         refine AK (v:=.tuple #[.agg #[.slice aP n cP,.slice xa A.length c6,.slice sa S.length c4],.int .i64 0]) (by simp [results,Tryz.results52,go_sem,y0,y1,y2]) rfl ?_
         have hfx9:=(hfx8.out.mono (q:=fun q=>q=tb∨q=sb∨q=xb) fun k e=>.inr e).trans (hfx.out.mono (q:=fun q=>q=tb∨q=sb∨q=xb) fun k e=>.inl e)
         have hsw:w.heap.size≤tb:=by rw [htb.out]; exact Ah _
         have hfin:=((Fx.of_fr (p:=fun q=>q=tb∨q=sb∨q=xb) hfw7).trans hfx9).toFr (fun q hq e=>by rcases e with e | e | e <;> omega)
         have hA6:=(Fx.of_fr (p:=(· < w5.heap.size)) hf7).newer hfx9 fun j hj e=>by have:=hxb.out; show j < w5.heap.size; rcases e with e | e | e <;> omega
         have hA4:=(Fx.of_fr (p:=(· < w3.heap.size)) hf47).newer hfx9 fun j hj e=>by have:=hsb.out; show j < w3.heap.size; rcases e with e | e | e <;> omega
         exact ⟨P,A,S,aP,xa,sa,cP,c6,c4,0,by rw [hn.out],⟨rfl,rfl⟩,fun W hW=>hm6.out _ (hA6.trans (hW.mono fun k e=>hl5.out k e)),fun W hW=>hm4.out _ (hA4.trans (hW.mono fun k e=>hl3.out k e)),hc6,hc4,htg2.out.2,hfin⟩
end Go.Proofs.YtiniigadkknboaaGreatDoor
