/- Contracts and laws: FAT. -/
import Derived.Test.YtiniigadkknboaaGreatDoorFAS
import Derived.Test.YtiniigadkknboaaGreatDoorFAR
import Derived.Test.YtiniigadkknboaaGreatDoorFAC

set_option maxRecDepth 100000
set_option maxHeartbeats 8000000
namespace Go.Proofs.YtiniigadkknboaaGreatDoor
open Go.RowKit Go.Lib
theorem T7 {x p:Int} (h:p≠0):0≤x.fmod p * p:=by
 rcases Dh h with h | h
 ·have h1:x.fmod p=-((-x).fmod (-p)):=by rw [Int.neg_fmod_neg]; omega
  have h2:=C5 (-x) (show 0 < -p by omega)
  have h3:=BN h2 (show 0≤-p by omega)
  have:x.fmod p * p=(-x).fmod (-p) * -p:=by rw [h1]; grind
  omega
 ·exact BN (C5 x h) (by omega)
theorem K5 {x p:Int} (h:p≠0) (hs:0≤x * p):(x.fdiv p).natAbs * p.natAbs≤x.natAbs:=by
 have h1:∀ y q:Int,0 < q→0≤y→(y.fdiv q).natAbs * q.natAbs≤y.natAbs:=fun y q hq hy=>by
  have e:=Hj y q
  have h2:=C5 y hq
  have h3:=Int.fdiv_nonneg hy (show 0≤q by omega)
  have h4:((y.fdiv q).natAbs * q.natAbs:Int)=q * y.fdiv q:=by
   rw [CT h3,CT (by omega),Ed]
  have h5:(((y.fdiv q).natAbs * q.natAbs:Nat):Int)≤(y.natAbs:Int):=by
   rw [AQ,h4,CT hy]; omega
  exact Aas.1 h5
 rcases Dh h with h | h
 ·have hx:x≤0:=At fun h9=>by
   have:=J8 (show 0 < x by omega) h
   omega
  have:=h1 (-x) (-p) (by omega) (by omega)
  rw [Int.neg_fdiv_neg,DL,DL] at this
  exact this
 ·have hx:0≤x:=At fun h9=>by
   have:=J9 (show x < 0 by omega) h
   omega
  exact h1 x p h hx
theorem YZ {K p r:Nat} (hK:1≤K) (hp:p≤K) (hr:r≤K):(K+K * K) * p * p * r≤2 * (K * K * K * K * K):=by
 have h1:K+K * K≤2 * (K * K):=by have:=A6 K hK; omega
 have:=Az (Az (Az h1 hp) hp) hr
 have e:2 * (K * K) * K * K * K=2 * (K * K * K * K * K):=by grind
 omega
theorem YY {W W' a p u r M:Nat} (h:W * a * a * u≤M) (hp:W' * p≤2 * (a * W)) (hpu:p≤u) (hr:2 * r≤a):W' * p * p * r≤M:=by
 have h1:=Az (Az hp hpu) (Ah r)
 have e1:2 * (a * W) * u * r=a * W * u * (2 * r):=by grind
 have h2:=A7 (a * W * u) hr
 have e2:a * W * u * a=W * a * a * u:=by grind
 omega
structure Cg (n c t m K:Nat) (g:List (List Int)):Prop where
 rect:Bq n g
 len:g.length=m
 top:∀ i,i < t→∀ k,(Aw g i k).natAbs≤K
 act:(∀ i,t≤i→i < m→∀ k,(Aw g i k).natAbs≤K)∨∃ W u:Nat,(∀ i,t≤i→i < m→∀ k,(Aw g i k).natAbs≤W)∧Aw g t c≠0∧(∀ i,t < i→i < m→(Aw g i c).natAbs < (Aw g t c).natAbs∧0≤Aw g i c * Aw g t c)∧(∃ i,t < i∧i < m∧Aw g i c≠0∧(Aw g i c).natAbs=u)∧W * (Aw g t c).natAbs * (Aw g t c).natAbs * u≤2 * (K * K * K * K * K)
theorem Cg.bd {n c t m K:Nat} {g:List (List Int)} (h:Cg n c t m K g) (hK:1≤K):∃ W,K≤W∧W≤2 * (K * K * K * K * K)∧∀ i,i < m→∀ k,(Aw g i k).natAbs≤W:=by
 have hk:K≤2 * (K * K * K * K * K):=by
  have h2:=Az hK hK
  have h3:=Az (Az h2 hK) hK
  have:=A6 K h3
  have e:K * K * K * K * K=K * K * (K * K) * K:=by grind
  have e2:1 * 1 * 1 * 1 * K=K:=by omega
  omega
 rcases h.act with ha | ⟨W,u,hW,h0,hc,⟨i0,a0,b0,n0,rfl⟩,hM⟩
 ·exact ⟨K,Ah _,hk,fun i hi k=>by
   by_cases e:i < t
   ·exact h.top i e k
   ·exact ha i (by omega) hi k⟩
 ·have h1:1≤(Aw g t c).natAbs:=by omega
  have h2:1≤(Aw g i0 c).natAbs:=by omega
  have h3:=Az (Az (Az (Ah W) h1) h1) h2
  refine ⟨max K W,Nat.le_max_left _ _,Nat.max_le.2 ⟨hk,by omega⟩,fun i hi k=>?_⟩
  by_cases e:i < t
  ·exact Ar (h.top i e k) (Nat.le_max_left _ _)
  ·exact Ar (hW i (by omega) hi k) (Nat.le_max_right _ _)
theorem NV {m B:Nat} {g:List (List Int)} {c:Nat} (hl:g.length=m) (hB:B < Kb) (h:∀ i,i < m→(Aw g i c).natAbs≤B):Ij g c=true:=Ug fun i hi=>A8 (h i (by omega)) hB
theorem XG {n c t m K k:Nat} {g:List (List Int)} (ht:t < m) (hK:1≤K) (hZ:4 * (K * K * K * K * K * K) < Kb) (h:Cg n c t m K g) (hk1:t≤k) (hk2:k < m) (hp:Cr g c t (m - t)=some k) :
 ∃ g2,B9 (Ep g t k) c t (t+1) (m - (t+1))=some g2∧Bq n g2∧g2.length=m∧(∀ i,i < t→∀ q,(Aw g2 i q).natAbs≤K)∧(∀ q,(Aw g2 t q).natAbs≤2 * (K * K * K * K * K))∧(∀ i,t≤i→i < m→∀ q,(Aw g2 i q).natAbs≤4 * (K * K * K * K * K))∧((∃ i,t < i∧i < m∧Aw g2 i c≠0)→Cg n c t m K g2):=by
 obtain ⟨W,hKW,hWM,hW⟩:=h.bd hK
 have hle6:4 * (K * K * K * K * K)≤4 * (K * K * K * K * K * K):=A7 4 (by have:=A7 (K * K * K * K * K) hK; omega)
 generalize hM5:K * K * K * K * K=M5 at *
 obtain ⟨p0,pl⟩:=E8 hp
 have hr1:Bq n (Ep g t k):=H3 h.rect
 have hl1:(Ep g t k).length=m:=by rw [Hr]; exact h.len
 have hs:=fun r q=>LF (g:=g) (i:=t) (j:=k) (by rw [h.len]; exact ht) (by rw [h.len]; exact hk2) r q
 have htq:∀ q,Aw (Ep g t k) t q=Aw g k q:=fun q=>by
  rw [hs]
  by_cases e:t=k
  ·rw [Ai e,e]
  ·rw [Ae e,Ai rfl]
 have hsW:∀ i,i < m→∀ q,(Aw (Ep g t k) i q).natAbs≤W:=fun i hi q=>by
  rw [hs]
  split
  ·exact hW t ht q
  ·split
   ·exact hW k hk2 q
   ·exact hW i hi q
 have hWb:W < Kb:=by omega
 have hc0:Aw (Ep g t k) t c≠0:=by rw [htq]; exact p0
 have hqW:∀ i,i < m→(MW (Ep g t k) c t i).natAbs≤W:=fun i hi=>Ar (LE hc0) (hsW i hi c)
 obtain ⟨g2,he⟩:=IE (s:=t+1) hr1 (by omega) hc0 (GH (A8 (hsW t ht c) hWb)) (m - (t+1)) (by omega) (.inl (by omega)) (fun i a b=>⟨GH (A8 (hsW i (by omega) c) hWb),fun _ q=>Ro (A8 (hqW i (by omega)) hWb) (A8 (hsW t ht q) hWb) (A8 (hsW i (by omega) q) hWb)⟩)
 have hent:=Em hr1 (by omega) _ g2 he (by omega) (.inl (by omega))
 obtain ⟨hr2,hl2⟩:=Cl hr1 _ g2 he (by omega)
 have e1:∀ i,i < t+1→∀ q,Aw g2 i q=Aw (Ep g t k) i q:=fun i hi q=>by rw [hent,Ae (by omega)]
 have e2:∀ i,t < i→i < m→∀ q,Aw g2 i q=Aw (Ep g t k) i q - MW (Ep g t k) c t i * Aw (Ep g t k) t q:=fun i a b q=>by rw [hent,Ai (by omega)]
 have e3:∀ i,t < i→i < m→Aw g2 i c=(Aw (Ep g t k) i c).fmod (Aw g k c):=fun i a b=>by
  rw [e2 i a b]; unfold MW; rw [Jv,htq]
 have etc:Aw g2 t c=Aw g k c:=by rw [e1 t (by omega),htq]
 have htop:∀ i,i < t→∀ q,(Aw g2 i q).natAbs≤K:=fun i hi q=>by
  rw [e1 i (by omega),hs,Ae (by omega),Ae (by omega)]; exact h.top i hi q
 have hrowt:∀ q,(Aw g2 t q).natAbs≤W:=fun q=>by rw [e1 t (by omega)]; exact hsW t ht q
 have hcol:∀ i,t < i→i < m→(Aw g2 i c).natAbs < (Aw g2 t c).natAbs∧0≤Aw g2 i c * Aw g2 t c:=fun i a b=>by
  rw [e3 i a b,etc]; exact ⟨SU p0,T7 p0⟩
 suffices hsuf:∃ W',(∀ i,t≤i→i < m→∀ q,(Aw g2 i q).natAbs≤W')∧W'≤4 * M5∧((∃ i,t < i∧i < m∧Aw g2 i c≠0)→∃ i,t < i∧i < m∧Aw g2 i c≠0∧W' * (Aw g2 t c).natAbs * (Aw g2 t c).natAbs * (Aw g2 i c).natAbs≤2 * M5) by
  obtain ⟨W',k1,k2,k3⟩:=hsuf
  refine ⟨g2,he,hr2,by omega,htop,fun q=>Ar (hrowt q) hWM,fun i a b q=>Ar (k1 i a b q) k2,fun hx=>?_⟩
  obtain ⟨i,a,b,n0,hb⟩:=k3 hx
  exact ⟨hr2,by omega,htop,.inr ⟨W',_,k1,by rw [etc]; exact p0,hcol,⟨i,a,b,n0,rfl⟩,by rw [hM5]; exact hb⟩⟩
 rcases h.act with ha | ⟨W0,u,hW0,h0,hc,⟨i0,a0,b0,n0,hu⟩,hM⟩
 ·-- every entry is small
  have hsK:∀ i,t≤i→i < m→∀ q,(Aw (Ep g t k) i q).natAbs≤K:=fun i a b q=>by
   rw [hs]
   split
   ·exact ha t (Ah _) ht q
   ·split
    ·exact ha k hk1 hk2 q
    ·exact ha i a b q
  have hKK:K≤K * K:=by have:=A6 K hK; omega
  refine ⟨K+K * K,fun i a b q=>?_, ?_,fun ⟨i,a,b,hn⟩=>⟨i,a,b,hn, ?_⟩⟩
  ·by_cases e:i=t
   ·rw [e,e1 t (by omega)]; have:=hsK t (Ah _) ht q; omega
   ·rw [e2 i (by omega) b]
    exact JY (hsK i a b q) (Ar (LE hc0) (hsK i a b c)) (hsK t (Ah _) ht q)
  ·have h3:=Az (Az (Az (Ah (K * K)) hK) hK) hK
   omega
  ·have:=YZ hK (show (Aw g2 t c).natAbs≤K by rw [e1 t (by omega)]; exact hsK t (Ah _) ht c) (r:=(Aw g2 i c).natAbs) (by
    have:=(hcol i a b).1
    have h9:=hsK t (Ah _) ht c
    rw [← e1 t (by omega)] at h9
    omega)
   omega
 ·-- later
  have hpu:(Aw g k c).natAbs≤u:=by rw [← hu]; exact pl i0 (by omega) (by omega) n0
  have hi0:=(hc i0 a0 b0).1
  have hkt:t < k:=At fun h9=>by
   have e:k=t:=by omega
   rw [e] at hpu; omega
  have hsg:∀ i,t≤i→i < m→0≤Aw g i c * Aw g k c∧(Aw g i c).natAbs≤(Aw g t c).natAbs:=fun i a b=>by
   have h1:=(hc k hkt hk2).2
   by_cases e:i=t
   ·rw [e,Ed]; exact ⟨h1,Ah _⟩
   ·have h2:=hc i (by omega) b
    refine ⟨?_,by omega⟩
    rcases Dh h0 with hn | hn
    ·have q1:Aw g i c≤0:=At fun h9=>by have:=J8 (show 0 < Aw g i c by omega) hn; omega
     have q2:Aw g k c≤0:=At fun h9=>by have:=J8 (show 0 < Aw g k c by omega) hn; omega
     exact Gl q1 q2
    ·have q1:0≤Aw g i c:=At fun h9=>by have:=J9 (show Aw g i c < 0 by omega) hn; omega
     have q2:0≤Aw g k c:=At fun h9=>by have:=J9 (show Aw g k c < 0 by omega) hn; omega
     exact BN q1 q2
  generalize hA:(Aw g t c).natAbs=A at *
  have hss:∀ i,t≤i→i < m→0≤Aw (Ep g t k) i c * Aw g k c∧(Aw (Ep g t k) i c).natAbs≤A:=fun i a b=>by
   rw [hs]
   split
   ·exact hsg t (Ah _) ht
   ·split
    ·exact hsg k hk1 hk2
    ·exact hsg i a b
  have hsW0:∀ i,t≤i→i < m→∀ q,(Aw (Ep g t k) i q).natAbs≤W0:=fun i a b q=>by
   rw [hs]
   split
   ·exact hW0 t (Ah _) ht q
   ·split
    ·exact hW0 k hk1 hk2 q
    ·exact hW0 i a b q
  have hP:(Aw g2 t c).natAbs=(Aw g k c).natAbs:=by rw [etc]
  have hP1:1≤(Aw g k c).natAbs:=by omega
  have hPA:(Aw g k c).natAbs≤A:=by omega
  have hq:∀ i,t≤i→i < m→(MW (Ep g t k) c t i).natAbs≤A / (Aw g k c).natAbs:=fun i a b=>by
   rw [Hh (by omega)]
   have:=K5 p0 (hss i a b).1
   unfold MW
   rw [htq]
   have h9:=(hss i a b).2
   omega
  have hWp:(W0+A / (Aw g k c).natAbs * W0) * (Aw g k c).natAbs≤2 * (A * W0):=by
   have q1:=IH A (Aw g k c).natAbs
   have q2:=A7 W0 hPA
   have q3:=A7 W0 q1
   have e9:(W0+A / (Aw g k c).natAbs * W0) * (Aw g k c).natAbs=W0 * (Aw g k c).natAbs+W0 * (A / (Aw g k c).natAbs * (Aw g k c).natAbs):=by grind
   have e8:A * W0=W0 * A:=CL _ _
   omega
  refine ⟨W0+A / (Aw g k c).natAbs * W0,fun i a b q=>?_, ?_,fun ⟨i,a,b,hn⟩=>?_⟩
  ·by_cases e:i=t
   ·rw [e,e1 t (by omega)]; have:=hsW0 t (Ah _) ht q; omega
   ·rw [e2 i (by omega) b]
    exact JY (hsW0 i a b q) (hq i a b) (hsW0 t (Ah _) ht q)
  ·have hA1:1≤A:=by omega
   have hu1:1≤u:=by omega
   have q1:=A7 (W0+A / (Aw g k c).natAbs * W0) hP1
   have q2:=Az (Az (Ah (W0 * A)) hA1) hu1
   have e8:A * W0=W0 * A:=CL _ _
   omega
  ·rw [hP]
   have key:∀ j,t < j→j < m→Aw g2 j c≠0→2 * (Aw g2 j c).natAbs≤A→∃ i,t < i∧i < m∧Aw g2 i c≠0∧(W0+A / (Aw g k c).natAbs * W0) * (Aw g k c).natAbs * (Aw g k c).natAbs * (Aw g2 i c).natAbs≤2 * M5:=fun j q1 q2 q3 q4=>⟨j,q1,q2,q3,YY (by rw [← hM5]; exact hM) hWp hpu q4⟩
   have hko:Aw (Ep g t k) k c=Aw g t c:=by rw [hs,Ai rfl]
   have hdm:=Hj (Aw g t c) (Aw g k c)
   have hq9:=K5 p0 (hsg t (Ah _) ht).1
   rw [hA] at hq9
   have hk9:=e3 k hkt hk2
   rw [hko] at hk9
   by_cases hz:Aw g2 k c=0
   ·-- the pivot divides the old one
    refine key i a b hn ?_
    have h9:=(hcol i a b).1
    rw [hP] at h9
    rw [← hk9,hz,Dl] at hdm
    have h8:A=(Aw g k c).natAbs * ((Aw g t c).fdiv (Aw g k c)).natAbs:=by rw [← hA,← AZ,hdm]
    have h7:(Aw g k c).natAbs < A:=by omega
    have h6:2≤((Aw g t c).fdiv (Aw g k c)).natAbs:=At fun h5=>by
     have:((Aw g t c).fdiv (Aw g k c)).natAbs≤1:=by omega
     have:=A7 (Aw g k c).natAbs this
     omega
    have:=A7 (Aw g k c).natAbs h6
    omega
   ·refine key k hkt hk2 hz ?_
    have h9:=(hcol k hkt hk2).1
    rw [hP] at h9
    -- the old pivot is at least the new one more than its remainder
    have hsum:A=(Aw g k c).natAbs * ((Aw g t c).fdiv (Aw g k c)).natAbs+(Aw g2 k c).natAbs:=by
     have hsgn:=(hsg t (Ah _) ht).1
     rw [← hk9] at hdm
     have hs2:=(hcol k hkt hk2).2
     rw [etc] at hs2
     rw [← hA]
     have q1:((Aw g t c).natAbs:Int) * (Aw g k c).natAbs=Aw g t c * Aw g k c:=by rw [← AQ,← AZ]; exact CT hsgn
     have q2:((Aw g2 k c).natAbs:Int) * (Aw g k c).natAbs=Aw g2 k c * Aw g k c:=by rw [← AQ,← AZ]; exact CT hs2
     have q3:0≤(Aw g t c).fdiv (Aw g k c):=At fun h5=>by
      have h6:(Aw g t c).fdiv (Aw g k c)≤-1:=by omega
      have q4:0≤Aw g k c * Aw g k c:=(by rcases Int.le_total 0 (Aw g k c) with h | h; exact BN h h; exact Gl h h)
      have q5:Aw g t c * Aw g k c=(Aw g k c * Aw g k c) * (Aw g t c).fdiv (Aw g k c)+Aw g2 k c * Aw g k c:=by
       have:(Aw g k c * (Aw g t c).fdiv (Aw g k c)+Aw g2 k c) * Aw g k c=Aw g t c * Aw g k c:=by rw [hdm]
       grind
      have q6:((Aw g k c).natAbs:Int) * (Aw g k c).natAbs=Aw g k c * Aw g k c:=by rw [← AQ,← AZ]; exact CT q4
      have q7:((Aw g2 k c).natAbs:Int) * (Aw g k c).natAbs < ((Aw g k c).natAbs:Int) * (Aw g k c).natAbs:=Int.mul_lt_mul_of_pos_right (by omega) (by omega)
      have q8:=WY h6 q4
      omega
     have q9:(((Aw g t c).fdiv (Aw g k c)).natAbs:Int)=(Aw g t c).fdiv (Aw g k c):=CT q3
     have qa:((Aw g t c).natAbs:Int) * (Aw g k c).natAbs=((Aw g k c).natAbs * ((Aw g t c).fdiv (Aw g k c)).natAbs+(Aw g2 k c).natAbs:Int) * (Aw g k c).natAbs:=by
      have q4:0≤Aw g k c * Aw g k c:=(by rcases Int.le_total 0 (Aw g k c) with h | h; exact BN h h; exact Gl h h)
      have q6:((Aw g k c).natAbs:Int) * (Aw g k c).natAbs=Aw g k c * Aw g k c:=by rw [← AQ,← AZ]; exact CT q4
      have q5:(Aw g k c * (Aw g t c).fdiv (Aw g k c)+Aw g2 k c) * Aw g k c=Aw g t c * Aw g k c:=by rw [hdm]
      rw [q1,q9,WZ,q2,← q5]
      grind
     have qb:=Int.eq_of_mul_eq_mul_right (show ((Aw g k c).natAbs:Int)≠0 by omega) qa
     have qc:((Aw g t c).natAbs:Int)=(((Aw g k c).natAbs * ((Aw g t c).fdiv (Aw g k c)).natAbs+(Aw g2 k c).natAbs:Nat):Int):=by rw [qb,C8,AQ]
     exact Int.ofNat_inj.1 qc
    have h5:1≤((Aw g t c).fdiv (Aw g k c)).natAbs:=At fun h4=>by
     have e0:((Aw g t c).fdiv (Aw g k c)).natAbs=0:=by omega
     rw [e0,Nat.mul_zero] at hsum
     omega
    have:=A7 (Aw g k c).natAbs h5
    omega
theorem V7 {n c t m K F:Nat} {g:List (List Int)} (hr:Bq n g) (hl:g.length=m) (ht:t < m) (hK:1≤K) (hZ:4 * (K * K * K * K * K * K) < Kb) (hF:K < F) (hb:∀ i,i < m→∀ k,(Aw g i k).natAbs≤K) :
 ∃ g3 t',Fq F g c t=some (g3,t')∧(t'=t∧g3=g∨t'=t+1∧∀ i,i < m→∀ k,(Aw g3 i k).natAbs≤4 * (K * K * K * K * K * K)):=by
 have hle6:4 * (K * K * K * K * K)≤4 * (K * K * K * K * K * K):=A7 4 (by have:=A7 (K * K * K * K * K) hK; omega)
 have hK1:K≤K * K * K * K * K * K:=by
  have h2:=Az (Az (Az (Az (Az (Ah K) hK) hK) hK) hK) hK
  omega
 have e6:K * (2 * (K * K * K * K * K))=2 * (K * K * K * K * K * K):=by grind
 by_cases hz:∀ i,t≤i→i < m→Aw g i c=0
 ·cases F with
  | zero=>omega
  | succ F=>exact ⟨g,t,NS (NV (B:=K) hl (by omega) fun i hi=>hb i hi c) (fun i a b=>hz i a (by omega)),.inl ⟨rfl,rfl⟩⟩
 ·have hx:∃ i,t≤i∧i < m∧Aw g i c≠0∧(Aw g i c).natAbs < F:=At fun h9=>hz fun i a b=>At fun h8=>h9 ⟨i,a,b,h8,by have:=hb i b c; omega⟩
  obtain ⟨g3,h1,h2⟩:=Qk (n:=n) (c:=c) (t:=t) (m:=m) (P:=Cg n c t m K) (Q:=fun g3=>∀ i,i < m→∀ k,(Aw g3 i k).natAbs≤4 * (K * K * K * K * K * K)) ht (fun g1 h=>by
   obtain ⟨W,_,k2,k3⟩:=h.bd hK
   exact ⟨h.rect,h.len,NV h.len (B:=W) (by omega) fun i hi=>k3 i hi c⟩) (fun g1 k h hk1 hk2 hp=>by
   obtain ⟨g2,a1,a2,a3,a4,a5,a6,a7⟩:=XG ht hK hZ h hk1 hk2 hp
   refine ⟨g2,a1,a7,fun _ h0=>⟨GH (A8 (a5 c) (by omega)), ?_⟩⟩
   obtain ⟨g3,b1,b2,b3⟩:=Xy (T:=K) (V:=2 * (K * K * K * K * K)) a2 (by omega) h0 (by omega) (by omega) a4 a5
   refine ⟨g3,b1,fun i hi q=>?_⟩
   by_cases e:i < t
   ·have:=b2 i e q; rw [e6] at this; omega
   ·rw [b3 i (by omega)]; have:=a6 i (by omega) hi q; omega) F g ⟨hr,hl,fun i hi k=>hb i (by omega) k,.inl fun i _ b k=>hb i b k⟩ hx
  exact ⟨g3,t+1,h1,.inr ⟨rfl,h2⟩⟩
def Mk:Nat→Nat→Nat
 | 0,K=>K
 | j+1,K=>Mk j (4 * (K * K * K * K * K * K))
theorem Ru {K:Nat} (hK:1≤K):K≤4 * (K * K * K * K * K * K):=by
 have h2:=Az (Az (Az (Az (Az (Ah K) hK) hK) hK) hK) hK
 omega
theorem I5:∀ (j K:Nat),1≤K→K≤Mk j K
 | 0,_,_=>Ah _
 | j+1,K,hK=>by have h:=Ru hK; exact Ar h (I5 j _ (by omega))
theorem IC {n F m:Nat}:∀ (N c t K:Nat) (g:List (List Int)),Bq n g→g.length=m→1≤K→Mk (m - t) K < Kb→Mk (m - t) K < F→(∀ i,i < m→∀ k,(Aw g i k).natAbs≤K)→∃ gF tF,CY F N c g t=some (gF,tF)∧∀ i,i < m→∀ k,(Aw gF i k).natAbs≤Mk (m - t) K
 | 0,c,t,K,g,hr,hl,hK,hZ,hF,hb=>⟨g,t,rfl,fun i hi k=>Ar (hb i hi k) (I5 _ _ hK)⟩
 | N+1,c,t,K,g,hr,hl,hK,hZ,hF,hb=>by
   rw [CY]
   by_cases ht:t < g.length
   ·rw [Ai ht]
    obtain ⟨j,hj⟩:∃ j,m - t=j+1:=⟨m - t - 1,by omega⟩
    have h6:=Ru hK
    have h7:=I5 j (4 * (K * K * K * K * K * K)) (by omega)
    have hZ2:Mk j (4 * (K * K * K * K * K * K)) < Kb:=by rw [hj] at hZ; exact hZ
    have hF2:Mk j (4 * (K * K * K * K * K * K)) < F:=by rw [hj] at hF; exact hF
    obtain ⟨g3,t',h1,h2⟩:=V7 (c:=c) hr hl (hl ▸ ht) hK (by clear hF hF2 hZ; omega) (F:=F) (by clear hZ hZ2 hF; omega) hb
    rw [h1]
    show ∃ gF tF,CY F N (c+1) g3 t'=some (gF,tF)∧_
    rcases h2 with ⟨rfl,rfl⟩ | ⟨rfl,h2⟩
    ·exact IC N (c+1) t' K g3 hr hl hK hZ hF hb
    ·obtain ⟨-,hr3,hl3,-⟩:=LT F g g3 (t+1) hr ht h1
     obtain ⟨gF,tF,k1,k2⟩:=IC N (c+1) (t+1) (4 * (K * K * K * K * K * K)) g3 hr3 (by omega) (by omega) (by rw [show m - (t+1)=j by omega]; exact hZ2) (by rw [show m - (t+1)=j by omega]; exact hF2) h2
     refine ⟨gF,tF,k1,fun i hi k=>?_⟩
     have:=k2 i hi k
     rw [show m - (t+1)=j by omega] at this
     rw [hj]; exact this
   ·rw [Ae ht]
    exact ⟨g,t,rfl,fun i hi k=>Ar (hb i hi k) (I5 _ _ hK)⟩
def Zq:Nat→Nat→Nat
 | 0,d=>d
 | j+1,d=>Zq j (6 * d+1)
theorem Rz:∀ (j d K:Nat),K≤10 ^ d→Mk j K≤10 ^ Zq j d
 | 0,_,_,h=>h
 | j+1,d,K,h=>by
   refine Rz j (6 * d+1) _ ?_
   have h2:=Az (Az (Az (Az (Az h h) h) h) h) h
   have e:(10:Nat) ^ d * 10 ^ d * 10 ^ d * 10 ^ d * 10 ^ d * 10 ^ d=10 ^ (6 * d):=by
    rw [← Dn,← Dn,← Dn,← Dn,← Dn]; congr 1; omega
   rw [Bl]
   omega
theorem Mj:∀ (j:Nat) {K L:Nat},K≤L→Mk j K≤Mk j L
 | 0,_,_,h=>h
 | j+1,_,_,h=>Mj j (A7 4 (Az (Az (Az (Az (Az h h) h) h) h) h))
theorem Oy {i j K:Nat} (hK:1≤K) (h:i≤j):Mk i K≤Mk j K:=by
 induction j generalizing i K with
 | zero=>obtain rfl:i=0:=by omega
         exact Ah _
 | succ j ih=>
   cases i with
   | zero=>exact I5 _ _ hK
   | succ i=>exact ih (K:=4 * (K * K * K * K * K * K)) (by have:=Ru hK; omega) (by omega)
theorem V4 {d:Nat} (h:d < KC):(10:Nat) ^ d < Kb:=Nat.pow_lt_pow_right (by decide) h
attribute [local go_sem ↓] Go.wp_at_zero Go.wp_at_succ
theorem MN (xs:List Int) (a:Option Addr) (cap:Nat) (g:Nat) (lb:Array Value) (p:Int→Bool) (w:World)
 (eg:∀ args w,(callFunc g args).run Tryz.prog w=.ok (.enter g args) w) (hx:El w sv a xs) (hl:xs.length≤1000000000) (hp:J2 w g lb sv p xs) :
 Calls Tryz.prog 114 #[.slice a xs.length cap,.func (.func g) #[] lb] w fun e w'=>e=.returned (.int .i64 (Pb p xs))∧Fr w w':=by
 go_enter Tryz.func114,Tryz.ntmps114
 go_wp2
 go_loopw [5,8] (fun _ s8 wr=>∃ k:Nat,s8=.int .i64 k∧k≤xs.length∧Fr w wr∧Hid (∀ j x,j < k→xs[j]?=some x→p x=false)) (fun _ s8 _=>xs.length - (RowKit.intOf s8).toNat)
 case atStart=>exact ⟨0,rfl,Cp _,Fr.refl _,fun j x h=>absurd h (A3 _)⟩
 case round=>
  obtain ⟨k,rfl,hk,hf,hb⟩:=hrel
  by_cases hlt:k < xs.length
  ·obtain ⟨b,o,x,rfl,hbl,hxk,hcell⟩:=(hx.fr hf).at hlt
   have hpx:=hp x wr (Af hxk) hf
   have hxk:=hZ hxk
   go_wp2_with fail
   refine hpx.mono ?_
   rintro e w1 ⟨rfl,hf1⟩
   go_wp2_with fail
   ·have hpt:p x=true:=by assumption
    go_ret
    exact ⟨CC (IA hb.out hxk.out hpt).symm,hf.trans hf1⟩
   ·have hpf:p x=false:=by assumption
    go_roundw
    case rel=>exact ⟨k+1,by go_num,by omega,hf.trans hf1,JN hb.out hxk.out hpf⟩
    case measure=>simp [RowKit.intOf]; omega
  ·go_wp2_with fail
   go_ret
   exact ⟨CC (JO (by rw [show xs.length=k by omega]; exact hb.out)).symm,hf⟩
theorem PY (w:World) (xs:List Int):J2 w 115 #[] sv (fun x=>x != 0) xs:=fun x W _ _=>by
 show Calls Tryz.prog 115 #[.string (tx x)] W fun e W'=>e=.returned (.bool (x != 0))∧Fr W W'
 have hb:=B8 x
 have e:(x != 0)=!(decide (x=0)):=by by_cases h:x=0 <;> simp [h]
 rw [e,← hb]
 clear e hb
 go_enter Tryz.func115,Tryz.ntmps115
 go_wp2_with fail
 go_ret
 exact ⟨rfl,Fr.refl _⟩
def FG (xs:List Int):Int:=Pb (fun x=>x != 0) xs
theorem Ks (xs:List Int) (a:Option Addr) (cap:Nat) (w:World) (hx:El w sv a xs) (hl:xs.length≤1000000000) :
 Calls Tryz.prog 73 #[.slice a xs.length cap] w fun e w'=>e=.returned (.int .i64 (FG xs))∧Fr w w':=by
 have eg:∀ args w,(callFunc 115 args).run Tryz.prog w=.ok (.enter 115 args) w:=D2 Tryz.func115 (by kernel_rfl) rfl
 have hc:=MN xs a cap 115 #[] (fun x=>x != 0) w eg hx hl (PY w xs)
 replace eg:=hZ eg
 go_enter Tryz.func73,Tryz.ntmps73
 go_wp2_with fail
 refine hc.mono ?_
 rintro e w' ⟨rfl,hf⟩
 go_wp2_with fail
 go_ret
 exact ⟨rfl,hf⟩
def Et (n:Nat) (g:List (List Int)):List (List Int):=(g.filter (fun l=>decide ((n:Int)≤FG l))).map (·.drop n)
theorem TU (n:Nat) (g:List (List Int)) (l:List Int):Et n (g ++ [l])=Et n g ++ if (n:Int)≤FG l then [l.drop n] else []:=by
 unfold Et
 rw [Sc,AD]
 by_cases h:(n:Int)≤FG l <;> simp [h]
theorem NF {n n1:Nat} {g:List (List Int)} (h:Bq n1 g) (t:Nat):Bq (n1 - n) (Et n (g.take t)):=fun r hr=>by
 unfold Et at hr
 obtain ⟨l,hl,rfl⟩:=Cb.1 hr
 rw [CS,h l (BW (List.mem_filter.1 hl).1)]
theorem SR (n t:Nat) (g:List (List Int)):(Et n (g.take t)).length≤t:=by
 unfold Et; rw [AE]; exact Ar (Ni _ _) (by rw [Av]; omega)
def LG (w:World) (B:Nat) (v:Value) (g:List (List Int)):Prop :=
 (v=.slice none 0 0∧g=[])∨∃ ob oc hs gF tF,v=.slice (some ⟨ob,0,none⟩) tF oc∧Bx w ob 0 hs gF∧tF≤gF.length∧tF≤oc∧g=gF.take tF∧∀ k,gb ob hs k→B≤k
def IL (w:World) (a:Option Addr) (m:List (List Int)):Prop :=
 m=[]∨∃ b o,a=some ⟨b,o,none⟩∧b < w.heap.size∧∀ (i:Nat) (xs:List Int),m[i]?=some xs→∃ a' c',w.cell? ⟨b,o+i,none⟩=some (.slice a' xs.length c')∧El w sv a' xs
theorem IL.fr {w w':World} {a:Option Addr} {m:List (List Int)} (h:IL w a m) (k:Fr w w'):IL w' a m:=by
 rcases h with h | ⟨b,o,ha,hb,hc⟩
 ·exact .inl h
 ·refine .inr ⟨b,o,ha,An hb k.size,fun i xs hx=>?_⟩
  obtain ⟨a',c',h1,h2⟩:=hc i xs hx
  exact ⟨a',c',k.keep h1,h2.fr k⟩
theorem IL.at {w:World} {a:Option Addr} {m:List (List Int)} (h:IL w a m) {i:Nat} (hi:i < m.length) :
 ∃ b o a' c',a=some ⟨b,o,none⟩∧w.cell? ⟨b,o+i,none⟩=some (.slice a' (m[i]).length c')∧El w sv a' m[i]:=by
 rcases h with h | ⟨b,o,ha,hb,hc⟩
 ·subst h; simp at hi
 ·obtain ⟨a',c',h1,h2⟩:=hc i _ (Ac hi)
  exact ⟨b,o,a',c',ha,h1,h2⟩
theorem Bx.mats {w:World} {ob oo:Nat} {hs:List (Nat×Nat×Nat)} {g:List (List Int)} (h:Bx w ob oo hs g) (t:Nat):IL w (some ⟨ob,oo,none⟩) (g.take t) :=
 .inr ⟨ob,oo,rfl,h.outer,fun i xs hx=>by
  rw [Bf] at hx
  split at hx
  ·have hi:i < g.length:=(Ag.1 hx).1
   obtain ⟨b,o,c,h1,h2,-,h3,-⟩:=h.at hi
   rw [Ac hi] at hx
   injection hx with hx
   rw [← hx]
   exact ⟨_,_,h2,h3.el⟩
  ·cases hx⟩
theorem LG.mats {w:World} {B:Nat} {v:Value} {g:List (List Int)} (h:LG w B v g):∃ a c,v=.slice a g.length c∧IL w a g:=by
 rcases h with ⟨rfl,rfl⟩ | ⟨ob,oc,hs,gF,tF,rfl,hg,h2,-,rfl,-⟩
 ·exact ⟨none,0,rfl,.inl rfl⟩
 ·exact ⟨_,oc,by rw [Av,DA h2],hg.mats tF⟩
def ZX (w:World) (B:Nat) (g:List (List Int)) (e:Ending) (w':World):Prop:=∃ v,e=.returned v∧LG w' B v g∧Fx (fun k=>B≤k) w w'
theorem NI {F c:Nat} {g:List (List Int)} {t:Nat}:∀ n,CY F n c [] 0=some (g,t)→g.take t=[]
 | 0,h=>by rw [CY] at h; injection h with h; injection h with h1 h2; subst h1; exact Q0
 | n+1,h=>by rw [CY,Ae (by simp)] at h; injection h with h; injection h with h1 h2; subst h1; exact Q0
theorem RK (B ob oc tF n cols n1 F tK:Nat) (hs:List (Nat×Nat×Nat)) (g gK:List (List Int)) (w:World) (hG:G w) (hg:Bx w ob 0 hs g) (hr:Bq n1 g) (hn:n+cols=n1) (hcs:1≤cols) (hn1:n1≤1000000) (hl:g.length≤1000000) (ht:tF≤g.length) (hcap:∀ h,h ∈ hs→n1≤h.2.2)
 (hf:CY F cols 0 (Et n (g.take tF)) 0=some (gK,tK)) (hB:∀ k,gb ob hs k→B≤k) (hBw:B≤w.heap.size) :
 Calls Tryz.prog 142 #[.slice (some ⟨ob,0,none⟩) tF oc,.int .i64 n,.int .i64 cols] w (ZX w B (gK.take tK)):=by
 have hgn:=Fe hG
 obtain ⟨i1,ji,jz0,jz1,jz2⟩:=A5 Ml
 have hG1:=hZ hG
 replace hg:=hZ hg
 replace hr:=hZ hr
 replace hcap:=hZ hcap
 replace hf:=hZ hf
 replace hB:=hZ hB
 have hn2:n < n1:=by omega
 clear hG
 go_enter Tryz.func142,Tryz.ntmps142
 go_wp2_with fail
 go_loopg [7,12] tF (fun k s7 WV wr=>∃ (j:Nat) (hO:List (Nat×Nat×Nat)),WV=.int .i64 j∧j+k=tF∧Fr w wr∧GG wr w.heap.size 120 s7 hO (Et n (g.take j))∧Hid (∀ h,h ∈ hO→∃ (i:Nat) (h':Nat×Nat×Nat),i < j∧hs[i]?=some h'∧h'.1=h.1)∧Hid (Et n (g.take j)=[]→s7=.slice none 0 0))
 case atStart=>exact ⟨0,[],rfl,by omega,Fr.refl _,GG.nil _ _ _ hgn,fun h hm=>by simp at hm,fun _=>rfl⟩
 case round=>
  obtain ⟨j,hO,rfl,hjk,hfr,hgg,hfrom,hemp⟩:=hrel
  by_cases hlt:j < tF
  ·have hjl:j < g.length:=by omega
   obtain ⟨b1,o1,k1,e1,ca1,cf1,ro1,bo1⟩:=(hg.out.fr hfr).at hjl
   have hrl:=hr.out.row hjl
   rw [AU] at ca1
   have hsn:=BH (Ac hjl)
   have hk1:=hcap.out _ (Af e1)
   have hlead:=Ks g[j] (some ⟨b1,o1,none⟩) k1
   generalize hgj:g[j]=row at *
   rw [hrl] at ca1 hlead
   have hks:=TU n (g.take j) row
   rw [← hsn] at hks
   replace hgj:=hZ hgj
   replace hsn:=hZ hsn
   replace hfrom:=hZ hfrom
   replace hgg:=hZ hgg
   replace e1:=hZ e1
   replace ro1:=hZ ro1
   replace hrl:=hZ hrl
   have zt:(j:Int) < (tF:Int):=by omega
   by_cases hle:(n:Int)≤FG row
   ·rw [Ai hle] at hks
    have hdl:decide ((n:Int)≤FG row)=true:=Ab hle
    replace hks:=hZ hks
    go_wp2_with fail
    refine (hlead _ ro1.out.el (by omega)).mono ?_
    clear hlead
    rintro e w2 ⟨rfl,hf2⟩
    have hln:(Et n (g.take j)).length≤j:=SR n j g
    have hgg2:=hgg.out.fr hf2
    have hne1:∀ h,h ∈ hO→h.1≠b1:=fun h hm e9=>by
     obtain ⟨i9,h9,hi9,q1,q2⟩:=hfrom.out h hm
     exact hg.out.apart i9 j _ _ q1 e1.out (by omega) (by rw [q2,e9])
    have hbl:b1 < w.heap.size:=(hg.out.row j _ _ e1.out (Ac hjl)).1.2.1
    have hne2:u7.ownBlock≠some b1:=fun e9=>by have:=(hgg2.own.lt b1 e9).1; omega
    obtain ⟨L,hL⟩:∃ L,L=(Et n (g.take j)).length:=⟨_,rfl⟩
    have hown3:=hgg2.own
    rw [← hL] at hown3 hln
    replace hL:=hZ hL
    replace hgg2:=hZ hgg2
    have hnk:¬ k1=n:=by omega
    have hz9:=(hfr.trans hf2).size
    go_wp2_with (at_builtin; refine wpList_append_lies _ rfl _ _ 141 (by rfl) _ 120 _ _ 1 24 Tryz.underlying141 ji jz0 jz1 jz2 rfl (by decide) _ L _ (by rfl) (AA hown3 _) ⟨w2.heap.size,0,none⟩ 1 1 [.slice (some ⟨b1,o1+n,none⟩) (n1 - n) (k1 - n)] (by rfl) rfl (AN _ _ _ _ (by simp)) (by simp [Value.oneCell']) (by decide) (by unfold maxLen; omega) (by omega) (by skip; simp; omega) (w2.heap.size+1) (by simp) ?_; intro gA capA wA hownA hgrowA hatA hltA)
    have hpush:=(hgg2.out.fr ((Fr.refl w2).alloc _)).pushN (hd:=(b1,o1+n,k1 - n)) (xs:=row.drop n) (((ro1.out.drop n).fr hf2).fr ((Fr.refl w2).alloc _)) hne1 hne2 hL.out.symm (by unfold HT; rw [CS,hrl.out]) hownA hgrowA (hatA.imp id (fun e=>by rw [e]; simp))
    rw [← hks.out] at hpush
    have hfrA:Fr w wA:=(((hfr.trans hf2).alloc _)).grown hgrowA (fun k e=>(hgg2.out.own.lt k e).1)
    go_roundg (gk - 1)
    case measure=>omega
    case rel=>
     refine ⟨j+1,_,by go_num,by omega,hfrA,hpush,fun h hm=>?_,fun h=>by rw [hks.out] at h; simp at h⟩
     rcases BK.1 hm with h1 | h1
     ·obtain ⟨i9,h9,hi9,q1,q2⟩:=hfrom.out h h1; exact ⟨i9,h9,by omega,q1,q2⟩
     ·simp at h1; subst h1; exact ⟨j,_,by omega,e1.out,rfl⟩
   ·rw [Ae hle,Cc] at hks
    replace hks:=hZ hks
    have hle2:FG row < (n:Int):=by omega
    have hdl:decide ((n:Int)≤FG row)=false:=Aa hle
    clear hle
    go_wp2_with fail
    refine (hlead _ ro1.out.el (by omega)).mono ?_
    clear hlead
    rintro e w2 ⟨rfl,hf2⟩
    go_wp2_with fail
    go_roundg (gk - 1)
    case measure=>omega
    case rel=>exact ⟨j+1,hO,by go_num,by omega,hfr.trans hf2,by rw [hks.out]; exact hgg.out.fr hf2,fun h hm=>by obtain ⟨i9,h9,hi9,q1,q2⟩:=hfrom.out h hm; exact ⟨i9,h9,by omega,q1,q2⟩,fun h=>hemp.out (by rw [hks.out] at h; exact h)⟩
  ·have hd:decide (j < tF)=false:=Aa hlt
   obtain rfl:j=tF:=by omega
   have hrK:=NF (n:=n) hr.out j
   rw [show n1 - n=cols by omega] at hrK
   have hln:(Et n (g.take j)).length≤j:=SR n j g
   have hGr:=hG1.out.fr hfr
   have hrows:∀ h,h ∈ hO→B≤h.1∧h.1 < w.heap.size:=fun h hm=>by
    obtain ⟨i9,h9,-,q1,q2⟩:=hfrom.out h hm
    have hi9:i9 < g.length:=by rw [← hg.out.len]; exact (Ag.1 q1).1
    have h5:=(hg.out.row i9 h9 _ q1 (Ac hi9)).1.2.1
    exact ⟨hB.out _ (.inr ⟨h9,Af q1,q2⟩),by omega⟩
   rcases Sa (Et n (g.take j)).length with h0 | h0
   ·have hnil:=Bg h0
    have hfin:=hf.out
    rw [hnil] at hfin
    have hgk:=hZ (NI cols hfin)
    have hv:u7=.slice none 0 0:=hemp.out hnil
    subst hv
    have hfn:=P8 cols wr hcs (by omega)
    replace hfr:=hZ hfr
    clear hgg hrK hnil hfin hrows
    replace h0:=hZ h0
    go_wp2_with fail
    refine hfn.mono ?_
    rintro e w2 ⟨rfl,hf2⟩
    go_wp2_with fail
    go_ret
    exact ⟨_,rfl,.inl ⟨rfl,hgk.out⟩,Fx.of_fr (hfr.out.trans hf2)⟩
   ·obtain ⟨gO,cO,rfl⟩:=Db hgg.own h0
    obtain ⟨hgO,-,hbO,hcO⟩:=hgg.grid
    have hfo:=Mo gO 0 cO hO (Et n (g.take j)) gK F cols cols tK wr hGr hgO hrK (by omega) (by omega) (Ah _) hcO hf.out
    have hgO':=hZ hgO
    replace hrows:=hZ hrows
    replace hbO:=hZ hbO
    replace hfr:=hZ hfr
    obtain ⟨L,hL⟩:∃ L,L=(Et n (g.take j)).length:=⟨_,rfl⟩
    rw [← hL] at hfo h0 hcO ⊢
    replace hL:=hZ hL
    replace hfo:=hZ hfo
    clear hgg hrK hgO
    go_wp2_with fail
    refine hfo.out.mono ?_
    rintro e w2 ⟨rfl,ht5,hl5,hr5,hs5,hb5,hfx5,hg5⟩
    go_wp2_with fail
    go_ret
    have hge:∀ k,gb gO hO k→B≤k:=by
     rintro k (rfl | ⟨h,hm2,rfl⟩)
     ·have:=hbO.out; omega
     ·exact (hrows.out h hm2).1
    have hl5L:gK.length=L:=by first | (rw [hl5]; exact hL.out.symm) | (rw [hl5])
    exact ⟨_,rfl,.inr ⟨gO,cO,hs5,gK,tK,rfl,hg5,by omega,by omega,rfl,fun k hk=>hge k ((hb5.1 k).1 hk)⟩,(Fx.of_fr hfr.out).trans (hfx5.mono hge)⟩
theorem RE {w:World} {base g n c:Nat} {E:TypeId} {l:List Int} (h:w.ownsRow base E 1 (.slice (some ⟨g,0,none⟩) n c) n (l.map iv)):El w iv (some ⟨g,0,none⟩) l:=by
 obtain ⟨-,-,h2,-,h4⟩:=Bu h
 refine .inr ⟨g,0,rfl,h2,fun i x hx=>?_⟩
 rw [AU]
 exact (h4 i (iv x) (by rw [Au,hx]; rfl)).1
theorem Xp (v:Value) (n:Nat):(madeCells #[v] n).toList=List.replicate n v:=by
 refine C4 (fun i=>?_)
 by_cases hi:i < n
 ·simp [madeCells,hi,Nat.mod_one]
 ·simp [madeCells,hi]
theorem ND {z:Value} (n:Nat) (hz:z.cells=#[iv 0]):(madeCells z.cells (n * 1)).toList=(List.replicate n (0:Int)).map iv:=by
 rw [hz,Gm,Xp,ER]
theorem Tp (n:Nat) (w:World) (hG:G w) (hn1:1≤n) (hn2:n≤1000000) :
 Calls Tryz.prog 141 #[.int .i64 n] w fun e w'=>∃ g c,e=.returned (.slice (some ⟨g,0,none⟩) n c)∧Fr w w'∧w'.ownsRow w.heap.size 80 1 (.slice (some ⟨g,0,none⟩) n c) n ((List.replicate n (0:Int)).map sv):=by
 obtain ⟨i0,hi,hz0,hz1,hz2⟩:=A5 CX
 have hlo:=fun (W:World) a c (hW:Fr w W) (hx:El W iv a (List.replicate n (0:Int)))=>HA (List.replicate n 0) a c W (hG.fr hW) hx (by simpa using hn2) (fun x hx=>by rw [B6 hx]; unfold Sm; omega)
 simp only [AO] at hlo
 replace hlo:=hZ hlo
 go_enter Tryz.func141,Tryz.ntmps141
 go_wp2_with (at_make; refine Df _ rfl _ _ 33 rfl w.heap.size 3 i0 _ 1 Tryz.underlying33 hi hz0 hz1 _ _ _ _ n (by rfl) (by rfl) (by omega) (by omega) (by rw [hz2]; omega) (by unfold maxLen; omega) (Ah _) ?_; intro w2 hown2 hgr2)
 rw [ND n rfl] at hown2
 have hf2:=(Fr.refl w).grown hgr2 (fun k e=>by cases e)
 refine (hlo.out w2 _ _ hf2 (RE hown2)).mono ?_
 rintro e w3 ⟨g,c,rfl,hf3,hown3⟩
 have hsz:=hf2.size
 rw [AO] at hown3
 go_wp2_with fail
 go_ret
 exact ⟨g,c,rfl,hf2.trans hf3,Cw hown3 hsz⟩
def IV (m:List (List Int)) (c:Nat):List Int:=m.map (fun r=>(r[c]?).getD 0)
def Ew (n:Nat) (m:List (List Int)):List (List Int):=(List.range n).map fun c=>IV m c ++ DW n c
theorem Kf (n:Nat) (m:List (List Int)):(Ew n m).length=n:=by simp [Ew]
theorem Nj {n c:Nat} (m:List (List Int)) (h:c < n):(Ew n m)[c]?=some (IV m c ++ DW n c):=by simp [Ew,List.getElem?_range h]
theorem Ha (m:List (List Int)) (c:Nat):(IV m c).length=m.length:=by simp [IV]
theorem IZ (n:Nat) (m:List (List Int)):Bq (m.length+n) (Ew n m):=fun r hr=>by
 unfold Ew at hr
 obtain ⟨c,-,rfl⟩:=Cb.1 hr
 rw [AB,Ha,HZ]
theorem P1 (m gW gK:List (List Int)) (a:Option Addr) (cap n F F2 tW tK:Nat) (w:World) (hG:G w) (hm:IL w a m) (hr:Bq n m) (hn:1≤n) (hn2:n≤1000) (hl:m.length≤1000)
 (hw:CY F (m.length+n) 0 (Ew n m) 0=some (gW,tW)) (hb:CY F2 n 0 (Et m.length (gW.take tW)) 0=some (gK,tK)) :
 Calls Tryz.prog 92 #[.slice a m.length cap,.int .i64 n] w fun e w'=>∃ v,e=.returned v∧LG w' w.heap.size v (gK.take tK)∧Fr w w':=by
 have hgn:=Fe hG
 obtain ⟨i0,hi,hz0,hz1,hz2⟩:=A5 HC
 obtain ⟨i1,ji,jz0,jz1,jz2⟩:=A5 Ml
 have hG1:=hZ hG
 have hm1:=hZ hm
 have hr1:=hZ hr
 obtain ⟨q,hq⟩:∃ q,q=m.length:=⟨_,rfl⟩
 have hwl:=hZ (Kf n m)
 have hrow:=fun c (h:c < n)=>Nj m h
 have hcl:=fun c=>Ha m c
 have hwr:=IZ n m
 rw [← hq] at hl hw hb hcl hwr ⊢
 replace hq:=hZ hq
 replace hrow:=hZ hrow
 replace hcl:=hZ hcl
 replace hwr:=hZ hwr
 replace hw:=hZ hw
 replace hb:=hZ hb
 clear hG hm hr
 go_enter Tryz.func92,Tryz.ntmps92
 go_wp2_with fail
 go_loopg [5,12] n (fun k s5 WV wr=>∃ (c:Nat) (hs:List (Nat×Nat×Nat)),WV=.int .i64 c∧c+k=n∧Fr w wr∧GG wr w.heap.size 120 s5 hs ((Ew n m).take c)∧Hid (∀ h,h ∈ hs→w.heap.size≤h.1∧q+n≤h.2.2))
 case atStart=>exact ⟨0,[],rfl,by omega,Fr.refl _,GG.nil _ _ _ hgn,fun h hm=>by simp at hm⟩
 case round=>
  obtain ⟨c,hs,rfl,hck,hf,hgg,hnew⟩:=hrel
  by_cases hlt:c < n
  ·have hsn:=hZ (BH (hrow.out c hlt))
   have hgl:((Ew n m).take c).length=c:=by rw [Av,hwl.out]; omega
   replace hgl:=hZ hgl
   obtain ⟨wo,rfl⟩:∃ wo:World,wo=wr:=⟨_,rfl⟩
   obtain ⟨ko,rfl⟩:∃ ko:Nat,ko=gk:=⟨_,rfl⟩
   replace hgg:=hZ hgg
   have zc0:(0:Int)≤(c:Int):=Ak _
   have zc1:(c:Int) < (n:Int):=by omega
   have zlt:decide (c < n)=true:=Ab hlt
   go_wp2_with fail
   go_loopg [7,17] q (fun k s7 s17 wr2=>∃ t:Nat,s17=.int .i64 t∧t+k=q∧Fr wo wr2∧Hid (wr2.ownsRow wo.heap.size 80 1 s7 t (((IV m c).take t).map sv)))
   case atStart=>exact ⟨0,rfl,by omega,Fr.refl _,Br _ _ _ _⟩
   case round=>
    obtain ⟨t,rfl,htk,hf2,hown⟩:=hrel
    by_cases ht:t < q
    ·have htm:t < m.length:=by rw [← hq.out]; exact ht
     obtain ⟨b,o,a',c',rfl,hc1,hel⟩:=(hm1.out.fr (hf.trans hf2)).at htm
     have hlm:=hr1.out.row htm
     obtain ⟨b2,o2,x,rfl,hbl2,hxc,hc2⟩:=hel.at (i:=c) (by rw [hlm]; exact hlt)
     rw [hlm] at hc1
     have hct:(IV m c)[t]?=some x:=by unfold IV; rw [Au,Ac htm]; show some ((m[t][c]?).getD 0)=_; rw [hxc]; rfl
     have hsn2:=hZ (BH hct)
     replace hlm:=hZ hlm
     replace hct:=hZ hct
     replace hxc:=hZ hxc
     have zt0:(0:Int)≤(t:Int):=Ak _
     have zt1:(t:Int) < (q:Int):=by omega
     have hz9:=(hf.trans hf2).size
     have hz8:=hf2.size
     clear hel
     go_wp2_with (at_builtin; refine wpList_append_lies _ rfl _ _ 120 (by rfl) _ 80 _ _ 1 16 Tryz.underlying120 hi hz0 hz1 hz2 rfl (by decide) _ t _ (by rfl) (AA hown.out _) ⟨wr.heap.size,0,none⟩ 1 1 [sv x] (by rfl) rfl (AN _ _ _ _ (by simp)) (by simp [Value.oneCell']) (by decide) (by unfold maxLen; omega) (by omega) (by skip; simp; omega) (wr.heap.size+1) (by simp) ?_; intro gA capA wA hownA hgrowA hatA hltA)
     go_wp2_with fail
     go_roundg (gk - 1)
     case measure=>omega
     case rel=>exact ⟨t+1,by go_num,by omega,((hf2.alloc _)).grown hgrowA (fun k e=>(hown.out.lt k e).1),by show _; rw [hsn2.out,AD]; exact hownA⟩
    ·have hd:decide (t < q)=false:=Aa ht
     obtain rfl:t=q:=by omega
     have hown9:=hown.out
     rw [Ap (by rw [hcl.out]; exact Ah _)] at hown9
     replace hown9:=hZ hown9
     have hze:=hZ (fun W (hW:Fr wr W)=>Tp n W (((hG1.out.fr hf).fr hf2).fr hW) hn (by omega))
     clear hown
     go_wp2_with fail
     refine (hze.out _ (Fr.refl _)).mono ?_
     clear hze
     rintro e w3 ⟨g,cz,rfl,hf3,hown3⟩
     have hgW:gN≤wr.heap.size:=by have:=(hf.trans hf2).size; omega
     obtain ⟨hO,-,-,hgb,hcp⟩:=Eh hgW hown3
     obtain ⟨hs1,hs2⟩:=hO.2.2 c 0 (by rw [BQ,Ai hlt])
     rw [AU] at hs1 hs2
     have hO2:=hO.set (k:=c) (by simpa using hlt) 1
     rw [AU,show sv 1=.string ⟨#[49]⟩ from by rw [sv,FP]] at hO2
     have hf4:Fr wr (w3.setCell ⟨g,c,none⟩ (.string ⟨#[49]⟩)):=hf3.setCell (p:=⟨g,c,none⟩) hgb _
     have hO3:=hZ (show EN (w3.setCell ⟨g,c,none⟩ (.string ⟨#[49]⟩)) g 0 (DW n c) from hO2)
     have hsrc:∀ t u,((DW n c).map sv)[t]?=some u→(w3.setCell ⟨g,c,none⟩ (.string ⟨#[49]⟩)).cell? ((⟨g,0,none⟩:Addr).add t)=some u:=fun t u hu=>by
      rw [Au] at hu
      cases hx:(DW n c)[t]? with
      | none=>rw [hx] at hu; simp at hu
      | some x=>
        rw [hx] at hu
        injection hu with hu; subst hu
        have:=(hO3.out.2.2 t x hx).1
        rw [show ((⟨g,0,none⟩:Addr).add t)=⟨g,0+t,none⟩ by unfold Addr.add; split <;> simp_all]
        exact this
     have hone:∀ u ∈ (DW n c).map sv,u.oneCell'=true:=fun u hu=>by obtain ⟨x,_,rfl⟩:=Cb.1 hu; rfl
     have hml:((DW n c).map sv).length=n * 1:=by simp [HZ]
     have hsz4:=hf4.size
     have hsz1:=(hf.trans hf2).size
     have hsz2:=hf2.size
     have hown4:=hZ (Bj hown9.out hf4)
     replace hsrc:=hZ hsrc
     replace hone:=hZ hone
     replace hml:=hZ hml
     clear hO hO2 hown3 hown9
     replace hf3:=hZ hf3
     go_upto_region 13 with (fail)
     obtain ⟨w4,hw4⟩:∃ w4,w4=w3.setCell ⟨g,c,none⟩ (.string ⟨#[49]⟩):=⟨_,rfl⟩
     rw [← hw4] at hf4 hO3 hsrc hsz4 hown4 ⊢
     clear hw4 hs1 hs2 hf3
     go_wp2_with (first
     | (at_builtin; refine wpList_append_lies _ rfl _ _ 120 (by rfl) _ 80 _ _ 1 16 Tryz.underlying120 hi hz0 hz1 hz2 rfl (by decide) _ t _ (by rfl) hown4.out ⟨g,0,none⟩ n cz ((DW n c).map sv) (by rfl) hml.out hsrc.out hone.out (by omega) (by unfold maxLen; omega) (by omega) (by omega) w4.heap.size rfl ?_; intro gA capA wA hownA hgrowA hatA hltA; have hfA:Fr wo wA:=(hf2.trans hf4).grown hgrowA (fun k e=>(hown4.out.lt k e).1); have hggA:=hgg.out.fr hfA; have hownG:=hggA.own; rw [hgl.out] at hownG; replace hggA:=hZ hggA; have hszA:=hfA.size; have hszW:=hf.size)
     | (at_builtin; refine wpList_append_lies _ rfl _ _ 141 (by rfl) _ 120 _ _ 1 24 Tryz.underlying141 ji jz0 jz1 jz2 rfl (by decide) _ c _ (by rfl) (AA hownG _) ⟨wA.heap.size,0,none⟩ 1 1 [.slice (some ⟨gA,0,none⟩) (t+n) capA] (by rfl) rfl (AN _ _ _ _ (by simp)) (by simp [Value.oneCell']) (by decide) (by unfold maxLen; omega) (by omega) (by skip; simp; omega) (wA.heap.size+1) (by simp) ?_; intro gB capB wB hownB hgrowB hatB hltB; skip))
     have hgA:wo.heap.size≤gA:=hatA.elim (fun e=>(hown4.out.lt _ e).1) (fun e=>by omega)
     have hownA2:wA.ownsRow wo.heap.size 80 1 (.slice (some ⟨gA,0,none⟩) (t+n) capA) (t+n) ((IV m c ++ DW n c).map sv):=by rw [AD]; exact hownA
     obtain ⟨hOA,-,-,-,hcpA⟩:=Eh (by omega) hownA2
     have hne:u5.ownBlock≠some gA:=fun e=>by have h9:=(hgg.out.own.lt gA e).2; omega
     have hne2:∀ h',h' ∈ hs→h'.1≠gA:=fun h' hm e2=>by have h9:=hgg.out.lt h' hm; omega
     have hpush:=(hggA.out.fr ((Fr.refl wA).alloc _)).pushN (hd:=(gA,0,capA)) (hOA.fr ((Fr.refl wA).alloc _)) hne2 hne hgl.out (by unfold HT; rw [AB,hcl.out,HZ]) hownB hgrowB (hatB.imp id (fun e=>by rw [e]; simp))
     rw [← hsn.out] at hpush
     have hfrB:Fr w wB:=(((hf.trans hfA).alloc _)).grown hgrowB (fun k e=>(hgg.out.own.lt k e).1)
     go_roundg (ko - 1)
     case measure=>omega
     case rel=>exact ⟨c+1,_,by go_num,by omega,hfrB,hpush,fun h hm=>by rcases BK.1 hm with h1 | h1; exact hnew.out h h1; (simp at h1; subst h1; exact ⟨by show w.heap.size≤gA; omega,hcpA⟩)⟩
  ·obtain rfl:c=n:=by omega
   have hd:decide (c < c)=false:=Aa hlt
   have hjm:(Ew c m).take c=Ew c m:=Ap (by rw [hwl.out]; exact Ah _)
   rw [hjm] at hgg
   obtain ⟨gO,cO,rfl⟩:=Db hgg.own (by rw [hwl.out]; omega)
   obtain ⟨hgO,-,hbO,hcO⟩:=hgg.grid
   have hlen:=hwl.out
   have hfo:=Mo gO 0 cO hs (Ew c m) gW F (q+c) (q+c) tW wr (hG1.out.fr hf) hgO hwr.out (by omega) (by omega) (Ah _) (by omega) hw.out
   have hge:∀ k,gb gO hs k→w.heap.size≤k:=by
    rintro k (rfl | ⟨h,hm2,rfl⟩)
    ·exact hbO
    ·exact (hnew.out h hm2).1
   rw [hlen,C8] at hfo
   rw [hlen] at hcO ⊢
   replace hge:=hZ hge
   replace hgO:=hZ hgO
   replace hfo:=hZ hfo
   replace hlen:=hZ hlen
   clear hjm hgg
   go_wp2_with fail
   refine hfo.out.mono ?_
   clear hfo
   rintro e w5 ⟨rfl,ht5,hl5,hr5,hs5,hb5,hfx5,hg5⟩
   have hG5:G w5:=(hG1.out.fr hf).fx hfx5 (fun k hk=>Ar hgn (hge.out k hk))
   have hszw:=hf.size
   have hszw5:=hfx5.size
   have hbe:=RK w.heap.size gO cO tW q c (q+c) F2 tK hs5 gW gK w5 hG5 hg5 hr5 rfl hn (by omega) (by omega) (by rw [hl5]; exact ht5) (fun h hm=>(hnew.out h (hb5.2 h hm)).2) hb.out (fun k hk=>hge.out k ((hb5.1 k).1 hk)) (by omega)
   replace hbe:=hZ hbe
   replace hg5:=hZ hg5
   replace hr5:=hZ hr5
   replace hl5:=hZ hl5
   go_wp2_with fail
   refine hbe.out.mono ?_
   rintro e w6 ⟨v6,rfl,hlg6,hfx6⟩
   replace hlg6:=hZ hlg6
   go_wp2_with fail
   go_ret
   exact ⟨v6,rfl,hlg6.out,(((Fx.of_fr hf).trans (hfx5.mono hge.out)).trans hfx6).toFr (fun k hk e=>by omega)⟩
end Go.Proofs.YtiniigadkknboaaGreatDoor
