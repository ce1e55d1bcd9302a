/- Contracts and laws: GAT. -/
import Derived.Test.YtiniigadkknboaaGreatDoorGAS
import Derived.Test.YtiniigadkknboaaGreatDoorGAR
import Derived.Test.YtiniigadkknboaaGreatDoorGAC

set_option maxRecDepth 100000
set_option maxHeartbeats 8000000
namespace Go.Proofs.YtiniigadkknboaaGreatDoor
open Go.RowKit Go.Lib
theorem SF {x p:Int} (h:p≠0):0≤x.fmod p * p:=by
 rcases CX h with h | h
 ·have h1:x.fmod p=-((-x).fmod (-p)):=by rw [Int.neg_fmod_neg]; omega
  have h2:=CP (-x) (show 0 < -p by omega)
  have h3:=BR h2 (show 0≤-p by omega)
  have:x.fmod p * p=(-x).fmod (-p) * -p:=by rw [h1]; grind
  omega
 ·exact BR (CP x h) (by omega)
theorem Kh {x p:Int} (h:p≠0) (hs:0≤x * p):(x.fdiv p).natAbs * p.natAbs≤x.natAbs:=by
 have h1:∀ y q:Int,0 < q→0≤y→(y.fdiv q).natAbs * q.natAbs≤y.natAbs:=fun y q hq hy=>by
  have e:=GR y q
  have h2:=CP y hq
  have h3:=Int.fdiv_nonneg hy (show 0≤q by omega)
  have h4:((y.fdiv q).natAbs * q.natAbs:Int)=q * y.fdiv q:=by
   rw [CK h3,CK (by omega),Fn]
  have h5:(((y.fdiv q).natAbs * q.natAbs:Nat):Int)≤(y.natAbs:Int):=by
   rw [AM,h4,CK hy]; omega
  exact Zs.1 h5
 rcases CX h with h | h
 ·have hx:x≤0:=AB fun h9=>by
   have:=Jo (show 0 < x by omega) h
   omega
  have:=h1 (-x) (-p) (by omega) (by omega)
  rw [Int.neg_fdiv_neg,Dr,Dr] at this
  exact this
 ·have hx:0≤x:=AB fun h9=>by
   have:=Jp (show x < 0 by omega) h
   omega
  exact h1 x p h hx
theorem XV {K p r:Nat} (hK:1≤K) (hp:p≤K) (hr:r≤K):(K+K * K) * p * p * r≤2 * (K * K * K * K * K):=by
 have h1:K+K * K≤2 * (K * K):=by have:=AU K hK; omega
 have:=AD (AD (AD h1 hp) hp) hr
 have e:2 * (K * K) * K * K * K=2 * (K * K * K * K * K):=by grind
 omega
theorem XU {W W' a p u r M:Nat} (h:W * a * a * u≤M) (hp:W' * p≤2 * (a * W)) (hpu:p≤u) (hr:2 * r≤a):W' * p * p * r≤M:=by
 have h1:=AD (AD hp hpu) (Ah r)
 have e1:2 * (a * W) * u * r=a * W * u * (2 * r):=by grind
 have h2:=Bb (a * W * u) hr
 have e2:a * W * u * a=W * a * a * u:=by grind
 omega
structure Cg (n c t m K:Nat) (g:List (List Int)):Prop where
 rect:Bx n g
 len:g.length=m
 top:∀ i,i < t→∀ k,(AC g i k).natAbs≤K
 act:(∀ i,t≤i→i < m→∀ k,(AC g i k).natAbs≤K)∨∃ W u:Nat,(∀ i,t≤i→i < m→∀ k,(AC g i k).natAbs≤W)∧AC g t c≠0∧(∀ i,t < i→i < m→(AC g i c).natAbs < (AC g t c).natAbs∧0≤AC g i c * AC g t c)∧(∃ i,t < i∧i < m∧AC g i c≠0∧(AC g i c).natAbs=u)∧W * (AC g t c).natAbs * (AC g t c).natAbs * u≤2 * (K * K * K * K * K)
theorem Cg.bd {n c t m K:Nat} {g:List (List Int)} (h:Cg n c t m K g) (hK:1≤K):∃ W,K≤W∧W≤2 * (K * K * K * K * K)∧∀ i,i < m→∀ k,(AC g i k).natAbs≤W:=by
 have hk:K≤2 * (K * K * K * K * K):=by
  have h2:=AD hK hK
  have h3:=AD (AD h2 hK) hK
  have:=AU K h3
  have e:K * K * K * K * K=K * K * (K * K) * K:=by grind
  have e2:1 * 1 * 1 * 1 * K=K:=by omega
  omega
 rcases h.act with ha | ⟨W,u,hW,h0,hc,⟨i0,a0,b0,n0,rfl⟩,hM⟩
 ·exact ⟨K,Ah _,hk,fun i hi k=>by
   by_cases e:i < t
   ·exact h.top i e k
   ·exact ha i (by omega) hi k⟩
 ·have h1:1≤(AC g t c).natAbs:=by omega
  have h2:1≤(AC g i0 c).natAbs:=by omega
  have h3:=AD (AD (AD (Ah W) h1) h1) h2
  refine ⟨max K W,Nat.le_max_left _ _,Nat.max_le.2 ⟨hk,by omega⟩,fun i hi k=>?_⟩
  by_cases e:i < t
  ·exact As (h.top i e k) (Nat.le_max_left _ _)
  ·exact As (hW i (by omega) hi k) (Nat.le_max_right _ _)
theorem Na {m B:Nat} {g:List (List Int)} {c:Nat} (hl:g.length=m) (hB:B < Mm) (h:∀ i,i < m→(AC g i c).natAbs≤B):HJ g c=true:=SN fun i hi=>A4 (h i (by omega)) hB
theorem Wz {n c t m K k:Nat} {g:List (List Int)} (ht:t < m) (hK:1≤K) (hZ:4 * (K * K * K * K * K * K) < Mm) (h:Cg n c t m K g) (hk1:t≤k) (hk2:k < m) (hp:Cm g c t (m - t)=some k) :
 ∃ g2,Ca (DT g t k) c t (t+1) (m - (t+1))=some g2∧Bx n g2∧g2.length=m∧(∀ i,i < t→∀ q,(AC g2 i q).natAbs≤K)∧(∀ q,(AC g2 t q).natAbs≤2 * (K * K * K * K * K))∧(∀ i,t≤i→i < m→∀ q,(AC g2 i q).natAbs≤4 * (K * K * K * K * K))∧((∃ i,t < i∧i < m∧AC g2 i c≠0)→Cg n c t m K g2):=by
 obtain ⟨W,hKW,hWM,hW⟩:=h.bd hK
 have hle6:4 * (K * K * K * K * K)≤4 * (K * K * K * K * K * K):=Bb 4 (by have:=Bb (K * K * K * K * K) hK; omega)
 generalize hM5:K * K * K * K * K=M5 at *
 obtain ⟨p0,pl⟩:=EC hp
 have hr1:Bx n (DT g t k):=Ht h.rect
 have hl1:(DT g t k).length=m:=by rw [GZ]; exact h.len
 have hs:=fun r q=>KN (g:=g) (i:=t) (j:=k) (by rw [h.len]; exact ht) (by rw [h.len]; exact hk2) r q
 have htq:∀ q,AC (DT g t k) t q=AC g k q:=fun q=>by
  rw [hs]
  by_cases e:t=k
  ·rw [Ai e,e]
  ·rw [Ag e,Ai rfl]
 have hsW:∀ i,i < m→∀ q,(AC (DT g t k) i q).natAbs≤W:=fun i hi q=>by
  rw [hs]
  split
  ·exact hW t ht q
  ·split
   ·exact hW k hk2 q
   ·exact hW i hi q
 have hWb:W < Mm:=by omega
 have hc0:AC (DT g t k) t c≠0:=by rw [htq]; exact p0
 have hqW:∀ i,i < m→(Ma (DT g t k) c t i).natAbs≤W:=fun i hi=>As (NS hc0) (hsW i hi c)
 obtain ⟨g2,he⟩:=H2 (s:=t+1) hr1 (by omega) hc0 (Hu (A4 (hsW t ht c) hWb)) (m - (t+1)) (by omega) (.inl (by omega)) (fun i a b=>⟨Hu (A4 (hsW i (by omega) c) hWb),fun _ q=>T8 (A4 (hqW i (by omega)) hWb) (A4 (hsW t ht q) hWb) (A4 (hsW i (by omega) q) hWb)⟩)
 have hent:=DQ hr1 (by omega) _ g2 he (by omega) (.inl (by omega))
 obtain ⟨hr2,hl2⟩:=Ci hr1 _ g2 he (by omega)
 have e1:∀ i,i < t+1→∀ q,AC g2 i q=AC (DT g t k) i q:=fun i hi q=>by rw [hent,Ag (by omega)]
 have e2:∀ i,t < i→i < m→∀ q,AC g2 i q=AC (DT g t k) i q - Ma (DT g t k) c t i * AC (DT g t k) t q:=fun i a b q=>by rw [hent,Ai (by omega)]
 have e3:∀ i,t < i→i < m→AC g2 i c=(AC (DT g t k) i c).fmod (AC g k c):=fun i a b=>by
  rw [e2 i a b]; unfold Ma; rw [IO,htq]
 have etc:AC g2 t c=AC g k c:=by rw [e1 t (by omega),htq]
 have htop:∀ i,i < t→∀ q,(AC g2 i q).natAbs≤K:=fun i hi q=>by
  rw [e1 i (by omega),hs,Ag (by omega),Ag (by omega)]; exact h.top i hi q
 have hrowt:∀ q,(AC g2 t q).natAbs≤W:=fun q=>by rw [e1 t (by omega)]; exact hsW t ht q
 have hcol:∀ i,t < i→i < m→(AC g2 i c).natAbs < (AC g2 t c).natAbs∧0≤AC g2 i c * AC g2 t c:=fun i a b=>by
  rw [e3 i a b,etc]; exact ⟨RB p0,SF p0⟩
 suffices hsuf:∃ W',(∀ i,t≤i→i < m→∀ q,(AC g2 i q).natAbs≤W')∧W'≤4 * M5∧((∃ i,t < i∧i < m∧AC g2 i c≠0)→∃ i,t < i∧i < m∧AC g2 i c≠0∧W' * (AC g2 t c).natAbs * (AC g2 t c).natAbs * (AC g2 i c).natAbs≤2 * M5) by
  obtain ⟨W',k1,k2,k3⟩:=hsuf
  refine ⟨g2,he,hr2,by omega,htop,fun q=>As (hrowt q) hWM,fun i a b q=>As (k1 i a b q) k2,fun hx=>?_⟩
  obtain ⟨i,a,b,n0,hb⟩:=k3 hx
  exact ⟨hr2,by omega,htop,.inr ⟨W',_,k1,by rw [etc]; exact p0,hcol,⟨i,a,b,n0,rfl⟩,by rw [hM5]; exact hb⟩⟩
 rcases h.act with ha | ⟨W0,u,hW0,h0,hc,⟨i0,a0,b0,n0,hu⟩,hM⟩
 ·-- every entry is small
  have hsK:∀ i,t≤i→i < m→∀ q,(AC (DT g t k) i q).natAbs≤K:=fun i a b q=>by
   rw [hs]
   split
   ·exact ha t (Ah _) ht q
   ·split
    ·exact ha k hk1 hk2 q
    ·exact ha i a b q
  have hKK:K≤K * K:=by have:=AU K hK; omega
  refine ⟨K+K * K,fun i a b q=>?_, ?_,fun ⟨i,a,b,hn⟩=>⟨i,a,b,hn, ?_⟩⟩
  ·by_cases e:i=t
   ·rw [e,e1 t (by omega)]; have:=hsK t (Ah _) ht q; omega
   ·rw [e2 i (by omega) b]
    exact LP (hsK i a b q) (As (NS hc0) (hsK i a b c)) (hsK t (Ah _) ht q)
  ·have h3:=AD (AD (AD (Ah (K * K)) hK) hK) hK
   omega
  ·have:=XV hK (show (AC g2 t c).natAbs≤K by rw [e1 t (by omega)]; exact hsK t (Ah _) ht c) (r:=(AC g2 i c).natAbs) (by
    have:=(hcol i a b).1
    have h9:=hsK t (Ah _) ht c
    rw [← e1 t (by omega)] at h9
    omega)
   omega
 ·-- later
  have hpu:(AC g k c).natAbs≤u:=by rw [← hu]; exact pl i0 (by omega) (by omega) n0
  have hi0:=(hc i0 a0 b0).1
  have hkt:t < k:=AB fun h9=>by
   have e:k=t:=by omega
   rw [e] at hpu; omega
  have hsg:∀ i,t≤i→i < m→0≤AC g i c * AC g k c∧(AC g i c).natAbs≤(AC g t c).natAbs:=fun i a b=>by
   have h1:=(hc k hkt hk2).2
   by_cases e:i=t
   ·rw [e,Fn]; exact ⟨h1,Ah _⟩
   ·have h2:=hc i (by omega) b
    refine ⟨?_,by omega⟩
    rcases CX h0 with hn | hn
    ·have q1:AC g i c≤0:=AB fun h9=>by have:=Jo (show 0 < AC g i c by omega) hn; omega
     have q2:AC g k c≤0:=AB fun h9=>by have:=Jo (show 0 < AC g k c by omega) hn; omega
     exact FT q1 q2
    ·have q1:0≤AC g i c:=AB fun h9=>by have:=Jp (show AC g i c < 0 by omega) hn; omega
     have q2:0≤AC g k c:=AB fun h9=>by have:=Jp (show AC g k c < 0 by omega) hn; omega
     exact BR q1 q2
  generalize hA:(AC g t c).natAbs=A at *
  have hss:∀ i,t≤i→i < m→0≤AC (DT g t k) i c * AC g k c∧(AC (DT g t k) i c).natAbs≤A:=fun i a b=>by
   rw [hs]
   split
   ·exact hsg t (Ah _) ht
   ·split
    ·exact hsg k hk1 hk2
    ·exact hsg i a b
  have hsW0:∀ i,t≤i→i < m→∀ q,(AC (DT g t k) i q).natAbs≤W0:=fun i a b q=>by
   rw [hs]
   split
   ·exact hW0 t (Ah _) ht q
   ·split
    ·exact hW0 k hk1 hk2 q
    ·exact hW0 i a b q
  have hP:(AC g2 t c).natAbs=(AC g k c).natAbs:=by rw [etc]
  have hP1:1≤(AC g k c).natAbs:=by omega
  have hPA:(AC g k c).natAbs≤A:=by omega
  have hq:∀ i,t≤i→i < m→(Ma (DT g t k) c t i).natAbs≤A / (AC g k c).natAbs:=fun i a b=>by
   rw [GP (by omega)]
   have:=Kh p0 (hss i a b).1
   unfold Ma
   rw [htq]
   have h9:=(hss i a b).2
   omega
  have hWp:(W0+A / (AC g k c).natAbs * W0) * (AC g k c).natAbs≤2 * (A * W0):=by
   have q1:=H4 A (AC g k c).natAbs
   have q2:=Bb W0 hPA
   have q3:=Bb W0 q1
   have e9:(W0+A / (AC g k c).natAbs * W0) * (AC g k c).natAbs=W0 * (AC g k c).natAbs+W0 * (A / (AC g k c).natAbs * (AC g k c).natAbs):=by grind
   have e8:A * W0=W0 * A:=Di _ _
   omega
  refine ⟨W0+A / (AC g k c).natAbs * W0,fun i a b q=>?_, ?_,fun ⟨i,a,b,hn⟩=>?_⟩
  ·by_cases e:i=t
   ·rw [e,e1 t (by omega)]; have:=hsW0 t (Ah _) ht q; omega
   ·rw [e2 i (by omega) b]
    exact LP (hsW0 i a b q) (hq i a b) (hsW0 t (Ah _) ht q)
  ·have hA1:1≤A:=by omega
   have hu1:1≤u:=by omega
   have q1:=Bb (W0+A / (AC g k c).natAbs * W0) hP1
   have q2:=AD (AD (Ah (W0 * A)) hA1) hu1
   have e8:A * W0=W0 * A:=Di _ _
   omega
  ·rw [hP]
   have key:∀ j,t < j→j < m→AC g2 j c≠0→2 * (AC g2 j c).natAbs≤A→∃ i,t < i∧i < m∧AC g2 i c≠0∧(W0+A / (AC g k c).natAbs * W0) * (AC g k c).natAbs * (AC g k c).natAbs * (AC g2 i c).natAbs≤2 * M5:=fun j q1 q2 q3 q4=>⟨j,q1,q2,q3,XU (by rw [← hM5]; exact hM) hWp hpu q4⟩
   have hko:AC (DT g t k) k c=AC g t c:=by rw [hs,Ai rfl]
   have hdm:=GR (AC g t c) (AC g k c)
   have hq9:=Kh p0 (hsg t (Ah _) ht).1
   rw [hA] at hq9
   have hk9:=e3 k hkt hk2
   rw [hko] at hk9
   by_cases hz:AC g2 k c=0
   ·-- the pivot divides the old one
    refine key i a b hn ?_
    have h9:=(hcol i a b).1
    rw [hP] at h9
    rw [← hk9,hz,Gh] at hdm
    have h8:A=(AC g k c).natAbs * ((AC g t c).fdiv (AC g k c)).natAbs:=by rw [← hA,← Be,hdm]
    have h7:(AC g k c).natAbs < A:=by omega
    have h6:2≤((AC g t c).fdiv (AC g k c)).natAbs:=AB fun h5=>by
     have:((AC g t c).fdiv (AC g k c)).natAbs≤1:=by omega
     have:=Bb (AC g k c).natAbs this
     omega
    have:=Bb (AC g k c).natAbs h6
    omega
   ·refine key k hkt hk2 hz ?_
    have h9:=(hcol k hkt hk2).1
    rw [hP] at h9
    -- the old pivot is at least the new one more than its remainder
    have hsum:A=(AC g k c).natAbs * ((AC g t c).fdiv (AC g k c)).natAbs+(AC g2 k c).natAbs:=by
     have hsgn:=(hsg t (Ah _) ht).1
     rw [← hk9] at hdm
     have hs2:=(hcol k hkt hk2).2
     rw [etc] at hs2
     rw [← hA]
     have q1:((AC g t c).natAbs:Int) * (AC g k c).natAbs=AC g t c * AC g k c:=by rw [← AM,← Be]; exact CK hsgn
     have q2:((AC g2 k c).natAbs:Int) * (AC g k c).natAbs=AC g2 k c * AC g k c:=by rw [← AM,← Be]; exact CK hs2
     have q3:0≤(AC g t c).fdiv (AC g k c):=AB fun h5=>by
      have h6:(AC g t c).fdiv (AC g k c)≤-1:=by omega
      have q4:0≤AC g k c * AC g k c:=(by rcases Int.le_total 0 (AC g k c) with h | h; exact BR h h; exact FT h h)
      have q5:AC g t c * AC g k c=(AC g k c * AC g k c) * (AC g t c).fdiv (AC g k c)+AC g2 k c * AC g k c:=by
       have:(AC g k c * (AC g t c).fdiv (AC g k c)+AC g2 k c) * AC g k c=AC g t c * AC g k c:=by rw [hdm]
       grind
      have q6:((AC g k c).natAbs:Int) * (AC g k c).natAbs=AC g k c * AC g k c:=by rw [← AM,← Be]; exact CK q4
      have q7:((AC g2 k c).natAbs:Int) * (AC g k c).natAbs < ((AC g k c).natAbs:Int) * (AC g k c).natAbs:=Int.mul_lt_mul_of_pos_right (by omega) (by omega)
      have q8:=VR h6 q4
      omega
     have q9:(((AC g t c).fdiv (AC g k c)).natAbs:Int)=(AC g t c).fdiv (AC g k c):=CK q3
     have qa:((AC g t c).natAbs:Int) * (AC g k c).natAbs=((AC g k c).natAbs * ((AC g t c).fdiv (AC g k c)).natAbs+(AC g2 k c).natAbs:Int) * (AC g k c).natAbs:=by
      have q4:0≤AC g k c * AC g k c:=(by rcases Int.le_total 0 (AC g k c) with h | h; exact BR h h; exact FT h h)
      have q6:((AC g k c).natAbs:Int) * (AC g k c).natAbs=AC g k c * AC g k c:=by rw [← AM,← Be]; exact CK q4
      have q5:(AC g k c * (AC g t c).fdiv (AC g k c)+AC g2 k c) * AC g k c=AC g t c * AC g k c:=by rw [hdm]
      rw [q1,q9,VS,q2,← q5]
      grind
     have qb:=Int.eq_of_mul_eq_mul_right (show ((AC g k c).natAbs:Int)≠0 by omega) qa
     have qc:((AC g t c).natAbs:Int)=(((AC g k c).natAbs * ((AC g t c).fdiv (AC g k c)).natAbs+(AC g2 k c).natAbs:Nat):Int):=by rw [qb,CR,AM]
     exact Int.ofNat_inj.1 qc
    have h5:1≤((AC g t c).fdiv (AC g k c)).natAbs:=AB fun h4=>by
     have e0:((AC g t c).fdiv (AC g k c)).natAbs=0:=by omega
     rw [e0,Nat.mul_zero] at hsum
     omega
    have:=Bb (AC g k c).natAbs h5
    omega
theorem UT {n c t m K F:Nat} {g:List (List Int)} (hr:Bx n g) (hl:g.length=m) (ht:t < m) (hK:1≤K) (hZ:4 * (K * K * K * K * K * K) < Mm) (hF:K < F) (hb:∀ i,i < m→∀ k,(AC g i k).natAbs≤K) :
 ∃ g3 t',E3 F g c t=some (g3,t')∧(t'=t∧g3=g∨t'=t+1∧∀ i,i < m→∀ k,(AC g3 i k).natAbs≤4 * (K * K * K * K * K * K)):=by
 have hle6:4 * (K * K * K * K * K)≤4 * (K * K * K * K * K * K):=Bb 4 (by have:=Bb (K * K * K * K * K) hK; omega)
 have hK1:K≤K * K * K * K * K * K:=by
  have h2:=AD (AD (AD (AD (AD (Ah K) hK) hK) hK) hK) hK
  omega
 have e6:K * (2 * (K * K * K * K * K))=2 * (K * K * K * K * K * K):=by grind
 by_cases hz:∀ i,t≤i→i < m→AC g i c=0
 ·cases F with
  | zero=>omega
  | succ F=>exact ⟨g,t,M7 (Na (B:=K) hl (by omega) fun i hi=>hb i hi c) (fun i a b=>hz i a (by omega)),.inl ⟨rfl,rfl⟩⟩
 ·have hx:∃ i,t≤i∧i < m∧AC g i c≠0∧(AC g i c).natAbs < F:=AB fun h9=>hz fun i a b=>AB fun h8=>h9 ⟨i,a,b,h8,by have:=hb i b c; omega⟩
  obtain ⟨g3,h1,h2⟩:=Pn (n:=n) (c:=c) (t:=t) (m:=m) (P:=Cg n c t m K) (Q:=fun g3=>∀ i,i < m→∀ k,(AC g3 i k).natAbs≤4 * (K * K * K * K * K * K)) ht (fun g1 h=>by
   obtain ⟨W,_,k2,k3⟩:=h.bd hK
   exact ⟨h.rect,h.len,Na h.len (B:=W) (by omega) fun i hi=>k3 i hi c⟩) (fun g1 k h hk1 hk2 hp=>by
   obtain ⟨g2,a1,a2,a3,a4,a5,a6,a7⟩:=Wz ht hK hZ h hk1 hk2 hp
   refine ⟨g2,a1,a7,fun _ h0=>⟨Hu (A4 (a5 c) (by omega)), ?_⟩⟩
   obtain ⟨g3,b1,b2,b3⟩:=Wr (T:=K) (V:=2 * (K * K * K * K * K)) a2 (by omega) h0 (by omega) (by omega) a4 a5
   refine ⟨g3,b1,fun i hi q=>?_⟩
   by_cases e:i < t
   ·have:=b2 i e q; rw [e6] at this; omega
   ·rw [b3 i (by omega)]; have:=a6 i (by omega) hi q; omega) F g ⟨hr,hl,fun i hi k=>hb i (by omega) k,.inl fun i _ b k=>hb i b k⟩ hx
  exact ⟨g3,t+1,h1,.inr ⟨rfl,h2⟩⟩
def Lr:Nat→Nat→Nat
 | 0,K=>K
 | j+1,K=>Lr j (4 * (K * K * K * K * K * K))
theorem Qo {K:Nat} (hK:1≤K):K≤4 * (K * K * K * K * K * K):=by
 have h2:=AD (AD (AD (AD (AD (Ah K) hK) hK) hK) hK) hK
 omega
theorem Iv:∀ (j K:Nat),1≤K→K≤Lr j K
 | 0,_,_=>Ah _
 | j+1,K,hK=>by have h:=Qo hK; exact As h (Iv j _ (by omega))
theorem HZ {n F m:Nat}:∀ (N c t K:Nat) (g:List (List Int)),Bx n g→g.length=m→1≤K→Lr (m - t) K < Mm→Lr (m - t) K < F→(∀ i,i < m→∀ k,(AC g i k).natAbs≤K)→∃ gF tF,CF F N c g t=some (gF,tF)∧∀ i,i < m→∀ k,(AC gF i k).natAbs≤Lr (m - t) K
 | 0,c,t,K,g,hr,hl,hK,hZ,hF,hb=>⟨g,t,rfl,fun i hi k=>As (hb i hi k) (Iv _ _ hK)⟩
 | N+1,c,t,K,g,hr,hl,hK,hZ,hF,hb=>by
   rw [CF]
   by_cases ht:t < g.length
   ·rw [Ai ht]
    obtain ⟨j,hj⟩:∃ j,m - t=j+1:=⟨m - t - 1,by omega⟩
    have h6:=Qo hK
    have h7:=Iv j (4 * (K * K * K * K * K * K)) (by omega)
    have hZ2:Lr j (4 * (K * K * K * K * K * K)) < Mm:=by rw [hj] at hZ; exact hZ
    have hF2:Lr j (4 * (K * K * K * K * K * K)) < F:=by rw [hj] at hF; exact hF
    obtain ⟨g3,t',h1,h2⟩:=UT (c:=c) hr hl (hl ▸ ht) hK (by clear hF hF2 hZ; omega) (F:=F) (by clear hZ hZ2 hF; omega) hb
    rw [h1]
    show ∃ gF tF,CF F N (c+1) g3 t'=some (gF,tF)∧_
    rcases h2 with ⟨rfl,rfl⟩ | ⟨rfl,h2⟩
    ·exact HZ N (c+1) t' K g3 hr hl hK hZ hF hb
    ·obtain ⟨-,hr3,hl3,-⟩:=KV F g g3 (t+1) hr ht h1
     obtain ⟨gF,tF,k1,k2⟩:=HZ N (c+1) (t+1) (4 * (K * K * K * K * K * K)) g3 hr3 (by omega) (by omega) (by rw [show m - (t+1)=j by omega]; exact hZ2) (by rw [show m - (t+1)=j by omega]; exact hF2) h2
     refine ⟨gF,tF,k1,fun i hi k=>?_⟩
     have:=k2 i hi k
     rw [show m - (t+1)=j by omega] at this
     rw [hj]; exact this
   ·rw [Ag ht]
    exact ⟨g,t,rfl,fun i hi k=>As (hb i hi k) (Iv _ _ hK)⟩
def Yo:Nat→Nat→Nat
 | 0,d=>d
 | j+1,d=>Yo j (6 * d+1)
theorem Qr:∀ (j d K:Nat),K≤10 ^ d→Lr j K≤10 ^ Yo j d
 | 0,_,_,h=>h
 | j+1,d,K,h=>by
   refine Qr j (6 * d+1) _ ?_
   have h2:=AD (AD (AD (AD (AD h h) h) h) h) h
   have e:(10:Nat) ^ d * 10 ^ d * 10 ^ d * 10 ^ d * 10 ^ d * 10 ^ d=10 ^ (6 * d):=by
    rw [← C1,← C1,← C1,← C1,← C1]; congr 1; omega
   rw [Br]
   omega
theorem Lq:∀ (j:Nat) {K L:Nat},K≤L→Lr j K≤Lr j L
 | 0,_,_,h=>h
 | j+1,_,_,h=>Lq j (Bb 4 (AD (AD (AD (AD (AD h h) h) h) h) h))
theorem NH {i j K:Nat} (hK:1≤K) (h:i≤j):Lr i K≤Lr j K:=by
 induction j generalizing i K with
 | zero=>obtain rfl:i=0:=by omega
         exact Ah _
 | succ j ih=>
   cases i with
   | zero=>exact Iv _ _ hK
   | succ i=>exact ih (K:=4 * (K * K * K * K * K * K)) (by have:=Qo hK; omega) (by omega)
theorem XR {d:Nat} (h:d < JR):(10:Nat) ^ d < Mm:=Nat.pow_lt_pow_right (by decide) h
attribute [local go_sem ↓] Go.wp_at_zero Go.wp_at_succ
theorem LV (xs:List Int) (a:Option Addr) (cap:Nat) (g:Nat) (lb:Array Value) (p:Int→Bool) (w:World)
 (eg:∀ args w,(callFunc g args).run Tryz.prog w=.ok (.enter g args) w) (hx:El w sv a xs) (hl:xs.length≤1000000000) (hp:JV w g lb sv p xs) :
 Calls Tryz.prog 114 #[.slice a xs.length cap,.func (.func g) #[] lb] w fun e w'=>e=.returned (.int .i64 (O7 p xs))∧Fr w w':=by
 go_enter Tryz.func114,Tryz.ntmps114
 go_wp2
 go_loopw [5,8] (fun _ s8 wr=>∃ k:Nat,s8=.int .i64 k∧k≤xs.length∧Fr w wr∧Hid (∀ j x,j < k→xs[j]?=some x→p x=false)) (fun _ s8 _=>xs.length - (RowKit.intOf s8).toNat)
 case atStart=>exact ⟨0,rfl,Ck _,Fr.refl _,fun j x h=>absurd h (Bj _)⟩
 case round=>
  obtain ⟨k,rfl,hk,hf,hb⟩:=hrel
  by_cases hlt:k < xs.length
  ·obtain ⟨b,o,x,rfl,hbl,hxk,hcell⟩:=(hx.fr hf).at hlt
   have hpx:=hp x wr (Af hxk) hf
   have hxk:=hZ hxk
   go_wp2_with fail
   refine hpx.mono ?_
   rintro e w1 ⟨rfl,hf1⟩
   go_wp2_with fail
   ·have hpt:p x=true:=by assumption
    go_ret
    exact ⟨Cv (HX hb.out hxk.out hpt).symm,hf.trans hf1⟩
   ·have hpf:p x=false:=by assumption
    go_roundw
    case rel=>exact ⟨k+1,by go_num,by omega,hf.trans hf1,I8 hb.out hxk.out hpf⟩
    case measure=>simp [RowKit.intOf]; omega
  ·go_wp2_with fail
   go_ret
   exact ⟨Cv (I9 (by rw [show xs.length=k by omega]; exact hb.out)).symm,hf⟩
theorem OW (w:World) (xs:List Int):JV w 115 #[] sv (fun x=>x != 0) xs:=fun x W _ _=>by
 show Calls Tryz.prog 115 #[.string (tx x)] W fun e W'=>e=.returned (.bool (x != 0))∧Fr W W'
 have hb:=Cn x
 have e:(x != 0)=!(decide (x=0)):=by by_cases h:x=0 <;> simp [h]
 rw [e,← hb]
 clear e hb
 go_enter Tryz.func115,Tryz.ntmps115
 go_wp2_with fail
 go_ret
 exact ⟨rfl,Fr.refl _⟩
def HD (xs:List Int):Int:=O7 (fun x=>x != 0) xs
theorem Sv (xs:List Int) (a:Option Addr) (cap:Nat) (w:World) (hx:El w sv a xs) (hl:xs.length≤1000000000) :
 Calls Tryz.prog 73 #[.slice a xs.length cap] w fun e w'=>e=.returned (.int .i64 (HD xs))∧Fr w w':=by
 have eg:∀ args w,(callFunc 115 args).run Tryz.prog w=.ok (.enter 115 args) w:=Ey Tryz.func115 (by kernel_rfl) rfl
 have hc:=LV xs a cap 115 #[] (fun x=>x != 0) w eg hx hl (OW w xs)
 replace eg:=hZ eg
 go_enter Tryz.func73,Tryz.ntmps73
 go_wp2_with fail
 refine hc.mono ?_
 rintro e w' ⟨rfl,hf⟩
 go_wp2_with fail
 go_ret
 exact ⟨rfl,hf⟩
def DX (n:Nat) (g:List (List Int)):List (List Int):=(g.filter (fun l=>decide ((n:Int)≤HD l))).map (·.drop n)
theorem Sx (n:Nat) (g:List (List Int)) (l:List Int):DX n (g ++ [l])=DX n g ++ if (n:Int)≤HD l then [l.drop n] else []:=by
 unfold DX
 rw [QZ,Ay]
 by_cases h:(n:Int)≤HD l <;> simp [h]
theorem MQ {n n1:Nat} {g:List (List Int)} (h:Bx n1 g) (t:Nat):Bx (n1 - n) (DX n (g.take t)):=fun r hr=>by
 unfold DX at hr
 obtain ⟨l,hl,rfl⟩:=Bc.1 hr
 rw [CJ,h l (BZ (List.mem_filter.1 hl).1)]
theorem Rv (n t:Nat) (g:List (List Int)):(DX n (g.take t)).length≤t:=by
 unfold DX; rw [An]; exact As (Mu _ _) (by rw [Av]; omega)
def LG (w:World) (B:Nat) (v:Value) (g:List (List Int)):Prop :=
 (v=.slice none 0 0∧g=[])∨∃ ob oc hs gF tF,v=.slice (some ⟨ob,0,none⟩) tF oc∧Bz w ob 0 hs gF∧tF≤gF.length∧tF≤oc∧g=gF.take tF∧∀ k,gb ob hs k→B≤k
def H9 (w:World) (a:Option Addr) (m:List (List Int)):Prop :=
 m=[]∨∃ b o,a=some ⟨b,o,none⟩∧b < w.heap.size∧∀ (i:Nat) (xs:List Int),m[i]?=some xs→∃ a' c',w.cell? ⟨b,o+i,none⟩=some (.slice a' xs.length c')∧El w sv a' xs
theorem H9.fr {w w':World} {a:Option Addr} {m:List (List Int)} (h:H9 w a m) (k:Fr w w'):H9 w' a m:=by
 rcases h with h | ⟨b,o,ha,hb,hc⟩
 ·exact .inl h
 ·refine .inr ⟨b,o,ha,Aq hb k.size,fun i xs hx=>?_⟩
  obtain ⟨a',c',h1,h2⟩:=hc i xs hx
  exact ⟨a',c',k.keep h1,h2.fr k⟩
theorem H9.at {w:World} {a:Option Addr} {m:List (List Int)} (h:H9 w a m) {i:Nat} (hi:i < m.length) :
 ∃ b o a' c',a=some ⟨b,o,none⟩∧w.cell? ⟨b,o+i,none⟩=some (.slice a' (m[i]).length c')∧El w sv a' m[i]:=by
 rcases h with h | ⟨b,o,ha,hb,hc⟩
 ·subst h; simp at hi
 ·obtain ⟨a',c',h1,h2⟩:=hc i _ (Ac hi)
  exact ⟨b,o,a',c',ha,h1,h2⟩
theorem Bz.mats {w:World} {ob oo:Nat} {hs:List (Nat×Nat×Nat)} {g:List (List Int)} (h:Bz w ob oo hs g) (t:Nat):H9 w (some ⟨ob,oo,none⟩) (g.take t) :=
 .inr ⟨ob,oo,rfl,h.outer,fun i xs hx=>by
  rw [Bp] at hx
  split at hx
  ·have hi:i < g.length:=(Ae.1 hx).1
   obtain ⟨b,o,c,h1,h2,-,h3,-⟩:=h.at hi
   rw [Ac hi] at hx
   injection hx with hx
   rw [← hx]
   exact ⟨_,_,h2,h3.el⟩
  ·cases hx⟩
theorem LG.mats {w:World} {B:Nat} {v:Value} {g:List (List Int)} (h:LG w B v g):∃ a c,v=.slice a g.length c∧H9 w a g:=by
 rcases h with ⟨rfl,rfl⟩ | ⟨ob,oc,hs,gF,tF,rfl,hg,h2,-,rfl,-⟩
 ·exact ⟨none,0,rfl,.inl rfl⟩
 ·exact ⟨_,oc,by rw [Av,Db h2],hg.mats tF⟩
def YV (w:World) (B:Nat) (g:List (List Int)) (e:Ending) (w':World):Prop:=∃ v,e=.returned v∧LG w' B v g∧Fx (fun k=>B≤k) w w'
theorem MU {F c:Nat} {g:List (List Int)} {t:Nat}:∀ n,CF F n c [] 0=some (g,t)→g.take t=[]
 | 0,h=>by rw [CF] at h; injection h with h; injection h with h1 h2; subst h1; exact P1
 | n+1,h=>by rw [CF,Ag (by simp)] at h; injection h with h; injection h with h1 h2; subst h1; exact P1
theorem QC (B ob oc tF n cols n1 F tK:Nat) (hs:List (Nat×Nat×Nat)) (g gK:List (List Int)) (w:World) (hG:G w) (hg:Bz w ob 0 hs g) (hr:Bx n1 g) (hn:n+cols=n1) (hcs:1≤cols) (hn1:n1≤1000000) (hl:g.length≤1000000) (ht:tF≤g.length) (hcap:∀ h,h ∈ hs→n1≤h.2.2)
 (hf:CF F cols 0 (DX n (g.take tF)) 0=some (gK,tK)) (hB:∀ k,gb ob hs k→B≤k) (hBw:B≤w.heap.size) :
 Calls Tryz.prog 142 #[.slice (some ⟨ob,0,none⟩) tF oc,.int .i64 n,.int .i64 cols] w (YV w B (gK.take tK)):=by
 have hgn:=GB hG
 obtain ⟨i1,ji,jz0,jz1,jz2⟩:=AZ Ls
 have hG1:=hZ hG
 replace hg:=hZ hg
 replace hr:=hZ hr
 replace hcap:=hZ hcap
 replace hf:=hZ hf
 replace hB:=hZ hB
 have hn2:n < n1:=by omega
 clear hG
 go_enter Tryz.func142,Tryz.ntmps142
 go_wp2_with fail
 go_loopg [7,12] tF (fun k s7 VN wr=>∃ (j:Nat) (hO:List (Nat×Nat×Nat)),VN=.int .i64 j∧j+k=tF∧Fr w wr∧GG wr w.heap.size 120 s7 hO (DX n (g.take j))∧Hid (∀ h,h ∈ hO→∃ (i:Nat) (h':Nat×Nat×Nat),i < j∧hs[i]?=some h'∧h'.1=h.1)∧Hid (DX n (g.take j)=[]→s7=.slice none 0 0))
 case atStart=>exact ⟨0,[],rfl,by omega,Fr.refl _,GG.nil _ _ _ hgn,fun h hm=>by simp at hm,fun _=>rfl⟩
 case round=>
  obtain ⟨j,hO,rfl,hjk,hfr,hgg,hfrom,hemp⟩:=hrel
  by_cases hlt:j < tF
  ·have hjl:j < g.length:=by omega
   obtain ⟨b1,o1,k1,e1,ca1,cf1,ro1,bo1⟩:=(hg.out.fr hfr).at hjl
   have hrl:=hr.out.row hjl
   rw [AN] at ca1
   have hsn:=BN (Ac hjl)
   have hk1:=hcap.out _ (Af e1)
   have hlead:=Sv g[j] (some ⟨b1,o1,none⟩) k1
   generalize hgj:g[j]=row at *
   rw [hrl] at ca1 hlead
   have hks:=Sx n (g.take j) row
   rw [← hsn] at hks
   replace hgj:=hZ hgj
   replace hsn:=hZ hsn
   replace hfrom:=hZ hfrom
   replace hgg:=hZ hgg
   replace e1:=hZ e1
   replace ro1:=hZ ro1
   replace hrl:=hZ hrl
   have zt:(j:Int) < (tF:Int):=by omega
   by_cases hle:(n:Int)≤HD row
   ·rw [Ai hle] at hks
    have hdl:decide ((n:Int)≤HD row)=true:=Ab hle
    replace hks:=hZ hks
    go_wp2_with fail
    refine (hlead _ ro1.out.el (by omega)).mono ?_
    clear hlead
    rintro e w2 ⟨rfl,hf2⟩
    have hln:(DX n (g.take j)).length≤j:=Rv n j g
    have hgg2:=hgg.out.fr hf2
    have hne1:∀ h,h ∈ hO→h.1≠b1:=fun h hm e9=>by
     obtain ⟨i9,h9,hi9,q1,q2⟩:=hfrom.out h hm
     exact hg.out.apart i9 j _ _ q1 e1.out (by omega) (by rw [q2,e9])
    have hbl:b1 < w.heap.size:=(hg.out.row j _ _ e1.out (Ac hjl)).1.2.1
    have hne2:u7.ownBlock≠some b1:=fun e9=>by have:=(hgg2.own.lt b1 e9).1; omega
    obtain ⟨L,hL⟩:∃ L,L=(DX n (g.take j)).length:=⟨_,rfl⟩
    have hown3:=hgg2.own
    rw [← hL] at hown3 hln
    replace hL:=hZ hL
    replace hgg2:=hZ hgg2
    have hnk:¬ k1=n:=by omega
    have hz9:=(hfr.trans hf2).size
    go_wp2_with (at_builtin; refine wpList_append_lies _ rfl _ _ 141 (by rfl) _ 120 _ _ 1 24 Tryz.underlying141 ji jz0 jz1 jz2 rfl (by decide) _ L _ (by rfl) (Az hown3 _) ⟨w2.heap.size,0,none⟩ 1 1 [.slice (some ⟨b1,o1+n,none⟩) (n1 - n) (k1 - n)] (by rfl) rfl (AK _ _ _ _ (by simp)) (by simp [Value.oneCell']) (by decide) (by unfold maxLen; omega) (by omega) (by skip; simp; omega) (w2.heap.size+1) (by simp) ?_; intro gA capA wA hownA hgrowA hatA hltA)
    have hpush:=(hgg2.out.fr ((Fr.refl w2).alloc _)).pushN (hd:=(b1,o1+n,k1 - n)) (xs:=row.drop n) (((ro1.out.drop n).fr hf2).fr ((Fr.refl w2).alloc _)) hne1 hne2 hL.out.symm (by unfold Jq; rw [CJ,hrl.out]) hownA hgrowA (hatA.imp id (fun e=>by rw [e]; simp))
    rw [← hks.out] at hpush
    have hfrA:Fr w wA:=(((hfr.trans hf2).alloc _)).grown hgrowA (fun k e=>(hgg2.out.own.lt k e).1)
    go_roundg (gk - 1)
    case measure=>omega
    case rel=>
     refine ⟨j+1,_,by go_num,by omega,hfrA,hpush,fun h hm=>?_,fun h=>by rw [hks.out] at h; simp at h⟩
     rcases BD.1 hm with h1 | h1
     ·obtain ⟨i9,h9,hi9,q1,q2⟩:=hfrom.out h h1; exact ⟨i9,h9,by omega,q1,q2⟩
     ·simp at h1; subst h1; exact ⟨j,_,by omega,e1.out,rfl⟩
   ·rw [Ag hle,BE] at hks
    replace hks:=hZ hks
    have hle2:HD row < (n:Int):=by omega
    have hdl:decide ((n:Int)≤HD row)=false:=Aa hle
    clear hle
    go_wp2_with fail
    refine (hlead _ ro1.out.el (by omega)).mono ?_
    clear hlead
    rintro e w2 ⟨rfl,hf2⟩
    go_wp2_with fail
    go_roundg (gk - 1)
    case measure=>omega
    case rel=>exact ⟨j+1,hO,by go_num,by omega,hfr.trans hf2,by rw [hks.out]; exact hgg.out.fr hf2,fun h hm=>by obtain ⟨i9,h9,hi9,q1,q2⟩:=hfrom.out h hm; exact ⟨i9,h9,by omega,q1,q2⟩,fun h=>hemp.out (by rw [hks.out] at h; exact h)⟩
  ·have hd:decide (j < tF)=false:=Aa hlt
   obtain rfl:j=tF:=by omega
   have hrK:=MQ (n:=n) hr.out j
   rw [show n1 - n=cols by omega] at hrK
   have hln:(DX n (g.take j)).length≤j:=Rv n j g
   have hGr:=hG1.out.fr hfr
   have hrows:∀ h,h ∈ hO→B≤h.1∧h.1 < w.heap.size:=fun h hm=>by
    obtain ⟨i9,h9,-,q1,q2⟩:=hfrom.out h hm
    have hi9:i9 < g.length:=by rw [← hg.out.len]; exact (Ae.1 q1).1
    have h5:=(hg.out.row i9 h9 _ q1 (Ac hi9)).1.2.1
    exact ⟨hB.out _ (.inr ⟨h9,Af q1,q2⟩),by omega⟩
   rcases QX (DX n (g.take j)).length with h0 | h0
   ·have hnil:=Bf h0
    have hfin:=hf.out
    rw [hnil] at hfin
    have hgk:=hZ (MU cols hfin)
    have hv:u7=.slice none 0 0:=hemp.out hnil
    subst hv
    have hfn:=Pa cols wr hcs (by omega)
    replace hfr:=hZ hfr
    clear hgg hrK hnil hfin hrows
    replace h0:=hZ h0
    go_wp2_with fail
    refine hfn.mono ?_
    rintro e w2 ⟨rfl,hf2⟩
    go_wp2_with fail
    go_ret
    exact ⟨_,rfl,.inl ⟨rfl,hgk.out⟩,Fx.of_fr (hfr.out.trans hf2)⟩
   ·obtain ⟨gO,cO,rfl⟩:=C5 hgg.own h0
    obtain ⟨hgO,-,hbO,hcO⟩:=hgg.grid
    have hfo:=Lv gO 0 cO hO (DX n (g.take j)) gK F cols cols tK wr hGr hgO hrK (by omega) (by omega) (Ah _) hcO hf.out
    have hgO':=hZ hgO
    replace hrows:=hZ hrows
    replace hbO:=hZ hbO
    replace hfr:=hZ hfr
    obtain ⟨L,hL⟩:∃ L,L=(DX n (g.take j)).length:=⟨_,rfl⟩
    rw [← hL] at hfo h0 hcO ⊢
    replace hL:=hZ hL
    replace hfo:=hZ hfo
    clear hgg hrK hgO
    go_wp2_with fail
    refine hfo.out.mono ?_
    rintro e w2 ⟨rfl,ht5,hl5,hr5,hs5,hb5,hfx5,hg5⟩
    go_wp2_with fail
    go_ret
    have hge:∀ k,gb gO hO k→B≤k:=by
     rintro k (rfl | ⟨h,hm2,rfl⟩)
     ·have:=hbO.out; omega
     ·exact (hrows.out h hm2).1
    have hl5L:gK.length=L:=by first | (rw [hl5]; exact hL.out.symm) | (rw [hl5])
    exact ⟨_,rfl,.inr ⟨gO,cO,hs5,gK,tK,rfl,hg5,by omega,by omega,rfl,fun k hk=>hge k ((hb5.1 k).1 hk)⟩,(Fx.of_fr hfr.out).trans (hfx5.mono hge)⟩
theorem Qy {w:World} {base g n c:Nat} {E:TypeId} {l:List Int} (h:w.ownsRow base E 1 (.slice (some ⟨g,0,none⟩) n c) n (l.map iv)):El w iv (some ⟨g,0,none⟩) l:=by
 obtain ⟨-,-,h2,-,h4⟩:=Bo h
 refine .inr ⟨g,0,rfl,h2,fun i x hx=>?_⟩
 rw [AN]
 exact (h4 i (iv x) (by rw [At,hx]; rfl)).1
theorem Wh (v:Value) (n:Nat):(madeCells #[v] n).toList=List.replicate n v:=by
 refine DI (fun i=>?_)
 by_cases hi:i < n
 ·simp [madeCells,hi,Nat.mod_one]
 ·simp [madeCells,hi]
theorem St {z:Value} (n:Nat) (hz:z.cells=#[iv 0]):(madeCells z.cells (n * 1)).toList=(List.replicate n (0:Int)).map iv:=by
 rw [hz,FV,Wh,En]
theorem R7 (n:Nat) (w:World) (hG:G w) (hn1:1≤n) (hn2:n≤1000000) :
 Calls Tryz.prog 141 #[.int .i64 n] w fun e w'=>∃ g c,e=.returned (.slice (some ⟨g,0,none⟩) n c)∧Fr w w'∧w'.ownsRow w.heap.size 80 1 (.slice (some ⟨g,0,none⟩) n c) n ((List.replicate n (0:Int)).map sv):=by
 obtain ⟨i0,hi,hz0,hz1,hz2⟩:=AZ C6
 have hlo:=fun (W:World) a c (hW:Fr w W) (hx:El W iv a (List.replicate n (0:Int)))=>Lm (List.replicate n 0) a c W (hG.fr hW) hx (by simpa using hn2) (fun x hx=>by rw [B7 hx]; unfold Sm; omega)
 simp only [AO] at hlo
 replace hlo:=hZ hlo
 go_enter Tryz.func141,Tryz.ntmps141
 go_wp2_with (at_make; refine Dk _ rfl _ _ 33 rfl w.heap.size 3 i0 _ 1 Tryz.underlying33 hi hz0 hz1 _ _ _ _ n (by rfl) (by rfl) (by omega) (by omega) (by rw [hz2]; omega) (by unfold maxLen; omega) (Ah _) ?_; intro w2 hown2 hgr2)
 rw [St n rfl] at hown2
 have hf2:=(Fr.refl w).grown hgr2 (fun k e=>by cases e)
 refine (hlo.out w2 _ _ hf2 (Qy hown2)).mono ?_
 rintro e w3 ⟨g,c,rfl,hf3,hown3⟩
 have hsz:=hf2.size
 rw [AO] at hown3
 go_wp2_with fail
 go_ret
 exact ⟨g,c,rfl,hf2.trans hf3,Cw hown3 hsz⟩
def Ij (m:List (List Int)) (c:Nat):List Int:=m.map (fun r=>(r[c]?).getD 0)
def D3 (n:Nat) (m:List (List Int)):List (List Int):=(List.range n).map fun c=>Ij m c ++ Dy n c
theorem Jv (n:Nat) (m:List (List Int)):(D3 n m).length=n:=by simp [D3]
theorem Mv {n c:Nat} (m:List (List Int)) (h:c < n):(D3 n m)[c]?=some (Ij m c ++ Dy n c):=by simp [D3,List.getElem?_range h]
theorem GF (m:List (List Int)) (c:Nat):(Ij m c).length=m.length:=by simp [Ij]
theorem Ip (n:Nat) (m:List (List Int)):Bx (m.length+n) (D3 n m):=fun r hr=>by
 unfold D3 at hr
 obtain ⟨c,-,rfl⟩:=Bc.1 hr
 rw [Ar,GF,Hq]
theorem OY (m gW gK:List (List Int)) (a:Option Addr) (cap n F F2 tW tK:Nat) (w:World) (hG:G w) (hm:H9 w a m) (hr:Bx n m) (hn:1≤n) (hn2:n≤1000) (hl:m.length≤1000)
 (hw:CF F (m.length+n) 0 (D3 n m) 0=some (gW,tW)) (hb:CF F2 n 0 (DX m.length (gW.take tW)) 0=some (gK,tK)) :
 Calls Tryz.prog 92 #[.slice a m.length cap,.int .i64 n] w fun e w'=>∃ v,e=.returned v∧LG w' w.heap.size v (gK.take tK)∧Fr w w':=by
 have hgn:=GB hG
 obtain ⟨i0,hi,hz0,hz1,hz2⟩:=AZ Iy
 obtain ⟨i1,ji,jz0,jz1,jz2⟩:=AZ Ls
 have hG1:=hZ hG
 have hm1:=hZ hm
 have hr1:=hZ hr
 obtain ⟨q,hq⟩:∃ q,q=m.length:=⟨_,rfl⟩
 have hwl:=hZ (Jv n m)
 have hrow:=fun c (h:c < n)=>Mv m h
 have hcl:=fun c=>GF m c
 have hwr:=Ip n m
 rw [← hq] at hl hw hb hcl hwr ⊢
 replace hq:=hZ hq
 replace hrow:=hZ hrow
 replace hcl:=hZ hcl
 replace hwr:=hZ hwr
 replace hw:=hZ hw
 replace hb:=hZ hb
 clear hG hm hr
 go_enter Tryz.func92,Tryz.ntmps92
 go_wp2_with fail
 go_loopg [5,12] n (fun k s5 VN wr=>∃ (c:Nat) (hs:List (Nat×Nat×Nat)),VN=.int .i64 c∧c+k=n∧Fr w wr∧GG wr w.heap.size 120 s5 hs ((D3 n m).take c)∧Hid (∀ h,h ∈ hs→w.heap.size≤h.1∧q+n≤h.2.2))
 case atStart=>exact ⟨0,[],rfl,by omega,Fr.refl _,GG.nil _ _ _ hgn,fun h hm=>by simp at hm⟩
 case round=>
  obtain ⟨c,hs,rfl,hck,hf,hgg,hnew⟩:=hrel
  by_cases hlt:c < n
  ·have hsn:=hZ (BN (hrow.out c hlt))
   have hgl:((D3 n m).take c).length=c:=by rw [Av,hwl.out]; omega
   replace hgl:=hZ hgl
   obtain ⟨wo,rfl⟩:∃ wo:World,wo=wr:=⟨_,rfl⟩
   obtain ⟨ko,rfl⟩:∃ ko:Nat,ko=gk:=⟨_,rfl⟩
   replace hgg:=hZ hgg
   have zc0:(0:Int)≤(c:Int):=Aj _
   have zc1:(c:Int) < (n:Int):=by omega
   have zlt:decide (c < n)=true:=Ab hlt
   go_wp2_with fail
   go_loopg [7,17] q (fun k s7 s17 wr2=>∃ t:Nat,s17=.int .i64 t∧t+k=q∧Fr wo wr2∧Hid (wr2.ownsRow wo.heap.size 80 1 s7 t (((Ij m c).take t).map sv)))
   case atStart=>exact ⟨0,rfl,by omega,Fr.refl _,Bl _ _ _ _⟩
   case round=>
    obtain ⟨t,rfl,htk,hf2,hown⟩:=hrel
    by_cases ht:t < q
    ·have htm:t < m.length:=by rw [← hq.out]; exact ht
     obtain ⟨b,o,a',c',rfl,hc1,hel⟩:=(hm1.out.fr (hf.trans hf2)).at htm
     have hlm:=hr1.out.row htm
     obtain ⟨b2,o2,x,rfl,hbl2,hxc,hc2⟩:=hel.at (i:=c) (by rw [hlm]; exact hlt)
     rw [hlm] at hc1
     have hct:(Ij m c)[t]?=some x:=by unfold Ij; rw [At,Ac htm]; show some ((m[t][c]?).getD 0)=_; rw [hxc]; rfl
     have hsn2:=hZ (BN hct)
     replace hlm:=hZ hlm
     replace hct:=hZ hct
     replace hxc:=hZ hxc
     have zt0:(0:Int)≤(t:Int):=Aj _
     have zt1:(t:Int) < (q:Int):=by omega
     have hz9:=(hf.trans hf2).size
     have hz8:=hf2.size
     clear hel
     go_wp2_with (at_builtin; refine wpList_append_lies _ rfl _ _ 120 (by rfl) _ 80 _ _ 1 16 Tryz.underlying120 hi hz0 hz1 hz2 rfl (by decide) _ t _ (by rfl) (Az hown.out _) ⟨wr.heap.size,0,none⟩ 1 1 [sv x] (by rfl) rfl (AK _ _ _ _ (by simp)) (by simp [Value.oneCell']) (by decide) (by unfold maxLen; omega) (by omega) (by skip; simp; omega) (wr.heap.size+1) (by simp) ?_; intro gA capA wA hownA hgrowA hatA hltA)
     go_wp2_with fail
     go_roundg (gk - 1)
     case measure=>omega
     case rel=>exact ⟨t+1,by go_num,by omega,((hf2.alloc _)).grown hgrowA (fun k e=>(hown.out.lt k e).1),by show _; rw [hsn2.out,Ay]; exact hownA⟩
    ·have hd:decide (t < q)=false:=Aa ht
     obtain rfl:t=q:=by omega
     have hown9:=hown.out
     rw [Ao (by rw [hcl.out]; exact Ah _)] at hown9
     replace hown9:=hZ hown9
     have hze:=hZ (fun W (hW:Fr wr W)=>R7 n W (((hG1.out.fr hf).fr hf2).fr hW) hn (by omega))
     clear hown
     go_wp2_with fail
     refine (hze.out _ (Fr.refl _)).mono ?_
     clear hze
     rintro e w3 ⟨g,cz,rfl,hf3,hown3⟩
     have hgW:gN≤wr.heap.size:=by have:=(hf.trans hf2).size; omega
     obtain ⟨hO,-,-,hgb,hcp⟩:=Fh hgW hown3
     obtain ⟨hs1,hs2⟩:=hO.2.2 c 0 (by rw [Cc,Ai hlt])
     rw [AN] at hs1 hs2
     have hO2:=hO.set (k:=c) (by simpa using hlt) 1
     rw [AN,show sv 1=.string ⟨#[49]⟩ from by rw [sv,Fo]] at hO2
     have hf4:Fr wr (w3.setCell ⟨g,c,none⟩ (.string ⟨#[49]⟩)):=hf3.setCell (p:=⟨g,c,none⟩) hgb _
     have hO3:=hZ (show Own (w3.setCell ⟨g,c,none⟩ (.string ⟨#[49]⟩)) g 0 (Dy n c) from hO2)
     have hsrc:∀ t u,((Dy n c).map sv)[t]?=some u→(w3.setCell ⟨g,c,none⟩ (.string ⟨#[49]⟩)).cell? ((⟨g,0,none⟩:Addr).add t)=some u:=fun t u hu=>by
      rw [At] at hu
      cases hx:(Dy n c)[t]? with
      | none=>rw [hx] at hu; simp at hu
      | some x=>
        rw [hx] at hu
        injection hu with hu; subst hu
        have:=(hO3.out.2.2 t x hx).1
        rw [show ((⟨g,0,none⟩:Addr).add t)=⟨g,0+t,none⟩ by unfold Addr.add; split <;> simp_all]
        exact this
     have hone:∀ u ∈ (Dy n c).map sv,u.oneCell'=true:=fun u hu=>by obtain ⟨x,_,rfl⟩:=Bc.1 hu; rfl
     have hml:((Dy n c).map sv).length=n * 1:=by simp [Hq]
     have hsz4:=hf4.size
     have hsz1:=(hf.trans hf2).size
     have hsz2:=hf2.size
     have hown4:=hZ (Bg hown9.out hf4)
     replace hsrc:=hZ hsrc
     replace hone:=hZ hone
     replace hml:=hZ hml
     clear hO hO2 hown3 hown9
     replace hf3:=hZ hf3
     go_upto_region 13 with (fail)
     obtain ⟨w4,hw4⟩:∃ w4,w4=w3.setCell ⟨g,c,none⟩ (.string ⟨#[49]⟩):=⟨_,rfl⟩
     rw [← hw4] at hf4 hO3 hsrc hsz4 hown4 ⊢
     clear hw4 hs1 hs2 hf3
     go_wp2_with (first
     | (at_builtin; refine wpList_append_lies _ rfl _ _ 120 (by rfl) _ 80 _ _ 1 16 Tryz.underlying120 hi hz0 hz1 hz2 rfl (by decide) _ t _ (by rfl) hown4.out ⟨g,0,none⟩ n cz ((Dy n c).map sv) (by rfl) hml.out hsrc.out hone.out (by omega) (by unfold maxLen; omega) (by omega) (by omega) w4.heap.size rfl ?_; intro gA capA wA hownA hgrowA hatA hltA; have hfA:Fr wo wA:=(hf2.trans hf4).grown hgrowA (fun k e=>(hown4.out.lt k e).1); have hggA:=hgg.out.fr hfA; have hownG:=hggA.own; rw [hgl.out] at hownG; replace hggA:=hZ hggA; have hszA:=hfA.size; have hszW:=hf.size)
     | (at_builtin; refine wpList_append_lies _ rfl _ _ 141 (by rfl) _ 120 _ _ 1 24 Tryz.underlying141 ji jz0 jz1 jz2 rfl (by decide) _ c _ (by rfl) (Az hownG _) ⟨wA.heap.size,0,none⟩ 1 1 [.slice (some ⟨gA,0,none⟩) (t+n) capA] (by rfl) rfl (AK _ _ _ _ (by simp)) (by simp [Value.oneCell']) (by decide) (by unfold maxLen; omega) (by omega) (by skip; simp; omega) (wA.heap.size+1) (by simp) ?_; intro gB capB wB hownB hgrowB hatB hltB; skip))
     have hgA:wo.heap.size≤gA:=hatA.elim (fun e=>(hown4.out.lt _ e).1) (fun e=>by omega)
     have hownA2:wA.ownsRow wo.heap.size 80 1 (.slice (some ⟨gA,0,none⟩) (t+n) capA) (t+n) ((Ij m c ++ Dy n c).map sv):=by rw [Ay]; exact hownA
     obtain ⟨hOA,-,-,-,hcpA⟩:=Fh (by omega) hownA2
     have hne:u5.ownBlock≠some gA:=fun e=>by have h9:=(hgg.out.own.lt gA e).2; omega
     have hne2:∀ h',h' ∈ hs→h'.1≠gA:=fun h' hm e2=>by have h9:=hgg.out.lt h' hm; omega
     have hpush:=(hggA.out.fr ((Fr.refl wA).alloc _)).pushN (hd:=(gA,0,capA)) (hOA.fr ((Fr.refl wA).alloc _)) hne2 hne hgl.out (by unfold Jq; rw [Ar,hcl.out,Hq]) hownB hgrowB (hatB.imp id (fun e=>by rw [e]; simp))
     rw [← hsn.out] at hpush
     have hfrB:Fr w wB:=(((hf.trans hfA).alloc _)).grown hgrowB (fun k e=>(hgg.out.own.lt k e).1)
     go_roundg (ko - 1)
     case measure=>omega
     case rel=>exact ⟨c+1,_,by go_num,by omega,hfrB,hpush,fun h hm=>by rcases BD.1 hm with h1 | h1; exact hnew.out h h1; (simp at h1; subst h1; exact ⟨by show w.heap.size≤gA; omega,hcpA⟩)⟩
  ·obtain rfl:c=n:=by omega
   have hd:decide (c < c)=false:=Aa hlt
   have hjm:(D3 c m).take c=D3 c m:=Ao (by rw [hwl.out]; exact Ah _)
   rw [hjm] at hgg
   obtain ⟨gO,cO,rfl⟩:=C5 hgg.own (by rw [hwl.out]; omega)
   obtain ⟨hgO,-,hbO,hcO⟩:=hgg.grid
   have hlen:=hwl.out
   have hfo:=Lv gO 0 cO hs (D3 c m) gW F (q+c) (q+c) tW wr (hG1.out.fr hf) hgO hwr.out (by omega) (by omega) (Ah _) (by omega) hw.out
   have hge:∀ k,gb gO hs k→w.heap.size≤k:=by
    rintro k (rfl | ⟨h,hm2,rfl⟩)
    ·exact hbO
    ·exact (hnew.out h hm2).1
   rw [hlen,CR] at hfo
   rw [hlen] at hcO ⊢
   replace hge:=hZ hge
   replace hgO:=hZ hgO
   replace hfo:=hZ hfo
   replace hlen:=hZ hlen
   clear hjm hgg
   go_wp2_with fail
   refine hfo.out.mono ?_
   clear hfo
   rintro e w5 ⟨rfl,ht5,hl5,hr5,hs5,hb5,hfx5,hg5⟩
   have hG5:G w5:=(hG1.out.fr hf).fx hfx5 (fun k hk=>As hgn (hge.out k hk))
   have hszw:=hf.size
   have hszw5:=hfx5.size
   have hbe:=QC w.heap.size gO cO tW q c (q+c) F2 tK hs5 gW gK w5 hG5 hg5 hr5 rfl hn (by omega) (by omega) (by rw [hl5]; exact ht5) (fun h hm=>(hnew.out h (hb5.2 h hm)).2) hb.out (fun k hk=>hge.out k ((hb5.1 k).1 hk)) (by omega)
   replace hbe:=hZ hbe
   replace hg5:=hZ hg5
   replace hr5:=hZ hr5
   replace hl5:=hZ hl5
   go_wp2_with fail
   refine hbe.out.mono ?_
   rintro e w6 ⟨v6,rfl,hlg6,hfx6⟩
   replace hlg6:=hZ hlg6
   go_wp2_with fail
   go_ret
   exact ⟨v6,rfl,hlg6.out,(((Fx.of_fr hf).trans (hfx5.mono hge.out)).trans hfx6).toFr (fun k hk e=>by omega)⟩
end Go.Proofs.YtiniigadkknboaaGreatDoor
