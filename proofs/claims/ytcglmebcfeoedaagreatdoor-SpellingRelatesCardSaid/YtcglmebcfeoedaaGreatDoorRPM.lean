/- Contracts and laws: RPM. -/
import Derived.Test.YtcglmebcfeoedaaGreatDoorRPL
import Derived.Test.YtcglmebcfeoedaaGreatDoorRSB
import Derived.Test.YtcglmebcfeoedaaGreatDoorRJ
import Derived.Test.YtcglmebcfeoedaaGreatDoorRI
import Derived.Test.YtcglmebcfeoedaaGreatDoorRL
import Derived.Test.YtcglmebcfeoedaaGreatDoorRSC

namespace Go.Proofs.YtcglmebcfeoedaaGreatDoor
open Go.RowKit Go.Lib
structure Sq (m c B:Nat) (g:List (List Int)):Prop where
 low:∀ k,k < c→∀ i,k < i→i < m→ent g i k=0
 pos:∀ k,k < c→0 < ent g k k
 up:∀ k,k < c→∀ i,i < k→0≤ent g i k∧ent g i k < ent g k k
 bd:∀ k,k < c→(ent g k k).natAbs≤B
theorem Sq.done {m c B:Nat} {g g':List (List Int)} (h:Sq m c B g) (d:Done g g' c c m) (hb:(ent g' c c).natAbs≤B):Sq m (c+1) B g':=by
 have old:=fun k (hk:k < c)=>d.old k (fun i a b=>h.low k hk i (by omega) b)
 refine ⟨fun k hk i a b=>?_,fun k hk=>?_,fun k hk i a=>?_,fun k hk=>?_⟩
 ·by_cases e:k=c
  ·subst e; exact d.low i a b
  ·obtain ⟨o1,o2⟩:=old k (by omega)
   by_cases e1:i < c
   ·rw [o2 i e1]; exact h.low k (by omega) i a b
   ·exact o1 i (by omega) b
 ·by_cases e:k=c
  ·subst e; exact d.pos
  ·rw [(old k (by omega)).2 k (by omega)]; exact h.pos k (by omega)
 ·by_cases e:k=c
  ·subst e; exact d.up i a
  ·rw [(old k (by omega)).2 k (by omega),(old k (by omega)).2 i (by omega)]; exact h.up k (by omega) i a
 ·by_cases e:k=c
  ·subst e; exact hb
  ·rw [(old k (by omega)).2 k (by omega)]; exact h.bd k (by omega)
theorem Sq.some {m c B:Nat} {g:List (List Int)} (hm:m≤3) (hc:c < m) (h:Sq m c B g) (hd:dtE m (ent g)≠0):∃ i,c≤i∧i < m∧ent g i c≠0:=by
 refine Classical.byContradiction fun hno=>hd ?_
 have hz:∀ i,c≤i→i < m→ent g i c=0:=fun i a b=>Classical.byContradiction fun h9=>hno ⟨i,a,b,h9⟩
 have h4:m=1∨m=2∨m=3:=by omega
 have l:=h.low
 rcases h4 with rfl | rfl | rfl
 ·obtain rfl:c=0:=by omega
  exact hz 0 (by omega) (by omega)
 ·have:c=0∨c=1:=by omega
  rcases this with rfl | rfl
  ·simp [dtE,hz 0 (by omega) (by omega),hz 1 (by omega) (by omega)]
  ·simp [dtE,hz 1 (by omega) (by omega),l 0 (by omega) 1 (by omega) (by omega)]
 ·have:c=0∨c=1∨c=2:=by omega
  rcases this with rfl | rfl | rfl
  ·simp [dtE,hz 0 (by omega) (by omega),hz 1 (by omega) (by omega),hz 2 (by omega) (by omega)]
  ·simp [dtE,hz 1 (by omega) (by omega),hz 2 (by omega) (by omega),l 0 (by omega) 1 (by omega) (by omega),l 0 (by omega) 2 (by omega) (by omega)]
  ·simp [dtE,hz 2 (by omega) (by omega),l 0 (by omega) 1 (by omega) (by omega),l 0 (by omega) 2 (by omega) (by omega),l 1 (by omega) 2 (by omega) (by omega)]
theorem formS_step {F n c t t':Nat} {g g3:List (List Int)} (h:colF F g c t=some (g3,t')) (ht:t < g.length):formS F (n+1) c g t=formS F n (c+1) g3 t':=by
 rw [formS,if_pos ht,h]; rfl
structure SqForm (d B:Nat) (g gF:List (List Int)):Prop where
 rect:Rect d gF
 len:gF.length=d
 uni:Uni d (ent g) (ent gF)
 sq:Sq d d B gF
theorem sq_next {n d c F:Nat} {g0 g g3:List (List Int)} {B:Nat} (hc:c < d) (hn:c < n) (hr:Rect n g) (hl:g.length=d) (hu:Uni d (ent g0) (ent g)) (hs:Sq d c B g) (h:colF F g c c=some (g3,c+1)) (hb:(ent g3 c c).natAbs≤B) :
 Rect n g3∧g3.length=d∧Uni d (ent g0) (ent g3)∧Sq d (c+1) B g3∧formS F (n - c) c g c=formS F (n - (c+1)) (c+1) g3 (c+1):=by
 obtain ⟨u,a,b,-⟩:=uni_colF F g g3 (c+1) hr (by omega) h
 rw [hl] at u
 rcases colF_shape F g g3 (c+1) hr (by omega) h with ⟨e,-⟩ | ⟨-,dn⟩
 ·omega
 ·rw [hl] at dn
  refine ⟨a,by omega,hu.trans u,hs.done dn hb, ?_⟩
  rw [show n - c=(n - (c+1))+1 by omega]
  exact formS_step h (by omega)
theorem det_next {d c B:Nat} {g0 g:List (List Int)} (hd:d≤3) (hc:c < d) (hu:Uni d (ent g0) (ent g)) (hs:Sq d c B g) (h0:dtE d (ent g0)≠0):∃ i,c≤i∧i < d∧ent g i c≠0 :=
 hs.some hd hc (by rcases uni_det hd hu with h | h <;> omega)
theorem Sq.zero (m B:Nat) (g:List (List Int)):Sq m 0 B g:=⟨fun _ h=>absurd h (Nat.not_lt_zero _),fun _ h=>absurd h (Nat.not_lt_zero _),fun _ h=>absurd h (Nat.not_lt_zero _),fun _ h=>absurd h (Nat.not_lt_zero _)⟩
theorem formS_end {F n c t:Nat} {g:List (List Int)} (h:g.length≤t):formS F n c g t=some (g,t):=by
 cases n
 ·rfl
 ·rw [formS,if_neg (by omega)]
theorem formS_sqN {d n:Nat} {g:List (List Int)} (d1:1≤d) (d3:d≤3) (hdn:d≤n) (hr:Rect n g) (hl:g.length=d) (hb:∀ i,i < d→∀ k,(ent g i k).natAbs≤9) (h0:dtE d (ent g)≠0):∃ gF,formS 200000 n 0 g 0=some (gF,d)∧Rect n gF∧gF.length=d∧Uni d (ent g) (ent gF)∧Sq d d 176418 gF:=by
 have h4:d=1∨d=2∨d=3:=by omega
 have z0:=Sq.zero d 176418 g
 obtain ⟨i,-,hi,hn⟩:=det_next d3 (c:=0) (by omega) .refl z0 h0
 rcases h4 with rfl | rfl | rfl
 ·obtain rfl:i=0:=by omega
  obtain ⟨g1,k1,-,k3⟩:=colF_one (t:=0) (c:=0) (T:=0) (V:=9) (F:=200000) hr (by omega) hn (by omega) (by omega) (by omega) (fun i h=>absurd h (Nat.not_lt_zero _)) (hb 0 (by omega))
  obtain ⟨a1,a2,a3,a4,a5⟩:=sq_next (c:=0) (by omega) (by omega) hr hl .refl z0 k1 (by have:=k3 0; omega)
  exact ⟨g1,a5.trans (formS_end (by omega)),a1,a2,a3,a4⟩
 ·obtain ⟨g1,k1,-,k3⟩:=colF_two (t:=0) (c:=0) (T:=0) (K:=9) (F:=200000) (P2.of hr hl (by omega) (fun i h=>absurd h (Nat.not_lt_zero _)) (hb 0 (by omega)) (hb 1 (by omega))) (by
   have:i=0∨i=1:=by omega
   rcases this with rfl | rfl
   ·exact .inl hn
   ·exact .inr hn) (by omega) (by omega) (by omega) (by omega)
  obtain ⟨a1,a2,a3,a4,a5⟩:=sq_next (c:=0) (by omega) (by omega) hr hl .refl z0 k1 (by have:=(k3 0).1; omega)
  obtain ⟨j,j1,j2,jn⟩:=det_next d3 (c:=1) (by omega) a3 a4 h0
  obtain rfl:j=1:=by omega
  obtain ⟨g2,q1,-,q3⟩:=colF_one (t:=1) (c:=1) (T:=162) (V:=162) (F:=200000) a1 (by omega) jn (by omega) (by omega) (by omega) (fun i h k=>by
   obtain rfl:i=0:=by omega
   exact (k3 k).1) (fun k=>(k3 k).2)
  obtain ⟨b1,b2,b3,b4,b5⟩:=sq_next (c:=1) (by omega) (by omega) a1 a2 a3 a4 q1 (by have:=q3 1; omega)
  exact ⟨g2,(a5.trans b5).trans (formS_end (by omega)),b1,b2,b3,b4⟩
 ·have hsh:ShR 0 g [[ent g 0 0,9],[ent g 1 0,9],[ent g 2 0,9]]:=⟨hl,rfl,fun i hi=>by
   have:i=0∨i=1∨i=2:=by omega
   rcases this with rfl | rfl | rfl <;> rfl,fun i hi k=>by
   have:=hb i hi k
   have h9:i=0∨i=1∨i=2:=by omega
   rcases h9 with rfl | rfl | rfl <;> (show _≤(9:Int); omega)⟩
  obtain ⟨g1,k1,k2⟩:=colF_three (K:=297) (F:=200000) hr hsh (sh_all (hb 0 (by omega) 0) (hb 1 (by omega) 0) (hb 2 (by omega) 0)) (by omega) (by omega) ⟨i,hi,hn⟩
  obtain ⟨a1,a2,a3,a4,a5⟩:=sq_next (c:=0) (by omega) (by omega) hr hl .refl z0 k1 (by have:=k2 0 (by omega) 0; omega)
  obtain ⟨j,j1,j2,jn⟩:=det_next d3 (c:=1) (by omega) a3 a4 h0
  obtain ⟨g2,q1,q2,q3⟩:=colF_two (t:=1) (c:=1) (T:=297) (K:=297) (F:=200000) (P2.of a1 a2 (by omega) (fun i h k=>k2 i (by omega) k) (k2 1 (by omega)) (k2 2 (by omega))) (by
   have:j=1∨j=2:=by omega
   rcases this with rfl | rfl
   ·exact .inl jn
   ·exact .inr jn) (by omega) (by omega) (by omega) (by omega)
  obtain ⟨b1,b2,b3,b4,b5⟩:=sq_next (c:=1) (by omega) (by omega) a1 a2 a3 a4 q1 (by have:=(q3 1).1; omega)
  obtain ⟨l,l1,l2,ln⟩:=det_next d3 (c:=2) (by omega) b3 b4 h0
  obtain rfl:l=2:=by omega
  obtain ⟨g3,r1,-,r3⟩:=colF_one (t:=2) (c:=2) (T:=52396443) (V:=176418) (F:=200000) b1 (by omega) ln (by omega) (by omega) (by omega) (fun i h k=>by
   have:i=0∨i=1:=by omega
   rcases this with rfl | rfl
   ·have:=q2 0 (by omega) k; omega
   ·have:=(q3 k).1; omega) (fun k=>(q3 k).2)
  obtain ⟨c1,c2,c3,c4,c5⟩:=sq_next (c:=2) (by omega) (by omega) b1 b2 b3 b4 r1 (by have:=r3 2; omega)
  exact ⟨g3,((a5.trans b5).trans c5).trans (formS_end (by omega)),c1,c2,c3,c4⟩
theorem formS_sq {d:Nat} {g:List (List Int)} (d1:1≤d) (d3:d≤3) (hr:Rect d g) (hl:g.length=d) (hb:∀ i,i < d→∀ k,(ent g i k).natAbs≤9) (h0:dtE d (ent g)≠0):∃ gF,formS 200000 d 0 g 0=some (gF,d)∧SqForm d 176418 g gF:=by
 obtain ⟨gF,h1,h2,h3,h4,h5⟩:=formS_sqN d1 d3 (Nat.le_refl d) hr hl hb h0
 exact ⟨gF,h1,h2,h3,h4,h5⟩
theorem SqForm.bd {d B:Nat} {g gF:List (List Int)} (h:SqForm d B g gF) (i k:Nat):(ent gF i k).natAbs≤B:=by
 by_cases hk:k < d
 ·by_cases h1:i < k
  ·have:=h.sq.up k hk i h1
   have:=h.sq.bd k hk
   omega
  ·by_cases h2:i=k
   ·rw [h2]; exact h.sq.bd k hk
   ·by_cases h3:i < d
    ·rw [h.sq.low k hk i (by omega) h3]; exact Nat.zero_le _
    ·unfold ent rowAt
     rw [show gF[i]?=none from List.getElem?_eq_none (by have:=h.len; omega)]
     exact Nat.zero_le _
 ·rw [ent_lt h.rect (by omega)]; exact Nat.zero_le _
theorem sp_sum {m:Nat} {E:Nat→Nat→Int} {x:Nat→Int} (h:Spn m E x):∃ c:Nat→Int,∀ k,x k=dotZ c (fun i=>E i k) m:=by
 induction h with
 | zero e=>exact ⟨fun _=>0,fun k=>by rw [e,dotZ_zeroL]⟩
 | @add x y i q hi _ e ih=>
   obtain ⟨c,hc⟩:=ih
   refine ⟨fun j=>c j+if i=j then q else 0,fun k=>?_⟩
   have:=dotZ_delta q i (fun i=>E i k) m
   rw [if_pos hi] at this
   rw [e,hc,dotZ_add,this]
theorem sum_sp {m:Nat} {E:Nat→Nat→Int} (c:Nat→Int):∀ j,j≤m→Spn m E fun k=>dotZ c (fun i=>E i k) j
 | 0,_=>.zero fun _=>rfl
 | j+1,h=>.add j (c j) (by omega) (sum_sp c j (by omega)) fun _=>rfl
theorem dotZ_one {f g:Nat→Int} {j:Nat}:∀ {n:Nat},(∀ i,i < n→i≠j→f i * g i=0)→dotZ f g n=if j < n then f j * g j else 0
 | 0,_=>by rw [if_neg (Nat.not_lt_zero _)]; rfl
 | n+1,h=>by
   show dotZ f g n+f n * g n=_
   rw [dotZ_one (n:=n) (fun i a b=>h i (by omega) b)]
   by_cases e:n=j
   ·subst e; rw [if_neg (by omega),if_pos (by omega)]; omega
   ·rw [h n (by omega) e]
    by_cases e2:j < n
    ·rw [if_pos e2,if_pos (by omega)]; omega
    ·rw [if_neg e2,if_neg (by omega)]; rfl
theorem Sq.zero_of {d B:Nat} {g:List (List Int)} (h:Sq d d B g) {x:Nat→Int} (hx:Spn d (ent g) x) (hs:∀ k,k < d→(x k).natAbs < (ent g k k).natAbs):∀ k,k < d→x k=0:=by
 obtain ⟨c,hc⟩:=sp_sum hx
 have key:∀ j,j≤d→∀ i,i < j→c i=0:=fun j=>by
  induction j with
  | zero=>exact fun _ i hi=>absurd hi (Nat.not_lt_zero _)
  | succ j ih=>
    intro hj i hi
    by_cases e:i=j
    ·subst e
     have h1:=dotZ_one (f:=c) (g:=fun r=>ent g r i) (j:=i) (n:=d) fun r a b=>by
      by_cases e2:r < i
      ·rw [ih (by omega) r e2]; exact Int.zero_mul _
      ·rw [h.low i (by omega) r (by omega) a]; exact Int.mul_zero _
     rw [if_pos (by omega),← hc] at h1
     have h2:=hs i (by omega)
     rw [h1,Int.natAbs_mul] at h2
     refine Classical.byContradiction fun h9=>?_
     have:1 * (ent g i i).natAbs≤(c i).natAbs * (ent g i i).natAbs:=Nat.mul_le_mul_right _ (by omega)
     omega
    ·exact ih (by omega) i (by omega)
 intro k hk
 rw [hc k,dotZ_congr (f':=fun _=>0) (g':=fun i=>ent g i k) fun j hj=>⟨key d (Nat.le_refl _) j hj,rfl⟩,dotZ_zeroL]
def InBox (d:Nat) (g:List (List Int)) (x:Nat→Int):Prop:=∀ k,k < d→0≤x k∧x k < ent g k k
theorem Sq.same {d B:Nat} {g:List (List Int)} (h:Sq d d B g) {x y:Nat→Int} (hx:InBox d g x) (hy:InBox d g y) (hd:Spn d (ent g) fun k=>x k - y k):∀ k,k < d→x k=y k:=fun k hk=>by
 have:=h.zero_of hd (fun k hk=>by have:=hx k hk; have:=hy k hk; show (x k - y k).natAbs < _; omega) k hk
 have:x k - y k=0:=this
 omega
def repF (g:List (List Int)) (x:Nat→Int):Nat→Nat→Int
 | 0=>x
 | i+1=>fun k=>repF g x i k - (repF g x i i).fdiv (ent g i i) * ent g i k
theorem repF_sp {d:Nat} {g:List (List Int)} {x:Nat→Int}:∀ i,i≤d→Spn d (ent g) fun k=>x k - repF g x i k
 | 0,_=>.zero fun k=>by show x k - x k=0; omega
 | i+1,h=>.add (x:=fun k=>x k - repF g x i k) i ((repF g x i i).fdiv (ent g i i)) (by omega) (repF_sp i (by omega)) fun k=>by
    show x k - (repF g x i k - (repF g x i i).fdiv (ent g i i) * ent g i k)=x k - repF g x i k+_
    omega
theorem repF_box {d B:Nat} {g:List (List Int)} (h:Sq d d B g) {x:Nat→Int}:∀ i,i≤d→∀ k,k < i→0≤repF g x i k∧repF g x i k < ent g k k
 | 0,_,k,hk=>absurd hk (Nat.not_lt_zero _)
 | i+1,hi,k,hk=>by
   show 0≤repF g x i k - (repF g x i i).fdiv (ent g i i) * ent g i k∧repF g x i k - (repF g x i i).fdiv (ent g i i) * ent g i k < _
   by_cases e:k=i
   ·subst e
    rw [sub_fmod]
    exact ⟨Int.fmod_nonneg_of_pos _ (h.pos k (by omega)),Int.fmod_lt_of_pos _ (h.pos k (by omega))⟩
   ·rw [h.low k (by omega) i (by omega) (by omega),Int.mul_zero,Int.sub_zero]
    exact repF_box h i (by omega) k (by omega)
theorem pivI_of {xs:List Int} {p:Nat} (h0:∀ k,k < p→(xs[k]?).getD 0=0) (h1:(xs[p]?).getD 0≠0):pivI xs=p:=by
 unfold pivI
 rcases idx_cases (fun x:Int=>x != 0) xs with ⟨-,h⟩ | ⟨k,x,h2,h3,h4,h5⟩
 ·exfalso
  cases e:xs[p]? with
  | none=>rw [e] at h1; exact h1 rfl
  | some y=>
    rw [e] at h1
    have:=h y (List.mem_of_getElem? e)
    simp at this
    exact h1 this
 ·rw [h2]
  have h4:x≠0:=by simpa using h4
  by_cases e1:k < p
  ·have:=h0 k e1; rw [h3] at this; exact absurd this h4
  ·by_cases e2:p < k
   ·cases e:xs[p]? with
    | none=>rw [e] at h1; exact absurd rfl h1
    | some y=>
      rw [e] at h1
      have:=h5 p y e2 e
      simp at this
      exact absurd this h1
   ·omega
theorem Sq.piv {d B:Nat} {g:List (List Int)} (h:Sq d d B g) {i:Nat} (hi:i < d):pivI (rowAt g i)=i :=
 pivI_of (fun k hk=>h.low k (by omega) i hk hi) (by have:=h.pos i hi; show ent g i i≠0; omega)
theorem SqForm.ok {d B:Nat} {g0 g:List (List Int)} (h:SqForm d B g0 g):formOk g=true:=by
 refine List.all_eq_true.2 fun i hi=>?_
 have hi:=List.mem_range.1 hi
 rw [h.len] at hi
 simp only [Bool.and_eq_true,decide_eq_true_eq]
 rw [h.sq.piv hi,Int.toNat_natCast]
 refine ⟨⟨⟨by omega,by have:=h.sq.pos i hi; show 0≤ent g i i; omega⟩, ?_⟩,List.all_eq_true.2 fun x hx=>?_⟩
 ·split
  ·omega
  ·rw [h.sq.piv (show i - 1 < d by omega)]; omega
 ·obtain ⟨j,hj⟩:=List.getElem?_of_mem hx
  have hjl:=(List.getElem?_eq_some_iff.1 hj).1
  rw [List.length_take] at hjl
  rw [List.getElem?_take,if_pos (by omega)] at hj
  have e:x=rowAt g j:=by unfold rowAt; rw [hj]; rfl
  have h9:=h.sq.up i hi j (by omega)
  unfold formB
  rw [e,Bool.not_eq_true',Bool.or_eq_false_iff]
  exact ⟨decide_eq_false (by show ¬ ent g j i < 0; omega),decide_eq_false (by show ¬ ent g i i≤ent g j i; omega)⟩
theorem fdiv_bd {x p:Int} {A:Nat} (hp:0 < p) (h:x.natAbs≤A * p.natAbs):(x.fdiv p).natAbs≤A:=by
 have e:=Int.mul_fdiv_add_fmod x p
 have h2:=Int.fmod_nonneg_of_pos x hp
 have h3:=Int.fmod_lt_of_pos x hp
 generalize x.fdiv p=z at *
 generalize x.fmod p=f at *
 have h4:((A * p.natAbs:Nat):Int)=(A:Int) * p:=by rw [Int.natCast_mul]; congr 1; omega
 refine Classical.byContradiction fun h9=>?_
 have h5:z≤-(A:Int) - 1∨(A:Int)+1≤z:=by omega
 rcases h5 with h5 | h5
 ·have h6:=Int.mul_le_mul_of_nonneg_left h5 (show (0:Int)≤p by omega)
  have h7:p * (-(A:Int) - 1)=-((A:Int) * p) - p:=by grind
  omega
 ·have h6:=Int.mul_le_mul_of_nonneg_left h5 (show (0:Int)≤p by omega)
  have h7:p * ((A:Int)+1)=(A:Int) * p+p:=by grind
  omega
theorem red_ok {d B:Nat} {g0 g:List (List Int)} (h:SqForm d B g0 g) (hd:d≤3) (hB:B < 1000000) {x:List Int} (hl:x.length=d) (hx:∀ k:Nat,((x[k]?).getD 0).natAbs≤9):∀ i,i≤d→∃ s,redT g x i=some s∧(∀ k:Nat,(s.1[k]?).getD 0=repF g (fun k=>(x[k]?).getD 0) i k)∧(∀ y,y ∈ s.2→y.natAbs≤72)∧∀ k:Nat,k < d→((s.1[k]?).getD 0).natAbs≤9 * 2 ^ i * (ent g k k).natAbs
 | 0,_=>⟨(x,[]),rfl,fun _=>rfl,fun y hy=>by (cases hy),fun k hk=>by
    have:=hx k
    have h1:=h.sq.pos k hk
    have:9 * 2 ^ 0 * 1≤9 * 2 ^ 0 * (ent g k k).natAbs:=Nat.mul_le_mul_left _ (by omega)
    show ((x[k]?).getD 0).natAbs≤_
    omega⟩
 | i+1,hi=>by
   obtain ⟨s,h1,h2,h3,h4⟩:=red_ok h hd hB hl hx i (by omega)
   have hp:=h.sq.piv (show i < d by omega)
   have hs1:=(redT_len i s h1).1
   have h2i:2 ^ i≤4:=by
    have:i=0∨i=1∨i=2:=by omega
    rcases this with rfl | rfl | rfl <;> decide
   have hA:9 * 2 ^ i≤36:=by omega
   have hq:=fdiv_bd (h.sq.pos i (by omega)) (h4 i (by omega))
   have hsm:∀ k:Nat,((s.1[k]?).getD 0).natAbs < 100000000:=fun k=>by
    by_cases hk:k < d
    ·have a:=h4 k hk
     have b:=h.sq.bd k hk
     have:9 * 2 ^ i * (ent g k k).natAbs≤36 * B:=Nat.mul_le_mul hA b
     omega
    ·rw [List.getElem?_eq_none (by omega)]; show (0:Int).natAbs < _; decide
   have hrl:=rowAt_len h.rect (show i < g.length by have:=h.len; omega)
   obtain ⟨y,hy⟩:=takeS_some (q:=((s.1[i]?).getD 0).fdiv (ent g i i)) (xs:=s.1) (ys:=rowAt g i) (by rw [hrl,hs1,hl]) (fun _ k=>okT_of (by omega) (by have:=h.bd i k; show (ent g i k).natAbs < _; omega) (by have:=hsm k; omega))
   have hget:=takeS_get hy (by rw [hrl,hs1,hl])
   refine ⟨(y,s.2 ++ [((s.1[i]?).getD 0).fdiv (ent g i i)]), ?_,fun k=>?_,fun z hz=>?_,fun k hk=>?_⟩
   ·show (redT g x i).bind (redStep (rowAt g i))=_
    rw [h1]
    show redStep (rowAt g i) s=_
    unfold redStep
    rw [hp,Int.toNat_natCast]
    have c1:smB ((s.1[i]?).getD 0)=true:=smB_of (by have:=hsm i; omega)
    have c2:smB (((rowAt g i)[i]?).getD 0)=true:=smB_of (by have:=h.bd i i; show (ent g i i).natAbs < _; omega)
    have c3:(((rowAt g i)[i]?).getD 0 != 0)=true:=by
     have:=h.sq.pos i (by omega)
     have h9:ent g i i≠0:=by omega
     exact bne_iff_ne.2 h9
    rw [c1,c2,c3]
    show (takeS (((s.1[i]?).getD 0).fdiv (ent g i i)) s.1 (rowAt g i)).map _=_
    rw [hy]; rfl
   ·rw [hget k,h2,h2]; rfl
   ·rcases List.mem_append.1 hz with h9 | h9
    ·exact h3 z h9
    ·rw [List.mem_singleton] at h9; subst h9; omega
   ·rw [hget k]
    by_cases e:k < i
    ·have:((rowAt g i)[k]?).getD 0=0:=h.sq.low k hk i e (by omega)
     rw [this,Int.mul_zero,Int.sub_zero]
     have:=h4 k hk
     have:9 * 2 ^ i * (ent g k k).natAbs≤9 * 2 ^ (i+1) * (ent g k k).natAbs:=Nat.mul_le_mul_right _ (by rw [Nat.pow_succ]; omega)
     omega
    ·have hle:(((rowAt g i)[k]?).getD 0).natAbs≤(ent g k k).natAbs:=by
      show (ent g i k).natAbs≤_
      by_cases e2:i=k
      ·subst e2; exact Nat.le_refl _
      ·have:=h.sq.up k hk i (by omega); omega
     have:=abs_step (h4 k hk) hq hle
     have e3:9 * 2 ^ (i+1) * (ent g k k).natAbs=9 * 2 ^ i * (ent g k k).natAbs+9 * 2 ^ i * (ent g k k).natAbs:=by rw [Nat.pow_succ]; grind
     omega
def valB (g:List (List Int)) (x:List Int):Nat→Int
 | 0=>0
 | k+1=>valB g x k * digB g k+(x[k]?).getD 0
def szB (g:List (List Int)):Nat→Int
 | 0=>1
 | k+1=>szB g k * digB g k
def BoxL (g:List (List Int)) (k:Nat) (x:List Int):Prop:=∀ j:Nat,j < k→0≤(x[j]?).getD 0∧(x[j]?).getD 0 < digB g j
theorem valB_bd {g:List (List Int)} {x:List Int}:∀ k,BoxL g k x→0≤valB g x k∧valB g x k < szB g k
 | 0,_=>⟨Int.le_refl _,by show (0:Int) < 1; decide⟩
 | k+1,h=>by
   obtain ⟨h1,h2⟩:=valB_bd k fun j hj=>h j (by omega)
   obtain ⟨h3,h4⟩:=h k (by omega)
   have h5:0≤digB g k:=by omega
   refine ⟨Int.add_nonneg (Int.mul_nonneg h1 h5) h3, ?_⟩
   show valB g x k * digB g k+(x[k]?).getD 0 < szB g k * digB g k
   have h6:=Int.mul_le_mul_of_nonneg_right (show valB g x k+1≤szB g k by omega) h5
   rw [Int.add_mul,Int.one_mul] at h6
   omega
theorem valB_congr {g:List (List Int)} {x y:List Int}:∀ k,(∀ j:Nat,j < k→(x[j]?).getD 0=(y[j]?).getD 0)→valB g x k=valB g y k
 | 0,_=>rfl
 | k+1,h=>by
   show valB g x k * _+_=valB g y k * _+_
   rw [valB_congr k fun j hj=>h j (by omega),h k (by omega)]
theorem valB_inj {g:List (List Int)} {x y:List Int}:∀ k,BoxL g k x→BoxL g k y→valB g x k=valB g y k→∀ j:Nat,j < k→(x[j]?).getD 0=(y[j]?).getD 0
 | 0,_,_,_,j,hj=>absurd hj (Nat.not_lt_zero _)
 | k+1,hx,hy,h,j,hj=>by
   have h:valB g x k * digB g k+(x[k]?).getD 0=valB g y k * digB g k+(y[k]?).getD 0:=h
   obtain ⟨a1,a2⟩:=hx k (by omega)
   obtain ⟨b1,b2⟩:=hy k (by omega)
   have key:valB g x k=valB g y k:=by
    refine Classical.byContradiction fun hne=>?_
    have h9:valB g x k+1≤valB g y k∨valB g y k+1≤valB g x k:=by omega
    rcases h9 with h9 | h9
    ·have:=Int.mul_le_mul_of_nonneg_right h9 (show 0≤digB g k by omega)
     rw [Int.add_mul,Int.one_mul] at this; omega
    ·have:=Int.mul_le_mul_of_nonneg_right h9 (show 0≤digB g k by omega)
     rw [Int.add_mul,Int.one_mul] at this; omega
   by_cases e:j=k
   ·subst e; rw [key] at h; omega
   ·exact valB_inj k (fun j hj=>hx j (by omega)) (fun j hj=>hy j (by omega)) key j (by omega)
theorem getD_set (x:List Int) (k:Nat) (v:Int) (hk:k < x.length) (j:Nat):((x.set k v)[j]?).getD 0=if j=k then v else (x[j]?).getD 0:=by
 rw [List.getElem?_set]
 by_cases e:k=j
 ·subst e; rw [if_pos rfl,if_pos hk,if_pos rfl]; rfl
 ·rw [if_neg e,if_neg fun h=>e h.symm]
theorem nextX_val {g:List (List Int)}:∀ (k:Nat) (x:List Int),k≤x.length→(∀ j,j < k→0 < digB g j)→BoxL g k x→(match nextX g k x with | none=>valB g x k+1=szB g k | some y=>BoxL g k y∧valB g y k=valB g x k+1∧(∀ j:Nat,k≤j→(y[j]?).getD 0=(x[j]?).getD 0)∧y.length=x.length)
 | 0,x,_,_,_=>by rw [nextX]; rfl
 | k+1,x,hl,hp,hx=>by
   rw [nextX]
   have hset:=fun v j=>getD_set x k v (by omega) j
   obtain ⟨a1,a2⟩:=hx k (by omega)
   by_cases e:(x[k]?).getD 0=digB g k - 1
   ·rw [if_pos e]
    have hb:BoxL g k (x.set k 0):=fun j hj=>by rw [hset,if_neg (by omega)]; exact hx j (by omega)
    have ih:=nextX_val k (x.set k 0) (by rw [List.length_set]; omega) (fun j hj=>hp j (by omega)) hb
    have hv:valB g (x.set k 0) k=valB g x k:=valB_congr k fun j hj=>by rw [hset,if_neg (by omega)]
    cases hn:nextX g k (x.set k 0) with
    | none=>
      rw [hn] at ih
      replace ih:valB g (x.set k 0) k+1=szB g k:=ih
      rw [hv] at ih
      show valB g x k * digB g k+(x[k]?).getD 0+1=szB g k * digB g k
      rw [← ih,Int.add_mul,Int.one_mul,e]; omega
    | some y=>
      rw [hn] at ih
      obtain ⟨i1,i2,i3,i4⟩:=ih
      have hyk:(y[k]?).getD 0=0:=by rw [i3 k (Nat.le_refl _),hset,if_pos rfl]
      refine ⟨fun j hj=>?_, ?_,fun j hj=>?_,by rw [i4,List.length_set]⟩
      ·by_cases e2:j=k
       ·subst e2; rw [hyk]; exact ⟨Int.le_refl _,hp j (by omega)⟩
       ·exact i1 j (by omega)
      ·show valB g y k * digB g k+(y[k]?).getD 0=valB g x k * digB g k+(x[k]?).getD 0+1
       rw [i2,hv,hyk,e,Int.add_mul,Int.one_mul]; omega
      ·rw [i3 j (by omega),hset,if_neg (by omega)]
   ·rw [if_neg e]
    refine ⟨fun j hj=>?_, ?_,fun j hj=>by rw [hset,if_neg (by omega)],List.length_set⟩
    ·rw [hset]
     by_cases e2:j=k
     ·subst e2; rw [if_pos rfl]; omega
     ·rw [if_neg e2]; exact hx j hj
    ·show valB g _ k * digB g k+_=valB g x k * digB g k+(x[k]?).getD 0+1
     rw [valB_congr (y:=x) k fun j hj=>by rw [hset,if_neg (by omega)],hset,if_pos rfl]; omega
def absP (g:List (List Int)) (p:List Int→Bool) (d:Nat):Nat→List Int→Option (Option (List Int))
 | 0,_=>none
 | f+1,x=>if p x then match nextX g d x with | none=>some none | some y=>absP g p d f y else some (some x)
theorem absP_ok {g:List (List Int)} {p:List Int→Bool} {d:Nat} (hp:∀ j,j < d→0 < digB g j):∀ (f:Nat) (x:List Int),x.length=d→BoxL g d x→szB g d - valB g x d≤f→∃ res,absP g p d f x=some res ∧
 (match res with | none=>∀ y:List Int,y.length=d→BoxL g d y→valB g x d≤valB g y d→p y=true | some y=>y.length=d∧BoxL g d y∧p y=false)
 | 0,x,hl,hb,hf=>by have:=(valB_bd d hb).2; omega
 | f+1,x,hl,hb,hf=>by
   rw [absP]
   by_cases e:p x=true
   ·rw [if_pos e]
    have h:=nextX_val d x (by omega) hp hb
    cases hn:nextX g d x with
    | none=>
      rw [hn] at h
      replace h:valB g x d+1=szB g d:=h
      refine ⟨none,rfl,fun y hy1 hy2 hy3=>?_⟩
      have h1:=(valB_bd d hy2).2
      have h2:=valB_inj d hb hy2 (by omega)
      have:y=x:=List.ext_getElem? fun j=>by
       by_cases hj:j < d
       ·have:=h2 j hj
        rw [List.getElem?_eq_getElem (by omega),List.getElem?_eq_getElem (by omega)] at this ⊢
        simp at this; rw [this]
       ·rw [List.getElem?_eq_none (by omega),List.getElem?_eq_none (by omega)]
      rw [this]; exact e
    | some y=>
      rw [hn] at h
      obtain ⟨i1,i2,-,i4⟩:=h
      obtain ⟨res,r1,r2⟩:=absP_ok hp f y (by omega) i1 (by omega)
      refine ⟨res,r1, ?_⟩
      cases res with
      | some z=>exact r2
      | none=>
        intro z hz1 hz2 hz3
        by_cases e2:valB g x d=valB g z d
        ·have h2:=valB_inj d hb hz2 e2
         have:z=x:=List.ext_getElem? fun j=>by
          by_cases hj:j < d
          ·have:=h2 j hj
           rw [List.getElem?_eq_getElem (by omega),List.getElem?_eq_getElem (by omega)] at this ⊢
           simp at this; rw [this]
          ·rw [List.getElem?_eq_none (by omega),List.getElem?_eq_none (by omega)]
         rw [this]; exact e
        ·exact r2 z hz1 hz2 (by omega)
   ·rw [if_neg e]
    exact ⟨some x,rfl,hl,hb,by simpa using e⟩
theorem absP_congr {g:List (List Int)} {p q:List Int→Bool} {d:Nat} (hp:∀ j,j < d→0 < digB g j) (h:∀ x:List Int,x.length=d→BoxL g d x→p x=q x):∀ (f:Nat) (x:List Int),x.length=d→BoxL g d x→absP g p d f x=absP g q d f x
 | 0,_,_,_=>rfl
 | f+1,x,hl,hb=>by
   rw [absP,absP,h x hl hb]
   have h9:=nextX_val d x (by omega) hp hb
   cases hn:nextX g d x with
   | none=>rfl
   | some y=>
     rw [hn] at h9
     obtain ⟨i1,-,-,i4⟩:=h9
     show (if _ then absP g p d f y else _)=if _ then absP g q d f y else _
     rw [absP_congr hp h f y (by omega) i1]
theorem mC_one {m C C':List (List Int)} {n:Nat} {D D':Int} (h:SpOk m C C' n D D') {i c:Nat} (hi:i < n) (hc:c < n):dotZ (fun j=>entZ m c j) (fun j=>entZ C j i) n=if c=i then D else 0:=by
 refine Int.eq_of_mul_eq_mul_left h.inv'.d0 ?_
 have e1:D' * dotZ (fun j=>entZ m c j) (fun j=>entZ C j i) n=D * dotZ (fun j=>entZ C' i j) (fun j=>entZ (trM n m) j c) n:=by
  rw [dotZ_comm,← dotZ_mulL,← dotZ_mulL]
  refine dotZ_congr fun j hj=>⟨(tr_inv h.inv h.inv' hi hj).symm,(entZ_trM hj).symm⟩
 rw [e1,h.inv'.one i c hi hc]
 by_cases e:i=c
 ·rw [if_pos e,if_pos e.symm,Int.mul_comm]
 ·rw [if_neg e,if_neg (fun h=>e h.symm),Int.mul_zero,Int.mul_zero]
theorem solve_num {m C:List (List Int)} {n:Nat} {D:Int} (h:InvIs m n C D) {z cs:List Int} (hs:solveS (divC C D) z n=some cs):cs.length=n∧∀ j,j < n→D * (cs[j]?).getD 0=dotZ (fun k=>(z[k]?).getD 0) (fun k=>entZ C k j) n:=by
 have hall:(∀ j,j < n→(sumQ (divC C D) z j n).den=1)∧cs=numsQ (divC C D) z n:=by
  unfold solveS at hs
  split at hs
  ·rename_i h9
   injection hs with hs
   exact ⟨fun j hj=>of_decide_eq_true (List.all_eq_true.1 h9 j (List.mem_range.2 hj)),hs.symm⟩
  ·cases hs
 have hD:(D:Rat)≠0:=intQ_ne h.d0
 refine ⟨by rw [hall.2]; exact numsQ_len _ _ _,fun j hj=>?_⟩
 have h1:=hall.1 j hj
 have h2:=sumQ_dot h z hj n (Nat.le_refl _)
 rw [hall.2,numsQ_get hj]
 show D * (sumQ (divC C D) z j n).num=_
 generalize sumQ (divC C D) z j n=q at *
 have h3:q=(q.num:Rat):=by
  have:=Rat.num_divInt_den q
  rw [h1,Rat.divInt_eq_div,show (((1:Nat):Int):Rat)=1 from rfl] at this
  grind
 refine Rat.intCast_inj.1 ?_
 rw [Rat.intCast_mul,← h3,h2]
 generalize ((dotZ (fun k=>(z[k]?).getD 0) (fun k=>entZ C k j) n:Int):Rat)=y at *
 grind
theorem solve_span {m C C':List (List Int)} {n:Nat} {D D':Int} (h:SpOk m C C' n D D') {z:List Int} {c:Nat→Int} (hz:∀ k,k < n→(z[k]?).getD 0=dotZ c (fun i=>entZ m i k) n):∃ cs,solveS (divC C D) z n=some cs∧cs.length=n∧∀ i,i < n→(cs[i]?).getD 0=c i:=by
 have hD:(D:Rat)≠0:=intQ_ne h.inv.d0
 have key:∀ i,i < n→sumQ (divC C D) z i n=((c i:Int):Rat):=fun i hi=>by
  have e:dotZ (fun j=>(z[j]?).getD 0) (fun j=>entZ C j i) n=D * c i:=by
   have e1:dotZ (fun j=>(z[j]?).getD 0) (fun j=>entZ C j i) n=dotZ (fun k=>dotZ c (fun i=>entZ m i k) n) (fun j=>entZ C j i) n:=dotZ_congr fun j hj=>⟨hz j hj,rfl⟩
   have e2:dotZ c (fun t=>dotZ (fun j=>entZ m t j) (fun j=>entZ C j i) n) n=dotZ c (fun t=>if i=t then D else 0) n:=dotZ_congr fun t ht=>⟨rfl,by
    show dotZ (fun j=>entZ m t j) (fun j=>entZ C j i) n=_
    rw [mC_one h hi ht]
    by_cases e:t=i
    ·rw [if_pos e,if_pos e.symm]
    ·rw [if_neg e,if_neg (fun h=>e h.symm)]⟩
   rw [e1,dotZ_swap c (fun i k=>entZ m i k),e2,dotZ_comm]
   have:=dotZ_delta D i c n
   rw [if_pos hi] at this
   exact this
  rw [sumQ_dot h.inv z hi n (Nat.le_refl _),e,Rat.intCast_mul]
  generalize ((c i:Int):Rat)=y
  grind
 have h1:=solveS_some (I:=divC C D) (d:=z) (r:=n) fun i hi=>by rw [key i hi,Rat.den_intCast]
 refine ⟨_,h1,numsQ_len _ _ _,fun i hi=>?_⟩
 rw [numsQ_get hi,key i hi,Rat.num_intCast]; rfl
theorem ent_out {m:List (List Int)} {n k:Nat} (hr:Rect n m) (hk:n≤k) (i:Nat):ent m i k=0:=ent_lt hr hk
theorem solve_iff {m C C':List (List Int)} {n:Nat} {D D':Int} (h:SpOk m C C' n D D') (hr:Rect n m) {z:List Int} (hz:z.length=n):(solveS (divC C D) z n).isSome=true ↔ Spn n (ent m) (fun k=>(z[k]?).getD 0):=by
 constructor
 ·intro h1
  obtain ⟨cs,hs⟩:=Option.isSome_iff_exists.1 h1
  obtain ⟨h2,h3⟩:=solve_num h.inv hs
  have h4:=sum_sp (E:=ent m) (fun i=>(cs[i]?).getD 0) n (Nat.le_refl _)
  refine h4.congr fun k=>?_
  by_cases hk:k < n
  ·refine Int.eq_of_mul_eq_mul_left h.inv.d0 ?_
   have e2:dotZ (fun j=>D * (cs[j]?).getD 0) (fun j=>ent m j k) n=dotZ (fun j=>dotZ (fun k=>(z[k]?).getD 0) (fun k=>entZ C k j) n) (fun j=>entZ m j k) n:=dotZ_congr fun j hj=>⟨h3 j hj,rfl⟩
   have e3:dotZ (fun i=>(z[i]?).getD 0) (fun i=>dotZ (fun j=>entZ C i j) (fun j=>entZ m j k) n) n=dotZ (fun i=>(z[i]?).getD 0) (fun i=>if k=i then D else 0) n:=dotZ_congr fun i hi=>⟨rfl,by
    show dotZ (fun j=>entZ C i j) (fun j=>entZ m j k) n=_
    rw [h.inv.one i k hi hk]
    by_cases e:i=k
    ·rw [if_pos e,if_pos e.symm]
    ·rw [if_neg e,if_neg (fun h=>e h.symm)]⟩
   have e4:=dotZ_delta D k (fun i=>(z[i]?).getD 0) n
   rw [if_pos hk] at e4
   rw [← dotZ_mulL,e2,dotZ_swap (fun i=>(z[i]?).getD 0) (fun i j=>entZ C i j),e3,dotZ_comm,e4]
  ·rw [List.getElem?_eq_none (by omega)]
   have e5:dotZ (fun i=>(cs[i]?).getD 0) (fun i=>ent m i k) n=dotZ (fun i=>(cs[i]?).getD 0) (fun _=>0) n:=dotZ_congr fun j _=>⟨rfl,ent_out hr (by omega) j⟩
   rw [e5,dotZ_comm,dotZ_zeroL]; rfl
 ·intro h1
  obtain ⟨c,hc⟩:=sp_sum h1
  obtain ⟨cs,hs,-⟩:=solve_span h (c:=c) fun k _=>hc k
  rw [hs]; rfl
theorem itoa_no32 (n:Int):(32:UInt8) ∉ (tx n).data.toList:=by
 rw [tx_list]
 unfold itoa
 intro h
 have hd:∀ u:Nat,(32:UInt8) ∉ decDigits u:=fun u h=>by have:=dec_digits u _ h; revert this; decide
 split at h
 ·rcases List.mem_cons.1 h with h | h
  ·revert h; decide
  ·exact hd _ h
 ·exact hd _ h
theorem tx_map_inj:∀ {xs ys:List Int},xs.map tx=ys.map tx→xs=ys
 | [],[],_=>rfl
 | [],_ :: _,h=>by simp at h
 | _ :: _,[],h=>by simp at h
 | x :: xs,y :: ys,h=>by
   rw [List.map_cons,List.map_cons] at h
   injection h with h1 h2
   rw [tx_inj h1,tx_map_inj h2]
theorem rowTx_inj {xs ys:List Int} (hl:xs.length=ys.length) (h:rowTx xs=rowTx ys):xs=ys:=by
 have h1:(joinW (xs.map tx))=joinW (ys.map tx):=by
  have h2:=congrArg (fun b:ByteArray=>b.data.toList) h
  unfold rowTx at h2
  simp only [ByteArray.data_append,Array.toList_append] at h2
  have h3:=List.append_cancel_right h2
  exact ba_ext (List.append_cancel_left h3)
 cases xs with
 | nil=>rw [List.length_nil] at hl; exact (List.eq_nil_of_length_eq_zero hl.symm).symm
 | cons x xs=>
   cases ys with
   | nil=>simp at hl
   | cons y ys=>
     have hn:∀ (z:Int) (l:List Int),∀ w,w ∈ tx z :: l.map tx→(32:UInt8) ∉ w.data.toList:=fun z l w hw=>by
      rcases List.mem_cons.1 hw with rfl | hw
      ·exact itoa_no32 _
      ·obtain ⟨v,-,rfl⟩:=List.mem_map.1 hw; exact itoa_no32 _
     have a1:=(split_joinW (tx x) (xs.map tx) (hn x xs)).2
     have a2:=(split_joinW (tx y) (ys.map tx) (hn y ys)).2
     rw [List.map_cons,List.map_cons] at h1
     rw [h1,a2] at a1
     exact (tx_map_inj (xs:=y :: ys) (ys:=x :: xs) (by rw [List.map_cons,List.map_cons]; exact a1)).symm
theorem row_ext {x y:List Int} {d:Nat} (hx:x.length=d) (hy:y.length=d) (h:∀ k:Nat,k < d→(x[k]?).getD 0=(y[k]?).getD 0):x=y:=List.ext_getElem? fun j=>by
 by_cases hj:j < d
 ·have:=h j hj
  rw [List.getElem?_eq_getElem (by omega),List.getElem?_eq_getElem (by omega)] at this ⊢
  simp at this; rw [this]
 ·rw [List.getElem?_eq_none (by omega),List.getElem?_eq_none (by omega)]
def subR (x y:List Int):List Int:=List.zipWith (· - ·) x y
theorem subR_get {x y:List Int} {d:Nat} (hx:x.length=d) (hy:y.length=d) (k:Nat):((subR x y)[k]?).getD 0=(x[k]?).getD 0 - (y[k]?).getD 0:=by
 unfold subR
 rw [List.getElem?_zipWith]
 by_cases hk:k < d
 ·rw [List.getElem?_eq_getElem (show k < x.length by omega),List.getElem?_eq_getElem (show k < y.length by omega)]; rfl
 ·rw [List.getElem?_eq_none (show x.length≤k by omega),List.getElem?_eq_none (show y.length≤k by omega)]; rfl
section
variable {m g:List (List Int)} {d B:Nat}
structure RepIs (m g:List (List Int)) (d:Nat) (x y:List Int):Prop where
 len:y.length=d
 box:BoxL g d y
 sp:Spn d (ent m) fun k=>(x[k]?).getD 0 - (y[k]?).getD 0
theorem rest_rep (hg:SqForm d B m g) (hd:d≤3) (hB:B < 1000000) {x:List Int} (hl:x.length=d) (hx:∀ y,y ∈ x→y.natAbs≤9) :
 RepIs m g d x (restU g x)∧(∃ s,redT g x d=some s∧s.1=restU g x∧(∀ y,y ∈ s.1→y.natAbs≤72 * B)∧∀ y,y ∈ s.2→y.natAbs≤72):=by
 have hx':∀ k:Nat,((x[k]?).getD 0).natAbs≤9:=fun k=>by
  cases e:x[k]? with
  | none=>exact Nat.zero_le _
  | some y=>exact hx y (List.mem_of_getElem? e)
 obtain ⟨s,h1,h2,h3,h4⟩:=red_ok hg hd hB hl hx' d (Nat.le_refl _)
 have e:restU g x=s.1:=by unfold restU; rw [hg.len,h1]; rfl
 have hsl:=(redT_len d s h1).1
 have hb:=fun k (hk:k < d)=>repF_box hg.sq (x:=fun k=>(x[k]?).getD 0) d (Nat.le_refl _) k hk
 have hs:=repF_sp (g:=g) (x:=fun k=>(x[k]?).getD 0) d (Nat.le_refl _)
 rw [e]
 refine ⟨⟨by rw [hsl,hl],fun k hk=>?_,(uni_sp hg.uni _).2 (hs.congr fun k=>by rw [h2])⟩,s,h1,rfl,fun y hy=>?_,h3⟩
 ·rw [h2]; exact hb k hk
 ·obtain ⟨k,hk⟩:=List.getElem?_of_mem hy
  have hkd:k < d:=by rw [← hl,← hsl]; exact (List.getElem?_eq_some_iff.1 hk).1
  have:=hb k hkd
  rw [← h2,hk,Option.getD_some] at this
  have:=hg.sq.bd k hkd
  omega
theorem box_same (hg:SqForm d B m g) {y z:List Int} (hy:y.length=d) (hz:z.length=d) (by':BoxL g d y) (bz:BoxL g d z) (h:Spn d (ent m) fun k=>(y[k]?).getD 0 - (z[k]?).getD 0):y=z :=
 row_ext hy hz fun k hk=>hg.sq.same (x:=fun k=>(y[k]?).getD 0) (y:=fun k=>(z[k]?).getD 0) (fun k hk=>by' k hk) (fun k hk=>bz k hk) ((uni_sp hg.uni _).1 h) k hk
theorem RepIs.eq_iff (hg:SqForm d B m g) {x y z:List Int} (h:RepIs m g d x y) (hz:z.length=d) (bz:BoxL g d z):z=y ↔ Spn d (ent m) fun k=>(z[k]?).getD 0 - (x[k]?).getD 0:=by
 constructor
 ·rintro rfl
  exact (Spn.addmul (x:=fun _=>0) (-1) (.zero fun _=>rfl) h.sp).congr fun k=>by omega
 ·intro hs
  refine box_same hg hz h.len bz h.box ?_
  exact (hs.addmul 1 h.sp).congr fun k=>by omega
theorem RepIs.same_iff (hg:SqForm d B m g) {x x' y y':List Int} (h:RepIs m g d x y) (h':RepIs m g d x' y'):y=y' ↔ Spn d (ent m) fun k=>(x[k]?).getD 0 - (x'[k]?).getD 0:=by
 rw [RepIs.eq_iff hg h' h.len h.box]
 constructor
 ·intro hs; exact (hs.addmul 1 h.sp).congr fun k=>by omega
 ·intro hs; exact (hs.addmul (-1) h.sp).congr fun k=>by omega
end
theorem nd_le:∀ {l1 l2:List Nat},l1.Nodup→(∀ a,a ∈ l1→a ∈ l2)→l1.length≤l2.length
 | [],_,_,_=>Nat.zero_le _
 | a :: l,l2,h,hs=>by
   obtain ⟨s,t,rfl⟩:=List.append_of_mem (hs a List.mem_cons_self)
   obtain ⟨h1,h2⟩:=List.nodup_cons.1 h
   have ih:=nd_le (l1:=l) (l2:=s ++ t) h2 fun b hb=>by
    have:=hs b (List.mem_cons_of_mem _ hb)
    rcases List.mem_append.1 this with h3 | h3
    ·exact List.mem_append.2 (.inl h3)
    ·rcases List.mem_cons.1 h3 with h4 | h4
     ·subst h4; exact absurd hb h1
     ·exact List.mem_append.2 (.inr h4)
   rw [List.length_append,List.length_cons]
   rw [List.length_append] at ih
   rw [List.length_cons]; omega
theorem nd_map {f:Nat→Nat} {M:Nat} (h:∀ i j,i < j→j < M→f i≠f j):((List.range M).map f).Nodup:=by
 rw [List.nodup_iff_pairwise_ne,List.pairwise_map]
 refine List.Pairwise.imp_of_mem (R:=fun i j=>i < j) (fun {a b} ha hb hab=>h a b hab (List.mem_range.1 hb)) List.pairwise_lt_range
theorem count_eq {g:List (List Int)} {d M:Nat} (hp:∀ j,j < d→0 < digB g j) {R:Nat→List Int} (hR:∀ i,i < M→(R i).length=d∧BoxL g d (R i)) (hne:∀ i j,i < j→j < M→R i≠R j) (hall:∀ y:List Int,y.length=d→BoxL g d y→∃ i,i < M∧R i=y):(M:Int)=szB g d:=by
 have hv:∀ i,i < M→0≤valB g (R i) d∧valB g (R i) d < szB g d:=fun i hi=>valB_bd d (hR i hi).2
 obtain ⟨f,hf⟩:∃ f:Nat→Nat,f=fun i=>(valB g (R i) d).toNat:=⟨_,rfl⟩
 have hinj:∀ i j,i < j→j < M→f i≠f j:=fun i j hij hj e=>by
  rw [hf] at e
  have e:(valB g (R i) d).toNat=(valB g (R j) d).toNat:=e
  have a:=hv i (by omega)
  have b:=hv j hj
  have h1:valB g (R i) d=valB g (R j) d:=by omega
  exact hne i j hij hj (row_ext (hR i (by omega)).1 (hR j hj).1 (valB_inj d (hR i (by omega)).2 (hR j hj).2 h1))
 have h1:=nd_le (l2:=List.range (szB g d).toNat) (nd_map hinj) fun a ha=>by
  obtain ⟨i,hi,rfl⟩:=List.mem_map.1 ha
  have:=hv i (List.mem_range.1 hi)
  rw [hf]
  exact List.mem_range.2 (by show (valB g (R i) d).toNat < _; omega)
 have hex:∀ v:Nat,(v:Int) < szB g d→∃ y:List Int,y.length=d∧BoxL g d y∧valB g y d=v:=fun v=>by
  induction v with
  | zero=>
    intro _
    have hz:∀ j:Nat,((List.replicate d (0:Int))[j]?).getD 0=0:=fun j=>by rw [List.getElem?_replicate]; split <;> rfl
    refine ⟨List.replicate d 0,List.length_replicate,fun j hj=>by rw [hz]; exact ⟨Int.le_refl _,hp j hj⟩, ?_⟩
    have:∀ k,valB g (List.replicate d 0) k=0:=fun k=>by
     induction k with
     | zero=>rfl
     | succ k ih=>show valB g _ k * _+_=_; rw [ih,hz]; omega
    exact this d
  | succ v ih=>
    intro hlt
    obtain ⟨y,y1,y2,y3⟩:=ih (by omega)
    have h9:=nextX_val d y (by omega) hp y2
    cases hn:nextX g d y with
    | none=>
      rw [hn] at h9
      replace h9:valB g y d+1=szB g d:=h9
      omega
    | some z=>
      rw [hn] at h9
      obtain ⟨i1,i2,-,i4⟩:=h9
      exact ⟨z,by omega,i1,by omega⟩
 have h2:=nd_le (l1:=List.range (szB g d).toNat) (l2:=(List.range M).map f) List.nodup_range fun v hv'=>by
  obtain ⟨y,y1,y2,y3⟩:=hex v (by have:=List.mem_range.1 hv'; omega)
  obtain ⟨i,hi,rfl⟩:=hall y y1 y2
  exact List.mem_map.2 ⟨i,List.mem_range.2 hi,by rw [hf]; show (valB g (R i) d).toNat=v; omega⟩
 rw [List.length_map,List.length_range,List.length_range] at h1 h2
 have:0≤szB g d:=by
  by_cases h0:M=0
  ·have:∀ k,(∀ j,j < k→0 < digB g j)→0 < szB g k:=fun k=>by
    induction k with
    | zero=>intro _; show (0:Int) < 1; decide
    | succ k ih=>intro h; exact Int.mul_pos (ih fun j hj=>h j (by omega)) (h k (by omega))
   have:=this d hp; omega
  ·have:=hv 0 (by omega); omega
 omega
theorem absT_abs {g:List (List Int)} {l:List ByteArray} {d:Nat} (hp:∀ j,j < d→0 < digB g j) (hf:∀ x:List Int,x.length=d→BoxL g d x→x.all fitB=true):∀ (f:Nat) (x:List Int),x.length=d→BoxL g d x→absT g l d f x=absP g (fun x=>l.any fun y=>y.toList == (rowTx x).toList) d f x
 | 0,_,_,_=>rfl
 | f+1,x,hl,hb=>by
   rw [absT,absP,if_pos (hf x hl hb)]
   have h9:=nextX_val d x (by omega) hp hb
   cases hn:nextX g d x with
   | none=>rfl
   | some y=>
     rw [hn] at h9
     obtain ⟨i1,-,-,i4⟩:=h9
     show (if _ then absT g l d f y else _)=if _ then absP g _ d f y else _
     rw [absT_abs hp hf f y (by omega) i1]
theorem dtE_detM {m:List (List Int)} {d:Nat} (hd:d≤3) (hm:m.length=d) (hr:∀ r,r ∈ m→r.length=d):dtE d (ent m)=detM m:=by
 have h4:d=0∨d=1∨d=2∨d=3:=by omega
 rcases h4 with rfl | rfl | rfl | rfl
 ·rw [List.eq_nil_of_length_eq_zero hm]; rfl
 ·obtain ⟨r,rfl⟩:=list1 hm
  obtain ⟨a,rfl⟩:=list1 (hr r (by simp))
  rfl
 ·obtain ⟨r,s,rfl⟩:=list2 hm
  obtain ⟨a,b,rfl⟩:=list2 (hr r (by simp))
  obtain ⟨c,e,rfl⟩:=list2 (hr s (by simp))
  rfl
 ·obtain ⟨r,s,t,rfl⟩:=list3 hm
  obtain ⟨a,b,c,rfl⟩:=list3 (hr r (by simp))
  obtain ⟨e,f,g,rfl⟩:=list3 (hr s (by simp))
  obtain ⟨h,i,j,rfl⟩:=list3 (hr t (by simp))
  show a * (f * j - g * i) - b * (e * j - g * h)+c * (e * i - f * h)=det3 a b c e f g h i j
  unfold det3
  grind
theorem szB_det {g:List (List Int)} {d B:Nat} (hd:d≤3) (h:Sq d d B g):dtE d (ent g)=szB g d:=by
 have h4:d=0∨d=1∨d=2∨d=3:=by omega
 rcases h4 with rfl | rfl | rfl | rfl
 ·rfl
 ·show ent g 0 0=1 * digB g 0
  rw [Int.one_mul]; rfl
 ·have h1:=h.low 0 (by omega) 1 (by omega) (by omega)
  show ent g 0 0 * ent g 1 1 - ent g 0 1 * ent g 1 0=1 * digB g 0 * digB g 1
  rw [h1]
  show ent g 0 0 * ent g 1 1 - ent g 0 1 * 0=1 * ent g 0 0 * ent g 1 1
  grind
 ·have h1:=h.low 0 (by omega) 1 (by omega) (by omega)
  have h2:=h.low 0 (by omega) 2 (by omega) (by omega)
  have h3:=h.low 1 (by omega) 2 (by omega) (by omega)
  show ent g 0 0 * (ent g 1 1 * ent g 2 2 - ent g 1 2 * ent g 2 1) - ent g 0 1 * (ent g 1 0 * ent g 2 2 - ent g 1 2 * ent g 2 0)+ent g 0 2 * (ent g 1 0 * ent g 2 1 - ent g 1 1 * ent g 2 0)=1 * ent g 0 0 * ent g 1 1 * ent g 2 2
  rw [h1,h2,h3]
  grind
theorem spF_isSome {f:Nat→Option (List Int)} {M:Nat}:(spF f M).isSome=true ↔ ∃ i,i < M∧(f i).isSome=true:=by
 constructor
 ·intro h
  obtain ⟨⟨i,cs⟩,h⟩:=Option.isSome_iff_exists.1 h
  obtain ⟨h1,h2⟩:=spF_inv h
  exact ⟨i,h1,by rw [h2]; rfl⟩
 ·rintro ⟨i,hi,h⟩
  cases h9:spF f M with
  | some p=>rfl
  | none=>
    exfalso
    have:=List.findSome?_eq_none_iff.1 h9 i (List.mem_range.2 hi)
    obtain ⟨cs,hc⟩:=Option.isSome_iff_exists.1 h
    rw [hc] at this; cases this
structure Rows42 (RN RA:List (List Int)) (d M:Nat) (C:List (List Int)) (D:Int) (C':List (List Int)) (D':Int):Prop where
 d1:1≤d
 d3:d≤3
 lA:RA.length=d
 rA:∀ q,q ∈ RA→q.length=d∧∀ x,x ∈ q→x.natAbs≤9
 det:detM RA≠0
 lN:RN.length=M
 rN:∀ q,q ∈ RN→q.length=d∧∀ x,x ∈ q→x.natAbs≤9
 ok:SpOk RA C C' d D D'
section
variable {RN RA C C':List (List Int)} {d M:Nat} {D D':Int}
theorem Rows42.row (h:Rows42 RN RA d M C D C' D') {i:Nat} (hi:i < M):(rowAt RN i).length=d∧∀ x,x ∈ rowAt RN i→x.natAbs≤9:=by
 rw [rowAt_eq (by rw [h.lN]; exact hi)]
 exact h.rN _ (List.getElem_mem _)
theorem Rows42.form (h:Rows42 RN RA d M C D C' D'):∃ B,formS 200000 d 0 RA 0=some (B,d)∧SqForm d 176418 RA B :=
 formS_sq h.d1 h.d3 (fun q hq=>(h.rA q hq).1) h.lA (fun i hi k=>by
  have hm:rowAt RA i ∈ RA:=by rw [rowAt_eq (by rw [h.lA]; exact hi)]; exact List.getElem_mem _
  unfold ent
  cases e:(rowAt RA i)[k]? with
  | none=>exact Nat.zero_le _
  | some y=>exact (h.rA _ hm).2 y (List.mem_of_getElem? e)) (by rw [dtE_detM h.d3 h.lA fun q hq=>(h.rA q hq).1]; exact h.det)
theorem Rows42.iff (h:Rows42 RN RA d M C D C' D') {r:List Int} (hr:r.length=d) {i:Nat} (hi:i < M):(toF C D RN d r i).isSome=true ↔ Spn d (ent RA) fun k=>(r[k]?).getD 0 - ((rowAt RN i)[k]?).getD 0:=by
 have h1:=(h.row hi).1
 unfold toF
 rw [solve_iff h.ok (fun q hq=>(h.rA q hq).1) (by rw [List.length_zipWith,hr,h1]; exact Nat.min_self _)]
 have e:(fun k:Nat=>((subR r (rowAt RN i))[k]?).getD 0)=fun k:Nat=>(r[k]?).getD 0 - ((rowAt RN i)[k]?).getD 0:=funext fun k=>subR_get hr h1 k
 unfold subR at e
 rw [e]
theorem Rows42.rep (h:Rows42 RN RA d M C D C' D') {B:List (List Int)} (hB:SqForm d 176418 RA B) {i:Nat} (hi:i < M):RepIs RA B d (rowAt RN i) (restU B (rowAt RN i)) :=
 (rest_rep hB h.d3 (by decide) (h.row hi).1 (h.row hi).2).1
theorem Rows42.dig (_:Rows42 RN RA d M C D C' D') {B:List (List Int)} (hB:SqForm d 176418 RA B):∀ j,j < d→0 < digB B j:=fun j hj=>hB.sq.pos j hj
theorem Rows42.fit (_:Rows42 RN RA d M C D C' D') {B:List (List Int)} (hB:SqForm d 176418 RA B):∀ x:List Int,x.length=d→BoxL B d x→x.all fitB=true:=fun x hl hb=>List.all_eq_true.2 fun y hy=>by
 obtain ⟨k,hk⟩:=List.getElem?_of_mem hy
 have hkd:k < d:=by rw [← hl]; exact (List.getElem?_eq_some_iff.1 hk).1
 have h1:=hb k hkd
 rw [hk,Option.getD_some] at h1
 have h2:=hB.sq.bd k hkd
 have h3:digB B k=ent B k k:=rfl
 exact decide_eq_true ⟨by omega,by omega⟩
theorem Rows42.keys (h:Rows42 RN RA d M C D C' D') {B:List (List Int)} (hB:SqForm d 176418 RA B) {x:List Int} (hl:x.length=d) (hb:BoxL B d x) :
 ((RN.map fun q=>rowTx (restU B q)).any fun y=>y.toList == (rowTx x).toList)=(spF (toF C D RN d x) M).isSome:=by
 have key:((RN.map fun q=>rowTx (restU B q)).any fun y=>y.toList == (rowTx x).toList)=true ↔ (spF (toF C D RN d x) M).isSome=true:=by
  rw [spF_isSome,List.any_eq_true]
  constructor
  ·rintro ⟨y,hy,he⟩
   obtain ⟨q,hq,rfl⟩:=List.mem_map.1 hy
   obtain ⟨i,hi⟩:=List.getElem?_of_mem hq
   have hiM:i < M:=by rw [← h.lN]; exact (List.getElem?_eq_some_iff.1 hi).1
   have hqi:rowAt RN i=q:=by rw [rowAt_eq (by rw [h.lN]; exact hiM)]; exact (List.getElem?_eq_some_iff.1 hi).2
   have hrep:=h.rep hB hiM
   rw [hqi] at hrep
   have he:=eq_of_beq he
   rw [ByteArray.toList_eq,ByteArray.toList_eq] at he
   have hx:=rowTx_inj (by rw [hrep.len,hl]) (ba_ext he)
   refine ⟨i,hiM,(h.iff hl hiM).2 ?_⟩
   rw [hqi]
   exact (hrep.eq_iff hB hl hb).1 hx.symm
  ·rintro ⟨i,hi,hs⟩
   have hrep:=h.rep hB hi
   have hx:=(hrep.eq_iff hB hl hb).2 ((h.iff hl hi).1 hs)
   refine ⟨_,List.mem_map.2 ⟨rowAt RN i,by rw [rowAt_eq (by rw [h.lN]; exact hi)]; exact List.getElem_mem _,rfl⟩, ?_⟩
   rw [← hx]; exact beq_self_eq_true _
 cases h1:(spF (toF C D RN d x) M).isSome with
 | true=>exact key.2 h1
 | false=>
   cases h2:(RN.map fun q=>rowTx (restU B q)).any fun y=>y.toList == (rowTx x).toList with
   | false=>rfl
   | true=>rw [key.1 h2] at h1; cases h1
theorem Rows42.search (h:Rows42 RN RA d M C D C' D') {B:List (List Int)} (hB:SqForm d 176418 RA B):∃ F res,absP B (fun x=>(spF (toF C D RN d x) M).isSome) d F (List.replicate d 0)=some res∧absT B (RN.map fun q=>rowTx (restU B q)) d F (List.replicate d 0)=some res ∧
 (res=none→∀ y:List Int,y.length=d→BoxL B d y→(spF (toF C D RN d y) M).isSome=true):=by
 have hp:=h.dig hB
 have hz:∀ j:Nat,((List.replicate d (0:Int))[j]?).getD 0=0:=fun j=>by rw [List.getElem?_replicate]; split <;> rfl
 have hz1:(List.replicate d (0:Int)).length=d:=List.length_replicate
 have hz2:BoxL B d (List.replicate d 0):=fun j hj=>by rw [hz]; exact ⟨Int.le_refl _,hp j hj⟩
 have hz3:valB B (List.replicate d 0) d=0:=by
  have:∀ k,valB B (List.replicate d 0) k=0:=fun k=>by
   induction k with
   | zero=>rfl
   | succ k ih=>show valB B _ k * _+_=_; rw [ih,hz]; omega
  exact this d
 obtain ⟨res,h1,h2⟩:=absP_ok (p:=fun x=>(spF (toF C D RN d x) M).isSome) hp (szB B d).toNat (List.replicate d 0) hz1 hz2 (by omega)
 refine ⟨_,res,h1, ?_, ?_⟩
 ·rw [absT_abs hp (h.fit hB) _ _ hz1 hz2,absP_congr hp (fun x hl hb=>h.keys hB hl hb) _ _ hz1 hz2]
  exact h1
 ·rintro rfl y hy hb
  exact h2 y hy hb (by rw [hz3]; exact (valB_bd d hb).1)
def NoTwo (C:List (List Int)) (D:Int) (RN:List (List Int)) (d M:Nat):Prop:=∀ i j,i < j→j < M→toF C D RN d (rowAt RN j) i=none
theorem Rows42.one (h:Rows42 RN RA d M C D C' D') (hno:NoTwo C D RN d M) {r:List Int} (hr:r.length=d) {i j:Nat} (hi:i < M) (hj:j < M) (h1:(toF C D RN d r i).isSome=true) (h2:(toF C D RN d r j).isSome=true):i=j:=by
 have key:∀ i j,i < j→j < M→(toF C D RN d r i).isSome=true→(toF C D RN d r j).isSome=true→False:=fun i j hij hj h1 h2=>by
  have a:=(h.iff hr (by omega)).1 h1
  have b:=(h.iff hr hj).1 h2
  have c:=(h.iff (h.row hj).1 (show i < M by omega)).2 ((a.addmul (-1) b).congr fun k=>by omega)
  rw [hno i j hij hj] at c; cases c
 refine Classical.byContradiction fun hne=>?_
 rcases Nat.lt_or_gt_of_ne hne with h9 | h9
 ·exact key i j h9 hj h1 h2
 ·exact key j i h9 hi h2 h1
theorem Rows42.full (h:Rows42 RN RA d M C D C' D') {B:List (List Int)} (hB:SqForm d 176418 RA B) (hall:∀ y:List Int,y.length=d→BoxL B d y→(spF (toF C D RN d y) M).isSome=true) {r:List Int} (hr:r.length=d):(spF (toF C D RN d r) M).isSome=true:=by
 obtain ⟨y,hyl,hyg⟩:∃ y:List Int,y.length=d∧∀ k:Nat,(y[k]?).getD 0=repF B (fun k=>(r[k]?).getD 0) d k:=by
  refine ⟨(List.range d).map fun k=>repF B (fun k=>(r[k]?).getD 0) d k,by rw [List.length_map,List.length_range],fun k=>?_⟩
  by_cases hk:k < d
  ·rw [List.getElem?_map,List.getElem?_range hk]; rfl
  ·rw [List.getElem?_eq_none (by rw [List.length_map,List.length_range]; omega)]
   have:∀ i,i≤d→repF B (fun k=>(r[k]?).getD 0) i k=0:=fun i=>by
    induction i with
    | zero=>intro _; show (r[k]?).getD 0=0; rw [List.getElem?_eq_none (by omega)]; rfl
    | succ i ih=>intro hi; show repF B _ i k - _ * ent B i k=0; rw [ih (by omega),ent_lt (i:=i) (k:=k) hB.rect (by omega),Int.mul_zero,Int.sub_zero]
   exact (this d (Nat.le_refl _)).symm
 have hbox:BoxL B d y:=fun k hk=>by rw [hyg]; exact repF_box hB.sq d (Nat.le_refl _) k hk
 obtain ⟨i,hi,hs⟩:=spF_isSome.1 (hall y hyl hbox)
 have h1:=(h.iff hyl hi).1 hs
 have h2:=(uni_sp hB.uni _).2 (repF_sp (g:=B) (x:=fun k=>(r[k]?).getD 0) d (Nat.le_refl _))
 exact spF_isSome.2 ⟨i,hi,(h.iff hr hi).2 ((h1.addmul 1 h2).congr fun k=>by rw [hyg]; omega)⟩
theorem Rows42.count (h:Rows42 RN RA d M C D C' D') {B:List (List Int)} (hB:SqForm d 176418 RA B) (hno:NoTwo C D RN d M) (hall:∀ y:List Int,y.length=d→BoxL B d y→(spF (toF C D RN d y) M).isSome=true):(M:Int)=((detM RA).natAbs:Int):=by
 have h1:=count_eq (g:=B) (d:=d) (M:=M) (h.dig hB) (R:=fun i=>restU B (rowAt RN i)) (fun i hi=>⟨(h.rep hB hi).len,(h.rep hB hi).box⟩) (fun i j hij hj e=>by
  have:=((h.rep hB (show i < M by omega)).same_iff hB (h.rep hB hj)).1 e
  have c:=(h.iff (h.row hj).1 (show i < M by omega)).2 ((Spn.addmul (x:=fun _=>0) (-1) (.zero fun _=>rfl) this).congr fun k=>by omega)
  rw [hno i j hij hj] at c; cases c) (fun y hy hb=>by
  obtain ⟨i,hi,hs⟩:=spF_isSome.1 (hall y hy hb)
  exact ⟨i,hi,((h.rep hB hi).eq_iff hB hy hb |>.2 ((h.iff hy hi).1 hs)).symm⟩)
 have h2:=szB_det h.d3 hB.sq
 have h3:=uni_det h.d3 hB.uni
 rw [dtE_detM h.d3 h.lA fun q hq=>(h.rA q hq).1,h2] at h3
 omega
end
end Go.Proofs.YtcglmebcfeoedaaGreatDoor
