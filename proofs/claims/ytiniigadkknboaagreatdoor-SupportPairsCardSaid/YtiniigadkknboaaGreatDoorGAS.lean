/- Contracts and laws: GAS. -/
import Derived.Test.YtiniigadkknboaaGreatDoorGAR

namespace Go.Proofs.YtiniigadkknboaaGreatDoor
open Go.RowKit Go.Lib
theorem NU {n i k:Nat} {g:List (List Int)} (h:Bx n g) (hk:n≤k):AC g i k=0:=by
 unfold AC BT
 cases e:g[i]? with
 | none=>simp
 | some r=>rw [BB,A3 (by rw [h r (Af e)]; exact hk)]; rfl
theorem RE {g:List (List Int)} {i:Nat} {r:List Int} (hi:i < g.length) (j k:Nat):AC (g.set i r) j k=if j=i then (r[k]?).getD 0 else AC g j k:=by
 unfold AC BT
 rw [Cp]
 by_cases e:i=j
 ·subst e; rw [Ai rfl,Ai hi,Ai rfl,BB]
 ·rw [Ag e,Ag (fun h=>e h.symm)]
theorem KN {g:List (List Int)} {i j:Nat} (hi:i < g.length) (hj:j < g.length) (r k:Nat):AC (DT g i j) r k=if r=j then AC g i k else if r=i then AC g j k else AC g r k:=by
 unfold AC BT
 rw [Fb g i j (Ac hi) (Ac hj)]
 by_cases e:r=j
 ·rw [Ai e,Ai e,Ac hi]
 ·rw [Ag e,Ag e]
  by_cases e2:r=i
  ·rw [Ai e2,Ai e2,Ac hj]
  ·rw [Ag e2,Ag e2]
theorem Sc {q:Int} {xs ys zs:List Int} (h:Dw q xs ys=some zs) (hl:ys.length=xs.length) (k:Nat):(zs[k]?).getD 0=(xs[k]?).getD 0 - q * (ys[k]?).getD 0:=by
 unfold Dw at h
 split at h
 ·rename_i h0; injection h with h; rw [h,h0,CZ,Int.sub_zero]
 ·obtain ⟨h1,h2⟩:=Ff q xs ys zs h
  by_cases hk:k < xs.length
  ·obtain ⟨y,hy,-,hz⟩:=h2 k _ (Ac hk)
   rw [hz,hy,Ac hk]; rfl
  ·rw [A3 (by omega),A3 (by omega),A3 (by omega)]; simp
theorem K5 {q:Int}:∀ {xs ys:List Int},ys.length=xs.length→(∀ k:Nat,T9 q ((xs[k]?).getD 0) ((ys[k]?).getD 0)=true)→∃ zs,GY q xs ys=some zs
 | [],ys,_,_=>⟨[],rfl⟩
 | x :: xs,[],h,_=>by simp at h
 | x :: xs,y :: ys,h,hk=>by
   obtain ⟨zs,hz⟩:=K5 (q:=q) (xs:=xs) (ys:=ys) (by simpa using h) (fun k=>by simpa using hk (k+1))
   have h0:=hk 0
   simp only [List.getElem?_cons_zero,BB] at h0
   exact ⟨_,by rw [GY,Ai h0,hz]; rfl⟩
theorem P7 {q:Int} {xs ys:List Int} (hl:ys.length=xs.length) (hk:q≠0→∀ k:Nat,T9 q ((xs[k]?).getD 0) ((ys[k]?).getD 0)=true):∃ zs,Dw q xs ys=some zs:=by
 unfold Dw
 split
 ·exact ⟨_,rfl⟩
 ·rename_i h; exact K5 hl (hk h)
theorem EQ {n i:Nat} {g:List (List Int)} (h:Bx n g) (hi:i < g.length):(BT g i).length=n:=by rw [CU hi]; exact h.row hi
def Ma (g:List (List Int)) (c t i:Nat):Int:=(AC g i c).fdiv (AC g t c)
theorem MY {n:Nat} {g g':List (List Int)} {c t i:Nat} (h:Gd g c t i=some g') (hr:Bx n g) (hi:i < g.length) (ht:t < g.length) (j k:Nat):AC g' j k=if j=i then AC g i k - Ma g c t i * AC g t k else AC g j k:=by
 obtain ⟨-,-,-,r,h1,rfl⟩:=Er h
 rw [RE hi]
 by_cases e:j=i
 ·rw [Ai e,Ai e]; exact Sc h1 (by rw [EQ hr hi,EQ hr ht]) k
 ·rw [Ag e,Ag e]
theorem UK {n:Nat} {g:List (List Int)} {c t i:Nat} (hr:Bx n g) (hi:i < g.length) (ht:t < g.length) (h0:AC g t c≠0) (h1:Jz (AC g i c)=true) (h2:Jz (AC g t c)=true) (h3:Ma g c t i≠0→∀ k,T9 (Ma g c t i) (AC g i k) (AC g t k)=true):∃ g',Gd g c t i=some g':=by
 obtain ⟨zs,hz⟩:=P7 (q:=Ma g c t i) (xs:=BT g i) (ys:=BT g t) (by rw [EQ hr hi,EQ hr ht]) h3
 unfold Gd
 rw [Ai (by simp only [Bm,Bs,ne_eq]; exact ⟨⟨h1,h2⟩,h0⟩)]
 exact ⟨_,by unfold Ma at hz; rw [hz]; rfl⟩
theorem DQ {n:Nat} {g:List (List Int)} {c t s:Nat} (hr:Bx n g) (ht:t < g.length):∀ (j:Nat) (g':List (List Int)),Ca g c t s j=some g'→s+j≤g.length→(t < s∨s+j≤t)→∀ i k,AC g' i k=if s≤i∧i < s+j then AC g i k - Ma g c t i * AC g t k else AC g i k
 | 0,g',h,_,_,i,k=>by injection h with h; subst h; rw [Ag (by omega)]
 | j+1,g',h,hl,hts,i,k=>by
   obtain ⟨g1,h1,h2⟩:=AY.1 h
   have ih:=DQ hr ht j g1 h1 (by omega) (by omega)
   obtain ⟨hr1,hl1⟩:=Ci hr j g1 h1 (by omega)
   have e1:=MY h2 hr1 (by omega) (by omega) i k
   have et:∀ k,AC g1 t k=AC g t k:=fun k=>by rw [ih t k,Ag (by omega)]
   have es:∀ k,AC g1 (s+j) k=AC g (s+j) k:=fun k=>by rw [ih (s+j) k,Ag (by omega)]
   rw [e1]
   by_cases e:i=s+j
   ·rw [Ai e,Ai (by omega),e]
    unfold Ma
    rw [et,es,et,es]
   ·rw [Ag e,ih i k]
    by_cases e2:s≤i∧i < s+j
    ·rw [Ai e2,Ai (by omega)]
    ·rw [Ag e2,Ag (by omega)]
theorem H2 {n:Nat} {g:List (List Int)} {c t s:Nat} (hr:Bx n g) (ht:t < g.length) (h0:AC g t c≠0) (h2:Jz (AC g t c)=true):∀ j,s+j≤g.length→(t < s∨s+j≤t)→(∀ i,s≤i→i < s+j→Jz (AC g i c)=true∧(Ma g c t i≠0→∀ k,T9 (Ma g c t i) (AC g i k) (AC g t k)=true))→∃ g',Ca g c t s j=some g'
 | 0,_,_,_=>⟨g,rfl⟩
 | j+1,hl,hts,hb=>by
   obtain ⟨g1,h1⟩:=H2 hr ht h0 h2 j (by omega) (by omega) (fun i a b=>hb i a (by omega))
   have ih:=DQ hr ht j g1 h1 (by omega) (by omega)
   obtain ⟨hr1,hl1⟩:=Ci hr j g1 h1 (by omega)
   have et:∀ k,AC g1 t k=AC g t k:=fun k=>by rw [ih t k,Ag (by omega)]
   have es:∀ k,AC g1 (s+j) k=AC g (s+j) k:=fun k=>by rw [ih (s+j) k,Ag (by omega)]
   have hbj:=hb (s+j) (by omega) (by omega)
   have eq:Ma g1 c t (s+j)=Ma g c t (s+j):=by unfold Ma; rw [et,es]
   obtain ⟨g2,h3⟩:=UK (c:=c) (i:=s+j) (t:=t) hr1 (by omega) (by omega) (by rw [et]; exact h0) (by rw [es]; exact hbj.1) (by rw [et]; exact h2) (fun hq k=>by rw [eq,et,es]; exact hbj.2 (by rw [← eq]; exact hq) k)
   exact ⟨g2,by rw [Ca,h1]; exact h3⟩
theorem HS {n:Nat} {g:List (List Int)} {c t s:Nat} (hr:Bx n g) (ht:t < g.length):∀ (j:Nat) (g':List (List Int)),Ca g c t s j=some g'→s+j≤g.length→t < s→(EB g c t s j=true ↔ ∃ i,s≤i∧i < s+j∧(AC g i c).fmod (AC g t c)≠0)
 | 0,g',h,_,_=>by
   rw [EB]
   exact ⟨fun h=>(by cases h),fun ⟨i,a,b,_⟩=>(by omega)⟩
 | j+1,g',h,hl,hts=>by
   obtain ⟨g1,h1,h2⟩:=AY.1 h
   have ih:=HS hr ht j g1 h1 (by omega) hts
   have ie:=DQ hr ht j g1 h1 (by omega) (.inl hts)
   have et:AC g1 t c=AC g t c:=by rw [ie t c,Ag (by omega)]
   have es:AC g1 (s+j) c=AC g (s+j) c:=by rw [ie (s+j) c,Ag (by omega)]
   rw [EB,h1,Bool.or_eq_true,ih]
   show (_∨(!decide ((AC g1 (s+j) c).fmod (AC g1 t c)=0))=true) ↔ _
   rw [et,es,Gi,decide_eq_false_iff_not]
   constructor
   ·rintro (⟨i,a,b,h⟩ | h)
    ·exact ⟨i,a,by omega,h⟩
    ·exact ⟨s+j,by omega,by omega,h⟩
   ·rintro ⟨i,a,b,h⟩
    by_cases e:i=s+j
    ·subst e; exact .inr h
    ·exact .inl ⟨i,a,by omega,h⟩
theorem H1 {g:List (List Int)} {t:Nat} (ht:t < g.length) (j k:Nat):AC (g.set t ((BT g t).map fun x=>-x)) j k=if j=t then -AC g t k else AC g j k:=by
 rw [RE ht]
 by_cases e:j=t
 ·rw [Ai e,Ai e,At]
  unfold AC
  cases (BT g t)[k]? <;> simp
 ·rw [Ag e,Ag e]
inductive N0 (m:Nat) (E:Nat→Nat→Int):(Nat→Nat→Int)→Prop
 | refl:N0 m E E
 | op {E1 E2:Nat→Nat→Int} (i t:Nat) (q:Int):i < m→t < m→i≠t→N0 m E E1→(∀ r k,E2 r k=if r=i then E1 i k - q * E1 t k else E1 r k)→N0 m E E2
 | swap {E1 E2:Nat→Nat→Int} (i j:Nat):i < m→j < m→N0 m E E1→(∀ r k,E2 r k=if r=j then E1 i k else if r=i then E1 j k else E1 r k)→N0 m E E2
 | neg {E1 E2:Nat→Nat→Int} (i:Nat):i < m→N0 m E E1→(∀ r k,E2 r k=if r=i then -E1 i k else E1 r k)→N0 m E E2
theorem N0.trans {m:Nat} {E F H:Nat→Nat→Int} (h:N0 m E F) (k:N0 m F H):N0 m E H:=by
 induction k with
 | refl=>exact h
 | op i t q a b c _ e ih=>exact .op i t q a b c ih e
 | swap i j a b _ e ih=>exact .swap i j a b ih e
 | neg i a _ e ih=>exact .neg i a ih e
theorem VW {g:List (List Int)} {i j:Nat} (hi:i < g.length) (hj:j < g.length):N0 g.length (AC g) (AC (DT g i j)):=.swap i j hi hj .refl fun r k=>KN hi hj r k
theorem GW {n:Nat} {g:List (List Int)} {c t s:Nat} (hr:Bx n g) (ht:t < g.length):∀ (j:Nat) (g':List (List Int)),Ca g c t s j=some g'→s+j≤g.length→(t < s∨s+j≤t)→N0 g.length (AC g) (AC g')
 | 0,g',h,_,_=>by injection h with h; subst h; exact .refl
 | j+1,g',h,hl,hts=>by
   obtain ⟨g1,h1,h2⟩:=AY.1 h
   obtain ⟨hr1,hl1⟩:=Ci hr j g1 h1 (by omega)
   exact .op (s+j) t (Ma g1 c t (s+j)) (by omega) ht (by omega) (GW hr ht j g1 h1 (by omega) (by omega)) (fun r k=>MY h2 hr1 (by omega) (by omega) r k)
theorem To {n:Nat} {g g':List (List Int)} {c t:Nat} (hr:Bx n g) (ht:t < g.length) (h:Fv g t c=some g'):N0 g.length (AC g) (AC g')∧Bx n g'∧g'.length=g.length:=by
 unfold Fv at h
 split at h
 ·split at h
  ·have hr2:Bx n (g.set t ((BT g t).map fun x=>-x)):=hr.set (by rw [An,EQ hr ht])
   have h1:=GW hr2 (by rw [A0]; exact ht) t g' h (by rw [A0]; omega) (.inr (by omega))
   have h2:=Ci hr2 t g' h (by rw [A0]; omega)
   rw [A0] at h1 h2
   exact ⟨N0.trans (.neg t ht .refl fun r k=>H1 ht r k) h1,h2⟩
  ·cases h
 ·exact ⟨GW hr ht t g' h (by omega) (.inr (by omega)),Ci hr t g' h (by omega)⟩
theorem KV {n c t:Nat}:∀ (F:Nat) (g g':List (List Int)) (t':Nat),Bx n g→t < g.length→E3 F g c t=some (g',t')→N0 g.length (AC g) (AC g')∧Bx n g'∧g'.length=g.length∧(t'=t∨t'=t+1)
 | 0,_,_,_,_,_,h=>by cases h
 | F+1,g,g',t',hr,ht,h=>by
   rw [JP h] at h
   cases hp:Cm g c t (g.length - t) with
   | none=>
     rw [hp] at h; injection h with h; injection h with h1 h2; subst h1; subst h2
     exact ⟨.refl,hr,rfl,.inl rfl⟩
   | some k=>
     rw [hp] at h
     obtain ⟨g2,h1,h2⟩:=AY.1 h
     have hk:=ER _ _ hp
     have u1:=VW (g:=g) (i:=t) (j:=k) ht (by omega)
     have hr1:Bx n (DT g t k):=Ht hr
     have hl1:=GZ g t k
     have u2:=GW hr1 (by omega) _ g2 h1 (by omega) (.inl (by omega))
     obtain ⟨hr2,hl2⟩:=Ci hr1 _ g2 h1 (by omega)
     rw [hl1] at u2 hl2
     have u3:=u1.trans u2
     split at h2
     ·obtain ⟨u4,a,b,e⟩:=KV F g2 g' t' hr2 (by omega) h2
      rw [hl2] at u4 b
      exact ⟨u3.trans u4,a,b,e⟩
     ·split at h2
      ·obtain ⟨g3,h3,h4⟩:=BO.1 h2
       injection h4 with h4 h5; subst h4; subst h5
       obtain ⟨u4,a,b⟩:=To hr2 (by omega) h3
       rw [hl2] at u4 b
       exact ⟨u3.trans u4,a,b,.inr rfl⟩
      ·cases h2
inductive DL (m:Nat) (E:Nat→Nat→Int):(Nat→Int)→Prop
 | zero {x:Nat→Int}:(∀ k,x k=0)→DL m E x
 | add {x y:Nat→Int} (i:Nat) (q:Int):i < m→DL m E x→(∀ k,y k=x k+q * E i k)→DL m E y
theorem DL.row {m:Nat} {E:Nat→Nat→Int} {i:Nat} (h:i < m):DL m E (E i):=.add (x:=fun _=>0) i 1 h (.zero fun _=>rfl) fun k=>by omega
theorem DL.congr {m:Nat} {E:Nat→Nat→Int} {x y:Nat→Int} (h:DL m E x) (e:∀ k,y k=x k):DL m E y:=by
 rw [show y=x from funext e]; exact h
theorem DL.addmul {m:Nat} {E:Nat→Nat→Int} {x y:Nat→Int} (q:Int) (h:DL m E x) (k:DL m E y):DL m E fun j=>x j+q * y j:=by
 induction k with
 | zero e=>exact h.congr fun j=>by rw [e]; omega
 | add i p a _ e ih=>exact .add i (q * p) a ih fun j=>by show _=_+_; rw [e]; grind
theorem DL.sub {m:Nat} {E F:Nat→Nat→Int} {x:Nat→Int} (h:∀ i,i < m→DL m F (E i)) (k:DL m E x):DL m F x:=by
 induction k with
 | zero e=>exact .zero e
 | add i q a _ e ih=>exact (ih.addmul q (h i a)).congr e
theorem Nk {m:Nat} {E F:Nat→Nat→Int} (h:N0 m E F):∀ x,DL m E x ↔ DL m F x:=by
 induction h with
 | refl=>exact fun _=>Iff.rfl
 | @op E1 E2 i t q hi ht hit _ e ih=>
   refine fun x=>(ih x).trans ⟨fun h=>h.sub fun r hr=>?_,fun h=>h.sub fun r hr=>?_⟩
   ·by_cases e1:r=i
    ·subst e1
     refine ((DL.row hi).addmul q (DL.row (E:=E2) ht)).congr fun k=>?_
     rw [e r k,Ai rfl,e t k,Ag (fun h=>hit h.symm)]; omega
    ·exact (DL.row hr).congr fun k=>by rw [e r k,Ag e1]
   ·by_cases e1:r=i
    ·subst e1
     refine ((DL.row hi).addmul (-q) (DL.row (E:=E1) ht)).congr fun k=>?_
     rw [e r k,Ai rfl,Int.neg_mul]; omega
    ·exact (DL.row hr).congr fun k=>by rw [e r k,Ag e1]
 | @swap E1 E2 i j hi hj _ e ih=>
   refine fun x=>(ih x).trans ⟨fun h=>h.sub fun r hr=>?_,fun h=>h.sub fun r hr=>?_⟩
   ·by_cases e1:r=i
    ·subst e1; exact (DL.row hj).congr fun k=>by rw [e j k,Ai rfl]
    ·by_cases e2:r=j
     ·subst e2; exact (DL.row hi).congr fun k=>by rw [e i k,Ag (fun h=>e1 h.symm),Ai rfl]
     ·exact (DL.row hr).congr fun k=>by rw [e r k,Ag e2,Ag e1]
   ·by_cases e2:r=j
    ·subst e2; exact (DL.row hi).congr fun k=>by rw [e r k,Ai rfl]
    ·by_cases e1:r=i
     ·subst e1; exact (DL.row hj).congr fun k=>by rw [e r k,Ag e2,Ai rfl]
     ·exact (DL.row hr).congr fun k=>by rw [e r k,Ag e2,Ag e1]
 | @neg E1 E2 i hi _ e ih=>
   refine fun x=>(ih x).trans ⟨fun h=>h.sub fun r hr=>?_,fun h=>h.sub fun r hr=>?_⟩
   ·by_cases e1:r=i
    ·subst e1
     exact (DL.addmul (x:=fun _=>0) (-1) (.zero fun _=>rfl) (DL.row (E:=E2) hi)).congr fun k=>by rw [e r k,Ai rfl]; omega
    ·exact (DL.row hr).congr fun k=>by rw [e r k,Ag e1]
   ·by_cases e1:r=i
    ·subst e1
     exact (DL.addmul (x:=fun _=>0) (-1) (.zero fun _=>rfl) (DL.row (E:=E1) hi)).congr fun k=>by rw [e r k,Ai rfl]; omega
    ·exact (DL.row hr).congr fun k=>by rw [e r k,Ag e1]
theorem Pq {a b:Int}:FG a b < 0 ↔ a < b:=by unfold FG; split <;> (try split) <;> omega
theorem F7 {g:List (List Int)} {c t:Nat}:∀ {j:Nat},Cm g c t j=none→∀ i,t≤i→i < t+j→AC g i c=0
 | 0,_,i,a,b=>by omega
 | j+1,h,i,a,b=>by
   rw [Cm] at h
   unfold Fp at h
   split at h
   ·rename_i h0
    by_cases e:i=t+j
    ·rw [e]; exact h0
    ·exact F7 h i a (by omega)
   ·split at h
    ·cases h
    ·split at h <;> cases h
theorem Kb {g:List (List Int)} {c t:Nat}:∀ {j:Nat},(∀ i,t≤i→i < t+j→AC g i c=0)→Cm g c t j=none
 | 0,_=>rfl
 | j+1,h=>by
   rw [Cm,Kb (fun i a b=>h i a (by omega))]
   unfold Fp
   rw [Ai (h (t+j) (by omega) (by omega))]
theorem EC {g:List (List Int)} {c t:Nat}:∀ {j k:Nat},Cm g c t j=some k→AC g k c≠0∧∀ i,t≤i→i < t+j→AC g i c≠0→(AC g k c).natAbs≤(AC g i c).natAbs
 | 0,k,h=>by cases h
 | j+1,k,h=>by
   rw [Cm] at h
   unfold Fp at h
   split at h
   ·rename_i h0
    obtain ⟨a,b⟩:=EC h
    refine ⟨a,fun i x y z=>?_⟩
    by_cases e:i=t+j
    ·rw [e] at z; exact absurd h0 z
    ·exact b i x (by omega) z
   ·rename_i h0
    split at h
    ·rename_i hn
     injection h with h; subst h
     refine ⟨h0,fun i x y z=>?_⟩
     by_cases e:i=t+j
     ·rw [e]; exact Ah _
     ·exact absurd (F7 hn i x (by omega)) z
    ·rename_i q hq
     obtain ⟨a,b⟩:=EC hq
     split at h
     ·rename_i hc
      rw [Pq] at hc
      injection h with h; subst h
      refine ⟨h0,fun i x y z=>?_⟩
      by_cases e:i=t+j
      ·rw [e]; exact Ah _
      ·have:=b i x (by omega) z; omega
     ·rename_i hc
      rw [Pq] at hc
      injection h with h; subst h
      refine ⟨a,fun i x y z=>?_⟩
      by_cases e:i=t+j
      ·rw [e]; omega
      ·exact b i x (by omega) z
theorem RB {x p:Int} (h:p≠0):(x.fmod p).natAbs < p.natAbs:=by
 rcases CX h with h | h
 ·have h1:x.fmod p=-((-x).fmod (-p)):=by rw [Int.neg_fmod_neg]; omega
  have h2:=CP (-x) (show 0 < -p by omega)
  have h3:=IE (-x) (show 0 < -p by omega)
  omega
 ·have h2:=CP x h
  have h3:=IE x h
  omega
theorem NS {x p:Int} (h:p≠0):(x.fdiv p).natAbs≤x.natAbs:=by
 have h1:∀ y q:Int,0 < q→(y.fdiv q).natAbs≤y.natAbs:=fun y q hq=>by
  have e:=GR y q
  have h2:=CP y hq
  have h3:=IE y hq
  generalize y.fdiv q=z at *
  generalize y.fmod q=f at *
  by_cases hz:0≤z
  ·have:z≤q * z:=by have:=Ba (show 1≤q by omega) hz; omega
   omega
  ·have:q * z+q≤z+1:=by
    have h4:=Ba (show 1≤q by omega) (show 0≤-(z+1) by omega)
    have:q * (-(z+1))=-(q * z) - q:=by grind
    omega
   omega
 rcases CX h with h | h
 ·have:=h1 (-x) (-p) (by omega)
  rw [Int.neg_fdiv_neg] at this
  omega
 ·exact h1 x p h
theorem IO (x p:Int):x - x.fdiv p * p=x.fmod p:=by have:=GR x p; rw [Fn]; omega
structure S7 (g g':List (List Int)) (c t m:Nat):Prop where
 pos:0 < AC g' t c
 low:∀ i,t < i→i < m→AC g' i c=0
 up:∀ i,i < t→0≤AC g' i c∧AC g' i c < AC g' t c
 old:∀ k,(∀ i,t≤i→i < m→AC g i k=0)→(∀ i,t≤i→i < m→AC g' i k=0)∧∀ i,i < t→AC g' i k=AC g i k
theorem SH {n:Nat} {g g':List (List Int)} {c t:Nat} (hr:Bx n g) (ht:t < g.length) (h:Fv g t c=some g') (h0:AC g t c≠0) (hl:∀ i,t < i→i < g.length→AC g i c=0):S7 g g' c t g.length:=by
 have key:∀ g1:List (List Int),Bx n g1→g1.length=g.length→0 < AC g1 t c→(∀ i k,AC g1 i k=if i=t then AC g1 t k else AC g i k)→(∀ k,AC g1 t k=AC g t k∨AC g1 t k=-AC g t k)→Ca g1 c t 0 t=some g'→S7 g g' c t g.length:=fun g1 hr1 hl1 hp he hs hel=>by
  have e:=DQ hr1 (by omega) t g' hel (by omega) (.inr (by omega))
  refine ⟨by rw [e,Ag (by omega)]; exact hp,fun i a b=>by rw [e,Ag (by omega),he,Ag (by omega)]; exact hl i a b,fun i a=>?_,fun k hk=>⟨fun i a b=>?_,fun i a=>?_⟩⟩
  ·rw [e i,Ai (by omega),e t,Ag (by omega)]
   unfold Ma
   rw [IO]
   exact ⟨CP _ hp,IE _ hp⟩
  ·rw [e i,Ag (by omega),he]
   by_cases e1:i=t
   ·rw [Ai e1]; have:=hk t (Ah _) ht; rcases hs k with h | h <;> omega
   ·rw [Ag e1]; exact hk i a b
  ·rw [e i,Ai (by omega),he i,Ag (by omega)]
   have:AC g1 t k=0:=by have:=hk t (Ah _) ht; rcases hs k with h | h <;> omega
   rw [this,B0,Int.sub_zero]
 unfold Fv at h
 split at h
 ·rename_i hneg
  split at h
  ·refine key _ (hr.set (by rw [An,EQ hr ht])) (A0) (by rw [H1 ht,Ai rfl]; omega) (fun i k=>?_) (fun k=>.inr (by rw [H1 ht,Ai rfl])) h
   rw [H1 ht,H1 ht,Ai rfl]
  ·cases h
 ·exact key g hr rfl (by omega) (fun i k=>by by_cases e:i=t <;> simp [e]) (fun k=>.inl rfl) h
theorem LH {n c t:Nat}:∀ (F:Nat) (g g':List (List Int)) (t':Nat),Bx n g→t < g.length→E3 F g c t=some (g',t')→(t'=t∧g'=g∧∀ i,t≤i→i < g.length→AC g i c=0)∨(t'=t+1∧S7 g g' c t g.length)
 | 0,_,_,_,_,_,h=>by cases h
 | F+1,g,g',t',hr,ht,h=>by
   rw [JP h] at h
   cases hp:Cm g c t (g.length - t) with
   | none=>
     rw [hp] at h; injection h with h; injection h with h1 h2; subst h1; subst h2
     exact .inl ⟨rfl,rfl,fun i a b=>F7 hp i a (by omega)⟩
   | some k=>
     rw [hp] at h
     obtain ⟨g2,h1,h2⟩:=AY.1 h
     obtain ⟨hk1,hk2⟩:=ER _ _ hp
     obtain ⟨p0,-⟩:=EC hp
     have hr1:Bx n (DT g t k):=Ht hr
     have hl1:=GZ g t k
     have hs:=fun r q=>KN (g:=g) (i:=t) (j:=k) ht (by omega) r q
     have he:=DQ hr1 (by omega) _ g2 h1 (by omega) (.inl (by omega))
     obtain ⟨hr2,hl2⟩:=Ci hr1 _ g2 h1 (by omega)
     rw [hl1] at hl2
     have htc:AC g2 t c≠0:=by
      rw [he,Ag (by omega),hs]
      by_cases e:t=k
      ·rw [Ai e,e]; exact p0
      ·rw [Ag e,Ai rfl]; exact p0
     have hold:∀ q,(∀ i,t≤i→i < g.length→AC g i q=0)→(∀ i,t≤i→i < g.length→AC g2 i q=0)∧∀ i,i < t→AC g2 i q=AC g i q:=fun q hq=>by
      have h9:∀ i,t≤i→i < g.length→AC (DT g t k) i q=0:=fun i a b=>by
       rw [hs]
       split
       ·exact hq t (Ah _) ht
       ·split
        ·exact hq k (by omega) (by omega)
        ·exact hq i a b
      refine ⟨fun i a b=>?_,fun i a=>?_⟩
      ·rw [he]
       split
       ·rw [h9 i a b,h9 t (Ah _) ht]; omega
       ·exact h9 i a b
      ·rw [he,Ag (by omega),hs,Ag (by omega),Ag (by omega)]
     have hrest:=HS hr1 (by omega) _ g2 h1 (by omega) (by omega)
     have fin:∀ g3:List (List Int),S7 g2 g3 c t g2.length→S7 g g3 c t g.length:=fun g3 d=>by
      rw [hl2] at d
      refine ⟨d.pos,d.low,d.up,fun q hq=>?_⟩
      obtain ⟨a,b⟩:=hold q hq
      obtain ⟨a',b'⟩:=d.old q a
      exact ⟨a',fun i hi=>by rw [b' i hi,b i hi]⟩
     split at h2
     ·rcases LH F g2 g' t' hr2 (by omega) h2 with ⟨-,-,h3⟩ | ⟨e,d⟩
      ·exact absurd (h3 t (Ah _) (by omega)) htc
      ·exact .inr ⟨e,fin g' d⟩
     ·rename_i hnr
      split at h2
      ·obtain ⟨g3,h3,h4⟩:=BO.1 h2
       injection h4 with h4 h5; subst h4; subst h5
       refine .inr ⟨rfl,fin g3 (SH hr2 (by rw [hl2]; exact ht) h3 htc fun i a b=>?_)⟩
       have hi2:i < t+1+(g.length - (t+1)):=by rw [hl2] at b; clear hrest hnr he hs; omega
       rw [he,Ai ⟨a,hi2⟩]
       unfold Ma
       rw [IO]
       exact AB fun h9=>hnr (hrest.2 ⟨i,a,hi2,h9⟩)
      ·cases h2
theorem T8 {q x y:Int} (hq:q.natAbs < Mm) (hy:y.natAbs < Mm) (hx:x.natAbs < Mm):T9 q x y=true:=Xv hq hy hx
theorem Hu {x:Int} (hx:x.natAbs < Mm):Jz x=true:=Ni hx
theorem SN {g:List (List Int)} {c:Nat} (h:∀ i,i < g.length→(AC g i c).natAbs < Mm):HJ g c=true:=AE.2 fun i hi=>Hu (h i (BH.1 hi))
theorem LP {x y q:Int} {A B C:Nat} (hx:x.natAbs≤A) (hq:q.natAbs≤B) (hy:y.natAbs≤C):(x - q * y).natAbs≤A+B * C:=by
 have:=AD hq hy
 rw [← Be] at this
 omega
theorem Pn {n c t m:Nat} {P Q:List (List Int)→Prop} (ht:t < m) (hP:∀ g,P g→Bx n g∧g.length=m∧HJ g c=true)
 (hstep:∀ g k,P g→t≤k→k < m→Cm g c t (m - t)=some k→∃ g2,Ca (DT g t k) c t (t+1) (m - (t+1))=some g2∧((∃ i,t < i∧i < m∧AC g2 i c≠0)→P g2)∧((∀ i,t < i→i < m→AC g2 i c=0)→AC g2 t c≠0→Jz (AC g2 t c)=true∧∃ g3,Fv g2 t c=some g3∧Q g3)) :
 ∀ (F:Nat) (g:List (List Int)),P g→(∃ i,t≤i∧i < m∧AC g i c≠0∧(AC g i c).natAbs < F)→∃ g3,E3 F g c t=some (g3,t+1)∧Q g3
 | 0,_,_,⟨_,_,_,_,h⟩=>absurd h (Bj _)
 | F+1,g,hg,⟨i0,a0,b0,h0,hF⟩=>by
   obtain ⟨hr,hl,hok⟩:=hP g hg
   rw [E3,Ai hok,hl]
   cases hp:Cm g c t (m - t) with
   | none=>exact absurd (F7 hp i0 a0 (by omega)) h0
   | some k=>
     obtain ⟨hk1,hk2⟩:=ER _ _ hp
     obtain ⟨p0,pl⟩:=EC hp
     obtain ⟨g2,he,h1,h2⟩:=hstep g k hg hk1 (by omega) hp
     have hle:=pl i0 a0 (by omega) h0
     have hr1:Bx n (DT g t k):=Ht hr
     have hl1:=GZ g t k
     have hs:=fun r q=>KN (g:=g) (i:=t) (j:=k) (by omega) (by omega) r q
     have hent:=DQ hr1 (by omega) _ g2 he (by omega) (.inl (by omega))
     have htc:AC (DT g t k) t c=AC g k c:=by
      rw [hs]
      by_cases e:t=k
      ·rw [Ai e,e]
      ·rw [Ag e,Ai rfl]
     have hrow:∀ i,t < i→i < m→AC g2 i c=(AC (DT g t k) i c).fmod (AC g k c):=fun i a b=>by
      rw [hent,Ai (by omega)]
      unfold Ma
      rw [IO,htc]
     have hm1:t+1+(m - (t+1))≤(DT g t k).length:=by omega
     have hrest:=HS hr1 (by omega) _ g2 he hm1 (by omega)
     rw [htc] at hrest
     show ∃ g3,((Ca (DT g t k) c t (t+1) (m - (t+1))).bind fun g2=>if EB (DT g t k) c t (t+1) (m - (t+1))=true then E3 F g2 c t else if Jz (AC g2 t c)=true then (Fv g2 t c).map fun g3=>(g3,t+1) else none)=some (g3,t+1)∧Q g3
     rw [he]
     by_cases hres:EB (DT g t k) c t (t+1) (m - (t+1))=true
     ·obtain ⟨i,a,b,hn⟩:=hrest.1 hres
      have b2:i < m:=by clear hrest hres; omega
      have a2:t < i:=by clear hrest hres; omega
      have e1:=hrow i a2 b2
      rw [← e1] at hn
      have hlt:=RB (x:=AC (DT g t k) i c) p0
      rw [← e1] at hlt
      obtain ⟨g3,k1,k2⟩:=Pn ht hP hstep F g2 (h1 ⟨i,a2,b2,hn⟩) ⟨i,by clear hrest hres; omega,b2,hn,by clear hrest hres; omega⟩
      exact ⟨g3,by show (if _ then _ else _)=_; rw [Ai hres]; exact k1,k2⟩
     ·have hz:∀ i,t < i→i < m→AC g2 i c=0:=fun i a b=>by
       rw [hrow i a b]
       have b2:i < t+1+(m - (t+1)):=by clear hrest hres; omega
       exact AB fun h9=>hres (hrest.2 ⟨i,a,b2,h9⟩)
      have hc2:AC g2 t c≠0:=by
       have:¬ (t+1≤t∧t < t+1+(m - (t+1))):=by clear hrest hres; omega
       rw [hent,Ag this,htc]; exact p0
      obtain ⟨k0,g3,k1,k2⟩:=h2 hz hc2
      exact ⟨g3,by show (if _ then _ else _)=_; rw [Ag hres,Ai k0,k1]; rfl,k2⟩
theorem M7 {F c t:Nat} {g:List (List Int)} (hok:HJ g c=true) (h:∀ i,t≤i→i < g.length→AC g i c=0):E3 (F+1) g c t=some (g,t):=by
 rw [E3,Ai hok,Kb (fun i a b=>h i a (by omega))]
theorem Wr {n c t T V:Nat} {g:List (List Int)} (hr:Bx n g) (ht:t < g.length) (h0:AC g t c≠0) (hT:T < Mm) (hV:V < Mm) (h1:∀ i,i < t→∀ k,(AC g i k).natAbs≤T) (h2:∀ k,(AC g t k).natAbs≤V) :
 ∃ g3,Fv g t c=some g3∧(∀ i,i < t→∀ k,(AC g3 i k).natAbs≤T+T * V)∧∀ i,t≤i→∀ k,(AC g3 i k).natAbs=(AC g i k).natAbs:=by
 have key:∀ g1:List (List Int),Bx n g1→g1.length=g.length→AC g1 t c≠0→(∀ i k,(AC g1 i k).natAbs=(AC g i k).natAbs)→∃ g3,Ca g1 c t 0 t=some g3∧(∀ i,i < t→∀ k,(AC g3 i k).natAbs≤T+T * V)∧∀ i,t≤i→∀ k,(AC g3 i k).natAbs=(AC g i k).natAbs:=fun g1 hr1 hl1 hp he=>by
  have hq:∀ i,i < t→(Ma g1 c t i).natAbs≤T:=fun i a=>by
   have:=NS (x:=AC g1 i c) hp
   have h3:=h1 i a c
   rw [← he] at h3
   exact As this h3
  obtain ⟨g3,h3⟩:=H2 (s:=0) hr1 (by omega) hp (Hu (by have:=h2 c; rw [← he] at this; omega)) t (by omega) (.inr (by omega)) (fun i _ a=>⟨Hu (by have:=h1 i (by omega) c; rw [← he] at this; omega),fun _ k=>T8 (by have:=hq i (by omega); omega) (by have:=h2 k; rw [← he] at this; omega) (by have:=h1 i (by omega) k; rw [← he] at this; omega)⟩)
  have e:=DQ hr1 (by omega) t g3 h3 (by omega) (.inr (by omega))
  refine ⟨g3,h3,fun i a k=>?_,fun i a k=>?_⟩
  ·rw [e,Ai (by omega)]
   exact LP (by rw [he]; exact h1 i a k) (hq i a) (by rw [he]; exact h2 k)
  ·rw [e,Ag (by omega),he]
 unfold Fv
 split
 ·have hsm:Qa (BT g t)=true:=AE.2 fun x hx=>by
   obtain ⟨k,hk⟩:=BJ hx
   have:=h2 k
   unfold AC at this
   rw [hk,BB] at this
   exact Hu (by omega)
  rw [Ai hsm]
  have hn:=fun i k=>H1 (g:=g) ht i k
  exact key _ (hr.set (by rw [An,EQ hr ht])) (A0) (by rw [hn,Ai rfl]; omega) (fun i k=>by rw [hn]; by_cases e:i=t <;> simp [e])
 ·exact key g hr rfl h0 (fun _ _=>rfl)
structure FU (p:Nat→Nat) (c t:Nat) (g:List (List Int)):Prop where
 le:t≤g.length
 zero:∀ i,t≤i→i < g.length→∀ k,k < c→AC g i k=0
 lt:∀ i,i < t→p i < c
 inc:∀ i j,i < j→j < t→p i < p j
 pos:∀ i,i < t→0 < AC g i (p i)
 low:∀ i,i < t→∀ k,k < p i→AC g i k=0
 up:∀ i j,i < j→j < t→0≤AC g i (p j)∧AC g i (p j) < AC g j (p j)
theorem FU.init (p:Nat→Nat) (g:List (List Int)):FU p 0 0 g :=
 ⟨Ck _,fun _ _ _ _ h=>absurd h (Bj _),fun _ h=>absurd h (Bj _),fun _ _ _ h=>absurd h (Bj _),fun _ h=>absurd h (Bj _),fun _ h=>absurd h (Bj _),fun _ _ _ h=>absurd h (Bj _)⟩
theorem FU.none {p:Nat→Nat} {c t:Nat} {g:List (List Int)} (h:FU p c t g) (hz:∀ i,t≤i→i < g.length→AC g i c=0):FU p (c+1) t g :=
 ⟨h.le,fun i a b k hk=>by
  by_cases e:k=c
  ·rw [e]; exact hz i a b
  ·exact h.zero i a b k (by omega),fun i hi=>by have:=h.lt i hi; omega,h.inc,h.pos,h.low,h.up⟩
theorem FU.full {p:Nat→Nat} {c t:Nat} {g:List (List Int)} (h:FU p c t g) (ht:g.length≤t) (n:Nat):FU p (c+n) t g :=
 ⟨h.le,fun i a b=>by omega,fun i hi=>by have:=h.lt i hi; omega,h.inc,h.pos,h.low,h.up⟩
theorem FU.next {p:Nat→Nat} {c t:Nat} {g g':List (List Int)} (h:FU p c t g) (hl:g'.length=g.length) (ht:t < g.length) (dn:S7 g g' c t g.length):FU (fun i=>if i=t then c else p i) (c+1) (t+1) g':=by
 have old:=fun k (hk:k < c)=>dn.old k (fun i a b=>h.zero i a b k hk)
 refine ⟨by omega,fun i a b k hk=>?_,fun i hi=>?_,fun i j hij hj=>?_,fun i hi=>?_,fun i hi k hk=>?_,fun i j hij hj=>?_⟩
 ·by_cases e:k=c
  ·rw [e]; exact dn.low i (by omega) (by omega)
  ·exact (old k (by omega)).1 i (by omega) (by omega)
 ·show (if i=t then c else p i) < c+1
  split
  ·omega
  ·have:=h.lt i (by omega); omega
 ·show (if i=t then c else p i) < if j=t then c else p j
  rw [Ag (by omega)]
  split
  ·exact h.lt i (by omega)
  ·exact h.inc i j hij (by omega)
 ·show 0 < AC g' i (if i=t then c else p i)
  split
  ·rename_i e; rw [e]; exact dn.pos
  ·rw [(old (p i) (h.lt i (by omega))).2 i (by omega)]; exact h.pos i (by omega)
 ·have hk:k < if i=t then c else p i:=hk
  split at hk
  ·rename_i e; rw [e]; exact (old k hk).1 t (Ah _) ht
  ·have h1:=h.lt i (by omega)
   rw [(old k (by omega)).2 i (by omega)]; exact h.low i (by omega) k hk
 ·show 0≤AC g' i (if j=t then c else p j)∧AC g' i (if j=t then c else p j) < AC g' j (if j=t then c else p j)
  split
  ·rename_i e; rw [e]; exact dn.up i (by omega)
  ·have h1:=h.lt j (by omega)
   rw [(old (p j) h1).2 i (by omega),(old (p j) h1).2 j (by omega)]; exact h.up i j hij (by omega)
theorem GC {F n:Nat}:∀ (cols c t:Nat) (g gF:List (List Int)) (tF:Nat) (p:Nat→Nat),Bx n g→FU p c t g→CF F cols c g t=some (gF,tF)→∃ p',FU p' (c+cols) tF gF∧Bx n gF∧gF.length=g.length∧N0 g.length (AC g) (AC gF)
 | 0,c,t,g,gF,tF,p,hr,he,h=>by
   injection h with h; injection h with h1 h2; subst h1; subst h2
   exact ⟨p,he,hr,rfl,.refl⟩
 | cols+1,c,t,g,gF,tF,p,hr,he,h=>by
   rw [CF] at h
   by_cases ht:t < g.length
   ·rw [Ai ht] at h
    obtain ⟨⟨g1,t1⟩,h1,h2⟩:=AY.1 h
    obtain ⟨u,hr1,hl1,-⟩:=KV F g g1 t1 hr ht h1
    have key:∃ p1,FU p1 (c+1) t1 g1:=by
     rcases LH F g g1 t1 hr ht h1 with ⟨rfl,rfl,hz⟩ | ⟨rfl,dn⟩
     ·exact ⟨p,he.none hz⟩
     ·exact ⟨_,he.next hl1 ht dn⟩
    obtain ⟨p1,he1⟩:=key
    obtain ⟨p',a,b,e,u2⟩:=GC cols (c+1) t1 g1 gF tF p1 hr1 he1 h2
    rw [hl1] at u2
    exact ⟨p',by rw [show c+(cols+1)=c+1+cols by omega]; exact a,b,by omega,u.trans u2⟩
   ·rw [Ag ht] at h
    injection h with h; injection h with h1 h2; subst h1; subst h2
    exact ⟨p,he.full (by omega) _,hr,rfl,.refl⟩
theorem Ki {g:List (List Int)} {c t s:Nat}:∀ (j:Nat) (g':List (List Int)),(∀ i,s≤i→i < s+j→(AC g i c).fdiv (AC g t c)=0)→s+j≤g.length→Ca g c t s j=some g'→g'=g
 | 0,g',_,_,h=>by injection h with h; exact h.symm
 | j+1,g',hz,hl,h=>by
   obtain ⟨g1,h1,h2⟩:=AY.1 h
   obtain rfl:=Ki j g1 (fun i a b=>hz i a (by omega)) (by omega) h1
   obtain ⟨-,-,-,r,h3,rfl⟩:=Er h2
   rw [hz (s+j) (by omega) (by omega)] at h3
   unfold Dw at h3
   rw [Ai rfl] at h3
   injection h3 with h3
   rw [← h3,CU (show s+j < g1.length by omega)]
   exact List.set_getElem_self _
theorem Jd {n:Nat} {g:List (List Int)} {c t s j:Nat} (hr:Bx n g) (ht:t < g.length) (h0:AC g t c≠0) (hs:∀ i,i < g.length→Jz (AC g i c)=true) (hz:∀ i,s≤i→i < s+j→(AC g i c).fdiv (AC g t c)=0) (hl:s+j≤g.length) (hts:t < s∨s+j≤t):Ca g c t s j=some g:=by
 obtain ⟨g',h⟩:=H2 hr ht h0 (hs t ht) j hl hts (fun i a b=>⟨hs i (by omega),fun hq=>absurd (hz i a b) hq⟩)
 rw [h,Ki j g' hz hl h]
theorem Kc {g:List (List Int)} {c t:Nat} (h0:AC g t c≠0):∀ j,(∀ i,t < i→i < t+(j+1)→AC g i c=0)→Cm g c t (j+1)=some t
 | 0,_=>by
   rw [Cm,Cm]
   unfold Fp
   rw [DG,Ag h0]
 | j+1,h=>by
   rw [Cm,Kc h0 j (fun i a b=>h i a (by omega))]
   unfold Fp
   rw [Ai (h (t+(j+1)) (by omega) (by omega))]
theorem JM {F n:Nat} {p:Nat→Nat} {g:List (List Int)} (hr:Bx n g) (he:FU p n g.length g) (hs:∀ i,i < g.length→∀ k,Jz (AC g i k)=true):∀ (cols c t:Nat),c+cols=n→t≤g.length→(∀ i,i < g.length→(i < t ↔ p i < c))→CF (F+1) cols c g t=some (g,g.length)
 | 0,c,t,hc,ht,hp=>by
   have:t=g.length:=AB fun h9=>by
    have h1:t < g.length:=by omega
    have h2:=he.lt t h1
    have h3:=(hp t h1).2 (by omega)
    omega
   rw [this]; rfl
 | cols+1,c,t,hc,ht,hp=>by
   rw [CF]
   by_cases htl:t < g.length
   ·rw [Ai htl]
    have hok:HJ g c=true:=AE.2 fun i hi=>hs i (BH.1 hi) c
    by_cases e:p t=c
    ·have h0:AC g t c≠0:=by have:=he.pos t htl; rw [e] at this; omega
     have hz:∀ i,t < i→i < g.length→AC g i c=0:=fun i a b=>he.low i b c (by have:=he.inc t i a b; omega)
     have h1:E3 (F+1) g c t=some (g,t+1):=by
      have hq:g.length - t=(g.length - t - 1)+1:=by omega
      have e1:Ca g c t (t+1) (g.length - (t+1))=some g:=Jd hr htl h0 (fun i hi=>hs i hi c) (fun i a b=>by rw [hz i (by omega) (by omega),Int.zero_fdiv]) (by omega) (.inl (by omega))
      have hrest:EB g c t (t+1) (g.length - (t+1))=false:=by
       cases h9:EB g c t (t+1) (g.length - (t+1)) with
       | false=>rfl
       | true=>
         obtain ⟨i,a,b,hn⟩:=(HS hr htl _ g e1 (by omega) (by omega)).1 h9
         rw [hz i (by omega) (by omega),Int.zero_fmod] at hn
         exact absurd rfl hn
      have hfin:Fv g t c=some g:=by
       have hp0:=he.pos t htl
       rw [e] at hp0
       unfold Fv
       rw [Ag (by omega)]
       refine Jd hr htl h0 (fun i hi=>hs i hi c) (fun i _ b=>?_) (by omega) (.inr (by omega))
       have h9:=he.up i t (by omega) htl
       rw [e] at h9
       exact Int.fdiv_eq_zero_of_lt h9.1 h9.2
      rw [E3,Ai hok,hq,Kc h0 _ (fun i a b=>hz i a (by omega))]
      show ((Ca (DT g t t) c t (t+1) (g.length - (t+1))).bind fun g2=>if EB (DT g t t) c t (t+1) (g.length - (t+1))=true then E3 F g2 c t else if Jz (AC g2 t c)=true then (Fv g2 t c).map fun g3=>(g3,t+1) else none)=_
      rw [K6,e1,hrest]
      show (if Jz (AC g t c)=true then _ else _)=_
      rw [Ai (hs t htl c),hfin]; rfl
     rw [h1]
     exact JM hr he hs cols (c+1) (t+1) (by omega) (by omega) fun i hi=>by
      by_cases a:i < t
      ·have:=(hp i hi).1 a
       exact ⟨fun _=>by omega,fun _=>by omega⟩
      ·by_cases b:i=t
       ·rw [b]; exact ⟨fun _=>by omega,fun _=>by omega⟩
       ·have:=he.inc t i (by omega) hi
        exact ⟨fun _=>by omega,fun _=>by omega⟩
    ·have hpt:c < p t:=AB fun h9=>by
      have:=(hp t htl).2 (by omega)
      omega
     have hz:∀ i,t≤i→i < g.length→AC g i c=0:=fun i a b=>he.low i b c (by
      by_cases e1:i=t
      ·rw [e1]; exact hpt
      ·have:=he.inc t i (by omega) b; omega)
     rw [M7 hok hz]
     exact JM hr he hs cols (c+1) t (by omega) ht fun i hi=>by
      by_cases a:i < t
      ·have:=(hp i hi).1 a
       exact ⟨fun _=>by omega,fun _=>a⟩
      ·have h1:p t≤p i:=by
        by_cases e1:i=t
        ·rw [e1]; exact Ah _
        ·exact Ch (he.inc t i (by omega) hi)
       exact ⟨fun h=>absurd h a,fun h=>by omega⟩
   ·rw [Ag htl,show t=g.length by omega]
end Go.Proofs.YtiniigadkknboaaGreatDoor
