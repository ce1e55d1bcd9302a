/- Contracts and laws: FAS. -/
import Derived.Test.YtiniigadkknboaaGreatDoorFAR

namespace Go.Proofs.YtiniigadkknboaaGreatDoor
open Go.RowKit Go.Lib
theorem I7 {n i k:Nat} {g:List (List Int)} (h:Bq n g) (hk:n≤k):Aw g i k=0:=by
 unfold Aw BB
 cases e:g[i]? with
 | none=>simp
 | some r=>rw [Bm,AG (by rw [h r (Af e)]; exact hk)]; rfl
theorem SX {g:List (List Int)} {i:Nat} {r:List Int} (hi:i < g.length) (j k:Nat):Aw (g.set i r) j k=if j=i then (r[k]?).getD 0 else Aw g j k:=by
 unfold Aw BB
 rw [BZ]
 by_cases e:i=j
 ·subst e; rw [Ai rfl,Ai hi,Ai rfl,Bm]
 ·rw [Ae e,Ae (fun h=>e h.symm)]
theorem LF {g:List (List Int)} {i j:Nat} (hi:i < g.length) (hj:j < g.length) (r k:Nat):Aw (Ep g i j) r k=if r=j then Aw g i k else if r=i then Aw g j k else Aw g r k:=by
 unfold Aw BB
 rw [Fy g i j (Ac hi) (Ac hj)]
 by_cases e:r=j
 ·rw [Ai e,Ai e,Ac hi]
 ·rw [Ae e,Ae e]
  by_cases e2:r=i
  ·rw [Ai e2,Ai e2,Ac hj]
  ·rw [Ae e2,Ae e2]
theorem Nn {q:Int} {xs ys zs:List Int} (h:DJ q xs ys=some zs) (hl:ys.length=xs.length) (k:Nat):(zs[k]?).getD 0=(xs[k]?).getD 0 - q * (ys[k]?).getD 0:=by
 unfold DJ at h
 split at h
 ·rename_i h0; injection h with h; rw [h,h0,Dk,Int.sub_zero]
 ·obtain ⟨h1,h2⟩:=FC q xs ys zs h
  by_cases hk:k < xs.length
  ·obtain ⟨y,hy,-,hz⟩:=h2 k _ (Ac hk)
   rw [hz,hy,Ac hk]; rfl
  ·rw [AG (by omega),AG (by omega),AG (by omega)]; simp
theorem L4 {q:Int}:∀ {xs ys:List Int},ys.length=xs.length→(∀ k:Nat,Vr q ((xs[k]?).getD 0) ((ys[k]?).getD 0)=true)→∃ zs,Hq q xs ys=some zs
 | [],ys,_,_=>⟨[],rfl⟩
 | x :: xs,[],h,_=>by simp at h
 | x :: xs,y :: ys,h,hk=>by
   obtain ⟨zs,hz⟩:=L4 (q:=q) (xs:=xs) (ys:=ys) (by simpa using h) (fun k=>by simpa using hk (k+1))
   have h0:=hk 0
   simp only [List.getElem?_cons_zero,Bm] at h0
   exact ⟨_,by rw [Hq,Ai h0,hz]; rfl⟩
theorem L3 {q:Int} {xs ys:List Int} (hl:ys.length=xs.length) (hk:q≠0→∀ k:Nat,Vr q ((xs[k]?).getD 0) ((ys[k]?).getD 0)=true):∃ zs,DJ q xs ys=some zs:=by
 unfold DJ
 split
 ·exact ⟨_,rfl⟩
 ·rename_i h; exact L4 hl (hk h)
theorem Er {n i:Nat} {g:List (List Int)} (h:Bq n g) (hi:i < g.length):(BB g i).length=n:=by rw [CK hi]; exact h.row hi
def MW (g:List (List Int)) (c t i:Nat):Int:=(Aw g i c).fdiv (Aw g t c)
theorem NL {n:Nat} {g g':List (List Int)} {c t i:Nat} (h:GM g c t i=some g') (hr:Bq n g) (hi:i < g.length) (ht:t < g.length) (j k:Nat):Aw g' j k=if j=i then Aw g i k - MW g c t i * Aw g t k else Aw g j k:=by
 obtain ⟨-,-,-,r,h1,rfl⟩:=EW h
 rw [SX hi]
 by_cases e:j=i
 ·rw [Ai e,Ai e]; exact Nn h1 (by rw [Er hr hi,Er hr ht]) k
 ·rw [Ae e,Ae e]
theorem VX {n:Nat} {g:List (List Int)} {c t i:Nat} (hr:Bq n g) (hi:i < g.length) (ht:t < g.length) (h0:Aw g t c≠0) (h1:Jz (Aw g i c)=true) (h2:Jz (Aw g t c)=true) (h3:MW g c t i≠0→∀ k,Vr (MW g c t i) (Aw g i k) (Aw g t k)=true):∃ g',GM g c t i=some g':=by
 obtain ⟨zs,hz⟩:=L3 (q:=MW g c t i) (xs:=BB g i) (ys:=BB g t) (by rw [Er hr hi,Er hr ht]) h3
 unfold GM
 rw [Ai (by simp only [Bt,Bb,ne_eq]; exact ⟨⟨h1,h2⟩,h0⟩)]
 exact ⟨_,by unfold MW at hz; rw [hz]; rfl⟩
theorem Em {n:Nat} {g:List (List Int)} {c t s:Nat} (hr:Bq n g) (ht:t < g.length):∀ (j:Nat) (g':List (List Int)),B9 g c t s j=some g'→s+j≤g.length→(t < s∨s+j≤t)→∀ i k,Aw g' i k=if s≤i∧i < s+j then Aw g i k - MW g c t i * Aw g t k else Aw g i k
 | 0,g',h,_,_,i,k=>by injection h with h; subst h; rw [Ae (by omega)]
 | j+1,g',h,hl,hts,i,k=>by
   obtain ⟨g1,h1,h2⟩:=A1.1 h
   have ih:=Em hr ht j g1 h1 (by omega) (by omega)
   obtain ⟨hr1,hl1⟩:=Cl hr j g1 h1 (by omega)
   have e1:=NL h2 hr1 (by omega) (by omega) i k
   have et:∀ k,Aw g1 t k=Aw g t k:=fun k=>by rw [ih t k,Ae (by omega)]
   have es:∀ k,Aw g1 (s+j) k=Aw g (s+j) k:=fun k=>by rw [ih (s+j) k,Ae (by omega)]
   rw [e1]
   by_cases e:i=s+j
   ·rw [Ai e,Ai (by omega),e]
    unfold MW
    rw [et,es,et,es]
   ·rw [Ae e,ih i k]
    by_cases e2:s≤i∧i < s+j
    ·rw [Ai e2,Ai (by omega)]
    ·rw [Ae e2,Ae (by omega)]
theorem IE {n:Nat} {g:List (List Int)} {c t s:Nat} (hr:Bq n g) (ht:t < g.length) (h0:Aw g t c≠0) (h2:Jz (Aw g t c)=true):∀ j,s+j≤g.length→(t < s∨s+j≤t)→(∀ i,s≤i→i < s+j→Jz (Aw g i c)=true∧(MW g c t i≠0→∀ k,Vr (MW g c t i) (Aw g i k) (Aw g t k)=true))→∃ g',B9 g c t s j=some g'
 | 0,_,_,_=>⟨g,rfl⟩
 | j+1,hl,hts,hb=>by
   obtain ⟨g1,h1⟩:=IE hr ht h0 h2 j (by omega) (by omega) (fun i a b=>hb i a (by omega))
   have ih:=Em hr ht j g1 h1 (by omega) (by omega)
   obtain ⟨hr1,hl1⟩:=Cl hr j g1 h1 (by omega)
   have et:∀ k,Aw g1 t k=Aw g t k:=fun k=>by rw [ih t k,Ae (by omega)]
   have es:∀ k,Aw g1 (s+j) k=Aw g (s+j) k:=fun k=>by rw [ih (s+j) k,Ae (by omega)]
   have hbj:=hb (s+j) (by omega) (by omega)
   have eq:MW g1 c t (s+j)=MW g c t (s+j):=by unfold MW; rw [et,es]
   obtain ⟨g2,h3⟩:=VX (c:=c) (i:=s+j) (t:=t) hr1 (by omega) (by omega) (by rw [et]; exact h0) (by rw [es]; exact hbj.1) (by rw [et]; exact h2) (fun hq k=>by rw [eq,et,es]; exact hbj.2 (by rw [← eq]; exact hq) k)
   exact ⟨g2,by rw [B9,h1]; exact h3⟩
theorem Iw {n:Nat} {g:List (List Int)} {c t s:Nat} (hr:Bq n g) (ht:t < g.length):∀ (j:Nat) (g':List (List Int)),B9 g c t s j=some g'→s+j≤g.length→t < s→(E7 g c t s j=true ↔ ∃ i,s≤i∧i < s+j∧(Aw g i c).fmod (Aw g t c)≠0)
 | 0,g',h,_,_=>by
   rw [E7]
   exact ⟨fun h=>(by cases h),fun ⟨i,a,b,_⟩=>(by omega)⟩
 | j+1,g',h,hl,hts=>by
   obtain ⟨g1,h1,h2⟩:=A1.1 h
   have ih:=Iw hr ht j g1 h1 (by omega) hts
   have ie:=Em hr ht j g1 h1 (by omega) (.inl hts)
   have et:Aw g1 t c=Aw g t c:=by rw [ie t c,Ae (by omega)]
   have es:Aw g1 (s+j) c=Aw g (s+j) c:=by rw [ie (s+j) c,Ae (by omega)]
   rw [E7,h1,Bool.or_eq_true,ih]
   show (_∨(!decide ((Aw g1 (s+j) c).fmod (Aw g1 t c)=0))=true) ↔ _
   rw [et,es,Ee,decide_eq_false_iff_not]
   constructor
   ·rintro (⟨i,a,b,h⟩ | h)
    ·exact ⟨i,a,by omega,h⟩
    ·exact ⟨s+j,by omega,by omega,h⟩
   ·rintro ⟨i,a,b,h⟩
    by_cases e:i=s+j
    ·subst e; exact .inr h
    ·exact .inl ⟨i,a,by omega,h⟩
theorem ID {g:List (List Int)} {t:Nat} (ht:t < g.length) (j k:Nat):Aw (g.set t ((BB g t).map fun x=>-x)) j k=if j=t then -Aw g t k else Aw g j k:=by
 rw [SX ht]
 by_cases e:j=t
 ·rw [Ai e,Ai e,Au]
  unfold Aw
  cases (BB g t)[k]? <;> simp
 ·rw [Ae e,Ae e]
inductive OR (m:Nat) (E:Nat→Nat→Int):(Nat→Nat→Int)→Prop
 | refl:OR m E E
 | op {E1 E2:Nat→Nat→Int} (i t:Nat) (q:Int):i < m→t < m→i≠t→OR m E E1→(∀ r k,E2 r k=if r=i then E1 i k - q * E1 t k else E1 r k)→OR m E E2
 | swap {E1 E2:Nat→Nat→Int} (i j:Nat):i < m→j < m→OR m E E1→(∀ r k,E2 r k=if r=j then E1 i k else if r=i then E1 j k else E1 r k)→OR m E E2
 | neg {E1 E2:Nat→Nat→Int} (i:Nat):i < m→OR m E E1→(∀ r k,E2 r k=if r=i then -E1 i k else E1 r k)→OR m E E2
theorem OR.trans {m:Nat} {E F H:Nat→Nat→Int} (h:OR m E F) (k:OR m F H):OR m E H:=by
 induction k with
 | refl=>exact h
 | op i t q a b c _ e ih=>exact .op i t q a b c ih e
 | swap i j a b _ e ih=>exact .swap i j a b ih e
 | neg i a _ e ih=>exact .neg i a ih e
theorem Xd {g:List (List Int)} {i j:Nat} (hi:i < g.length) (hj:j < g.length):OR g.length (Aw g) (Aw (Ep g i j)):=.swap i j hi hj .refl fun r k=>LF hi hj r k
theorem Ho {n:Nat} {g:List (List Int)} {c t s:Nat} (hr:Bq n g) (ht:t < g.length):∀ (j:Nat) (g':List (List Int)),B9 g c t s j=some g'→s+j≤g.length→(t < s∨s+j≤t)→OR g.length (Aw g) (Aw g')
 | 0,g',h,_,_=>by injection h with h; subst h; exact .refl
 | j+1,g',h,hl,hts=>by
   obtain ⟨g1,h1,h2⟩:=A1.1 h
   obtain ⟨hr1,hl1⟩:=Cl hr j g1 h1 (by omega)
   exact .op (s+j) t (MW g1 c t (s+j)) (by omega) ht (by omega) (Ho hr ht j g1 h1 (by omega) (by omega)) (fun r k=>NL h2 hr1 (by omega) (by omega) r k)
theorem UQ {n:Nat} {g g':List (List Int)} {c t:Nat} (hr:Bq n g) (ht:t < g.length) (h:FU g t c=some g'):OR g.length (Aw g) (Aw g')∧Bq n g'∧g'.length=g.length:=by
 unfold FU at h
 split at h
 ·split at h
  ·have hr2:Bq n (g.set t ((BB g t).map fun x=>-x)):=hr.set (by rw [AE,Er hr ht])
   have h1:=Ho hr2 (by rw [A4]; exact ht) t g' h (by rw [A4]; omega) (.inr (by omega))
   have h2:=Cl hr2 t g' h (by rw [A4]; omega)
   rw [A4] at h1 h2
   exact ⟨OR.trans (.neg t ht .refl fun r k=>ID ht r k) h1,h2⟩
  ·cases h
 ·exact ⟨Ho hr ht t g' h (by omega) (.inr (by omega)),Cl hr t g' h (by omega)⟩
theorem LT {n c t:Nat}:∀ (F:Nat) (g g':List (List Int)) (t':Nat),Bq n g→t < g.length→Fq F g c t=some (g',t')→OR g.length (Aw g) (Aw g')∧Bq n g'∧g'.length=g.length∧(t'=t∨t'=t+1)
 | 0,_,_,_,_,_,h=>by cases h
 | F+1,g,g',t',hr,ht,h=>by
   rw [Kz h] at h
   cases hp:Cr g c t (g.length - t) with
   | none=>
     rw [hp] at h; injection h with h; injection h with h1 h2; subst h1; subst h2
     exact ⟨.refl,hr,rfl,.inl rfl⟩
   | some k=>
     rw [hp] at h
     obtain ⟨g2,h1,h2⟩:=A1.1 h
     have hk:=Fj _ _ hp
     have u1:=Xd (g:=g) (i:=t) (j:=k) ht (by omega)
     have hr1:Bq n (Ep g t k):=H3 hr
     have hl1:=Hr g t k
     have u2:=Ho hr1 (by omega) _ g2 h1 (by omega) (.inl (by omega))
     obtain ⟨hr2,hl2⟩:=Cl hr1 _ g2 h1 (by omega)
     rw [hl1] at u2 hl2
     have u3:=u1.trans u2
     split at h2
     ·obtain ⟨u4,a,b,e⟩:=LT F g2 g' t' hr2 (by omega) h2
      rw [hl2] at u4 b
      exact ⟨u3.trans u4,a,b,e⟩
     ·split at h2
      ·obtain ⟨g3,h3,h4⟩:=CD.1 h2
       injection h4 with h4 h5; subst h4; subst h5
       obtain ⟨u4,a,b⟩:=UQ hr2 (by omega) h3
       rw [hl2] at u4 b
       exact ⟨u3.trans u4,a,b,.inr rfl⟩
      ·cases h2
inductive DF (m:Nat) (E:Nat→Nat→Int):(Nat→Int)→Prop
 | zero {x:Nat→Int}:(∀ k,x k=0)→DF m E x
 | add {x y:Nat→Int} (i:Nat) (q:Int):i < m→DF m E x→(∀ k,y k=x k+q * E i k)→DF m E y
theorem DF.row {m:Nat} {E:Nat→Nat→Int} {i:Nat} (h:i < m):DF m E (E i):=.add (x:=fun _=>0) i 1 h (.zero fun _=>rfl) fun k=>by omega
theorem DF.congr {m:Nat} {E:Nat→Nat→Int} {x y:Nat→Int} (h:DF m E x) (e:∀ k,y k=x k):DF m E y:=by
 rw [show y=x from funext e]; exact h
theorem DF.addmul {m:Nat} {E:Nat→Nat→Int} {x y:Nat→Int} (q:Int) (h:DF m E x) (k:DF m E y):DF m E fun j=>x j+q * y j:=by
 induction k with
 | zero e=>exact h.congr fun j=>by rw [e]; omega
 | add i p a _ e ih=>exact .add i (q * p) a ih fun j=>by show _=_+_; rw [e]; grind
theorem DF.sub {m:Nat} {E F:Nat→Nat→Int} {x:Nat→Int} (h:∀ i,i < m→DF m F (E i)) (k:DF m E x):DF m F x:=by
 induction k with
 | zero e=>exact .zero e
 | add i q a _ e ih=>exact (ih.addmul q (h i a)).congr e
theorem LS {m:Nat} {E F:Nat→Nat→Int} (h:OR m E F):∀ x,DF m E x ↔ DF m F x:=by
 induction h with
 | refl=>exact fun _=>Iff.rfl
 | @op E1 E2 i t q hi ht hit _ e ih=>
   refine fun x=>(ih x).trans ⟨fun h=>h.sub fun r hr=>?_,fun h=>h.sub fun r hr=>?_⟩
   ·by_cases e1:r=i
    ·subst e1
     refine ((DF.row hi).addmul q (DF.row (E:=E2) ht)).congr fun k=>?_
     rw [e r k,Ai rfl,e t k,Ae (fun h=>hit h.symm)]; omega
    ·exact (DF.row hr).congr fun k=>by rw [e r k,Ae e1]
   ·by_cases e1:r=i
    ·subst e1
     refine ((DF.row hi).addmul (-q) (DF.row (E:=E1) ht)).congr fun k=>?_
     rw [e r k,Ai rfl,Int.neg_mul]; omega
    ·exact (DF.row hr).congr fun k=>by rw [e r k,Ae e1]
 | @swap E1 E2 i j hi hj _ e ih=>
   refine fun x=>(ih x).trans ⟨fun h=>h.sub fun r hr=>?_,fun h=>h.sub fun r hr=>?_⟩
   ·by_cases e1:r=i
    ·subst e1; exact (DF.row hj).congr fun k=>by rw [e j k,Ai rfl]
    ·by_cases e2:r=j
     ·subst e2; exact (DF.row hi).congr fun k=>by rw [e i k,Ae (fun h=>e1 h.symm),Ai rfl]
     ·exact (DF.row hr).congr fun k=>by rw [e r k,Ae e2,Ae e1]
   ·by_cases e2:r=j
    ·subst e2; exact (DF.row hi).congr fun k=>by rw [e r k,Ai rfl]
    ·by_cases e1:r=i
     ·subst e1; exact (DF.row hj).congr fun k=>by rw [e r k,Ae e2,Ai rfl]
     ·exact (DF.row hr).congr fun k=>by rw [e r k,Ae e2,Ae e1]
 | @neg E1 E2 i hi _ e ih=>
   refine fun x=>(ih x).trans ⟨fun h=>h.sub fun r hr=>?_,fun h=>h.sub fun r hr=>?_⟩
   ·by_cases e1:r=i
    ·subst e1
     exact (DF.addmul (x:=fun _=>0) (-1) (.zero fun _=>rfl) (DF.row (E:=E2) hi)).congr fun k=>by rw [e r k,Ai rfl]; omega
    ·exact (DF.row hr).congr fun k=>by rw [e r k,Ae e1]
   ·by_cases e1:r=i
    ·subst e1
     exact (DF.addmul (x:=fun _=>0) (-1) (.zero fun _=>rfl) (DF.row (E:=E1) hi)).congr fun k=>by rw [e r k,Ai rfl]; omega
    ·exact (DF.row hr).congr fun k=>by rw [e r k,Ae e1]
theorem Qm {a b:Int}:F3 a b < 0 ↔ a < b:=by unfold F3; split <;> (try split) <;> omega
theorem GC {g:List (List Int)} {c t:Nat}:∀ {j:Nat},Cr g c t j=none→∀ i,t≤i→i < t+j→Aw g i c=0
 | 0,_,i,a,b=>by omega
 | j+1,h,i,a,b=>by
   rw [Cr] at h
   unfold FQ at h
   split at h
   ·rename_i h0
    by_cases e:i=t+j
    ·rw [e]; exact h0
    ·exact GC h i a (by omega)
   ·split at h
    ·cases h
    ·split at h <;> cases h
theorem KR {g:List (List Int)} {c t:Nat}:∀ {j:Nat},(∀ i,t≤i→i < t+j→Aw g i c=0)→Cr g c t j=none
 | 0,_=>rfl
 | j+1,h=>by
   rw [Cr,KR (fun i a b=>h i a (by omega))]
   unfold FQ
   rw [Ai (h (t+j) (by omega) (by omega))]
theorem E8 {g:List (List Int)} {c t:Nat}:∀ {j k:Nat},Cr g c t j=some k→Aw g k c≠0∧∀ i,t≤i→i < t+j→Aw g i c≠0→(Aw g k c).natAbs≤(Aw g i c).natAbs
 | 0,k,h=>by cases h
 | j+1,k,h=>by
   rw [Cr] at h
   unfold FQ at h
   split at h
   ·rename_i h0
    obtain ⟨a,b⟩:=E8 h
    refine ⟨a,fun i x y z=>?_⟩
    by_cases e:i=t+j
    ·rw [e] at z; exact absurd h0 z
    ·exact b i x (by omega) z
   ·rename_i h0
    split at h
    ·rename_i hn
     injection h with h; subst h
     refine ⟨h0,fun i x y z=>?_⟩
     by_cases e:i=t+j
     ·rw [e]; exact Ah _
     ·exact absurd (GC hn i x (by omega)) z
    ·rename_i q hq
     obtain ⟨a,b⟩:=E8 hq
     split at h
     ·rename_i hc
      rw [Qm] at hc
      injection h with h; subst h
      refine ⟨h0,fun i x y z=>?_⟩
      by_cases e:i=t+j
      ·rw [e]; exact Ah _
      ·have:=b i x (by omega) z; omega
     ·rename_i hc
      rw [Qm] at hc
      injection h with h; subst h
      refine ⟨a,fun i x y z=>?_⟩
      by_cases e:i=t+j
      ·rw [e]; omega
      ·exact b i x (by omega) z
theorem SU {x p:Int} (h:p≠0):(x.fmod p).natAbs < p.natAbs:=by
 rcases Dh h with h | h
 ·have h1:x.fmod p=-((-x).fmod (-p)):=by rw [Int.neg_fmod_neg]; omega
  have h2:=C5 (-x) (show 0 < -p by omega)
  have h3:=Ji (-x) (show 0 < -p by omega)
  omega
 ·have h2:=C5 x h
  have h3:=Ji x h
  omega
theorem LE {x p:Int} (h:p≠0):(x.fdiv p).natAbs≤x.natAbs:=by
 have h1:∀ y q:Int,0 < q→(y.fdiv q).natAbs≤y.natAbs:=fun y q hq=>by
  have e:=Hj y q
  have h2:=C5 y hq
  have h3:=Ji y hq
  generalize y.fdiv q=z at *
  generalize y.fmod q=f at *
  by_cases hz:0≤z
  ·have:z≤q * z:=by have:=Be (show 1≤q by omega) hz; omega
   omega
  ·have:q * z+q≤z+1:=by
    have h4:=Be (show 1≤q by omega) (show 0≤-(z+1) by omega)
    have:q * (-(z+1))=-(q * z) - q:=by grind
    omega
   omega
 rcases Dh h with h | h
 ·have:=h1 (-x) (-p) (by omega)
  rw [Int.neg_fdiv_neg] at this
  omega
 ·exact h1 x p h
theorem Jv (x p:Int):x - x.fdiv p * p=x.fmod p:=by have:=Hj x p; rw [Ed]; omega
structure Uy (g g':List (List Int)) (c t m:Nat):Prop where
 pos:0 < Aw g' t c
 low:∀ i,t < i→i < m→Aw g' i c=0
 up:∀ i,i < t→0≤Aw g' i c∧Aw g' i c < Aw g' t c
 old:∀ k,(∀ i,t≤i→i < m→Aw g i k=0)→(∀ i,t≤i→i < m→Aw g' i k=0)∧∀ i,i < t→Aw g' i k=Aw g i k
theorem T9 {n:Nat} {g g':List (List Int)} {c t:Nat} (hr:Bq n g) (ht:t < g.length) (h:FU g t c=some g') (h0:Aw g t c≠0) (hl:∀ i,t < i→i < g.length→Aw g i c=0):Uy g g' c t g.length:=by
 have key:∀ g1:List (List Int),Bq n g1→g1.length=g.length→0 < Aw g1 t c→(∀ i k,Aw g1 i k=if i=t then Aw g1 t k else Aw g i k)→(∀ k,Aw g1 t k=Aw g t k∨Aw g1 t k=-Aw g t k)→B9 g1 c t 0 t=some g'→Uy g g' c t g.length:=fun g1 hr1 hl1 hp he hs hel=>by
  have e:=Em hr1 (by omega) t g' hel (by omega) (.inr (by omega))
  refine ⟨by rw [e,Ae (by omega)]; exact hp,fun i a b=>by rw [e,Ae (by omega),he,Ae (by omega)]; exact hl i a b,fun i a=>?_,fun k hk=>⟨fun i a b=>?_,fun i a=>?_⟩⟩
  ·rw [e i,Ai (by omega),e t,Ae (by omega)]
   unfold MW
   rw [Jv]
   exact ⟨C5 _ hp,Ji _ hp⟩
  ·rw [e i,Ae (by omega),he]
   by_cases e1:i=t
   ·rw [Ai e1]; have:=hk t (Ah _) ht; rcases hs k with h | h <;> omega
   ·rw [Ae e1]; exact hk i a b
  ·rw [e i,Ai (by omega),he i,Ae (by omega)]
   have:Aw g1 t k=0:=by have:=hk t (Ah _) ht; rcases hs k with h | h <;> omega
   rw [this,BJ,Int.sub_zero]
 unfold FU at h
 split at h
 ·rename_i hneg
  split at h
  ·refine key _ (hr.set (by rw [AE,Er hr ht])) (A4) (by rw [ID ht,Ai rfl]; omega) (fun i k=>?_) (fun k=>.inr (by rw [ID ht,Ai rfl])) h
   rw [ID ht,ID ht,Ai rfl]
  ·cases h
 ·exact key g hr rfl (by omega) (fun i k=>by by_cases e:i=t <;> simp [e]) (fun k=>.inl rfl) h
theorem MA {n c t:Nat}:∀ (F:Nat) (g g':List (List Int)) (t':Nat),Bq n g→t < g.length→Fq F g c t=some (g',t')→(t'=t∧g'=g∧∀ i,t≤i→i < g.length→Aw g i c=0)∨(t'=t+1∧Uy g g' c t g.length)
 | 0,_,_,_,_,_,h=>by cases h
 | F+1,g,g',t',hr,ht,h=>by
   rw [Kz h] at h
   cases hp:Cr g c t (g.length - t) with
   | none=>
     rw [hp] at h; injection h with h; injection h with h1 h2; subst h1; subst h2
     exact .inl ⟨rfl,rfl,fun i a b=>GC hp i a (by omega)⟩
   | some k=>
     rw [hp] at h
     obtain ⟨g2,h1,h2⟩:=A1.1 h
     obtain ⟨hk1,hk2⟩:=Fj _ _ hp
     obtain ⟨p0,-⟩:=E8 hp
     have hr1:Bq n (Ep g t k):=H3 hr
     have hl1:=Hr g t k
     have hs:=fun r q=>LF (g:=g) (i:=t) (j:=k) ht (by omega) r q
     have he:=Em hr1 (by omega) _ g2 h1 (by omega) (.inl (by omega))
     obtain ⟨hr2,hl2⟩:=Cl hr1 _ g2 h1 (by omega)
     rw [hl1] at hl2
     have htc:Aw g2 t c≠0:=by
      rw [he,Ae (by omega),hs]
      by_cases e:t=k
      ·rw [Ai e,e]; exact p0
      ·rw [Ae e,Ai rfl]; exact p0
     have hold:∀ q,(∀ i,t≤i→i < g.length→Aw g i q=0)→(∀ i,t≤i→i < g.length→Aw g2 i q=0)∧∀ i,i < t→Aw g2 i q=Aw g i q:=fun q hq=>by
      have h9:∀ i,t≤i→i < g.length→Aw (Ep g t k) i q=0:=fun i a b=>by
       rw [hs]
       split
       ·exact hq t (Ah _) ht
       ·split
        ·exact hq k (by omega) (by omega)
        ·exact hq i a b
      refine ⟨fun i a b=>?_,fun i a=>?_⟩
      ·rw [he]
       split
       ·rw [h9 i a b,h9 t (Ah _) ht]; omega
       ·exact h9 i a b
      ·rw [he,Ae (by omega),hs,Ae (by omega),Ae (by omega)]
     have hrest:=Iw hr1 (by omega) _ g2 h1 (by omega) (by omega)
     have fin:∀ g3:List (List Int),Uy g2 g3 c t g2.length→Uy g g3 c t g.length:=fun g3 d=>by
      rw [hl2] at d
      refine ⟨d.pos,d.low,d.up,fun q hq=>?_⟩
      obtain ⟨a,b⟩:=hold q hq
      obtain ⟨a',b'⟩:=d.old q a
      exact ⟨a',fun i hi=>by rw [b' i hi,b i hi]⟩
     split at h2
     ·rcases MA F g2 g' t' hr2 (by omega) h2 with ⟨-,-,h3⟩ | ⟨e,d⟩
      ·exact absurd (h3 t (Ah _) (by omega)) htc
      ·exact .inr ⟨e,fin g' d⟩
     ·rename_i hnr
      split at h2
      ·obtain ⟨g3,h3,h4⟩:=CD.1 h2
       injection h4 with h4 h5; subst h4; subst h5
       refine .inr ⟨rfl,fin g3 (T9 hr2 (by rw [hl2]; exact ht) h3 htc fun i a b=>?_)⟩
       have hi2:i < t+1+(g.length - (t+1)):=by rw [hl2] at b; clear hrest hnr he hs; omega
       rw [he,Ai ⟨a,hi2⟩]
       unfold MW
       rw [Jv]
       exact At fun h9=>hnr (hrest.2 ⟨i,a,hi2,h9⟩)
      ·cases h2
theorem Ro {q x y:Int} (hq:q.natAbs < Kb) (hy:y.natAbs < Kb) (hx:x.natAbs < Kb):Vr q x y=true:=Yv hq hy hx
theorem GH {x:Int} (hx:x.natAbs < Kb):Jz x=true:=N5 hx
theorem Ug {g:List (List Int)} {c:Nat} (h:∀ i,i < g.length→(Aw g i c).natAbs < Kb):Ij g c=true:=AF.2 fun i hi=>GH (h i (Cn.1 hi))
theorem JY {x y q:Int} {A B C:Nat} (hx:x.natAbs≤A) (hq:q.natAbs≤B) (hy:y.natAbs≤C):(x - q * y).natAbs≤A+B * C:=by
 have:=Az hq hy
 rw [← AZ] at this
 omega
theorem Qk {n c t m:Nat} {P Q:List (List Int)→Prop} (ht:t < m) (hP:∀ g,P g→Bq n g∧g.length=m∧Ij g c=true)
 (hstep:∀ g k,P g→t≤k→k < m→Cr g c t (m - t)=some k→∃ g2,B9 (Ep g t k) c t (t+1) (m - (t+1))=some g2∧((∃ i,t < i∧i < m∧Aw g2 i c≠0)→P g2)∧((∀ i,t < i→i < m→Aw g2 i c=0)→Aw g2 t c≠0→Jz (Aw g2 t c)=true∧∃ g3,FU g2 t c=some g3∧Q g3)) :
 ∀ (F:Nat) (g:List (List Int)),P g→(∃ i,t≤i∧i < m∧Aw g i c≠0∧(Aw g i c).natAbs < F)→∃ g3,Fq F g c t=some (g3,t+1)∧Q g3
 | 0,_,_,⟨_,_,_,_,h⟩=>absurd h (A3 _)
 | F+1,g,hg,⟨i0,a0,b0,h0,hF⟩=>by
   obtain ⟨hr,hl,hok⟩:=hP g hg
   rw [Fq,Ai hok,hl]
   cases hp:Cr g c t (m - t) with
   | none=>exact absurd (GC hp i0 a0 (by omega)) h0
   | some k=>
     obtain ⟨hk1,hk2⟩:=Fj _ _ hp
     obtain ⟨p0,pl⟩:=E8 hp
     obtain ⟨g2,he,h1,h2⟩:=hstep g k hg hk1 (by omega) hp
     have hle:=pl i0 a0 (by omega) h0
     have hr1:Bq n (Ep g t k):=H3 hr
     have hl1:=Hr g t k
     have hs:=fun r q=>LF (g:=g) (i:=t) (j:=k) (by omega) (by omega) r q
     have hent:=Em hr1 (by omega) _ g2 he (by omega) (.inl (by omega))
     have htc:Aw (Ep g t k) t c=Aw g k c:=by
      rw [hs]
      by_cases e:t=k
      ·rw [Ai e,e]
      ·rw [Ae e,Ai rfl]
     have hrow:∀ i,t < i→i < m→Aw g2 i c=(Aw (Ep g t k) i c).fmod (Aw g k c):=fun i a b=>by
      rw [hent,Ai (by omega)]
      unfold MW
      rw [Jv,htc]
     have hm1:t+1+(m - (t+1))≤(Ep g t k).length:=by omega
     have hrest:=Iw hr1 (by omega) _ g2 he hm1 (by omega)
     rw [htc] at hrest
     show ∃ g3,((B9 (Ep g t k) c t (t+1) (m - (t+1))).bind fun g2=>if E7 (Ep g t k) c t (t+1) (m - (t+1))=true then Fq F g2 c t else if Jz (Aw g2 t c)=true then (FU g2 t c).map fun g3=>(g3,t+1) else none)=some (g3,t+1)∧Q g3
     rw [he]
     by_cases hres:E7 (Ep g t k) c t (t+1) (m - (t+1))=true
     ·obtain ⟨i,a,b,hn⟩:=hrest.1 hres
      have b2:i < m:=by clear hrest hres; omega
      have a2:t < i:=by clear hrest hres; omega
      have e1:=hrow i a2 b2
      rw [← e1] at hn
      have hlt:=SU (x:=Aw (Ep g t k) i c) p0
      rw [← e1] at hlt
      obtain ⟨g3,k1,k2⟩:=Qk ht hP hstep F g2 (h1 ⟨i,a2,b2,hn⟩) ⟨i,by clear hrest hres; omega,b2,hn,by clear hrest hres; omega⟩
      exact ⟨g3,by show (if _ then _ else _)=_; rw [Ai hres]; exact k1,k2⟩
     ·have hz:∀ i,t < i→i < m→Aw g2 i c=0:=fun i a b=>by
       rw [hrow i a b]
       have b2:i < t+1+(m - (t+1)):=by clear hrest hres; omega
       exact At fun h9=>hres (hrest.2 ⟨i,a,b2,h9⟩)
      have hc2:Aw g2 t c≠0:=by
       have:¬ (t+1≤t∧t < t+1+(m - (t+1))):=by clear hrest hres; omega
       rw [hent,Ae this,htc]; exact p0
      obtain ⟨k0,g3,k1,k2⟩:=h2 hz hc2
      exact ⟨g3,by show (if _ then _ else _)=_; rw [Ae hres,Ai k0,k1]; rfl,k2⟩
theorem NS {F c t:Nat} {g:List (List Int)} (hok:Ij g c=true) (h:∀ i,t≤i→i < g.length→Aw g i c=0):Fq (F+1) g c t=some (g,t):=by
 rw [Fq,Ai hok,KR (fun i a b=>h i a (by omega))]
theorem Xy {n c t T V:Nat} {g:List (List Int)} (hr:Bq n g) (ht:t < g.length) (h0:Aw g t c≠0) (hT:T < Kb) (hV:V < Kb) (h1:∀ i,i < t→∀ k,(Aw g i k).natAbs≤T) (h2:∀ k,(Aw g t k).natAbs≤V) :
 ∃ g3,FU g t c=some g3∧(∀ i,i < t→∀ k,(Aw g3 i k).natAbs≤T+T * V)∧∀ i,t≤i→∀ k,(Aw g3 i k).natAbs=(Aw g i k).natAbs:=by
 have key:∀ g1:List (List Int),Bq n g1→g1.length=g.length→Aw g1 t c≠0→(∀ i k,(Aw g1 i k).natAbs=(Aw g i k).natAbs)→∃ g3,B9 g1 c t 0 t=some g3∧(∀ i,i < t→∀ k,(Aw g3 i k).natAbs≤T+T * V)∧∀ i,t≤i→∀ k,(Aw g3 i k).natAbs=(Aw g i k).natAbs:=fun g1 hr1 hl1 hp he=>by
  have hq:∀ i,i < t→(MW g1 c t i).natAbs≤T:=fun i a=>by
   have:=LE (x:=Aw g1 i c) hp
   have h3:=h1 i a c
   rw [← he] at h3
   exact Ar this h3
  obtain ⟨g3,h3⟩:=IE (s:=0) hr1 (by omega) hp (GH (by have:=h2 c; rw [← he] at this; omega)) t (by omega) (.inr (by omega)) (fun i _ a=>⟨GH (by have:=h1 i (by omega) c; rw [← he] at this; omega),fun _ k=>Ro (by have:=hq i (by omega); omega) (by have:=h2 k; rw [← he] at this; omega) (by have:=h1 i (by omega) k; rw [← he] at this; omega)⟩)
  have e:=Em hr1 (by omega) t g3 h3 (by omega) (.inr (by omega))
  refine ⟨g3,h3,fun i a k=>?_,fun i a k=>?_⟩
  ·rw [e,Ai (by omega)]
   exact JY (by rw [he]; exact h1 i a k) (hq i a) (by rw [he]; exact h2 k)
  ·rw [e,Ae (by omega),he]
 unfold FU
 split
 ·have hsm:Ra (BB g t)=true:=AF.2 fun x hx=>by
   obtain ⟨k,hk⟩:=Bz hx
   have:=h2 k
   unfold Aw at this
   rw [hk,Bm] at this
   exact GH (by omega)
  rw [Ai hsm]
  have hn:=fun i k=>ID (g:=g) ht i k
  exact key _ (hr.set (by rw [AE,Er hr ht])) (A4) (by rw [hn,Ai rfl]; omega) (fun i k=>by rw [hn]; by_cases e:i=t <;> simp [e])
 ·exact key g hr rfl h0 (fun _ _=>rfl)
structure FL (p:Nat→Nat) (c t:Nat) (g:List (List Int)):Prop where
 le:t≤g.length
 zero:∀ i,t≤i→i < g.length→∀ k,k < c→Aw g i k=0
 lt:∀ i,i < t→p i < c
 inc:∀ i j,i < j→j < t→p i < p j
 pos:∀ i,i < t→0 < Aw g i (p i)
 low:∀ i,i < t→∀ k,k < p i→Aw g i k=0
 up:∀ i j,i < j→j < t→0≤Aw g i (p j)∧Aw g i (p j) < Aw g j (p j)
theorem FL.init (p:Nat→Nat) (g:List (List Int)):FL p 0 0 g :=
 ⟨Cp _,fun _ _ _ _ h=>absurd h (A3 _),fun _ h=>absurd h (A3 _),fun _ _ _ h=>absurd h (A3 _),fun _ h=>absurd h (A3 _),fun _ h=>absurd h (A3 _),fun _ _ _ h=>absurd h (A3 _)⟩
theorem FL.none {p:Nat→Nat} {c t:Nat} {g:List (List Int)} (h:FL p c t g) (hz:∀ i,t≤i→i < g.length→Aw g i c=0):FL p (c+1) t g :=
 ⟨h.le,fun i a b k hk=>by
  by_cases e:k=c
  ·rw [e]; exact hz i a b
  ·exact h.zero i a b k (by omega),fun i hi=>by have:=h.lt i hi; omega,h.inc,h.pos,h.low,h.up⟩
theorem FL.full {p:Nat→Nat} {c t:Nat} {g:List (List Int)} (h:FL p c t g) (ht:g.length≤t) (n:Nat):FL p (c+n) t g :=
 ⟨h.le,fun i a b=>by omega,fun i hi=>by have:=h.lt i hi; omega,h.inc,h.pos,h.low,h.up⟩
theorem FL.next {p:Nat→Nat} {c t:Nat} {g g':List (List Int)} (h:FL p c t g) (hl:g'.length=g.length) (ht:t < g.length) (dn:Uy g g' c t g.length):FL (fun i=>if i=t then c else p i) (c+1) (t+1) g':=by
 have old:=fun k (hk:k < c)=>dn.old k (fun i a b=>h.zero i a b k hk)
 refine ⟨by omega,fun i a b k hk=>?_,fun i hi=>?_,fun i j hij hj=>?_,fun i hi=>?_,fun i hi k hk=>?_,fun i j hij hj=>?_⟩
 ·by_cases e:k=c
  ·rw [e]; exact dn.low i (by omega) (by omega)
  ·exact (old k (by omega)).1 i (by omega) (by omega)
 ·show (if i=t then c else p i) < c+1
  split
  ·omega
  ·have:=h.lt i (by omega); omega
 ·show (if i=t then c else p i) < if j=t then c else p j
  rw [Ae (by omega)]
  split
  ·exact h.lt i (by omega)
  ·exact h.inc i j hij (by omega)
 ·show 0 < Aw g' i (if i=t then c else p i)
  split
  ·rename_i e; rw [e]; exact dn.pos
  ·rw [(old (p i) (h.lt i (by omega))).2 i (by omega)]; exact h.pos i (by omega)
 ·have hk:k < if i=t then c else p i:=hk
  split at hk
  ·rename_i e; rw [e]; exact (old k hk).1 t (Ah _) ht
  ·have h1:=h.lt i (by omega)
   rw [(old k (by omega)).2 i (by omega)]; exact h.low i (by omega) k hk
 ·show 0≤Aw g' i (if j=t then c else p j)∧Aw g' i (if j=t then c else p j) < Aw g' j (if j=t then c else p j)
  split
  ·rename_i e; rw [e]; exact dn.up i (by omega)
  ·have h1:=h.lt j (by omega)
   rw [(old (p j) h1).2 i (by omega),(old (p j) h1).2 j (by omega)]; exact h.up i j hij (by omega)
theorem F6 {F n:Nat}:∀ (cols c t:Nat) (g gF:List (List Int)) (tF:Nat) (p:Nat→Nat),Bq n g→FL p c t g→CY F cols c g t=some (gF,tF)→∃ p',FL p' (c+cols) tF gF∧Bq n gF∧gF.length=g.length∧OR g.length (Aw g) (Aw gF)
 | 0,c,t,g,gF,tF,p,hr,he,h=>by
   injection h with h; injection h with h1 h2; subst h1; subst h2
   exact ⟨p,he,hr,rfl,.refl⟩
 | cols+1,c,t,g,gF,tF,p,hr,he,h=>by
   rw [CY] at h
   by_cases ht:t < g.length
   ·rw [Ai ht] at h
    obtain ⟨⟨g1,t1⟩,h1,h2⟩:=A1.1 h
    obtain ⟨u,hr1,hl1,-⟩:=LT F g g1 t1 hr ht h1
    have key:∃ p1,FL p1 (c+1) t1 g1:=by
     rcases MA F g g1 t1 hr ht h1 with ⟨rfl,rfl,hz⟩ | ⟨rfl,dn⟩
     ·exact ⟨p,he.none hz⟩
     ·exact ⟨_,he.next hl1 ht dn⟩
    obtain ⟨p1,he1⟩:=key
    obtain ⟨p',a,b,e,u2⟩:=F6 cols (c+1) t1 g1 gF tF p1 hr1 he1 h2
    rw [hl1] at u2
    exact ⟨p',by rw [show c+(cols+1)=c+1+cols by omega]; exact a,b,by omega,u.trans u2⟩
   ·rw [Ae ht] at h
    injection h with h; injection h with h1 h2; subst h1; subst h2
    exact ⟨p,he.full (by omega) _,hr,rfl,.refl⟩
theorem K6 {g:List (List Int)} {c t s:Nat}:∀ (j:Nat) (g':List (List Int)),(∀ i,s≤i→i < s+j→(Aw g i c).fdiv (Aw g t c)=0)→s+j≤g.length→B9 g c t s j=some g'→g'=g
 | 0,g',_,_,h=>by injection h with h; exact h.symm
 | j+1,g',hz,hl,h=>by
   obtain ⟨g1,h1,h2⟩:=A1.1 h
   obtain rfl:=K6 j g1 (fun i a b=>hz i a (by omega)) (by omega) h1
   obtain ⟨-,-,-,r,h3,rfl⟩:=EW h2
   rw [hz (s+j) (by omega) (by omega)] at h3
   unfold DJ at h3
   rw [Ai rfl] at h3
   injection h3 with h3
   rw [← h3,CK (show s+j < g1.length by omega)]
   exact List.set_getElem_self _
theorem JT {n:Nat} {g:List (List Int)} {c t s j:Nat} (hr:Bq n g) (ht:t < g.length) (h0:Aw g t c≠0) (hs:∀ i,i < g.length→Jz (Aw g i c)=true) (hz:∀ i,s≤i→i < s+j→(Aw g i c).fdiv (Aw g t c)=0) (hl:s+j≤g.length) (hts:t < s∨s+j≤t):B9 g c t s j=some g:=by
 obtain ⟨g',h⟩:=IE hr ht h0 (hs t ht) j hl hts (fun i a b=>⟨hs i (by omega),fun hq=>absurd (hz i a b) hq⟩)
 rw [h,K6 j g' hz hl h]
theorem KS {g:List (List Int)} {c t:Nat} (h0:Aw g t c≠0):∀ j,(∀ i,t < i→i < t+(j+1)→Aw g i c=0)→Cr g c t (j+1)=some t
 | 0,_=>by
   rw [Cr,Cr]
   unfold FQ
   rw [Eb,Ae h0]
 | j+1,h=>by
   rw [Cr,KS h0 j (fun i a b=>h i a (by omega))]
   unfold FQ
   rw [Ai (h (t+(j+1)) (by omega) (by omega))]
theorem Kv {F n:Nat} {p:Nat→Nat} {g:List (List Int)} (hr:Bq n g) (he:FL p n g.length g) (hs:∀ i,i < g.length→∀ k,Jz (Aw g i k)=true):∀ (cols c t:Nat),c+cols=n→t≤g.length→(∀ i,i < g.length→(i < t ↔ p i < c))→CY (F+1) cols c g t=some (g,g.length)
 | 0,c,t,hc,ht,hp=>by
   have:t=g.length:=At fun h9=>by
    have h1:t < g.length:=by omega
    have h2:=he.lt t h1
    have h3:=(hp t h1).2 (by omega)
    omega
   rw [this]; rfl
 | cols+1,c,t,hc,ht,hp=>by
   rw [CY]
   by_cases htl:t < g.length
   ·rw [Ai htl]
    have hok:Ij g c=true:=AF.2 fun i hi=>hs i (Cn.1 hi) c
    by_cases e:p t=c
    ·have h0:Aw g t c≠0:=by have:=he.pos t htl; rw [e] at this; omega
     have hz:∀ i,t < i→i < g.length→Aw g i c=0:=fun i a b=>he.low i b c (by have:=he.inc t i a b; omega)
     have h1:Fq (F+1) g c t=some (g,t+1):=by
      have hq:g.length - t=(g.length - t - 1)+1:=by omega
      have e1:B9 g c t (t+1) (g.length - (t+1))=some g:=JT hr htl h0 (fun i hi=>hs i hi c) (fun i a b=>by rw [hz i (by omega) (by omega),Int.zero_fdiv]) (by omega) (.inl (by omega))
      have hrest:E7 g c t (t+1) (g.length - (t+1))=false:=by
       cases h9:E7 g c t (t+1) (g.length - (t+1)) with
       | false=>rfl
       | true=>
         obtain ⟨i,a,b,hn⟩:=(Iw hr htl _ g e1 (by omega) (by omega)).1 h9
         rw [hz i (by omega) (by omega),Int.zero_fmod] at hn
         exact absurd rfl hn
      have hfin:FU g t c=some g:=by
       have hp0:=he.pos t htl
       rw [e] at hp0
       unfold FU
       rw [Ae (by omega)]
       refine JT hr htl h0 (fun i hi=>hs i hi c) (fun i _ b=>?_) (by omega) (.inr (by omega))
       have h9:=he.up i t (by omega) htl
       rw [e] at h9
       exact Int.fdiv_eq_zero_of_lt h9.1 h9.2
      rw [Fq,Ai hok,hq,KS h0 _ (fun i a b=>hz i a (by omega))]
      show ((B9 (Ep g t t) c t (t+1) (g.length - (t+1))).bind fun g2=>if E7 (Ep g t t) c t (t+1) (g.length - (t+1))=true then Fq F g2 c t else if Jz (Aw g2 t c)=true then (FU g2 t c).map fun g3=>(g3,t+1) else none)=_
      rw [L5,e1,hrest]
      show (if Jz (Aw g t c)=true then _ else _)=_
      rw [Ai (hs t htl c),hfin]; rfl
     rw [h1]
     exact Kv hr he hs cols (c+1) (t+1) (by omega) (by omega) fun i hi=>by
      by_cases a:i < t
      ·have:=(hp i hi).1 a
       exact ⟨fun _=>by omega,fun _=>by omega⟩
      ·by_cases b:i=t
       ·rw [b]; exact ⟨fun _=>by omega,fun _=>by omega⟩
       ·have:=he.inc t i (by omega) hi
        exact ⟨fun _=>by omega,fun _=>by omega⟩
    ·have hpt:c < p t:=At fun h9=>by
      have:=(hp t htl).2 (by omega)
      omega
     have hz:∀ i,t≤i→i < g.length→Aw g i c=0:=fun i a b=>he.low i b c (by
      by_cases e1:i=t
      ·rw [e1]; exact hpt
      ·have:=he.inc t i (by omega) b; omega)
     rw [NS hok hz]
     exact Kv hr he hs cols (c+1) t (by omega) ht fun i hi=>by
      by_cases a:i < t
      ·have:=(hp i hi).1 a
       exact ⟨fun _=>by omega,fun _=>a⟩
      ·have h1:p t≤p i:=by
        by_cases e1:i=t
        ·rw [e1]; exact Ah _
        ·exact D8 (he.inc t i (by omega) hi)
       exact ⟨fun h=>absurd h a,fun h=>by omega⟩
   ·rw [Ae htl,show t=g.length by omega]
end Go.Proofs.YtiniigadkknboaaGreatDoor
