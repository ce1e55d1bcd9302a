/- Contracts and laws: VPL. -/
import Derived.Test.YtcglmebcfeoedaaGreatDoorVFT
import Derived.Test.YtcglmebcfeoedaaGreatDoorVSA

namespace Go.Proofs.YtcglmebcfeoedaaGreatDoor
open Go.RowKit Go.Lib
theorem XD {n i k:Nat} {g:List (List Int)} (h:Ce n g) (hk:n≤k):ent g i k=0:=by
 unfold ent Bv
 cases e:g[i]? with
 | none=>simp
 | some r=>rw [Cz,AM (by rw [h r (Ae e)]; exact hk)]; rfl
theorem Rx {g:List (List Int)} {i:Nat} {r:List Int} (hi:i < g.length) (j k:Nat):ent (g.set i r) j k=if j=i then (r[k]?).getD 0 else ent g j k:=by
 unfold ent Bv
 rw [BA]
 by_cases e:i=j
 ·subst e; rw [Aj rfl,Aj hi,Aj rfl,Cz]
 ·rw [Ai e,Ai (fun h=>e h.symm)]
theorem JQ {g:List (List Int)} {i j:Nat} (hi:i < g.length) (hj:j < g.length) (r k:Nat):ent (swp g i j) r k=if r=j then ent g i k else if r=i then ent g j k else ent g r k:=by
 unfold ent Bv
 rw [Dp g i j (Ab hi) (Ab hj)]
 by_cases e:r=j
 ·rw [Aj e,Aj e,Ab hi]
 ·rw [Ai e,Ai e]
  by_cases e2:r=i
  ·rw [Aj e2,Aj e2,Ab hj]
  ·rw [Ai e2,Ai e2]
theorem M4 {q:Int} {xs ys zs:List Int} (h:DO q xs ys=some zs) (hl:ys.length=xs.length) (k:Nat):(zs[k]?).getD 0=(xs[k]?).getD 0 - q * (ys[k]?).getD 0:=by
 unfold DO at h
 split at h
 ·rename_i h0; injection h with h; rw [h,h0,Tc,Td]
 ·obtain ⟨h1,h2⟩:=Fw q xs ys zs h
  by_cases hk:k < xs.length
  ·obtain ⟨y,hy,-,hz⟩:=h2 k _ (Ab hk)
   rw [hz,hy,Ab hk]; rfl
  ·rw [AM (by omega),AM (by omega),AM (by omega)]; simp
theorem Ls {q:Int}:∀ {xs ys:List Int},ys.length=xs.length→(∀ k:Nat,VS q ((xs[k]?).getD 0) ((ys[k]?).getD 0)=true)→∃ zs,Hj q xs ys=some zs
 | [],ys,_,_=>⟨[],rfl⟩
 | x :: xs,[],h,_=>by simp at h
 | x :: xs,y :: ys,h,hk=>by
   obtain ⟨zs,hz⟩:=Ls (q:=q) (xs:=xs) (ys:=ys) (by simpa using h) (fun k=>by simpa using hk (k+1))
   have h0:=hk 0
   simp only [K2,Cz] at h0
   exact ⟨_,by rw [Hj,Aj h0,hz]; rfl⟩
theorem Lr {q:Int} {xs ys:List Int} (hl:ys.length=xs.length) (hk:q≠0→∀ k:Nat,VS q ((xs[k]?).getD 0) ((ys[k]?).getD 0)=true):∃ zs,DO q xs ys=some zs:=by
 unfold DO
 split
 ·exact ⟨_,rfl⟩
 ·rename_i h; exact Ls hl (hk h)
theorem EI {n i:Nat} {g:List (List Int)} (h:Ce n g) (hi:i < g.length):(Bv g i).length=n:=by rw [Cb hi]; exact h.row hi
def M9 (g:List (List Int)) (c t i:Nat):Int:=(ent g i c).fdiv (ent g t c)
theorem Nq {n:Nat} {g g':List (List Int)} {c t i:Nat} (h:GH g c t i=some g') (hr:Ce n g) (hi:i < g.length) (ht:t < g.length) (j k:Nat):ent g' j k=if j=i then ent g i k - M9 g c t i * ent g t k else ent g j k:=by
 obtain ⟨-,-,-,r,h1,rfl⟩:=FD h
 rw [Rx hi]
 by_cases e:j=i
 ·rw [Aj e,Aj e]; exact M4 h1 (by rw [EI hr hi,EI hr ht]) k
 ·rw [Ai e,Ai e]
theorem Ut {n:Nat} {g:List (List Int)} {c t i:Nat} (hr:Ce n g) (hi:i < g.length) (ht:t < g.length) (h0:ent g t c≠0) (h1:M5 (ent g i c)=true) (h2:M5 (ent g t c)=true) (h3:M9 g c t i≠0→∀ k,VS (M9 g c t i) (ent g i k) (ent g t k)=true):∃ g',GH g c t i=some g':=by
 obtain ⟨zs,hz⟩:=Lr (q:=M9 g c t i) (xs:=Bv g i) (ys:=Bv g t) (by rw [EI hr hi,EI hr ht]) h3
 unfold GH
 rw [Aj (by simp only [Bb,Bl,ne_eq]; exact ⟨⟨h1,h2⟩,h0⟩)]
 exact ⟨_,by unfold M9 at hz; rw [hz]; rfl⟩
theorem D8 {n:Nat} {g:List (List Int)} {c t s:Nat} (hr:Ce n g) (ht:t < g.length):∀ (j:Nat) (g':List (List Int)),Cl g c t s j=some g'→s+j≤g.length→(t < s∨s+j≤t)→∀ i k,ent g' i k=if s≤i∧i < s+j then ent g i k - M9 g c t i * ent g t k else ent g i k
 | 0,g',h,_,_,i,k=>by injection h with h; subst h; rw [Ai (by omega)]
 | j+1,g',h,hl,hts,i,k=>by
   obtain ⟨g1,h1,h2⟩:=A2.1 h
   have ih:=D8 hr ht j g1 h1 (by omega) (by omega)
   obtain ⟨hr1,hl1⟩:=Cf hr j g1 h1 (by omega)
   have e1:=Nq h2 hr1 (by omega) (by omega) i k
   have et:∀ k,ent g1 t k=ent g t k:=fun k=>by rw [ih t k,Ai (by omega)]
   have es:∀ k,ent g1 (s+j) k=ent g (s+j) k:=fun k=>by rw [ih (s+j) k,Ai (by omega)]
   rw [e1]
   by_cases e:i=s+j
   ·rw [Aj e,Aj (by omega),e]
    unfold M9
    rw [et,es,et,es]
   ·rw [Ai e,ih i k]
    by_cases e2:s≤i∧i < s+j
    ·rw [Aj e2,Aj (by omega)]
    ·rw [Ai e2,Ai (by omega)]
theorem Ku {n:Nat} {g:List (List Int)} {c t s:Nat} (hr:Ce n g) (ht:t < g.length) (h0:ent g t c≠0) (h2:M5 (ent g t c)=true):∀ j,s+j≤g.length→(t < s∨s+j≤t)→(∀ i,s≤i→i < s+j→M5 (ent g i c)=true∧(M9 g c t i≠0→∀ k,VS (M9 g c t i) (ent g i k) (ent g t k)=true))→∃ g',Cl g c t s j=some g'
 | 0,_,_,_=>⟨g,rfl⟩
 | j+1,hl,hts,hb=>by
   obtain ⟨g1,h1⟩:=Ku hr ht h0 h2 j (by omega) (by omega) (fun i a b=>hb i a (by omega))
   have ih:=D8 hr ht j g1 h1 (by omega) (by omega)
   obtain ⟨hr1,hl1⟩:=Cf hr j g1 h1 (by omega)
   have et:∀ k,ent g1 t k=ent g t k:=fun k=>by rw [ih t k,Ai (by omega)]
   have es:∀ k,ent g1 (s+j) k=ent g (s+j) k:=fun k=>by rw [ih (s+j) k,Ai (by omega)]
   have hbj:=hb (s+j) (by omega) (by omega)
   have eq:M9 g1 c t (s+j)=M9 g c t (s+j):=by unfold M9; rw [et,es]
   obtain ⟨g2,h3⟩:=Ut (c:=c) (i:=s+j) (t:=t) hr1 (by omega) (by omega) (by rw [et]; exact h0) (by rw [es]; exact hbj.1) (by rw [et]; exact h2) (fun hq k=>by rw [eq,et,es]; exact hbj.2 (by rw [← eq]; exact hq) k)
   exact ⟨g2,by rw [Cl,h1]; exact h3⟩
theorem Kj {n:Nat} {g:List (List Int)} {c t s:Nat} (hr:Ce n g) (ht:t < g.length):∀ (j:Nat) (g':List (List Int)),Cl g c t s j=some g'→s+j≤g.length→t < s→(F7 g c t s j=true ↔ ∃ i,s≤i∧i < s+j∧(ent g i c).fmod (ent g t c)≠0)
 | 0,g',h,_,_=>by
   rw [F7]
   exact ⟨fun h=>(by cases h),fun ⟨i,a,b,_⟩=>(by omega)⟩
 | j+1,g',h,hl,hts=>by
   obtain ⟨g1,h1,h2⟩:=A2.1 h
   have ih:=Kj hr ht j g1 h1 (by omega) hts
   have ie:=D8 hr ht j g1 h1 (by omega) (.inl hts)
   have et:ent g1 t c=ent g t c:=by rw [ie t c,Ai (by omega)]
   have es:ent g1 (s+j) c=ent g (s+j) c:=by rw [ie (s+j) c,Ai (by omega)]
   rw [F7,h1,Bool.or_eq_true,ih]
   show (_∨(!decide ((ent g1 (s+j) c).fmod (ent g1 t c)=0))=true) ↔ _
   rw [et,es,Tf,YO]
   constructor
   ·rintro (⟨i,a,b,h⟩ | h)
    ·exact ⟨i,a,by omega,h⟩
    ·exact ⟨s+j,by omega,by omega,h⟩
   ·rintro ⟨i,a,b,h⟩
    by_cases e:i=s+j
    ·subst e; exact .inr h
    ·exact .inl ⟨i,a,by omega,h⟩
theorem II {g:List (List Int)} {t:Nat} (ht:t < g.length) (j k:Nat):ent (g.set t ((Bv g t).map fun x=>-x)) j k=if j=t then -ent g t k else ent g j k:=by
 rw [Rx ht]
 by_cases e:j=t
 ·rw [Aj e,Aj e,Ao]
  unfold ent
  cases (Bv g t)[k]? <;> simp
 ·rw [Ai e,Ai e]
inductive Mn (m:Nat) (E:Nat→Nat→Int):(Nat→Nat→Int)→Prop
 | refl:Mn m E E
 | op {E1 E2:Nat→Nat→Int} (i t:Nat) (q:Int):i < m→t < m→i≠t→Mn m E E1→(∀ r k,E2 r k=if r=i then E1 i k - q * E1 t k else E1 r k)→Mn m E E2
 | swap {E1 E2:Nat→Nat→Int} (i j:Nat):i < m→j < m→Mn m E E1→(∀ r k,E2 r k=if r=j then E1 i k else if r=i then E1 j k else E1 r k)→Mn m E E2
 | neg {E1 E2:Nat→Nat→Int} (i:Nat):i < m→Mn m E E1→(∀ r k,E2 r k=if r=i then -E1 i k else E1 r k)→Mn m E E2
theorem Mn.trans {m:Nat} {E F H:Nat→Nat→Int} (h:Mn m E F) (k:Mn m F H):Mn m E H:=by
 induction k with
 | refl=>exact h
 | op i t q a b c _ e ih=>exact .op i t q a b c ih e
 | swap i j a b _ e ih=>exact .swap i j a b ih e
 | neg i a _ e ih=>exact .neg i a ih e
theorem Vz {g:List (List Int)} {i j:Nat} (hi:i < g.length) (hj:j < g.length):Mn g.length (ent g) (ent (swp g i j)):=.swap i j hi hj .refl fun r k=>JQ hi hj r k
theorem Hh {n:Nat} {g:List (List Int)} {c t s:Nat} (hr:Ce n g) (ht:t < g.length):∀ (j:Nat) (g':List (List Int)),Cl g c t s j=some g'→s+j≤g.length→(t < s∨s+j≤t)→Mn g.length (ent g) (ent g')
 | 0,g',h,_,_=>by injection h with h; subst h; exact .refl
 | j+1,g',h,hl,hts=>by
   obtain ⟨g1,h1,h2⟩:=A2.1 h
   obtain ⟨hr1,hl1⟩:=Cf hr j g1 h1 (by omega)
   exact .op (s+j) t (M9 g1 c t (s+j)) (by omega) ht (by omega) (Hh hr ht j g1 h1 (by omega) (by omega)) (fun r k=>Nq h2 hr1 (by omega) (by omega) r k)
theorem To {n:Nat} {g g':List (List Int)} {c t:Nat} (hr:Ce n g) (ht:t < g.length) (h:G4 g t c=some g'):Mn g.length (ent g) (ent g')∧Ce n g'∧g'.length=g.length:=by
 unfold G4 at h
 split at h
 ·split at h
  ·have hr2:Ce n (g.set t ((Bv g t).map fun x=>-x)):=hr.set (by rw [Am,EI hr ht])
   have h1:=Hh hr2 (by rw [AN]; exact ht) t g' h (by rw [AN]; omega) (.inr (by omega))
   have h2:=Cf hr2 t g' h (by rw [AN]; omega)
   rw [AN] at h1 h2
   exact ⟨Mn.trans (.neg t ht .refl fun r k=>II ht r k) h1,h2⟩
  ·cases h
 ·exact ⟨Hh hr ht t g' h (by omega) (.inr (by omega)),Cf hr t g' h (by omega)⟩
theorem Ot {n c t:Nat}:∀ (F:Nat) (g g':List (List Int)) (t':Nat),Ce n g→t < g.length→GK F g c t=some (g',t')→Mn g.length (ent g) (ent g')∧Ce n g'∧g'.length=g.length∧(t'=t∨t'=t+1)
 | 0,_,_,_,_,_,h=>by cases h
 | F+1,g,g',t',hr,ht,h=>by
   rw [Kv h] at h
   cases hp:CQ g c t (g.length - t) with
   | none=>
     rw [hp] at h; injection h with h; injection h with h1 h2; subst h1; subst h2
     exact ⟨.refl,hr,rfl,.inl rfl⟩
   | some k=>
     rw [hp] at h
     obtain ⟨g2,h1,h2⟩:=A2.1 h
     have hk:=E7 _ _ hp
     have u1:=Vz (g:=g) (i:=t) (j:=k) ht (by omega)
     have hr1:Ce n (swp g t k):=H1 hr
     have hl1:=Fp g t k
     have u2:=Hh hr1 (by omega) _ g2 h1 (by omega) (.inl (by omega))
     obtain ⟨hr2,hl2⟩:=Cf hr1 _ g2 h1 (by omega)
     rw [hl1] at u2 hl2
     have u3:=u1.trans u2
     split at h2
     ·obtain ⟨u4,a,b,e⟩:=Ot F g2 g' t' hr2 (by omega) h2
      rw [hl2] at u4 b
      exact ⟨u3.trans u4,a,b,e⟩
     ·split at h2
      ·obtain ⟨g3,h3,h4⟩:=AV.1 h2
       injection h4 with h4 h5; subst h4; subst h5
       obtain ⟨u4,a,b⟩:=To hr2 (by omega) h3
       rw [hl2] at u4 b
       exact ⟨u3.trans u4,a,b,.inr rfl⟩
      ·cases h2
inductive Gi (m:Nat) (E:Nat→Nat→Int):(Nat→Int)→Prop
 | zero {x:Nat→Int}:(∀ k,x k=0)→Gi m E x
 | add {x y:Nat→Int} (i:Nat) (q:Int):i < m→Gi m E x→(∀ k,y k=x k+q * E i k)→Gi m E y
theorem Gi.row {m:Nat} {E:Nat→Nat→Int} {i:Nat} (h:i < m):Gi m E (E i):=.add (x:=fun _=>0) i 1 h (.zero fun _=>rfl) fun k=>by omega
theorem Gi.congr {m:Nat} {E:Nat→Nat→Int} {x y:Nat→Int} (h:Gi m E x) (e:∀ k,y k=x k):Gi m E y:=by
 rw [show y=x from funext e]; exact h
theorem Gi.addmul {m:Nat} {E:Nat→Nat→Int} {x y:Nat→Int} (q:Int) (h:Gi m E x) (k:Gi m E y):Gi m E fun j=>x j+q * y j:=by
 induction k with
 | zero e=>exact h.congr fun j=>by rw [e]; omega
 | add i p a _ e ih=>exact .add i (q * p) a ih fun j=>by show _=_+_; rw [e]; grind
theorem Gi.sub {m:Nat} {E F:Nat→Nat→Int} {x:Nat→Int} (h:∀ i,i < m→Gi m F (E i)) (k:Gi m E x):Gi m F x:=by
 induction k with
 | zero e=>exact .zero e
 | add i q a _ e ih=>exact (ih.addmul q (h i a)).congr e
theorem Tn {m:Nat} {E F:Nat→Nat→Int} (h:Mn m E F):∀ x,Gi m E x ↔ Gi m F x:=by
 induction h with
 | refl=>exact fun _=>Iff.rfl
 | @op E1 E2 i t q hi ht hit _ e ih=>
   refine fun x=>(ih x).trans ⟨fun h=>h.sub fun r hr=>?_,fun h=>h.sub fun r hr=>?_⟩
   ·by_cases e1:r=i
    ·subst e1
     refine ((Gi.row hi).addmul q (Gi.row (E:=E2) ht)).congr fun k=>?_
     rw [e r k,Aj rfl,e t k,Ai (fun h=>hit h.symm)]; omega
    ·exact (Gi.row hr).congr fun k=>by rw [e r k,Ai e1]
   ·by_cases e1:r=i
    ·subst e1
     refine ((Gi.row hi).addmul (-q) (Gi.row (E:=E1) ht)).congr fun k=>?_
     rw [e r k,Aj rfl,Int.neg_mul]; omega
    ·exact (Gi.row hr).congr fun k=>by rw [e r k,Ai e1]
 | @swap E1 E2 i j hi hj _ e ih=>
   refine fun x=>(ih x).trans ⟨fun h=>h.sub fun r hr=>?_,fun h=>h.sub fun r hr=>?_⟩
   ·by_cases e1:r=i
    ·subst e1; exact (Gi.row hj).congr fun k=>by rw [e j k,Aj rfl]
    ·by_cases e2:r=j
     ·subst e2; exact (Gi.row hi).congr fun k=>by rw [e i k,Ai (fun h=>e1 h.symm),Aj rfl]
     ·exact (Gi.row hr).congr fun k=>by rw [e r k,Ai e2,Ai e1]
   ·by_cases e2:r=j
    ·subst e2; exact (Gi.row hi).congr fun k=>by rw [e r k,Aj rfl]
    ·by_cases e1:r=i
     ·subst e1; exact (Gi.row hj).congr fun k=>by rw [e r k,Ai e2,Aj rfl]
     ·exact (Gi.row hr).congr fun k=>by rw [e r k,Ai e2,Ai e1]
 | @neg E1 E2 i hi _ e ih=>
   refine fun x=>(ih x).trans ⟨fun h=>h.sub fun r hr=>?_,fun h=>h.sub fun r hr=>?_⟩
   ·by_cases e1:r=i
    ·subst e1
     exact (Gi.addmul (x:=fun _=>0) (-1) (.zero fun _=>rfl) (Gi.row (E:=E2) hi)).congr fun k=>by rw [e r k,Aj rfl]; omega
    ·exact (Gi.row hr).congr fun k=>by rw [e r k,Ai e1]
   ·by_cases e1:r=i
    ·subst e1
     exact (Gi.addmul (x:=fun _=>0) (-1) (.zero fun _=>rfl) (Gi.row (E:=E1) hi)).congr fun k=>by rw [e r k,Aj rfl]; omega
    ·exact (Gi.row hr).congr fun k=>by rw [e r k,Ai e1]
def JR:Nat→(Nat→Nat→Int)→Int
 | 0,_=>1
 | 1,E=>E 0 0
 | 2,E=>E 0 0 * E 1 1 - E 0 1 * E 1 0
 | _,E=>E 0 0 * (E 1 1 * E 2 2 - E 1 2 * E 2 1) - E 0 1 * (E 1 0 * E 2 2 - E 1 2 * E 2 0)+E 0 2 * (E 1 0 * E 2 1 - E 1 1 * E 2 0)
theorem QZ {m:Nat} (hm:m≤3) {E F:Nat→Nat→Int} (h:Mn m E F):JR m F=JR m E∨JR m F=-JR m E:=by
 have h4:m=0∨m=1∨m=2∨m=3:=by omega
 induction h with
 | refl=>exact .inl rfl
 | @op E1 E2 i t q hi ht hit _ e ih=>
   have key:JR m E2=JR m E1:=by
    rcases h4 with rfl | rfl | rfl | rfl
    ·rfl
    ·omega
    ·have hi2:(i=0∧t=1)∨(i=1∧t=0):=by omega
     rcases hi2 with ⟨rfl,rfl⟩ | ⟨rfl,rfl⟩ <;> (simp only [JR,e]; grind)
    ·have hi2:(i=0∧t=1)∨(i=1∧t=0)∨(i=0∧t=2)∨(i=2∧t=0)∨(i=1∧t=2)∨(i=2∧t=1):=by omega
     rcases hi2 with ⟨rfl,rfl⟩ | ⟨rfl,rfl⟩ | ⟨rfl,rfl⟩ | ⟨rfl,rfl⟩ | ⟨rfl,rfl⟩ | ⟨rfl,rfl⟩ <;> (simp [JR,e]; grind)
   rw [key]; exact ih
 | @swap E1 E2 i j hi hj _ e ih=>
   have key:JR m E2=JR m E1∨JR m E2=-JR m E1:=by
    by_cases hij:i=j
    ·subst hij
     left
     have:E2=E1:=funext fun r=>funext fun k=>by rw [e r k]; by_cases h:r=i <;> simp [h]
     rw [this]
    right
    rcases h4 with rfl | rfl | rfl | rfl
    ·omega
    ·omega
    ·have hi2:(i=0∧j=1)∨(i=1∧j=0):=by omega
     rcases hi2 with ⟨rfl,rfl⟩ | ⟨rfl,rfl⟩ <;> (simp [JR,e]; grind)
    ·have hi2:(i=0∧j=1)∨(i=1∧j=0)∨(i=0∧j=2)∨(i=2∧j=0)∨(i=1∧j=2)∨(i=2∧j=1):=by omega
     rcases hi2 with ⟨rfl,rfl⟩ | ⟨rfl,rfl⟩ | ⟨rfl,rfl⟩ | ⟨rfl,rfl⟩ | ⟨rfl,rfl⟩ | ⟨rfl,rfl⟩ <;> (simp [JR,e]; grind)
   rcases key with k | k <;> rcases ih with h | h <;> rw [k,h] <;> simp
 | @neg E1 E2 i hi _ e ih=>
   have key:JR m E2=-JR m E1:=by
    rcases h4 with rfl | rfl | rfl | rfl
    ·omega
    ·obtain rfl:i=0:=by omega
     simp [JR,e]
    ·have hi2:i=0∨i=1:=by omega
     rcases hi2 with rfl | rfl <;> (simp [JR,e]; grind)
    ·have hi2:i=0∨i=1∨i=2:=by omega
     rcases hi2 with rfl | rfl | rfl <;> (simp [JR,e]; grind)
   rcases ih with h | h <;> rw [key,h] <;> simp
theorem Pi {a b:Int}:FR a b < 0 ↔ a < b:=by unfold FR; split <;> (try split) <;> omega
theorem Gx {g:List (List Int)} {c t:Nat}:∀ {j:Nat},CQ g c t j=none→∀ i,t≤i→i < t+j→ent g i c=0
 | 0,_,i,a,b=>by omega
 | j+1,h,i,a,b=>by
   rw [CQ] at h
   unfold Hr at h
   split at h
   ·rename_i h0
    by_cases e:i=t+j
    ·rw [e]; exact h0
    ·exact Gx h i a (by omega)
   ·split at h
    ·cases h
    ·split at h <;> cases h
theorem EN {g:List (List Int)} {c t:Nat}:∀ {j k:Nat},CQ g c t j=some k→ent g k c≠0∧∀ i,t≤i→i < t+j→ent g i c≠0→(ent g k c).natAbs≤(ent g i c).natAbs
 | 0,k,h=>by cases h
 | j+1,k,h=>by
   rw [CQ] at h
   unfold Hr at h
   split at h
   ·rename_i h0
    obtain ⟨a,b⟩:=EN h
    refine ⟨a,fun i x y z=>?_⟩
    by_cases e:i=t+j
    ·rw [e] at z; exact absurd h0 z
    ·exact b i x (by omega) z
   ·rename_i h0
    split at h
    ·rename_i hn
     injection h with h; subst h
     refine ⟨h0,fun i x y z=>?_⟩
     by_cases e:i=t+j
     ·rw [e]; exact Ag _
     ·exact absurd (Gx hn i x (by omega)) z
    ·rename_i q hq
     obtain ⟨a,b⟩:=EN hq
     split at h
     ·rename_i hc
      rw [Pi] at hc
      injection h with h; subst h
      refine ⟨h0,fun i x y z=>?_⟩
      by_cases e:i=t+j
      ·rw [e]; exact Ag _
      ·have:=b i x (by omega) z; omega
     ·rename_i hc
      rw [Pi] at hc
      injection h with h; subst h
      refine ⟨a,fun i x y z=>?_⟩
      by_cases e:i=t+j
      ·rw [e]; omega
      ·exact b i x (by omega) z
theorem Rq {x p:Int} (h:p≠0):(x.fmod p).natAbs < p.natAbs:=by
 rcases Gh h with h | h
 ·have h1:x.fmod p=-((-x).fmod (-p)):=by rw [Int.neg_fmod_neg]; omega
  have h2:=Dx (-x) (show 0 < -p by omega)
  have h3:=EH (-x) (show 0 < -p by omega)
  omega
 ·have h2:=Dx x h
  have h3:=EH x h
  omega
theorem Ru {x p:Int} (h:p≠0):(x.fdiv p).natAbs≤x.natAbs:=by
 have h1:∀ y q:Int,0 < q→(y.fdiv q).natAbs≤y.natAbs:=fun y q hq=>by
  have e:=MX y q
  have h2:=Dx y hq
  have h3:=EH y hq
  generalize y.fdiv q=z at *
  generalize y.fmod q=f at *
  by_cases hz:0≤z
  ·have:z≤q * z:=by have:=AP (show 1≤q by omega) hz; omega
   omega
  ·have:q * z+q≤z+1:=by
    have h4:=AP (show 1≤q by omega) (show 0≤-(z+1) by omega)
    have:q * (-(z+1))=-(q * z) - q:=by grind
    omega
   omega
 rcases Gh h with h | h
 ·have:=h1 (-x) (-p) (by omega)
  rw [Int.neg_fdiv_neg] at this
  omega
 ·exact h1 x p h
theorem H2 (x p:Int):x - x.fdiv p * p=x.fmod p:=by have:=MX x p; rw [CW]; omega
structure S4 (g g':List (List Int)) (c t m:Nat):Prop where
 pos:0 < ent g' t c
 low:∀ i,t < i→i < m→ent g' i c=0
 up:∀ i,i < t→0≤ent g' i c∧ent g' i c < ent g' t c
 old:∀ k,(∀ i,t≤i→i < m→ent g i k=0)→(∀ i,t≤i→i < m→ent g' i k=0)∧∀ i,i < t→ent g' i k=ent g i k
theorem Su {n:Nat} {g g':List (List Int)} {c t:Nat} (hr:Ce n g) (ht:t < g.length) (h:G4 g t c=some g') (h0:ent g t c≠0) (hl:∀ i,t < i→i < g.length→ent g i c=0):S4 g g' c t g.length:=by
 have key:∀ g1:List (List Int),Ce n g1→g1.length=g.length→0 < ent g1 t c→(∀ i k,ent g1 i k=if i=t then ent g1 t k else ent g i k)→(∀ k,ent g1 t k=ent g t k∨ent g1 t k=-ent g t k)→Cl g1 c t 0 t=some g'→S4 g g' c t g.length:=fun g1 hr1 hl1 hp he hs hel=>by
  have e:=D8 hr1 (by omega) t g' hel (by omega) (.inr (by omega))
  refine ⟨by rw [e,Ai (by omega)]; exact hp,fun i a b=>by rw [e,Ai (by omega),he,Ai (by omega)]; exact hl i a b,fun i a=>?_,fun k hk=>⟨fun i a b=>?_,fun i a=>?_⟩⟩
  ·rw [e i,Aj (by omega),e t,Ai (by omega)]
   unfold M9
   rw [H2]
   exact ⟨Dx _ hp,EH _ hp⟩
  ·rw [e i,Ai (by omega),he]
   by_cases e1:i=t
   ·rw [Aj e1]; have:=hk t (Ag _) ht; rcases hs k with h | h <;> omega
   ·rw [Ai e1]; exact hk i a b
  ·rw [e i,Aj (by omega),he i,Ai (by omega)]
   have:ent g1 t k=0:=by have:=hk t (Ag _) ht; rcases hs k with h | h <;> omega
   rw [this,Dw,Td]
 unfold G4 at h
 split at h
 ·rename_i hneg
  split at h
  ·refine key _ (hr.set (by rw [Am,EI hr ht])) (AN) (by rw [II ht,Aj rfl]; omega) (fun i k=>?_) (fun k=>.inr (by rw [II ht,Aj rfl])) h
   rw [II ht,II ht,Aj rfl]
  ·cases h
 ·exact key g hr rfl (by omega) (fun i k=>by by_cases e:i=t <;> simp [e]) (fun k=>.inl rfl) h
theorem L8 {n c t:Nat}:∀ (F:Nat) (g g':List (List Int)) (t':Nat),Ce n g→t < g.length→GK F g c t=some (g',t')→(t'=t∧g'=g∧∀ i,t≤i→i < g.length→ent g i c=0)∨(t'=t+1∧S4 g g' c t g.length)
 | 0,_,_,_,_,_,h=>by cases h
 | F+1,g,g',t',hr,ht,h=>by
   rw [Kv h] at h
   cases hp:CQ g c t (g.length - t) with
   | none=>
     rw [hp] at h; injection h with h; injection h with h1 h2; subst h1; subst h2
     exact .inl ⟨rfl,rfl,fun i a b=>Gx hp i a (by omega)⟩
   | some k=>
     rw [hp] at h
     obtain ⟨g2,h1,h2⟩:=A2.1 h
     obtain ⟨hk1,hk2⟩:=E7 _ _ hp
     obtain ⟨p0,-⟩:=EN hp
     have hr1:Ce n (swp g t k):=H1 hr
     have hl1:=Fp g t k
     have hs:=fun r q=>JQ (g:=g) (i:=t) (j:=k) ht (by omega) r q
     have he:=D8 hr1 (by omega) _ g2 h1 (by omega) (.inl (by omega))
     obtain ⟨hr2,hl2⟩:=Cf hr1 _ g2 h1 (by omega)
     rw [hl1] at hl2
     have htc:ent g2 t c≠0:=by
      rw [he,Ai (by omega),hs]
      by_cases e:t=k
      ·rw [Aj e,e]; exact p0
      ·rw [Ai e,Aj rfl]; exact p0
     have hold:∀ q,(∀ i,t≤i→i < g.length→ent g i q=0)→(∀ i,t≤i→i < g.length→ent g2 i q=0)∧∀ i,i < t→ent g2 i q=ent g i q:=fun q hq=>by
      have h9:∀ i,t≤i→i < g.length→ent (swp g t k) i q=0:=fun i a b=>by
       rw [hs]
       split
       ·exact hq t (Ag _) ht
       ·split
        ·exact hq k (by omega) (by omega)
        ·exact hq i a b
      refine ⟨fun i a b=>?_,fun i a=>?_⟩
      ·rw [he]
       split
       ·rw [h9 i a b,h9 t (Ag _) ht]; omega
       ·exact h9 i a b
      ·rw [he,Ai (by omega),hs,Ai (by omega),Ai (by omega)]
     have hrest:=Kj hr1 (by omega) _ g2 h1 (by omega) (by omega)
     have fin:∀ g3:List (List Int),S4 g2 g3 c t g2.length→S4 g g3 c t g.length:=fun g3 d=>by
      rw [hl2] at d
      refine ⟨d.pos,d.low,d.up,fun q hq=>?_⟩
      obtain ⟨a,b⟩:=hold q hq
      obtain ⟨a',b'⟩:=d.old q a
      exact ⟨a',fun i hi=>by rw [b' i hi,b i hi]⟩
     split at h2
     ·rcases L8 F g2 g' t' hr2 (by omega) h2 with ⟨-,-,h3⟩ | ⟨e,d⟩
      ·exact absurd (h3 t (Ag _) (by omega)) htc
      ·exact .inr ⟨e,fin g' d⟩
     ·rename_i hnr
      split at h2
      ·obtain ⟨g3,h3,h4⟩:=AV.1 h2
       injection h4 with h4 h5; subst h4; subst h5
       refine .inr ⟨rfl,fin g3 (Su hr2 (by rw [hl2]; exact ht) h3 htc fun i a b=>?_)⟩
       have hi2:i < t+1+(g.length - (t+1)):=by rw [hl2] at b; clear hrest hnr he hs; omega
       rw [he,Aj ⟨a,hi2⟩]
       unfold M9
       rw [H2]
       exact Ca fun h9=>hnr (hrest.2 ⟨i,a,hi2,h9⟩)
      ·cases h2
theorem Qe {q x y:Int} (hq:q.natAbs < 10000000000000000000000000000000000000000) (hy:y.natAbs < 10000000000000000000000000000000000000000) (hx:x.natAbs < 10000000000000000000000000000000000000000):VS q x y=true:=Ac ⟨⟨by omega,by omega⟩,⟨by omega,by omega⟩,by omega,by omega⟩
theorem GC {x:Int} (hx:x.natAbs < 10000000000000000000000000000000000000000):M5 x=true:=Ac ⟨by omega,by omega⟩
theorem Nz {g:List (List Int)} {c:Nat} (h:∀ i,i < g.length→(ent g i c).natAbs < 10000000000000000000000000000000000000000):N5 g c=true:=As.2 fun i hi=>GC (h i (AZ.1 hi))
theorem Pu {x y q:Int} {A B C:Nat} (hx:x.natAbs≤A) (hq:q.natAbs≤B) (hy:y.natAbs≤C):(x - q * y).natAbs≤A+B * C:=by
 have:=CH hq hy
 rw [← BD] at this
 omega
theorem L9 {n c t m:Nat} {P Q:List (List Int)→Prop} (ht:t < m) (hP:∀ g,P g→Ce n g∧g.length=m∧N5 g c=true)
 (hstep:∀ g k,P g→t≤k→k < m→CQ g c t (m - t)=some k→∃ g2,Cl (swp g t k) c t (t+1) (m - (t+1))=some g2∧((∃ i,t < i∧i < m∧ent g2 i c≠0)→P g2)∧((∀ i,t < i→i < m→ent g2 i c=0)→ent g2 t c≠0→M5 (ent g2 t c)=true∧∃ g3,G4 g2 t c=some g3∧Q g3)) :
 ∀ (F:Nat) (g:List (List Int)),P g→(∃ i,t≤i∧i < m∧ent g i c≠0∧(ent g i c).natAbs < F)→∃ g3,GK F g c t=some (g3,t+1)∧Q g3
 | 0,_,_,⟨_,_,_,_,h⟩=>absurd h (Bs _)
 | F+1,g,hg,⟨i0,a0,b0,h0,hF⟩=>by
   obtain ⟨hr,hl,hok⟩:=hP g hg
   rw [GK,Aj hok,hl]
   cases hp:CQ g c t (m - t) with
   | none=>exact absurd (Gx hp i0 a0 (by omega)) h0
   | some k=>
     obtain ⟨hk1,hk2⟩:=E7 _ _ hp
     obtain ⟨p0,pl⟩:=EN hp
     obtain ⟨g2,he,h1,h2⟩:=hstep g k hg hk1 (by omega) hp
     have hle:=pl i0 a0 (by omega) h0
     have hr1:Ce n (swp g t k):=H1 hr
     have hl1:=Fp g t k
     have hs:=fun r q=>JQ (g:=g) (i:=t) (j:=k) (by omega) (by omega) r q
     have hent:=D8 hr1 (by omega) _ g2 he (by omega) (.inl (by omega))
     have htc:ent (swp g t k) t c=ent g k c:=by
      rw [hs]
      by_cases e:t=k
      ·rw [Aj e,e]
      ·rw [Ai e,Aj rfl]
     have hrow:∀ i,t < i→i < m→ent g2 i c=(ent (swp g t k) i c).fmod (ent g k c):=fun i a b=>by
      rw [hent,Aj (by omega)]
      unfold M9
      rw [H2,htc]
     have hm1:t+1+(m - (t+1))≤(swp g t k).length:=by omega
     have hrest:=Kj hr1 (by omega) _ g2 he hm1 (by omega)
     rw [htc] at hrest
     show ∃ g3,((Cl (swp g t k) c t (t+1) (m - (t+1))).bind fun g2=>if F7 (swp g t k) c t (t+1) (m - (t+1))=true then GK F g2 c t else if M5 (ent g2 t c)=true then (G4 g2 t c).map fun g3=>(g3,t+1) else none)=some (g3,t+1)∧Q g3
     rw [he]
     by_cases hres:F7 (swp g t k) c t (t+1) (m - (t+1))=true
     ·obtain ⟨i,a,b,hn⟩:=hrest.1 hres
      have b2:i < m:=by clear hrest hres; omega
      have a2:t < i:=by clear hrest hres; omega
      have e1:=hrow i a2 b2
      rw [← e1] at hn
      have hlt:=Rq (x:=ent (swp g t k) i c) p0
      rw [← e1] at hlt
      obtain ⟨g3,k1,k2⟩:=L9 ht hP hstep F g2 (h1 ⟨i,a2,b2,hn⟩) ⟨i,by clear hrest hres; omega,b2,hn,by clear hrest hres; omega⟩
      exact ⟨g3,by show (if _ then _ else _)=_; rw [Aj hres]; exact k1,k2⟩
     ·have hz:∀ i,t < i→i < m→ent g2 i c=0:=fun i a b=>by
       rw [hrow i a b]
       have b2:i < t+1+(m - (t+1)):=by clear hrest hres; omega
       exact Ca fun h9=>hres (hrest.2 ⟨i,a,b2,h9⟩)
      have hc2:ent g2 t c≠0:=by
       have:¬ (t+1≤t∧t < t+1+(m - (t+1))):=by clear hrest hres; omega
       rw [hent,Ai this,htc]; exact p0
      obtain ⟨k0,g3,k1,k2⟩:=h2 hz hc2
      exact ⟨g3,by show (if _ then _ else _)=_; rw [Ai hres,Aj k0,k1]; rfl,k2⟩
theorem Rs {n c t T V:Nat} {g:List (List Int)} (hr:Ce n g) (ht:t < g.length) (h0:ent g t c≠0) (hT:T < 10000000000000000000000000000000000000000) (hV:V < 10000000000000000000000000000000000000000) (h1:∀ i,i < t→∀ k,(ent g i k).natAbs≤T) (h2:∀ k,(ent g t k).natAbs≤V) :
 ∃ g3,G4 g t c=some g3∧(∀ i,i < t→∀ k,(ent g3 i k).natAbs≤T+T * V)∧∀ i,t≤i→∀ k,(ent g3 i k).natAbs=(ent g i k).natAbs:=by
 have key:∀ g1:List (List Int),Ce n g1→g1.length=g.length→ent g1 t c≠0→(∀ i k,(ent g1 i k).natAbs=(ent g i k).natAbs)→∃ g3,Cl g1 c t 0 t=some g3∧(∀ i,i < t→∀ k,(ent g3 i k).natAbs≤T+T * V)∧∀ i,t≤i→∀ k,(ent g3 i k).natAbs=(ent g i k).natAbs:=fun g1 hr1 hl1 hp he=>by
  have hq:∀ i,i < t→(M9 g1 c t i).natAbs≤T:=fun i a=>by
   have:=Ru (x:=ent g1 i c) hp
   have h3:=h1 i a c
   rw [← he] at h3
   exact AE this h3
  obtain ⟨g3,h3⟩:=Ku (s:=0) hr1 (by omega) hp (GC (by have:=h2 c; rw [← he] at this; omega)) t (by omega) (.inr (by omega)) (fun i _ a=>⟨GC (by have:=h1 i (by omega) c; rw [← he] at this; omega),fun _ k=>Qe (by have:=hq i (by omega); omega) (by have:=h2 k; rw [← he] at this; omega) (by have:=h1 i (by omega) k; rw [← he] at this; omega)⟩)
  have e:=D8 hr1 (by omega) t g3 h3 (by omega) (.inr (by omega))
  refine ⟨g3,h3,fun i a k=>?_,fun i a k=>?_⟩
  ·rw [e,Aj (by omega)]
   exact Pu (by rw [he]; exact h1 i a k) (hq i a) (by rw [he]; exact h2 k)
  ·rw [e,Ai (by omega),he]
 unfold G4
 split
 ·have hsm:P4 (Bv g t)=true:=As.2 fun x hx=>by
   obtain ⟨k,hk⟩:=AO hx
   have:=h2 k
   unfold ent at this
   rw [hk,Cz] at this
   exact GC (by omega)
  rw [Aj hsm]
  have hn:=fun i k=>II (g:=g) ht i k
  exact key _ (hr.set (by rw [Am,EI hr ht])) (AN) (by rw [hn,Aj rfl]; omega) (fun i k=>by rw [hn]; by_cases e:i=t <;> simp [e])
 ·exact key g hr rfl h0 (fun _ _=>rfl)
theorem UB {n c t T V F:Nat} {g:List (List Int)} (hr:Ce n g) (hl:g.length=t+1) (h0:ent g t c≠0) (hT:T < 10000000000000000000000000000000000000000) (hV:V < 10000000000000000000000000000000000000000) (hF:V < F) (h1:∀ i,i < t→∀ k,(ent g i k).natAbs≤T) (h2:∀ k,(ent g t k).natAbs≤V) :
 ∃ g3,GK F g c t=some (g3,t+1)∧(∀ i,i < t→∀ k,(ent g3 i k).natAbs≤T+T * V)∧∀ k,(ent g3 t k).natAbs≤V:=by
 refine L9 (n:=n) (m:=t+1) (P:=fun g1=>g1=g) (Q:=fun g3=>(∀ i,i < t→∀ k,(ent g3 i k).natAbs≤T+T * V)∧∀ k,(ent g3 t k).natAbs≤V) (by omega) (fun g1 e=>?_) (fun g1 k e a b _=>?_) F g rfl ⟨t,Ag _,by omega,h0,by have:=h2 c; omega⟩
 ·subst e
  refine ⟨hr,hl,Nz fun i hi=>?_⟩
  by_cases e:i=t
  ·subst e; have:=h2 c; omega
  ·have:=h1 i (by omega) c; omega
 ·subst e
  obtain rfl:k=t:=by omega
  rw [Jy,ED]
  refine ⟨g1,rfl,fun _=>rfl,fun _ h=>⟨GC (by have:=h2 c; omega), ?_⟩⟩
  obtain ⟨g3,k1,k2,k3⟩:=Rs hr (by omega) h0 hT hV h1 h2
  exact ⟨g3,k1,k2,fun q=>by rw [k3 k (Ag _)]; exact h2 q⟩
def dK (g:List (List Int)) (c t k:Nat):Int:=ent g t c * ent g (t+1) k - ent g (t+1) c * ent g t k
structure P2 (n c t T K:Nat) (g:List (List Int)):Prop where
 rect:Ce n g
 len:g.length=t+2
 top:∀ i,i < t→∀ k,(ent g i k).natAbs≤T
 v0:∀ k,(ent g t k).natAbs≤2 * (K * K)
 v1:∀ k,(ent g (t+1) k).natAbs≤2 * (K * K)
 u0:(ent g t c).natAbs≤K
 u1:(ent g (t+1) c).natAbs≤K
 mi:∀ k,(dK g c t k).natAbs≤2 * (K * K)
theorem P2.of {n c t T K:Nat} {g:List (List Int)} (hr:Ce n g) (hl:g.length=t+2) (hK:1≤K) (hT:∀ i,i < t→∀ k,(ent g i k).natAbs≤T) (h0:∀ k,(ent g t k).natAbs≤K) (h1:∀ k,(ent g (t+1) k).natAbs≤K):P2 n c t T K g:=by
 have hKK:K≤K * K:=Mu K hK
 refine ⟨hr,hl,hT,fun k=>by have:=h0 k; omega,fun k=>by have:=h1 k; omega,h0 c,h1 c,fun k=>?_⟩
 have a:=Dq (h0 c) (h1 k)
 have b:=Dq (h1 c) (h0 k)
 unfold dK
 omega
theorem P2.swp {n c t T K k:Nat} {g:List (List Int)} (h:P2 n c t T K g) (h1:t≤k) (h2:k < t+2):P2 n c t T K (swp g t k):=by
 have hl:=h.len
 have hs:=fun r q=>JQ (g:=g) (i:=t) (j:=k) (by omega) (by omega) r q
 have hk:k=t∨k=t+1:=by omega
 rcases hk with rfl | rfl
 ·rw [Jy]; exact h
 ·refine ⟨H1 h.rect,by rw [Fp]; exact h.len,fun i hi k=>?_,fun k=>?_,fun k=>?_, ?_, ?_,fun k=>?_⟩
  ·rw [hs,Ai (by omega),Ai (by omega)]; exact h.top i hi k
  ·rw [hs,Ai (by omega),Aj rfl]; exact h.v1 k
  ·rw [hs,Aj rfl]; exact h.v0 k
  ·rw [hs,Ai (by omega),Aj rfl]; exact h.u1
  ·rw [hs,Aj rfl]; exact h.u0
  ·have:=h.mi k
   unfold dK at this ⊢
   rw [hs,hs,hs,hs,Ai (by omega),Aj rfl,Aj rfl,Aj rfl,Ai (by omega),Aj rfl]
   omega
theorem T8 {p v u' vp D:Int} {V:Nat} (h:p * v=D+u' * vp) (hu:u'.natAbs < p.natAbs) (hv:vp.natAbs≤V) (hD:D.natAbs≤V):v.natAbs≤V:=by
 have h1:p.natAbs * v.natAbs≤V+u'.natAbs * V:=by
  rw [← BD,h]
  have:=Dq (Ag u'.natAbs) hv
  omega
 have h2:V+u'.natAbs * V≤p.natAbs * V:=by
  have:(u'.natAbs+1) * V≤p.natAbs * V:=Be V (by omega)
  rw [J8,Ex] at this
  omega
 exact Nat.le_of_mul_le_mul_left (AE h1 h2) (by omega)
theorem P2.elim {n c t T K:Nat} {g:List (List Int)} (h:P2 n c t T K g) (h0:ent g t c≠0) (hV:2 * (K * K) < 10000000000000000000000000000000000000000) (hK:K < 10000000000000000000000000000000000000000):∃ g2,Cl g c t (t+1) 1=some g2∧P2 n c t T K g2∧ent g2 t c=ent g t c:=by
 have hl:=h.len
 have hq:(M9 g c t (t+1)).natAbs≤K:=AE (Ru h0) h.u1
 obtain ⟨g2,h2⟩:=Ku (s:=t+1) h.rect (by omega) h0 (GC (by have:=h.u0; omega)) 1 (by omega) (.inl (by omega)) (fun i a b=>by
  obtain rfl:i=t+1:=by omega
  exact ⟨GC (by have:=h.u1; omega),fun _ k=>Qe (by omega) (by have:=h.v0 k; omega) (by have:=h.v1 k; omega)⟩)
 have e:=D8 h.rect (by omega) 1 g2 h2 (by omega) (.inl (by omega))
 obtain ⟨hr2,hl2⟩:=Cf h.rect 1 g2 h2 (by omega)
 have et:∀ k,ent g2 t k=ent g t k:=fun k=>by rw [e,Ai (by omega)]
 have es:∀ k,ent g2 (t+1) k=ent g (t+1) k - M9 g c t (t+1) * ent g t k:=fun k=>by rw [e,Aj (by omega)]
 have eu:ent g2 (t+1) c=(ent g (t+1) c).fmod (ent g t c):=by rw [es]; unfold M9; rw [H2]
 have hlt:=Rq (x:=ent g (t+1) c) h0
 rw [← eu] at hlt
 have hd:∀ k,dK g2 c t k=dK g c t k:=fun k=>by
  unfold dK
  rw [et,et,es,es]
  grind
 refine ⟨g2,h2,⟨hr2,by omega,fun i a k=>by rw [e,Ai (by omega)]; exact h.top i a k,fun k=>by rw [et]; exact h.v0 k,fun k=>?_,by rw [et]; exact h.u0,by have:=h.u0; omega,fun k=>by rw [hd]; exact h.mi k⟩,et c⟩
 refine T8 (p:=ent g t c) (u':=ent g2 (t+1) c) (vp:=ent g t k) (D:=dK g c t k) ?_ hlt (h.v0 k) (h.mi k)
 rw [← hd]
 unfold dK
 rw [et,et]
 grind
theorem UA {n c t T K F:Nat} {g:List (List Int)} (h:P2 n c t T K g) (h0:ent g t c≠0∨ent g (t+1) c≠0) (hT:T < 10000000000000000000000000000000000000000) (hV:2 * (K * K) < 10000000000000000000000000000000000000000) (hK:K < 10000000000000000000000000000000000000000) (hF:K < F) :
 ∃ g3,GK F g c t=some (g3,t+1)∧(∀ i,i < t→∀ k,(ent g3 i k).natAbs≤T+T * (2 * (K * K)))∧∀ k,(ent g3 t k).natAbs≤2 * (K * K)∧(ent g3 (t+1) k).natAbs≤2 * (K * K):=by
 refine L9 (n:=n) (m:=t+2) (P:=P2 n c t T K) (Q:=fun g3=>(∀ i,i < t→∀ k,(ent g3 i k).natAbs≤T+T * (2 * (K * K)))∧∀ k,(ent g3 t k).natAbs≤2 * (K * K)∧(ent g3 (t+1) k).natAbs≤2 * (K * K)) (by omega) (fun g1 e=>?_) (fun g1 k e a b hp=>?_) F g h ?_
 ·refine ⟨e.rect,e.len,Nz fun i hi=>?_⟩
  have:=e.len
  by_cases e1:i=t
  ·subst e1; have:=e.u0; omega
  ·by_cases e2:i=t+1
   ·subst e2; have:=e.u1; omega
   ·have:=e.top i (by omega) c; omega
 ·have hl:=e.len
  obtain ⟨p0,-⟩:=EN hp
  have hsw:ent (Go.Proofs.YtcglmebcfeoedaaGreatDoor.swp g1 t k) t c≠0:=by
   rw [JQ (by omega) (by omega)]
   by_cases e1:t=k
   ·rw [Aj e1,e1]; exact p0
   ·rw [Ai e1,Aj rfl]; exact p0
  obtain ⟨g2,k1,k2,k3⟩:=(e.swp a b).elim hsw hV hK
  have e1:t+2 - (t+1)=1:=by omega
  rw [e1]
  refine ⟨g2,k1,fun _=>k2,fun _ h9=>⟨GC (by have:=k2.u0; omega), ?_⟩⟩
  obtain ⟨g3,q1,q2,q3⟩:=Rs k2.rect (by have:=k2.len; omega) h9 hT hV k2.top k2.v0
  exact ⟨g3,q1,q2,fun q=>⟨by rw [q3 t (Ag _)]; exact k2.v0 q,by rw [q3 (t+1) (by omega)]; exact k2.v1 q⟩⟩
 ·rcases h0 with h0 | h0
  ·exact ⟨t,Ag _,by omega,h0,by have:=h.u0; omega⟩
  ·exact ⟨t+1,by omega,by omega,h0,by have:=h.u1; omega⟩
def Y6 (s:List (List Int)) (i:Nat):List Int:=[ent s i 0 - (ent s i 0).fdiv (ent s 0 0) * ent s 0 0,ent s i 1+(((ent s i 0).fdiv (ent s 0 0)).natAbs:Int) * ent s 0 1]
def YJ (s:List (List Int)):List (List Int):=[Bv s 0,Y6 s 1,Y6 s 2]
def Y7 (K:Nat) (s:List (List Int)):Bool:=decide (ent s 0 1≤K) && decide (ent s 1 1≤K) && decide (ent s 2 1≤K)
def sh (K:Nat):Nat→List (List Int)→Bool
 | 0,_=>false
 | f+1,s=>Y7 K s && match CQ s 0 0 3 with
   | none=>true
   | some k=>Y7 K (YJ (swp s 0 k)) && ((decide (ent (YJ (swp s 0 k)) 1 0=0) && decide (ent (YJ (swp s 0 k)) 2 0=0)) || sh K f (YJ (swp s 0 k)))
end Go.Proofs.YtcglmebcfeoedaaGreatDoor
