/- Contracts and laws: UPL. -/
import Derived.Test.YtkjemicelmabdaaGreatDoorUFT
import Derived.Test.YtkjemicelmabdaaGreatDoorUSA

set_option maxRecDepth 100000
namespace Go.Proofs.YtkjemicelmabdaaGreatDoor
open Go.RowKit Go.Lib
theorem Q2 {n i k:Nat} {g:List (List Int)} (h:BU n g) (hk:n≤k):ent g i k=0:=by
 unfold ent A7
 cases e:g[i]? with
 | none=>simp
 | some r=>rw [Bw,AJ (by rw [h r (Ac e)]; exact hk)]; rfl
theorem RZ {g:List (List Int)} {i:Nat} {r:List Int} (hi:i < g.length) (j k:Nat):ent (g.set i r) j k=if j=i then (r[k]?).getD 0 else ent g j k:=by
 unfold ent A7
 rw [AX]
 by_cases e:i=j
 ·subst e; rw [Ak rfl,Ak hi,Ak rfl,Bw]
 ·rw [Aj e,Aj (fun h=>e h.symm)]
theorem FK {g:List (List Int)} {i j:Nat} (hi:i < g.length) (hj:j < g.length) (r k:Nat):ent (swp g i j) r k=if r=j then ent g i k else if r=i then ent g j k else ent g r k:=by
 unfold ent A7
 rw [DF g i j (Aa hi) (Aa hj)]
 by_cases e:r=j
 ·rw [Ak e,Ak e,Aa hi]
 ·rw [Aj e,Aj e]
  by_cases e2:r=i
  ·rw [Ak e2,Ak e2,Aa hj]
  ·rw [Aj e2,Aj e2]
theorem Nb {q:Int} {xs ys zs:List Int} (h:E6 q xs ys=some zs) (hl:ys.length=xs.length) (k:Nat):(zs[k]?).getD 0=(xs[k]?).getD 0 - q * (ys[k]?).getD 0:=by
 unfold E6 at h
 split at h
 ·rename_i h0; injection h with h; rw [h,h0,ZH,MA]
 ·obtain ⟨h1,h2⟩:=F3 q xs ys zs h
  by_cases hk:k < xs.length
  ·obtain ⟨y,hy,-,hz⟩:=h2 k _ (Aa hk)
   rw [hz,hy,Aa hk]; rfl
  ·rw [AJ (by omega),AJ (by omega),AJ (by omega)]; simp
theorem Lr {q:Int}:∀ {xs ys:List Int},ys.length=xs.length→(∀ k:Nat,Wr q ((xs[k]?).getD 0) ((ys[k]?).getD 0)=true)→∃ zs,Jo q xs ys=some zs
 | [],ys,_,_=>⟨[],rfl⟩
 | x :: xs,[],h,_=>by simp at h
 | x :: xs,y :: ys,h,hk=>by
   obtain ⟨zs,hz⟩:=Lr (q:=q) (xs:=xs) (ys:=ys) (by simpa using h) (fun k=>by simpa using hk (k+1))
   have h0:=hk 0
   simp only [KZ,Bw] at h0
   exact ⟨_,by rw [Jo,Ak h0,hz]; rfl⟩
theorem Lq {q:Int} {xs ys:List Int} (hl:ys.length=xs.length) (hk:q≠0→∀ k:Nat,Wr q ((xs[k]?).getD 0) ((ys[k]?).getD 0)=true):∃ zs,E6 q xs ys=some zs:=by
 unfold E6
 split
 ·exact ⟨_,rfl⟩
 ·rename_i h; exact Lr hl (hk h)
theorem EQ {n i:Nat} {g:List (List Int)} (h:BU n g) (hi:i < g.length):(A7 g i).length=n:=by rw [BB hi]; exact h.row hi
def LE (g:List (List Int)) (c t i:Nat):Int:=(ent g i c).fdiv (ent g t c)
theorem Ny {n:Nat} {g g':List (List Int)} {c t i:Nat} (h:IG g c t i=some g') (hr:BU n g) (hi:i < g.length) (ht:t < g.length) (j k:Nat):ent g' j k=if j=i then ent g i k - LE g c t i * ent g t k else ent g j k:=by
 obtain ⟨-,-,-,r,h1,rfl⟩:=F9 h
 rw [RZ hi]
 by_cases e:j=i
 ·rw [Ak e,Ak e]; exact Nb h1 (by rw [EQ hr hi,EQ hr ht]) k
 ·rw [Aj e,Aj e]
theorem UW {n:Nat} {g:List (List Int)} {c t i:Nat} (hr:BU n g) (hi:i < g.length) (ht:t < g.length) (h0:ent g t c≠0) (h1:Ng (ent g i c)=true) (h2:Ng (ent g t c)=true) (h3:LE g c t i≠0→∀ k,Wr (LE g c t i) (ent g i k) (ent g t k)=true):∃ g',IG g c t i=some g':=by
 obtain ⟨zs,hz⟩:=Lq (q:=LE g c t i) (xs:=A7 g i) (ys:=A7 g t) (by rw [EQ hr hi,EQ hr ht]) h3
 unfold IG
 rw [Ak (by simp only [AP,BJ,ne_eq]; exact ⟨⟨h1,h2⟩,h0⟩)]
 exact ⟨_,by unfold LE at hz; rw [hz]; rfl⟩
theorem DO {n:Nat} {g:List (List Int)} {c t s:Nat} (hr:BU n g) (ht:t < g.length):∀ (j:Nat) (g':List (List Int)),CP g c t s j=some g'→s+j≤g.length→(t < s∨s+j≤t)→∀ i k,ent g' i k=if s≤i∧i < s+j then ent g i k - LE g c t i * ent g t k else ent g i k
 | 0,g',h,_,_,i,k=>by injection h with h; subst h; rw [Aj (by omega)]
 | j+1,g',h,hl,hts,i,k=>by
   obtain ⟨g1,h1,h2⟩:=AZ.1 h
   have ih:=DO hr ht j g1 h1 (by omega) (by omega)
   obtain ⟨hr1,hl1⟩:=B7 hr j g1 h1 (by omega)
   have e1:=Ny h2 hr1 (by omega) (by omega) i k
   have et:∀ k,ent g1 t k=ent g t k:=fun k=>by rw [ih t k,Aj (by omega)]
   have es:∀ k,ent g1 (s+j) k=ent g (s+j) k:=fun k=>by rw [ih (s+j) k,Aj (by omega)]
   rw [e1]
   by_cases e:i=s+j
   ·rw [Ak e,Ak (by omega),e]
    unfold LE
    rw [et,es,et,es]
   ·rw [Aj e,ih i k]
    by_cases e2:s≤i∧i < s+j
    ·rw [Ak e2,Ak (by omega)]
    ·rw [Aj e2,Aj (by omega)]
theorem Ip {n:Nat} {g:List (List Int)} {c t s:Nat} (hr:BU n g) (ht:t < g.length) (h0:ent g t c≠0) (h2:Ng (ent g t c)=true):∀ j,s+j≤g.length→(t < s∨s+j≤t)→(∀ i,s≤i→i < s+j→Ng (ent g i c)=true∧(LE g c t i≠0→∀ k,Wr (LE g c t i) (ent g i k) (ent g t k)=true))→∃ g',CP g c t s j=some g'
 | 0,_,_,_=>⟨g,rfl⟩
 | j+1,hl,hts,hb=>by
   obtain ⟨g1,h1⟩:=Ip hr ht h0 h2 j (by omega) (by omega) (fun i a b=>hb i a (by omega))
   have ih:=DO hr ht j g1 h1 (by omega) (by omega)
   obtain ⟨hr1,hl1⟩:=B7 hr j g1 h1 (by omega)
   have et:∀ k,ent g1 t k=ent g t k:=fun k=>by rw [ih t k,Aj (by omega)]
   have es:∀ k,ent g1 (s+j) k=ent g (s+j) k:=fun k=>by rw [ih (s+j) k,Aj (by omega)]
   have hbj:=hb (s+j) (by omega) (by omega)
   have eq:LE g1 c t (s+j)=LE g c t (s+j):=by unfold LE; rw [et,es]
   obtain ⟨g2,h3⟩:=UW (c:=c) (i:=s+j) (t:=t) hr1 (by omega) (by omega) (by rw [et]; exact h0) (by rw [es]; exact hbj.1) (by rw [et]; exact h2) (fun hq k=>by rw [eq,et,es]; exact hbj.2 (by rw [← eq]; exact hq) k)
   exact ⟨g2,by rw [CP,h1]; exact h3⟩
theorem Ka {n:Nat} {g:List (List Int)} {c t s:Nat} (hr:BU n g) (ht:t < g.length):∀ (j:Nat) (g':List (List Int)),CP g c t s j=some g'→s+j≤g.length→t < s→(F7 g c t s j=true ↔ ∃ i,s≤i∧i < s+j∧(ent g i c).fmod (ent g t c)≠0)
 | 0,g',h,_,_=>by
   rw [F7]
   exact ⟨fun h=>(by cases h),fun ⟨i,a,b,_⟩=>(by omega)⟩
 | j+1,g',h,hl,hts=>by
   obtain ⟨g1,h1,h2⟩:=AZ.1 h
   have ih:=Ka hr ht j g1 h1 (by omega) hts
   have ie:=DO hr ht j g1 h1 (by omega) (.inl hts)
   have et:ent g1 t c=ent g t c:=by rw [ie t c,Aj (by omega)]
   have es:ent g1 (s+j) c=ent g (s+j) c:=by rw [ie (s+j) c,Aj (by omega)]
   rw [F7,h1,Bool.or_eq_true,ih]
   show (_∨(!decide ((ent g1 (s+j) c).fmod (ent g1 t c)=0))=true) ↔ _
   rw [et,es,TN,Zd]
   constructor
   ·rintro (⟨i,a,b,h⟩ | h)
    ·exact ⟨i,a,by omega,h⟩
    ·exact ⟨s+j,by omega,by omega,h⟩
   ·rintro ⟨i,a,b,h⟩
    by_cases e:i=s+j
    ·subst e; exact .inr h
    ·exact .inl ⟨i,a,by omega,h⟩
theorem Io {g:List (List Int)} {t:Nat} (ht:t < g.length) (j k:Nat):ent (g.set t ((A7 g t).map fun x=>-x)) j k=if j=t then -ent g t k else ent g j k:=by
 rw [RZ ht]
 by_cases e:j=t
 ·rw [Ak e,Ak e,Am]
  unfold ent
  cases (A7 g t)[k]? <;> simp
 ·rw [Aj e,Aj e]
inductive KV (m:Nat) (E:Nat→Nat→Int):(Nat→Nat→Int)→Prop
 | refl:KV m E E
 | op {E1 E2:Nat→Nat→Int} (i t:Nat) (q:Int):i < m→t < m→i≠t→KV m E E1→(∀ r k,E2 r k=if r=i then E1 i k - q * E1 t k else E1 r k)→KV m E E2
 | swap {E1 E2:Nat→Nat→Int} (i j:Nat):i < m→j < m→KV m E E1→(∀ r k,E2 r k=if r=j then E1 i k else if r=i then E1 j k else E1 r k)→KV m E E2
 | neg {E1 E2:Nat→Nat→Int} (i:Nat):i < m→KV m E E1→(∀ r k,E2 r k=if r=i then -E1 i k else E1 r k)→KV m E E2
theorem KV.trans {m:Nat} {E F H:Nat→Nat→Int} (h:KV m E F) (k:KV m F H):KV m E H:=by
 induction k with
 | refl=>exact h
 | op i t q a b c _ e ih=>exact .op i t q a b c ih e
 | swap i j a b _ e ih=>exact .swap i j a b ih e
 | neg i a _ e ih=>exact .neg i a ih e
theorem KV.congr {m:Nat} {E F H:Nat→Nat→Int} (h:KV m E F) (e:∀ r k,H r k=F r k):KV m E H:=by
 have:H=F:=funext fun r=>funext fun k=>e r k
 rw [this]; exact h
theorem VW {g:List (List Int)} {i j:Nat} (hi:i < g.length) (hj:j < g.length):KV g.length (ent g) (ent (swp g i j)):=.swap i j hi hj .refl fun r k=>FK hi hj r k
theorem G6 {n:Nat} {g:List (List Int)} {c t s:Nat} (hr:BU n g) (ht:t < g.length):∀ (j:Nat) (g':List (List Int)),CP g c t s j=some g'→s+j≤g.length→(t < s∨s+j≤t)→KV g.length (ent g) (ent g')
 | 0,g',h,_,_=>by injection h with h; subst h; exact .refl
 | j+1,g',h,hl,hts=>by
   obtain ⟨g1,h1,h2⟩:=AZ.1 h
   obtain ⟨hr1,hl1⟩:=B7 hr j g1 h1 (by omega)
   exact .op (s+j) t (LE g1 c t (s+j)) (by omega) ht (by omega) (G6 hr ht j g1 h1 (by omega) (by omega)) (fun r k=>Ny h2 hr1 (by omega) (by omega) r k)
theorem TT {n:Nat} {g g':List (List Int)} {c t:Nat} (hr:BU n g) (ht:t < g.length) (h:Kl g t c=some g'):KV g.length (ent g) (ent g')∧BU n g'∧g'.length=g.length:=by
 unfold Kl at h
 split at h
 ·split at h
  ·have hr2:BU n (g.set t ((A7 g t).map fun x=>-x)):=hr.set (by rw [Al,EQ hr ht])
   have h1:=G6 hr2 (by rw [AN]; exact ht) t g' h (by rw [AN]; omega) (.inr (by omega))
   have h2:=B7 hr2 t g' h (by rw [AN]; omega)
   rw [AN] at h1 h2
   exact ⟨KV.trans (.neg t ht .refl fun r k=>Io ht r k) h1,h2⟩
  ·cases h
 ·exact ⟨G6 hr ht t g' h (by omega) (.inr (by omega)),B7 hr t g' h (by omega)⟩
theorem OR {n c t:Nat}:∀ (F:Nat) (g g':List (List Int)) (t':Nat),BU n g→t < g.length→Gk F g c t=some (g',t')→KV g.length (ent g) (ent g')∧BU n g'∧g'.length=g.length∧(t'=t∨t'=t+1)
 | 0,_,_,_,_,_,h=>by cases h
 | F+1,g,g',t',hr,ht,h=>by
   rw [Ko h] at h
   cases hp:Cw g c t (g.length - t) with
   | none=>
     rw [hp] at h; injection h with h; injection h with h1 h2; subst h1; subst h2
     exact ⟨.refl,hr,rfl,.inl rfl⟩
   | some k=>
     rw [hp] at h
     obtain ⟨g2,h1,h2⟩:=AZ.1 h
     have hk:=ER _ _ hp
     have u1:=VW (g:=g) (i:=t) (j:=k) ht (by omega)
     have hr1:BU n (swp g t k):=F4 hr
     have hl1:=Em g t k
     have u2:=G6 hr1 (by omega) _ g2 h1 (by omega) (.inl (by omega))
     obtain ⟨hr2,hl2⟩:=B7 hr1 _ g2 h1 (by omega)
     rw [hl1] at u2 hl2
     have u3:=u1.trans u2
     split at h2
     ·obtain ⟨u4,a,b,e⟩:=OR F g2 g' t' hr2 (by omega) h2
      rw [hl2] at u4 b
      exact ⟨u3.trans u4,a,b,e⟩
     ·split at h2
      ·obtain ⟨g3,h3,h4⟩:=AW.1 h2
       injection h4 with h4 h5; subst h4; subst h5
       obtain ⟨u4,a,b⟩:=TT hr2 (by omega) h3
       rw [hl2] at u4 b
       exact ⟨u3.trans u4,a,b,.inr rfl⟩
      ·cases h2
inductive FM (m:Nat) (E:Nat→Nat→Int):(Nat→Int)→Prop
 | zero {x:Nat→Int}:(∀ k,x k=0)→FM m E x
 | add {x y:Nat→Int} (i:Nat) (q:Int):i < m→FM m E x→(∀ k,y k=x k+q * E i k)→FM m E y
theorem FM.row {m:Nat} {E:Nat→Nat→Int} {i:Nat} (h:i < m):FM m E (E i):=.add (x:=fun _=>0) i 1 h (.zero fun _=>rfl) fun k=>by omega
theorem FM.congr {m:Nat} {E:Nat→Nat→Int} {x y:Nat→Int} (h:FM m E x) (e:∀ k,y k=x k):FM m E y:=by
 rw [show y=x from funext e]; exact h
theorem FM.addmul {m:Nat} {E:Nat→Nat→Int} {x y:Nat→Int} (q:Int) (h:FM m E x) (k:FM m E y):FM m E fun j=>x j+q * y j:=by
 induction k with
 | zero e=>exact h.congr fun j=>by rw [e]; omega
 | add i p a _ e ih=>exact .add i (q * p) a ih fun j=>by show _=_+_; rw [e]; grind
theorem FM.sub {m:Nat} {E F:Nat→Nat→Int} {x:Nat→Int} (h:∀ i,i < m→FM m F (E i)) (k:FM m E x):FM m F x:=by
 induction k with
 | zero e=>exact .zero e
 | add i q a _ e ih=>exact (ih.addmul q (h i a)).congr e
theorem Qu {m:Nat} {E F:Nat→Nat→Int} (h:KV m E F):∀ x,FM m E x ↔ FM m F x:=by
 induction h with
 | refl=>exact fun _=>Iff.rfl
 | @op E1 E2 i t q hi ht hit _ e ih=>
   refine fun x=>(ih x).trans ⟨fun h=>h.sub fun r hr=>?_,fun h=>h.sub fun r hr=>?_⟩
   ·by_cases e1:r=i
    ·subst e1
     refine ((FM.row hi).addmul q (FM.row (E:=E2) ht)).congr fun k=>?_
     rw [e r k,Ak rfl,e t k,Aj (fun h=>hit h.symm)]; omega
    ·exact (FM.row hr).congr fun k=>by rw [e r k,Aj e1]
   ·by_cases e1:r=i
    ·subst e1
     refine ((FM.row hi).addmul (-q) (FM.row (E:=E1) ht)).congr fun k=>?_
     rw [e r k,Ak rfl,Z4]; omega
    ·exact (FM.row hr).congr fun k=>by rw [e r k,Aj e1]
 | @swap E1 E2 i j hi hj _ e ih=>
   refine fun x=>(ih x).trans ⟨fun h=>h.sub fun r hr=>?_,fun h=>h.sub fun r hr=>?_⟩
   ·by_cases e1:r=i
    ·subst e1; exact (FM.row hj).congr fun k=>by rw [e j k,Ak rfl]
    ·by_cases e2:r=j
     ·subst e2; exact (FM.row hi).congr fun k=>by rw [e i k,Aj (fun h=>e1 h.symm),Ak rfl]
     ·exact (FM.row hr).congr fun k=>by rw [e r k,Aj e2,Aj e1]
   ·by_cases e2:r=j
    ·subst e2; exact (FM.row hi).congr fun k=>by rw [e r k,Ak rfl]
    ·by_cases e1:r=i
     ·subst e1; exact (FM.row hj).congr fun k=>by rw [e r k,Aj e2,Ak rfl]
     ·exact (FM.row hr).congr fun k=>by rw [e r k,Aj e2,Aj e1]
 | @neg E1 E2 i hi _ e ih=>
   refine fun x=>(ih x).trans ⟨fun h=>h.sub fun r hr=>?_,fun h=>h.sub fun r hr=>?_⟩
   ·by_cases e1:r=i
    ·subst e1
     exact (FM.addmul (x:=fun _=>0) (-1) (.zero fun _=>rfl) (FM.row (E:=E2) hi)).congr fun k=>by rw [e r k,Ak rfl]; omega
    ·exact (FM.row hr).congr fun k=>by rw [e r k,Aj e1]
   ·by_cases e1:r=i
    ·subst e1
     exact (FM.addmul (x:=fun _=>0) (-1) (.zero fun _=>rfl) (FM.row (E:=E1) hi)).congr fun k=>by rw [e r k,Ak rfl]; omega
    ·exact (FM.row hr).congr fun k=>by rw [e r k,Aj e1]
def JM:Nat→(Nat→Nat→Int)→Int
 | 0,_=>1
 | 1,E=>E 0 0
 | 2,E=>E 0 0 * E 1 1 - E 0 1 * E 1 0
 | _,E=>E 0 0 * (E 1 1 * E 2 2 - E 1 2 * E 2 1) - E 0 1 * (E 1 0 * E 2 2 - E 1 2 * E 2 0)+E 0 2 * (E 1 0 * E 2 1 - E 1 1 * E 2 0)
theorem Rs {m:Nat} (hm:m≤3) {E F:Nat→Nat→Int} (h:KV m E F):JM m F=JM m E∨JM m F=-JM m E:=by
 have h4:m=0∨m=1∨m=2∨m=3:=by omega
 induction h with
 | refl=>exact .inl rfl
 | @op E1 E2 i t q hi ht hit _ e ih=>
   have key:JM m E2=JM m E1:=by
    rcases h4 with rfl | rfl | rfl | rfl
    ·rfl
    ·omega
    ·have hi2:(i=0∧t=1)∨(i=1∧t=0):=by omega
     rcases hi2 with ⟨rfl,rfl⟩ | ⟨rfl,rfl⟩ <;> (simp only [JM,e]; grind)
    ·have hi2:(i=0∧t=1)∨(i=1∧t=0)∨(i=0∧t=2)∨(i=2∧t=0)∨(i=1∧t=2)∨(i=2∧t=1):=by omega
     rcases hi2 with ⟨rfl,rfl⟩ | ⟨rfl,rfl⟩ | ⟨rfl,rfl⟩ | ⟨rfl,rfl⟩ | ⟨rfl,rfl⟩ | ⟨rfl,rfl⟩ <;> (simp [JM,e]; grind)
   rw [key]; exact ih
 | @swap E1 E2 i j hi hj _ e ih=>
   have key:JM m E2=JM m E1∨JM m E2=-JM m E1:=by
    by_cases hij:i=j
    ·subst hij
     left
     have:E2=E1:=funext fun r=>funext fun k=>by rw [e r k]; by_cases h:r=i <;> simp [h]
     rw [this]
    right
    rcases h4 with rfl | rfl | rfl | rfl
    ·omega
    ·omega
    ·have hi2:(i=0∧j=1)∨(i=1∧j=0):=by omega
     rcases hi2 with ⟨rfl,rfl⟩ | ⟨rfl,rfl⟩ <;> (simp [JM,e]; grind)
    ·have hi2:(i=0∧j=1)∨(i=1∧j=0)∨(i=0∧j=2)∨(i=2∧j=0)∨(i=1∧j=2)∨(i=2∧j=1):=by omega
     rcases hi2 with ⟨rfl,rfl⟩ | ⟨rfl,rfl⟩ | ⟨rfl,rfl⟩ | ⟨rfl,rfl⟩ | ⟨rfl,rfl⟩ | ⟨rfl,rfl⟩ <;> (simp [JM,e]; grind)
   rcases key with k | k <;> rcases ih with h | h <;> rw [k,h] <;> simp
 | @neg E1 E2 i hi _ e ih=>
   have key:JM m E2=-JM m E1:=by
    rcases h4 with rfl | rfl | rfl | rfl
    ·omega
    ·obtain rfl:i=0:=by omega
     simp [JM,e]
    ·have hi2:i=0∨i=1:=by omega
     rcases hi2 with rfl | rfl <;> (simp [JM,e]; grind)
    ·have hi2:i=0∨i=1∨i=2:=by omega
     rcases hi2 with rfl | rfl | rfl <;> (simp [JM,e]; grind)
   rcases ih with h | h <;> rw [key,h] <;> simp
theorem PP {a b:Int}:Iz a b < 0 ↔ a < b:=by unfold Iz; split <;> (try split) <;> omega
theorem Gp {g:List (List Int)} {c t:Nat}:∀ {j:Nat},Cw g c t j=none→∀ i,t≤i→i < t+j→ent g i c=0
 | 0,_,i,a,b=>by omega
 | j+1,h,i,a,b=>by
   rw [Cw] at h
   unfold Gz at h
   split at h
   ·rename_i h0
    by_cases e:i=t+j
    ·rw [e]; exact h0
    ·exact Gp h i a (by omega)
   ·split at h
    ·cases h
    ·split at h <;> cases h
theorem En {g:List (List Int)} {c t:Nat}:∀ {j k:Nat},Cw g c t j=some k→ent g k c≠0∧∀ i,t≤i→i < t+j→ent g i c≠0→(ent g k c).natAbs≤(ent g i c).natAbs
 | 0,k,h=>by cases h
 | j+1,k,h=>by
   rw [Cw] at h
   unfold Gz at h
   split at h
   ·rename_i h0
    obtain ⟨a,b⟩:=En h
    refine ⟨a,fun i x y z=>?_⟩
    by_cases e:i=t+j
    ·rw [e] at z; exact absurd h0 z
    ·exact b i x (by omega) z
   ·rename_i h0
    split at h
    ·rename_i hn
     injection h with h; subst h
     refine ⟨h0,fun i x y z=>?_⟩
     by_cases e:i=t+j
     ·rw [e]; exact Af _
     ·exact absurd (Gp hn i x (by omega)) z
    ·rename_i q hq
     obtain ⟨a,b⟩:=En hq
     split at h
     ·rename_i hc
      rw [PP] at hc
      injection h with h; subst h
      refine ⟨h0,fun i x y z=>?_⟩
      by_cases e:i=t+j
      ·rw [e]; exact Af _
      ·have:=b i x (by omega) z; omega
     ·rename_i hc
      rw [PP] at hc
      injection h with h; subst h
      refine ⟨a,fun i x y z=>?_⟩
      by_cases e:i=t+j
      ·rw [e]; omega
      ·exact b i x (by omega) z
theorem RX {x p:Int} (h:p≠0):(x.fmod p).natAbs < p.natAbs:=by
 rcases EM h with h | h
 ·have h1:x.fmod p=-((-x).fmod (-p)):=by rw [Int.neg_fmod_neg]; omega
  have h2:=DK (-x) (show 0 < -p by omega)
  have h3:=EN (-x) (show 0 < -p by omega)
  omega
 ·have h2:=DK x h
  have h3:=EN x h
  omega
theorem RY {x p:Int} (h:p≠0):(x.fdiv p).natAbs≤x.natAbs:=by
 have h1:∀ y q:Int,0 < q→(y.fdiv q).natAbs≤y.natAbs:=fun y q hq=>by
  have e:=G5 y q
  have h2:=DK y hq
  have h3:=EN y hq
  generalize y.fdiv q=z at *
  generalize y.fmod q=f at *
  by_cases hz:0≤z
  ·have:z≤q * z:=by have:=B5 (show 1≤q by omega) hz; omega
   omega
  ·have:q * z+q≤z+1:=by
    have h4:=B5 (show 1≤q by omega) (show 0≤-(z+1) by omega)
    have:q * (-(z+1))=-(q * z) - q:=by grind
    omega
   omega
 rcases EM h with h | h
 ·have:=h1 (-x) (-p) (by omega)
  rw [Int.neg_fdiv_neg] at this
  omega
 ·exact h1 x p h
theorem HM (x p:Int):x - x.fdiv p * p=x.fmod p:=by have:=G5 x p; rw [Cd]; omega
structure TB (g g':List (List Int)) (c t m:Nat):Prop where
 pos:0 < ent g' t c
 low:∀ i,t < i→i < m→ent g' i c=0
 up:∀ i,i < t→0≤ent g' i c∧ent g' i c < ent g' t c
 old:∀ k,(∀ i,t≤i→i < m→ent g i k=0)→(∀ i,t≤i→i < m→ent g' i k=0)∧∀ i,i < t→ent g' i k=ent g i k
theorem S3 {n:Nat} {g g':List (List Int)} {c t:Nat} (hr:BU n g) (ht:t < g.length) (h:Kl g t c=some g') (h0:ent g t c≠0) (hl:∀ i,t < i→i < g.length→ent g i c=0):TB g g' c t g.length:=by
 have key:∀ g1:List (List Int),BU n g1→g1.length=g.length→0 < ent g1 t c→(∀ i k,ent g1 i k=if i=t then ent g1 t k else ent g i k)→(∀ k,ent g1 t k=ent g t k∨ent g1 t k=-ent g t k)→CP g1 c t 0 t=some g'→TB g g' c t g.length:=fun g1 hr1 hl1 hp he hs hel=>by
  have e:=DO hr1 (by omega) t g' hel (by omega) (.inr (by omega))
  refine ⟨by rw [e,Aj (by omega)]; exact hp,fun i a b=>by rw [e,Aj (by omega),he,Aj (by omega)]; exact hl i a b,fun i a=>?_,fun k hk=>⟨fun i a b=>?_,fun i a=>?_⟩⟩
  ·rw [e i,Ak (by omega),e t,Aj (by omega)]
   unfold LE
   rw [HM]
   exact ⟨DK _ hp,EN _ hp⟩
  ·rw [e i,Aj (by omega),he]
   by_cases e1:i=t
   ·rw [Ak e1]; have:=hk t (Af _) ht; rcases hs k with h | h <;> omega
   ·rw [Aj e1]; exact hk i a b
  ·rw [e i,Ak (by omega),he i,Aj (by omega)]
   have:ent g1 t k=0:=by have:=hk t (Af _) ht; rcases hs k with h | h <;> omega
   rw [this,Di,MA]
 unfold Kl at h
 split at h
 ·rename_i hneg
  split at h
  ·refine key _ (hr.set (by rw [Al,EQ hr ht])) (AN) (by rw [Io ht,Ak rfl]; omega) (fun i k=>?_) (fun k=>.inr (by rw [Io ht,Ak rfl])) h
   rw [Io ht,Io ht,Ak rfl]
  ·cases h
 ·exact key g hr rfl (by omega) (fun i k=>by by_cases e:i=t <;> simp [e]) (fun k=>.inl rfl) h
theorem Mc {n c t:Nat}:∀ (F:Nat) (g g':List (List Int)) (t':Nat),BU n g→t < g.length→Gk F g c t=some (g',t')→(t'=t∧g'=g∧∀ i,t≤i→i < g.length→ent g i c=0)∨(t'=t+1∧TB g g' c t g.length)
 | 0,_,_,_,_,_,h=>by cases h
 | F+1,g,g',t',hr,ht,h=>by
   rw [Ko h] at h
   cases hp:Cw g c t (g.length - t) with
   | none=>
     rw [hp] at h; injection h with h; injection h with h1 h2; subst h1; subst h2
     exact .inl ⟨rfl,rfl,fun i a b=>Gp hp i a (by omega)⟩
   | some k=>
     rw [hp] at h
     obtain ⟨g2,h1,h2⟩:=AZ.1 h
     obtain ⟨hk1,hk2⟩:=ER _ _ hp
     obtain ⟨p0,-⟩:=En hp
     have hr1:BU n (swp g t k):=F4 hr
     have hl1:=Em g t k
     have hs:=fun r q=>FK (g:=g) (i:=t) (j:=k) ht (by omega) r q
     have he:=DO hr1 (by omega) _ g2 h1 (by omega) (.inl (by omega))
     obtain ⟨hr2,hl2⟩:=B7 hr1 _ g2 h1 (by omega)
     rw [hl1] at hl2
     have htc:ent g2 t c≠0:=by
      rw [he,Aj (by omega),hs]
      by_cases e:t=k
      ·rw [Ak e,e]; exact p0
      ·rw [Aj e,Ak rfl]; exact p0
     have hold:∀ q,(∀ i,t≤i→i < g.length→ent g i q=0)→(∀ i,t≤i→i < g.length→ent g2 i q=0)∧∀ i,i < t→ent g2 i q=ent g i q:=fun q hq=>by
      have h9:∀ i,t≤i→i < g.length→ent (swp g t k) i q=0:=fun i a b=>by
       rw [hs]
       split
       ·exact hq t (Af _) ht
       ·split
        ·exact hq k (by omega) (by omega)
        ·exact hq i a b
      refine ⟨fun i a b=>?_,fun i a=>?_⟩
      ·rw [he]
       split
       ·rw [h9 i a b,h9 t (Af _) ht]; omega
       ·exact h9 i a b
      ·rw [he,Aj (by omega),hs,Aj (by omega),Aj (by omega)]
     have hrest:=Ka hr1 (by omega) _ g2 h1 (by omega) (by omega)
     have fin:∀ g3:List (List Int),TB g2 g3 c t g2.length→TB g g3 c t g.length:=fun g3 d=>by
      rw [hl2] at d
      refine ⟨d.pos,d.low,d.up,fun q hq=>?_⟩
      obtain ⟨a,b⟩:=hold q hq
      obtain ⟨a',b'⟩:=d.old q a
      exact ⟨a',fun i hi=>by rw [b' i hi,b i hi]⟩
     split at h2
     ·rcases Mc F g2 g' t' hr2 (by omega) h2 with ⟨-,-,h3⟩ | ⟨e,d⟩
      ·exact absurd (h3 t (Af _) (by omega)) htc
      ·exact .inr ⟨e,fin g' d⟩
     ·rename_i hnr
      split at h2
      ·obtain ⟨g3,h3,h4⟩:=AW.1 h2
       injection h4 with h4 h5; subst h4; subst h5
       refine .inr ⟨rfl,fin g3 (S3 hr2 (by rw [hl2]; exact ht) h3 htc fun i a b=>?_)⟩
       have hi2:i < t+1+(g.length - (t+1)):=by rw [hl2] at b; clear hrest hnr he hs; omega
       rw [he,Ak ⟨a,hi2⟩]
       unfold LE
       rw [HM]
       exact Bl fun h9=>hnr (hrest.2 ⟨i,a,hi2,h9⟩)
      ·cases h2
theorem Jy {g s:List (List Int)} {c d t:Nat}:∀ {j:Nat},(∀ i,t≤i→i < t+j→ent g i c=ent s i d)→Cw g c t j=Cw s d t j
 | 0,_=>rfl
 | j+1,h=>by
   rw [Cw,Cw,Jy (fun i a b=>h i a (by omega))]
   unfold Gz
   rw [h (t+j) (by omega) (by omega)]
   split
   ·rfl
   ·split
    ·rfl
    ·rename_i q hq
     have:=ER _ _ hq
     rw [h q (by omega) (by omega)]
theorem N2 {q x y:Int} (hq:q.natAbs < 100000000) (hy:y.natAbs < 100000000) (hx:x.natAbs < 100000000000000000):Wr q x y=true:=Ad ⟨⟨by omega,by omega⟩,⟨by omega,by omega⟩,by omega,by omega⟩
theorem E9 {x:Int} (hx:x.natAbs < 100000000000000000):Ng x=true:=Ad ⟨by omega,by omega⟩
theorem Mb {g:List (List Int)} {c:Nat} (h:∀ i,i < g.length→(ent g i c).natAbs < 100000000000000000):R5 g c=true:=Ar.2 fun i hi=>E9 (h i (AL.1 hi))
theorem PZ {x y q:Int} {A B C:Nat} (hx:x.natAbs≤A) (hq:q.natAbs≤B) (hy:y.natAbs≤C):(x - q * y).natAbs≤A+B * C:=by
 have:=BF hq hy
 rw [← A1] at this
 omega
theorem JP {n c t m:Nat} {P Q:List (List Int)→Prop} (ht:t < m) (hP:∀ g,P g→BU n g∧g.length=m∧R5 g c=true)
 (hstep:∀ g k,P g→t≤k→k < m→Cw g c t (m - t)=some k→∃ g2,CP (swp g t k) c t (t+1) (m - (t+1))=some g2∧((∃ i,t < i∧i < m∧ent g2 i c≠0)→P g2)∧((∀ i,t < i→i < m→ent g2 i c=0)→ent g2 t c≠0→Ng (ent g2 t c)=true∧∃ g3,Kl g2 t c=some g3∧Q g3)) :
 ∀ (F:Nat) (g:List (List Int)),P g→(∃ i,t≤i∧i < m∧ent g i c≠0∧(ent g i c).natAbs < F)→∃ g3,Gk F g c t=some (g3,t+1)∧Q g3
 | 0,_,_,⟨_,_,_,_,h⟩=>absurd h (Bc _)
 | F+1,g,hg,⟨i0,a0,b0,h0,hF⟩=>by
   obtain ⟨hr,hl,hok⟩:=hP g hg
   rw [Gk,Ak hok,hl]
   cases hp:Cw g c t (m - t) with
   | none=>exact absurd (Gp hp i0 a0 (by omega)) h0
   | some k=>
     obtain ⟨hk1,hk2⟩:=ER _ _ hp
     obtain ⟨p0,pl⟩:=En hp
     obtain ⟨g2,he,h1,h2⟩:=hstep g k hg hk1 (by omega) hp
     have hle:=pl i0 a0 (by omega) h0
     have hr1:BU n (swp g t k):=F4 hr
     have hl1:=Em g t k
     have hs:=fun r q=>FK (g:=g) (i:=t) (j:=k) (by omega) (by omega) r q
     have hent:=DO hr1 (by omega) _ g2 he (by omega) (.inl (by omega))
     have htc:ent (swp g t k) t c=ent g k c:=by
      rw [hs]
      by_cases e:t=k
      ·rw [Ak e,e]
      ·rw [Aj e,Ak rfl]
     have hrow:∀ i,t < i→i < m→ent g2 i c=(ent (swp g t k) i c).fmod (ent g k c):=fun i a b=>by
      rw [hent,Ak (by omega)]
      unfold LE
      rw [HM,htc]
     have hm1:t+1+(m - (t+1))≤(swp g t k).length:=by omega
     have hrest:=Ka hr1 (by omega) _ g2 he hm1 (by omega)
     rw [htc] at hrest
     show ∃ g3,((CP (swp g t k) c t (t+1) (m - (t+1))).bind fun g2=>if F7 (swp g t k) c t (t+1) (m - (t+1))=true then Gk F g2 c t else if Ng (ent g2 t c)=true then (Kl g2 t c).map fun g3=>(g3,t+1) else none)=some (g3,t+1)∧Q g3
     rw [he]
     by_cases hres:F7 (swp g t k) c t (t+1) (m - (t+1))=true
     ·obtain ⟨i,a,b,hn⟩:=hrest.1 hres
      have b2:i < m:=by clear hrest hres; omega
      have a2:t < i:=by clear hrest hres; omega
      have e1:=hrow i a2 b2
      rw [← e1] at hn
      have hlt:=RX (x:=ent (swp g t k) i c) p0
      rw [← e1] at hlt
      obtain ⟨g3,k1,k2⟩:=JP ht hP hstep F g2 (h1 ⟨i,a2,b2,hn⟩) ⟨i,by clear hrest hres; omega,b2,hn,by clear hrest hres; omega⟩
      exact ⟨g3,by show (if _ then _ else _)=_; rw [Ak hres]; exact k1,k2⟩
     ·have hz:∀ i,t < i→i < m→ent g2 i c=0:=fun i a b=>by
       rw [hrow i a b]
       have b2:i < t+1+(m - (t+1)):=by clear hrest hres; omega
       exact Bl fun h9=>hres (hrest.2 ⟨i,a,b2,h9⟩)
      have hc2:ent g2 t c≠0:=by
       have:¬ (t+1≤t∧t < t+1+(m - (t+1))):=by clear hrest hres; omega
       rw [hent,Aj this,htc]; exact p0
      obtain ⟨k0,g3,k1,k2⟩:=h2 hz hc2
      exact ⟨g3,by show (if _ then _ else _)=_; rw [Aj hres,Ak k0,k1]; rfl,k2⟩
theorem Of {n c t T V:Nat} {g:List (List Int)} (hr:BU n g) (ht:t < g.length) (h0:ent g t c≠0) (hT:T < 100000000) (hV:V < 100000000) (h1:∀ i,i < t→∀ k,(ent g i k).natAbs≤T) (h2:∀ k,(ent g t k).natAbs≤V) :
 ∃ g3,Kl g t c=some g3∧(∀ i,i < t→∀ k,(ent g3 i k).natAbs≤T+T * V)∧∀ i,t≤i→∀ k,(ent g3 i k).natAbs=(ent g i k).natAbs:=by
 have key:∀ g1:List (List Int),BU n g1→g1.length=g.length→ent g1 t c≠0→(∀ i k,(ent g1 i k).natAbs=(ent g i k).natAbs)→∃ g3,CP g1 c t 0 t=some g3∧(∀ i,i < t→∀ k,(ent g3 i k).natAbs≤T+T * V)∧∀ i,t≤i→∀ k,(ent g3 i k).natAbs=(ent g i k).natAbs:=fun g1 hr1 hl1 hp he=>by
  have hq:∀ i,i < t→(LE g1 c t i).natAbs≤T:=fun i a=>by
   have:=RY (x:=ent g1 i c) hp
   have h3:=h1 i a c
   rw [← he] at h3
   exact Aw this h3
  obtain ⟨g3,h3⟩:=Ip (s:=0) hr1 (by omega) hp (E9 (by have:=h2 c; rw [← he] at this; omega)) t (by omega) (.inr (by omega)) (fun i _ a=>⟨E9 (by have:=h1 i (by omega) c; rw [← he] at this; omega),fun _ k=>N2 (by have:=hq i (by omega); omega) (by have:=h2 k; rw [← he] at this; omega) (by have:=h1 i (by omega) k; rw [← he] at this; omega)⟩)
  have e:=DO hr1 (by omega) t g3 h3 (by omega) (.inr (by omega))
  refine ⟨g3,h3,fun i a k=>?_,fun i a k=>?_⟩
  ·rw [e,Ak (by omega)]
   exact PZ (by rw [he]; exact h1 i a k) (hq i a) (by rw [he]; exact h2 k)
  ·rw [e,Aj (by omega),he]
 unfold Kl
 split
 ·have hsm:Ue (A7 g t)=true:=Ar.2 fun x hx=>by
   obtain ⟨k,hk⟩:=AM hx
   have:=h2 k
   unfold ent at this
   rw [hk,Bw] at this
   exact E9 (by omega)
  rw [Ak hsm]
  have hn:=fun i k=>Io (g:=g) ht i k
  exact key _ (hr.set (by rw [Al,EQ hr ht])) (AN) (by rw [hn,Ak rfl]; omega) (fun i k=>by rw [hn]; by_cases e:i=t <;> simp [e])
 ·exact key g hr rfl h0 (fun _ _=>rfl)
theorem Md {n c t T V F:Nat} {g:List (List Int)} (hr:BU n g) (hl:g.length=t+1) (h0:ent g t c≠0) (hT:T < 100000000) (hV:V < 100000000) (hF:V < F) (h1:∀ i,i < t→∀ k,(ent g i k).natAbs≤T) (h2:∀ k,(ent g t k).natAbs≤V) :
 ∃ g3,Gk F g c t=some (g3,t+1)∧(∀ i,i < t→∀ k,(ent g3 i k).natAbs≤T+T * V)∧∀ k,(ent g3 t k).natAbs≤V:=by
 refine JP (n:=n) (m:=t+1) (P:=fun g1=>g1=g) (Q:=fun g3=>(∀ i,i < t→∀ k,(ent g3 i k).natAbs≤T+T * V)∧∀ k,(ent g3 t k).natAbs≤V) (by omega) (fun g1 e=>?_) (fun g1 k e a b _=>?_) F g rfl ⟨t,Af _,by omega,h0,by have:=h2 c; omega⟩
 ·subst e
  refine ⟨hr,hl,Mb fun i hi=>?_⟩
  by_cases e:i=t
  ·subst e; have:=h2 c; omega
  ·have:=h1 i (by omega) c; omega
 ·subst e
  obtain rfl:k=t:=by omega
  rw [Jp,IC]
  refine ⟨g1,rfl,fun _=>rfl,fun _ h=>⟨E9 (by have:=h2 c; omega), ?_⟩⟩
  obtain ⟨g3,k1,k2,k3⟩:=Of hr (by omega) h0 hT hV h1 h2
  exact ⟨g3,k1,k2,fun q=>by rw [k3 k (Af _)]; exact h2 q⟩
def dK (g:List (List Int)) (c t k:Nat):Int:=ent g t c * ent g (t+1) k - ent g (t+1) c * ent g t k
structure P2 (n c t T K:Nat) (g:List (List Int)):Prop where
 rect:BU n g
 len:g.length=t+2
 top:∀ i,i < t→∀ k,(ent g i k).natAbs≤T
 v0:∀ k,(ent g t k).natAbs≤2 * (K * K)
 v1:∀ k,(ent g (t+1) k).natAbs≤2 * (K * K)
 u0:(ent g t c).natAbs≤K
 u1:(ent g (t+1) c).natAbs≤K
 mi:∀ k,(dK g c t k).natAbs≤2 * (K * K)
theorem P2.of {n c t T K:Nat} {g:List (List Int)} (hr:BU n g) (hl:g.length=t+2) (hK:1≤K) (hT:∀ i,i < t→∀ k,(ent g i k).natAbs≤T) (h0:∀ k,(ent g t k).natAbs≤K) (h1:∀ k,(ent g (t+1) k).natAbs≤K):P2 n c t T K g:=by
 have hKK:K≤K * K:=ZD K hK
 refine ⟨hr,hl,hT,fun k=>by have:=h0 k; omega,fun k=>by have:=h1 k; omega,h0 c,h1 c,fun k=>?_⟩
 have a:=Bz (h0 c) (h1 k)
 have b:=Bz (h1 c) (h0 k)
 unfold dK
 omega
theorem P2.swp {n c t T K k:Nat} {g:List (List Int)} (h:P2 n c t T K g) (h1:t≤k) (h2:k < t+2):P2 n c t T K (swp g t k):=by
 have hl:=h.len
 have hs:=fun r q=>FK (g:=g) (i:=t) (j:=k) (by omega) (by omega) r q
 have hk:k=t∨k=t+1:=by omega
 rcases hk with rfl | rfl
 ·rw [Jp]; exact h
 ·refine ⟨F4 h.rect,by rw [Em]; exact h.len,fun i hi k=>?_,fun k=>?_,fun k=>?_, ?_, ?_,fun k=>?_⟩
  ·rw [hs,Aj (by omega),Aj (by omega)]; exact h.top i hi k
  ·rw [hs,Aj (by omega),Ak rfl]; exact h.v1 k
  ·rw [hs,Ak rfl]; exact h.v0 k
  ·rw [hs,Aj (by omega),Ak rfl]; exact h.u1
  ·rw [hs,Ak rfl]; exact h.u0
  ·have:=h.mi k
   unfold dK at this ⊢
   rw [hs,hs,hs,hs,Aj (by omega),Ak rfl,Ak rfl,Ak rfl,Aj (by omega),Ak rfl]
   omega
theorem UD {p v u' vp D:Int} {V:Nat} (h:p * v=D+u' * vp) (hu:u'.natAbs < p.natAbs) (hv:vp.natAbs≤V) (hD:D.natAbs≤V):v.natAbs≤V:=by
 have h1:p.natAbs * v.natAbs≤V+u'.natAbs * V:=by
  rw [← A1,h]
  have:=Bz (Af u'.natAbs) hv
  omega
 have h2:V+u'.natAbs * V≤p.natAbs * V:=by
  have:(u'.natAbs+1) * V≤p.natAbs * V:=Cu V (by omega)
  rw [Z3,Gj] at this
  omega
 exact Nat.le_of_mul_le_mul_left (Aw h1 h2) (by omega)
theorem P2.elim {n c t T K:Nat} {g:List (List Int)} (h:P2 n c t T K g) (h0:ent g t c≠0) (hV:2 * (K * K) < 100000000) (hK:K < 100000000):∃ g2,CP g c t (t+1) 1=some g2∧P2 n c t T K g2∧ent g2 t c=ent g t c:=by
 have hl:=h.len
 have hq:(LE g c t (t+1)).natAbs≤K:=Aw (RY h0) h.u1
 obtain ⟨g2,h2⟩:=Ip (s:=t+1) h.rect (by omega) h0 (E9 (by have:=h.u0; omega)) 1 (by omega) (.inl (by omega)) (fun i a b=>by
  obtain rfl:i=t+1:=by omega
  exact ⟨E9 (by have:=h.u1; omega),fun _ k=>N2 (by omega) (by have:=h.v0 k; omega) (by have:=h.v1 k; omega)⟩)
 have e:=DO h.rect (by omega) 1 g2 h2 (by omega) (.inl (by omega))
 obtain ⟨hr2,hl2⟩:=B7 h.rect 1 g2 h2 (by omega)
 have et:∀ k,ent g2 t k=ent g t k:=fun k=>by rw [e,Aj (by omega)]
 have es:∀ k,ent g2 (t+1) k=ent g (t+1) k - LE g c t (t+1) * ent g t k:=fun k=>by rw [e,Ak (by omega)]
 have eu:ent g2 (t+1) c=(ent g (t+1) c).fmod (ent g t c):=by rw [es]; unfold LE; rw [HM]
 have hlt:=RX (x:=ent g (t+1) c) h0
 rw [← eu] at hlt
 have hd:∀ k,dK g2 c t k=dK g c t k:=fun k=>by
  unfold dK
  rw [et,et,es,es]
  grind
 refine ⟨g2,h2,⟨hr2,by omega,fun i a k=>by rw [e,Aj (by omega)]; exact h.top i a k,fun k=>by rw [et]; exact h.v0 k,fun k=>?_,by rw [et]; exact h.u0,by have:=h.u0; omega,fun k=>by rw [hd]; exact h.mi k⟩,et c⟩
 refine UD (p:=ent g t c) (u':=ent g2 (t+1) c) (vp:=ent g t k) (D:=dK g c t k) ?_ hlt (h.v0 k) (h.mi k)
 rw [← hd]
 unfold dK
 rw [et,et]
 grind
theorem PN {n c t T K F:Nat} {g:List (List Int)} (h:P2 n c t T K g) (h0:ent g t c≠0∨ent g (t+1) c≠0) (hT:T < 100000000) (hV:2 * (K * K) < 100000000) (hK:K < 100000000) (hF:K < F) :
 ∃ g3,Gk F g c t=some (g3,t+1)∧(∀ i,i < t→∀ k,(ent g3 i k).natAbs≤T+T * (2 * (K * K)))∧∀ k,(ent g3 t k).natAbs≤2 * (K * K)∧(ent g3 (t+1) k).natAbs≤2 * (K * K):=by
 refine JP (n:=n) (m:=t+2) (P:=P2 n c t T K) (Q:=fun g3=>(∀ i,i < t→∀ k,(ent g3 i k).natAbs≤T+T * (2 * (K * K)))∧∀ k,(ent g3 t k).natAbs≤2 * (K * K)∧(ent g3 (t+1) k).natAbs≤2 * (K * K)) (by omega) (fun g1 e=>?_) (fun g1 k e a b hp=>?_) F g h ?_
 ·refine ⟨e.rect,e.len,Mb fun i hi=>?_⟩
  have:=e.len
  by_cases e1:i=t
  ·subst e1; have:=e.u0; omega
  ·by_cases e2:i=t+1
   ·subst e2; have:=e.u1; omega
   ·have:=e.top i (by omega) c; omega
 ·have hl:=e.len
  obtain ⟨p0,-⟩:=En hp
  have hsw:ent (Go.Proofs.YtkjemicelmabdaaGreatDoor.swp g1 t k) t c≠0:=by
   rw [FK (by omega) (by omega)]
   by_cases e1:t=k
   ·rw [Ak e1,e1]; exact p0
   ·rw [Aj e1,Ak rfl]; exact p0
  obtain ⟨g2,k1,k2,k3⟩:=(e.swp a b).elim hsw hV hK
  have e1:t+2 - (t+1)=1:=by omega
  rw [e1]
  refine ⟨g2,k1,fun _=>k2,fun _ h9=>⟨E9 (by have:=k2.u0; omega), ?_⟩⟩
  obtain ⟨g3,q1,q2,q3⟩:=Of k2.rect (by have:=k2.len; omega) h9 hT hV k2.top k2.v0
  exact ⟨g3,q1,q2,fun q=>⟨by rw [q3 t (Af _)]; exact k2.v0 q,by rw [q3 (t+1) (by omega)]; exact k2.v1 q⟩⟩
 ·rcases h0 with h0 | h0
  ·exact ⟨t,Af _,by omega,h0,by have:=h.u0; omega⟩
  ·exact ⟨t+1,by omega,by omega,h0,by have:=h.u1; omega⟩
def ZK (s:List (List Int)) (i:Nat):List Int:=[ent s i 0 - (ent s i 0).fdiv (ent s 0 0) * ent s 0 0,ent s i 1+(((ent s i 0).fdiv (ent s 0 0)).natAbs:Int) * ent s 0 1]
def SB (s:List (List Int)):List (List Int):=[A7 s 0,ZK s 1,ZK s 2]
def VO (K:Nat) (s:List (List Int)):Bool:=decide (ent s 0 1≤K) && decide (ent s 1 1≤K) && decide (ent s 2 1≤K)
def sh (K:Nat):Nat→List (List Int)→Bool
 | 0,_=>false
 | f+1,s=>VO K s && match Cw s 0 0 3 with
   | none=>true
   | some k=>VO K (SB (swp s 0 k)) && ((decide (ent (SB (swp s 0 k)) 1 0=0) && decide (ent (SB (swp s 0 k)) 2 0=0)) || sh K f (SB (swp s 0 k)))
theorem Uh:((List.range 19).all fun a=>(List.range 19).all fun b=>(List.range 19).all fun c=>sh 297 6 [[(a:Int) - 9,9],[(b:Int) - 9,9],[(c:Int) - 9,9]])=true:=by decide +kernel
theorem XK {a b c:Int} (ha:a.natAbs≤9) (hb:b.natAbs≤9) (hc:c.natAbs≤9):sh 297 6 [[a,9],[b,9],[c,9]]=true:=by
 have h:=Ar.1 (Ar.1 (Ar.1 Uh (a+9).toNat (AL.2 (by omega))) (b+9).toNat (AL.2 (by omega))) (c+9).toNat (AL.2 (by omega))
 rw [show (((a+9).toNat:Nat):Int) - 9=a by omega,show (((b+9).toNat:Nat):Int) - 9=b by omega,show (((c+9).toNat:Nat):Int) - 9=c by omega] at h
 exact h
structure Vo (c:Nat) (g s:List (List Int)):Prop where
 lg:g.length=3
 ls:s.length=3
 x:∀ i,i < 3→ent s i 0=ent g i c
 b:∀ i,i < 3→∀ k,((ent g i k).natAbs:Int)≤ent s i 1
structure P3 (n c K:Nat) (g:List (List Int)):Prop where
 rect:BU n g
 sh:∃ (s:List (List Int)) (f:Nat),Vo c g s∧sh K f s=true
theorem Vo.le {c K:Nat} {g s:List (List Int)} (h:Vo c g s) (k:VO K s=true):∀ i,i < 3→∀ k,(ent g i k).natAbs≤K:=fun i hi q=>by
 unfold VO at k
 simp only [AP,C0] at k
 have h9:=h.b i hi q
 have:i=0∨i=1∨i=2:=by omega
 rcases this with rfl | rfl | rfl <;> omega
theorem Vo.swp {c k:Nat} {g s:List (List Int)} (h:Vo c g s) (hk:k < 3):Vo c (swp g 0 k) (swp s 0 k):=by
 have h1:=h.lg
 have h2:=h.ls
 have hg:=fun r q=>FK (g:=g) (i:=0) (j:=k) (by omega) (by omega) r q
 have hs:=fun r q=>FK (g:=s) (i:=0) (j:=k) (by omega) (by omega) r q
 refine ⟨by rw [Em]; exact h1,by rw [Em]; exact h2,fun i hi=>?_,fun i hi q=>?_⟩
 ·rw [hg,hs]
  split
  ·exact h.x 0 (by omega)
  ·split
   ·exact h.x k hk
   ·exact h.x i hi
 ·rw [hg,hs]
  split
  ·exact h.b 0 (by omega) q
  ·split
   ·exact h.b k hk q
   ·exact h.b i hi q
theorem Vo.elim {n c K:Nat} {g s:List (List Int)} (hr:BU n g) (h:Vo c g s) (h0:ent g 0 c≠0) (h1:VO K s=true) (h2:VO K (SB s)=true) (hK:K < 100000000):∃ g2,CP g c 0 1 2=some g2∧Vo c g2 (SB s):=by
 have hl:=h.lg
 have hle:=h.le h1
 have hx0:=h.x 0 (by omega)
 have hb0:=h.b 0 (by omega) c
 have hqs:∀ i,i < 3→LE g c 0 i=(ent s i 0).fdiv (ent s 0 0):=fun i hi=>by unfold LE; rw [h.x i hi,hx0]
 have hsR:∀ i,0 < i→i < 3→ent (SB s) i 0=ent s i 0 - (ent s i 0).fdiv (ent s 0 0) * ent s 0 0∧ent (SB s) i 1=ent s i 1+(((ent s i 0).fdiv (ent s 0 0)).natAbs:Int) * ent s 0 1:=fun i a b=>by
  have:i=1∨i=2:=by omega
  rcases this with rfl | rfl <;> exact ⟨rfl,rfl⟩
 have hq:∀ i,0 < i→i < 3→(LE g c 0 i).natAbs≤K:=fun i a b=>by
  have h3:=(hsR i a b).2
  have h4:ent (SB s) i 1≤K:=by
   unfold VO at h2
   simp only [AP,C0] at h2
   have:i=1∨i=2:=by omega
   rcases this with rfl | rfl <;> omega
  have h5:(0:Int)≤ent s i 1:=by have:=h.b i b c; omega
  rw [hqs i b]
  have h6:(1:Int)≤ent s 0 1:=by omega
  have h7:=Do h6 (show (0:Int)≤(((ent s i 0).fdiv (ent s 0 0)).natAbs:Int) by omega)
  omega
 obtain ⟨g2,h3⟩:=Ip (s:=1) hr (by omega) h0 (E9 (by have:=hle 0 (by omega) c; omega)) 2 (by omega) (.inl (by omega)) (fun i a b=>⟨E9 (by have:=hle i (by omega) c; omega),fun _ k=>N2 (by have:=hq i (by omega) (by omega); omega) (by have:=hle 0 (by omega) k; omega) (by have:=hle i (by omega) k; omega)⟩)
 have e:=DO hr (by omega) 2 g2 h3 (by omega) (.inl (by omega))
 obtain ⟨hr2,hl2⟩:=B7 hr 2 g2 h3 (by omega)
 refine ⟨g2,h3,by omega,rfl,fun i hi=>?_,fun i hi q=>?_⟩
 ·rw [e]
  by_cases e1:i=0
  ·subst e1; rw [Aj (by omega)]; exact hx0
  ·rw [Ak (by omega),(hsR i (by omega) hi).1,hqs i hi,h.x i hi,hx0]
 ·rw [e]
  by_cases e1:i=0
  ·subst e1; rw [Aj (by omega)]; exact h.b 0 (by omega) q
  ·rw [Ak (by omega),(hsR i (by omega) hi).2,hqs i hi]
   have a1:=h.b i hi q
   have a2:=h.b 0 (by omega) q
   generalize (ent s i 0).fdiv (ent s 0 0)=z at *
   have a3:=Do a2 (show (0:Int)≤(z.natAbs:Int) by omega)
   have a4:((z * ent g 0 q).natAbs:Int)=(z.natAbs:Int) * ((ent g 0 q).natAbs:Int):=by rw [A1]; rfl
   omega
theorem Q7 {n c K F:Nat} {g:List (List Int)} (hr:BU n g) {s:List (List Int)} {f0:Nat} (hs:Vo c g s) (hsh:sh K f0 s=true) (hK:K < 100000000) (hF:K < F) (h0:∃ i,i < 3∧ent g i c≠0) :
 ∃ g3,Gk F g c 0=some (g3,1)∧∀ i,i < 3→∀ k,(ent g3 i k).natAbs≤K:=by
 have top:∀ g,P3 n c K g→∀ i,i < 3→∀ k,(ent g i k).natAbs≤K:=fun g ⟨_,s,f,a,b⟩=>by
  cases f with
  | zero=>cases b
  | succ f=>rw [sh,AP] at b; exact a.le b.1
 refine JP (n:=n) (m:=3) (P:=P3 n c K) (Q:=fun g3=>∀ i,i < 3→∀ k,(ent g3 i k).natAbs≤K) (by omega) (fun g1 e=>?_) (fun g1 k e a b hp=>?_) F g ⟨hr,s,f0,hs,hsh⟩ ?_
 ·obtain ⟨s,f,h,-⟩:=e.sh
  exact ⟨e.rect,h.lg,Mb fun i hi=>by have:=top g1 e i (by rw [← h.lg]; exact hi) c; omega⟩
 ·obtain ⟨hr1,s,f,hsr,hf⟩:=e
  cases f with
  | zero=>cases hf
  | succ f=>
    have hl:=hsr.lg
    rw [sh,AP] at hf
    obtain ⟨hf1,hf2⟩:=hf
    rw [← Jy (g:=g1) (s:=s) (c:=c) (d:=0) (fun i a b=>(hsr.x i (by omega)).symm),hp] at hf2
    replace hf2:(VO K (SB (swp s 0 k)) && ((decide (ent (SB (swp s 0 k)) 1 0=0) && decide (ent (SB (swp s 0 k)) 2 0=0)) || sh K f (SB (swp s 0 k))))=true:=hf2
    rw [AP,Bool.or_eq_true,AP,C0,C0] at hf2
    obtain ⟨hf2,hf3⟩:=hf2
    obtain ⟨p0,-⟩:=En hp
    have hsw:ent (Go.Proofs.YtkjemicelmabdaaGreatDoor.swp g1 0 k) 0 c≠0:=by
     rw [FK (by omega) (by omega)]
     by_cases e1:0=k
     ·rw [Ak e1,e1]; exact p0
     ·rw [Aj e1,Ak rfl]; exact p0
    have hsr2:=hsr.swp b
    have hk1:VO K (swp s 0 k)=true:=by
     have hs9:=fun r q=>FK (g:=s) (i:=0) (j:=k) (by have:=hsr.ls; omega) (by have:=hsr.ls; omega) r q
     unfold VO at hf1 ⊢
     simp only [AP,C0] at hf1 ⊢
     rw [hs9,hs9,hs9]
     have:k=0∨k=1∨k=2:=by omega
     rcases this with rfl | rfl | rfl <;> simp <;> omega
    obtain ⟨g2,k1,k2⟩:=hsr2.elim (F4 hr1) hsw hk1 hf2 hK
    have hr2:=(B7 (F4 hr1) 2 g2 k1 (by rw [Em]; omega)).1
    have hle:=k2.le hf2
    refine ⟨g2,k1,fun ⟨i,a1,a2,a3⟩=>?_,fun _ h9=>⟨E9 (by have:=hle 0 (by omega) c; omega), ?_⟩⟩
    ·rcases hf3 with ⟨h3,h4⟩ | h3
     ·exfalso
      have h5:=k2.x i a2
      rw [← h5] at a3
      have:i=1∨i=2:=by omega
      rcases this with rfl | rfl
      ·exact a3 h3
      ·exact a3 h4
     ·exact ⟨hr2,_,f,k2,h3⟩
    ·obtain ⟨g3,q1,q2,q3⟩:=Of (T:=0) (V:=K) hr2 (by have:=k2.lg; omega) h9 (by omega) hK (fun i a=>absurd a (Bc _)) (hle 0 (by omega))
     exact ⟨g3,q1,fun i hi k=>by rw [q3 i (Bs _)]; exact hle i hi k⟩
 ·obtain ⟨i,a,b⟩:=h0
  exact ⟨i,Bs _,a,b,by have:=top g ⟨hr,s,f0,hs,hsh⟩ i a c; omega⟩
end Go.Proofs.YtkjemicelmabdaaGreatDoor
