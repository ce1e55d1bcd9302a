/- Contracts and laws: RPL. -/
import Derived.Test.YtcglmebcfeoedaaGreatDoorRFT
import Derived.Test.YtcglmebcfeoedaaGreatDoorRSA

set_option maxRecDepth 100000
namespace Go.Proofs.YtcglmebcfeoedaaGreatDoor
open Go.RowKit Go.Lib
theorem ent_lt {n i k:Nat} {g:List (List Int)} (h:Rect n g) (hk:n≤k):ent g i k=0:=by
 unfold ent rowAt
 cases e:g[i]? with
 | none=>simp
 | some r=>rw [Option.getD_some,List.getElem?_eq_none (by rw [h r (List.mem_of_getElem? e)]; exact hk)]; rfl
theorem ent_set {g:List (List Int)} {i:Nat} {r:List Int} (hi:i < g.length) (j k:Nat):ent (g.set i r) j k=if j=i then (r[k]?).getD 0 else ent g j k:=by
 unfold ent rowAt
 rw [List.getElem?_set]
 by_cases e:i=j
 ·subst e; rw [if_pos rfl,if_pos hi,if_pos rfl,Option.getD_some]
 ·rw [if_neg e,if_neg (fun h=>e h.symm)]
theorem ent_swp {g:List (List Int)} {i j:Nat} (hi:i < g.length) (hj:j < g.length) (r k:Nat):ent (swp g i j) r k=if r=j then ent g i k else if r=i then ent g j k else ent g r k:=by
 unfold ent rowAt
 rw [swp_get g i j (List.getElem?_eq_getElem hi) (List.getElem?_eq_getElem hj)]
 by_cases e:r=j
 ·rw [if_pos e,if_pos e,List.getElem?_eq_getElem hi]
 ·rw [if_neg e,if_neg e]
  by_cases e2:r=i
  ·rw [if_pos e2,if_pos e2,List.getElem?_eq_getElem hj]
  ·rw [if_neg e2,if_neg e2]
theorem takeS_get {q:Int} {xs ys zs:List Int} (h:takeS q xs ys=some zs) (hl:ys.length=xs.length) (k:Nat):(zs[k]?).getD 0=(xs[k]?).getD 0 - q * (ys[k]?).getD 0:=by
 unfold takeS at h
 split at h
 ·rename_i h0; injection h with h; rw [h,h0,Int.zero_mul,Int.sub_zero]
 ·obtain ⟨h1,h2⟩:=takeL_spec q xs ys zs h
  by_cases hk:k < xs.length
  ·obtain ⟨y,hy,-,hz⟩:=h2 k _ (List.getElem?_eq_getElem hk)
   rw [hz,hy,List.getElem?_eq_getElem hk]; rfl
  ·rw [List.getElem?_eq_none (by omega),List.getElem?_eq_none (by omega),List.getElem?_eq_none (by omega)]; simp
theorem takeL_some {q:Int}:∀ {xs ys:List Int},ys.length=xs.length→(∀ k:Nat,okT q ((xs[k]?).getD 0) ((ys[k]?).getD 0)=true)→∃ zs,takeL q xs ys=some zs
 | [],ys,_,_=>⟨[],rfl⟩
 | x :: xs,[],h,_=>by simp at h
 | x :: xs,y :: ys,h,hk=>by
   obtain ⟨zs,hz⟩:=takeL_some (q:=q) (xs:=xs) (ys:=ys) (by simpa using h) (fun k=>by simpa using hk (k+1))
   have h0:=hk 0
   simp only [List.getElem?_cons_zero,Option.getD_some] at h0
   exact ⟨_,by rw [takeL,if_pos h0,hz]; rfl⟩
theorem takeS_some {q:Int} {xs ys:List Int} (hl:ys.length=xs.length) (hk:q≠0→∀ k:Nat,okT q ((xs[k]?).getD 0) ((ys[k]?).getD 0)=true):∃ zs,takeS q xs ys=some zs:=by
 unfold takeS
 split
 ·exact ⟨_,rfl⟩
 ·rename_i h; exact takeL_some hl (hk h)
theorem rowAt_len {n i:Nat} {g:List (List Int)} (h:Rect n g) (hi:i < g.length):(rowAt g i).length=n:=by rw [rowAt_eq hi]; exact h.row hi
def quo (g:List (List Int)) (c t i:Nat):Int:=(ent g i c).fdiv (ent g t c)
theorem elim1_ent {n:Nat} {g g':List (List Int)} {c t i:Nat} (h:elim1 g c t i=some g') (hr:Rect n g) (hi:i < g.length) (ht:t < g.length) (j k:Nat):ent g' j k=if j=i then ent g i k - quo g c t i * ent g t k else ent g j k:=by
 obtain ⟨-,-,-,r,h1,rfl⟩:=elim1_some h
 rw [ent_set hi]
 by_cases e:j=i
 ·rw [if_pos e,if_pos e]; exact takeS_get h1 (by rw [rowAt_len hr hi,rowAt_len hr ht]) k
 ·rw [if_neg e,if_neg e]
theorem elim1_ok {n:Nat} {g:List (List Int)} {c t i:Nat} (hr:Rect n g) (hi:i < g.length) (ht:t < g.length) (h0:ent g t c≠0) (h1:smB (ent g i c)=true) (h2:smB (ent g t c)=true) (h3:quo g c t i≠0→∀ k,okT (quo g c t i) (ent g i k) (ent g t k)=true):∃ g',elim1 g c t i=some g':=by
 obtain ⟨zs,hz⟩:=takeS_some (q:=quo g c t i) (xs:=rowAt g i) (ys:=rowAt g t) (by rw [rowAt_len hr hi,rowAt_len hr ht]) h3
 unfold elim1
 rw [if_pos (by simp only [Bool.and_eq_true,bne_iff_ne,ne_eq]; exact ⟨⟨h1,h2⟩,h0⟩)]
 exact ⟨_,by unfold quo at hz; rw [hz]; rfl⟩
theorem elimTo_ent {n:Nat} {g:List (List Int)} {c t s:Nat} (hr:Rect n g) (ht:t < g.length):∀ (j:Nat) (g':List (List Int)),elimTo g c t s j=some g'→s+j≤g.length→(t < s∨s+j≤t)→∀ i k,ent g' i k=if s≤i∧i < s+j then ent g i k - quo g c t i * ent g t k else ent g i k
 | 0,g',h,_,_,i,k=>by injection h with h; subst h; rw [if_neg (by omega)]
 | j+1,g',h,hl,hts,i,k=>by
   obtain ⟨g1,h1,h2⟩:=Option.bind_eq_some_iff.1 h
   have ih:=elimTo_ent hr ht j g1 h1 (by omega) (by omega)
   obtain ⟨hr1,hl1⟩:=elimTo_keeps hr j g1 h1 (by omega)
   have e1:=elim1_ent h2 hr1 (by omega) (by omega) i k
   have et:∀ k,ent g1 t k=ent g t k:=fun k=>by rw [ih t k,if_neg (by omega)]
   have es:∀ k,ent g1 (s+j) k=ent g (s+j) k:=fun k=>by rw [ih (s+j) k,if_neg (by omega)]
   rw [e1]
   by_cases e:i=s+j
   ·rw [if_pos e,if_pos (by omega),e]
    unfold quo
    rw [et,es,et,es]
   ·rw [if_neg e,ih i k]
    by_cases e2:s≤i∧i < s+j
    ·rw [if_pos e2,if_pos (by omega)]
    ·rw [if_neg e2,if_neg (by omega)]
theorem elimTo_ok {n:Nat} {g:List (List Int)} {c t s:Nat} (hr:Rect n g) (ht:t < g.length) (h0:ent g t c≠0) (h2:smB (ent g t c)=true):∀ j,s+j≤g.length→(t < s∨s+j≤t)→(∀ i,s≤i→i < s+j→smB (ent g i c)=true∧(quo g c t i≠0→∀ k,okT (quo g c t i) (ent g i k) (ent g t k)=true))→∃ g',elimTo g c t s j=some g'
 | 0,_,_,_=>⟨g,rfl⟩
 | j+1,hl,hts,hb=>by
   obtain ⟨g1,h1⟩:=elimTo_ok hr ht h0 h2 j (by omega) (by omega) (fun i a b=>hb i a (by omega))
   have ih:=elimTo_ent hr ht j g1 h1 (by omega) (by omega)
   obtain ⟨hr1,hl1⟩:=elimTo_keeps hr j g1 h1 (by omega)
   have et:∀ k,ent g1 t k=ent g t k:=fun k=>by rw [ih t k,if_neg (by omega)]
   have es:∀ k,ent g1 (s+j) k=ent g (s+j) k:=fun k=>by rw [ih (s+j) k,if_neg (by omega)]
   have hbj:=hb (s+j) (by omega) (by omega)
   have eq:quo g1 c t (s+j)=quo g c t (s+j):=by unfold quo; rw [et,es]
   obtain ⟨g2,h3⟩:=elim1_ok (c:=c) (i:=s+j) (t:=t) hr1 (by omega) (by omega) (by rw [et]; exact h0) (by rw [es]; exact hbj.1) (by rw [et]; exact h2) (fun hq k=>by rw [eq,et,es]; exact hbj.2 (by rw [← eq]; exact hq) k)
   exact ⟨g2,by rw [elimTo,h1]; exact h3⟩
theorem restT_iff {n:Nat} {g:List (List Int)} {c t s:Nat} (hr:Rect n g) (ht:t < g.length):∀ (j:Nat) (g':List (List Int)),elimTo g c t s j=some g'→s+j≤g.length→t < s→(restT g c t s j=true ↔ ∃ i,s≤i∧i < s+j∧(ent g i c).fmod (ent g t c)≠0)
 | 0,g',h,_,_=>by
   rw [restT]
   exact ⟨fun h=>(by cases h),fun ⟨i,a,b,_⟩=>(by omega)⟩
 | j+1,g',h,hl,hts=>by
   obtain ⟨g1,h1,h2⟩:=Option.bind_eq_some_iff.1 h
   have ih:=restT_iff hr ht j g1 h1 (by omega) hts
   have ie:=elimTo_ent hr ht j g1 h1 (by omega) (.inl hts)
   have et:ent g1 t c=ent g t c:=by rw [ie t c,if_neg (by omega)]
   have es:ent g1 (s+j) c=ent g (s+j) c:=by rw [ie (s+j) c,if_neg (by omega)]
   rw [restT,h1,Bool.or_eq_true,ih]
   show (_∨(!decide ((ent g1 (s+j) c).fmod (ent g1 t c)=0))=true) ↔ _
   rw [et,es,Bool.not_eq_true',decide_eq_false_iff_not]
   constructor
   ·rintro (⟨i,a,b,h⟩ | h)
    ·exact ⟨i,a,by omega,h⟩
    ·exact ⟨s+j,by omega,by omega,h⟩
   ·rintro ⟨i,a,b,h⟩
    by_cases e:i=s+j
    ·subst e; exact .inr h
    ·exact .inl ⟨i,a,by omega,h⟩
theorem ent_neg {g:List (List Int)} {t:Nat} (ht:t < g.length) (j k:Nat):ent (g.set t ((rowAt g t).map fun x=>-x)) j k=if j=t then -ent g t k else ent g j k:=by
 rw [ent_set ht]
 by_cases e:j=t
 ·rw [if_pos e,if_pos e,List.getElem?_map]
  unfold ent
  cases (rowAt g t)[k]? <;> simp
 ·rw [if_neg e,if_neg e]
inductive Uni (m:Nat) (E:Nat→Nat→Int):(Nat→Nat→Int)→Prop
 | refl:Uni m E E
 | op {E1 E2:Nat→Nat→Int} (i t:Nat) (q:Int):i < m→t < m→i≠t→Uni m E E1→(∀ r k,E2 r k=if r=i then E1 i k - q * E1 t k else E1 r k)→Uni m E E2
 | swap {E1 E2:Nat→Nat→Int} (i j:Nat):i < m→j < m→Uni m E E1→(∀ r k,E2 r k=if r=j then E1 i k else if r=i then E1 j k else E1 r k)→Uni m E E2
 | neg {E1 E2:Nat→Nat→Int} (i:Nat):i < m→Uni m E E1→(∀ r k,E2 r k=if r=i then -E1 i k else E1 r k)→Uni m E E2
theorem Uni.trans {m:Nat} {E F H:Nat→Nat→Int} (h:Uni m E F) (k:Uni m F H):Uni m E H:=by
 induction k with
 | refl=>exact h
 | op i t q a b c _ e ih=>exact .op i t q a b c ih e
 | swap i j a b _ e ih=>exact .swap i j a b ih e
 | neg i a _ e ih=>exact .neg i a ih e
theorem Uni.congr {m:Nat} {E F H:Nat→Nat→Int} (h:Uni m E F) (e:∀ r k,H r k=F r k):Uni m E H:=by
 have:H=F:=funext fun r=>funext fun k=>e r k
 rw [this]; exact h
theorem uni_swp {g:List (List Int)} {i j:Nat} (hi:i < g.length) (hj:j < g.length):Uni g.length (ent g) (ent (swp g i j)):=.swap i j hi hj .refl fun r k=>ent_swp hi hj r k
theorem uni_elimTo {n:Nat} {g:List (List Int)} {c t s:Nat} (hr:Rect n g) (ht:t < g.length):∀ (j:Nat) (g':List (List Int)),elimTo g c t s j=some g'→s+j≤g.length→(t < s∨s+j≤t)→Uni g.length (ent g) (ent g')
 | 0,g',h,_,_=>by injection h with h; subst h; exact .refl
 | j+1,g',h,hl,hts=>by
   obtain ⟨g1,h1,h2⟩:=Option.bind_eq_some_iff.1 h
   obtain ⟨hr1,hl1⟩:=elimTo_keeps hr j g1 h1 (by omega)
   exact .op (s+j) t (quo g1 c t (s+j)) (by omega) ht (by omega) (uni_elimTo hr ht j g1 h1 (by omega) (by omega)) (fun r k=>elim1_ent h2 hr1 (by omega) (by omega) r k)
theorem uni_finS {n:Nat} {g g':List (List Int)} {c t:Nat} (hr:Rect n g) (ht:t < g.length) (h:finS g t c=some g'):Uni g.length (ent g) (ent g')∧Rect n g'∧g'.length=g.length:=by
 unfold finS at h
 split at h
 ·split at h
  ·have hr2:Rect n (g.set t ((rowAt g t).map fun x=>-x)):=hr.set (by rw [List.length_map,rowAt_len hr ht])
   have h1:=uni_elimTo hr2 (by rw [List.length_set]; exact ht) t g' h (by rw [List.length_set]; omega) (.inr (by omega))
   have h2:=elimTo_keeps hr2 t g' h (by rw [List.length_set]; omega)
   rw [List.length_set] at h1 h2
   exact ⟨Uni.trans (.neg t ht .refl fun r k=>ent_neg ht r k) h1,h2⟩
  ·cases h
 ·exact ⟨uni_elimTo hr ht t g' h (by omega) (.inr (by omega)),elimTo_keeps hr t g' h (by omega)⟩
theorem uni_colF {n c t:Nat}:∀ (F:Nat) (g g':List (List Int)) (t':Nat),Rect n g→t < g.length→colF F g c t=some (g',t')→Uni g.length (ent g) (ent g')∧Rect n g'∧g'.length=g.length∧(t'=t∨t'=t+1)
 | 0,_,_,_,_,_,h=>by cases h
 | F+1,g,g',t',hr,ht,h=>by
   rw [colF_succ h] at h
   cases hp:pickFT g c t (g.length - t) with
   | none=>
     rw [hp] at h; injection h with h; injection h with h1 h2; subst h1; subst h2
     exact ⟨.refl,hr,rfl,.inl rfl⟩
   | some k=>
     rw [hp] at h
     obtain ⟨g2,h1,h2⟩:=Option.bind_eq_some_iff.1 h
     have hk:=pickFT_lt _ _ hp
     have u1:=uni_swp (g:=g) (i:=t) (j:=k) ht (by omega)
     have hr1:Rect n (swp g t k):=swp_rect hr
     have hl1:=swp_len g t k
     have u2:=uni_elimTo hr1 (by omega) _ g2 h1 (by omega) (.inl (by omega))
     obtain ⟨hr2,hl2⟩:=elimTo_keeps hr1 _ g2 h1 (by omega)
     rw [hl1] at u2 hl2
     have u3:=u1.trans u2
     split at h2
     ·obtain ⟨u4,a,b,e⟩:=uni_colF F g2 g' t' hr2 (by omega) h2
      rw [hl2] at u4 b
      exact ⟨u3.trans u4,a,b,e⟩
     ·split at h2
      ·obtain ⟨g3,h3,h4⟩:=Option.map_eq_some_iff.1 h2
       injection h4 with h4 h5; subst h4; subst h5
       obtain ⟨u4,a,b⟩:=uni_finS hr2 (by omega) h3
       rw [hl2] at u4 b
       exact ⟨u3.trans u4,a,b,.inr rfl⟩
      ·cases h2
inductive Spn (m:Nat) (E:Nat→Nat→Int):(Nat→Int)→Prop
 | zero {x:Nat→Int}:(∀ k,x k=0)→Spn m E x
 | add {x y:Nat→Int} (i:Nat) (q:Int):i < m→Spn m E x→(∀ k,y k=x k+q * E i k)→Spn m E y
theorem Spn.row {m:Nat} {E:Nat→Nat→Int} {i:Nat} (h:i < m):Spn m E (E i):=.add (x:=fun _=>0) i 1 h (.zero fun _=>rfl) fun k=>by omega
theorem Spn.congr {m:Nat} {E:Nat→Nat→Int} {x y:Nat→Int} (h:Spn m E x) (e:∀ k,y k=x k):Spn m E y:=by
 rw [show y=x from funext e]; exact h
theorem Spn.addmul {m:Nat} {E:Nat→Nat→Int} {x y:Nat→Int} (q:Int) (h:Spn m E x) (k:Spn m E y):Spn m E fun j=>x j+q * y j:=by
 induction k with
 | zero e=>exact h.congr fun j=>by rw [e]; omega
 | add i p a _ e ih=>exact .add i (q * p) a ih fun j=>by show _=_+_; rw [e]; grind
theorem Spn.sub {m:Nat} {E F:Nat→Nat→Int} {x:Nat→Int} (h:∀ i,i < m→Spn m F (E i)) (k:Spn m E x):Spn m F x:=by
 induction k with
 | zero e=>exact .zero e
 | add i q a _ e ih=>exact (ih.addmul q (h i a)).congr e
theorem uni_sp {m:Nat} {E F:Nat→Nat→Int} (h:Uni m E F):∀ x,Spn m E x ↔ Spn m F x:=by
 induction h with
 | refl=>exact fun _=>Iff.rfl
 | @op E1 E2 i t q hi ht hit _ e ih=>
   refine fun x=>(ih x).trans ⟨fun h=>h.sub fun r hr=>?_,fun h=>h.sub fun r hr=>?_⟩
   ·by_cases e1:r=i
    ·subst e1
     refine ((Spn.row hi).addmul q (Spn.row (E:=E2) ht)).congr fun k=>?_
     rw [e r k,if_pos rfl,e t k,if_neg (fun h=>hit h.symm)]; omega
    ·exact (Spn.row hr).congr fun k=>by rw [e r k,if_neg e1]
   ·by_cases e1:r=i
    ·subst e1
     refine ((Spn.row hi).addmul (-q) (Spn.row (E:=E1) ht)).congr fun k=>?_
     rw [e r k,if_pos rfl,Int.neg_mul]; omega
    ·exact (Spn.row hr).congr fun k=>by rw [e r k,if_neg e1]
 | @swap E1 E2 i j hi hj _ e ih=>
   refine fun x=>(ih x).trans ⟨fun h=>h.sub fun r hr=>?_,fun h=>h.sub fun r hr=>?_⟩
   ·by_cases e1:r=i
    ·subst e1; exact (Spn.row hj).congr fun k=>by rw [e j k,if_pos rfl]
    ·by_cases e2:r=j
     ·subst e2; exact (Spn.row hi).congr fun k=>by rw [e i k,if_neg (fun h=>e1 h.symm),if_pos rfl]
     ·exact (Spn.row hr).congr fun k=>by rw [e r k,if_neg e2,if_neg e1]
   ·by_cases e2:r=j
    ·subst e2; exact (Spn.row hi).congr fun k=>by rw [e r k,if_pos rfl]
    ·by_cases e1:r=i
     ·subst e1; exact (Spn.row hj).congr fun k=>by rw [e r k,if_neg e2,if_pos rfl]
     ·exact (Spn.row hr).congr fun k=>by rw [e r k,if_neg e2,if_neg e1]
 | @neg E1 E2 i hi _ e ih=>
   refine fun x=>(ih x).trans ⟨fun h=>h.sub fun r hr=>?_,fun h=>h.sub fun r hr=>?_⟩
   ·by_cases e1:r=i
    ·subst e1
     exact (Spn.addmul (x:=fun _=>0) (-1) (.zero fun _=>rfl) (Spn.row (E:=E2) hi)).congr fun k=>by rw [e r k,if_pos rfl]; omega
    ·exact (Spn.row hr).congr fun k=>by rw [e r k,if_neg e1]
   ·by_cases e1:r=i
    ·subst e1
     exact (Spn.addmul (x:=fun _=>0) (-1) (.zero fun _=>rfl) (Spn.row (E:=E1) hi)).congr fun k=>by rw [e r k,if_pos rfl]; omega
    ·exact (Spn.row hr).congr fun k=>by rw [e r k,if_neg e1]
def dtE:Nat→(Nat→Nat→Int)→Int
 | 0,_=>1
 | 1,E=>E 0 0
 | 2,E=>E 0 0 * E 1 1 - E 0 1 * E 1 0
 | _,E=>E 0 0 * (E 1 1 * E 2 2 - E 1 2 * E 2 1) - E 0 1 * (E 1 0 * E 2 2 - E 1 2 * E 2 0)+E 0 2 * (E 1 0 * E 2 1 - E 1 1 * E 2 0)
theorem uni_det {m:Nat} (hm:m≤3) {E F:Nat→Nat→Int} (h:Uni m E F):dtE m F=dtE m E∨dtE m F=-dtE m E:=by
 have h4:m=0∨m=1∨m=2∨m=3:=by omega
 induction h with
 | refl=>exact .inl rfl
 | @op E1 E2 i t q hi ht hit _ e ih=>
   have key:dtE m E2=dtE m E1:=by
    rcases h4 with rfl | rfl | rfl | rfl
    ·rfl
    ·omega
    ·have hi2:(i=0∧t=1)∨(i=1∧t=0):=by omega
     rcases hi2 with ⟨rfl,rfl⟩ | ⟨rfl,rfl⟩ <;> (simp only [dtE,e]; grind)
    ·have hi2:(i=0∧t=1)∨(i=1∧t=0)∨(i=0∧t=2)∨(i=2∧t=0)∨(i=1∧t=2)∨(i=2∧t=1):=by omega
     rcases hi2 with ⟨rfl,rfl⟩ | ⟨rfl,rfl⟩ | ⟨rfl,rfl⟩ | ⟨rfl,rfl⟩ | ⟨rfl,rfl⟩ | ⟨rfl,rfl⟩ <;> (simp [dtE,e]; grind)
   rw [key]; exact ih
 | @swap E1 E2 i j hi hj _ e ih=>
   have key:dtE m E2=dtE m E1∨dtE m E2=-dtE m E1:=by
    by_cases hij:i=j
    ·subst hij
     left
     have:E2=E1:=funext fun r=>funext fun k=>by rw [e r k]; by_cases h:r=i <;> simp [h]
     rw [this]
    right
    rcases h4 with rfl | rfl | rfl | rfl
    ·omega
    ·omega
    ·have hi2:(i=0∧j=1)∨(i=1∧j=0):=by omega
     rcases hi2 with ⟨rfl,rfl⟩ | ⟨rfl,rfl⟩ <;> (simp [dtE,e]; grind)
    ·have hi2:(i=0∧j=1)∨(i=1∧j=0)∨(i=0∧j=2)∨(i=2∧j=0)∨(i=1∧j=2)∨(i=2∧j=1):=by omega
     rcases hi2 with ⟨rfl,rfl⟩ | ⟨rfl,rfl⟩ | ⟨rfl,rfl⟩ | ⟨rfl,rfl⟩ | ⟨rfl,rfl⟩ | ⟨rfl,rfl⟩ <;> (simp [dtE,e]; grind)
   rcases key with k | k <;> rcases ih with h | h <;> rw [k,h] <;> simp
 | @neg E1 E2 i hi _ e ih=>
   have key:dtE m E2=-dtE m E1:=by
    rcases h4 with rfl | rfl | rfl | rfl
    ·omega
    ·obtain rfl:i=0:=by omega
     simp [dtE,e]
    ·have hi2:i=0∨i=1:=by omega
     rcases hi2 with rfl | rfl <;> (simp [dtE,e]; grind)
    ·have hi2:i=0∨i=1∨i=2:=by omega
     rcases hi2 with rfl | rfl | rfl <;> (simp [dtE,e]; grind)
   rcases ih with h | h <;> rw [key,h] <;> simp
theorem cmpI_neg {a b:Int}:cmpI a b < 0 ↔ a < b:=by unfold cmpI; split <;> (try split) <;> omega
theorem pickFT_none {g:List (List Int)} {c t:Nat}:∀ {j:Nat},pickFT g c t j=none→∀ i,t≤i→i < t+j→ent g i c=0
 | 0,_,i,a,b=>by omega
 | j+1,h,i,a,b=>by
   rw [pickFT] at h
   unfold pickF1 at h
   split at h
   ·rename_i h0
    by_cases e:i=t+j
    ·rw [e]; exact h0
    ·exact pickFT_none h i a (by omega)
   ·split at h
    ·cases h
    ·split at h <;> cases h
theorem pickFT_zero {g:List (List Int)} {c t:Nat}:∀ {j:Nat},(∀ i,t≤i→i < t+j→ent g i c=0)→pickFT g c t j=none
 | 0,_=>rfl
 | j+1,h=>by
   rw [pickFT,pickFT_zero (fun i a b=>h i a (by omega))]
   unfold pickF1
   rw [if_pos (h (t+j) (by omega) (by omega))]
theorem pickFT_least {g:List (List Int)} {c t:Nat}:∀ {j k:Nat},pickFT g c t j=some k→ent g k c≠0∧∀ i,t≤i→i < t+j→ent g i c≠0→(ent g k c).natAbs≤(ent g i c).natAbs
 | 0,k,h=>by cases h
 | j+1,k,h=>by
   rw [pickFT] at h
   unfold pickF1 at h
   split at h
   ·rename_i h0
    obtain ⟨a,b⟩:=pickFT_least h
    refine ⟨a,fun i x y z=>?_⟩
    by_cases e:i=t+j
    ·rw [e] at z; exact absurd h0 z
    ·exact b i x (by omega) z
   ·rename_i h0
    split at h
    ·rename_i hn
     injection h with h; subst h
     refine ⟨h0,fun i x y z=>?_⟩
     by_cases e:i=t+j
     ·rw [e]; exact Nat.le_refl _
     ·exact absurd (pickFT_none hn i x (by omega)) z
    ·rename_i q hq
     obtain ⟨a,b⟩:=pickFT_least hq
     split at h
     ·rename_i hc
      rw [cmpI_neg] at hc
      injection h with h; subst h
      refine ⟨h0,fun i x y z=>?_⟩
      by_cases e:i=t+j
      ·rw [e]; exact Nat.le_refl _
      ·have:=b i x (by omega) z; omega
     ·rename_i hc
      rw [cmpI_neg] at hc
      injection h with h; subst h
      refine ⟨a,fun i x y z=>?_⟩
      by_cases e:i=t+j
      ·rw [e]; omega
      ·exact b i x (by omega) z
theorem fmod_lt {x p:Int} (h:p≠0):(x.fmod p).natAbs < p.natAbs:=by
 rcases Int.lt_or_gt_of_ne h with h | h
 ·have h1:x.fmod p=-((-x).fmod (-p)):=by rw [Int.neg_fmod_neg]; omega
  have h2:=Int.fmod_nonneg_of_pos (-x) (show 0 < -p by omega)
  have h3:=Int.fmod_lt_of_pos (-x) (show 0 < -p by omega)
  omega
 ·have h2:=Int.fmod_nonneg_of_pos x h
  have h3:=Int.fmod_lt_of_pos x h
  omega
theorem fdiv_le {x p:Int} (h:p≠0):(x.fdiv p).natAbs≤x.natAbs:=by
 have h1:∀ y q:Int,0 < q→(y.fdiv q).natAbs≤y.natAbs:=fun y q hq=>by
  have e:=Int.mul_fdiv_add_fmod y q
  have h2:=Int.fmod_nonneg_of_pos y hq
  have h3:=Int.fmod_lt_of_pos y hq
  generalize y.fdiv q=z at *
  generalize y.fmod q=f at *
  by_cases hz:0≤z
  ·have:z≤q * z:=by have:=Int.mul_le_mul_of_nonneg_right (show 1≤q by omega) hz; omega
   omega
  ·have:q * z+q≤z+1:=by
    have h4:=Int.mul_le_mul_of_nonneg_right (show 1≤q by omega) (show 0≤-(z+1) by omega)
    have:q * (-(z+1))=-(q * z) - q:=by grind
    omega
   omega
 rcases Int.lt_or_gt_of_ne h with h | h
 ·have:=h1 (-x) (-p) (by omega)
  rw [Int.neg_fdiv_neg] at this
  omega
 ·exact h1 x p h
theorem sub_fmod (x p:Int):x - x.fdiv p * p=x.fmod p:=by have:=Int.mul_fdiv_add_fmod x p; rw [Int.mul_comm]; omega
structure Done (g g':List (List Int)) (c t m:Nat):Prop where
 pos:0 < ent g' t c
 low:∀ i,t < i→i < m→ent g' i c=0
 up:∀ i,i < t→0≤ent g' i c∧ent g' i c < ent g' t c
 old:∀ k,(∀ i,t≤i→i < m→ent g i k=0)→(∀ i,t≤i→i < m→ent g' i k=0)∧∀ i,i < t→ent g' i k=ent g i k
theorem finS_done {n:Nat} {g g':List (List Int)} {c t:Nat} (hr:Rect n g) (ht:t < g.length) (h:finS g t c=some g') (h0:ent g t c≠0) (hl:∀ i,t < i→i < g.length→ent g i c=0):Done g g' c t g.length:=by
 have key:∀ g1:List (List Int),Rect n g1→g1.length=g.length→0 < ent g1 t c→(∀ i k,ent g1 i k=if i=t then ent g1 t k else ent g i k)→(∀ k,ent g1 t k=ent g t k∨ent g1 t k=-ent g t k)→elimTo g1 c t 0 t=some g'→Done g g' c t g.length:=fun g1 hr1 hl1 hp he hs hel=>by
  have e:=elimTo_ent hr1 (by omega) t g' hel (by omega) (.inr (by omega))
  refine ⟨by rw [e,if_neg (by omega)]; exact hp,fun i a b=>by rw [e,if_neg (by omega),he,if_neg (by omega)]; exact hl i a b,fun i a=>?_,fun k hk=>⟨fun i a b=>?_,fun i a=>?_⟩⟩
  ·rw [e i,if_pos (by omega),e t,if_neg (by omega)]
   unfold quo
   rw [sub_fmod]
   exact ⟨Int.fmod_nonneg_of_pos _ hp,Int.fmod_lt_of_pos _ hp⟩
  ·rw [e i,if_neg (by omega),he]
   by_cases e1:i=t
   ·rw [if_pos e1]; have:=hk t (Nat.le_refl _) ht; rcases hs k with h | h <;> omega
   ·rw [if_neg e1]; exact hk i a b
  ·rw [e i,if_pos (by omega),he i,if_neg (by omega)]
   have:ent g1 t k=0:=by have:=hk t (Nat.le_refl _) ht; rcases hs k with h | h <;> omega
   rw [this,Int.mul_zero,Int.sub_zero]
 unfold finS at h
 split at h
 ·rename_i hneg
  split at h
  ·refine key _ (hr.set (by rw [List.length_map,rowAt_len hr ht])) (List.length_set) (by rw [ent_neg ht,if_pos rfl]; omega) (fun i k=>?_) (fun k=>.inr (by rw [ent_neg ht,if_pos rfl])) h
   rw [ent_neg ht,ent_neg ht,if_pos rfl]
  ·cases h
 ·exact key g hr rfl (by omega) (fun i k=>by by_cases e:i=t <;> simp [e]) (fun k=>.inl rfl) h
theorem colF_shape {n c t:Nat}:∀ (F:Nat) (g g':List (List Int)) (t':Nat),Rect n g→t < g.length→colF F g c t=some (g',t')→(t'=t∧g'=g∧∀ i,t≤i→i < g.length→ent g i c=0)∨(t'=t+1∧Done g g' c t g.length)
 | 0,_,_,_,_,_,h=>by cases h
 | F+1,g,g',t',hr,ht,h=>by
   rw [colF_succ h] at h
   cases hp:pickFT g c t (g.length - t) with
   | none=>
     rw [hp] at h; injection h with h; injection h with h1 h2; subst h1; subst h2
     exact .inl ⟨rfl,rfl,fun i a b=>pickFT_none hp i a (by omega)⟩
   | some k=>
     rw [hp] at h
     obtain ⟨g2,h1,h2⟩:=Option.bind_eq_some_iff.1 h
     obtain ⟨hk1,hk2⟩:=pickFT_lt _ _ hp
     obtain ⟨p0,-⟩:=pickFT_least hp
     have hr1:Rect n (swp g t k):=swp_rect hr
     have hl1:=swp_len g t k
     have hs:=fun r q=>ent_swp (g:=g) (i:=t) (j:=k) ht (by omega) r q
     have he:=elimTo_ent hr1 (by omega) _ g2 h1 (by omega) (.inl (by omega))
     obtain ⟨hr2,hl2⟩:=elimTo_keeps hr1 _ g2 h1 (by omega)
     rw [hl1] at hl2
     have htc:ent g2 t c≠0:=by
      rw [he,if_neg (by omega),hs]
      by_cases e:t=k
      ·rw [if_pos e,e]; exact p0
      ·rw [if_neg e,if_pos rfl]; exact p0
     have hold:∀ q,(∀ i,t≤i→i < g.length→ent g i q=0)→(∀ i,t≤i→i < g.length→ent g2 i q=0)∧∀ i,i < t→ent g2 i q=ent g i q:=fun q hq=>by
      have h9:∀ i,t≤i→i < g.length→ent (swp g t k) i q=0:=fun i a b=>by
       rw [hs]
       split
       ·exact hq t (Nat.le_refl _) ht
       ·split
        ·exact hq k (by omega) (by omega)
        ·exact hq i a b
      refine ⟨fun i a b=>?_,fun i a=>?_⟩
      ·rw [he]
       split
       ·rw [h9 i a b,h9 t (Nat.le_refl _) ht]; omega
       ·exact h9 i a b
      ·rw [he,if_neg (by omega),hs,if_neg (by omega),if_neg (by omega)]
     have hrest:=restT_iff hr1 (by omega) _ g2 h1 (by omega) (by omega)
     have fin:∀ g3:List (List Int),Done g2 g3 c t g2.length→Done g g3 c t g.length:=fun g3 d=>by
      rw [hl2] at d
      refine ⟨d.pos,d.low,d.up,fun q hq=>?_⟩
      obtain ⟨a,b⟩:=hold q hq
      obtain ⟨a',b'⟩:=d.old q a
      exact ⟨a',fun i hi=>by rw [b' i hi,b i hi]⟩
     split at h2
     ·rcases colF_shape F g2 g' t' hr2 (by omega) h2 with ⟨-,-,h3⟩ | ⟨e,d⟩
      ·exact absurd (h3 t (Nat.le_refl _) (by omega)) htc
      ·exact .inr ⟨e,fin g' d⟩
     ·rename_i hnr
      split at h2
      ·obtain ⟨g3,h3,h4⟩:=Option.map_eq_some_iff.1 h2
       injection h4 with h4 h5; subst h4; subst h5
       refine .inr ⟨rfl,fin g3 (finS_done hr2 (by rw [hl2]; exact ht) h3 htc fun i a b=>?_)⟩
       have hi2:i < t+1+(g.length - (t+1)):=by rw [hl2] at b; clear hrest hnr he hs; omega
       rw [he,if_pos ⟨a,hi2⟩]
       unfold quo
       rw [sub_fmod]
       exact Classical.byContradiction fun h9=>hnr (hrest.2 ⟨i,a,hi2,h9⟩)
      ·cases h2
theorem pickFT_congr {g s:List (List Int)} {c d t:Nat}:∀ {j:Nat},(∀ i,t≤i→i < t+j→ent g i c=ent s i d)→pickFT g c t j=pickFT s d t j
 | 0,_=>rfl
 | j+1,h=>by
   rw [pickFT,pickFT,pickFT_congr (fun i a b=>h i a (by omega))]
   unfold pickF1
   rw [h (t+j) (by omega) (by omega)]
   split
   ·rfl
   ·split
    ·rfl
    ·rename_i q hq
     have:=pickFT_lt _ _ hq
     rw [h q (by omega) (by omega)]
theorem okT_of {q x y:Int} (hq:q.natAbs < 100000000) (hy:y.natAbs < 100000000) (hx:x.natAbs < 100000000000000000):okT q x y=true:=decide_eq_true ⟨⟨by omega,by omega⟩,⟨by omega,by omega⟩,by omega,by omega⟩
theorem smB_of {x:Int} (hx:x.natAbs < 100000000000000000):smB x=true:=decide_eq_true ⟨by omega,by omega⟩
theorem colOk_of {g:List (List Int)} {c:Nat} (h:∀ i,i < g.length→(ent g i c).natAbs < 100000000000000000):colOk g c=true:=List.all_eq_true.2 fun i hi=>smB_of (h i (List.mem_range.1 hi))
theorem abs_step {x y q:Int} {A B C:Nat} (hx:x.natAbs≤A) (hq:q.natAbs≤B) (hy:y.natAbs≤C):(x - q * y).natAbs≤A+B * C:=by
 have:=Nat.mul_le_mul hq hy
 rw [← Int.natAbs_mul] at this
 omega
theorem colF_run {n c t m:Nat} {P Q:List (List Int)→Prop} (ht:t < m) (hP:∀ g,P g→Rect n g∧g.length=m∧colOk g c=true)
 (hstep:∀ g k,P g→t≤k→k < m→pickFT g c t (m - t)=some k→∃ g2,elimTo (swp g t k) c t (t+1) (m - (t+1))=some g2∧((∃ i,t < i∧i < m∧ent g2 i c≠0)→P g2)∧((∀ i,t < i→i < m→ent g2 i c=0)→ent g2 t c≠0→smB (ent g2 t c)=true∧∃ g3,finS g2 t c=some g3∧Q g3)) :
 ∀ (F:Nat) (g:List (List Int)),P g→(∃ i,t≤i∧i < m∧ent g i c≠0∧(ent g i c).natAbs < F)→∃ g3,colF F g c t=some (g3,t+1)∧Q g3
 | 0,_,_,⟨_,_,_,_,h⟩=>absurd h (Nat.not_lt_zero _)
 | F+1,g,hg,⟨i0,a0,b0,h0,hF⟩=>by
   obtain ⟨hr,hl,hok⟩:=hP g hg
   rw [colF,if_pos hok,hl]
   cases hp:pickFT g c t (m - t) with
   | none=>exact absurd (pickFT_none hp i0 a0 (by omega)) h0
   | some k=>
     obtain ⟨hk1,hk2⟩:=pickFT_lt _ _ hp
     obtain ⟨p0,pl⟩:=pickFT_least hp
     obtain ⟨g2,he,h1,h2⟩:=hstep g k hg hk1 (by omega) hp
     have hle:=pl i0 a0 (by omega) h0
     have hr1:Rect n (swp g t k):=swp_rect hr
     have hl1:=swp_len g t k
     have hs:=fun r q=>ent_swp (g:=g) (i:=t) (j:=k) (by omega) (by omega) r q
     have hent:=elimTo_ent hr1 (by omega) _ g2 he (by omega) (.inl (by omega))
     have htc:ent (swp g t k) t c=ent g k c:=by
      rw [hs]
      by_cases e:t=k
      ·rw [if_pos e,e]
      ·rw [if_neg e,if_pos rfl]
     have hrow:∀ i,t < i→i < m→ent g2 i c=(ent (swp g t k) i c).fmod (ent g k c):=fun i a b=>by
      rw [hent,if_pos (by omega)]
      unfold quo
      rw [sub_fmod,htc]
     have hm1:t+1+(m - (t+1))≤(swp g t k).length:=by omega
     have hrest:=restT_iff hr1 (by omega) _ g2 he hm1 (by omega)
     rw [htc] at hrest
     show ∃ g3,((elimTo (swp g t k) c t (t+1) (m - (t+1))).bind fun g2=>if restT (swp g t k) c t (t+1) (m - (t+1))=true then colF F g2 c t else if smB (ent g2 t c)=true then (finS g2 t c).map fun g3=>(g3,t+1) else none)=some (g3,t+1)∧Q g3
     rw [he]
     by_cases hres:restT (swp g t k) c t (t+1) (m - (t+1))=true
     ·obtain ⟨i,a,b,hn⟩:=hrest.1 hres
      have b2:i < m:=by clear hrest hres; omega
      have a2:t < i:=by clear hrest hres; omega
      have e1:=hrow i a2 b2
      rw [← e1] at hn
      have hlt:=fmod_lt (x:=ent (swp g t k) i c) p0
      rw [← e1] at hlt
      obtain ⟨g3,k1,k2⟩:=colF_run ht hP hstep F g2 (h1 ⟨i,a2,b2,hn⟩) ⟨i,by clear hrest hres; omega,b2,hn,by clear hrest hres; omega⟩
      exact ⟨g3,by show (if _ then _ else _)=_; rw [if_pos hres]; exact k1,k2⟩
     ·have hz:∀ i,t < i→i < m→ent g2 i c=0:=fun i a b=>by
       rw [hrow i a b]
       have b2:i < t+1+(m - (t+1)):=by clear hrest hres; omega
       exact Classical.byContradiction fun h9=>hres (hrest.2 ⟨i,a,b2,h9⟩)
      have hc2:ent g2 t c≠0:=by
       have:¬ (t+1≤t∧t < t+1+(m - (t+1))):=by clear hrest hres; omega
       rw [hent,if_neg this,htc]; exact p0
      obtain ⟨k0,g3,k1,k2⟩:=h2 hz hc2
      exact ⟨g3,by show (if _ then _ else _)=_; rw [if_neg hres,if_pos k0,k1]; rfl,k2⟩
theorem colF_none {F c t:Nat} {g:List (List Int)} (hok:colOk g c=true) (h:∀ i,t≤i→i < g.length→ent g i c=0):colF (F+1) g c t=some (g,t):=by
 rw [colF,if_pos hok,pickFT_zero (fun i a b=>h i a (by omega))]
theorem finS_ok {n c t T V:Nat} {g:List (List Int)} (hr:Rect n g) (ht:t < g.length) (h0:ent g t c≠0) (hT:T < 100000000) (hV:V < 100000000) (h1:∀ i,i < t→∀ k,(ent g i k).natAbs≤T) (h2:∀ k,(ent g t k).natAbs≤V) :
 ∃ g3,finS g t c=some g3∧(∀ i,i < t→∀ k,(ent g3 i k).natAbs≤T+T * V)∧∀ i,t≤i→∀ k,(ent g3 i k).natAbs=(ent g i k).natAbs:=by
 have key:∀ g1:List (List Int),Rect n g1→g1.length=g.length→ent g1 t c≠0→(∀ i k,(ent g1 i k).natAbs=(ent g i k).natAbs)→∃ g3,elimTo g1 c t 0 t=some g3∧(∀ i,i < t→∀ k,(ent g3 i k).natAbs≤T+T * V)∧∀ i,t≤i→∀ k,(ent g3 i k).natAbs=(ent g i k).natAbs:=fun g1 hr1 hl1 hp he=>by
  have hq:∀ i,i < t→(quo g1 c t i).natAbs≤T:=fun i a=>by
   have:=fdiv_le (x:=ent g1 i c) hp
   have h3:=h1 i a c
   rw [← he] at h3
   exact Nat.le_trans this h3
  obtain ⟨g3,h3⟩:=elimTo_ok (s:=0) hr1 (by omega) hp (smB_of (by have:=h2 c; rw [← he] at this; omega)) t (by omega) (.inr (by omega)) (fun i _ a=>⟨smB_of (by have:=h1 i (by omega) c; rw [← he] at this; omega),fun _ k=>okT_of (by have:=hq i (by omega); omega) (by have:=h2 k; rw [← he] at this; omega) (by have:=h1 i (by omega) k; rw [← he] at this; omega)⟩)
  have e:=elimTo_ent hr1 (by omega) t g3 h3 (by omega) (.inr (by omega))
  refine ⟨g3,h3,fun i a k=>?_,fun i a k=>?_⟩
  ·rw [e,if_pos (by omega)]
   exact abs_step (by rw [he]; exact h1 i a k) (hq i a) (by rw [he]; exact h2 k)
  ·rw [e,if_neg (by omega),he]
 unfold finS
 split
 ·have hsm:smRow (rowAt g t)=true:=List.all_eq_true.2 fun x hx=>by
   obtain ⟨k,hk⟩:=List.getElem?_of_mem hx
   have:=h2 k
   unfold ent at this
   rw [hk,Option.getD_some] at this
   exact smB_of (by omega)
  rw [if_pos hsm]
  have hn:=fun i k=>ent_neg (g:=g) ht i k
  exact key _ (hr.set (by rw [List.length_map,rowAt_len hr ht])) (List.length_set) (by rw [hn,if_pos rfl]; omega) (fun i k=>by rw [hn]; by_cases e:i=t <;> simp [e])
 ·exact key g hr rfl h0 (fun _ _=>rfl)
theorem colF_one {n c t T V F:Nat} {g:List (List Int)} (hr:Rect n g) (hl:g.length=t+1) (h0:ent g t c≠0) (hT:T < 100000000) (hV:V < 100000000) (hF:V < F) (h1:∀ i,i < t→∀ k,(ent g i k).natAbs≤T) (h2:∀ k,(ent g t k).natAbs≤V) :
 ∃ g3,colF F g c t=some (g3,t+1)∧(∀ i,i < t→∀ k,(ent g3 i k).natAbs≤T+T * V)∧∀ k,(ent g3 t k).natAbs≤V:=by
 refine colF_run (n:=n) (m:=t+1) (P:=fun g1=>g1=g) (Q:=fun g3=>(∀ i,i < t→∀ k,(ent g3 i k).natAbs≤T+T * V)∧∀ k,(ent g3 t k).natAbs≤V) (by omega) (fun g1 e=>?_) (fun g1 k e a b _=>?_) F g rfl ⟨t,Nat.le_refl _,by omega,h0,by have:=h2 c; omega⟩
 ·subst e
  refine ⟨hr,hl,colOk_of fun i hi=>?_⟩
  by_cases e:i=t
  ·subst e; have:=h2 c; omega
  ·have:=h1 i (by omega) c; omega
 ·subst e
  obtain rfl:k=t:=by omega
  rw [swp_same,Nat.sub_self]
  refine ⟨g1,rfl,fun _=>rfl,fun _ h=>⟨smB_of (by have:=h2 c; omega), ?_⟩⟩
  obtain ⟨g3,k1,k2,k3⟩:=finS_ok hr (by omega) h0 hT hV h1 h2
  exact ⟨g3,k1,k2,fun q=>by rw [k3 k (Nat.le_refl _)]; exact h2 q⟩
def dK (g:List (List Int)) (c t k:Nat):Int:=ent g t c * ent g (t+1) k - ent g (t+1) c * ent g t k
structure P2 (n c t T K:Nat) (g:List (List Int)):Prop where
 rect:Rect n g
 len:g.length=t+2
 top:∀ i,i < t→∀ k,(ent g i k).natAbs≤T
 v0:∀ k,(ent g t k).natAbs≤2 * (K * K)
 v1:∀ k,(ent g (t+1) k).natAbs≤2 * (K * K)
 u0:(ent g t c).natAbs≤K
 u1:(ent g (t+1) c).natAbs≤K
 mi:∀ k,(dK g c t k).natAbs≤2 * (K * K)
theorem P2.of {n c t T K:Nat} {g:List (List Int)} (hr:Rect n g) (hl:g.length=t+2) (hK:1≤K) (hT:∀ i,i < t→∀ k,(ent g i k).natAbs≤T) (h0:∀ k,(ent g t k).natAbs≤K) (h1:∀ k,(ent g (t+1) k).natAbs≤K):P2 n c t T K g:=by
 have hKK:K≤K * K:=Nat.le_mul_of_pos_left K hK
 refine ⟨hr,hl,hT,fun k=>by have:=h0 k; omega,fun k=>by have:=h1 k; omega,h0 c,h1 c,fun k=>?_⟩
 have a:=abs_mul (h0 c) (h1 k)
 have b:=abs_mul (h1 c) (h0 k)
 unfold dK
 omega
theorem P2.swp {n c t T K k:Nat} {g:List (List Int)} (h:P2 n c t T K g) (h1:t≤k) (h2:k < t+2):P2 n c t T K (swp g t k):=by
 have hl:=h.len
 have hs:=fun r q=>ent_swp (g:=g) (i:=t) (j:=k) (by omega) (by omega) r q
 have hk:k=t∨k=t+1:=by omega
 rcases hk with rfl | rfl
 ·rw [swp_same]; exact h
 ·refine ⟨swp_rect h.rect,by rw [swp_len]; exact h.len,fun i hi k=>?_,fun k=>?_,fun k=>?_, ?_, ?_,fun k=>?_⟩
  ·rw [hs,if_neg (by omega),if_neg (by omega)]; exact h.top i hi k
  ·rw [hs,if_neg (by omega),if_pos rfl]; exact h.v1 k
  ·rw [hs,if_pos rfl]; exact h.v0 k
  ·rw [hs,if_neg (by omega),if_pos rfl]; exact h.u1
  ·rw [hs,if_pos rfl]; exact h.u0
  ·have:=h.mi k
   unfold dK at this ⊢
   rw [hs,hs,hs,hs,if_neg (by omega),if_pos rfl,if_pos rfl,if_pos rfl,if_neg (by omega),if_pos rfl]
   omega
theorem minor_bd {p v u' vp D:Int} {V:Nat} (h:p * v=D+u' * vp) (hu:u'.natAbs < p.natAbs) (hv:vp.natAbs≤V) (hD:D.natAbs≤V):v.natAbs≤V:=by
 have h1:p.natAbs * v.natAbs≤V+u'.natAbs * V:=by
  rw [← Int.natAbs_mul,h]
  have:=abs_mul (Nat.le_refl u'.natAbs) hv
  omega
 have h2:V+u'.natAbs * V≤p.natAbs * V:=by
  have:(u'.natAbs+1) * V≤p.natAbs * V:=Nat.mul_le_mul_right V (by omega)
  rw [Nat.add_mul,Nat.one_mul] at this
  omega
 exact Nat.le_of_mul_le_mul_left (Nat.le_trans h1 h2) (by omega)
theorem P2.elim {n c t T K:Nat} {g:List (List Int)} (h:P2 n c t T K g) (h0:ent g t c≠0) (hV:2 * (K * K) < 100000000) (hK:K < 100000000):∃ g2,elimTo g c t (t+1) 1=some g2∧P2 n c t T K g2∧ent g2 t c=ent g t c:=by
 have hl:=h.len
 have hq:(quo g c t (t+1)).natAbs≤K:=Nat.le_trans (fdiv_le h0) h.u1
 obtain ⟨g2,h2⟩:=elimTo_ok (s:=t+1) h.rect (by omega) h0 (smB_of (by have:=h.u0; omega)) 1 (by omega) (.inl (by omega)) (fun i a b=>by
  obtain rfl:i=t+1:=by omega
  exact ⟨smB_of (by have:=h.u1; omega),fun _ k=>okT_of (by omega) (by have:=h.v0 k; omega) (by have:=h.v1 k; omega)⟩)
 have e:=elimTo_ent h.rect (by omega) 1 g2 h2 (by omega) (.inl (by omega))
 obtain ⟨hr2,hl2⟩:=elimTo_keeps h.rect 1 g2 h2 (by omega)
 have et:∀ k,ent g2 t k=ent g t k:=fun k=>by rw [e,if_neg (by omega)]
 have es:∀ k,ent g2 (t+1) k=ent g (t+1) k - quo g c t (t+1) * ent g t k:=fun k=>by rw [e,if_pos (by omega)]
 have eu:ent g2 (t+1) c=(ent g (t+1) c).fmod (ent g t c):=by rw [es]; unfold quo; rw [sub_fmod]
 have hlt:=fmod_lt (x:=ent g (t+1) c) h0
 rw [← eu] at hlt
 have hd:∀ k,dK g2 c t k=dK g c t k:=fun k=>by
  unfold dK
  rw [et,et,es,es]
  grind
 refine ⟨g2,h2,⟨hr2,by omega,fun i a k=>by rw [e,if_neg (by omega)]; exact h.top i a k,fun k=>by rw [et]; exact h.v0 k,fun k=>?_,by rw [et]; exact h.u0,by have:=h.u0; omega,fun k=>by rw [hd]; exact h.mi k⟩,et c⟩
 refine minor_bd (p:=ent g t c) (u':=ent g2 (t+1) c) (vp:=ent g t k) (D:=dK g c t k) ?_ hlt (h.v0 k) (h.mi k)
 rw [← hd]
 unfold dK
 rw [et,et]
 grind
theorem colF_two {n c t T K F:Nat} {g:List (List Int)} (h:P2 n c t T K g) (h0:ent g t c≠0∨ent g (t+1) c≠0) (hT:T < 100000000) (hV:2 * (K * K) < 100000000) (hK:K < 100000000) (hF:K < F) :
 ∃ g3,colF F g c t=some (g3,t+1)∧(∀ i,i < t→∀ k,(ent g3 i k).natAbs≤T+T * (2 * (K * K)))∧∀ k,(ent g3 t k).natAbs≤2 * (K * K)∧(ent g3 (t+1) k).natAbs≤2 * (K * K):=by
 refine colF_run (n:=n) (m:=t+2) (P:=P2 n c t T K) (Q:=fun g3=>(∀ i,i < t→∀ k,(ent g3 i k).natAbs≤T+T * (2 * (K * K)))∧∀ k,(ent g3 t k).natAbs≤2 * (K * K)∧(ent g3 (t+1) k).natAbs≤2 * (K * K)) (by omega) (fun g1 e=>?_) (fun g1 k e a b hp=>?_) F g h ?_
 ·refine ⟨e.rect,e.len,colOk_of fun i hi=>?_⟩
  have:=e.len
  by_cases e1:i=t
  ·subst e1; have:=e.u0; omega
  ·by_cases e2:i=t+1
   ·subst e2; have:=e.u1; omega
   ·have:=e.top i (by omega) c; omega
 ·have hl:=e.len
  obtain ⟨p0,-⟩:=pickFT_least hp
  have hsw:ent (Go.Proofs.YtcglmebcfeoedaaGreatDoor.swp g1 t k) t c≠0:=by
   rw [ent_swp (by omega) (by omega)]
   by_cases e1:t=k
   ·rw [if_pos e1,e1]; exact p0
   ·rw [if_neg e1,if_pos rfl]; exact p0
  obtain ⟨g2,k1,k2,k3⟩:=(e.swp a b).elim hsw hV hK
  have e1:t+2 - (t+1)=1:=by omega
  rw [e1]
  refine ⟨g2,k1,fun _=>k2,fun _ h9=>⟨smB_of (by have:=k2.u0; omega), ?_⟩⟩
  obtain ⟨g3,q1,q2,q3⟩:=finS_ok k2.rect (by have:=k2.len; omega) h9 hT hV k2.top k2.v0
  exact ⟨g3,q1,q2,fun q=>⟨by rw [q3 t (Nat.le_refl _)]; exact k2.v0 q,by rw [q3 (t+1) (by omega)]; exact k2.v1 q⟩⟩
 ·rcases h0 with h0 | h0
  ·exact ⟨t,Nat.le_refl _,by omega,h0,by have:=h.u0; omega⟩
  ·exact ⟨t+1,by omega,by omega,h0,by have:=h.u1; omega⟩
def shR (s:List (List Int)) (i:Nat):List Int:=[ent s i 0 - (ent s i 0).fdiv (ent s 0 0) * ent s 0 0,ent s i 1+(((ent s i 0).fdiv (ent s 0 0)).natAbs:Int) * ent s 0 1]
def shE (s:List (List Int)):List (List Int):=[rowAt s 0,shR s 1,shR s 2]
def shK (K:Nat) (s:List (List Int)):Bool:=decide (ent s 0 1≤K) && decide (ent s 1 1≤K) && decide (ent s 2 1≤K)
def sh (K:Nat):Nat→List (List Int)→Bool
 | 0,_=>false
 | f+1,s=>shK K s && match pickFT s 0 0 3 with
   | none=>true
   | some k=>shK K (shE (swp s 0 k)) && ((decide (ent (shE (swp s 0 k)) 1 0=0) && decide (ent (shE (swp s 0 k)) 2 0=0)) || sh K f (shE (swp s 0 k)))
theorem sh_range:((List.range 19).all fun a=>(List.range 19).all fun b=>(List.range 19).all fun c=>sh 297 6 [[(a:Int) - 9,9],[(b:Int) - 9,9],[(c:Int) - 9,9]])=true:=by decide +kernel
theorem sh_all {a b c:Int} (ha:a.natAbs≤9) (hb:b.natAbs≤9) (hc:c.natAbs≤9):sh 297 6 [[a,9],[b,9],[c,9]]=true:=by
 have h:=List.all_eq_true.1 (List.all_eq_true.1 (List.all_eq_true.1 sh_range (a+9).toNat (List.mem_range.2 (by omega))) (b+9).toNat (List.mem_range.2 (by omega))) (c+9).toNat (List.mem_range.2 (by omega))
 rw [show (((a+9).toNat:Nat):Int) - 9=a by omega,show (((b+9).toNat:Nat):Int) - 9=b by omega,show (((c+9).toNat:Nat):Int) - 9=c by omega] at h
 exact h
structure ShR (c:Nat) (g s:List (List Int)):Prop where
 lg:g.length=3
 ls:s.length=3
 x:∀ i,i < 3→ent s i 0=ent g i c
 b:∀ i,i < 3→∀ k,((ent g i k).natAbs:Int)≤ent s i 1
structure P3 (n c K:Nat) (g:List (List Int)):Prop where
 rect:Rect n g
 sh:∃ (s:List (List Int)) (f:Nat),ShR c g s∧sh K f s=true
theorem ShR.le {c K:Nat} {g s:List (List Int)} (h:ShR c g s) (k:shK K s=true):∀ i,i < 3→∀ k,(ent g i k).natAbs≤K:=fun i hi q=>by
 unfold shK at k
 simp only [Bool.and_eq_true,decide_eq_true_eq] at k
 have h9:=h.b i hi q
 have:i=0∨i=1∨i=2:=by omega
 rcases this with rfl | rfl | rfl <;> omega
theorem ShR.swp {c k:Nat} {g s:List (List Int)} (h:ShR c g s) (hk:k < 3):ShR c (swp g 0 k) (swp s 0 k):=by
 have h1:=h.lg
 have h2:=h.ls
 have hg:=fun r q=>ent_swp (g:=g) (i:=0) (j:=k) (by omega) (by omega) r q
 have hs:=fun r q=>ent_swp (g:=s) (i:=0) (j:=k) (by omega) (by omega) r q
 refine ⟨by rw [swp_len]; exact h1,by rw [swp_len]; exact h2,fun i hi=>?_,fun i hi q=>?_⟩
 ·rw [hg,hs]
  split
  ·exact h.x 0 (by omega)
  ·split
   ·exact h.x k hk
   ·exact h.x i hi
 ·rw [hg,hs]
  split
  ·exact h.b 0 (by omega) q
  ·split
   ·exact h.b k hk q
   ·exact h.b i hi q
theorem ShR.elim {n c K:Nat} {g s:List (List Int)} (hr:Rect n g) (h:ShR c g s) (h0:ent g 0 c≠0) (h1:shK K s=true) (h2:shK K (shE s)=true) (hK:K < 100000000):∃ g2,elimTo g c 0 1 2=some g2∧ShR c g2 (shE s):=by
 have hl:=h.lg
 have hle:=h.le h1
 have hx0:=h.x 0 (by omega)
 have hb0:=h.b 0 (by omega) c
 have hqs:∀ i,i < 3→quo g c 0 i=(ent s i 0).fdiv (ent s 0 0):=fun i hi=>by unfold quo; rw [h.x i hi,hx0]
 have hsR:∀ i,0 < i→i < 3→ent (shE s) i 0=ent s i 0 - (ent s i 0).fdiv (ent s 0 0) * ent s 0 0∧ent (shE s) i 1=ent s i 1+(((ent s i 0).fdiv (ent s 0 0)).natAbs:Int) * ent s 0 1:=fun i a b=>by
  have:i=1∨i=2:=by omega
  rcases this with rfl | rfl <;> exact ⟨rfl,rfl⟩
 have hq:∀ i,0 < i→i < 3→(quo g c 0 i).natAbs≤K:=fun i a b=>by
  have h3:=(hsR i a b).2
  have h4:ent (shE s) i 1≤K:=by
   unfold shK at h2
   simp only [Bool.and_eq_true,decide_eq_true_eq] at h2
   have:i=1∨i=2:=by omega
   rcases this with rfl | rfl <;> omega
  have h5:(0:Int)≤ent s i 1:=by have:=h.b i b c; omega
  rw [hqs i b]
  have h6:(1:Int)≤ent s 0 1:=by omega
  have h7:=Int.mul_le_mul_of_nonneg_left h6 (show (0:Int)≤(((ent s i 0).fdiv (ent s 0 0)).natAbs:Int) by omega)
  omega
 obtain ⟨g2,h3⟩:=elimTo_ok (s:=1) hr (by omega) h0 (smB_of (by have:=hle 0 (by omega) c; omega)) 2 (by omega) (.inl (by omega)) (fun i a b=>⟨smB_of (by have:=hle i (by omega) c; omega),fun _ k=>okT_of (by have:=hq i (by omega) (by omega); omega) (by have:=hle 0 (by omega) k; omega) (by have:=hle i (by omega) k; omega)⟩)
 have e:=elimTo_ent hr (by omega) 2 g2 h3 (by omega) (.inl (by omega))
 obtain ⟨hr2,hl2⟩:=elimTo_keeps hr 2 g2 h3 (by omega)
 refine ⟨g2,h3,by omega,rfl,fun i hi=>?_,fun i hi q=>?_⟩
 ·rw [e]
  by_cases e1:i=0
  ·subst e1; rw [if_neg (by omega)]; exact hx0
  ·rw [if_pos (by omega),(hsR i (by omega) hi).1,hqs i hi,h.x i hi,hx0]
 ·rw [e]
  by_cases e1:i=0
  ·subst e1; rw [if_neg (by omega)]; exact h.b 0 (by omega) q
  ·rw [if_pos (by omega),(hsR i (by omega) hi).2,hqs i hi]
   have a1:=h.b i hi q
   have a2:=h.b 0 (by omega) q
   generalize (ent s i 0).fdiv (ent s 0 0)=z at *
   have a3:=Int.mul_le_mul_of_nonneg_left a2 (show (0:Int)≤(z.natAbs:Int) by omega)
   have a4:((z * ent g 0 q).natAbs:Int)=(z.natAbs:Int) * ((ent g 0 q).natAbs:Int):=by rw [Int.natAbs_mul]; rfl
   omega
theorem colF_three {n c K F:Nat} {g:List (List Int)} (hr:Rect n g) {s:List (List Int)} {f0:Nat} (hs:ShR c g s) (hsh:sh K f0 s=true) (hK:K < 100000000) (hF:K < F) (h0:∃ i,i < 3∧ent g i c≠0) :
 ∃ g3,colF F g c 0=some (g3,1)∧∀ i,i < 3→∀ k,(ent g3 i k).natAbs≤K:=by
 have top:∀ g,P3 n c K g→∀ i,i < 3→∀ k,(ent g i k).natAbs≤K:=fun g ⟨_,s,f,a,b⟩=>by
  cases f with
  | zero=>cases b
  | succ f=>rw [sh,Bool.and_eq_true] at b; exact a.le b.1
 refine colF_run (n:=n) (m:=3) (P:=P3 n c K) (Q:=fun g3=>∀ i,i < 3→∀ k,(ent g3 i k).natAbs≤K) (by omega) (fun g1 e=>?_) (fun g1 k e a b hp=>?_) F g ⟨hr,s,f0,hs,hsh⟩ ?_
 ·obtain ⟨s,f,h,-⟩:=e.sh
  exact ⟨e.rect,h.lg,colOk_of fun i hi=>by have:=top g1 e i (by rw [← h.lg]; exact hi) c; omega⟩
 ·obtain ⟨hr1,s,f,hsr,hf⟩:=e
  cases f with
  | zero=>cases hf
  | succ f=>
    have hl:=hsr.lg
    rw [sh,Bool.and_eq_true] at hf
    obtain ⟨hf1,hf2⟩:=hf
    rw [← pickFT_congr (g:=g1) (s:=s) (c:=c) (d:=0) (fun i a b=>(hsr.x i (by omega)).symm),hp] at hf2
    replace hf2:(shK K (shE (swp s 0 k)) && ((decide (ent (shE (swp s 0 k)) 1 0=0) && decide (ent (shE (swp s 0 k)) 2 0=0)) || sh K f (shE (swp s 0 k))))=true:=hf2
    rw [Bool.and_eq_true,Bool.or_eq_true,Bool.and_eq_true,decide_eq_true_eq,decide_eq_true_eq] at hf2
    obtain ⟨hf2,hf3⟩:=hf2
    obtain ⟨p0,-⟩:=pickFT_least hp
    have hsw:ent (Go.Proofs.YtcglmebcfeoedaaGreatDoor.swp g1 0 k) 0 c≠0:=by
     rw [ent_swp (by omega) (by omega)]
     by_cases e1:0=k
     ·rw [if_pos e1,e1]; exact p0
     ·rw [if_neg e1,if_pos rfl]; exact p0
    have hsr2:=hsr.swp b
    have hk1:shK K (swp s 0 k)=true:=by
     have hs9:=fun r q=>ent_swp (g:=s) (i:=0) (j:=k) (by have:=hsr.ls; omega) (by have:=hsr.ls; omega) r q
     unfold shK at hf1 ⊢
     simp only [Bool.and_eq_true,decide_eq_true_eq] at hf1 ⊢
     rw [hs9,hs9,hs9]
     have:k=0∨k=1∨k=2:=by omega
     rcases this with rfl | rfl | rfl <;> simp <;> omega
    obtain ⟨g2,k1,k2⟩:=hsr2.elim (swp_rect hr1) hsw hk1 hf2 hK
    have hr2:=(elimTo_keeps (swp_rect hr1) 2 g2 k1 (by rw [swp_len]; omega)).1
    have hle:=k2.le hf2
    refine ⟨g2,k1,fun ⟨i,a1,a2,a3⟩=>?_,fun _ h9=>⟨smB_of (by have:=hle 0 (by omega) c; omega), ?_⟩⟩
    ·rcases hf3 with ⟨h3,h4⟩ | h3
     ·exfalso
      have h5:=k2.x i a2
      rw [← h5] at a3
      have:i=1∨i=2:=by omega
      rcases this with rfl | rfl
      ·exact a3 h3
      ·exact a3 h4
     ·exact ⟨hr2,_,f,k2,h3⟩
    ·obtain ⟨g3,q1,q2,q3⟩:=finS_ok (T:=0) (V:=K) hr2 (by have:=k2.lg; omega) h9 (by omega) hK (fun i a=>absurd a (Nat.not_lt_zero _)) (hle 0 (by omega))
     exact ⟨g3,q1,fun i hi k=>by rw [q3 i (Nat.zero_le _)]; exact hle i hi k⟩
 ·obtain ⟨i,a,b⟩:=h0
  exact ⟨i,Nat.zero_le _,a,b,by have:=top g ⟨hr,s,f0,hs,hsh⟩ i a c; omega⟩
end Go.Proofs.YtcglmebcfeoedaaGreatDoor
