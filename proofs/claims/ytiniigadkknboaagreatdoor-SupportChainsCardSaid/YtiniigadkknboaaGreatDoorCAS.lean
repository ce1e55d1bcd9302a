/- Contracts and laws: CAS. -/
import Derived.Test.YtiniigadkknboaaGreatDoorCAR

namespace Go.Proofs.YtiniigadkknboaaGreatDoor
open Go.RowKit Go.Lib
theorem ent_lt {n i k:Nat} {g:List (List Int)} (h:Rect n g) (hk:n≤k):ent g i k=0:=by
 unfold ent rowAt
 cases e:g[i]? with
 | none=>simp
 | some r=>rw [Option.getD_some,List.getElem?_eq_none (by rw [h r (List.mem_of_getElem? e)]; exact hk)]; rfl
theorem ent_set {g:List (List Int)} {i:Nat} {r:List Int} (hi:i < g.length) (j k:Nat):ent (g.set i r) j k=if j=i then (r[k]?).getD 0 else ent g j k:=by
 unfold ent rowAt
 rw [List.getElem?_set]
 by_cases e:i=j
 ·subst e; rw [if_pos rfl,if_pos hi,if_pos rfl,Option.getD_some]
 ·rw [if_neg e,if_neg (fun h=>e h.symm)]
theorem ent_swp {g:List (List Int)} {i j:Nat} (hi:i < g.length) (hj:j < g.length) (r k:Nat):ent (swp g i j) r k=if r=j then ent g i k else if r=i then ent g j k else ent g r k:=by
 unfold ent rowAt
 rw [swp_get g i j (List.getElem?_eq_getElem hi) (List.getElem?_eq_getElem hj)]
 by_cases e:r=j
 ·rw [if_pos e,if_pos e,List.getElem?_eq_getElem hi]
 ·rw [if_neg e,if_neg e]
  by_cases e2:r=i
  ·rw [if_pos e2,if_pos e2,List.getElem?_eq_getElem hj]
  ·rw [if_neg e2,if_neg e2]
theorem takeS_get {q:Int} {xs ys zs:List Int} (h:takeSW q xs ys=some zs) (hl:ys.length=xs.length) (k:Nat):(zs[k]?).getD 0=(xs[k]?).getD 0 - q * (ys[k]?).getD 0:=by
 unfold takeSW at h
 split at h
 ·rename_i h0; injection h with h; rw [h,h0,Int.zero_mul,Int.sub_zero]
 ·obtain ⟨h1,h2⟩:=takeLW_spec q xs ys zs h
  by_cases hk:k < xs.length
  ·obtain ⟨y,hy,-,hz⟩:=h2 k _ (List.getElem?_eq_getElem hk)
   rw [hz,hy,List.getElem?_eq_getElem hk]; rfl
  ·rw [List.getElem?_eq_none (by omega),List.getElem?_eq_none (by omega),List.getElem?_eq_none (by omega)]; simp
theorem takeL_some {q:Int}:∀ {xs ys:List Int},ys.length=xs.length→(∀ k:Nat,okW q ((xs[k]?).getD 0) ((ys[k]?).getD 0)=true)→∃ zs,takeLW q xs ys=some zs
 | [],ys,_,_=>⟨[],rfl⟩
 | x :: xs,[],h,_=>by simp at h
 | x :: xs,y :: ys,h,hk=>by
   obtain ⟨zs,hz⟩:=takeL_some (q:=q) (xs:=xs) (ys:=ys) (by simpa using h) (fun k=>by simpa using hk (k+1))
   have h0:=hk 0
   simp only [List.getElem?_cons_zero,Option.getD_some] at h0
   exact ⟨_,by rw [takeLW,if_pos h0,hz]; rfl⟩
theorem takeS_some {q:Int} {xs ys:List Int} (hl:ys.length=xs.length) (hk:q≠0→∀ k:Nat,okW q ((xs[k]?).getD 0) ((ys[k]?).getD 0)=true):∃ zs,takeSW q xs ys=some zs:=by
 unfold takeSW
 split
 ·exact ⟨_,rfl⟩
 ·rename_i h; exact takeL_some hl (hk h)
theorem rowAt_len {n i:Nat} {g:List (List Int)} (h:Rect n g) (hi:i < g.length):(rowAt g i).length=n:=by rw [rowAt_eq hi]; exact h.row hi
def quo (g:List (List Int)) (c t i:Nat):Int:=(ent g i c).fdiv (ent g t c)
theorem elim1_ent {n:Nat} {g g':List (List Int)} {c t i:Nat} (h:elim1W g c t i=some g') (hr:Rect n g) (hi:i < g.length) (ht:t < g.length) (j k:Nat):ent g' j k=if j=i then ent g i k - quo g c t i * ent g t k else ent g j k:=by
 obtain ⟨-,-,-,r,h1,rfl⟩:=elim1W_some h
 rw [ent_set hi]
 by_cases e:j=i
 ·rw [if_pos e,if_pos e]; exact takeS_get h1 (by rw [rowAt_len hr hi,rowAt_len hr ht]) k
 ·rw [if_neg e,if_neg e]
theorem elim1_ok {n:Nat} {g:List (List Int)} {c t i:Nat} (hr:Rect n g) (hi:i < g.length) (ht:t < g.length) (h0:ent g t c≠0) (h1:smW (ent g i c)=true) (h2:smW (ent g t c)=true) (h3:quo g c t i≠0→∀ k,okW (quo g c t i) (ent g i k) (ent g t k)=true):∃ g',elim1W g c t i=some g':=by
 obtain ⟨zs,hz⟩:=takeS_some (q:=quo g c t i) (xs:=rowAt g i) (ys:=rowAt g t) (by rw [rowAt_len hr hi,rowAt_len hr ht]) h3
 unfold elim1W
 rw [if_pos (by simp only [Bool.and_eq_true,bne_iff_ne,ne_eq]; exact ⟨⟨h1,h2⟩,h0⟩)]
 exact ⟨_,by unfold quo at hz; rw [hz]; rfl⟩
theorem elimTo_ent {n:Nat} {g:List (List Int)} {c t s:Nat} (hr:Rect n g) (ht:t < g.length):∀ (j:Nat) (g':List (List Int)),elimToW g c t s j=some g'→s+j≤g.length→(t < s∨s+j≤t)→∀ i k,ent g' i k=if s≤i∧i < s+j then ent g i k - quo g c t i * ent g t k else ent g i k
 | 0,g',h,_,_,i,k=>by injection h with h; subst h; rw [if_neg (by omega)]
 | j+1,g',h,hl,hts,i,k=>by
   obtain ⟨g1,h1,h2⟩:=Option.bind_eq_some_iff.1 h
   have ih:=elimTo_ent hr ht j g1 h1 (by omega) (by omega)
   obtain ⟨hr1,hl1⟩:=elimToW_keeps hr j g1 h1 (by omega)
   have e1:=elim1_ent h2 hr1 (by omega) (by omega) i k
   have et:∀ k,ent g1 t k=ent g t k:=fun k=>by rw [ih t k,if_neg (by omega)]
   have es:∀ k,ent g1 (s+j) k=ent g (s+j) k:=fun k=>by rw [ih (s+j) k,if_neg (by omega)]
   rw [e1]
   by_cases e:i=s+j
   ·rw [if_pos e,if_pos (by omega),e]
    unfold quo
    rw [et,es,et,es]
   ·rw [if_neg e,ih i k]
    by_cases e2:s≤i∧i < s+j
    ·rw [if_pos e2,if_pos (by omega)]
    ·rw [if_neg e2,if_neg (by omega)]
theorem elimTo_ok {n:Nat} {g:List (List Int)} {c t s:Nat} (hr:Rect n g) (ht:t < g.length) (h0:ent g t c≠0) (h2:smW (ent g t c)=true):∀ j,s+j≤g.length→(t < s∨s+j≤t)→(∀ i,s≤i→i < s+j→smW (ent g i c)=true∧(quo g c t i≠0→∀ k,okW (quo g c t i) (ent g i k) (ent g t k)=true))→∃ g',elimToW g c t s j=some g'
 | 0,_,_,_=>⟨g,rfl⟩
 | j+1,hl,hts,hb=>by
   obtain ⟨g1,h1⟩:=elimTo_ok hr ht h0 h2 j (by omega) (by omega) (fun i a b=>hb i a (by omega))
   have ih:=elimTo_ent hr ht j g1 h1 (by omega) (by omega)
   obtain ⟨hr1,hl1⟩:=elimToW_keeps hr j g1 h1 (by omega)
   have et:∀ k,ent g1 t k=ent g t k:=fun k=>by rw [ih t k,if_neg (by omega)]
   have es:∀ k,ent g1 (s+j) k=ent g (s+j) k:=fun k=>by rw [ih (s+j) k,if_neg (by omega)]
   have hbj:=hb (s+j) (by omega) (by omega)
   have eq:quo g1 c t (s+j)=quo g c t (s+j):=by unfold quo; rw [et,es]
   obtain ⟨g2,h3⟩:=elim1_ok (c:=c) (i:=s+j) (t:=t) hr1 (by omega) (by omega) (by rw [et]; exact h0) (by rw [es]; exact hbj.1) (by rw [et]; exact h2) (fun hq k=>by rw [eq,et,es]; exact hbj.2 (by rw [← eq]; exact hq) k)
   exact ⟨g2,by rw [elimToW,h1]; exact h3⟩
theorem restT_iff {n:Nat} {g:List (List Int)} {c t s:Nat} (hr:Rect n g) (ht:t < g.length):∀ (j:Nat) (g':List (List Int)),elimToW g c t s j=some g'→s+j≤g.length→t < s→(restT g c t s j=true ↔ ∃ i,s≤i∧i < s+j∧(ent g i c).fmod (ent g t c)≠0)
 | 0,g',h,_,_=>by
   rw [restT]
   exact ⟨fun h=>(by cases h),fun ⟨i,a,b,_⟩=>(by omega)⟩
 | j+1,g',h,hl,hts=>by
   obtain ⟨g1,h1,h2⟩:=Option.bind_eq_some_iff.1 h
   have ih:=restT_iff hr ht j g1 h1 (by omega) hts
   have ie:=elimTo_ent hr ht j g1 h1 (by omega) (.inl hts)
   have et:ent g1 t c=ent g t c:=by rw [ie t c,if_neg (by omega)]
   have es:ent g1 (s+j) c=ent g (s+j) c:=by rw [ie (s+j) c,if_neg (by omega)]
   rw [restT,h1,Bool.or_eq_true,ih]
   show (_∨(!decide ((ent g1 (s+j) c).fmod (ent g1 t c)=0))=true) ↔ _
   rw [et,es,Bool.not_eq_true',decide_eq_false_iff_not]
   constructor
   ·rintro (⟨i,a,b,h⟩ | h)
    ·exact ⟨i,a,by omega,h⟩
    ·exact ⟨s+j,by omega,by omega,h⟩
   ·rintro ⟨i,a,b,h⟩
    by_cases e:i=s+j
    ·subst e; exact .inr h
    ·exact .inl ⟨i,a,by omega,h⟩
theorem ent_neg {g:List (List Int)} {t:Nat} (ht:t < g.length) (j k:Nat):ent (g.set t ((rowAt g t).map fun x=>-x)) j k=if j=t then -ent g t k else ent g j k:=by
 rw [ent_set ht]
 by_cases e:j=t
 ·rw [if_pos e,if_pos e,List.getElem?_map]
  unfold ent
  cases (rowAt g t)[k]? <;> simp
 ·rw [if_neg e,if_neg e]
inductive Uni (m:Nat) (E:Nat→Nat→Int):(Nat→Nat→Int)→Prop
 | refl:Uni m E E
 | op {E1 E2:Nat→Nat→Int} (i t:Nat) (q:Int):i < m→t < m→i≠t→Uni m E E1→(∀ r k,E2 r k=if r=i then E1 i k - q * E1 t k else E1 r k)→Uni m E E2
 | swap {E1 E2:Nat→Nat→Int} (i j:Nat):i < m→j < m→Uni m E E1→(∀ r k,E2 r k=if r=j then E1 i k else if r=i then E1 j k else E1 r k)→Uni m E E2
 | neg {E1 E2:Nat→Nat→Int} (i:Nat):i < m→Uni m E E1→(∀ r k,E2 r k=if r=i then -E1 i k else E1 r k)→Uni m E E2
theorem Uni.trans {m:Nat} {E F H:Nat→Nat→Int} (h:Uni m E F) (k:Uni m F H):Uni m E H:=by
 induction k with
 | refl=>exact h
 | op i t q a b c _ e ih=>exact .op i t q a b c ih e
 | swap i j a b _ e ih=>exact .swap i j a b ih e
 | neg i a _ e ih=>exact .neg i a ih e
theorem uni_swp {g:List (List Int)} {i j:Nat} (hi:i < g.length) (hj:j < g.length):Uni g.length (ent g) (ent (swp g i j)):=.swap i j hi hj .refl fun r k=>ent_swp hi hj r k
theorem uni_elimTo {n:Nat} {g:List (List Int)} {c t s:Nat} (hr:Rect n g) (ht:t < g.length):∀ (j:Nat) (g':List (List Int)),elimToW g c t s j=some g'→s+j≤g.length→(t < s∨s+j≤t)→Uni g.length (ent g) (ent g')
 | 0,g',h,_,_=>by injection h with h; subst h; exact .refl
 | j+1,g',h,hl,hts=>by
   obtain ⟨g1,h1,h2⟩:=Option.bind_eq_some_iff.1 h
   obtain ⟨hr1,hl1⟩:=elimToW_keeps hr j g1 h1 (by omega)
   exact .op (s+j) t (quo g1 c t (s+j)) (by omega) ht (by omega) (uni_elimTo hr ht j g1 h1 (by omega) (by omega)) (fun r k=>elim1_ent h2 hr1 (by omega) (by omega) r k)
theorem uni_finS {n:Nat} {g g':List (List Int)} {c t:Nat} (hr:Rect n g) (ht:t < g.length) (h:finSW g t c=some g'):Uni g.length (ent g) (ent g')∧Rect n g'∧g'.length=g.length:=by
 unfold finSW at h
 split at h
 ·split at h
  ·have hr2:Rect n (g.set t ((rowAt g t).map fun x=>-x)):=hr.set (by rw [List.length_map,rowAt_len hr ht])
   have h1:=uni_elimTo hr2 (by rw [List.length_set]; exact ht) t g' h (by rw [List.length_set]; omega) (.inr (by omega))
   have h2:=elimToW_keeps hr2 t g' h (by rw [List.length_set]; omega)
   rw [List.length_set] at h1 h2
   exact ⟨Uni.trans (.neg t ht .refl fun r k=>ent_neg ht r k) h1,h2⟩
  ·cases h
 ·exact ⟨uni_elimTo hr ht t g' h (by omega) (.inr (by omega)),elimToW_keeps hr t g' h (by omega)⟩
theorem uni_colF {n c t:Nat}:∀ (F:Nat) (g g':List (List Int)) (t':Nat),Rect n g→t < g.length→colF F g c t=some (g',t')→Uni g.length (ent g) (ent g')∧Rect n g'∧g'.length=g.length∧(t'=t∨t'=t+1)
 | 0,_,_,_,_,_,h=>by cases h
 | F+1,g,g',t',hr,ht,h=>by
   rw [colF_succ h] at h
   cases hp:pickFT g c t (g.length - t) with
   | none=>
     rw [hp] at h; injection h with h; injection h with h1 h2; subst h1; subst h2
     exact ⟨.refl,hr,rfl,.inl rfl⟩
   | some k=>
     rw [hp] at h
     obtain ⟨g2,h1,h2⟩:=Option.bind_eq_some_iff.1 h
     have hk:=pickFT_lt _ _ hp
     have u1:=uni_swp (g:=g) (i:=t) (j:=k) ht (by omega)
     have hr1:Rect n (swp g t k):=swp_rect hr
     have hl1:=swp_len g t k
     have u2:=uni_elimTo hr1 (by omega) _ g2 h1 (by omega) (.inl (by omega))
     obtain ⟨hr2,hl2⟩:=elimToW_keeps hr1 _ g2 h1 (by omega)
     rw [hl1] at u2 hl2
     have u3:=u1.trans u2
     split at h2
     ·obtain ⟨u4,a,b,e⟩:=uni_colF F g2 g' t' hr2 (by omega) h2
      rw [hl2] at u4 b
      exact ⟨u3.trans u4,a,b,e⟩
     ·split at h2
      ·obtain ⟨g3,h3,h4⟩:=Option.map_eq_some_iff.1 h2
       injection h4 with h4 h5; subst h4; subst h5
       obtain ⟨u4,a,b⟩:=uni_finS hr2 (by omega) h3
       rw [hl2] at u4 b
       exact ⟨u3.trans u4,a,b,.inr rfl⟩
      ·cases h2
inductive Spn (m:Nat) (E:Nat→Nat→Int):(Nat→Int)→Prop
 | zero {x:Nat→Int}:(∀ k,x k=0)→Spn m E x
 | add {x y:Nat→Int} (i:Nat) (q:Int):i < m→Spn m E x→(∀ k,y k=x k+q * E i k)→Spn m E y
theorem Spn.row {m:Nat} {E:Nat→Nat→Int} {i:Nat} (h:i < m):Spn m E (E i):=.add (x:=fun _=>0) i 1 h (.zero fun _=>rfl) fun k=>by omega
theorem Spn.congr {m:Nat} {E:Nat→Nat→Int} {x y:Nat→Int} (h:Spn m E x) (e:∀ k,y k=x k):Spn m E y:=by
 rw [show y=x from funext e]; exact h
theorem Spn.addmul {m:Nat} {E:Nat→Nat→Int} {x y:Nat→Int} (q:Int) (h:Spn m E x) (k:Spn m E y):Spn m E fun j=>x j+q * y j:=by
 induction k with
 | zero e=>exact h.congr fun j=>by rw [e]; omega
 | add i p a _ e ih=>exact .add i (q * p) a ih fun j=>by show _=_+_; rw [e]; grind
theorem Spn.sub {m:Nat} {E F:Nat→Nat→Int} {x:Nat→Int} (h:∀ i,i < m→Spn m F (E i)) (k:Spn m E x):Spn m F x:=by
 induction k with
 | zero e=>exact .zero e
 | add i q a _ e ih=>exact (ih.addmul q (h i a)).congr e
theorem uni_sp {m:Nat} {E F:Nat→Nat→Int} (h:Uni m E F):∀ x,Spn m E x ↔ Spn m F x:=by
 induction h with
 | refl=>exact fun _=>Iff.rfl
 | @op E1 E2 i t q hi ht hit _ e ih=>
   refine fun x=>(ih x).trans ⟨fun h=>h.sub fun r hr=>?_,fun h=>h.sub fun r hr=>?_⟩
   ·by_cases e1:r=i
    ·subst e1
     refine ((Spn.row hi).addmul q (Spn.row (E:=E2) ht)).congr fun k=>?_
     rw [e r k,if_pos rfl,e t k,if_neg (fun h=>hit h.symm)]; omega
    ·exact (Spn.row hr).congr fun k=>by rw [e r k,if_neg e1]
   ·by_cases e1:r=i
    ·subst e1
     refine ((Spn.row hi).addmul (-q) (Spn.row (E:=E1) ht)).congr fun k=>?_
     rw [e r k,if_pos rfl,Int.neg_mul]; omega
    ·exact (Spn.row hr).congr fun k=>by rw [e r k,if_neg e1]
 | @swap E1 E2 i j hi hj _ e ih=>
   refine fun x=>(ih x).trans ⟨fun h=>h.sub fun r hr=>?_,fun h=>h.sub fun r hr=>?_⟩
   ·by_cases e1:r=i
    ·subst e1; exact (Spn.row hj).congr fun k=>by rw [e j k,if_pos rfl]
    ·by_cases e2:r=j
     ·subst e2; exact (Spn.row hi).congr fun k=>by rw [e i k,if_neg (fun h=>e1 h.symm),if_pos rfl]
     ·exact (Spn.row hr).congr fun k=>by rw [e r k,if_neg e2,if_neg e1]
   ·by_cases e2:r=j
    ·subst e2; exact (Spn.row hi).congr fun k=>by rw [e r k,if_pos rfl]
    ·by_cases e1:r=i
     ·subst e1; exact (Spn.row hj).congr fun k=>by rw [e r k,if_neg e2,if_pos rfl]
     ·exact (Spn.row hr).congr fun k=>by rw [e r k,if_neg e2,if_neg e1]
 | @neg E1 E2 i hi _ e ih=>
   refine fun x=>(ih x).trans ⟨fun h=>h.sub fun r hr=>?_,fun h=>h.sub fun r hr=>?_⟩
   ·by_cases e1:r=i
    ·subst e1
     exact (Spn.addmul (x:=fun _=>0) (-1) (.zero fun _=>rfl) (Spn.row (E:=E2) hi)).congr fun k=>by rw [e r k,if_pos rfl]; omega
    ·exact (Spn.row hr).congr fun k=>by rw [e r k,if_neg e1]
   ·by_cases e1:r=i
    ·subst e1
     exact (Spn.addmul (x:=fun _=>0) (-1) (.zero fun _=>rfl) (Spn.row (E:=E1) hi)).congr fun k=>by rw [e r k,if_pos rfl]; omega
    ·exact (Spn.row hr).congr fun k=>by rw [e r k,if_neg e1]
theorem cmpI_neg {a b:Int}:cmpI a b < 0 ↔ a < b:=by unfold cmpI; split <;> (try split) <;> omega
theorem pickFT_none {g:List (List Int)} {c t:Nat}:∀ {j:Nat},pickFT g c t j=none→∀ i,t≤i→i < t+j→ent g i c=0
 | 0,_,i,a,b=>by omega
 | j+1,h,i,a,b=>by
   rw [pickFT] at h
   unfold pickF1 at h
   split at h
   ·rename_i h0
    by_cases e:i=t+j
    ·rw [e]; exact h0
    ·exact pickFT_none h i a (by omega)
   ·split at h
    ·cases h
    ·split at h <;> cases h
theorem pickFT_zero {g:List (List Int)} {c t:Nat}:∀ {j:Nat},(∀ i,t≤i→i < t+j→ent g i c=0)→pickFT g c t j=none
 | 0,_=>rfl
 | j+1,h=>by
   rw [pickFT,pickFT_zero (fun i a b=>h i a (by omega))]
   unfold pickF1
   rw [if_pos (h (t+j) (by omega) (by omega))]
theorem pickFT_least {g:List (List Int)} {c t:Nat}:∀ {j k:Nat},pickFT g c t j=some k→ent g k c≠0∧∀ i,t≤i→i < t+j→ent g i c≠0→(ent g k c).natAbs≤(ent g i c).natAbs
 | 0,k,h=>by cases h
 | j+1,k,h=>by
   rw [pickFT] at h
   unfold pickF1 at h
   split at h
   ·rename_i h0
    obtain ⟨a,b⟩:=pickFT_least h
    refine ⟨a,fun i x y z=>?_⟩
    by_cases e:i=t+j
    ·rw [e] at z; exact absurd h0 z
    ·exact b i x (by omega) z
   ·rename_i h0
    split at h
    ·rename_i hn
     injection h with h; subst h
     refine ⟨h0,fun i x y z=>?_⟩
     by_cases e:i=t+j
     ·rw [e]; exact Nat.le_refl _
     ·exact absurd (pickFT_none hn i x (by omega)) z
    ·rename_i q hq
     obtain ⟨a,b⟩:=pickFT_least hq
     split at h
     ·rename_i hc
      rw [cmpI_neg] at hc
      injection h with h; subst h
      refine ⟨h0,fun i x y z=>?_⟩
      by_cases e:i=t+j
      ·rw [e]; exact Nat.le_refl _
      ·have:=b i x (by omega) z; omega
     ·rename_i hc
      rw [cmpI_neg] at hc
      injection h with h; subst h
      refine ⟨a,fun i x y z=>?_⟩
      by_cases e:i=t+j
      ·rw [e]; omega
      ·exact b i x (by omega) z
theorem fmod_lt {x p:Int} (h:p≠0):(x.fmod p).natAbs < p.natAbs:=by
 rcases Int.lt_or_gt_of_ne h with h | h
 ·have h1:x.fmod p=-((-x).fmod (-p)):=by rw [Int.neg_fmod_neg]; omega
  have h2:=Int.fmod_nonneg_of_pos (-x) (show 0 < -p by omega)
  have h3:=Int.fmod_lt_of_pos (-x) (show 0 < -p by omega)
  omega
 ·have h2:=Int.fmod_nonneg_of_pos x h
  have h3:=Int.fmod_lt_of_pos x h
  omega
theorem fdiv_le {x p:Int} (h:p≠0):(x.fdiv p).natAbs≤x.natAbs:=by
 have h1:∀ y q:Int,0 < q→(y.fdiv q).natAbs≤y.natAbs:=fun y q hq=>by
  have e:=Int.mul_fdiv_add_fmod y q
  have h2:=Int.fmod_nonneg_of_pos y hq
  have h3:=Int.fmod_lt_of_pos y hq
  generalize y.fdiv q=z at *
  generalize y.fmod q=f at *
  by_cases hz:0≤z
  ·have:z≤q * z:=by have:=Int.mul_le_mul_of_nonneg_right (show 1≤q by omega) hz; omega
   omega
  ·have:q * z+q≤z+1:=by
    have h4:=Int.mul_le_mul_of_nonneg_right (show 1≤q by omega) (show 0≤-(z+1) by omega)
    have:q * (-(z+1))=-(q * z) - q:=by grind
    omega
   omega
 rcases Int.lt_or_gt_of_ne h with h | h
 ·have:=h1 (-x) (-p) (by omega)
  rw [Int.neg_fdiv_neg] at this
  omega
 ·exact h1 x p h
theorem sub_fmod (x p:Int):x - x.fdiv p * p=x.fmod p:=by have:=Int.mul_fdiv_add_fmod x p; rw [Int.mul_comm]; omega
structure Done (g g':List (List Int)) (c t m:Nat):Prop where
 pos:0 < ent g' t c
 low:∀ i,t < i→i < m→ent g' i c=0
 up:∀ i,i < t→0≤ent g' i c∧ent g' i c < ent g' t c
 old:∀ k,(∀ i,t≤i→i < m→ent g i k=0)→(∀ i,t≤i→i < m→ent g' i k=0)∧∀ i,i < t→ent g' i k=ent g i k
theorem finS_done {n:Nat} {g g':List (List Int)} {c t:Nat} (hr:Rect n g) (ht:t < g.length) (h:finSW g t c=some g') (h0:ent g t c≠0) (hl:∀ i,t < i→i < g.length→ent g i c=0):Done g g' c t g.length:=by
 have key:∀ g1:List (List Int),Rect n g1→g1.length=g.length→0 < ent g1 t c→(∀ i k,ent g1 i k=if i=t then ent g1 t k else ent g i k)→(∀ k,ent g1 t k=ent g t k∨ent g1 t k=-ent g t k)→elimToW g1 c t 0 t=some g'→Done g g' c t g.length:=fun g1 hr1 hl1 hp he hs hel=>by
  have e:=elimTo_ent hr1 (by omega) t g' hel (by omega) (.inr (by omega))
  refine ⟨by rw [e,if_neg (by omega)]; exact hp,fun i a b=>by rw [e,if_neg (by omega),he,if_neg (by omega)]; exact hl i a b,fun i a=>?_,fun k hk=>⟨fun i a b=>?_,fun i a=>?_⟩⟩
  ·rw [e i,if_pos (by omega),e t,if_neg (by omega)]
   unfold quo
   rw [sub_fmod]
   exact ⟨Int.fmod_nonneg_of_pos _ hp,Int.fmod_lt_of_pos _ hp⟩
  ·rw [e i,if_neg (by omega),he]
   by_cases e1:i=t
   ·rw [if_pos e1]; have:=hk t (Nat.le_refl _) ht; rcases hs k with h | h <;> omega
   ·rw [if_neg e1]; exact hk i a b
  ·rw [e i,if_pos (by omega),he i,if_neg (by omega)]
   have:ent g1 t k=0:=by have:=hk t (Nat.le_refl _) ht; rcases hs k with h | h <;> omega
   rw [this,Int.mul_zero,Int.sub_zero]
 unfold finSW at h
 split at h
 ·rename_i hneg
  split at h
  ·refine key _ (hr.set (by rw [List.length_map,rowAt_len hr ht])) (List.length_set) (by rw [ent_neg ht,if_pos rfl]; omega) (fun i k=>?_) (fun k=>.inr (by rw [ent_neg ht,if_pos rfl])) h
   rw [ent_neg ht,ent_neg ht,if_pos rfl]
  ·cases h
 ·exact key g hr rfl (by omega) (fun i k=>by by_cases e:i=t <;> simp [e]) (fun k=>.inl rfl) h
theorem colF_shape {n c t:Nat}:∀ (F:Nat) (g g':List (List Int)) (t':Nat),Rect n g→t < g.length→colF F g c t=some (g',t')→(t'=t∧g'=g∧∀ i,t≤i→i < g.length→ent g i c=0)∨(t'=t+1∧Done g g' c t g.length)
 | 0,_,_,_,_,_,h=>by cases h
 | F+1,g,g',t',hr,ht,h=>by
   rw [colF_succ h] at h
   cases hp:pickFT g c t (g.length - t) with
   | none=>
     rw [hp] at h; injection h with h; injection h with h1 h2; subst h1; subst h2
     exact .inl ⟨rfl,rfl,fun i a b=>pickFT_none hp i a (by omega)⟩
   | some k=>
     rw [hp] at h
     obtain ⟨g2,h1,h2⟩:=Option.bind_eq_some_iff.1 h
     obtain ⟨hk1,hk2⟩:=pickFT_lt _ _ hp
     obtain ⟨p0,-⟩:=pickFT_least hp
     have hr1:Rect n (swp g t k):=swp_rect hr
     have hl1:=swp_len g t k
     have hs:=fun r q=>ent_swp (g:=g) (i:=t) (j:=k) ht (by omega) r q
     have he:=elimTo_ent hr1 (by omega) _ g2 h1 (by omega) (.inl (by omega))
     obtain ⟨hr2,hl2⟩:=elimToW_keeps hr1 _ g2 h1 (by omega)
     rw [hl1] at hl2
     have htc:ent g2 t c≠0:=by
      rw [he,if_neg (by omega),hs]
      by_cases e:t=k
      ·rw [if_pos e,e]; exact p0
      ·rw [if_neg e,if_pos rfl]; exact p0
     have hold:∀ q,(∀ i,t≤i→i < g.length→ent g i q=0)→(∀ i,t≤i→i < g.length→ent g2 i q=0)∧∀ i,i < t→ent g2 i q=ent g i q:=fun q hq=>by
      have h9:∀ i,t≤i→i < g.length→ent (swp g t k) i q=0:=fun i a b=>by
       rw [hs]
       split
       ·exact hq t (Nat.le_refl _) ht
       ·split
        ·exact hq k (by omega) (by omega)
        ·exact hq i a b
      refine ⟨fun i a b=>?_,fun i a=>?_⟩
      ·rw [he]
       split
       ·rw [h9 i a b,h9 t (Nat.le_refl _) ht]; omega
       ·exact h9 i a b
      ·rw [he,if_neg (by omega),hs,if_neg (by omega),if_neg (by omega)]
     have hrest:=restT_iff hr1 (by omega) _ g2 h1 (by omega) (by omega)
     have fin:∀ g3:List (List Int),Done g2 g3 c t g2.length→Done g g3 c t g.length:=fun g3 d=>by
      rw [hl2] at d
      refine ⟨d.pos,d.low,d.up,fun q hq=>?_⟩
      obtain ⟨a,b⟩:=hold q hq
      obtain ⟨a',b'⟩:=d.old q a
      exact ⟨a',fun i hi=>by rw [b' i hi,b i hi]⟩
     split at h2
     ·rcases colF_shape F g2 g' t' hr2 (by omega) h2 with ⟨-,-,h3⟩ | ⟨e,d⟩
      ·exact absurd (h3 t (Nat.le_refl _) (by omega)) htc
      ·exact .inr ⟨e,fin g' d⟩
     ·rename_i hnr
      split at h2
      ·obtain ⟨g3,h3,h4⟩:=Option.map_eq_some_iff.1 h2
       injection h4 with h4 h5; subst h4; subst h5
       refine .inr ⟨rfl,fin g3 (finS_done hr2 (by rw [hl2]; exact ht) h3 htc fun i a b=>?_)⟩
       have hi2:i < t+1+(g.length - (t+1)):=by rw [hl2] at b; clear hrest hnr he hs; omega
       rw [he,if_pos ⟨a,hi2⟩]
       unfold quo
       rw [sub_fmod]
       exact Classical.byContradiction fun h9=>hnr (hrest.2 ⟨i,a,hi2,h9⟩)
      ·cases h2
theorem okW_of {q x y:Int} (hq:q.natAbs < big) (hy:y.natAbs < big) (hx:x.natAbs < big):okW q x y=true:=wd_okW hq hy hx
theorem smW_of {x:Int} (hx:x.natAbs < big):smW x=true:=wd_smW hx
theorem colOkW_of {g:List (List Int)} {c:Nat} (h:∀ i,i < g.length→(ent g i c).natAbs < big):colOkW g c=true:=List.all_eq_true.2 fun i hi=>smW_of (h i (List.mem_range.1 hi))
theorem abs_step {x y q:Int} {A B C:Nat} (hx:x.natAbs≤A) (hq:q.natAbs≤B) (hy:y.natAbs≤C):(x - q * y).natAbs≤A+B * C:=by
 have:=Nat.mul_le_mul hq hy
 rw [← Int.natAbs_mul] at this
 omega
theorem colF_run {n c t m:Nat} {P Q:List (List Int)→Prop} (ht:t < m) (hP:∀ g,P g→Rect n g∧g.length=m∧colOkW g c=true)
 (hstep:∀ g k,P g→t≤k→k < m→pickFT g c t (m - t)=some k→∃ g2,elimToW (swp g t k) c t (t+1) (m - (t+1))=some g2∧((∃ i,t < i∧i < m∧ent g2 i c≠0)→P g2)∧((∀ i,t < i→i < m→ent g2 i c=0)→ent g2 t c≠0→smW (ent g2 t c)=true∧∃ g3,finSW g2 t c=some g3∧Q g3)) :
 ∀ (F:Nat) (g:List (List Int)),P g→(∃ i,t≤i∧i < m∧ent g i c≠0∧(ent g i c).natAbs < F)→∃ g3,colF F g c t=some (g3,t+1)∧Q g3
 | 0,_,_,⟨_,_,_,_,h⟩=>absurd h (Nat.not_lt_zero _)
 | F+1,g,hg,⟨i0,a0,b0,h0,hF⟩=>by
   obtain ⟨hr,hl,hok⟩:=hP g hg
   rw [colF,if_pos hok,hl]
   cases hp:pickFT g c t (m - t) with
   | none=>exact absurd (pickFT_none hp i0 a0 (by omega)) h0
   | some k=>
     obtain ⟨hk1,hk2⟩:=pickFT_lt _ _ hp
     obtain ⟨p0,pl⟩:=pickFT_least hp
     obtain ⟨g2,he,h1,h2⟩:=hstep g k hg hk1 (by omega) hp
     have hle:=pl i0 a0 (by omega) h0
     have hr1:Rect n (swp g t k):=swp_rect hr
     have hl1:=swp_len g t k
     have hs:=fun r q=>ent_swp (g:=g) (i:=t) (j:=k) (by omega) (by omega) r q
     have hent:=elimTo_ent hr1 (by omega) _ g2 he (by omega) (.inl (by omega))
     have htc:ent (swp g t k) t c=ent g k c:=by
      rw [hs]
      by_cases e:t=k
      ·rw [if_pos e,e]
      ·rw [if_neg e,if_pos rfl]
     have hrow:∀ i,t < i→i < m→ent g2 i c=(ent (swp g t k) i c).fmod (ent g k c):=fun i a b=>by
      rw [hent,if_pos (by omega)]
      unfold quo
      rw [sub_fmod,htc]
     have hm1:t+1+(m - (t+1))≤(swp g t k).length:=by omega
     have hrest:=restT_iff hr1 (by omega) _ g2 he hm1 (by omega)
     rw [htc] at hrest
     show ∃ g3,((elimToW (swp g t k) c t (t+1) (m - (t+1))).bind fun g2=>if restT (swp g t k) c t (t+1) (m - (t+1))=true then colF F g2 c t else if smW (ent g2 t c)=true then (finSW g2 t c).map fun g3=>(g3,t+1) else none)=some (g3,t+1)∧Q g3
     rw [he]
     by_cases hres:restT (swp g t k) c t (t+1) (m - (t+1))=true
     ·obtain ⟨i,a,b,hn⟩:=hrest.1 hres
      have b2:i < m:=by clear hrest hres; omega
      have a2:t < i:=by clear hrest hres; omega
      have e1:=hrow i a2 b2
      rw [← e1] at hn
      have hlt:=fmod_lt (x:=ent (swp g t k) i c) p0
      rw [← e1] at hlt
      obtain ⟨g3,k1,k2⟩:=colF_run ht hP hstep F g2 (h1 ⟨i,a2,b2,hn⟩) ⟨i,by clear hrest hres; omega,b2,hn,by clear hrest hres; omega⟩
      exact ⟨g3,by show (if _ then _ else _)=_; rw [if_pos hres]; exact k1,k2⟩
     ·have hz:∀ i,t < i→i < m→ent g2 i c=0:=fun i a b=>by
       rw [hrow i a b]
       have b2:i < t+1+(m - (t+1)):=by clear hrest hres; omega
       exact Classical.byContradiction fun h9=>hres (hrest.2 ⟨i,a,b2,h9⟩)
      have hc2:ent g2 t c≠0:=by
       have:¬ (t+1≤t∧t < t+1+(m - (t+1))):=by clear hrest hres; omega
       rw [hent,if_neg this,htc]; exact p0
      obtain ⟨k0,g3,k1,k2⟩:=h2 hz hc2
      exact ⟨g3,by show (if _ then _ else _)=_; rw [if_neg hres,if_pos k0,k1]; rfl,k2⟩
theorem colF_none {F c t:Nat} {g:List (List Int)} (hok:colOkW g c=true) (h:∀ i,t≤i→i < g.length→ent g i c=0):colF (F+1) g c t=some (g,t):=by
 rw [colF,if_pos hok,pickFT_zero (fun i a b=>h i a (by omega))]
theorem finS_ok {n c t T V:Nat} {g:List (List Int)} (hr:Rect n g) (ht:t < g.length) (h0:ent g t c≠0) (hT:T < big) (hV:V < big) (h1:∀ i,i < t→∀ k,(ent g i k).natAbs≤T) (h2:∀ k,(ent g t k).natAbs≤V) :
 ∃ g3,finSW g t c=some g3∧(∀ i,i < t→∀ k,(ent g3 i k).natAbs≤T+T * V)∧∀ i,t≤i→∀ k,(ent g3 i k).natAbs=(ent g i k).natAbs:=by
 have key:∀ g1:List (List Int),Rect n g1→g1.length=g.length→ent g1 t c≠0→(∀ i k,(ent g1 i k).natAbs=(ent g i k).natAbs)→∃ g3,elimToW g1 c t 0 t=some g3∧(∀ i,i < t→∀ k,(ent g3 i k).natAbs≤T+T * V)∧∀ i,t≤i→∀ k,(ent g3 i k).natAbs=(ent g i k).natAbs:=fun g1 hr1 hl1 hp he=>by
  have hq:∀ i,i < t→(quo g1 c t i).natAbs≤T:=fun i a=>by
   have:=fdiv_le (x:=ent g1 i c) hp
   have h3:=h1 i a c
   rw [← he] at h3
   exact Nat.le_trans this h3
  obtain ⟨g3,h3⟩:=elimTo_ok (s:=0) hr1 (by omega) hp (smW_of (by have:=h2 c; rw [← he] at this; omega)) t (by omega) (.inr (by omega)) (fun i _ a=>⟨smW_of (by have:=h1 i (by omega) c; rw [← he] at this; omega),fun _ k=>okW_of (by have:=hq i (by omega); omega) (by have:=h2 k; rw [← he] at this; omega) (by have:=h1 i (by omega) k; rw [← he] at this; omega)⟩)
  have e:=elimTo_ent hr1 (by omega) t g3 h3 (by omega) (.inr (by omega))
  refine ⟨g3,h3,fun i a k=>?_,fun i a k=>?_⟩
  ·rw [e,if_pos (by omega)]
   exact abs_step (by rw [he]; exact h1 i a k) (hq i a) (by rw [he]; exact h2 k)
  ·rw [e,if_neg (by omega),he]
 unfold finSW
 split
 ·have hsm:smRowW (rowAt g t)=true:=List.all_eq_true.2 fun x hx=>by
   obtain ⟨k,hk⟩:=List.getElem?_of_mem hx
   have:=h2 k
   unfold ent at this
   rw [hk,Option.getD_some] at this
   exact smW_of (by omega)
  rw [if_pos hsm]
  have hn:=fun i k=>ent_neg (g:=g) ht i k
  exact key _ (hr.set (by rw [List.length_map,rowAt_len hr ht])) (List.length_set) (by rw [hn,if_pos rfl]; omega) (fun i k=>by rw [hn]; by_cases e:i=t <;> simp [e])
 ·exact key g hr rfl h0 (fun _ _=>rfl)
structure Ech (p:Nat→Nat) (c t:Nat) (g:List (List Int)):Prop where
 le:t≤g.length
 zero:∀ i,t≤i→i < g.length→∀ k,k < c→ent g i k=0
 lt:∀ i,i < t→p i < c
 inc:∀ i j,i < j→j < t→p i < p j
 pos:∀ i,i < t→0 < ent g i (p i)
 low:∀ i,i < t→∀ k,k < p i→ent g i k=0
 up:∀ i j,i < j→j < t→0≤ent g i (p j)∧ent g i (p j) < ent g j (p j)
theorem Ech.init (p:Nat→Nat) (g:List (List Int)):Ech p 0 0 g :=
 ⟨Nat.zero_le _,fun _ _ _ _ h=>absurd h (Nat.not_lt_zero _),fun _ h=>absurd h (Nat.not_lt_zero _),fun _ _ _ h=>absurd h (Nat.not_lt_zero _),fun _ h=>absurd h (Nat.not_lt_zero _),fun _ h=>absurd h (Nat.not_lt_zero _),fun _ _ _ h=>absurd h (Nat.not_lt_zero _)⟩
theorem Ech.none {p:Nat→Nat} {c t:Nat} {g:List (List Int)} (h:Ech p c t g) (hz:∀ i,t≤i→i < g.length→ent g i c=0):Ech p (c+1) t g :=
 ⟨h.le,fun i a b k hk=>by
  by_cases e:k=c
  ·rw [e]; exact hz i a b
  ·exact h.zero i a b k (by omega),fun i hi=>by have:=h.lt i hi; omega,h.inc,h.pos,h.low,h.up⟩
theorem Ech.full {p:Nat→Nat} {c t:Nat} {g:List (List Int)} (h:Ech p c t g) (ht:g.length≤t) (n:Nat):Ech p (c+n) t g :=
 ⟨h.le,fun i a b=>by omega,fun i hi=>by have:=h.lt i hi; omega,h.inc,h.pos,h.low,h.up⟩
theorem Ech.next {p:Nat→Nat} {c t:Nat} {g g':List (List Int)} (h:Ech p c t g) (hl:g'.length=g.length) (ht:t < g.length) (dn:Done g g' c t g.length):Ech (fun i=>if i=t then c else p i) (c+1) (t+1) g':=by
 have old:=fun k (hk:k < c)=>dn.old k (fun i a b=>h.zero i a b k hk)
 refine ⟨by omega,fun i a b k hk=>?_,fun i hi=>?_,fun i j hij hj=>?_,fun i hi=>?_,fun i hi k hk=>?_,fun i j hij hj=>?_⟩
 ·by_cases e:k=c
  ·rw [e]; exact dn.low i (by omega) (by omega)
  ·exact (old k (by omega)).1 i (by omega) (by omega)
 ·show (if i=t then c else p i) < c+1
  split
  ·omega
  ·have:=h.lt i (by omega); omega
 ·show (if i=t then c else p i) < if j=t then c else p j
  rw [if_neg (by omega)]
  split
  ·exact h.lt i (by omega)
  ·exact h.inc i j hij (by omega)
 ·show 0 < ent g' i (if i=t then c else p i)
  split
  ·rename_i e; rw [e]; exact dn.pos
  ·rw [(old (p i) (h.lt i (by omega))).2 i (by omega)]; exact h.pos i (by omega)
 ·have hk:k < if i=t then c else p i:=hk
  split at hk
  ·rename_i e; rw [e]; exact (old k hk).1 t (Nat.le_refl _) ht
  ·have h1:=h.lt i (by omega)
   rw [(old k (by omega)).2 i (by omega)]; exact h.low i (by omega) k hk
 ·show 0≤ent g' i (if j=t then c else p j)∧ent g' i (if j=t then c else p j) < ent g' j (if j=t then c else p j)
  split
  ·rename_i e; rw [e]; exact dn.up i (by omega)
  ·have h1:=h.lt j (by omega)
   rw [(old (p j) h1).2 i (by omega),(old (p j) h1).2 j (by omega)]; exact h.up i j hij (by omega)
theorem formS_ech {F n:Nat}:∀ (cols c t:Nat) (g gF:List (List Int)) (tF:Nat) (p:Nat→Nat),Rect n g→Ech p c t g→formS F cols c g t=some (gF,tF)→∃ p',Ech p' (c+cols) tF gF∧Rect n gF∧gF.length=g.length∧Uni g.length (ent g) (ent gF)
 | 0,c,t,g,gF,tF,p,hr,he,h=>by
   injection h with h; injection h with h1 h2; subst h1; subst h2
   exact ⟨p,he,hr,rfl,.refl⟩
 | cols+1,c,t,g,gF,tF,p,hr,he,h=>by
   rw [formS] at h
   by_cases ht:t < g.length
   ·rw [if_pos ht] at h
    obtain ⟨⟨g1,t1⟩,h1,h2⟩:=Option.bind_eq_some_iff.1 h
    obtain ⟨u,hr1,hl1,-⟩:=uni_colF F g g1 t1 hr ht h1
    have key:∃ p1,Ech p1 (c+1) t1 g1:=by
     rcases colF_shape F g g1 t1 hr ht h1 with ⟨rfl,rfl,hz⟩ | ⟨rfl,dn⟩
     ·exact ⟨p,he.none hz⟩
     ·exact ⟨_,he.next hl1 ht dn⟩
    obtain ⟨p1,he1⟩:=key
    obtain ⟨p',a,b,e,u2⟩:=formS_ech cols (c+1) t1 g1 gF tF p1 hr1 he1 h2
    rw [hl1] at u2
    exact ⟨p',by rw [show c+(cols+1)=c+1+cols by omega]; exact a,b,by omega,u.trans u2⟩
   ·rw [if_neg ht] at h
    injection h with h; injection h with h1 h2; subst h1; subst h2
    exact ⟨p,he.full (by omega) _,hr,rfl,.refl⟩
theorem elimToW_idq {g:List (List Int)} {c t s:Nat}:∀ (j:Nat) (g':List (List Int)),(∀ i,s≤i→i < s+j→(ent g i c).fdiv (ent g t c)=0)→s+j≤g.length→elimToW g c t s j=some g'→g'=g
 | 0,g',_,_,h=>by injection h with h; exact h.symm
 | j+1,g',hz,hl,h=>by
   obtain ⟨g1,h1,h2⟩:=Option.bind_eq_some_iff.1 h
   obtain rfl:=elimToW_idq j g1 (fun i a b=>hz i a (by omega)) (by omega) h1
   obtain ⟨-,-,-,r,h3,rfl⟩:=elim1W_some h2
   rw [hz (s+j) (by omega) (by omega)] at h3
   unfold takeSW at h3
   rw [if_pos rfl] at h3
   injection h3 with h3
   rw [← h3,rowAt_eq (show s+j < g1.length by omega)]
   exact List.set_getElem_self _
theorem elimToW_same {n:Nat} {g:List (List Int)} {c t s j:Nat} (hr:Rect n g) (ht:t < g.length) (h0:ent g t c≠0) (hs:∀ i,i < g.length→smW (ent g i c)=true) (hz:∀ i,s≤i→i < s+j→(ent g i c).fdiv (ent g t c)=0) (hl:s+j≤g.length) (hts:t < s∨s+j≤t):elimToW g c t s j=some g:=by
 obtain ⟨g',h⟩:=elimTo_ok hr ht h0 (hs t ht) j hl hts (fun i a b=>⟨hs i (by omega),fun hq=>absurd (hz i a b) hq⟩)
 rw [h,elimToW_idq j g' hz hl h]
theorem pickFT_only {g:List (List Int)} {c t:Nat} (h0:ent g t c≠0):∀ j,(∀ i,t < i→i < t+(j+1)→ent g i c=0)→pickFT g c t (j+1)=some t
 | 0,_=>by
   rw [pickFT,pickFT]
   unfold pickF1
   rw [Nat.add_zero,if_neg h0]
 | j+1,h=>by
   rw [pickFT,pickFT_only h0 j (fun i a b=>h i a (by omega))]
   unfold pickF1
   rw [if_pos (h (t+(j+1)) (by omega) (by omega))]
theorem formS_fix {F n:Nat} {p:Nat→Nat} {g:List (List Int)} (hr:Rect n g) (he:Ech p n g.length g) (hs:∀ i,i < g.length→∀ k,smW (ent g i k)=true):∀ (cols c t:Nat),c+cols=n→t≤g.length→(∀ i,i < g.length→(i < t ↔ p i < c))→formS (F+1) cols c g t=some (g,g.length)
 | 0,c,t,hc,ht,hp=>by
   have:t=g.length:=Classical.byContradiction fun h9=>by
    have h1:t < g.length:=by omega
    have h2:=he.lt t h1
    have h3:=(hp t h1).2 (by omega)
    omega
   rw [this]; rfl
 | cols+1,c,t,hc,ht,hp=>by
   rw [formS]
   by_cases htl:t < g.length
   ·rw [if_pos htl]
    have hok:colOkW g c=true:=List.all_eq_true.2 fun i hi=>hs i (List.mem_range.1 hi) c
    by_cases e:p t=c
    ·have h0:ent g t c≠0:=by have:=he.pos t htl; rw [e] at this; omega
     have hz:∀ i,t < i→i < g.length→ent g i c=0:=fun i a b=>he.low i b c (by have:=he.inc t i a b; omega)
     have h1:colF (F+1) g c t=some (g,t+1):=by
      have hq:g.length - t=(g.length - t - 1)+1:=by omega
      have e1:elimToW g c t (t+1) (g.length - (t+1))=some g:=elimToW_same hr htl h0 (fun i hi=>hs i hi c) (fun i a b=>by rw [hz i (by omega) (by omega),Int.zero_fdiv]) (by omega) (.inl (by omega))
      have hrest:restT g c t (t+1) (g.length - (t+1))=false:=by
       cases h9:restT g c t (t+1) (g.length - (t+1)) with
       | false=>rfl
       | true=>
         obtain ⟨i,a,b,hn⟩:=(restT_iff hr htl _ g e1 (by omega) (by omega)).1 h9
         rw [hz i (by omega) (by omega),Int.zero_fmod] at hn
         exact absurd rfl hn
      have hfin:finSW g t c=some g:=by
       have hp0:=he.pos t htl
       rw [e] at hp0
       unfold finSW
       rw [if_neg (by omega)]
       refine elimToW_same hr htl h0 (fun i hi=>hs i hi c) (fun i _ b=>?_) (by omega) (.inr (by omega))
       have h9:=he.up i t (by omega) htl
       rw [e] at h9
       exact Int.fdiv_eq_zero_of_lt h9.1 h9.2
      rw [colF,if_pos hok,hq,pickFT_only h0 _ (fun i a b=>hz i a (by omega))]
      show ((elimToW (swp g t t) c t (t+1) (g.length - (t+1))).bind fun g2=>if restT (swp g t t) c t (t+1) (g.length - (t+1))=true then colF F g2 c t else if smW (ent g2 t c)=true then (finSW g2 t c).map fun g3=>(g3,t+1) else none)=_
      rw [swp_same,e1,hrest]
      show (if smW (ent g t c)=true then _ else _)=_
      rw [if_pos (hs t htl c),hfin]; rfl
     rw [h1]
     exact formS_fix hr he hs cols (c+1) (t+1) (by omega) (by omega) fun i hi=>by
      by_cases a:i < t
      ·have:=(hp i hi).1 a
       exact ⟨fun _=>by omega,fun _=>by omega⟩
      ·by_cases b:i=t
       ·rw [b]; exact ⟨fun _=>by omega,fun _=>by omega⟩
       ·have:=he.inc t i (by omega) hi
        exact ⟨fun _=>by omega,fun _=>by omega⟩
    ·have hpt:c < p t:=Classical.byContradiction fun h9=>by
      have:=(hp t htl).2 (by omega)
      omega
     have hz:∀ i,t≤i→i < g.length→ent g i c=0:=fun i a b=>he.low i b c (by
      by_cases e1:i=t
      ·rw [e1]; exact hpt
      ·have:=he.inc t i (by omega) b; omega)
     rw [colF_none hok hz]
     exact formS_fix hr he hs cols (c+1) t (by omega) ht fun i hi=>by
      by_cases a:i < t
      ·have:=(hp i hi).1 a
       exact ⟨fun _=>by omega,fun _=>a⟩
      ·have h1:p t≤p i:=by
        by_cases e1:i=t
        ·rw [e1]; exact Nat.le_refl _
        ·exact Nat.le_of_lt (he.inc t i (by omega) hi)
       exact ⟨fun h=>absurd h a,fun h=>by omega⟩
   ·rw [if_neg htl,show t=g.length by omega]
end Go.Proofs.YtiniigadkknboaaGreatDoor
