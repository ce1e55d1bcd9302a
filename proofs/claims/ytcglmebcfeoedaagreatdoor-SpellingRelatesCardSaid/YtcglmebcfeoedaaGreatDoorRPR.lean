/- Contracts and laws: RPR. -/
import Derived.Test.YtcglmebcfeoedaaGreatDoorRPM
import Derived.Test.YtcglmebcfeoedaaGreatDoorRB

namespace Go.Proofs.YtcglmebcfeoedaaGreatDoor
open Go.RowKit Go.Lib
theorem pickTo_fst (g:List (List Int)) (c t:Nat):∀ j,(pickTo g c t j).1=pickFT g c t j
 | 0=>rfl
 | j+1=>by
   rw [pickTo,pickFT,← pickTo_fst g c t j]
   unfold pick1 pickF1
   split
   ·rfl
   ·cases (pickTo g c t j).1 <;> rfl
theorem pickTo_one {g:List (List Int)} {c t:Nat}:∀ (j k:Nat),pickTo g c t j=(some k,false)→∀ i,t≤i→i < t+j→i≠k→ent g i c=0
 | 0,_,_=>fun i a b _=>by omega
 | j+1,k,h=>fun i a b e=>by
   rw [pickTo] at h
   unfold pick1 at h
   split at h
   ·rename_i h0
    by_cases e1:i=t+j
    ·rw [e1]; exact h0
    ·exact pickTo_one j k h i a (by omega) e
   ·split at h
    ·rename_i hn
     injection h with h1 h2
     injection h1 with h1
     rw [pickTo_fst] at hn
     exact pickFT_none hn i a (by omega)
    ·injection h with h1 h2; cases h2
theorem pickTo_only {g:List (List Int)} {c t:Nat} (h0:ent g t c≠0):∀ j,(∀ i,t < i→i < t+(j+1)→ent g i c=0)→pickTo g c t (j+1)=(some t,false)
 | 0,_=>by
   rw [pickTo,pickTo]
   unfold pick1
   rw [Nat.add_zero,if_neg h0]
 | j+1,h=>by
   rw [pickTo,pickTo_only h0 j (fun i a b=>h i a (by omega))]
   unfold pick1
   rw [if_pos (h (t+(j+1)) (by omega) (by omega))]
theorem elimTo_id {g:List (List Int)} {c t s:Nat}:∀ (j:Nat) (g':List (List Int)),(∀ i,s≤i→i < s+j→ent g i c=0)→s+j≤g.length→elimTo g c t s j=some g'→g'=g
 | 0,g',_,_,h=>by injection h with h; exact h.symm
 | j+1,g',hz,hl,h=>by
   obtain ⟨g1,h1,h2⟩:=Option.bind_eq_some_iff.1 h
   obtain rfl:=elimTo_id j g1 (fun i a b=>hz i a (by omega)) (by omega) h1
   obtain ⟨-,-,-,r,h3,rfl⟩:=elim1_some h2
   rw [hz (s+j) (by omega) (by omega),Int.zero_fdiv] at h3
   unfold takeS at h3
   rw [if_pos rfl] at h3
   injection h3 with h3
   rw [← h3,rowAt_eq (show s+j < g1.length by omega)]
   exact List.set_getElem_self _
theorem colL_of {n c t:Nat}:∀ (F:Nat) (g:List (List Int)) (r:List (List Int)×Nat),Rect n g→t < g.length→colF F g c t=some r→colL (F+1) g c t=some r
 | 0,_,_,_,_,h=>by cases h
 | F+1,g,r,hr,ht,h=>by
   rw [colF] at h
   rw [colL]
   by_cases hok:colOk g c=true
   ·rw [if_pos hok] at h ⊢
    have e:=pickTo_fst g c t (g.length - t)
    cases hp:pickTo g c t (g.length - t) with
    | mk o m=>
      rw [hp] at e
      have e:o=_:=e
      rw [← e] at h
      cases o with
      | none=>exact h
      | some k=>
        obtain ⟨hk1,hk2⟩:=pickFT_lt _ _ e.symm
        obtain ⟨p0,-⟩:=pickFT_least e.symm
        have hr1:Rect n (swp g t k):=swp_rect hr
        have hl1:=swp_len g t k
        have hs:=fun r q=>ent_swp (g:=g) (i:=t) (j:=k) ht (by omega) r q
        have htc:ent (swp g t k) t c≠0:=by
         rw [hs]
         by_cases e:t=k
         ·rw [if_pos e,e]; exact p0
         ·rw [if_neg e,if_pos rfl]; exact p0
        obtain ⟨g2,h1,h2⟩:=Option.bind_eq_some_iff.1 h
        have he:=elimTo_ent hr1 (by omega) _ g2 h1 (by omega) (.inl (by omega))
        obtain ⟨hr2,hl2⟩:=elimTo_keeps hr1 _ g2 h1 (by omega)
        have hrest:=restT_iff hr1 (by omega) _ g2 h1 (by omega) (by omega)
        rw [hl1] at hl2
        cases m with
        | true=>
          show (elimTo (swp g t k) c t (t+1) (g.length - (t+1))).bind (fun g2=>colL (F+1) g2 c t)=_
          rw [h1]
          show colL (F+1) g2 c t=_
          split at h2
          ·exact colL_of F g2 r hr2 (by omega) h2
          ·rename_i hnr
           split at h2
           ·rename_i hsm
            have hz:∀ i,t < i→i < g.length→ent g2 i c=0:=fun i a b=>by
             have hi2:i < t+1+(g.length - (t+1)):=by clear hrest hnr he hs; omega
             rw [he,if_pos ⟨a,hi2⟩]
             unfold quo
             rw [sub_fmod]
             exact Classical.byContradiction fun h9=>hnr (hrest.2 ⟨i,a,hi2,h9⟩)
            have ht2:ent g2 t c≠0:=by rw [he,if_neg (by omega)]; exact htc
            have hok2:colOk g2 c=true:=List.all_eq_true.2 fun i hi=>by
             have hi:=List.mem_range.1 hi
             by_cases a:t < i
             ·rw [hz i a (by omega)]; rfl
             ·by_cases b:i=t
              ·rw [b]; exact hsm
              ·rw [he,if_neg (by omega),hs,if_neg (by omega),if_neg b]
               exact List.all_eq_true.1 hok i (List.mem_range.2 (by omega))
            have hq:g2.length - t=(g2.length - t - 1)+1:=by omega
            rw [colL,if_pos hok2,hq,pickTo_only ht2 _ (fun i a b=>hz i a (by omega))]
            show (finS (swp g2 t t) t c).map (fun g2=>(g2,t+1))=_
            rw [swp_same]; exact h2
           ·cases h2
        | false=>
          have hz:∀ i,t < i→i < g.length→ent (swp g t k) i c=0:=fun i a b=>by
           rw [hs]
           by_cases e1:i=k
           ·rw [if_pos e1]; exact pickTo_one _ _ hp t (Nat.le_refl _) (by omega) (by omega)
           ·rw [if_neg e1,if_neg (by omega)]; exact pickTo_one _ _ hp i (by omega) (by omega) e1
          obtain rfl:=elimTo_id _ g2 (fun i a b=>hz i a (by omega)) (by omega) h1
          show (finS (swp g t k) t c).map (fun g2=>(g2,t+1))=_
          split at h2
          ·rename_i hre
           obtain ⟨i,a,b,e1⟩:=hrest.1 hre
           rw [hz i a (by omega),Int.zero_fmod] at e1
           exact absurd rfl e1
          ·split at h2
           ·exact h2
           ·cases h2
   ·rw [if_neg hok] at h; cases h
theorem herm_of {m F:Nat}:∀ (n c t:Nat) (g:List (List Int)) (r:List (List Int)×Nat),Rect m g→formS F n c g t=some r→herm (F+1) n c g t=some r
 | 0,_,_,_,_,_,h=>h
 | n+1,c,t,g,r,hr,h=>by
   rw [formS] at h
   rw [herm]
   by_cases ht:t < g.length
   ·rw [if_pos ht] at h ⊢
    obtain ⟨⟨g1,t1⟩,h1,h2⟩:=Option.bind_eq_some_iff.1 h
    obtain ⟨-,hr1,-,-⟩:=uni_colF F g g1 t1 hr ht h1
    rw [colL_of F g _ hr ht h1]
    exact herm_of n (c+1) t1 g1 r hr1 h2
   ·rw [if_neg ht] at h ⊢; exact h
theorem wide_bd {m:List (List Int)} {d:Nat} (hl:m.length=d) (hb:BdM 9 m) {i:Nat} (hi:i < d) (k:Nat):(ent (wideM m) i k).natAbs≤9:=by
 unfold ent rowAt
 rw [wideM_get (by omega),Option.getD_some]
 cases e:(m[i] ++ unitRow m.length i)[k]? with
 | none=>exact Nat.zero_le _
 | some x=>
   show x.natAbs≤9
   rcases List.mem_append.1 (List.mem_of_getElem? e) with h | h
   ·exact hb _ (List.getElem_mem _) x h
   ·unfold unitRow at h
    rcases List.mem_or_eq_of_mem_set h with h | h
    ·rw [List.eq_of_mem_replicate h]; decide
    ·rw [h]; decide
structure Ech (p:Nat→Nat) (c t:Nat) (g:List (List Int)):Prop where
 le:t≤g.length
 zero:∀ i,t≤i→i < g.length→∀ k,k < c→ent g i k=0
 lt:∀ i,i < t→p i < c
 inc:∀ i j,i < j→j < t→p i < p j
 pos:∀ i,i < t→0 < ent g i (p i)
 low:∀ i,i < t→∀ k,k < p i→ent g i k=0
 up:∀ i j,i < j→j < t→0≤ent g i (p j)∧ent g i (p j) < ent g j (p j)
theorem Ech.init (p:Nat→Nat) (g:List (List Int)):Ech p 0 0 g :=
 ⟨Nat.zero_le _,fun _ _ _ _ h=>absurd h (Nat.not_lt_zero _),fun _ h=>absurd h (Nat.not_lt_zero _),fun _ _ _ h=>absurd h (Nat.not_lt_zero _),fun _ h=>absurd h (Nat.not_lt_zero _),fun _ h=>absurd h (Nat.not_lt_zero _),fun _ _ _ h=>absurd h (Nat.not_lt_zero _)⟩
theorem Ech.none {p:Nat→Nat} {c t:Nat} {g:List (List Int)} (h:Ech p c t g) (hz:∀ i,t≤i→i < g.length→ent g i c=0):Ech p (c+1) t g :=
 ⟨h.le,fun i a b k hk=>by
  by_cases e:k=c
  ·rw [e]; exact hz i a b
  ·exact h.zero i a b k (by omega),fun i hi=>by have:=h.lt i hi; omega,h.inc,h.pos,h.low,h.up⟩
theorem Ech.full {p:Nat→Nat} {c t:Nat} {g:List (List Int)} (h:Ech p c t g) (ht:g.length≤t) (n:Nat):Ech p (c+n) t g :=
 ⟨h.le,fun i a b=>by omega,fun i hi=>by have:=h.lt i hi; omega,h.inc,h.pos,h.low,h.up⟩
theorem Ech.next {p:Nat→Nat} {c t:Nat} {g g':List (List Int)} (h:Ech p c t g) (hl:g'.length=g.length) (ht:t < g.length) (dn:Done g g' c t g.length):Ech (fun i=>if i=t then c else p i) (c+1) (t+1) g':=by
 have old:=fun k (hk:k < c)=>dn.old k (fun i a b=>h.zero i a b k hk)
 refine ⟨by omega,fun i a b k hk=>?_,fun i hi=>?_,fun i j hij hj=>?_,fun i hi=>?_,fun i hi k hk=>?_,fun i j hij hj=>?_⟩
 ·by_cases e:k=c
  ·rw [e]; exact dn.low i (by omega) (by omega)
  ·exact (old k (by omega)).1 i (by omega) (by omega)
 ·show (if i=t then c else p i) < c+1
  split
  ·omega
  ·have:=h.lt i (by omega); omega
 ·show (if i=t then c else p i) < if j=t then c else p j
  rw [if_neg (by omega)]
  split
  ·exact h.lt i (by omega)
  ·exact h.inc i j hij (by omega)
 ·show 0 < ent g' i (if i=t then c else p i)
  split
  ·rename_i e; rw [e]; exact dn.pos
  ·rw [(old (p i) (h.lt i (by omega))).2 i (by omega)]; exact h.pos i (by omega)
 ·have hk:k < if i=t then c else p i:=hk
  split at hk
  ·rename_i e; rw [e]; exact (old k hk).1 t (Nat.le_refl _) ht
  ·have h1:=h.lt i (by omega)
   rw [(old k (by omega)).2 i (by omega)]; exact h.low i (by omega) k hk
 ·show 0≤ent g' i (if j=t then c else p j)∧ent g' i (if j=t then c else p j) < ent g' j (if j=t then c else p j)
  split
  ·rename_i e; rw [e]; exact dn.up i (by omega)
  ·have h1:=h.lt j (by omega)
   rw [(old (p j) h1).2 i (by omega),(old (p j) h1).2 j (by omega)]; exact h.up i j hij (by omega)
theorem formS_ech {F n:Nat}:∀ (cols c t:Nat) (g gF:List (List Int)) (tF:Nat) (p:Nat→Nat),Rect n g→Ech p c t g→formS F cols c g t=some (gF,tF)→∃ p',Ech p' (c+cols) tF gF∧Rect n gF∧gF.length=g.length∧Uni g.length (ent g) (ent gF)
 | 0,c,t,g,gF,tF,p,hr,he,h=>by
   injection h with h; injection h with h1 h2; subst h1; subst h2
   exact ⟨p,he,hr,rfl,.refl⟩
 | cols+1,c,t,g,gF,tF,p,hr,he,h=>by
   rw [formS] at h
   by_cases ht:t < g.length
   ·rw [if_pos ht] at h
    obtain ⟨⟨g1,t1⟩,h1,h2⟩:=Option.bind_eq_some_iff.1 h
    obtain ⟨u,hr1,hl1,-⟩:=uni_colF F g g1 t1 hr ht h1
    have key:∃ p1,Ech p1 (c+1) t1 g1:=by
     rcases colF_shape F g g1 t1 hr ht h1 with ⟨rfl,rfl,hz⟩ | ⟨rfl,dn⟩
     ·exact ⟨p,he.none hz⟩
     ·exact ⟨_,he.next hl1 ht dn⟩
    obtain ⟨p1,he1⟩:=key
    obtain ⟨p',a,b,e,u2⟩:=formS_ech cols (c+1) t1 g1 gF tF p1 hr1 he1 h2
    rw [hl1] at u2
    exact ⟨p',by rw [show c+(cols+1)=c+1+cols by omega]; exact a,b,by omega,u.trans u2⟩
   ·rw [if_neg ht] at h
    injection h with h; injection h with h1 h2; subst h1; subst h2
    exact ⟨p,he.full (by omega) _,hr,rfl,.refl⟩
theorem Ech.piv {p:Nat→Nat} {c t:Nat} {g:List (List Int)} (h:Ech p c t g) {i:Nat} (hi:i < t):pivI (rowAt g i)=p i :=
 pivI_of (fun k hk=>h.low i hi k hk) (by have:=h.pos i hi; show ent g i (p i)≠0; omega)
theorem Ech.form {p:Nat→Nat} {c:Nat} {g:List (List Int)} (h:Ech p c g.length g):formOk g=true:=by
 refine List.all_eq_true.2 fun i hi=>?_
 have hi:=List.mem_range.1 hi
 simp only [Bool.and_eq_true,decide_eq_true_eq]
 rw [h.piv hi,Int.toNat_natCast]
 refine ⟨⟨⟨by omega,by have:=h.pos i hi; show 0≤ent g i (p i); omega⟩, ?_⟩,List.all_eq_true.2 fun x hx=>?_⟩
 ·split
  ·omega
  ·rw [h.piv (show i - 1 < g.length by omega)]
   have:=h.inc (i - 1) i (by omega) hi
   omega
 ·obtain ⟨j,hj⟩:=List.getElem?_of_mem hx
  have hjl:=(List.getElem?_eq_some_iff.1 hj).1
  rw [List.length_take] at hjl
  rw [List.getElem?_take,if_pos (by omega)] at hj
  have e:x=rowAt g j:=by unfold rowAt; rw [hj]; rfl
  have h9:=h.up j i (by omega) hi
  unfold formB
  rw [e,Bool.not_eq_true',Bool.or_eq_false_iff]
  exact ⟨decide_eq_false (by show ¬ ent g j (p i) < 0; omega),decide_eq_false (by show ¬ ent g i (p i)≤ent g j (p i); omega)⟩
theorem elimTo_idq {g:List (List Int)} {c t s:Nat}:∀ (j:Nat) (g':List (List Int)),(∀ i,s≤i→i < s+j→(ent g i c).fdiv (ent g t c)=0)→s+j≤g.length→elimTo g c t s j=some g'→g'=g
 | 0,g',_,_,h=>by injection h with h; exact h.symm
 | j+1,g',hz,hl,h=>by
   obtain ⟨g1,h1,h2⟩:=Option.bind_eq_some_iff.1 h
   obtain rfl:=elimTo_idq j g1 (fun i a b=>hz i a (by omega)) (by omega) h1
   obtain ⟨-,-,-,r,h3,rfl⟩:=elim1_some h2
   rw [hz (s+j) (by omega) (by omega)] at h3
   unfold takeS at h3
   rw [if_pos rfl] at h3
   injection h3 with h3
   rw [← h3,rowAt_eq (show s+j < g1.length by omega)]
   exact List.set_getElem_self _
theorem elimTo_same {n:Nat} {g:List (List Int)} {c t s j:Nat} (hr:Rect n g) (ht:t < g.length) (h0:ent g t c≠0) (hs:∀ i,i < g.length→smB (ent g i c)=true) (hz:∀ i,s≤i→i < s+j→(ent g i c).fdiv (ent g t c)=0) (hl:s+j≤g.length) (hts:t < s∨s+j≤t):elimTo g c t s j=some g:=by
 obtain ⟨g',h⟩:=elimTo_ok hr ht h0 (hs t ht) j hl hts (fun i a b=>⟨hs i (by omega),fun hq=>absurd (hz i a b) hq⟩)
 rw [h,elimTo_idq j g' hz hl h]
theorem pickFT_only {g:List (List Int)} {c t:Nat} (h0:ent g t c≠0):∀ j,(∀ i,t < i→i < t+(j+1)→ent g i c=0)→pickFT g c t (j+1)=some t
 | 0,_=>by
   rw [pickFT,pickFT]
   unfold pickF1
   rw [Nat.add_zero,if_neg h0]
 | j+1,h=>by
   rw [pickFT,pickFT_only h0 j (fun i a b=>h i a (by omega))]
   unfold pickF1
   rw [if_pos (h (t+(j+1)) (by omega) (by omega))]
theorem formS_fix {F n:Nat} {p:Nat→Nat} {g:List (List Int)} (hr:Rect n g) (he:Ech p n g.length g) (hs:∀ i,i < g.length→∀ k,smB (ent g i k)=true):∀ (cols c t:Nat),c+cols=n→t≤g.length→(∀ i,i < g.length→(i < t ↔ p i < c))→formS (F+1) cols c g t=some (g,g.length)
 | 0,c,t,hc,ht,hp=>by
   have:t=g.length:=Classical.byContradiction fun h9=>by
    have h1:t < g.length:=by omega
    have h2:=he.lt t h1
    have h3:=(hp t h1).2 (by omega)
    omega
   rw [this]; rfl
 | cols+1,c,t,hc,ht,hp=>by
   rw [formS]
   by_cases htl:t < g.length
   ·rw [if_pos htl]
    have hok:colOk g c=true:=List.all_eq_true.2 fun i hi=>hs i (List.mem_range.1 hi) c
    by_cases e:p t=c
    ·have h0:ent g t c≠0:=by have:=he.pos t htl; rw [e] at this; omega
     have hz:∀ i,t < i→i < g.length→ent g i c=0:=fun i a b=>he.low i b c (by have:=he.inc t i a b; omega)
     have h1:colF (F+1) g c t=some (g,t+1):=by
      have hq:g.length - t=(g.length - t - 1)+1:=by omega
      have e1:elimTo g c t (t+1) (g.length - (t+1))=some g:=elimTo_same hr htl h0 (fun i hi=>hs i hi c) (fun i a b=>by rw [hz i (by omega) (by omega),Int.zero_fdiv]) (by omega) (.inl (by omega))
      have hrest:restT g c t (t+1) (g.length - (t+1))=false:=by
       cases h9:restT g c t (t+1) (g.length - (t+1)) with
       | false=>rfl
       | true=>
         obtain ⟨i,a,b,hn⟩:=(restT_iff hr htl _ g e1 (by omega) (by omega)).1 h9
         rw [hz i (by omega) (by omega),Int.zero_fmod] at hn
         exact absurd rfl hn
      have hfin:finS g t c=some g:=by
       have hp0:=he.pos t htl
       rw [e] at hp0
       unfold finS
       rw [if_neg (by omega)]
       refine elimTo_same hr htl h0 (fun i hi=>hs i hi c) (fun i _ b=>?_) (by omega) (.inr (by omega))
       have h9:=he.up i t (by omega) htl
       rw [e] at h9
       exact Int.fdiv_eq_zero_of_lt h9.1 h9.2
      rw [colF,if_pos hok,hq,pickFT_only h0 _ (fun i a b=>hz i a (by omega))]
      show ((elimTo (swp g t t) c t (t+1) (g.length - (t+1))).bind fun g2=>if restT (swp g t t) c t (t+1) (g.length - (t+1))=true then colF F g2 c t else if smB (ent g2 t c)=true then (finS g2 t c).map fun g3=>(g3,t+1) else none)=_
      rw [swp_same,e1,hrest]
      show (if smB (ent g t c)=true then _ else _)=_
      rw [if_pos (hs t htl c),hfin]; rfl
     rw [h1]
     exact formS_fix hr he hs cols (c+1) (t+1) (by omega) (by omega) fun i hi=>by
      by_cases a:i < t
      ·have:=(hp i hi).1 a
       exact ⟨fun _=>by omega,fun _=>by omega⟩
      ·by_cases b:i=t
       ·rw [b]; exact ⟨fun _=>by omega,fun _=>by omega⟩
       ·have:=he.inc t i (by omega) hi
        exact ⟨fun _=>by omega,fun _=>by omega⟩
    ·have hpt:c < p t:=Classical.byContradiction fun h9=>by
      have:=(hp t htl).2 (by omega)
      omega
     have hz:∀ i,t≤i→i < g.length→ent g i c=0:=fun i a b=>he.low i b c (by
      by_cases e1:i=t
      ·rw [e1]; exact hpt
      ·have:=he.inc t i (by omega) b; omega)
     rw [colF_none hok hz]
     exact formS_fix hr he hs cols (c+1) t (by omega) ht fun i hi=>by
      by_cases a:i < t
      ·have:=(hp i hi).1 a
       exact ⟨fun _=>by omega,fun _=>a⟩
      ·have h1:p t≤p i:=by
        by_cases e1:i=t
        ·rw [e1]; exact Nat.le_refl _
        ·exact Nat.le_of_lt (he.inc t i (by omega) hi)
       exact ⟨fun h=>absurd h a,fun h=>by omega⟩
   ·rw [if_neg htl,show t=g.length by omega]
theorem run_one {n t T V:Nat} (hT:T < 100000000) (hV:V < 200000):∀ (cols c:Nat) (g:List (List Int)),Rect n g→g.length=t+1→(∀ i,i < t→∀ k,(ent g i k).natAbs≤T)→(∀ k,(ent g t k).natAbs≤V)→∃ r,formS 200000 cols c g t=some r
 | 0,c,g,_,_,_,_=>⟨_,rfl⟩
 | cols+1,c,g,hr,hl,h1,h2=>by
   rw [formS,if_pos (by omega)]
   by_cases h0:ent g t c=0
   ·have e:colF 200000 g c t=some (g,t):=colF_none (F:=199999) (colOk_of fun i hi=>by
     by_cases e:i=t
     ·subst e; have:=h2 c; omega
     ·have:=h1 i (by omega) c; omega) (fun i a b=>by rw [show i=t by omega]; exact h0)
    rw [e]
    exact run_one hT hV cols (c+1) g hr hl h1 h2
   ·obtain ⟨g3,k1,-,-⟩:=colF_one (F:=200000) hr hl h0 hT (by omega) (by omega) h1 h2
    obtain ⟨-,-,hl3,-⟩:=uni_colF 200000 g g3 (t+1) hr (by omega) k1
    rw [k1]
    exact ⟨(g3,t+1),formS_end (show g3.length≤t+1 by omega)⟩
theorem run_two {n t T K:Nat} (hK:1≤K) (hK2:2 * (K * K) < 200000) (hB:T+T * (2 * (K * K))+2 * (K * K) < 100000000):∀ (cols c:Nat) (g:List (List Int)),Rect n g→g.length=t+2→(∀ i,i < t→∀ k,(ent g i k).natAbs≤T)→(∀ i,t≤i→i < t+2→∀ k,(ent g i k).natAbs≤K)→∃ r,formS 200000 cols c g t=some r
 | 0,c,g,_,_,_,_=>⟨_,rfl⟩
 | cols+1,c,g,hr,hl,h1,h2=>by
   rw [formS,if_pos (by omega)]
   have hKB:K≤K * K:=Nat.le_mul_of_pos_left K hK
   by_cases h0:ent g t c≠0∨ent g (t+1) c≠0
   ·obtain ⟨g3,k1,k2,k3⟩:=colF_two (F:=200000) (P2.of hr hl hK h1 (h2 t (by omega) (by omega)) (h2 (t+1) (by omega) (by omega))) h0 (by omega) (by omega) (by omega) (by omega)
    obtain ⟨-,hr3,hl3,-⟩:=uni_colF 200000 g g3 (t+1) hr (by omega) k1
    rw [k1]
    exact run_one (T:=T+T * (2 * (K * K))+2 * (K * K)) (V:=2 * (K * K)) hB hK2 cols (c+1) g3 hr3 (by omega) (fun i hi k=>by
     by_cases e:i=t
     ·rw [e]; have:=(k3 k).1; omega
     ·have:=k2 i (by omega) k; omega) (fun k=>(k3 k).2)
   ·have z1:ent g t c=0:=Decidable.of_not_not fun h=>h0 (.inl h)
    have z2:ent g (t+1) c=0:=Decidable.of_not_not fun h=>h0 (.inr h)
    have e:colF 200000 g c t=some (g,t):=colF_none (F:=199999) (colOk_of fun i hi=>by
     by_cases e:i < t
     ·have:=h1 i e c; omega
     ·have:=h2 i (by omega) (by omega) c; omega) (fun i a b=>by
     by_cases e:i=t
     ·rw [e]; exact z1
     ·rw [show i=t+1 by omega]; exact z2)
    rw [e]
    exact run_two hK hK2 hB cols (c+1) g hr hl h1 h2
theorem run_three {n:Nat}:∀ (cols c:Nat) (g:List (List Int)),Rect n g→g.length=3→(∀ i,i < 3→∀ k,(ent g i k).natAbs≤9)→∃ r,formS 200000 cols c g 0=some r
 | 0,c,g,_,_,_=>⟨_,rfl⟩
 | cols+1,c,g,hr,hl,hb=>by
   rw [formS,if_pos (by omega)]
   by_cases h0:∃ i,i < 3∧ent g i c≠0
   ·have hsh:ShR c g [[ent g 0 c,9],[ent g 1 c,9],[ent g 2 c,9]]:=⟨hl,rfl,fun i hi=>by
     have:i=0∨i=1∨i=2:=by omega
     rcases this with rfl | rfl | rfl <;> rfl,fun i hi k=>by
     have:=hb i hi k
     have h9:i=0∨i=1∨i=2:=by omega
     rcases h9 with rfl | rfl | rfl <;> (show _≤(9:Int); omega)⟩
    obtain ⟨g1,k1,k2⟩:=colF_three (K:=297) (F:=200000) hr hsh (sh_all (hb 0 (by omega) c) (hb 1 (by omega) c) (hb 2 (by omega) c)) (by omega) (by omega) h0
    obtain ⟨-,hr3,hl3,-⟩:=uni_colF 200000 g g1 1 hr (by omega) k1
    rw [k1]
    exact run_two (t:=1) (T:=297) (K:=297) (by omega) (by omega) (by omega) cols (c+1) g1 hr3 (by omega) (fun i hi k=>k2 i (by omega) k) (fun i _ hi k=>k2 i (by omega) k)
   ·have e:colF 200000 g c 0=some (g,0):=colF_none (F:=199999) (colOk_of fun i hi=>by have:=hb i (by omega) c; omega) (fun i _ b=>Decidable.of_not_not fun h=>h0 ⟨i,by omega,h⟩)
    rw [e]
    exact run_three cols (c+1) g hr hl hb
theorem run_any {n:Nat} (cols:Nat) (g:List (List Int)) (hr:Rect n g) (h1:1≤g.length) (h3:g.length≤3) (hb:∀ i,i < g.length→∀ k,(ent g i k).natAbs≤9):∃ r,formS 200000 cols 0 g 0=some r:=by
 have h4:g.length=1∨g.length=2∨g.length=3:=by omega
 rcases h4 with e | e | e
 ·exact run_one (t:=0) (T:=0) (V:=9) (by omega) (by omega) cols 0 g hr e (fun i h=>absurd h (Nat.not_lt_zero _)) (hb 0 (by omega))
 ·exact run_two (t:=0) (T:=0) (K:=9) (by omega) (by omega) (by omega) cols 0 g hr e (fun i h=>absurd h (Nat.not_lt_zero _)) (fun i _ hi k=>hb i (by omega) k)
 ·exact run_three cols 0 g hr e (fun i hi k=>hb i (by omega) k)
theorem Uni.col {m:Nat} {E F:Nat→Nat→Int} (f:Nat→Nat) (h:Uni m E F):Uni m (fun i k=>E i (f k)) (fun i k=>F i (f k)):=by
 induction h with
 | refl=>exact .refl
 | op i t q a b c _ e ih=>exact .op i t q a b c ih fun r k=>e r (f k)
 | swap i j a b _ e ih=>exact .swap i j a b ih fun r k=>e r (f k)
 | neg i a _ e ih=>exact .neg i a ih fun r k=>e r (f k)
theorem dtE_zero {m i:Nat} (hm:m≤3) {E:Nat→Nat→Int} (hi:i < m) (hz:∀ k,E i k=0):dtE m E=0:=by
 have h4:m=1∨m=2∨m=3:=by omega
 rcases h4 with rfl | rfl | rfl
 ·obtain rfl:i=0:=by omega
  exact hz 0
 ·have:i=0∨i=1:=by omega
  rcases this with rfl | rfl <;> simp [dtE,hz]
 ·have:i=0∨i=1∨i=2:=by omega
  rcases this with rfl | rfl | rfl <;> simp [dtE,hz]
theorem wide_unit {m:List (List Int)} {d:Nat} (hr:Rect d m) {i j:Nat} (hi:i < m.length) (hj:j < m.length):ent (wideM m) i (d+j)=if i=j then 1 else 0:=by
 unfold ent rowAt
 rw [wideM_get hi,Option.getD_some,List.getElem?_append_right (by rw [hr.row hi]; omega),hr.row hi,show d+j - d=j by omega]
 unfold unitRow
 rw [List.getElem?_set]
 by_cases e:i=j
 ·rw [if_pos e,if_pos (by rw [List.length_replicate]; omega),if_pos e]; rfl
 ·rw [if_neg e,if_neg e,List.getElem?_replicate,if_pos hj]; rfl
theorem wide_det {m:List (List Int)} {d:Nat} (hr:Rect d m) (h1:1≤m.length) (h3:m.length≤3):dtE m.length (fun i k=>ent (wideM m) i (d+k))=1:=by
 have e:=fun i j (hi:i < m.length) (hj:j < m.length)=>wide_unit hr hi hj
 generalize wideM m=w at e
 generalize m.length=a at *
 have h4:a=1∨a=2∨a=3:=by omega
 rcases h4 with rfl | rfl | rfl
 ·exact e 0 0 (by omega) (by omega)
 ·show ent w 0 (d+0) * ent w 1 (d+1) - ent w 0 (d+1) * ent w 1 (d+0)=1
  rw [e 0 0 (by omega) (by omega),e 0 1 (by omega) (by omega),e 1 0 (by omega) (by omega),e 1 1 (by omega) (by omega)]; rfl
 ·simp only [dtE]
  rw [e 0 0 (by omega) (by omega),e 0 1 (by omega) (by omega),e 0 2 (by omega) (by omega),e 1 0 (by omega) (by omega),e 1 1 (by omega) (by omega),e 1 2 (by omega) (by omega),e 2 0 (by omega) (by omega),e 2 1 (by omega) (by omega),e 2 2 (by omega) (by omega)]; rfl
structure WForm (m:List (List Int)) (d:Nat) (g:List (List Int)) (p:Nat→Nat):Prop where
 run:formS 200000 (d+m.length) 0 (wideM m) 0=some (g,m.length)
 ech:Ech p (d+m.length) m.length g
 rect:Rect (d+m.length) g
 len:g.length=m.length
 uni:Uni m.length (ent (wideM m)) (ent g)
theorem wform {m:List (List Int)} {d:Nat} (hr:Rect d m) (h1:1≤m.length) (h3:m.length≤3) (hb:BdM 9 m):∃ g p,WForm m d g p:=by
 have hw:=wideM_len m
 have hrw:=wideM_rect hr
 obtain ⟨⟨g,t⟩,h⟩:=run_any (d+m.length) (wideM m) hrw (by omega) (by omega) (fun i hi k=>wide_bd rfl hb (by omega) k)
 obtain ⟨p,he,hrg,hl,hu⟩:=formS_ech (d+m.length) 0 0 (wideM m) g t (fun _=>0) hrw (Ech.init _ _) h
 rw [Nat.zero_add] at he
 rw [hw] at hl hu
 have ht:t=m.length:=Classical.byContradiction fun h9=>by
  have hle:=he.le
  have hz:∀ k,ent g t k=0:=fun k=>by
   by_cases hk:k < d+m.length
   ·exact he.zero t (Nat.le_refl _) (by omega) k hk
   ·exact ent_lt hrg (by omega)
  have h0:=dtE_zero (m:=m.length) (i:=t) h3 (E:=fun i k=>ent g i (d+k)) (by omega) (fun k=>hz (d+k))
  have h2:=wide_det hr h1 h3
  rcases uni_det h3 (hu.col (d+·)) with h5 | h5 <;> omega
 subst ht
 exact ⟨g,p,h,he,hrg,hl,hu⟩
theorem dotZ_cg {f f' g g':Nat→Int}:∀ n,(∀ i,i < n→f i=f' i)→(∀ i,i < n→g i=g' i)→dotZ f g n=dotZ f' g' n
 | 0,_,_=>rfl
 | n+1,h,k=>by
   show dotZ f g n+f n * g n=dotZ f' g' n+f' n * g' n
   rw [dotZ_cg n (fun i hi=>h i (by omega)) (fun i hi=>k i (by omega)),h n (by omega),k n (by omega)]
theorem wide_left {m:List (List Int)} {d:Nat} (hr:Rect d m) {i k:Nat} (hi:i < m.length) (hk:k < d):ent (wideM m) i k=ent m i k:=by
 unfold ent rowAt
 rw [wideM_get hi,List.getElem?_eq_getElem hi,Option.getD_some,Option.getD_some,List.getElem?_append_left (by rw [hr.row hi]; exact hk)]
theorem ent_len {g:List (List Int)} {i:Nat} (h:g.length≤i) (k:Nat):ent g i k=0:=by
 unfold ent rowAt
 rw [List.getElem?_eq_none h]; rfl
theorem wide_all {m:List (List Int)} (hb:BdM 9 m) (i k:Nat):(ent (wideM m) i k).natAbs≤9:=by
 by_cases hi:i < m.length
 ·exact wide_bd rfl hb hi k
 ·rw [ent_len (by rw [wideM_len]; omega)]; decide
def sel2 (a b:Nat):Nat→Nat
 | 0=>a
 | _=>b
def sel3 (a b c:Nat):Nat→Nat
 | 0=>a
 | 1=>b
 | _=>c
theorem dtE2_bd {E:Nat→Nat→Int} (h:∀ i k,(E i k).natAbs≤9):(dtE 2 E).natAbs≤162:=by
 show (E 0 0 * E 1 1 - E 0 1 * E 1 0).natAbs≤162
 have a:=abs_mul (h 0 0) (h 1 1)
 have b:=abs_mul (h 0 1) (h 1 0)
 omega
theorem dtE3_bd {E:Nat→Nat→Int} (h:∀ i k,(E i k).natAbs≤9):(dtE 3 E).natAbs≤4374:=by
 have k2:∀ i j k l:Nat,∀ i' j' k' l':Nat,(E i j * E k l - E i' j' * E k' l').natAbs≤162:=fun i j k l i' j' k' l'=>by
  have a:=abs_mul (h i j) (h k l)
  have b:=abs_mul (h i' j') (h k' l')
  omega
 show (E 0 0 * (E 1 1 * E 2 2 - E 1 2 * E 2 1) - E 0 1 * (E 1 0 * E 2 2 - E 1 2 * E 2 0)+E 0 2 * (E 1 0 * E 2 1 - E 1 1 * E 2 0)).natAbs≤4374
 have a:=abs_mul (h 0 0) (k2 1 1 2 2 1 2 2 1)
 have b:=abs_mul (h 0 1) (k2 1 0 2 2 1 2 2 0)
 have c:=abs_mul (h 0 2) (k2 1 0 2 1 1 1 2 0)
 omega
theorem le_mulL {x y:Int} {B:Nat} (h:0 < x) (k:(x * y).natAbs≤B):y.natAbs≤B:=by
 rw [Int.natAbs_mul] at k
 exact Nat.le_trans (Nat.le_mul_of_pos_left _ (by omega)) k
section
variable {m:List (List Int)} {d:Nat} {g:List (List Int)} {p:Nat→Nat}
theorem WForm.bd (h:WForm m d g p) (h3:m.length≤3) (hb:BdM 9 m):∀ i,1≤i→i < m.length→∀ k,(ent g i k).natAbs≤4374:=by
 have hW:=fun i k=>wide_all hb i k
 have hu:=h.uni
 have he:=h.ech
 generalize m.length=a at *
 intro i h1 hi k
 have h4:a=2∨a=3:=by omega
 rcases h4 with rfl | rfl
 ·obtain rfl:i=1:=by omega
  have z:ent g 1 (p 0)=0:=he.low 1 (by omega) (p 0) (he.inc 0 1 (by omega) (by omega))
  have e:dtE 2 (fun i j=>ent g i (sel2 (p 0) k j))=ent g 0 (p 0) * ent g 1 k - ent g 0 k * ent g 1 (p 0):=rfl
  rw [z,Int.mul_zero,Int.sub_zero] at e
  have hB:=dtE2_bd (E:=fun i j=>ent (wideM m) i (sel2 (p 0) k j)) (fun i j=>hW i _)
  refine Nat.le_trans (le_mulL (B:=162) (he.pos 0 (by omega)) ?_) (by decide)
  rw [← e]
  rcases uni_det (by omega) (hu.col (sel2 (p 0) k)) with h5 | h5 <;> omega
 ·have z1:ent g 1 (p 0)=0:=he.low 1 (by omega) (p 0) (he.inc 0 1 (by omega) (by omega))
  have z2:ent g 2 (p 0)=0:=he.low 2 (by omega) (p 0) (he.inc 0 2 (by omega) (by omega))
  have z3:ent g 2 (p 1)=0:=he.low 2 (by omega) (p 1) (he.inc 1 2 (by omega) (by omega))
  have key2:∀ k,(ent g 2 k).natAbs≤4374:=fun k=>by
   have e:dtE 3 (fun i j=>ent g i (sel3 (p 0) (p 1) k j))=ent g 0 (p 0) * (ent g 1 (p 1) * ent g 2 k - ent g 1 k * ent g 2 (p 1)) - ent g 0 (p 1) * (ent g 1 (p 0) * ent g 2 k - ent g 1 k * ent g 2 (p 0))+ent g 0 k * (ent g 1 (p 0) * ent g 2 (p 1) - ent g 1 (p 1) * ent g 2 (p 0)):=rfl
   rw [z1,z2,z3] at e
   simp only [Int.mul_zero,Int.zero_mul,Int.sub_zero,Int.add_zero] at e
   have hB:=dtE3_bd (E:=fun i j=>ent (wideM m) i (sel3 (p 0) (p 1) k j)) (fun i j=>hW i _)
   refine le_mulL (he.pos 1 (by omega)) (le_mulL (he.pos 0 (by omega)) ?_)
   rw [← e]
   rcases uni_det (by omega) (hu.col (sel3 (p 0) (p 1) k)) with h5 | h5 <;> omega
  have h9:i=1∨i=2:=by omega
  rcases h9 with rfl | rfl
  ·have e:dtE 3 (fun i j=>ent g i (sel3 (p 0) k (p 2) j))=ent g 0 (p 0) * (ent g 1 k * ent g 2 (p 2) - ent g 1 (p 2) * ent g 2 k) - ent g 0 k * (ent g 1 (p 0) * ent g 2 (p 2) - ent g 1 (p 2) * ent g 2 (p 0))+ent g 0 (p 2) * (ent g 1 (p 0) * ent g 2 k - ent g 1 k * ent g 2 (p 0)):=rfl
   rw [z1,z2] at e
   simp only [Int.mul_zero,Int.zero_mul,Int.sub_zero,Int.add_zero] at e
   have hB:=dtE3_bd (E:=fun i j=>ent (wideM m) i (sel3 (p 0) k (p 2) j)) (fun i j=>hW i _)
   have hM:(ent g 1 k * ent g 2 (p 2) - ent g 1 (p 2) * ent g 2 k).natAbs≤4374:=by
    refine le_mulL (he.pos 0 (by omega)) ?_
    rw [← e]
    rcases uni_det (by omega) (hu.col (sel3 (p 0) k (p 2))) with h5 | h5 <;> omega
   have hup:=he.up 1 2 (by omega) (by omega)
   exact minor_bd (p:=ent g 2 (p 2)) (u':=ent g 1 (p 2)) (vp:=ent g 2 k) (D:=ent g 1 k * ent g 2 (p 2) - ent g 1 (p 2) * ent g 2 k) (by grind) (by omega) (key2 k) hM
  ·exact key2 k
theorem WForm.unit (h:WForm m d g p) (hr:Rect d m) (hz:∀ i,i < m.length→∀ k,k < d→ent m i k=0):∀ i k,(ent g i k).natAbs≤1:=by
 have hw:=wideM_len m
 have hrw:=wideM_rect hr
 have hl:∀ i,i < m.length→∀ k,k < d→ent (wideM m) i k=0:=fun i hi k hk=>by rw [wide_left hr hi hk]; exact hz i hi k hk
 have hb:∀ i k,(ent (wideM m) i k).natAbs≤1:=fun i k=>by
  by_cases hi:i < m.length
  ·by_cases hk:k < d
   ·rw [hl i hi k hk]; decide
   ·by_cases hk2:k < d+m.length
    ·have e:=wide_unit hr hi (show k - d < m.length by omega)
     rw [show d+(k - d)=k by omega] at e
     rw [e]; split <;> decide
    ·rw [ent_lt hrw (by omega)]; decide
  ·rw [ent_len (by omega)]; decide
 have hu:=fun i j (hi:i < m.length) (hj:j < m.length)=>wide_unit hr hi hj
 have he:Ech (d+·) (d+m.length) (wideM m).length (wideM m):=by
  rw [hw]
  refine ⟨by omega,fun i a b=>by omega,fun i hi=>by show d+i < _; omega,fun i j hij hj=>by show d+i < d+j; omega,fun i hi=>by show 0 < ent (wideM m) i (d+i); rw [hu i i hi hi,if_pos rfl]; decide,fun i hi k hk=>?_,fun i j hij hj=>?_⟩
  ·have hk:k < d+i:=hk
   by_cases e:k < d
   ·exact hl i hi k e
   ·have:=hu i (k - d) hi (by omega)
    rw [show d+(k - d)=k by omega,if_neg (by omega)] at this
    exact this
  ·show 0≤ent (wideM m) i (d+j)∧ent (wideM m) i (d+j) < ent (wideM m) j (d+j)
   rw [hu i j (by omega) hj,hu j j hj hj,if_neg (by omega),if_pos rfl]; decide
 have hf:=formS_fix (F:=199999) hrw he (fun i _ k=>smB_of (by have:=hb i k; omega)) (d+m.length) 0 0 (by omega) (Nat.zero_le _) (fun i hi=>⟨fun h=>absurd h (Nat.not_lt_zero _),fun h=>absurd h (Nat.not_lt_zero _)⟩)
 have h1:=h.run.symm.trans hf
 injection h1 with h1
 injection h1 with h1 h2
 rw [h1]; exact hb
theorem WForm.sum (h:WForm m d g p) (hr:Rect d m) {c:Nat→Int} (hc:∀ k,k < d→dotZ c (fun i=>ent m i k) m.length=0):∃ b:Nat→Int,(∀ k,k < d→dotZ b (fun i=>ent g i k) m.length=0)∧∀ j,j < m.length→c j=dotZ b (fun i=>ent g i (d+j)) m.length:=by
 have h1:=(uni_sp h.uni _).1 (sum_sp (E:=ent (wideM m)) c m.length (Nat.le_refl _))
 obtain ⟨b,hb⟩:=sp_sum h1
 refine ⟨b,fun k hk=>?_,fun j hj=>?_⟩
 ·rw [← hb k,dotZ_cg (f':=c) (g':=fun i=>ent m i k) m.length (fun _ _=>rfl) (fun i hi=>wide_left hr hi hk)]
  exact hc k hk
 ·rw [← hb (d+j),dotZ_one (j:=j) (fun i hi hij=>by rw [wide_unit hr hi hj,if_neg hij,Int.mul_zero]),if_pos hj,wide_unit hr hj hj,if_pos rfl,Int.mul_one]
theorem WForm.left (h:WForm m d g p) {b:Nat→Int} (hb:∀ k,k < d→dotZ b (fun i=>ent g i k) m.length=0):∀ n i,i≤n→i < m.length→p i < d→b i=0
 | n,i,hin,hi,hp=>by
   have hx:=hb (p i) hp
   rw [dotZ_one (j:=i) (fun j hj hij=>by
    by_cases e:j < i
    ·have hpj:=h.ech.inc j i e hi
     match n,hin with
     | 0,hin=>omega
     | n+1,hin=>rw [h.left hb n j (by omega) hj (by omega),Int.zero_mul]
    ·rw [h.ech.low j hj (p i) (h.ech.inc i j (by omega) hj),Int.mul_zero]),if_pos hi] at hx
   rcases Int.mul_eq_zero.1 hx with h9 | h9
   ·exact h9
   ·have:=h.ech.pos i hi; omega
theorem WForm.row (h:WForm m d g p) (hr:Rect d m) {i:Nat} (hi:i < m.length):∀ k,k < d→ent g i k=dotZ (fun j=>ent g i (d+j)) (fun j=>ent m j k) m.length:=by
 obtain ⟨b,hb⟩:=sp_sum ((uni_sp h.uni _).2 (Spn.row hi))
 intro k hk
 have e:∀ j,j < m.length→ent g i (d+j)=b j:=fun j hj=>by
  rw [hb (d+j),dotZ_one (j:=j) (fun l hl hlj=>by rw [wide_unit hr hl hj,if_neg hlj,Int.mul_zero]),if_pos hj,wide_unit hr hj hj,if_pos rfl,Int.mul_one]
 rw [hb k]
 exact dotZ_cg _ (fun j hj=>(e j hj).symm) (fun j hj=>wide_left hr hj hk)
end
theorem cut_ex {p:Nat→Nat} {d:Nat}:∀ a,(∀ i j,i < j→j < a→p i < p j)→∃ r,r≤a∧∀ i,i < a→(p i < d ↔ i < r)
 | 0,_=>⟨0,Nat.le_refl _,fun i h=>absurd h (Nat.not_lt_zero _)⟩
 | a+1,h=>by
   obtain ⟨r,h1,h2⟩:=cut_ex a (fun i j x y=>h i j x (by omega))
   by_cases e:p a < d
   ·refine ⟨a+1,Nat.le_refl _,fun i hi=>⟨fun _=>hi,fun _=>?_⟩⟩
    by_cases e2:i=a
    ·rw [e2]; exact e
    ·have:=h i a (by omega) (by omega); omega
   ·refine ⟨r,by omega,fun i hi=>?_⟩
    by_cases e2:i=a
    ·rw [e2]; exact ⟨fun x=>absurd x e,fun x=>by omega⟩
    ·exact h2 i (by omega)
theorem filter_drop {α:Type} (P:α→Bool):∀ (l:List α) (r:Nat),(∀ i x,l[i]?=some x→(P x=true ↔ r≤i))→l.filter P=l.drop r
 | [],r,_=>by simp
 | x :: l,0,h=>by
   have h0:=(h 0 x rfl).2 (Nat.zero_le _)
   rw [List.filter_cons_of_pos h0,filter_drop P l 0 (fun i y hy=>⟨fun _=>Nat.zero_le _,fun _=>(h (i+1) y hy).2 (Nat.zero_le _)⟩)]; rfl
 | x :: l,r+1,h=>by
   have h0:¬ P x=true:=fun hp=>by have:=(h 0 x rfl).1 hp; omega
   rw [List.filter_cons_of_neg h0,filter_drop P l r (fun i y hy=>by
    have:=h (i+1) y hy
    exact ⟨fun q=>by have:=this.1 q; omega,fun q=>this.2 (by omega)⟩)]; rfl
theorem dotZ_skip {b e:Nat→Int} {r:Nat} (h:∀ i,i < r→b i=0):∀ n,dotZ b e (r+n)=dotZ (fun i=>b (r+i)) (fun i=>e (r+i)) n
 | 0=>by
   show dotZ b e r=0
   have:∀ q,q≤r→dotZ b e q=0:=fun q=>by
    induction q with
    | zero=>intro _; rfl
    | succ q ih=>intro hq; show dotZ b e q+b q * e q=0; rw [ih (by omega),h q (by omega),Int.zero_mul]; rfl
   exact this r (Nat.le_refl _)
 | n+1=>by
   show dotZ b e (r+n)+b (r+n) * e (r+n)=_
   rw [dotZ_skip h n]; rfl
structure KerIs (m:List (List Int)) (d:Nat) (K:List (List Int)) (p:Nat→Nat):Prop where
 run:kerS 200001 d m=some K
 rect:Rect m.length K
 ech:Ech p m.length K.length K
 own:formS 200000 m.length 0 K 0=some (K,K.length)
 bd:∀ i k,(ent K i k).natAbs≤4374
 few:K.length≤2∨∀ i k,(ent K i k).natAbs≤1
 le:K.length≤m.length
 zero:∀ i,i < K.length→∀ k,k < d→dotZ (fun j=>ent K i j) (fun j=>ent m j k) m.length=0
 all:∀ c:Nat→Int,(∀ k,k < d→dotZ c (fun j=>ent m j k) m.length=0)→∃ b:Nat→Int,∀ j,j < m.length→c j=dotZ b (fun i=>ent K i j) K.length
theorem ker_is {m:List (List Int)} {d:Nat} (hr:Rect d m) (h1:1≤m.length) (h3:m.length≤3) (hb:BdM 9 m):∃ K p,KerIs m d K p:=by
 obtain ⟨g,p,h⟩:=wform hr h1 h3 hb
 have hgl:=h.len
 have he:=h.ech
 obtain ⟨r,hr1,hr2⟩:=cut_ex (p:=p) (d:=d) m.length he.inc
 have hker:kerTo d (g.take m.length)=(g.drop r).map (List.drop d):=by
  unfold kerTo
  rw [List.take_of_length_le (by omega),filter_drop _ g r fun i x hx=>?_]
  have hi:i < m.length:=by rw [← hgl]; exact (List.getElem?_eq_some_iff.1 hx).1
  have e:rowAt g i=x:=by unfold rowAt; rw [hx]; rfl
  have hl:leadS x=p i:=by
   unfold leadS
   show (if 0≤pivI x then pivI x else _)=_
   rw [← e,he.piv hi,if_pos (by omega)]
  have:=hr2 i hi
  rw [hl]
  constructor
  ·intro h9
   have h9:(d:Int)≤(p i:Int):=of_decide_eq_true h9
   omega
  ·intro h9
   exact decide_eq_true (by omega)
 obtain ⟨K,hK⟩:∃ K,K=(g.drop r).map (List.drop d):=⟨_,rfl⟩
 rw [← hK] at hker
 have hKl:K.length=m.length - r:=by rw [hK,List.length_map,List.length_drop,hgl]
 have hKe:∀ i k,ent K i k=ent g (r+i) (d+k):=fun i k=>by
  unfold ent rowAt
  rw [hK,List.getElem?_map,List.getElem?_drop]
  cases g[r+i]? with
  | none=>rfl
  | some x=>show ((x.drop d)[k]?).getD 0=_; rw [List.getElem?_drop]; rfl
 have hKr:Rect m.length K:=fun x hx=>by
  rw [hK] at hx
  obtain ⟨y,hy,rfl⟩:=List.mem_map.1 hx
  rw [List.length_drop,h.rect y (List.mem_of_mem_drop hy)]; omega
 have hpd:∀ i,i < K.length→d≤p (r+i):=fun i hi=>by
  have:=hr2 (r+i) (by omega)
  omega
 have hKech:Ech (fun i=>p (r+i) - d) m.length K.length K:=by
  refine ⟨Nat.le_refl _,fun i a b=>by omega,fun i hi=>?_,fun i j hij hj=>?_,fun i hi=>?_,fun i hi k hk=>?_,fun i j hij hj=>?_⟩
  ·have:=he.lt (r+i) (by omega); have:=hpd i hi; show p (r+i) - d < _; omega
  ·have:=he.inc (r+i) (r+j) (by omega) (by omega); have:=hpd i (by omega); show p (r+i) - d < p (r+j) - d; omega
  ·have:=hpd i hi
   show 0 < ent K i (p (r+i) - d)
   rw [hKe,show d+(p (r+i) - d)=p (r+i) by omega]
   exact he.pos (r+i) (by omega)
  ·have hk:k < p (r+i) - d:=hk
   rw [hKe]; exact he.low (r+i) (by omega) (d+k) (by omega)
  ·have:=hpd j hj
   show 0≤ent K i (p (r+j) - d)∧ent K i (p (r+j) - d) < ent K j (p (r+j) - d)
   rw [hKe,hKe,show d+(p (r+j) - d)=p (r+j) by omega]
   exact he.up (r+i) (r+j) (by omega) (by omega)
 have hsm:(∀ i k,(ent K i k).natAbs≤4374)∧(K.length≤2∨∀ i k,(ent K i k).natAbs≤1):=by
  by_cases hz:∀ i,i < m.length→∀ k,k < d→ent m i k=0
  ·have hu:=h.unit hr hz
   exact ⟨fun i k=>by rw [hKe]; have:=hu (r+i) (d+k); omega,.inr fun i k=>by rw [hKe]; exact hu _ _⟩
  ·have hr0:1≤r:=Classical.byContradiction fun h9=>hz fun i hi k hk=>by
    obtain rfl:r=0:=by omega
    have hx:=sp_sum ((uni_sp h.uni _).1 (Spn.row (E:=ent (wideM m)) hi))
    obtain ⟨b,hb⟩:=hx
    rw [← wide_left hr hi hk,hb k]
    have:=dotZ_one (f:=b) (g:=fun i=>ent g i k) (j:=m.length) (n:=m.length) (fun j hj _=>by
     have h8:¬ p j < d:=fun h7=>by have:=(hr2 j hj).1 h7; omega
     rw [he.low j hj k (by omega),Int.mul_zero])
    rw [this,if_neg (by omega)]
   have hbd:=h.bd h3 hb
   refine ⟨fun i k=>?_,.inl (by omega)⟩
   by_cases hi:i < K.length
   ·rw [hKe]; exact hbd (r+i) (by omega) (by omega) _
   ·rw [ent_len (by omega)]; decide
 refine ⟨K,_, ?_,hKr,hKech, ?_,hsm.1,hsm.2,by omega,fun i hi k hk=>?_,fun c hc=>?_⟩
 ·unfold kerS
  rw [herm_of _ _ _ _ _ (wideM_rect hr) h.run]
  show (if fitG (kerTo d (g.take m.length))=true then some (kerTo d (g.take m.length)) else none)=_
  rw [hker,if_pos]
  refine List.all_eq_true.2 fun x hx=>List.all_eq_true.2 fun y hy=>?_
  obtain ⟨i,hi⟩:=List.getElem?_of_mem hx
  obtain ⟨k,hk⟩:=List.getElem?_of_mem hy
  have:=hsm.1 i k
  unfold ent rowAt at this
  rw [hi,Option.getD_some,hk,Option.getD_some] at this
  exact decide_eq_true ⟨by omega,by omega⟩
 ·exact formS_fix (F:=199999) hKr hKech (fun i _ k=>smB_of (by have:=hsm.1 i k; omega)) m.length 0 0 (by omega) (Nat.zero_le _) (fun i hi=>⟨fun h=>absurd h (Nat.not_lt_zero _),fun h=>absurd h (Nat.not_lt_zero _)⟩)
 ·have h9:=h.row hr (i:=r+i) (by omega) k hk
  have hpi:=hpd i hi
  rw [he.low (r+i) (by omega) k (by omega)] at h9
  rw [h9]
  exact dotZ_cg _ (fun j _=>hKe i j) (fun _ _=>rfl)
 ·obtain ⟨b,hb1,hb2⟩:=h.sum hr hc
  have hb0:∀ i,i < r→b i=0:=fun i hi=>h.left hb1 i i (Nat.le_refl _) (by omega) ((hr2 i (by omega)).2 hi)
  refine ⟨fun i=>b (r+i),fun j hj=>?_⟩
  rw [hb2 j hj]
  have e:m.length=r+K.length:=by omega
  rw [e,dotZ_skip hb0]
  exact dotZ_cg _ (fun _ _=>rfl) (fun i _=>(hKe i j).symm)
end Go.Proofs.YtcglmebcfeoedaaGreatDoor
