/- Contracts and laws: RSA. -/
import Derived.Test.YtcglmebcfeoedaaGreatDoorRChk
import Derived.Test.YtcglmebcfeoedaaGreatDoorRK
import Derived.Test.YtcglmebcfeoedaaGreatDoorREl
import Derived.Test.YtcglmebcfeoedaaGreatDoorRB
import Derived.Test.YtcglmebcfeoedaaGreatDoorRD

namespace Go.Proofs.YtcglmebcfeoedaaGreatDoor
open Go.RowKit Go.Lib
def gG {α β:Type} (n:Nat) (φ:Nat→α→β) (l:List α):List (List β):=(List.range n).map fun i=>l.map (φ i)
def upF {α β:Type} (φ:Nat→α→β) (k:Nat) (f:α→β) (i:Nat):α→β:=if i=k then f else φ i
theorem gG_len {α β:Type} (n:Nat) (φ:Nat→α→β) (l:List α):(gG n φ l).length=n:=by unfold gG; rw [List.length_map,List.length_range]
theorem gG_get {α β:Type} {n i:Nat} (φ:Nat→α→β) (l:List α) (h:i < n):(gG n φ l)[i]?=some (l.map (φ i)):=by
 unfold gG; rw [List.getElem?_map,List.getElem?_range h]; rfl
theorem gG_set {α β:Type} {n i:Nat} (φ:Nat→α→β) (l:List α) (f:α→β):(gG n φ l).set i (l.map f)=gG n (upF φ i f) l:=by
 refine List.ext_getElem? fun j=>?_
 by_cases h:j < n
 ·rw [gG_get _ _ h,List.getElem?_set]
  unfold upF
  by_cases e:i=j
  ·subst e; rw [if_pos rfl,gG_len,if_pos h,if_pos rfl]
  ·rw [if_neg e,gG_get _ _ h,if_neg (fun h=>e h.symm)]
 ·rw [List.getElem?_eq_none (by rw [List.length_set,gG_len]; omega),List.getElem?_eq_none (by rw [gG_len]; omega)]
theorem gG_congr {α β:Type} {n:Nat} {φ χ:Nat→α→β} {l:List α} (h:∀ i,i < n→∀ t,t ∈ l→φ i t=χ i t):gG n φ l=gG n χ l :=
 List.map_congr_left fun i hi=>List.map_congr_left (h i (List.mem_range.1 hi))
theorem gG_comp {α β:Type} {n:Nat} (φ:Nat→α→β) (σ:α→α) (l:List α):gG n φ (l.map σ)=gG n (fun i t=>φ i (σ t)) l :=
 List.map_congr_left fun _ _=>List.map_map
theorem gG_swp {α β:Type} {n i j:Nat} {φ ψ:Nat→α→β} {σ:α→α} {l:List α} (hi:i < n) (hj:j < n) (h1:ψ i ∘ σ=φ j) (h2:ψ j ∘ σ=φ i) (h:∀ k,k < n→k≠i→k≠j→ψ k ∘ σ=φ k):swp (gG n φ l) i j=gG n ψ (l.map σ):=by
 unfold swp
 rw [gG_get _ _ hi,gG_get _ _ hj,gG_comp]
 dsimp only
 rw [gG_set,gG_set]
 refine gG_congr fun k hk t _=>?_
 unfold upF
 by_cases e:k=j
 ·subst e; rw [if_pos rfl]; exact (congrFun h2 t).symm
 ·rw [if_neg e]
  by_cases e2:k=i
  ·subst e2; rw [if_pos rfl]; exact (congrFun h1 t).symm
  ·rw [if_neg e2]; exact (congrFun (h k hk e2 e) t).symm
def miF {α β:Type} (χ φ:Nat→α→β) (i j:Nat):α→β:=if j < i then χ j else φ j
theorem miF_zero {α β:Type} (χ φ:Nat→α→β):miF χ φ 0=φ:=by funext j; unfold miF; rw [if_neg (Nat.not_lt_zero _)]
theorem miF_ge {α β:Type} (χ φ:Nat→α→β) {i j:Nat} (h:i≤j):miF χ φ i j=φ j:=by unfold miF; rw [if_neg (by omega)]
theorem miF_k {α β:Type} {χ φ:Nat→α→β} {k:Nat} {l:List α} (h:∀ x,x ∈ l→χ k x=φ k x) (i:Nat):l.map (miF χ φ i k)=l.map (φ k):=by
 refine List.map_congr_left fun x hx=>?_
 unfold miF; split
 ·exact h x hx
 ·rfl
theorem miF_fin {α β:Type} {n:Nat} (χ φ:Nat→α→β) (l:List α):gG n (miF χ φ n) l=gG n χ l:=gG_congr fun j hj t _=>by unfold miF; rw [if_pos hj]
theorem miF_same {α β:Type} {n i:Nat} {χ φ:Nat→α→β} {l:List α} (h:∀ x,x ∈ l→χ i x=φ i x):gG n (miF χ φ i) l=gG n (miF χ φ (i+1)) l:=gG_congr fun j hj x hx=>by
 unfold miF
 by_cases e:j < i
 ·rw [if_pos e,if_pos (by omega)]
 ·rw [if_neg e]
  by_cases e2:j < i+1
  ·obtain rfl:j=i:=by omega
   rw [if_pos e2]; exact (h x hx).symm
  ·rw [if_neg e2]
theorem miF_step {α β:Type} {n i:Nat} {χ φ:Nat→α→β} {l:List α} {f:α→β} (h:∀ x,x ∈ l→χ i x=f x):gG n (upF (miF χ φ i) i f) l=gG n (miF χ φ (i+1)) l:=gG_congr fun j hj x hx=>by
 unfold upF miF
 by_cases e:j=i
 ·subst e; rw [if_pos rfl,if_pos (by omega)]; exact (h x hx).symm
 ·rw [if_neg e]
  by_cases e2:j < i
  ·rw [if_pos e2,if_pos (by omega)]
  ·rw [if_neg e2,if_neg (by omega)]
theorem gQ_row {α:Type} {n i:Nat} {φ:Nat→α→Rat} {l:List α} (h:i < n):rowQ (gG n φ l) i=l.map (φ i):=by unfold rowQ; rw [gG_get _ _ h]; rfl
theorem gQ_ent {α:Type} {n i c:Nat} {φ:Nat→α→Rat} {l:List α} {t:α} (h:i < n) (hc:l[c]?=some t):entQ (gG n φ l) i c=φ i t:=by
 unfold entQ; rw [gQ_row h,List.getElem?_map,hc]; rfl
theorem subRow_map {α:Type} (f:Rat) (φ ψ:α→Rat):∀ (l:List α),(∀ t,t ∈ l→subOk f (φ t) (ψ t)=true)→subRow f (l.map φ) (l.map ψ)=some (l.map fun t=>φ t - f * ψ t)
 | [],_=>rfl
 | t :: l,h=>by
   rw [List.map_cons,List.map_cons,subRow,if_pos (h t List.mem_cons_self),subRow_map f φ ψ l (fun x hx=>h x (List.mem_cons_of_mem _ hx)),List.map_cons]; rfl
theorem elim_gQ {α:Type} {n:Nat} {φ χ:Nat→α→Rat} {l:List α} {c k:Nat} {t:α} (hc:l[c]?=some t) (hk:k < n) (h0:∀ x,x ∈ l→χ k x=φ k x)
 (h1:∀ i,i < n→i≠k→∀ x,x ∈ l→χ i x=φ i x - φ i t * φ k x) (ok:∀ i,i < n→i≠k→∀ x,x ∈ l→subOk (φ i t) (φ i x) (φ k x)=true) :
 elimQ (gG n φ l) c k n=some (gG n χ l):=by
 have key:∀ i,i≤n→elimQ (gG n φ l) c k i=some (gG n (miF χ φ i) l):=fun i=>by
  induction i with
  | zero=>intro _; rw [elimQ,miF_zero]
  | succ i ih=>
    intro hi
    rw [elimQ,ih (by omega),Option.bind_some,gQ_ent (by omega) hc,gQ_row (by omega),gQ_row hk,miF_ge _ _ (Nat.le_refl i),miF_k h0]
    by_cases hik:i=k
    ·rw [if_pos (.inl hik)]; exact congrArg some (miF_same (by rw [hik]; exact h0))
    ·by_cases hz:φ i t=0
     ·rw [if_pos (.inr hz)]
      exact congrArg some (miF_same fun x hx=>by rw [h1 i (by omega) hik x hx,hz,Rat.zero_mul]; grind)
     ·rw [if_neg (by rintro (h | h); exact hik h; exact hz h),subRow_map _ _ _ l (ok i (by omega) hik),Option.map_some,gG_set]
      exact congrArg some (miF_step fun x hx=>h1 i (by omega) hik x hx)
 rw [key n (Nat.le_refl _),miF_fin]
theorem step_gQ {α:Type} {n:Nat} {φ χ:Nat→α→Rat} {l:List α} {c:Nat} {t:α} {g:List (List Rat)} {lead:List Nat} {det:Rat} (hl:g.length=n) (hk:lead.length < n) (hat:atQ g c lead.length≠n) (hS:swapIf g lead.length (atQ g c lead.length)=gG n φ l) (hc:l[c]?=some t)
 (hd:Tq det) (hp:Tq (φ lead.length t)) (hr:∀ x,x ∈ l→Tq (φ lead.length x))
 (h0:∀ x,x ∈ l→χ lead.length x=φ lead.length x / φ lead.length t) (h1:∀ i,i < n→i≠lead.length→∀ x,x ∈ l→χ i x=φ i x - φ i t * χ lead.length x)
 (ok:∀ i,i < n→i≠lead.length→∀ x,x ∈ l→subOk (φ i t) (φ i x) (χ lead.length x)=true) :
 stepQ c ⟨g,lead,det⟩=some ⟨gG n χ l,lead ++ [c],negIf det lead.length (atQ g c lead.length) * φ lead.length t⟩:=by
 have e1:entQ (gG n φ l) lead.length c=φ lead.length t:=gQ_ent hk hc
 have e2:rowQ (gG n φ l) lead.length=l.map (φ lead.length):=gQ_row hk
 unfold stepQ
 dsimp only
 rw [hl,if_neg hat,hS,e1,e2,if_pos ⟨hd,hp,List.all_eq_true.2 fun y hy=>by obtain ⟨x,hx,rfl⟩:=List.mem_map.1 hy; exact decide_eq_true (hr x hx)⟩,List.map_map,gG_set]
 have:=elim_gQ (φ:=upF φ lead.length ((· / φ lead.length t) ∘ φ lead.length)) (χ:=χ) (l:=l) (c:=c) (k:=lead.length) (t:=t) hc hk (fun x hx=>by unfold upF; rw [if_pos rfl]; exact h0 x hx)
  (fun i hi hik x hx=>by unfold upF; rw [if_neg hik,if_pos rfl]; show _=φ i x - φ i t * (φ lead.length x / φ lead.length t); rw [← h0 x hx]; exact h1 i hi hik x hx)
  (fun i hi hik x hx=>by unfold upF; rw [if_neg hik,if_pos rfl]; show subOk _ _ (φ lead.length x / φ lead.length t)=true; rw [← h0 x hx]; exact ok i hi hik x hx)
 rw [this,Option.map_some]
theorem gZ_row {α:Type} {n i:Nat} {φ:Nat→α→Int} {l:List α} (h:i < n):rowZ (gG n φ l) i=l.map (φ i):=by unfold rowZ; rw [gG_get _ _ h]; rfl
theorem gZ_ent {α:Type} {n i c:Nat} {φ:Nat→α→Int} {l:List α} {t:α} (h:i < n) (hc:l[c]?=some t):entZ (gG n φ l) i c=φ i t:=by
 unfold entZ; rw [gZ_row h,List.getElem?_map,hc]; rfl
theorem zipWith_map2 {α:Type} {f:Int→Int→Int} (φ ψ:α→Int):∀ l:List α,List.zipWith f (l.map φ) (l.map ψ)=l.map fun t=>f (φ t) (ψ t)
 | []=>rfl
 | t :: l=>by rw [List.map_cons,List.map_cons,List.zipWith_cons_cons,zipWith_map2 φ ψ l]; rfl
theorem clr_gZ {α:Type} {n:Nat} {φ χ:Nat→α→Int} {l:List α} {c k:Nat} {t:α} {L:Int} (hc:l[c]?=some t) (hk:k < n) (h0:∀ x,x ∈ l→χ k x=φ k x)
 (h1:∀ i,i < n→i≠k→∀ x,x ∈ l→χ i x=(φ k t * φ i x - φ i t * φ k x).fdiv L):clrZ (gG n φ l) (φ k t) L k c n=gG n χ l:=by
 have key:∀ i,i≤n→clrZ (gG n φ l) (φ k t) L k c i=gG n (miF χ φ i) l:=fun i=>by
  induction i with
  | zero=>intro _; rw [clrZ,miF_zero]
  | succ i ih=>
    intro hi
    rw [clrZ,ih (by omega),gZ_ent (by omega) hc,gZ_row (by omega),gZ_row hk,miF_ge _ _ (Nat.le_refl i),miF_k h0]
    by_cases hik:i=k
    ·rw [if_pos hik]; exact miF_same (by rw [hik]; exact h0)
    ·rw [if_neg hik]
     unfold combZ
     rw [zipWith_map2,gG_set]
     exact miF_step fun x hx=>h1 i (by omega) hik x hx
 rw [key n (Nat.le_refl _),miF_fin]
theorem step_gZ {α:Type} {n:Nat} {φ χ:Nat→α→Int} {l:List α} {c:Nat} {t:α} {g:List (List Int)} {piv:List Nat} {L:Int} {odd:Bool} (hl:g.length=n) (hk:piv.length < n) (hat:atZ g c piv.length≠n) (hS:swapZ g piv.length (atZ g c piv.length)=gG n φ l) (hc:l[c]?=some t)
 (hti:tiM g=true) (hL:Ti L) (hL0:L≠0)
 (h0:∀ x,x ∈ l→χ piv.length x=φ piv.length x) (h1:∀ i,i < n→i≠piv.length→∀ x,x ∈ l→χ i x=(φ piv.length t * φ i x - φ i t * φ piv.length x).fdiv L) :
 ∃ o,stepZ c ⟨g,piv,L,odd⟩=some ⟨gG n χ l,piv ++ [c],φ piv.length t,o⟩:=by
 unfold stepZ
 dsimp only
 rw [hl,if_pos hk,if_neg hat,hS,if_pos ⟨hti,hL,hL0⟩,gZ_ent hk hc,clr_gZ hc hk h0 h1]
 exact ⟨_,rfl⟩
theorem at_gQ {α:Type} {n:Nat} {φ:Nat→α→Rat} {l:List α} {c k a:Nat} {t:α} (hc:l[c]?=some t) (ha:a < n) (hk:k≤a) (h0:∀ i,k≤i→i < a→φ i t=0) (h1:φ a t≠0):atQ (gG n φ l) c k=a:=by
 have key:∀ j,j≤a - k→atQ (gG n φ l) c (a - j)=a:=fun j=>by
  induction j with
  | zero=>intro _; exact atQ_here (by rw [gG_len]; omega) (by rw [gQ_ent (by omega) hc]; exact h1)
  | succ j ih=>
    intro hj
    have:=atQ_zero (g:=gG n φ l) (c:=c) (i:=a - (j+1)) (by rw [gG_len]; omega) (by rw [gQ_ent (by omega) hc]; exact h0 _ (by omega) (by omega))
    rw [← this,show a - (j+1)+1=a - j by omega]; exact ih (by omega)
 have:=key (a - k) (Nat.le_refl _)
 rwa [show a - (a - k)=k by omega] at this
theorem atZ_at {g:List (List Int)} {c i:Nat} (hi:i < g.length) (h:entZ g i c≠0):atZ g c i=i:=by
 unfold atZ
 rw [List.drop_eq_getElem_cons hi,List.findIdx_cons]
 unfold entZ rowZ at h
 rw [List.getElem?_eq_getElem hi] at h
 have h:((g[i])[c]?).getD 0≠0:=h
 simp [h]
theorem atZ_skip {g:List (List Int)} {c i:Nat} (hi:i < g.length) (h:entZ g i c=0):atZ g c (i+1)=atZ g c i:=by
 unfold atZ
 rw [List.drop_eq_getElem_cons hi,List.findIdx_cons]
 unfold entZ rowZ at h
 rw [List.getElem?_eq_getElem hi] at h
 have h:((g[i])[c]?).getD 0=0:=h
 simp [h]; omega
theorem at_gZ {α:Type} {n:Nat} {φ:Nat→α→Int} {l:List α} {c k a:Nat} {t:α} (hc:l[c]?=some t) (ha:a < n) (hk:k≤a) (h0:∀ i,k≤i→i < a→φ i t=0) (h1:φ a t≠0):atZ (gG n φ l) c k=a:=by
 have key:∀ j,j≤a - k→atZ (gG n φ l) c (a - j)=a:=fun j=>by
  induction j with
  | zero=>intro _; exact atZ_at (by rw [gG_len]; omega) (by rw [gZ_ent (by omega) hc]; exact h1)
  | succ j ih=>
    intro hj
    have:=atZ_skip (g:=gG n φ l) (c:=c) (i:=a - (j+1)) (by rw [gG_len]; omega) (by rw [gZ_ent (by omega) hc]; exact h0 _ (by omega) (by omega))
    rw [← this,show a - (j+1)+1=a - j by omega]; exact ih (by omega)
 have:=key (a - k) (Nat.le_refl _)
 rwa [show a - (a - k)=k by omega] at this
theorem tiM_gZ {α:Type} {n:Nat} {φ:Nat→α→Int} {l:List α} (h:∀ i,i < n→∀ t,t ∈ l→(φ i t).natAbs≤4374):tiM (gG n φ l)=true:=by
 refine List.all_eq_true.2 fun r hr=>List.all_eq_true.2 fun x hx=>decide_eq_true ?_
 obtain ⟨i,hi,rfl⟩:=List.mem_map.1 hr
 obtain ⟨t,ht,rfl⟩:=List.mem_map.1 hx
 have:=h i (List.mem_range.1 hi) t ht
 exact ⟨by omega,by omega⟩
abbrev T3:=Int×Int×Int
theorem lt3 {i:Nat} (h:i < 3):i=0∨i=1∨i=2:=by omega
def dot3 (c t:T3):Int:=c.1 * t.1+c.2.1 * t.2.1+c.2.2 * t.2.2
def BdT (B:Nat) (t:T3):Prop:=t.1.natAbs≤B∧t.2.1.natAbs≤B∧t.2.2.natAbs≤B
def e0 (i:Nat) (t:T3):Int:=if i=0 then t.1 else if i=1 then t.2.1 else t.2.2
def n1 (a d g:Int) (i:Nat) (t:T3):Int:=if i=0 then t.1 else if i=1 then a * t.2.1 - d * t.1 else a * t.2.2 - g * t.1
def m3 (a d g b e h:Int) (t:T3):Int:=a * (e * t.2.2 - t.2.1 * h) - b * (d * t.2.2 - t.2.1 * g)+t.1 * (d * h - e * g)
def n2 (a d g b e h:Int) (i:Nat) (t:T3):Int:=if i=0 then e * t.1 - b * t.2.1 else if i=1 then a * t.2.1 - d * t.1 else m3 a d g b e h t
def c0 (b e h c f i:Int):T3:=(e * i - f * h,c * h - b * i,b * f - c * e)
def c1 (a d g c f i:Int):T3:=(f * g - d * i,a * i - c * g,c * d - a * f)
def c2 (a d g b e h:Int):T3:=(d * h - e * g,b * g - a * h,a * e - b * d)
def co3 (a d g b e h c f i:Int) (k:Nat):T3:=if k=0 then c0 b e h c f i else if k=1 then c1 a d g c f i else c2 a d g b e h
def LinP (σ:T3→T3):Prop:=(∀ t B,BdT B t→BdT B (σ t))∧∀ co,∃ co',(∀ t,dot3 co (σ t)=dot3 co' t)∧∀ B,BdT B co→BdT B co'
def s01 (t:T3):T3:=(t.2.1,t.1,t.2.2)
def s02 (t:T3):T3:=(t.2.2,t.2.1,t.1)
def s12 (t:T3):T3:=(t.1,t.2.2,t.2.1)
theorem linP_id:LinP id:=⟨fun _ _ h=>h,fun co=>⟨co,fun _=>rfl,fun _ h=>h⟩⟩
theorem linP_s01:LinP s01:=⟨fun _ _ h=>⟨h.2.1,h.1,h.2.2⟩,fun co=>⟨(co.2.1,co.1,co.2.2),fun t=>by unfold dot3 s01; grind,fun _ h=>⟨h.2.1,h.1,h.2.2⟩⟩⟩
theorem linP_s02:LinP s02:=⟨fun _ _ h=>⟨h.2.2,h.2.1,h.1⟩,fun co=>⟨(co.2.2,co.2.1,co.1),fun t=>by unfold dot3 s02; grind,fun _ h=>⟨h.2.2,h.2.1,h.1⟩⟩⟩
theorem linP_s12:LinP s12:=⟨fun _ _ h=>⟨h.1,h.2.2,h.2.1⟩,fun co=>⟨(co.1,co.2.2,co.2.1),fun t=>by unfold dot3 s12; grind,fun _ h=>⟨h.1,h.2.2,h.2.1⟩⟩⟩
theorem LinP.comp {σ τ:T3→T3} (h:LinP σ) (k:LinP τ):LinP (σ ∘ τ):=⟨fun t B hb=>h.1 _ B (k.1 t B hb),fun co=>by
 obtain ⟨c1,a1,b1⟩:=h.2 co
 obtain ⟨c2,a2,b2⟩:=k.2 c1
 exact ⟨c2,fun t=>(a1 _).trans (a2 t),fun B hb=>b2 B (b1 B hb)⟩⟩
theorem Bd.of {A B:Nat} {x y:Int} (h0:y≠0) (h1:x.natAbs≤A) (h2:y.natAbs≤B):Bd A B ((x:Rat) / (y:Rat)):=by
 refine ⟨x,y, ?_,h0,h1,h2⟩
 exact (Rat.divInt_eq_div _ _).symm
theorem abs_mul {x y:Int} {A B:Nat} (h:x.natAbs≤A) (k:y.natAbs≤B):(x * y).natAbs≤A * B:=by rw [Int.natAbs_mul]; exact Nat.mul_le_mul h k
theorem abs_sub {x y:Int} {A B:Nat} (h:x.natAbs≤A) (k:y.natAbs≤B):(x - y).natAbs≤A+B:=by omega
theorem abs_add {x y:Int} {A B:Nat} (h:x.natAbs≤A) (k:y.natAbs≤B):(x+y).natAbs≤A+B:=by omega
theorem abs_mono {x:Int} {A B:Nat} (h:x.natAbs≤A) (k:A≤B):x.natAbs≤B:=Nat.le_trans h k
theorem fdiv_of {x y z:Int} (hz:z≠0) (h:x=z * y):x.fdiv z=y:=by rw [h]; exact Int.mul_fdiv_cancel_left _ hz
def qE (D:Int) (φ:Nat→T3→Int) (i:Nat) (t:T3):Rat:=(φ i t:Rat) / (D:Rat)
def qE1 (a d g:Int):Nat→T3→Rat:=qE a fun i t=>if i=0 then t.1 else n1 a d g i t
theorem n1_bd {a d g:Int} {t:T3} (hc:BdT 9 (a,d,g)) (ht:BdT 9 t) (i:Nat):(n1 a d g i t).natAbs≤162:=by
 obtain ⟨h1,h2,h3⟩:=hc
 obtain ⟨t1,t2,t3⟩:=ht
 have h1:a.natAbs≤9:=h1
 have h2:d.natAbs≤9:=h2
 have h3:g.natAbs≤9:=h3
 unfold n1
 split
 ·omega
 ·split
  ·exact abs_sub (abs_mul h1 t2) (abs_mul h2 t1)
  ·exact abs_sub (abs_mul h1 t3) (abs_mul h3 t1)
theorem e0_bd {t:T3} {B:Nat} (ht:BdT B t) (i:Nat):(e0 i t).natAbs≤B:=by
 unfold e0; split; exact ht.1; split; exact ht.2.1; exact ht.2.2
def e0q (i:Nat) (t:T3):Rat:=(e0 i t:Rat)
theorem dtq {B:Nat} {z:Int} {d:Rat} (h:d=z∨d=-(z:Rat)) (hB:z.natAbs≤B) (h1:B < 100000000):Tq d:=by
 rcases h with rfl | rfl
 ·exact (Bd.int z hB).tq h1 (by decide)
 ·exact (Bd.int z hB).neg.tq h1 (by decide)
theorem negIf_or (d:Rat) (k a:Nat):negIf d k a=d∨negIf d k a=-d:=by unfold negIf; split; exact .inl rfl; exact .inr rfl
theorem stage0 {l:List T3} {g:List (List Rat)} {z:List (List Int)} {a d gg:Int} (hl:l[0]?=some (a,d,gg)) (hb:∀ t,t ∈ l→BdT 9 t) (ha:a≠0) (hlen:g.length=3) (hat:atQ g 0 0≠3) (hS:swapIf g 0 (atQ g 0 0)=gG 3 e0q l)
 (hlz:z.length=3) (haz:atZ z 0 0≠3) (hSz:swapZ z 0 (atZ z 0 0)=gG 3 e0 l) (hti:tiM z=true) :
 ∃ dt o,(dt=(a:Rat)∨dt=-(a:Rat))∧stepQ 0 ⟨g,[],1⟩=some ⟨gG 3 (qE1 a d gg) l,[0],dt⟩∧stepZ 0 ⟨z,[],1,false⟩=some ⟨gG 3 (n1 a d gg) l,[0],a,o⟩:=by
 have hc:=hb _ (List.mem_of_getElem? hl)
 obtain ⟨o,ho⟩:=step_gZ (φ:=e0) (χ:=n1 a d gg) (c:=0) (piv:=[]) (L:=1) (odd:=false) hlz (by decide) haz hSz hl hti ⟨by decide,by decide⟩ (by decide)
  (fun x _=>rfl) (fun i hi hik x _=>by
   rcases lt3 hi with rfl | rfl | rfl
   ·exact absurd rfl hik
   ·exact (fdiv_of (by decide) (by show a * x.2.1 - d * x.1=1 * _; rw [Int.one_mul]; rfl)).symm
   ·exact (fdiv_of (by decide) (by show a * x.2.2 - gg * x.1=1 * _; rw [Int.one_mul]; rfl)).symm)
 have hqa:(a:Rat)≠0:=fun e=>ha (Rat.intCast_inj.1 (by rw [e]; rfl))
 have hq:=step_gQ (φ:=e0q) (χ:=qE1 a d gg) (c:=0) (lead:=[]) (det:=1) hlen (by decide) hat hS hl Bd.one.q
  ((Bd.int _ (e0_bd hc 0)).q) (fun x hx=>(Bd.int _ (e0_bd (hb x hx) 0)).q) (fun x _=>rfl)
  (fun i hi hik x _=>by
   rcases lt3 hi with rfl | rfl | rfl
   ·exact absurd rfl hik
   ·show ((a * x.2.1 - d * x.1:Int):Rat) / (a:Rat)=(x.2.1:Rat) - (d:Rat) * ((x.1:Rat) / (a:Rat))
    rw [Rat.intCast_sub,Rat.intCast_mul,Rat.intCast_mul]; grind
   ·show ((a * x.2.2 - gg * x.1:Int):Rat) / (a:Rat)=(x.2.2:Rat) - (gg:Rat) * ((x.1:Rat) / (a:Rat))
    rw [Rat.intCast_sub,Rat.intCast_mul,Rat.intCast_mul]; grind)
  (fun i hi hik x hx=>by
   have k1:Bd 9 1 (e0q i (a,d,gg)):=Bd.int _ (e0_bd hc i)
   have k2:Bd 9 9 (qE1 a d gg 0 x):=Bd.of ha (hb x hx).1 hc.1
   exact subOk_of k1.q k2.q (k1.mul k2).q (Bd.int _ (e0_bd (hb x hx) i)).q)
 exact ⟨_,o,by
  rcases negIf_or 1 0 (atQ g 0 0) with e | e
  ·exact .inl (by show negIf 1 0 (atQ g 0 0) * (a:Rat)=_; rw [e,Rat.one_mul])
  ·exact .inr (by show negIf 1 0 (atQ g 0 0) * (a:Rat)=_; rw [e,Rat.neg_mul,Rat.one_mul]),hq,ho⟩
theorem m3_bd {a d g b e h:Int} {t:T3} (hc:BdT 9 (a,d,g)) (hd:BdT 9 (b,e,h)) (ht:BdT 9 t):(m3 a d g b e h t).natAbs≤4374:=by
 obtain ⟨h1,h2,h3⟩:=hc
 obtain ⟨k1,k2,k3⟩:=hd
 obtain ⟨t1,t2,t3⟩:=ht
 have h1:a.natAbs≤9:=h1
 have h2:d.natAbs≤9:=h2
 have h3:g.natAbs≤9:=h3
 have k1:b.natAbs≤9:=k1
 have k2:e.natAbs≤9:=k2
 have k3:h.natAbs≤9:=k3
 unfold m3
 exact abs_add (abs_sub (abs_mul h1 (abs_sub (abs_mul k2 t3) (abs_mul t2 k3))) (abs_mul k1 (abs_sub (abs_mul h2 t3) (abs_mul t2 h3)))) (abs_mul t1 (abs_sub (abs_mul h2 k3) (abs_mul k2 h3)))
theorem n2_bd {a d g b e h:Int} {t:T3} (hc:BdT 9 (a,d,g)) (hd:BdT 9 (b,e,h)) (ht:BdT 9 t) (i:Nat):(n2 a d g b e h i t).natAbs≤4374∧(i≠2→i < 3→(n2 a d g b e h i t).natAbs≤162):=by
 have hm:=m3_bd hc hd ht
 obtain ⟨h1,h2,h3⟩:=hc
 obtain ⟨k1,k2,k3⟩:=hd
 obtain ⟨t1,t2,t3⟩:=ht
 have h1:a.natAbs≤9:=h1
 have h2:d.natAbs≤9:=h2
 have k1:b.natAbs≤9:=k1
 have k2:e.natAbs≤9:=k2
 unfold n2
 split
 ·have:=abs_sub (abs_mul k2 t1) (abs_mul k1 t2); exact ⟨by omega,fun _ _=>this⟩
 ·split
  ·have:=abs_sub (abs_mul h1 t2) (abs_mul h2 t1); exact ⟨by omega,fun _ _=>this⟩
  ·exact ⟨hm,fun _ _=>by omega⟩
theorem stage1 {l:List T3} {g:List (List Rat)} {z:List (List Int)} {dt:Rat} {o:Bool} {a d gg b e h:Int} (hl:l[0]?=some (a,d,gg)) (hl1:l[1]?=some (b,e,h)) (hb:∀ t,t ∈ l→BdT 9 t) (ha:a≠0) (hP:a * e - b * d≠0) (hlen:g.length=3) (hat:atQ g 1 1≠3) (hS:swapIf g 1 (atQ g 1 1)=gG 3 (qE1 a d gg) l)
 (hlz:z.length=3) (haz:atZ z 1 1≠3) (hSz:swapZ z 1 (atZ z 1 1)=gG 3 (n1 a d gg) l) (hti:tiM z=true) (hdt:dt=(a:Rat)∨dt=-(a:Rat)) :
 ∃ dt' o',(dt'=((a * e - b * d:Int):Rat)∨dt'=-((a * e - b * d:Int):Rat))∧stepQ 1 ⟨g,[0],dt⟩=some ⟨gG 3 (qE (a * e - b * d) (n2 a d gg b e h)) l,[0,1],dt'⟩∧stepZ 1 ⟨z,[0],a,o⟩=some ⟨gG 3 (n2 a d gg b e h) l,[0,1],a * e - b * d,o'⟩:=by
 have hc:=hb _ (List.mem_of_getElem? hl)
 have hd:=hb _ (List.mem_of_getElem? hl1)
 have hcm:a * e - d * b=a * e - b * d:=by rw [Int.mul_comm d b]
 have hpb:(a * e - b * d).natAbs≤162:=abs_sub (abs_mul hc.1 hd.2.1) (abs_mul hd.1 hc.2.1)
 obtain ⟨o',ho⟩:=step_gZ (φ:=n1 a d gg) (χ:=n2 a d gg b e h) (c:=1) (piv:=[0]) (L:=a) (odd:=o) hlz (by decide) haz hSz hl1 hti ⟨by have:=hc.1; have:a.natAbs≤9:=this; omega,by have:=hc.1; have:a.natAbs≤9:=this; omega⟩ ha
  (fun x _=>rfl) (fun i hi hik x _=>by
   rcases lt3 hi with rfl | rfl | rfl
   ·exact (fdiv_of ha (by show (a * e - d * b) * x.1 - b * (a * x.2.1 - d * x.1)=a * (e * x.1 - b * x.2.1); grind)).symm
   ·exact absurd rfl hik
   ·exact (fdiv_of ha (by show (a * e - d * b) * (a * x.2.2 - gg * x.1) - (a * h - gg * b) * (a * x.2.1 - d * x.1)=a * (a * (e * x.2.2 - x.2.1 * h) - b * (d * x.2.2 - x.2.1 * gg)+x.1 * (d * h - e * gg)); grind)).symm)
 have hqa:(a:Rat)≠0:=fun e=>ha (Rat.intCast_inj.1 (by rw [e]; rfl))
 have hqP:((a * e - b * d:Int):Rat)≠0:=fun e=>hP (Rat.intCast_inj.1 (by rw [e]; rfl))
 have kphi:∀ i x,i < 3→x ∈ l→Bd 162 9 (qE1 a d gg i x):=fun i x hi hx=>by
  refine Bd.of ha ?_ hc.1
  show Int.natAbs (if i=0 then x.1 else n1 a d gg i x)≤_
  split
  ·exact abs_mono (hb x hx).1 (by decide)
  ·exact n1_bd hc (hb x hx) i
 have hq:=step_gQ (φ:=qE1 a d gg) (χ:=qE (a * e - b * d) (n2 a d gg b e h)) (c:=1) (lead:=[0]) (det:=dt) hlen (by decide) hat hS hl1 (dtq hdt hc.1 (by decide))
  ((kphi 1 _ (by decide) (List.mem_of_getElem? hl1)).q) (fun x hx=>(kphi 1 x (by decide) hx).q) (fun x _=>by
    show ((a * x.2.1 - d * x.1:Int):Rat) / ((a * e - b * d:Int):Rat)=((a * x.2.1 - d * x.1:Int):Rat) / (a:Rat) / (((a * e - d * b:Int):Rat) / (a:Rat))
    rw [hcm]; grind)
  (fun i hi hik x _=>by
   rcases lt3 hi with rfl | rfl | rfl
   ·show ((e * x.1 - b * x.2.1:Int):Rat) / ((a * e - b * d:Int):Rat)=(x.1:Rat) / (a:Rat) - (b:Rat) / (a:Rat) * (((a * x.2.1 - d * x.1:Int):Rat) / ((a * e - b * d:Int):Rat))
    simp only [Rat.intCast_sub,Rat.intCast_mul] at hqP ⊢; grind
   ·exact absurd rfl hik
   ·show ((a * (e * x.2.2 - x.2.1 * h) - b * (d * x.2.2 - x.2.1 * gg)+x.1 * (d * h - e * gg):Int):Rat) / ((a * e - b * d:Int):Rat)=((a * x.2.2 - gg * x.1:Int):Rat) / (a:Rat) - ((a * h - gg * b:Int):Rat) / (a:Rat) * (((a * x.2.1 - d * x.1:Int):Rat) / ((a * e - b * d:Int):Rat))
    simp only [Rat.intCast_sub,Rat.intCast_mul,Rat.intCast_add] at hqP ⊢; grind)
  (fun i hi hik x hx=>by
   have k1:=kphi i _ hi (List.mem_of_getElem? hl1)
   have k2:Bd 162 162 (qE (a * e - b * d) (n2 a d gg b e h) 1 x):=Bd.of hP ((n2_bd hc hd (hb x hx) 1).2 (by decide) (by decide)) hpb
   exact subOk_of k1.q k2.q (k1.mul k2).q (kphi i x hi hx).q)
 refine ⟨_,o', ?_,hq,by rw [← hcm]; exact ho⟩
 have hx:∀ y:Rat,(a:Rat) * (y / (a:Rat))=y:=fun y=>by grind
 rcases hdt with rfl | rfl <;> rcases negIf_or _ 1 (atQ g 1 1) with e9 | e9
 ·exact .inl (by show negIf _ 1 (atQ g 1 1) * (((a * e - d * b:Int):Rat) / (a:Rat))=_; rw [hcm,e9,hx])
 ·exact .inr (by show negIf _ 1 (atQ g 1 1) * (((a * e - d * b:Int):Rat) / (a:Rat))=_; rw [hcm,e9,Rat.neg_mul,hx])
 ·exact .inr (by show negIf _ 1 (atQ g 1 1) * (((a * e - d * b:Int):Rat) / (a:Rat))=_; rw [hcm,e9,Rat.neg_mul,hx])
 ·exact .inl (by show negIf _ 1 (atQ g 1 1) * (((a * e - d * b:Int):Rat) / (a:Rat))=_; rw [hcm,e9,Rat.neg_neg,hx])
theorem q_key {D P:Rat} (hD:D≠0) (hP:P≠0) {X N K M:Rat} (h:D * N - K * M=P * X):X / D=N / P - K / P * (M / D):=by grind
theorem q_div3 {D P:Rat} (hD:D≠0) (hP:P≠0) (m:Rat):m / D=m / P / (D / P):=by grind
theorem stage2 {l:List T3} {dt:Rat} {o:Bool} {a d gg b e h c f i:Int} (hl:l[0]?=some (a,d,gg)) (hl1:l[1]?=some (b,e,h)) (hl2:l[2]?=some (c,f,i)) (hb:∀ t,t ∈ l→BdT 9 t) (hP:a * e - b * d≠0) (hD:m3 a d gg b e h (c,f,i)≠0)
 {g:List (List Rat)} {z:List (List Int)} (hlen:g.length=3) (hat:atQ g 2 2≠3) (hS:swapIf g 2 (atQ g 2 2)=gG 3 (qE (a * e - b * d) (n2 a d gg b e h)) l)
 (hlz:z.length=3) (haz:atZ z 2 2≠3) (hSz:swapZ z 2 (atZ z 2 2)=gG 3 (n2 a d gg b e h) l) (hti:tiM z=true) (hdt:dt=((a * e - b * d:Int):Rat)∨dt=-((a * e - b * d:Int):Rat)) :
 ∃ dt' o',stepQ 2 ⟨g,[0,1],dt⟩=some ⟨gG 3 (qE (m3 a d gg b e h (c,f,i)) fun k t=>dot3 (co3 a d gg b e h c f i k) t) l,[0,1,2],dt'⟩ ∧
   stepZ 2 ⟨z,[0,1],a * e - b * d,o⟩=some ⟨gG 3 (fun k t=>dot3 (co3 a d gg b e h c f i k) t) l,[0,1,2],m3 a d gg b e h (c,f,i),o'⟩:=by
 have hc:=hb _ (List.mem_of_getElem? hl)
 have hd:=hb _ (List.mem_of_getElem? hl1)
 have he:=hb _ (List.mem_of_getElem? hl2)
 have hpb:(a * e - b * d).natAbs≤162:=abs_sub (abs_mul hc.1 hd.2.1) (abs_mul hd.1 hc.2.1)
 have hDb:=m3_bd hc hd he
 have i2:∀ x:T3,dot3 (co3 a d gg b e h c f i 2) x=m3 a d gg b e h x:=fun x=>by
  show (d * h - e * gg) * x.1+(b * gg - a * h) * x.2.1+(a * e - b * d) * x.2.2=a * (e * x.2.2 - x.2.1 * h) - b * (d * x.2.2 - x.2.1 * gg)+x.1 * (d * h - e * gg)
  grind
 have i0:∀ x:T3,m3 a d gg b e h (c,f,i) * (e * x.1 - b * x.2.1) - (e * c - b * f) * m3 a d gg b e h x=(a * e - b * d) * dot3 (co3 a d gg b e h c f i 0) x:=fun x=>by
  show (a * (e * i - f * h) - b * (d * i - f * gg)+c * (d * h - e * gg)) * (e * x.1 - b * x.2.1) - (e * c - b * f) * (a * (e * x.2.2 - x.2.1 * h) - b * (d * x.2.2 - x.2.1 * gg)+x.1 * (d * h - e * gg))=(a * e - b * d) * ((e * i - f * h) * x.1+(c * h - b * i) * x.2.1+(b * f - c * e) * x.2.2)
  grind
 have i1:∀ x:T3,m3 a d gg b e h (c,f,i) * (a * x.2.1 - d * x.1) - (a * f - d * c) * m3 a d gg b e h x=(a * e - b * d) * dot3 (co3 a d gg b e h c f i 1) x:=fun x=>by
  show (a * (e * i - f * h) - b * (d * i - f * gg)+c * (d * h - e * gg)) * (a * x.2.1 - d * x.1) - (a * f - d * c) * (a * (e * x.2.2 - x.2.1 * h) - b * (d * x.2.2 - x.2.1 * gg)+x.1 * (d * h - e * gg))=(a * e - b * d) * ((f * gg - d * i) * x.1+(a * i - c * gg) * x.2.1+(c * d - a * f) * x.2.2)
  grind
 obtain ⟨D,hDe⟩:∃ D,D=m3 a d gg b e h (c,f,i):=⟨_,rfl⟩
 rw [← hDe] at hD hDb ⊢
 simp only [← hDe] at i0 i1
 obtain ⟨P,hPe⟩:∃ P,P=a * e - b * d:=⟨_,rfl⟩
 rw [← hPe] at hP hpb hS hdt ⊢
 simp only [← hPe] at i0 i1
 obtain ⟨o',ho⟩:=step_gZ (φ:=n2 a d gg b e h) (χ:=fun k t=>dot3 (co3 a d gg b e h c f i k) t) (c:=2) (piv:=[0,1]) (L:=P) (odd:=o) hlz (by decide) haz hSz hl2 hti ⟨by omega,by omega⟩ hP
  (fun x _=>i2 x) (fun k hk hik x _=>by
   rcases lt3 hk with rfl | rfl | rfl
   ·exact (fdiv_of hP (by show m3 a d gg b e h (c,f,i) * (e * x.1 - b * x.2.1) - (e * c - b * f) * m3 a d gg b e h x=_; rw [← hDe]; exact i0 x)).symm
   ·exact (fdiv_of hP (by show m3 a d gg b e h (c,f,i) * (a * x.2.1 - d * x.1) - (a * f - d * c) * m3 a d gg b e h x=_; rw [← hDe]; exact i1 x)).symm
   ·exact absurd rfl hik)
 have hqP:(P:Rat)≠0:=fun e=>hP (Rat.intCast_inj.1 (by rw [e]; rfl))
 have hqD:(D:Rat)≠0:=fun e=>hD (Rat.intCast_inj.1 (by rw [e]; rfl))
 have kphi:∀ k x,k < 3→x ∈ l→Bd 4374 162 (qE P (n2 a d gg b e h) k x):=fun k x _ hx=>Bd.of hP (n2_bd hc hd (hb x hx) k).1 hpb
 have kfac:∀ k,k < 3→k≠2→Bd 162 162 (qE P (n2 a d gg b e h) k (c,f,i)):=fun k hk hk2=>Bd.of hP ((n2_bd hc hd he k).2 hk2 hk) hpb
 have key:∀ (X N K M:Int),D * N - K * M=P * X→(X:Rat) / (D:Rat)=(N:Rat) / (P:Rat) - (K:Rat) / (P:Rat) * ((M:Rat) / (D:Rat)):=fun X N K M h=>by
  have h:=congrArg (fun t:Int=>(t:Rat)) h
  simp only [Rat.intCast_sub,Rat.intCast_mul] at h
  exact q_key hqD hqP h
 have hq:=step_gQ (φ:=qE P (n2 a d gg b e h)) (χ:=qE D fun k t=>dot3 (co3 a d gg b e h c f i k) t) (c:=2) (lead:=[0,1]) (det:=dt) hlen (by decide) hat hS hl2 (dtq hdt hpb (by decide))
  ((kphi 2 _ (by decide) (List.mem_of_getElem? hl2)).q) (fun x hx=>(kphi 2 x (by decide) hx).q) (fun x _=>by
    show ((dot3 (co3 a d gg b e h c f i 2) x:Int):Rat) / (D:Rat)=(m3 a d gg b e h x:Rat) / (P:Rat) / ((m3 a d gg b e h (c,f,i):Rat) / (P:Rat))
    rw [i2,← hDe]
    exact q_div3 hqD hqP _)
  (fun k hk hik x _=>by
   rcases lt3 hk with rfl | rfl | rfl
   ·show _=(((e * x.1 - b * x.2.1:Int)):Rat) / (P:Rat) - ((e * c - b * f:Int):Rat) / (P:Rat) * (((dot3 (co3 a d gg b e h c f i 2) x:Int):Rat) / (D:Rat))
    rw [i2]; exact key _ _ _ _ (i0 x)
   ·show _=(((a * x.2.1 - d * x.1:Int)):Rat) / (P:Rat) - ((a * f - d * c:Int):Rat) / (P:Rat) * (((dot3 (co3 a d gg b e h c f i 2) x:Int):Rat) / (D:Rat))
    rw [i2]; exact key _ _ _ _ (i1 x)
   ·exact absurd rfl hik)
  (fun k hk hik x hx=>by
   have k2:Bd 4374 4374 (qE D (fun k t=>dot3 (co3 a d gg b e h c f i k) t) 2 x):=Bd.of hD (by show Int.natAbs (dot3 (co3 a d gg b e h c f i 2) x)≤_; rw [i2]; exact m3_bd hc hd (hb x hx)) hDb
   exact subOk_of (kfac k hk hik).q k2.q ((kfac k hk hik).mul k2).q (kphi k x hk hx).q)
 refine ⟨_,o',hq, ?_⟩
 have ho2:n2 a d gg b e h 2 (c,f,i)=D:=hDe.symm
 rw [show n2 a d gg b e h ([0,1]:List Nat).length (c,f,i)=D from ho2] at ho
 exact ho
def D3 (x y z:T3):Int:=m3 x.1 x.2.1 x.2.2 y.1 y.2.1 y.2.2 z
def SgP (σ:T3→T3):Prop:=LinP σ∧∀ x y z,D3 x y z≠0→D3 (σ x) (σ y) (σ z)≠0
theorem sgP_id:SgP id:=⟨linP_id,fun _ _ _ h=>h⟩
theorem D3_s01 (x y z:T3):D3 (s01 x) (s01 y) (s01 z)=-D3 x y z:=by unfold D3 m3 s01; grind
theorem D3_s02 (x y z:T3):D3 (s02 x) (s02 y) (s02 z)=-D3 x y z:=by unfold D3 m3 s02; grind
theorem D3_s12 (x y z:T3):D3 (s12 x) (s12 y) (s12 z)=-D3 x y z:=by unfold D3 m3 s12; grind
theorem sgP_s01:SgP s01:=⟨linP_s01,fun x y z h=>by rw [D3_s01]; omega⟩
theorem sgP_s02:SgP s02:=⟨linP_s02,fun x y z h=>by rw [D3_s02]; omega⟩
theorem sgP_s12:SgP s12:=⟨linP_s12,fun x y z h=>by rw [D3_s12]; omega⟩
theorem bd_map {σ:T3→T3} (hσ:LinP σ) {l:List T3} (hb:∀ t,t ∈ l→BdT 9 t):∀ t,t ∈ l.map σ→BdT 9 t:=fun t ht=>by
 obtain ⟨x,hx,rfl⟩:=List.mem_map.1 ht
 exact hσ.1 x 9 (hb x hx)
theorem mem_map9 {σ:T3→T3} {l:List T3} {k:Nat} {x:T3} (h:l[k]?=some x):(l.map σ)[k]?=some ((σ x).1,(σ x).2.1,(σ x).2.2):=by rw [List.getElem?_map,h]; rfl
theorem map_eid (l:List T3):l.map id=l:=List.map_id l
theorem go0 {l:List T3} {x y z:T3} (hl:l[0]?=some x) (hb:∀ t,t ∈ l→BdT 9 t) (hD:D3 x y z≠0) :
 ∃ σ dt o,SgP σ∧(σ x).1≠0∧(dt=((σ x).1:Rat)∨dt=-((σ x).1:Rat))∧stepQ 0 ⟨gG 3 e0q l,[],1⟩=some ⟨gG 3 (qE1 (σ x).1 (σ x).2.1 (σ x).2.2) (l.map σ),[0],dt⟩∧stepZ 0 ⟨gG 3 e0 l,[],1,false⟩=some ⟨gG 3 (n1 (σ x).1 (σ x).2.1 (σ x).2.2) (l.map σ),[0],(σ x).1,o⟩:=by
 have hti:tiM (gG 3 e0 l)=true:=tiM_gZ fun i _ t ht=>abs_mono (e0_bd (hb t ht) i) (by decide)
 have cq:∀ k,e0 k x=0→e0q k x=0:=fun k h=>by unfold e0q; rw [h]; rfl
 have cn:∀ k,e0 k x≠0→e0q k x≠0:=fun k h e=>h (Rat.intCast_inj.1 (by unfold e0q at e; rw [e]; rfl))
 by_cases h0:x.1=0
 ·by_cases h1:x.2.1=0
  ·have h2:x.2.2≠0:=fun h2=>hD (by unfold D3 m3; rw [h0,h1,h2]; grind)
   have e1:atQ (gG 3 e0q l) 0 0=2:=at_gQ hl (by decide) (by decide) (fun i _ hi=>by rcases lt3 (Nat.lt_trans hi (by decide)) with rfl | rfl | rfl; exact cq 0 h0; exact cq 1 h1; omega) (cn 2 h2)
   have e2:atZ (gG 3 e0 l) 0 0=2:=at_gZ hl (by decide) (by decide) (fun i _ hi=>by rcases lt3 (Nat.lt_trans hi (by decide)) with rfl | rfl | rfl; exact h0; exact h1; omega) h2
   obtain ⟨dt,o,a,b,c⟩:=stage0 (l:=l.map s02) (g:=gG 3 e0q l) (z:=gG 3 e0 l) (mem_map9 hl) (bd_map linP_s02 hb) h2 rfl (by rw [e1]; decide)
    (by rw [e1]; unfold swapIf; rw [if_neg (by decide)]; exact gG_swp (by decide) (by decide) (by funext t; rfl) (by funext t; rfl) (fun k hk _ _=>by rcases lt3 hk with rfl | rfl | rfl <;> first | (funext t; rfl) | omega)) rfl (by rw [e2]; decide) (by rw [e2]; unfold swapZ; rw [if_neg (by decide)]; exact gG_swp (by decide) (by decide) (by funext t; rfl) (by funext t; rfl) (fun k hk _ _=>by rcases lt3 hk with rfl | rfl | rfl <;> first | (funext t; rfl) | omega)) hti
   exact ⟨s02,dt,o,sgP_s02,h2,a,b,c⟩
  ·have e1:atQ (gG 3 e0q l) 0 0=1:=at_gQ hl (by decide) (by decide) (fun i _ hi=>by rw [show i=0 by omega]; exact cq 0 h0) (cn 1 h1)
   have e2:atZ (gG 3 e0 l) 0 0=1:=at_gZ hl (by decide) (by decide) (fun i _ hi=>by rw [show i=0 by omega]; exact h0) h1
   obtain ⟨dt,o,a,b,c⟩:=stage0 (l:=l.map s01) (g:=gG 3 e0q l) (z:=gG 3 e0 l) (mem_map9 hl) (bd_map linP_s01 hb) h1 rfl (by rw [e1]; decide)
    (by rw [e1]; unfold swapIf; rw [if_neg (by decide)]; exact gG_swp (by decide) (by decide) (by funext t; rfl) (by funext t; rfl) (fun k hk _ _=>by rcases lt3 hk with rfl | rfl | rfl <;> first | (funext t; rfl) | omega)) rfl (by rw [e2]; decide) (by rw [e2]; unfold swapZ; rw [if_neg (by decide)]; exact gG_swp (by decide) (by decide) (by funext t; rfl) (by funext t; rfl) (fun k hk _ _=>by rcases lt3 hk with rfl | rfl | rfl <;> first | (funext t; rfl) | omega)) hti
   exact ⟨s01,dt,o,sgP_s01,h1,a,b,c⟩
 ·have e1:atQ (gG 3 e0q l) 0 0=0:=at_gQ hl (by decide) (by decide) (fun i _ hi=>by omega) (cn 0 h0)
  have e2:atZ (gG 3 e0 l) 0 0=0:=at_gZ hl (by decide) (by decide) (fun i _ hi=>by omega) h0
  obtain ⟨dt,o,a,b,c⟩:=stage0 (l:=l) (g:=gG 3 e0q l) (z:=gG 3 e0 l) (a:=x.1) (d:=x.2.1) (gg:=x.2.2) hl hb h0 rfl (by rw [e1]; decide) (by rw [e1]; rfl) rfl (by rw [e2]; decide) (by rw [e2]; rfl) hti
  exact ⟨id,dt,o,sgP_id,h0,a,by rw [map_eid]; exact b,by rw [map_eid]; exact c⟩
theorem go1 {l:List T3} {x y z:T3} {dt:Rat} {o:Bool} (hl:l[0]?=some x) (hl1:l[1]?=some y) (hb:∀ t,t ∈ l→BdT 9 t) (hD:D3 x y z≠0) (ha:x.1≠0) (hdt:dt=(x.1:Rat)∨dt=-(x.1:Rat)) :
 ∃ σ dt' o',SgP σ∧(σ x).1 * (σ y).2.1 - (σ y).1 * (σ x).2.1≠0∧(dt'=(((σ x).1 * (σ y).2.1 - (σ y).1 * (σ x).2.1:Int):Rat)∨dt'=-(((σ x).1 * (σ y).2.1 - (σ y).1 * (σ x).2.1:Int):Rat)) ∧
   stepQ 1 ⟨gG 3 (qE1 x.1 x.2.1 x.2.2) l,[0],dt⟩=some ⟨gG 3 (qE ((σ x).1 * (σ y).2.1 - (σ y).1 * (σ x).2.1) (n2 (σ x).1 (σ x).2.1 (σ x).2.2 (σ y).1 (σ y).2.1 (σ y).2.2)) (l.map σ),[0,1],dt'⟩ ∧
   stepZ 1 ⟨gG 3 (n1 x.1 x.2.1 x.2.2) l,[0],x.1,o⟩=some ⟨gG 3 (n2 (σ x).1 (σ x).2.1 (σ x).2.2 (σ y).1 (σ y).2.1 (σ y).2.2) (l.map σ),[0,1],(σ x).1 * (σ y).2.1 - (σ y).1 * (σ x).2.1,o'⟩:=by
 have hc:=hb _ (List.mem_of_getElem? hl)
 have hti:tiM (gG 3 (n1 x.1 x.2.1 x.2.2) l)=true:=tiM_gZ fun i _ t ht=>abs_mono (n1_bd hc (hb t ht) i) (by decide)
 have hqa:(x.1:Rat)≠0:=fun e=>ha (Rat.intCast_inj.1 (by rw [e]; rfl))
 have cq:∀ k,0 < k→n1 x.1 x.2.1 x.2.2 k y=0→qE1 x.1 x.2.1 x.2.2 k y=0:=fun k hk h=>by
  show ((if k=0 then y.1 else n1 x.1 x.2.1 x.2.2 k y:Int):Rat) / _=0
  rw [if_neg (by omega),h,Rat.div_def]; exact Rat.zero_mul _
 have cn:∀ k,0 < k→n1 x.1 x.2.1 x.2.2 k y≠0→qE1 x.1 x.2.1 x.2.2 k y≠0:=fun k hk h e=>h (Rat.intCast_inj.1 (by
  have e:((if k=0 then y.1 else n1 x.1 x.2.1 x.2.2 k y:Int):Rat) / (x.1:Rat)=0:=e
  rw [if_neg (by omega)] at e
  have:((n1 x.1 x.2.1 x.2.2 k y:Int):Rat)=0:=by grind
  rw [this]; rfl))
 by_cases h1:n1 x.1 x.2.1 x.2.2 1 y=0
 ·have h2:n1 x.1 x.2.1 x.2.2 2 y≠0:=fun h2=>hD (by
   have h1:x.1 * y.2.1 - x.2.1 * y.1=0:=h1
   have h2:x.1 * y.2.2 - x.2.2 * y.1=0:=h2
   have h3:x.1 * D3 x y z=0:=by unfold D3 m3; grind
   rcases Int.mul_eq_zero.1 h3 with h | h
   ·exact absurd h ha
   ·exact h)
  have e1:atQ (gG 3 (qE1 x.1 x.2.1 x.2.2) l) 1 1=2:=at_gQ hl1 (by decide) (by decide) (fun i _ hi=>by rw [show i=1 by omega]; exact cq 1 (by decide) h1) (cn 2 (by decide) h2)
  have e2:atZ (gG 3 (n1 x.1 x.2.1 x.2.2) l) 1 1=2:=at_gZ hl1 (by decide) (by decide) (fun i _ hi=>by rw [show i=1 by omega]; exact h1) h2
  have hP:x.1 * y.2.2 - y.1 * x.2.2≠0:=by rw [Int.mul_comm y.1]; exact h2
  obtain ⟨dt',o',a,b,c⟩:=stage1 (l:=l.map s12) (g:=gG 3 (qE1 x.1 x.2.1 x.2.2) l) (z:=gG 3 (n1 x.1 x.2.1 x.2.2) l) (dt:=dt) (o:=o) (mem_map9 hl) (mem_map9 hl1) (bd_map linP_s12 hb) ha hP rfl (by rw [e1]; decide)
   (by rw [e1]; unfold swapIf; rw [if_neg (by decide)]; exact gG_swp (by decide) (by decide) (by funext t; rfl) (by funext t; rfl) (fun k hk _ _=>by rcases lt3 hk with rfl | rfl | rfl <;> first | (funext t; rfl) | omega)) rfl (by rw [e2]; decide) (by rw [e2]; unfold swapZ; rw [if_neg (by decide)]; exact gG_swp (by decide) (by decide) (by funext t; rfl) (by funext t; rfl) (fun k hk _ _=>by rcases lt3 hk with rfl | rfl | rfl <;> first | (funext t; rfl) | omega)) hti hdt
  exact ⟨s12,dt',o',sgP_s12,hP,a,b,c⟩
 ·have e1:atQ (gG 3 (qE1 x.1 x.2.1 x.2.2) l) 1 1=1:=at_gQ hl1 (by decide) (by decide) (fun i _ hi=>by omega) (cn 1 (by decide) h1)
  have e2:atZ (gG 3 (n1 x.1 x.2.1 x.2.2) l) 1 1=1:=at_gZ hl1 (by decide) (by decide) (fun i _ hi=>by omega) h1
  have hP:x.1 * y.2.1 - y.1 * x.2.1≠0:=by rw [Int.mul_comm y.1]; exact h1
  obtain ⟨dt',o',a,b,c⟩:=stage1 (l:=l) (g:=gG 3 (qE1 x.1 x.2.1 x.2.2) l) (z:=gG 3 (n1 x.1 x.2.1 x.2.2) l) (dt:=dt) (o:=o) (a:=x.1) (d:=x.2.1) (gg:=x.2.2) (b:=y.1) (e:=y.2.1) (h:=y.2.2) hl hl1 hb ha hP rfl (by rw [e1]; decide)
   (by rw [e1]; rfl) rfl (by rw [e2]; decide) (by rw [e2]; rfl) hti hdt
  exact ⟨id,dt',o',sgP_id,hP,a,by rw [map_eid]; exact b,by rw [map_eid]; exact c⟩
theorem co3_dot {x y z:T3} {i c:Nat} (hi:i < 3) (hc:c < 3) {t:T3} (ht:[x,y,z][c]?=some t):dot3 (co3 x.1 x.2.1 x.2.2 y.1 y.2.1 y.2.2 z.1 z.2.1 z.2.2 i) t=if i=c then D3 x y z else 0:=by
 rcases lt3 hi with rfl | rfl | rfl <;> rcases lt3 hc with rfl | rfl | rfl <;> injection ht with ht <;> subst ht <;> simp [co3,dot3,c0,c1,c2,D3,m3] <;> grind
theorem co3_bd {x y z:T3} (hx:BdT 9 x) (hy:BdT 9 y) (hz:BdT 9 z) (i:Nat):BdT 162 (co3 x.1 x.2.1 x.2.2 y.1 y.2.1 y.2.2 z.1 z.2.1 z.2.2 i):=by
 obtain ⟨x1,x2,x3⟩:=hx
 obtain ⟨y1,y2,y3⟩:=hy
 obtain ⟨z1,z2,z3⟩:=hz
 have s:∀ {a b c d:Int},a.natAbs≤9→b.natAbs≤9→c.natAbs≤9→d.natAbs≤9→(a * b - c * d).natAbs≤162:=fun h1 h2 h3 h4=>abs_sub (abs_mul h1 h2) (abs_mul h3 h4)
 unfold co3
 split
 ·exact ⟨s y2 z3 z2 y3,s z1 y3 y1 z3,s y1 z2 z1 y2⟩
 ·split
  ·exact ⟨s z2 x3 x2 z3,s x1 z3 z1 x3,s z1 x2 x1 z2⟩
  ·exact ⟨s x2 y3 y2 x3,s y1 x3 x1 y3,s x1 y2 y1 x2⟩
theorem aug3 {l:List T3} {x y z:T3} (hl:l[0]?=some x) (hl1:l[1]?=some y) (hl2:l[2]?=some z) (hb:∀ t,t ∈ l→BdT 9 t) (hD:D3 x y z≠0) :
 ∃ (co:Nat→T3) (D:Int) (dt:Rat) (o:Bool),redTo (gG 3 e0q l) 3=some ⟨gG 3 (qE D fun i t=>dot3 (co i) t) l,[0,1,2],dt⟩∧elZ (gG 3 e0 l) 3=some ⟨gG 3 (fun i t=>dot3 (co i) t) l,[0,1,2],D,o⟩ ∧
   D≠0∧D.natAbs≤4374∧(∀ i,i < 3→BdT 162 (co i))∧∀ i c t,i < 3→c < 3→[x,y,z][c]?=some t→dot3 (co i) t=if i=c then D else 0:=by
 obtain ⟨σ,dt,o,hσ,ha,hdt,hq,hz⟩:=go0 hl hb hD
 have hb1:=bd_map hσ.1 hb
 obtain ⟨τ,dt1,o1,hτ,hP,hdt1,hq1,hz1⟩:=go1 (o:=o) (mem_map9 (σ:=σ) hl) (mem_map9 (σ:=σ) hl1) hb1 (hσ.2 _ _ _ hD) ha hdt
 have hb2:=bd_map hτ.1 hb1
 have hD2:=hτ.2 _ _ _ (hσ.2 _ _ _ hD)
 have hl':=mem_map9 (σ:=τ) (mem_map9 (σ:=σ) hl)
 have hl1':=mem_map9 (σ:=τ) (mem_map9 (σ:=σ) hl1)
 have hl2':=mem_map9 (σ:=τ) (mem_map9 (σ:=σ) hl2)
 obtain ⟨ρ,hρ⟩:∃ ρ,ρ=τ ∘ σ:=⟨_,rfl⟩
 have kl:LinP ρ:=by rw [hρ]; exact hτ.1.comp hσ.1
 have hbx:=hb _ (List.mem_of_getElem? hl)
 have hby:=hb _ (List.mem_of_getElem? hl1)
 have hbz:=hb _ (List.mem_of_getElem? hl2)
 have rx:∀ t,τ (σ t)=ρ t:=fun t=>by rw [hρ]; rfl
 have hm:(l.map σ).map τ=l.map ρ:=by rw [List.map_map,hρ]
 have hch:∀ i,∃ co',(∀ t,dot3 (co3 (ρ x).1 (ρ x).2.1 (ρ x).2.2 (ρ y).1 (ρ y).2.1 (ρ y).2.2 (ρ z).1 (ρ z).2.1 (ρ z).2.2 i) (ρ t)=dot3 co' t)∧BdT 162 co':=fun i=>by
  obtain ⟨c',h1,h2⟩:=kl.2 (co3 (ρ x).1 (ρ x).2.1 (ρ x).2.2 (ρ y).1 (ρ y).2.1 (ρ y).2.2 (ρ z).1 (ρ z).2.1 (ρ z).2.2 i)
  exact ⟨c',h1,h2 162 (co3_bd (kl.1 _ _ hbx) (kl.1 _ _ hby) (kl.1 _ _ hbz) i)⟩
 refine ⟨fun i=>(hch i).choose,D3 (ρ x) (ρ y) (ρ z), ?_⟩
 have hco:=fun i=>(hch i).choose_spec
 simp only [rx,hm] at hP hdt1 hq1 hz1 hl' hl1' hl2' hD2 hb2
 have hti:tiM (gG 3 (n2 (ρ x).1 (ρ x).2.1 (ρ x).2.2 (ρ y).1 (ρ y).2.1 (ρ y).2.2) (l.map ρ))=true:=tiM_gZ fun i _ t ht=>(n2_bd (kl.1 _ _ hbx) (kl.1 _ _ hby) (hb2 t ht) i).1
 have hq2:n2 (ρ x).1 (ρ x).2.1 (ρ x).2.2 (ρ y).1 (ρ y).2.1 (ρ y).2.2 2 (ρ z)≠0:=hD2
 have hqP:(((ρ x).1 * (ρ y).2.1 - (ρ y).1 * (ρ x).2.1:Int):Rat)≠0:=fun e=>hP (Rat.intCast_inj.1 (by rw [e]; rfl))
 have e1:=at_gQ (n:=3) (k:=2) (φ:=qE ((ρ x).1 * (ρ y).2.1 - (ρ y).1 * (ρ x).2.1) (n2 (ρ x).1 (ρ x).2.1 (ρ x).2.2 (ρ y).1 (ρ y).2.1 (ρ y).2.2)) hl2' (by decide) (Nat.le_refl 2) (fun i _ hi=>by omega) (fun e=>hq2 (Rat.intCast_inj.1 (by
  have e:((n2 (ρ x).1 (ρ x).2.1 (ρ x).2.2 (ρ y).1 (ρ y).2.1 (ρ y).2.2 2 (ρ z):Int):Rat) / _=0:=e
  generalize ((n2 (ρ x).1 (ρ x).2.1 (ρ x).2.2 (ρ y).1 (ρ y).2.1 (ρ y).2.2 2 (ρ z):Int):Rat)=m at e
  have e:m=0:=by grind
  rw [e]; rfl)))
 have e2:=at_gZ (n:=3) (k:=2) (φ:=n2 (ρ x).1 (ρ x).2.1 (ρ x).2.2 (ρ y).1 (ρ y).2.1 (ρ y).2.2) hl2' (by decide) (Nat.le_refl 2) (fun i _ hi=>by omega) hq2
 obtain ⟨dt2,o2,hq3,hz3⟩:=stage2 (o:=o1) hl' hl1' hl2' hb2 hP hD2 (g:=gG 3 (qE ((ρ x).1 * (ρ y).2.1 - (ρ y).1 * (ρ x).2.1) (n2 (ρ x).1 (ρ x).2.1 (ρ x).2.2 (ρ y).1 (ρ y).2.1 (ρ y).2.2)) (l.map ρ)) rfl (by rw [e1]; decide) (by rw [e1]; rfl)
  (z:=gG 3 (n2 (ρ x).1 (ρ x).2.1 (ρ x).2.2 (ρ y).1 (ρ y).2.1 (ρ y).2.2) (l.map ρ)) rfl (by rw [e2]; decide) (by rw [e2]; rfl) hti hdt1
 refine ⟨dt2,o2, ?_, ?_,hD2,m3_bd (kl.1 _ _ hbx) (kl.1 _ _ hby) (kl.1 _ _ hbz),fun i _=>(hco i).2,fun i c t hi hc ht=>?_⟩
 ·rw [redTo,redTo,redTo,redTo,Option.bind_some,hq,Option.bind_some,hq1,Option.bind_some,hq3]
  refine congrArg some (congrArg (fun g=>RS.mk g [0,1,2] dt2) ((gG_comp _ _ _).trans (gG_congr fun i _ t _=>?_)))
  show ((dot3 _ (ρ t):Int):Rat) / _=((dot3 _ t:Int):Rat) / _
  rw [(hco i).1 t]; rfl
 ·rw [elZ,elZ,elZ,elZ,Option.bind_some,hz,Option.bind_some,hz1,Option.bind_some,hz3]
  refine congrArg some (congrArg (fun g=>EZ.mk g [0,1,2] _ o2) ((gG_comp _ _ _).trans (gG_congr fun i _ t _=>?_)))
  exact (hco i).1 t
 ·rw [← (hco i).1 t]
  refine co3_dot hi hc ?_
  have:=congrArg (Option.map ρ) ht
  rw [← List.getElem?_map] at this
  exact this
theorem aug2 {l:List (Int×Int)} {x y:Int×Int} (hl:l[0]?=some x) (hl1:l[1]?=some y) (hb:∀ t,t ∈ l→t.1.natAbs≤9∧t.2.natAbs≤9) (hD:x.1 * y.2 - y.1 * x.2≠0) :
 ∃ (co:Nat→Int×Int) (D:Int) (dt:Rat) (o:Bool),redTo (gG 2 (fun i t=>((if i=0 then t.1 else t.2:Int):Rat)) l) 2=some ⟨gG 2 (fun i t=>(((co i).1 * t.1+(co i).2 * t.2:Int):Rat) / (D:Rat)) l,[0,1],dt⟩ ∧
   elZ (gG 2 (fun i t=>if i=0 then t.1 else t.2) l) 2=some ⟨gG 2 (fun i t=>(co i).1 * t.1+(co i).2 * t.2) l,[0,1],D,o⟩ ∧
   D≠0∧D.natAbs≤162∧(∀ i,(co i).1.natAbs≤9∧(co i).2.natAbs≤9)∧∀ i c t,i < 2→c < 2→[x,y][c]?=some t→(co i).1 * t.1+(co i).2 * t.2=if i=c then D else 0:=by
 have lt2:∀ {i:Nat},i < 2→i=0∨i=1:=fun h=>by omega
 have nz:∀ {a:Int},a≠0→(a:Rat)≠0:=fun ha e=>ha (Rat.intCast_inj.1 (by rw [e]; rfl))
 -- the pivot in the first row of l
 have core:∀ {l:List (Int×Int)} {x y:Int×Int} {g:List (List Rat)} {z:List (List Int)},l[0]?=some x→l[1]?=some y→(∀ t,t ∈ l→t.1.natAbs≤9∧t.2.natAbs≤9)→x.1 * y.2 - y.1 * x.2≠0→x.1≠0 →
  g.length=2→atQ g 0 0≠2→swapIf g 0 (atQ g 0 0)=gG 2 (fun i t=>((if i=0 then t.1 else t.2:Int):Rat)) l→z.length=2→atZ z 0 0≠2→swapZ z 0 (atZ z 0 0)=gG 2 (fun i t=>if i=0 then t.1 else t.2) l→tiM z=true →
  ∃ dt o,redTo g 2=some ⟨gG 2 (fun i t=>((if i=0 then y.2 * t.1 - y.1 * t.2 else x.1 * t.2 - x.2 * t.1:Int):Rat) / ((x.1 * y.2 - y.1 * x.2:Int):Rat)) l,[0,1],dt⟩ ∧
    elZ z 2=some ⟨gG 2 (fun i t=>if i=0 then y.2 * t.1 - y.1 * t.2 else x.1 * t.2 - x.2 * t.1) l,[0,1],x.1 * y.2 - y.1 * x.2,o⟩:=by
  intro l x y g z hl hl1 hb hD ha hlen hat hS hlz haz hSz hti
  obtain ⟨xa,xb⟩:=hb _ (List.mem_of_getElem? hl)
  obtain ⟨ya,yb⟩:=hb _ (List.mem_of_getElem? hl1)
  have hqa:=nz ha
  have hqD:=nz hD
  have hcm:x.1 * y.2 - x.2 * y.1=x.1 * y.2 - y.1 * x.2:=by rw [Int.mul_comm x.2]
  have hDb:(x.1 * y.2 - y.1 * x.2).natAbs≤162:=abs_sub (abs_mul xa yb) (abs_mul ya xb)
  have bx:∀ t,t ∈ l→(x.1 * t.2 - x.2 * t.1).natAbs≤162:=fun t ht=>abs_sub (abs_mul xa (hb t ht).2) (abs_mul xb (hb t ht).1)
  have by':∀ t,t ∈ l→(y.2 * t.1 - y.1 * t.2).natAbs≤162:=fun t ht=>abs_sub (abs_mul yb (hb t ht).1) (abs_mul ya (hb t ht).2)
  obtain ⟨o,ho⟩:=step_gZ (χ:=fun i t=>if i=0 then t.1 else x.1 * t.2 - x.2 * t.1) (c:=0) (piv:=[]) (L:=1) (odd:=false) hlz (by decide) haz hSz hl hti ⟨by decide,by decide⟩ (by decide)
   (fun t _=>rfl) (fun i hi hik t _=>by
    rcases lt2 hi with rfl | rfl
    ·exact absurd rfl hik
    ·exact (fdiv_of (by decide) (by show x.1 * t.2 - x.2 * t.1=1 * _; rw [Int.one_mul]; rfl)).symm)
  have hq:=step_gQ (χ:=fun i t=>((if i=0 then t.1 else x.1 * t.2 - x.2 * t.1:Int):Rat) / (x.1:Rat)) (c:=0) (lead:=[]) (det:=1) hlen (by decide) hat hS hl Bd.one.q
   ((Bd.int _ xa).q) (fun t ht=>(Bd.int _ (hb t ht).1).q) (fun t _=>rfl)
   (fun i hi hik t _=>by
    rcases lt2 hi with rfl | rfl
    ·exact absurd rfl hik
    ·show ((x.1 * t.2 - x.2 * t.1:Int):Rat) / (x.1:Rat)=(t.2:Rat) - (x.2:Rat) * ((t.1:Rat) / (x.1:Rat))
     rw [Rat.intCast_sub,Rat.intCast_mul,Rat.intCast_mul]; grind)
   (fun i hi hik t ht=>by
    rcases lt2 hi with rfl | rfl
    ·exact absurd rfl hik
    ·have k1:Bd 9 1 (x.2:Rat):=Bd.int _ xb
     have k2:Bd 9 9 ((t.1:Rat) / (x.1:Rat)):=Bd.of ha (hb t ht).1 xa
     exact subOk_of k1.q k2.q (k1.mul k2).q (Bd.int _ (hb t ht).2).q)
  have hdt:negIf 1 0 (atQ g 0 0) * (x.1:Rat)=(x.1:Rat)∨negIf 1 0 (atQ g 0 0) * (x.1:Rat)=-(x.1:Rat):=by
   rcases negIf_or 1 0 (atQ g 0 0) with e | e
   ·exact .inl (by rw [e,Rat.one_mul])
   ·exact .inr (by rw [e,Rat.neg_mul,Rat.one_mul])
  obtain ⟨dt,hdt9⟩:∃ dt,dt=negIf 1 0 (atQ g 0 0) * (x.1:Rat):=⟨_,rfl⟩
  rw [← hdt9] at hdt
  have hq:stepQ 0 ⟨g,[],1⟩=some ⟨gG 2 (fun i t=>((if i=0 then t.1 else x.1 * t.2 - x.2 * t.1:Int):Rat) / (x.1:Rat)) l,[0],dt⟩:=by rw [hdt9]; exact hq
  have ho:stepZ 0 ⟨z,[],1,false⟩=some ⟨gG 2 (fun i t=>if i=0 then t.1 else x.1 * t.2 - x.2 * t.1) l,[0],x.1,o⟩:=ho
  have e1:atQ (gG 2 (fun i t=>((if i=0 then t.1 else x.1 * t.2 - x.2 * t.1:Int):Rat) / (x.1:Rat)) l) 1 1=1:=at_gQ hl1 (by decide) (by decide) (fun i _ hi=>by omega) (by
   show ((x.1 * y.2 - x.2 * y.1:Int):Rat) / (x.1:Rat)≠0
   rw [hcm]; exact fun e=>hqD (by grind))
  have e2:atZ (gG 2 (fun i t=>if i=0 then t.1 else x.1 * t.2 - x.2 * t.1) l) 1 1=1:=at_gZ hl1 (by decide) (by decide) (fun i _ hi=>by omega) (by show x.1 * y.2 - x.2 * y.1≠0; rw [hcm]; exact hD)
  obtain ⟨o',ho'⟩:=step_gZ (φ:=fun i t=>if i=0 then t.1 else x.1 * t.2 - x.2 * t.1) (χ:=fun i t=>if i=0 then y.2 * t.1 - y.1 * t.2 else x.1 * t.2 - x.2 * t.1) (g:=gG 2 (fun i t=>if i=0 then t.1 else x.1 * t.2 - x.2 * t.1) l) (c:=1) (piv:=[0]) (L:=x.1) (odd:=o) (gG_len _ _ _) (by decide) (by show atZ _ 1 1≠2; rw [e2]; decide) (by show swapZ _ 1 (atZ _ 1 1)=_; rw [e2]; rfl) hl1
   (tiM_gZ fun i _ t ht=>by
    show Int.natAbs (if i=0 then t.1 else x.1 * t.2 - x.2 * t.1)≤_
    split
    ·exact abs_mono (hb t ht).1 (by decide)
    ·exact abs_mono (bx t ht) (by decide)) ⟨by omega,by omega⟩ ha
   (fun t _=>rfl) (fun i hi hik t _=>by
    rcases lt2 hi with rfl | rfl
    ·exact (fdiv_of ha (by show (x.1 * y.2 - x.2 * y.1) * t.1 - y.1 * (x.1 * t.2 - x.2 * t.1)=x.1 * (y.2 * t.1 - y.1 * t.2); grind)).symm
    ·exact absurd rfl hik)
  have k1:∀ i t,t ∈ l→Bd 162 9 (((if i=0 then t.1 else x.1 * t.2 - x.2 * t.1:Int):Rat) / (x.1:Rat)):=fun i t ht=>Bd.of ha (by
   split
   ·exact abs_mono (hb t ht).1 (by decide)
   ·exact bx t ht) xa
  have hq':=step_gQ (φ:=fun i t=>((if i=0 then t.1 else x.1 * t.2 - x.2 * t.1:Int):Rat) / (x.1:Rat)) (χ:=fun i t=>((if i=0 then y.2 * t.1 - y.1 * t.2 else x.1 * t.2 - x.2 * t.1:Int):Rat) / ((x.1 * y.2 - y.1 * x.2:Int):Rat)) (g:=gG 2 (fun i t=>((if i=0 then t.1 else x.1 * t.2 - x.2 * t.1:Int):Rat) / (x.1:Rat)) l) (c:=1) (lead:=[0]) (det:=dt) (gG_len _ _ _) (by decide) (by show atQ _ 1 1≠2; rw [e1]; decide) (by show swapIf _ 1 (atQ _ 1 1)=_; rw [e1]; rfl) hl1 (dtq hdt xa (by decide))
   ((k1 1 _ (List.mem_of_getElem? hl1)).q) (fun t ht=>(k1 1 t ht).q) (fun t _=>by
     show ((x.1 * t.2 - x.2 * t.1:Int):Rat) / ((x.1 * y.2 - y.1 * x.2:Int):Rat)=((x.1 * t.2 - x.2 * t.1:Int):Rat) / (x.1:Rat) / (((x.1 * y.2 - x.2 * y.1:Int):Rat) / (x.1:Rat))
     rw [hcm]; exact q_div3 hqD hqa _)
   (fun i hi hik t _=>by
    rcases lt2 hi with rfl | rfl
    ·show ((y.2 * t.1 - y.1 * t.2:Int):Rat) / ((x.1 * y.2 - y.1 * x.2:Int):Rat)=(t.1:Rat) / (x.1:Rat) - (y.1:Rat) / (x.1:Rat) * (((x.1 * t.2 - x.2 * t.1:Int):Rat) / ((x.1 * y.2 - y.1 * x.2:Int):Rat))
     refine q_key hqD hqa ?_
     simp only [Rat.intCast_sub,Rat.intCast_mul]; grind
    ·exact absurd rfl hik)
   (fun i hi hik t ht=>by
    have k2:Bd 162 162 (((x.1 * t.2 - x.2 * t.1:Int):Rat) / ((x.1 * y.2 - y.1 * x.2:Int):Rat)):=Bd.of hD (bx t ht) hDb
    exact subOk_of (k1 i _ (List.mem_of_getElem? hl1)).q k2.q ((k1 i _ (List.mem_of_getElem? hl1)).mul k2).q (k1 i t ht).q)
  have hf:∀ {A:Int},A=x.1 * y.2 - y.1 * x.2→EZ.mk (gG 2 (fun i t=>if i=0 then y.2 * t.1 - y.1 * t.2 else x.1 * t.2 - x.2 * t.1) l) [0,1] A o'=EZ.mk (gG 2 (fun i t=>if i=0 then y.2 * t.1 - y.1 * t.2 else x.1 * t.2 - x.2 * t.1) l) [0,1] (x.1 * y.2 - y.1 * x.2) o':=fun h=>by rw [h]
  exact ⟨_,o',by rw [redTo,redTo,redTo,Option.bind_some,hq,Option.bind_some]; exact hq',by rw [elZ,elZ,elZ,Option.bind_some,ho,Option.bind_some]; exact ho'.trans (congrArg some (hf hcm))⟩
 obtain ⟨xa,xb⟩:=hb _ (List.mem_of_getElem? hl)
 obtain ⟨ya,yb⟩:=hb _ (List.mem_of_getElem? hl1)
 have hti:tiM (gG 2 (fun i (t:Int×Int)=>if i=0 then t.1 else t.2) l)=true:=tiM_gZ fun i _ t ht=>by
  show Int.natAbs (if i=0 then t.1 else t.2)≤_
  split
  ·exact abs_mono (hb t ht).1 (by decide)
  ·exact abs_mono (hb t ht).2 (by decide)
 by_cases h0:x.1=0
 ·have h1:x.2≠0:=fun h1=>hD (by rw [h0,h1]; omega)
  have e1:atQ (gG 2 (fun i t=>((if i=0 then t.1 else t.2:Int):Rat)) l) 0 0=1:=at_gQ hl (by decide) (by decide) (fun i _ hi=>by rw [show i=0 by omega]; show (x.1:Rat)=0; rw [h0]; rfl) (nz h1)
  have e2:atZ (gG 2 (fun i (t:Int×Int)=>if i=0 then t.1 else t.2) l) 0 0=1:=at_gZ hl (by decide) (by decide) (fun i _ hi=>by rw [show i=0 by omega]; exact h0) h1
  obtain ⟨dt,o,hF,hs⟩:=core (l:=l.map Prod.swap) (x:=x.swap) (y:=y.swap) (g:=gG 2 (fun i t=>((if i=0 then t.1 else t.2:Int):Rat)) l) (z:=gG 2 (fun i t=>if i=0 then t.1 else t.2) l) (by rw [List.getElem?_map,hl]; rfl) (by rw [List.getElem?_map,hl1]; rfl)
   (fun t ht=>by obtain ⟨u,hu,rfl⟩:=List.mem_map.1 ht; exact ⟨(hb u hu).2,(hb u hu).1⟩) (fun e=>hD (by have e:x.2 * y.1 - y.2 * x.1=0:=e; rw [Int.mul_comm y.1,Int.mul_comm x.1]; omega)) h1 (gG_len _ _ _) (by rw [e1]; decide)
   (by rw [e1]; unfold swapIf; rw [if_neg (by decide)]; exact gG_swp (by decide) (by decide) (by funext t; rfl) (by funext t; rfl) (fun k hk _ _=>by omega)) (gG_len _ _ _) (by rw [e2]; decide)
   (by rw [e2]; unfold swapZ; rw [if_neg (by decide)]; exact gG_swp (by decide) (by decide) (by funext t; rfl) (by funext t; rfl) (fun k hk _ _=>by omega)) hti
  refine ⟨fun i=>if i=0 then (-y.2,y.1) else (x.2,-x.1),x.2 * y.1 - y.2 * x.1,dt,o, ?_, ?_,fun e=>hD (by rw [Int.mul_comm y.1,Int.mul_comm x.1]; omega),abs_sub (abs_mul xb ya) (abs_mul yb xa),fun i=>?_,fun i c t hi hc ht=>?_⟩
  ·rw [hF,gG_comp]
   refine congrArg some (congrArg (fun g=>RS.mk g [0,1] dt) (gG_congr fun i hi t _=>?_))
   rcases lt2 hi with rfl | rfl
   ·exact congrArg (fun v:Int=>(v:Rat) / ((x.2 * y.1 - y.2 * x.1:Int):Rat)) (show y.1 * t.2 - y.2 * t.1=-y.2 * t.1+y.1 * t.2 by grind)
   ·exact congrArg (fun v:Int=>(v:Rat) / ((x.2 * y.1 - y.2 * x.1:Int):Rat)) (show x.2 * t.1 - x.1 * t.2=x.2 * t.1+-x.1 * t.2 by grind)
  ·rw [hs,gG_comp]
   refine congrArg some (congrArg (fun g=>EZ.mk g [0,1] _ o) (gG_congr fun i hi t _=>?_))
   rcases lt2 hi with rfl | rfl
   ·show y.1 * t.2 - y.2 * t.1=-y.2 * t.1+y.1 * t.2; grind
   ·show x.2 * t.1 - x.1 * t.2=x.2 * t.1+-x.1 * t.2; grind
  ·show Int.natAbs (if i=0 then (-y.2,y.1) else (x.2,-x.1)).1≤9∧Int.natAbs (if i=0 then (-y.2,y.1) else (x.2,-x.1)).2≤9
   split
   ·exact ⟨by show Int.natAbs (-y.2)≤9; omega,ya⟩
   ·exact ⟨xb,by show Int.natAbs (-x.1)≤9; omega⟩
  ·rcases lt2 hi with rfl | rfl <;> rcases lt2 hc with rfl | rfl <;> injection ht with ht <;> subst ht <;> simp <;> grind
 ·have e1:atQ (gG 2 (fun i t=>((if i=0 then t.1 else t.2:Int):Rat)) l) 0 0=0:=at_gQ hl (by decide) (by decide) (fun i _ hi=>by omega) (nz h0)
  have e2:atZ (gG 2 (fun i (t:Int×Int)=>if i=0 then t.1 else t.2) l) 0 0=0:=at_gZ hl (by decide) (by decide) (fun i _ hi=>by omega) h0
  obtain ⟨dt,o,hF,hs⟩:=core (g:=gG 2 (fun i t=>((if i=0 then t.1 else t.2:Int):Rat)) l) (z:=gG 2 (fun i t=>if i=0 then t.1 else t.2) l) hl hl1 hb hD h0 (gG_len _ _ _) (by rw [e1]; decide) (by rw [e1]; rfl) (gG_len _ _ _) (by rw [e2]; decide) (by rw [e2]; rfl) hti
  refine ⟨fun i=>if i=0 then (y.2,-y.1) else (-x.2,x.1),x.1 * y.2 - y.1 * x.2,dt,o, ?_, ?_,hD,abs_sub (abs_mul xa yb) (abs_mul ya xb),fun i=>?_,fun i c t hi hc ht=>?_⟩
  ·rw [hF]
   refine congrArg some (congrArg (fun g=>RS.mk g [0,1] dt) (gG_congr fun i hi t _=>?_))
   rcases lt2 hi with rfl | rfl
   ·exact congrArg (fun v:Int=>(v:Rat) / ((x.1 * y.2 - y.1 * x.2:Int):Rat)) (show y.2 * t.1 - y.1 * t.2=y.2 * t.1+-y.1 * t.2 by grind)
   ·exact congrArg (fun v:Int=>(v:Rat) / ((x.1 * y.2 - y.1 * x.2:Int):Rat)) (show x.1 * t.2 - x.2 * t.1=-x.2 * t.1+x.1 * t.2 by grind)
  ·rw [hs]
   refine congrArg some (congrArg (fun g=>EZ.mk g [0,1] _ o) (gG_congr fun i hi t _=>?_))
   rcases lt2 hi with rfl | rfl
   ·show y.2 * t.1 - y.1 * t.2=y.2 * t.1+-y.1 * t.2; grind
   ·show x.1 * t.2 - x.2 * t.1=-x.2 * t.1+x.1 * t.2; grind
  ·show Int.natAbs (if i=0 then (y.2,-y.1) else (-x.2,x.1)).1≤9∧Int.natAbs (if i=0 then (y.2,-y.1) else (-x.2,x.1)).2≤9
   split
   ·exact ⟨yb,by show Int.natAbs (-y.1)≤9; omega⟩
   ·exact ⟨by show Int.natAbs (-x.2)≤9; omega,xa⟩
  ·rcases lt2 hi with rfl | rfl <;> rcases lt2 hc with rfl | rfl <;> injection ht with ht <;> subst ht <;> simp <;> grind
theorem aug1 {l:List Int} {x:Int} (hl:l[0]?=some x) (hb:∀ t,t ∈ l→t.natAbs≤9) (hx:x≠0) :
 ∃ dt o,redTo (gG 1 (fun _ (t:Int)=>(t:Rat)) l) 1=some ⟨gG 1 (fun _ (t:Int)=>(t:Rat) / (x:Rat)) l,[0],dt⟩∧elZ (gG 1 (fun _ t=>t) l) 1=some ⟨gG 1 (fun _ t=>t) l,[0],x,o⟩:=by
 have hxb:=hb _ (List.mem_of_getElem? hl)
 have hqx:(x:Rat)≠0:=fun e=>hx (Rat.intCast_inj.1 (by rw [e]; rfl))
 have e1:atQ (gG 1 (fun _ (t:Int)=>(t:Rat)) l) 0 0=0:=at_gQ hl (by decide) (by decide) (fun i _ hi=>by omega) hqx
 have e2:atZ (gG 1 (fun _ (t:Int)=>t) l) 0 0=0:=at_gZ hl (by decide) (by decide) (fun i _ hi=>by omega) hx
 obtain ⟨o,ho⟩:=step_gZ (n:=1) (φ:=fun _ t=>t) (χ:=fun _ t=>t) (g:=gG 1 (fun _ (t:Int)=>t) l) (c:=0) (piv:=[]) (L:=1) (odd:=false) (gG_len _ _ _) (by decide) (by show atZ _ 0 0≠1; rw [e2]; decide) (by show swapZ _ 0 (atZ _ 0 0)=_; rw [e2]; rfl) hl
  (tiM_gZ fun _ _ t ht=>abs_mono (hb t ht) (by decide)) ⟨by decide,by decide⟩ (by decide) (fun _ _=>rfl) (fun i hi hik _ _=>absurd (show i=0 by omega) hik)
 have hq:=step_gQ (n:=1) (φ:=fun _ (t:Int)=>(t:Rat)) (χ:=fun _ (t:Int)=>(t:Rat) / (x:Rat)) (g:=gG 1 (fun _ (t:Int)=>(t:Rat)) l) (c:=0) (lead:=[]) (det:=1) (gG_len _ _ _) (by decide) (by show atQ _ 0 0≠1; rw [e1]; decide) (by show swapIf _ 0 (atQ _ 0 0)=_; rw [e1]; rfl) hl Bd.one.q
  ((Bd.int _ hxb).q) (fun t ht=>(Bd.int _ (hb t ht)).q) (fun _ _=>rfl) (fun i hi hik _ _=>absurd (show i=0 by omega) hik) (fun i hi hik _ _=>absurd (show i=0 by omega) hik)
 exact ⟨_,o,by rw [redTo,redTo,Option.bind_some]; exact hq,by rw [elZ,elZ,Option.bind_some]; exact ho⟩
def unitZ (n i:Nat):List Int:=(List.replicate n (0:Int)).set i 1
def augZ (m:List (List Int)):List (List Int):=m.mapIdx fun i r=>r ++ unitZ m.length i
def dotZ (f g:Nat→Int):Nat→Int
 | 0=>0
 | k+1=>dotZ f g k+f k * g k
structure InvIs (m:List (List Int)) (n:Nat) (C:List (List Int)) (D:Int):Prop where
 len:C.length=n
 rect:∀ r,r ∈ C→r.length=n
 bd:BdM 162 C
 d0:D≠0
 dB:D.natAbs≤4374
 one:∀ i c,i < n→c < n→dotZ (fun j=>entZ C i j) (fun j=>entZ m j c) n=if i=c then D else 0
def divC (C:List (List Int)) (D:Int):List (List Rat):=C.map (List.map fun x:Int=>(x:Rat) / (D:Rat))
def InvBoth (m:List (List Int)) (n:Nat) (C:List (List Int)) (D:Int):Prop :=
 (∃ F,redTo (augM m) n=some F∧F.lead.length=n∧F.g.map (List.drop n)=divC C D)∧∃ s,elZ (augZ m) n=some s∧s.piv.length=n∧s.last=D∧s.m.map (List.drop n)=C∧s.m.length=n
theorem lt_cases3 {i:Nat} (h:i < 3):i=0∨i=1∨i=2:=by omega
theorem inv3 {a b c d e f g h i:Int} (hb:BdM 9 [[a,b,c],[d,e,f],[g,h,i]]) (hd:det3 a b c d e f g h i≠0):∃ C D,InvBoth [[a,b,c],[d,e,f],[g,h,i]] 3 C D∧InvIs [[a,b,c],[d,e,f],[g,h,i]] 3 C D:=by
 have k0:=hb _ (List.mem_of_getElem? (i:=0) rfl)
 have k1:=hb _ (List.mem_of_getElem? (i:=1) rfl)
 have k2:=hb _ (List.mem_of_getElem? (i:=2) rfl)
 have u:∀ {v:Int},v.natAbs≤1→v.natAbs≤9:=fun h=>Nat.le_trans h (by decide)
 obtain ⟨co,D,dt,o,hF,hs,h0,hB,hc,hid⟩:=aug3 (l:=[(a,d,g),(b,e,h),(c,f,i),(1,0,0),(0,1,0),(0,0,1)]) (x:=(a,d,g)) (y:=(b,e,h)) (z:=(c,f,i)) rfl rfl rfl (fun t ht=>by
  simp only [List.mem_cons,List.not_mem_nil,or_false] at ht
  rcases ht with rfl | rfl | rfl | rfl | rfl | rfl
  ·exact ⟨k0 _ (by simp),k1 _ (by simp),k2 _ (by simp)⟩
  ·exact ⟨k0 _ (by simp),k1 _ (by simp),k2 _ (by simp)⟩
  ·exact ⟨k0 _ (by simp),k1 _ (by simp),k2 _ (by simp)⟩
  ·exact ⟨u (by decide),u (by decide),u (by decide)⟩
  ·exact ⟨u (by decide),u (by decide),u (by decide)⟩
  ·exact ⟨u (by decide),u (by decide),u (by decide)⟩) hd
 have d1:∀ i,dot3 (co i) (1,0,0)=(co i).1:=fun i=>by unfold dot3; simp
 have d2:∀ i,dot3 (co i) (0,1,0)=(co i).2.1:=fun i=>by unfold dot3; simp
 have d3:∀ i,dot3 (co i) (0,0,1)=(co i).2.2:=fun i=>by unfold dot3; simp
 refine ⟨[[(co 0).1,(co 0).2.1,(co 0).2.2],[(co 1).1,(co 1).2.1,(co 1).2.2],[(co 2).1,(co 2).2.1,(co 2).2.2]],D,⟨⟨_,hF,rfl, ?_⟩,_,hs,rfl,rfl, ?_,rfl⟩,rfl, ?_, ?_,h0,hB, ?_⟩
 ·rw [← d1,← d2,← d3,← d1,← d2,← d3,← d1,← d2,← d3]; rfl
 ·rw [← d1,← d2,← d3,← d1,← d2,← d3,← d1,← d2,← d3]; rfl
 ·intro r hr
  simp only [List.mem_cons,List.not_mem_nil,or_false] at hr
  rcases hr with rfl | rfl | rfl <;> rfl
 ·intro r hr x hx
  simp only [List.mem_cons,List.not_mem_nil,or_false] at hr
  rcases hr with rfl | rfl | rfl <;> simp only [List.mem_cons,List.not_mem_nil,or_false] at hx
  ·obtain ⟨p,q,r⟩:=hc 0 (by decide); rcases hx with rfl | rfl | rfl; exact p; exact q; exact r
  ·obtain ⟨p,q,r⟩:=hc 1 (by decide); rcases hx with rfl | rfl | rfl; exact p; exact q; exact r
  ·obtain ⟨p,q,r⟩:=hc 2 (by decide); rcases hx with rfl | rfl | rfl; exact p; exact q; exact r
 ·intro p q hp hq
  have z:∀ (u v x y z w:Int),0+u * v+x * y+z * w=u * v+x * y+z * w:=fun u v x y z w=>by omega
  rcases lt_cases3 hq with rfl | rfl | rfl
  ·rw [← hid p 0 (a,d,g) hp (by decide) rfl]
   rcases lt_cases3 hp with rfl | rfl | rfl <;> exact z _ _ _ _ _ _
  ·rw [← hid p 1 (b,e,h) hp (by decide) rfl]
   rcases lt_cases3 hp with rfl | rfl | rfl <;> exact z _ _ _ _ _ _
  ·rw [← hid p 2 (c,f,i) hp (by decide) rfl]
   rcases lt_cases3 hp with rfl | rfl | rfl <;> exact z _ _ _ _ _ _
theorem inv2 {a b d e:Int} (hb:BdM 9 [[a,b],[d,e]]) (hd:a * e - b * d≠0):∃ C D,InvBoth [[a,b],[d,e]] 2 C D∧InvIs [[a,b],[d,e]] 2 C D:=by
 have k0:=hb _ (List.mem_of_getElem? (i:=0) rfl)
 have k1:=hb _ (List.mem_of_getElem? (i:=1) rfl)
 have lt2:∀ {i:Nat},i < 2→i=0∨i=1:=fun h=>by omega
 obtain ⟨co,D,dt,o,hF,hs,h0,hB,hc,hid⟩:=aug2 (l:=[(a,d),(b,e),(1,0),(0,1)]) (x:=(a,d)) (y:=(b,e)) rfl rfl (fun t ht=>by
  simp only [List.mem_cons,List.not_mem_nil,or_false] at ht
  rcases ht with rfl | rfl | rfl | rfl
  ·exact ⟨k0 _ (by simp),k1 _ (by simp)⟩
  ·exact ⟨k0 _ (by simp),k1 _ (by simp)⟩
  ·exact ⟨by decide,by decide⟩
  ·exact ⟨by decide,by decide⟩) hd
 have d1:∀ i,(co i).1 * 1+(co i).2 * 0=(co i).1:=fun i=>by omega
 have d2:∀ i,(co i).1 * 0+(co i).2 * 1=(co i).2:=fun i=>by omega
 refine ⟨[[(co 0).1,(co 0).2],[(co 1).1,(co 1).2]],D,⟨⟨_,hF,rfl, ?_⟩,_,hs,rfl,rfl, ?_,rfl⟩,rfl, ?_, ?_,h0,by omega, ?_⟩
 ·show [[(((co 0).1 * 1+(co 0).2 * 0:Int):Rat) / (D:Rat),(((co 0).1 * 0+(co 0).2 * 1:Int):Rat) / (D:Rat)],[(((co 1).1 * 1+(co 1).2 * 0:Int):Rat) / (D:Rat),(((co 1).1 * 0+(co 1).2 * 1:Int):Rat) / (D:Rat)]]=_
  rw [d1,d2,d1,d2]; rfl
 ·show [[(co 0).1 * 1+(co 0).2 * 0,(co 0).1 * 0+(co 0).2 * 1],[(co 1).1 * 1+(co 1).2 * 0,(co 1).1 * 0+(co 1).2 * 1]]=_
  rw [d1,d2,d1,d2]
 ·intro r hr
  simp only [List.mem_cons,List.not_mem_nil,or_false] at hr
  rcases hr with rfl | rfl <;> rfl
 ·intro r hr x hx
  simp only [List.mem_cons,List.not_mem_nil,or_false] at hr
  rcases hr with rfl | rfl <;> simp only [List.mem_cons,List.not_mem_nil,or_false] at hx
  ·rcases hx with rfl | rfl
   ·exact Nat.le_trans (hc 0).1 (by decide)
   ·exact Nat.le_trans (hc 0).2 (by decide)
  ·rcases hx with rfl | rfl
   ·exact Nat.le_trans (hc 1).1 (by decide)
   ·exact Nat.le_trans (hc 1).2 (by decide)
 ·intro p q hp hq
  have z:∀ (u v x y:Int),0+u * v+x * y=u * v+x * y:=fun u v x y=>by omega
  rcases lt2 hq with rfl | rfl
  ·rw [← hid p 0 (a,d) hp (by decide) rfl]
   rcases lt2 hp with rfl | rfl <;> exact z _ _ _ _
  ·rw [← hid p 1 (b,e) hp (by decide) rfl]
   rcases lt2 hp with rfl | rfl <;> exact z _ _ _ _
theorem inv1 {a:Int} (hb:BdM 9 [[a]]) (hd:a≠0):∃ C D,InvBoth [[a]] 1 C D∧InvIs [[a]] 1 C D:=by
 have k0:=hb _ (List.mem_of_getElem? (i:=0) rfl) a (by simp)
 obtain ⟨dt,o,hF,hs⟩:=aug1 (l:=[a,1]) (x:=a) rfl (fun t ht=>by
  simp only [List.mem_cons,List.not_mem_nil,or_false] at ht
  rcases ht with rfl | rfl
  ·exact k0
  ·decide) hd
 refine ⟨[[1]],a,⟨⟨_,hF,rfl,rfl⟩,_,hs,rfl,rfl,rfl,rfl⟩,rfl, ?_, ?_,hd,Nat.le_trans k0 (by decide), ?_⟩
 ·intro r hr; rw [List.mem_singleton] at hr; subst hr; rfl
 ·intro r hr x hx; rw [List.mem_singleton] at hr; subst hr; rw [List.mem_singleton] at hx; subst hx; decide
 ·intro p q hp hq
  obtain rfl:p=0:=by omega
  obtain rfl:q=0:=by omega
  show 0+1 * a=a; omega
theorem inv_any {m:List (List Int)} {n:Nat} (hn:n≤3) (hn1:1≤n) (hm:m.length=n) (hr:∀ r,r ∈ m→r.length=n) (hb:BdM 9 m) (hd:detM m≠0):∃ C D,InvBoth m n C D∧InvIs m n C D:=by
 have hn4:n=1∨n=2∨n=3:=by omega
 rcases hn4 with rfl | rfl | rfl
 ·obtain ⟨r,rfl⟩:=list1 hm
  obtain ⟨a,rfl⟩:=list1 (hr r (by simp))
  exact inv1 hb hd
 ·obtain ⟨r,r',rfl⟩:=list2 hm
  obtain ⟨a,b,rfl⟩:=list2 (hr r (by simp))
  obtain ⟨d,e,rfl⟩:=list2 (hr r' (by simp))
  exact inv2 hb hd
 ·obtain ⟨r,r',r'',rfl⟩:=list3 hm
  obtain ⟨a,b,c,rfl⟩:=list3 (hr r (by simp))
  obtain ⟨d,e,f,rfl⟩:=list3 (hr r' (by simp))
  obtain ⟨g,h,i,rfl⟩:=list3 (hr r'' (by simp))
  exact inv3 hb hd
attribute [local go_sem ↓] Go.wp_at_zero Go.wp_at_succ
theorem GG.slice {w:World} {base:Nat} {E:TypeId} {v:Value} {hs:List (Nat×Nat×Nat)} {g:List (List Int)} (h:GG w base E v hs g):∃ a c,v=.slice a g.length c:=by
 rcases h.own.2 with ⟨h1,h2⟩ | ⟨g',cap',cur',hv,_⟩
 ·exact ⟨none,0,by rw [h1,h2]⟩
 ·exact ⟨_,_,hv⟩
def colZ (m:List (List Int)) (k:Nat):List Int:=m.map fun r=>(r[k]?).getD 0
def trM (n:Nat) (m:List (List Int)):List (List Int):=(List.range n).map (colZ m)
theorem colZ_len (m:List (List Int)) (k:Nat):(colZ m k).length=m.length:=by unfold colZ; rw [List.length_map]
theorem trM_len (n:Nat) (m:List (List Int)):(trM n m).length=n:=by unfold trM; rw [List.length_map,List.length_range]
theorem trM_get {n k:Nat} (m:List (List Int)) (h:k < n):(trM n m)[k]?=some (colZ m k):=by unfold trM; rw [List.getElem?_map,List.getElem?_range h]; rfl


end Go.Proofs.YtcglmebcfeoedaaGreatDoor
