/- Contracts and laws: USA. -/
import Derived.Test.YtkjemicelmabdaaGreatDoorUChk
import Derived.Test.YtkjemicelmabdaaGreatDoorUK
import Derived.Test.YtkjemicelmabdaaGreatDoorUEl
import Derived.Test.YtkjemicelmabdaaGreatDoorUB
import Derived.Test.YtkjemicelmabdaaGreatDoorUD

set_option maxRecDepth 100000
set_option maxHeartbeats 8000000
namespace Go.Proofs.YtkjemicelmabdaaGreatDoor
open Go.RowKit Go.Lib
def gG {α β:Type} (n:Nat) (φ:Nat→α→β) (l:List α):List (List β):=(List.range n).map fun i=>l.map (φ i)
def VV {α β:Type} (φ:Nat→α→β) (k:Nat) (f:α→β) (i:Nat):α→β:=if i=k then f else φ i
theorem EI {α β:Type} (n:Nat) (φ:Nat→α→β) (l:List α):(gG n φ l).length=n:=by unfold gG; rw [Al,BP]
theorem Kk {α β:Type} {n i:Nat} (φ:Nat→α→β) (l:List α) (h:i < n):(gG n φ l)[i]?=some (l.map (φ i)):=by
 unfold gG; rw [Am,DD h]; rfl
theorem L0 {α β:Type} {n i:Nat} (φ:Nat→α→β) (l:List α) (f:α→β):(gG n φ l).set i (l.map f)=gG n (VV φ i f) l:=by
 refine CB fun j=>?_
 by_cases h:j < n
 ·rw [Kk _ _ h,AX]
  unfold VV
  by_cases e:i=j
  ·subst e; rw [Ak rfl,EI,Ak h,Ak rfl]
  ·rw [Aj e,Kk _ _ h,Aj (fun h=>e h.symm)]
 ·rw [AJ (by rw [AN,EI]; omega),AJ (by rw [EI]; omega)]
theorem EE {α β:Type} {n:Nat} {φ χ:Nat→α→β} {l:List α} (h:∀ i,i < n→∀ t,t ∈ l→φ i t=χ i t):gG n φ l=gG n χ l :=
 Cy fun i hi=>Cy (h i (AL.1 hi))
theorem JJ {α β:Type} {n:Nat} (φ:Nat→α→β) (σ:α→α) (l:List α):gG n φ (l.map σ)=gG n (fun i t=>φ i (σ t)) l :=
 Cy fun _ _=>CN
theorem HU {α β:Type} {n i j:Nat} {φ ψ:Nat→α→β} {σ:α→α} {l:List α} (hi:i < n) (hj:j < n) (h1:ψ i ∘ σ=φ j) (h2:ψ j ∘ σ=φ i) (h:∀ k,k < n→k≠i→k≠j→ψ k ∘ σ=φ k):swp (gG n φ l) i j=gG n ψ (l.map σ):=by
 unfold swp
 rw [Kk _ _ hi,Kk _ _ hj,JJ]
 dsimp only
 rw [L0,L0]
 refine EE fun k hk t _=>?_
 unfold VV
 by_cases e:k=j
 ·subst e; rw [Ak rfl]; exact (congrFun h2 t).symm
 ·rw [Aj e]
  by_cases e2:k=i
  ·subst e2; rw [Ak rfl]; exact (congrFun h1 t).symm
  ·rw [Aj e2]; exact (congrFun (h k hk e2 e) t).symm
def Qm {α β:Type} (χ φ:Nat→α→β) (i j:Nat):α→β:=if j < i then χ j else φ j
theorem Pk {α β:Type} (χ φ:Nat→α→β):Qm χ φ 0=φ:=by funext j; unfold Qm; rw [Aj (Bc _)]
theorem UF {α β:Type} (χ φ:Nat→α→β) {i j:Nat} (h:i≤j):Qm χ φ i j=φ j:=by unfold Qm; rw [Aj (by omega)]
theorem Xq {α β:Type} {χ φ:Nat→α→β} {k:Nat} {l:List α} (h:∀ x,x ∈ l→χ k x=φ k x) (i:Nat):l.map (Qm χ φ i k)=l.map (φ k):=by
 refine Cy fun x hx=>?_
 unfold Qm; split
 ·exact h x hx
 ·rfl
theorem RM {α β:Type} {n:Nat} (χ φ:Nat→α→β) (l:List α):gG n (Qm χ φ n) l=gG n χ l:=EE fun j hj t _=>by unfold Qm; rw [Ak hj]
theorem LU {α β:Type} {n i:Nat} {χ φ:Nat→α→β} {l:List α} (h:∀ x,x ∈ l→χ i x=φ i x):gG n (Qm χ φ i) l=gG n (Qm χ φ (i+1)) l:=EE fun j hj x hx=>by
 unfold Qm
 by_cases e:j < i
 ·rw [Ak e,Ak (by omega)]
 ·rw [Aj e]
  by_cases e2:j < i+1
  ·obtain rfl:j=i:=by omega
   rw [Ak e2]; exact (h x hx).symm
  ·rw [Aj e2]
theorem Pm {α β:Type} {n i:Nat} {χ φ:Nat→α→β} {l:List α} {f:α→β} (h:∀ x,x ∈ l→χ i x=f x):gG n (VV (Qm χ φ i) i f) l=gG n (Qm χ φ (i+1)) l:=EE fun j hj x hx=>by
 unfold VV Qm
 by_cases e:j=i
 ·subst e; rw [Ak rfl,Ak (by omega)]; exact (h x hx).symm
 ·rw [Aj e]
  by_cases e2:j < i
  ·rw [Ak e2,Ak (by omega)]
  ·rw [Aj e2,Aj (by omega)]
theorem Oc {α:Type} {n i:Nat} {φ:Nat→α→Rat} {l:List α} (h:i < n):CI (gG n φ l) i=l.map (φ i):=by unfold CI; rw [Kk _ _ h]; rfl
theorem Od {α:Type} {n i c:Nat} {φ:Nat→α→Rat} {l:List α} {t:α} (h:i < n) (hc:l[c]?=some t):BN (gG n φ l) i c=φ i t:=by
 unfold BN; rw [Oc h,Am,hc]; rfl
theorem Lt {α:Type} (f:Rat) (φ ψ:α→Rat):∀ (l:List α),(∀ t,t ∈ l→Dr f (φ t) (ψ t)=true)→Dw f (l.map φ) (l.map ψ)=some (l.map fun t=>φ t - f * ψ t)
 | [],_=>rfl
 | t :: l,h=>by
   rw [BR,BR,Dw,Ak (h t Bx),Lt f φ ψ l (fun x hx=>h x (BV _ hx)),BR]; rfl
theorem WH {α:Type} {n:Nat} {φ χ:Nat→α→Rat} {l:List α} {c k:Nat} {t:α} (hc:l[c]?=some t) (hk:k < n) (h0:∀ x,x ∈ l→χ k x=φ k x)
 (h1:∀ i,i < n→i≠k→∀ x,x ∈ l→χ i x=φ i x - φ i t * φ k x) (ok:∀ i,i < n→i≠k→∀ x,x ∈ l→Dr (φ i t) (φ i x) (φ k x)=true) :
 Cx (gG n φ l) c k n=some (gG n χ l):=by
 have key:∀ i,i≤n→Cx (gG n φ l) c k i=some (gG n (Qm χ φ i) l):=fun i=>by
  induction i with
  | zero=>intro _; rw [Cx,Pk]
  | succ i ih=>
    intro hi
    rw [Cx,ih (by omega),AV,Od (by omega) hc,Oc (by omega),Oc hk,UF _ _ (Af i),Xq h0]
    by_cases hik:i=k
    ·rw [Ak (.inl hik)]; exact congrArg some (LU (by rw [hik]; exact h0))
    ·by_cases hz:φ i t=0
     ·rw [Ak (.inr hz)]
      exact congrArg some (LU fun x hx=>by rw [h1 i (by omega) hik x hx,hz,TG]; grind)
     ·rw [Aj (by rintro (h | h); exact hik h; exact hz h),Lt _ _ _ l (ok i (by omega) hik),Ib,L0]
      exact congrArg some (Pm fun x hx=>h1 i (by omega) hik x hx)
 rw [key n (Af _),RM]
theorem Ih {α:Type} {n:Nat} {φ χ:Nat→α→Rat} {l:List α} {c:Nat} {t:α} {g:List (List Rat)} {lead:List Nat} {det:Rat} (hl:g.length=n) (hk:lead.length < n) (hat:Ej g c lead.length≠n) (hS:BH g lead.length (Ej g c lead.length)=gG n φ l) (hc:l[c]?=some t)
 (hd:Tq det) (hp:Tq (φ lead.length t)) (hr:∀ x,x ∈ l→Tq (φ lead.length x))
 (h0:∀ x,x ∈ l→χ lead.length x=φ lead.length x / φ lead.length t) (h1:∀ i,i < n→i≠lead.length→∀ x,x ∈ l→χ i x=φ i x - φ i t * χ lead.length x)
 (ok:∀ i,i < n→i≠lead.length→∀ x,x ∈ l→Dr (φ i t) (φ i x) (χ lead.length x)=true) :
 Dj c ⟨g,lead,det⟩=some ⟨gG n χ l,lead ++ [c],C5 det lead.length (Ej g c lead.length) * φ lead.length t⟩:=by
 have e1:BN (gG n φ l) lead.length c=φ lead.length t:=Od hk hc
 have e2:CI (gG n φ l) lead.length=l.map (φ lead.length):=Oc hk
 unfold Dj
 dsimp only
 rw [hl,Aj hat,hS,e1,e2,Ak ⟨hd,hp,Ar.2 fun y hy=>by obtain ⟨x,hx,rfl⟩:=AU.1 hy; exact Ad (hr x hx)⟩,CN,L0]
 have:=WH (φ:=VV φ lead.length ((· / φ lead.length t) ∘ φ lead.length)) (χ:=χ) (l:=l) (c:=c) (k:=lead.length) (t:=t) hc hk (fun x hx=>by unfold VV; rw [Ak rfl]; exact h0 x hx)
  (fun i hi hik x hx=>by unfold VV; rw [Aj hik,Ak rfl]; show _=φ i x - φ i t * (φ lead.length x / φ lead.length t); rw [← h0 x hx]; exact h1 i hi hik x hx)
  (fun i hi hik x hx=>by unfold VV; rw [Aj hik,Ak rfl]; show Dr _ _ (φ lead.length x / φ lead.length t)=true; rw [← h0 x hx]; exact ok i hi hik x hx)
 rw [this,Ib]
theorem QX {α:Type} {n i:Nat} {φ:Nat→α→Int} {l:List α} (h:i < n):C9 (gG n φ l) i=l.map (φ i):=by unfold C9; rw [Kk _ _ h]; rfl
theorem Ob {α:Type} {n i c:Nat} {φ:Nat→α→Int} {l:List α} {t:α} (h:i < n) (hc:l[c]?=some t):BD (gG n φ l) i c=φ i t:=by
 unfold BD; rw [QX h,Am,hc]; rfl
theorem Jh {α:Type} {f:Int→Int→Int} (φ ψ:α→Int):∀ l:List α,List.zipWith f (l.map φ) (l.map ψ)=l.map fun t=>f (φ t) (ψ t)
 | []=>rfl
 | t :: l=>by rw [BR,BR,ZE,Jh φ ψ l]; rfl
theorem Yb {α:Type} {n:Nat} {φ χ:Nat→α→Int} {l:List α} {c k:Nat} {t:α} {L:Int} (hc:l[c]?=some t) (hk:k < n) (h0:∀ x,x ∈ l→χ k x=φ k x)
 (h1:∀ i,i < n→i≠k→∀ x,x ∈ l→χ i x=(φ k t * φ i x - φ i t * φ k x).fdiv L):DB (gG n φ l) (φ k t) L k c n=gG n χ l:=by
 have key:∀ i,i≤n→DB (gG n φ l) (φ k t) L k c i=gG n (Qm χ φ i) l:=fun i=>by
  induction i with
  | zero=>intro _; rw [DB,Pk]
  | succ i ih=>
    intro hi
    rw [DB,ih (by omega),Ob (by omega) hc,QX (by omega),QX hk,UF _ _ (Af i),Xq h0]
    by_cases hik:i=k
    ·rw [Ak hik]; exact LU (by rw [hik]; exact h0)
    ·rw [Aj hik]
     unfold FD
     rw [Jh,L0]
     exact Pm fun x hx=>h1 i (by omega) hik x hx
 rw [key n (Af _),RM]
theorem Ig {α:Type} {n:Nat} {φ χ:Nat→α→Int} {l:List α} {c:Nat} {t:α} {g:List (List Int)} {piv:List Nat} {L:Int} {odd:Bool} (hl:g.length=n) (hk:piv.length < n) (hat:Eu g c piv.length≠n) (hS:CE g piv.length (Eu g c piv.length)=gG n φ l) (hc:l[c]?=some t)
 (hti:NW g=true) (hL:Ti L) (hL0:L≠0)
 (h0:∀ x,x ∈ l→χ piv.length x=φ piv.length x) (h1:∀ i,i < n→i≠piv.length→∀ x,x ∈ l→χ i x=(φ piv.length t * φ i x - φ i t * φ piv.length x).fdiv L) :
 ∃ o,Ds c ⟨g,piv,L,odd⟩=some ⟨gG n χ l,piv ++ [c],φ piv.length t,o⟩:=by
 unfold Ds
 dsimp only
 rw [hl,Ak hk,Aj hat,hS,Ak ⟨hti,hL,hL0⟩,Ob hk hc,Yb hc hk h0 h1]
 exact ⟨_,rfl⟩
theorem IK {α:Type} {n:Nat} {φ:Nat→α→Rat} {l:List α} {c k a:Nat} {t:α} (hc:l[c]?=some t) (ha:a < n) (hk:k≤a) (h0:∀ i,k≤i→i < a→φ i t=0) (h1:φ a t≠0):Ej (gG n φ l) c k=a:=by
 have key:∀ j,j≤a - k→Ej (gG n φ l) c (a - j)=a:=fun j=>by
  induction j with
  | zero=>intro _; exact PW (by rw [EI]; omega) (by rw [Od (by omega) hc]; exact h1)
  | succ j ih=>
    intro hj
    have:=PV (g:=gG n φ l) (c:=c) (i:=a - (j+1)) (by rw [EI]; omega) (by rw [Od (by omega) hc]; exact h0 _ (by omega) (by omega))
    rw [← this,show a - (j+1)+1=a - j by omega]; exact ih (by omega)
 have:=key (a - k) (Af _)
 rwa [show a - (a - k)=k by omega] at this
theorem Yd {g:List (List Int)} {c i:Nat} (hi:i < g.length) (h:BD g i c≠0):Eu g c i=i:=by
 unfold Eu
 rw [Cb hi,List.findIdx_cons]
 unfold BD C9 at h
 rw [Aa hi] at h
 have h:((g[i])[c]?).getD 0≠0:=h
 simp [h]
theorem Ve {g:List (List Int)} {c i:Nat} (hi:i < g.length) (h:BD g i c=0):Eu g c (i+1)=Eu g c i:=by
 unfold Eu
 rw [Cb hi,List.findIdx_cons]
 unfold BD C9 at h
 rw [Aa hi] at h
 have h:((g[i])[c]?).getD 0=0:=h
 simp [h]; omega
theorem IJ {α:Type} {n:Nat} {φ:Nat→α→Int} {l:List α} {c k a:Nat} {t:α} (hc:l[c]?=some t) (ha:a < n) (hk:k≤a) (h0:∀ i,k≤i→i < a→φ i t=0) (h1:φ a t≠0):Eu (gG n φ l) c k=a:=by
 have key:∀ j,j≤a - k→Eu (gG n φ l) c (a - j)=a:=fun j=>by
  induction j with
  | zero=>intro _; exact Yd (by rw [EI]; omega) (by rw [Ob (by omega) hc]; exact h1)
  | succ j ih=>
    intro hj
    have:=Ve (g:=gG n φ l) (c:=c) (i:=a - (j+1)) (by rw [EI]; omega) (by rw [Ob (by omega) hc]; exact h0 _ (by omega) (by omega))
    rw [← this,show a - (j+1)+1=a - j by omega]; exact ih (by omega)
 have:=key (a - k) (Af _)
 rwa [show a - (a - k)=k by omega] at this
theorem J7 {α:Type} {n:Nat} {φ:Nat→α→Int} {l:List α} (h:∀ i,i < n→∀ t,t ∈ l→(φ i t).natAbs≤4374):NW (gG n φ l)=true:=by
 refine Ar.2 fun r hr=>Ar.2 fun x hx=>Ad ?_
 obtain ⟨i,hi,rfl⟩:=AU.1 hr
 obtain ⟨t,ht,rfl⟩:=AU.1 hx
 have:=h i (AL.1 hi) t ht
 exact ⟨by omega,by omega⟩
abbrev T3:=Int×Int×Int
theorem Qn {i:Nat} (h:i < 3):i=0∨i=1∨i=2:=by omega
def EF (c t:T3):Int:=c.1 * t.1+c.2.1 * t.2.1+c.2.2 * t.2.2
def Kx (B:Nat) (t:T3):Prop:=t.1.natAbs≤B∧t.2.1.natAbs≤B∧t.2.2.natAbs≤B
def e0 (i:Nat) (t:T3):Int:=if i=0 then t.1 else if i=1 then t.2.1 else t.2.2
def n1 (a d g:Int) (i:Nat) (t:T3):Int:=if i=0 then t.1 else if i=1 then a * t.2.1 - d * t.1 else a * t.2.2 - g * t.1
def m3 (a d g b e h:Int) (t:T3):Int:=a * (e * t.2.2 - t.2.1 * h) - b * (d * t.2.2 - t.2.1 * g)+t.1 * (d * h - e * g)
def n2 (a d g b e h:Int) (i:Nat) (t:T3):Int:=if i=0 then e * t.1 - b * t.2.1 else if i=1 then a * t.2.1 - d * t.1 else m3 a d g b e h t
def c0 (b e h c f i:Int):T3:=(e * i - f * h,c * h - b * i,b * f - c * e)
def c1 (a d g c f i:Int):T3:=(f * g - d * i,a * i - c * g,c * d - a * f)
def c2 (a d g b e h:Int):T3:=(d * h - e * g,b * g - a * h,a * e - b * d)
def OL (a d g b e h c f i:Int) (k:Nat):T3:=if k=0 then c0 b e h c f i else if k=1 then c1 a d g c f i else c2 a d g b e h
def Ms (σ:T3→T3):Prop:=(∀ t B,Kx B t→Kx B (σ t))∧∀ co,∃ co',(∀ t,EF co (σ t)=EF co' t)∧∀ B,Kx B co→Kx B co'
def Wc (t:T3):T3:=(t.2.1,t.1,t.2.2)
def Wb (t:T3):T3:=(t.2.2,t.2.1,t.1)
def Ly (t:T3):T3:=(t.1,t.2.2,t.2.1)
theorem Ww:Ms id:=⟨fun _ _ h=>h,fun co=>⟨co,fun _=>rfl,fun _ h=>h⟩⟩
theorem Pq:Ms Wc:=⟨fun _ _ h=>⟨h.2.1,h.1,h.2.2⟩,fun co=>⟨(co.2.1,co.1,co.2.2),fun t=>by unfold EF Wc; grind,fun _ h=>⟨h.2.1,h.1,h.2.2⟩⟩⟩
theorem Pp:Ms Wb:=⟨fun _ _ h=>⟨h.2.2,h.2.1,h.1⟩,fun co=>⟨(co.2.2,co.2.1,co.1),fun t=>by unfold EF Wb; grind,fun _ h=>⟨h.2.2,h.2.1,h.1⟩⟩⟩
theorem Po:Ms Ly:=⟨fun _ _ h=>⟨h.1,h.2.2,h.2.1⟩,fun co=>⟨(co.1,co.2.2,co.2.1),fun t=>by unfold EF Ly; grind,fun _ h=>⟨h.1,h.2.2,h.2.1⟩⟩⟩
theorem Ms.comp {σ τ:T3→T3} (h:Ms σ) (k:Ms τ):Ms (σ ∘ τ):=⟨fun t B hb=>h.1 _ B (k.1 t B hb),fun co=>by
 obtain ⟨c1,a1,b1⟩:=h.2 co
 obtain ⟨c2,a2,b2⟩:=k.2 c1
 exact ⟨c2,fun t=>(a1 _).trans (a2 t),fun B hb=>b2 B (b1 B hb)⟩⟩
theorem Bd.of {A B:Nat} {x y:Int} (h0:y≠0) (h1:x.natAbs≤A) (h2:y.natAbs≤B):Bd A B ((x:Rat) / (y:Rat)):=by
 refine ⟨x,y, ?_,h0,h1,h2⟩
 exact (E4 _ _).symm
theorem Bz {x y:Int} {A B:Nat} (h:x.natAbs≤A) (k:y.natAbs≤B):(x * y).natAbs≤A * B:=by rw [A1]; exact BF h k
theorem DG {x y:Int} {A B:Nat} (h:x.natAbs≤A) (k:y.natAbs≤B):(x - y).natAbs≤A+B:=by omega
theorem R7 {x y:Int} {A B:Nat} (h:x.natAbs≤A) (k:y.natAbs≤B):(x+y).natAbs≤A+B:=by omega
theorem E0 {x:Int} {A B:Nat} (h:x.natAbs≤A) (k:A≤B):x.natAbs≤B:=Aw h k
theorem Gv {x y z:Int} (hz:z≠0) (h:x=z * y):x.fdiv z=y:=by rw [h]; exact Int.mul_fdiv_cancel_left _ hz
def qE (D:Int) (φ:Nat→T3→Int) (i:Nat) (t:T3):Rat:=(φ i t:Rat) / (D:Rat)
def RI (a d g:Int):Nat→T3→Rat:=qE a fun i t=>if i=0 then t.1 else n1 a d g i t
theorem Xp {a d g:Int} {t:T3} (hc:Kx 9 (a,d,g)) (ht:Kx 9 t) (i:Nat):(n1 a d g i t).natAbs≤162:=by
 obtain ⟨h1,h2,h3⟩:=hc
 obtain ⟨t1,t2,t3⟩:=ht
 have h1:a.natAbs≤9:=h1
 have h2:d.natAbs≤9:=h2
 have h3:g.natAbs≤9:=h3
 unfold n1
 split
 ·omega
 ·split
  ·exact DG (Bz h1 t2) (Bz h2 t1)
  ·exact DG (Bz h1 t3) (Bz h3 t1)
theorem PC {t:T3} {B:Nat} (ht:Kx B t) (i:Nat):(e0 i t).natAbs≤B:=by
 unfold e0; split; exact ht.1; split; exact ht.2.1; exact ht.2.2
def Q4 (i:Nat) (t:T3):Rat:=(e0 i t:Rat)
theorem Zs {B:Nat} {z:Int} {d:Rat} (h:d=z∨d=-(z:Rat)) (hB:z.natAbs≤B) (h1:B < 100000000):Tq d:=by
 rcases h with rfl | rfl
 ·exact (Bd.int z hB).tq h1 (by decide)
 ·exact (Bd.int z hB).neg.tq h1 (by decide)
theorem LT (d:Rat) (k a:Nat):C5 d k a=d∨C5 d k a=-d:=by unfold C5; split; exact .inl rfl; exact .inr rfl
theorem QD {l:List T3} {g:List (List Rat)} {z:List (List Int)} {a d gg:Int} (hl:l[0]?=some (a,d,gg)) (hb:∀ t,t ∈ l→Kx 9 t) (ha:a≠0) (hlen:g.length=3) (hat:Ej g 0 0≠3) (hS:BH g 0 (Ej g 0 0)=gG 3 Q4 l)
 (hlz:z.length=3) (haz:Eu z 0 0≠3) (hSz:CE z 0 (Eu z 0 0)=gG 3 e0 l) (hti:NW z=true) :
 ∃ dt o,(dt=(a:Rat)∨dt=-(a:Rat))∧Dj 0 ⟨g,[],1⟩=some ⟨gG 3 (RI a d gg) l,[0],dt⟩∧Ds 0 ⟨z,[],1,false⟩=some ⟨gG 3 (n1 a d gg) l,[0],a,o⟩:=by
 have hc:=hb _ (Ac hl)
 obtain ⟨o,ho⟩:=Ig (φ:=e0) (χ:=n1 a d gg) (c:=0) (piv:=[]) (L:=1) (odd:=false) hlz (by decide) haz hSz hl hti ⟨by decide,by decide⟩ (by decide)
  (fun x _=>rfl) (fun i hi hik x _=>by
   rcases Qn hi with rfl | rfl | rfl
   ·exact absurd rfl hik
   ·exact (Gv (by decide) (by show a * x.2.1 - d * x.1=1 * _; rw [Dn]; rfl)).symm
   ·exact (Gv (by decide) (by show a * x.2.2 - gg * x.1=1 * _; rw [Dn]; rfl)).symm)
 have hqa:(a:Rat)≠0:=fun e=>ha (BA.1 (by rw [e]; rfl))
 have hq:=Ih (φ:=Q4) (χ:=RI a d gg) (c:=0) (lead:=[]) (det:=1) hlen (by decide) hat hS hl Bd.one.q
  ((Bd.int _ (PC hc 0)).q) (fun x hx=>(Bd.int _ (PC (hb x hx) 0)).q) (fun x _=>rfl)
  (fun i hi hik x _=>by
   rcases Qn hi with rfl | rfl | rfl
   ·exact absurd rfl hik
   ·show ((a * x.2.1 - d * x.1:Int):Rat) / (a:Rat)=(x.2.1:Rat) - (d:Rat) * ((x.1:Rat) / (a:Rat))
    rw [Dx,Bb,Bb]; grind
   ·show ((a * x.2.2 - gg * x.1:Int):Rat) / (a:Rat)=(x.2.2:Rat) - (gg:Rat) * ((x.1:Rat) / (a:Rat))
    rw [Dx,Bb,Bb]; grind)
  (fun i hi hik x hx=>by
   have k1:Bd 9 1 (Q4 i (a,d,gg)):=Bd.int _ (PC hc i)
   have k2:Bd 9 9 (RI a d gg 0 x):=Bd.of ha (hb x hx).1 hc.1
   exact BO k1.q k2.q (k1.mul k2).q (Bd.int _ (PC (hb x hx) i)).q)
 exact ⟨_,o,by
  rcases LT 1 0 (Ej g 0 0) with e | e
  ·exact .inl (by show C5 1 0 (Ej g 0 0) * (a:Rat)=_; rw [e,VP])
  ·exact .inr (by show C5 1 0 (Ej g 0 0) * (a:Rat)=_; rw [e,VQ,VP]),hq,ho⟩
theorem RO {a d g b e h:Int} {t:T3} (hc:Kx 9 (a,d,g)) (hd:Kx 9 (b,e,h)) (ht:Kx 9 t):(m3 a d g b e h t).natAbs≤4374:=by
 obtain ⟨h1,h2,h3⟩:=hc
 obtain ⟨k1,k2,k3⟩:=hd
 obtain ⟨t1,t2,t3⟩:=ht
 have h1:a.natAbs≤9:=h1
 have h2:d.natAbs≤9:=h2
 have h3:g.natAbs≤9:=h3
 have k1:b.natAbs≤9:=k1
 have k2:e.natAbs≤9:=k2
 have k3:h.natAbs≤9:=k3
 unfold m3
 exact R7 (DG (Bz h1 (DG (Bz k2 t3) (Bz t2 k3))) (Bz k1 (DG (Bz h2 t3) (Bz t2 h3)))) (Bz t1 (DG (Bz h2 k3) (Bz k2 h3)))
theorem RK {a d g b e h:Int} {t:T3} (hc:Kx 9 (a,d,g)) (hd:Kx 9 (b,e,h)) (ht:Kx 9 t) (i:Nat):(n2 a d g b e h i t).natAbs≤4374∧(i≠2→i < 3→(n2 a d g b e h i t).natAbs≤162):=by
 have hm:=RO hc hd ht
 obtain ⟨h1,h2,h3⟩:=hc
 obtain ⟨k1,k2,k3⟩:=hd
 obtain ⟨t1,t2,t3⟩:=ht
 have h1:a.natAbs≤9:=h1
 have h2:d.natAbs≤9:=h2
 have k1:b.natAbs≤9:=k1
 have k2:e.natAbs≤9:=k2
 unfold n2
 split
 ·have:=DG (Bz k2 t1) (Bz k1 t2); exact ⟨by omega,fun _ _=>this⟩
 ·split
  ·have:=DG (Bz h1 t2) (Bz h2 t1); exact ⟨by omega,fun _ _=>this⟩
  ·exact ⟨hm,fun _ _=>by omega⟩
theorem Ua {l:List T3} {g:List (List Rat)} {z:List (List Int)} {dt:Rat} {o:Bool} {a d gg b e h:Int} (hl:l[0]?=some (a,d,gg)) (hl1:l[1]?=some (b,e,h)) (hb:∀ t,t ∈ l→Kx 9 t) (ha:a≠0) (hP:a * e - b * d≠0) (hlen:g.length=3) (hat:Ej g 1 1≠3) (hS:BH g 1 (Ej g 1 1)=gG 3 (RI a d gg) l)
 (hlz:z.length=3) (haz:Eu z 1 1≠3) (hSz:CE z 1 (Eu z 1 1)=gG 3 (n1 a d gg) l) (hti:NW z=true) (hdt:dt=(a:Rat)∨dt=-(a:Rat)) :
 ∃ dt' o',(dt'=((a * e - b * d:Int):Rat)∨dt'=-((a * e - b * d:Int):Rat))∧Dj 1 ⟨g,[0],dt⟩=some ⟨gG 3 (qE (a * e - b * d) (n2 a d gg b e h)) l,[0,1],dt'⟩∧Ds 1 ⟨z,[0],a,o⟩=some ⟨gG 3 (n2 a d gg b e h) l,[0,1],a * e - b * d,o'⟩:=by
 have hc:=hb _ (Ac hl)
 have hd:=hb _ (Ac hl1)
 have hcm:a * e - d * b=a * e - b * d:=by rw [Cd d b]
 have hpb:(a * e - b * d).natAbs≤162:=DG (Bz hc.1 hd.2.1) (Bz hd.1 hc.2.1)
 obtain ⟨o',ho⟩:=Ig (φ:=n1 a d gg) (χ:=n2 a d gg b e h) (c:=1) (piv:=[0]) (L:=a) (odd:=o) hlz (by decide) haz hSz hl1 hti ⟨by have:=hc.1; have:a.natAbs≤9:=this; omega,by have:=hc.1; have:a.natAbs≤9:=this; omega⟩ ha
  (fun x _=>rfl) (fun i hi hik x _=>by
   rcases Qn hi with rfl | rfl | rfl
   ·exact (Gv ha (by show (a * e - d * b) * x.1 - b * (a * x.2.1 - d * x.1)=a * (e * x.1 - b * x.2.1); grind)).symm
   ·exact absurd rfl hik
   ·exact (Gv ha (by show (a * e - d * b) * (a * x.2.2 - gg * x.1) - (a * h - gg * b) * (a * x.2.1 - d * x.1)=a * (a * (e * x.2.2 - x.2.1 * h) - b * (d * x.2.2 - x.2.1 * gg)+x.1 * (d * h - e * gg)); grind)).symm)
 have hqa:(a:Rat)≠0:=fun e=>ha (BA.1 (by rw [e]; rfl))
 have hqP:((a * e - b * d:Int):Rat)≠0:=fun e=>hP (BA.1 (by rw [e]; rfl))
 have kphi:∀ i x,i < 3→x ∈ l→Bd 162 9 (RI a d gg i x):=fun i x hi hx=>by
  refine Bd.of ha ?_ hc.1
  show Int.natAbs (if i=0 then x.1 else n1 a d gg i x)≤_
  split
  ·exact E0 (hb x hx).1 (by decide)
  ·exact Xp hc (hb x hx) i
 have hq:=Ih (φ:=RI a d gg) (χ:=qE (a * e - b * d) (n2 a d gg b e h)) (c:=1) (lead:=[0]) (det:=dt) hlen (by decide) hat hS hl1 (Zs hdt hc.1 (by decide))
  ((kphi 1 _ (by decide) (Ac hl1)).q) (fun x hx=>(kphi 1 x (by decide) hx).q) (fun x _=>by
    show ((a * x.2.1 - d * x.1:Int):Rat) / ((a * e - b * d:Int):Rat)=((a * x.2.1 - d * x.1:Int):Rat) / (a:Rat) / (((a * e - d * b:Int):Rat) / (a:Rat))
    rw [hcm]; grind)
  (fun i hi hik x _=>by
   rcases Qn hi with rfl | rfl | rfl
   ·show ((e * x.1 - b * x.2.1:Int):Rat) / ((a * e - b * d:Int):Rat)=(x.1:Rat) / (a:Rat) - (b:Rat) / (a:Rat) * (((a * x.2.1 - d * x.1:Int):Rat) / ((a * e - b * d:Int):Rat))
    simp only [Dx,Bb] at hqP ⊢; grind
   ·exact absurd rfl hik
   ·show ((a * (e * x.2.2 - x.2.1 * h) - b * (d * x.2.2 - x.2.1 * gg)+x.1 * (d * h - e * gg):Int):Rat) / ((a * e - b * d:Int):Rat)=((a * x.2.2 - gg * x.1:Int):Rat) / (a:Rat) - ((a * h - gg * b:Int):Rat) / (a:Rat) * (((a * x.2.1 - d * x.1:Int):Rat) / ((a * e - b * d:Int):Rat))
    simp only [Dx,Bb,ME] at hqP ⊢; grind)
  (fun i hi hik x hx=>by
   have k1:=kphi i _ hi (Ac hl1)
   have k2:Bd 162 162 (qE (a * e - b * d) (n2 a d gg b e h) 1 x):=Bd.of hP ((RK hc hd (hb x hx) 1).2 (by decide) (by decide)) hpb
   exact BO k1.q k2.q (k1.mul k2).q (kphi i x hi hx).q)
 refine ⟨_,o', ?_,hq,by rw [← hcm]; exact ho⟩
 have hx:∀ y:Rat,(a:Rat) * (y / (a:Rat))=y:=fun y=>by grind
 rcases hdt with rfl | rfl <;> rcases LT _ 1 (Ej g 1 1) with e9 | e9
 ·exact .inl (by show C5 _ 1 (Ej g 1 1) * (((a * e - d * b:Int):Rat) / (a:Rat))=_; rw [hcm,e9,hx])
 ·exact .inr (by show C5 _ 1 (Ej g 1 1) * (((a * e - d * b:Int):Rat) / (a:Rat))=_; rw [hcm,e9,VQ,hx])
 ·exact .inr (by show C5 _ 1 (Ej g 1 1) * (((a * e - d * b:Int):Rat) / (a:Rat))=_; rw [hcm,e9,VQ,hx])
 ·exact .inl (by show C5 _ 1 (Ej g 1 1) * (((a * e - d * b:Int):Rat) / (a:Rat))=_; rw [hcm,e9,Rat.neg_neg,hx])
theorem Xo {D P:Rat} (hD:D≠0) (hP:P≠0) {X N K M:Rat} (h:D * N - K * M=P * X):X / D=N / P - K / P * (M / D):=by grind
theorem Ut {D P:Rat} (hD:D≠0) (hP:P≠0) (m:Rat):m / D=m / P / (D / P):=by grind
theorem XH {l:List T3} {dt:Rat} {o:Bool} {a d gg b e h c f i:Int} (hl:l[0]?=some (a,d,gg)) (hl1:l[1]?=some (b,e,h)) (hl2:l[2]?=some (c,f,i)) (hb:∀ t,t ∈ l→Kx 9 t) (hP:a * e - b * d≠0) (hD:m3 a d gg b e h (c,f,i)≠0)
 {g:List (List Rat)} {z:List (List Int)} (hlen:g.length=3) (hat:Ej g 2 2≠3) (hS:BH g 2 (Ej g 2 2)=gG 3 (qE (a * e - b * d) (n2 a d gg b e h)) l)
 (hlz:z.length=3) (haz:Eu z 2 2≠3) (hSz:CE z 2 (Eu z 2 2)=gG 3 (n2 a d gg b e h) l) (hti:NW z=true) (hdt:dt=((a * e - b * d:Int):Rat)∨dt=-((a * e - b * d:Int):Rat)) :
 ∃ dt' o',Dj 2 ⟨g,[0,1],dt⟩=some ⟨gG 3 (qE (m3 a d gg b e h (c,f,i)) fun k t=>EF (OL a d gg b e h c f i k) t) l,[0,1,2],dt'⟩ ∧
   Ds 2 ⟨z,[0,1],a * e - b * d,o⟩=some ⟨gG 3 (fun k t=>EF (OL a d gg b e h c f i k) t) l,[0,1,2],m3 a d gg b e h (c,f,i),o'⟩:=by
 have hc:=hb _ (Ac hl)
 have hd:=hb _ (Ac hl1)
 have he:=hb _ (Ac hl2)
 have hpb:(a * e - b * d).natAbs≤162:=DG (Bz hc.1 hd.2.1) (Bz hd.1 hc.2.1)
 have hDb:=RO hc hd he
 have i2:∀ x:T3,EF (OL a d gg b e h c f i 2) x=m3 a d gg b e h x:=fun x=>by
  show (d * h - e * gg) * x.1+(b * gg - a * h) * x.2.1+(a * e - b * d) * x.2.2=a * (e * x.2.2 - x.2.1 * h) - b * (d * x.2.2 - x.2.1 * gg)+x.1 * (d * h - e * gg)
  grind
 have i0:∀ x:T3,m3 a d gg b e h (c,f,i) * (e * x.1 - b * x.2.1) - (e * c - b * f) * m3 a d gg b e h x=(a * e - b * d) * EF (OL a d gg b e h c f i 0) x:=fun x=>by
  show (a * (e * i - f * h) - b * (d * i - f * gg)+c * (d * h - e * gg)) * (e * x.1 - b * x.2.1) - (e * c - b * f) * (a * (e * x.2.2 - x.2.1 * h) - b * (d * x.2.2 - x.2.1 * gg)+x.1 * (d * h - e * gg))=(a * e - b * d) * ((e * i - f * h) * x.1+(c * h - b * i) * x.2.1+(b * f - c * e) * x.2.2)
  grind
 have i1:∀ x:T3,m3 a d gg b e h (c,f,i) * (a * x.2.1 - d * x.1) - (a * f - d * c) * m3 a d gg b e h x=(a * e - b * d) * EF (OL a d gg b e h c f i 1) x:=fun x=>by
  show (a * (e * i - f * h) - b * (d * i - f * gg)+c * (d * h - e * gg)) * (a * x.2.1 - d * x.1) - (a * f - d * c) * (a * (e * x.2.2 - x.2.1 * h) - b * (d * x.2.2 - x.2.1 * gg)+x.1 * (d * h - e * gg))=(a * e - b * d) * ((f * gg - d * i) * x.1+(a * i - c * gg) * x.2.1+(c * d - a * f) * x.2.2)
  grind
 obtain ⟨D,hDe⟩:∃ D,D=m3 a d gg b e h (c,f,i):=⟨_,rfl⟩
 rw [← hDe] at hD hDb ⊢
 simp only [← hDe] at i0 i1
 obtain ⟨P,hPe⟩:∃ P,P=a * e - b * d:=⟨_,rfl⟩
 rw [← hPe] at hP hpb hS hdt ⊢
 simp only [← hPe] at i0 i1
 obtain ⟨o',ho⟩:=Ig (φ:=n2 a d gg b e h) (χ:=fun k t=>EF (OL a d gg b e h c f i k) t) (c:=2) (piv:=[0,1]) (L:=P) (odd:=o) hlz (by decide) haz hSz hl2 hti ⟨by omega,by omega⟩ hP
  (fun x _=>i2 x) (fun k hk hik x _=>by
   rcases Qn hk with rfl | rfl | rfl
   ·exact (Gv hP (by show m3 a d gg b e h (c,f,i) * (e * x.1 - b * x.2.1) - (e * c - b * f) * m3 a d gg b e h x=_; rw [← hDe]; exact i0 x)).symm
   ·exact (Gv hP (by show m3 a d gg b e h (c,f,i) * (a * x.2.1 - d * x.1) - (a * f - d * c) * m3 a d gg b e h x=_; rw [← hDe]; exact i1 x)).symm
   ·exact absurd rfl hik)
 have hqP:(P:Rat)≠0:=fun e=>hP (BA.1 (by rw [e]; rfl))
 have hqD:(D:Rat)≠0:=fun e=>hD (BA.1 (by rw [e]; rfl))
 have kphi:∀ k x,k < 3→x ∈ l→Bd 4374 162 (qE P (n2 a d gg b e h) k x):=fun k x _ hx=>Bd.of hP (RK hc hd (hb x hx) k).1 hpb
 have kfac:∀ k,k < 3→k≠2→Bd 162 162 (qE P (n2 a d gg b e h) k (c,f,i)):=fun k hk hk2=>Bd.of hP ((RK hc hd he k).2 hk2 hk) hpb
 have key:∀ (X N K M:Int),D * N - K * M=P * X→(X:Rat) / (D:Rat)=(N:Rat) / (P:Rat) - (K:Rat) / (P:Rat) * ((M:Rat) / (D:Rat)):=fun X N K M h=>by
  have h:=congrArg (fun t:Int=>(t:Rat)) h
  simp only [Dx,Bb] at h
  exact Xo hqD hqP h
 have hq:=Ih (φ:=qE P (n2 a d gg b e h)) (χ:=qE D fun k t=>EF (OL a d gg b e h c f i k) t) (c:=2) (lead:=[0,1]) (det:=dt) hlen (by decide) hat hS hl2 (Zs hdt hpb (by decide))
  ((kphi 2 _ (by decide) (Ac hl2)).q) (fun x hx=>(kphi 2 x (by decide) hx).q) (fun x _=>by
    show ((EF (OL a d gg b e h c f i 2) x:Int):Rat) / (D:Rat)=(m3 a d gg b e h x:Rat) / (P:Rat) / ((m3 a d gg b e h (c,f,i):Rat) / (P:Rat))
    rw [i2,← hDe]
    exact Ut hqD hqP _)
  (fun k hk hik x _=>by
   rcases Qn hk with rfl | rfl | rfl
   ·show _=(((e * x.1 - b * x.2.1:Int)):Rat) / (P:Rat) - ((e * c - b * f:Int):Rat) / (P:Rat) * (((EF (OL a d gg b e h c f i 2) x:Int):Rat) / (D:Rat))
    rw [i2]; exact key _ _ _ _ (i0 x)
   ·show _=(((a * x.2.1 - d * x.1:Int)):Rat) / (P:Rat) - ((a * f - d * c:Int):Rat) / (P:Rat) * (((EF (OL a d gg b e h c f i 2) x:Int):Rat) / (D:Rat))
    rw [i2]; exact key _ _ _ _ (i1 x)
   ·exact absurd rfl hik)
  (fun k hk hik x hx=>by
   have k2:Bd 4374 4374 (qE D (fun k t=>EF (OL a d gg b e h c f i k) t) 2 x):=Bd.of hD (by show Int.natAbs (EF (OL a d gg b e h c f i 2) x)≤_; rw [i2]; exact RO hc hd (hb x hx)) hDb
   exact BO (kfac k hk hik).q k2.q ((kfac k hk hik).mul k2).q (kphi k x hk hx).q)
 refine ⟨_,o',hq, ?_⟩
 have ho2:n2 a d gg b e h 2 (c,f,i)=D:=hDe.symm
 rw [show n2 a d gg b e h ([0,1]:List Nat).length (c,f,i)=D from ho2] at ho
 exact ho
def D3 (x y z:T3):Int:=m3 x.1 x.2.1 x.2.2 y.1 y.2.1 y.2.2 z
def Yx (σ:T3→T3):Prop:=Ms σ∧∀ x y z,D3 x y z≠0→D3 (σ x) (σ y) (σ z)≠0
theorem Uk:Yx id:=⟨Ww,fun _ _ _ h=>h⟩
theorem Yr (x y z:T3):D3 (Wc x) (Wc y) (Wc z)=-D3 x y z:=by unfold D3 m3 Wc; grind
theorem Yq (x y z:T3):D3 (Wb x) (Wb y) (Wb z)=-D3 x y z:=by unfold D3 m3 Wb; grind
theorem Yp (x y z:T3):D3 (Ly x) (Ly y) (Ly z)=-D3 x y z:=by unfold D3 m3 Ly; grind
theorem V8:Yx Wc:=⟨Pq,fun x y z h=>by rw [Yr]; omega⟩
theorem V7:Yx Wb:=⟨Pp,fun x y z h=>by rw [Yq]; omega⟩
theorem V6:Yx Ly:=⟨Po,fun x y z h=>by rw [Yp]; omega⟩
theorem Mh {σ:T3→T3} (hσ:Ms σ) {l:List T3} (hb:∀ t,t ∈ l→Kx 9 t):∀ t,t ∈ l.map σ→Kx 9 t:=fun t ht=>by
 obtain ⟨x,hx,rfl⟩:=AU.1 ht
 exact hσ.1 x 9 (hb x hx)
theorem DX {σ:T3→T3} {l:List T3} {k:Nat} {x:T3} (h:l[k]?=some x):(l.map σ)[k]?=some ((σ x).1,(σ x).2.1,(σ x).2.2):=by rw [Am,h]; rfl
theorem K6 (l:List T3):l.map id=l:=List.map_id l
theorem ZT {l:List T3} {x y z:T3} (hl:l[0]?=some x) (hb:∀ t,t ∈ l→Kx 9 t) (hD:D3 x y z≠0) :
 ∃ σ dt o,Yx σ∧(σ x).1≠0∧(dt=((σ x).1:Rat)∨dt=-((σ x).1:Rat))∧Dj 0 ⟨gG 3 Q4 l,[],1⟩=some ⟨gG 3 (RI (σ x).1 (σ x).2.1 (σ x).2.2) (l.map σ),[0],dt⟩∧Ds 0 ⟨gG 3 e0 l,[],1,false⟩=some ⟨gG 3 (n1 (σ x).1 (σ x).2.1 (σ x).2.2) (l.map σ),[0],(σ x).1,o⟩:=by
 have hti:NW (gG 3 e0 l)=true:=J7 fun i _ t ht=>E0 (PC (hb t ht) i) (by decide)
 have cq:∀ k,e0 k x=0→Q4 k x=0:=fun k h=>by unfold Q4; rw [h]; rfl
 have cn:∀ k,e0 k x≠0→Q4 k x≠0:=fun k h e=>h (BA.1 (by unfold Q4 at e; rw [e]; rfl))
 by_cases h0:x.1=0
 ·by_cases h1:x.2.1=0
  ·have h2:x.2.2≠0:=fun h2=>hD (by unfold D3 m3; rw [h0,h1,h2]; grind)
   have e1:Ej (gG 3 Q4 l) 0 0=2:=IK hl (by decide) (by decide) (fun i _ hi=>by rcases Qn (TJ hi (by decide)) with rfl | rfl | rfl; exact cq 0 h0; exact cq 1 h1; omega) (cn 2 h2)
   have e2:Eu (gG 3 e0 l) 0 0=2:=IJ hl (by decide) (by decide) (fun i _ hi=>by rcases Qn (TJ hi (by decide)) with rfl | rfl | rfl; exact h0; exact h1; omega) h2
   obtain ⟨dt,o,a,b,c⟩:=QD (l:=l.map Wb) (g:=gG 3 Q4 l) (z:=gG 3 e0 l) (DX hl) (Mh Pp hb) h2 rfl (by rw [e1]; decide)
    (by rw [e1]; unfold BH; rw [Aj (by decide)]; exact HU (by decide) (by decide) (by funext t; rfl) (by funext t; rfl) (fun k hk _ _=>by rcases Qn hk with rfl | rfl | rfl <;> first | (funext t; rfl) | omega)) rfl (by rw [e2]; decide) (by rw [e2]; unfold CE; rw [Aj (by decide)]; exact HU (by decide) (by decide) (by funext t; rfl) (by funext t; rfl) (fun k hk _ _=>by rcases Qn hk with rfl | rfl | rfl <;> first | (funext t; rfl) | omega)) hti
   exact ⟨Wb,dt,o,V7,h2,a,b,c⟩
  ·have e1:Ej (gG 3 Q4 l) 0 0=1:=IK hl (by decide) (by decide) (fun i _ hi=>by rw [show i=0 by omega]; exact cq 0 h0) (cn 1 h1)
   have e2:Eu (gG 3 e0 l) 0 0=1:=IJ hl (by decide) (by decide) (fun i _ hi=>by rw [show i=0 by omega]; exact h0) h1
   obtain ⟨dt,o,a,b,c⟩:=QD (l:=l.map Wc) (g:=gG 3 Q4 l) (z:=gG 3 e0 l) (DX hl) (Mh Pq hb) h1 rfl (by rw [e1]; decide)
    (by rw [e1]; unfold BH; rw [Aj (by decide)]; exact HU (by decide) (by decide) (by funext t; rfl) (by funext t; rfl) (fun k hk _ _=>by rcases Qn hk with rfl | rfl | rfl <;> first | (funext t; rfl) | omega)) rfl (by rw [e2]; decide) (by rw [e2]; unfold CE; rw [Aj (by decide)]; exact HU (by decide) (by decide) (by funext t; rfl) (by funext t; rfl) (fun k hk _ _=>by rcases Qn hk with rfl | rfl | rfl <;> first | (funext t; rfl) | omega)) hti
   exact ⟨Wc,dt,o,V8,h1,a,b,c⟩
 ·have e1:Ej (gG 3 Q4 l) 0 0=0:=IK hl (by decide) (by decide) (fun i _ hi=>by omega) (cn 0 h0)
  have e2:Eu (gG 3 e0 l) 0 0=0:=IJ hl (by decide) (by decide) (fun i _ hi=>by omega) h0
  obtain ⟨dt,o,a,b,c⟩:=QD (l:=l) (g:=gG 3 Q4 l) (z:=gG 3 e0 l) (a:=x.1) (d:=x.2.1) (gg:=x.2.2) hl hb h0 rfl (by rw [e1]; decide) (by rw [e1]; rfl) rfl (by rw [e2]; decide) (by rw [e2]; rfl) hti
  exact ⟨id,dt,o,Uk,h0,a,by rw [K6]; exact b,by rw [K6]; exact c⟩
theorem ZS {l:List T3} {x y z:T3} {dt:Rat} {o:Bool} (hl:l[0]?=some x) (hl1:l[1]?=some y) (hb:∀ t,t ∈ l→Kx 9 t) (hD:D3 x y z≠0) (ha:x.1≠0) (hdt:dt=(x.1:Rat)∨dt=-(x.1:Rat)) :
 ∃ σ dt' o',Yx σ∧(σ x).1 * (σ y).2.1 - (σ y).1 * (σ x).2.1≠0∧(dt'=(((σ x).1 * (σ y).2.1 - (σ y).1 * (σ x).2.1:Int):Rat)∨dt'=-(((σ x).1 * (σ y).2.1 - (σ y).1 * (σ x).2.1:Int):Rat)) ∧
   Dj 1 ⟨gG 3 (RI x.1 x.2.1 x.2.2) l,[0],dt⟩=some ⟨gG 3 (qE ((σ x).1 * (σ y).2.1 - (σ y).1 * (σ x).2.1) (n2 (σ x).1 (σ x).2.1 (σ x).2.2 (σ y).1 (σ y).2.1 (σ y).2.2)) (l.map σ),[0,1],dt'⟩ ∧
   Ds 1 ⟨gG 3 (n1 x.1 x.2.1 x.2.2) l,[0],x.1,o⟩=some ⟨gG 3 (n2 (σ x).1 (σ x).2.1 (σ x).2.2 (σ y).1 (σ y).2.1 (σ y).2.2) (l.map σ),[0,1],(σ x).1 * (σ y).2.1 - (σ y).1 * (σ x).2.1,o'⟩:=by
 have hc:=hb _ (Ac hl)
 have hti:NW (gG 3 (n1 x.1 x.2.1 x.2.2) l)=true:=J7 fun i _ t ht=>E0 (Xp hc (hb t ht) i) (by decide)
 have hqa:(x.1:Rat)≠0:=fun e=>ha (BA.1 (by rw [e]; rfl))
 have cq:∀ k,0 < k→n1 x.1 x.2.1 x.2.2 k y=0→RI x.1 x.2.1 x.2.2 k y=0:=fun k hk h=>by
  show ((if k=0 then y.1 else n1 x.1 x.2.1 x.2.2 k y:Int):Rat) / _=0
  rw [Aj (by omega),h,HC]; exact TG _
 have cn:∀ k,0 < k→n1 x.1 x.2.1 x.2.2 k y≠0→RI x.1 x.2.1 x.2.2 k y≠0:=fun k hk h e=>h (BA.1 (by
  have e:((if k=0 then y.1 else n1 x.1 x.2.1 x.2.2 k y:Int):Rat) / (x.1:Rat)=0:=e
  rw [Aj (by omega)] at e
  have:((n1 x.1 x.2.1 x.2.2 k y:Int):Rat)=0:=by grind
  rw [this]; rfl))
 by_cases h1:n1 x.1 x.2.1 x.2.2 1 y=0
 ·have h2:n1 x.1 x.2.1 x.2.2 2 y≠0:=fun h2=>hD (by
   have h1:x.1 * y.2.1 - x.2.1 * y.1=0:=h1
   have h2:x.1 * y.2.2 - x.2.2 * y.1=0:=h2
   have h3:x.1 * D3 x y z=0:=by unfold D3 m3; grind
   rcases Int.mul_eq_zero.1 h3 with h | h
   ·exact absurd h ha
   ·exact h)
  have e1:Ej (gG 3 (RI x.1 x.2.1 x.2.2) l) 1 1=2:=IK hl1 (by decide) (by decide) (fun i _ hi=>by rw [show i=1 by omega]; exact cq 1 (by decide) h1) (cn 2 (by decide) h2)
  have e2:Eu (gG 3 (n1 x.1 x.2.1 x.2.2) l) 1 1=2:=IJ hl1 (by decide) (by decide) (fun i _ hi=>by rw [show i=1 by omega]; exact h1) h2
  have hP:x.1 * y.2.2 - y.1 * x.2.2≠0:=by rw [Cd y.1]; exact h2
  obtain ⟨dt',o',a,b,c⟩:=Ua (l:=l.map Ly) (g:=gG 3 (RI x.1 x.2.1 x.2.2) l) (z:=gG 3 (n1 x.1 x.2.1 x.2.2) l) (dt:=dt) (o:=o) (DX hl) (DX hl1) (Mh Po hb) ha hP rfl (by rw [e1]; decide)
   (by rw [e1]; unfold BH; rw [Aj (by decide)]; exact HU (by decide) (by decide) (by funext t; rfl) (by funext t; rfl) (fun k hk _ _=>by rcases Qn hk with rfl | rfl | rfl <;> first | (funext t; rfl) | omega)) rfl (by rw [e2]; decide) (by rw [e2]; unfold CE; rw [Aj (by decide)]; exact HU (by decide) (by decide) (by funext t; rfl) (by funext t; rfl) (fun k hk _ _=>by rcases Qn hk with rfl | rfl | rfl <;> first | (funext t; rfl) | omega)) hti hdt
  exact ⟨Ly,dt',o',V6,hP,a,b,c⟩
 ·have e1:Ej (gG 3 (RI x.1 x.2.1 x.2.2) l) 1 1=1:=IK hl1 (by decide) (by decide) (fun i _ hi=>by omega) (cn 1 (by decide) h1)
  have e2:Eu (gG 3 (n1 x.1 x.2.1 x.2.2) l) 1 1=1:=IJ hl1 (by decide) (by decide) (fun i _ hi=>by omega) h1
  have hP:x.1 * y.2.1 - y.1 * x.2.1≠0:=by rw [Cd y.1]; exact h1
  obtain ⟨dt',o',a,b,c⟩:=Ua (l:=l) (g:=gG 3 (RI x.1 x.2.1 x.2.2) l) (z:=gG 3 (n1 x.1 x.2.1 x.2.2) l) (dt:=dt) (o:=o) (a:=x.1) (d:=x.2.1) (gg:=x.2.2) (b:=y.1) (e:=y.2.1) (h:=y.2.2) hl hl1 hb ha hP rfl (by rw [e1]; decide)
   (by rw [e1]; rfl) rfl (by rw [e2]; decide) (by rw [e2]; rfl) hti hdt
  exact ⟨id,dt',o',Uk,hP,a,by rw [K6]; exact b,by rw [K6]; exact c⟩
theorem WN {x y z:T3} {i c:Nat} (hi:i < 3) (hc:c < 3) {t:T3} (ht:[x,y,z][c]?=some t):EF (OL x.1 x.2.1 x.2.2 y.1 y.2.1 y.2.2 z.1 z.2.1 z.2.2 i) t=if i=c then D3 x y z else 0:=by
 rcases Qn hi with rfl | rfl | rfl <;> rcases Qn hc with rfl | rfl | rfl <;> injection ht with ht <;> subst ht <;> simp [OL,EF,c0,c1,c2,D3,m3] <;> grind
theorem Ya {x y z:T3} (hx:Kx 9 x) (hy:Kx 9 y) (hz:Kx 9 z) (i:Nat):Kx 162 (OL x.1 x.2.1 x.2.2 y.1 y.2.1 y.2.2 z.1 z.2.1 z.2.2 i):=by
 obtain ⟨x1,x2,x3⟩:=hx
 obtain ⟨y1,y2,y3⟩:=hy
 obtain ⟨z1,z2,z3⟩:=hz
 have s:∀ {a b c d:Int},a.natAbs≤9→b.natAbs≤9→c.natAbs≤9→d.natAbs≤9→(a * b - c * d).natAbs≤162:=fun h1 h2 h3 h4=>DG (Bz h1 h2) (Bz h3 h4)
 unfold OL
 split
 ·exact ⟨s y2 z3 z2 y3,s z1 y3 y1 z3,s y1 z2 z1 y2⟩
 ·split
  ·exact ⟨s z2 x3 x2 z3,s x1 z3 z1 x3,s z1 x2 x1 z2⟩
  ·exact ⟨s x2 y3 y2 x3,s y1 x3 x1 y3,s x1 y2 y1 x2⟩
theorem YR {l:List T3} {x y z:T3} (hl:l[0]?=some x) (hl1:l[1]?=some y) (hl2:l[2]?=some z) (hb:∀ t,t ∈ l→Kx 9 t) (hD:D3 x y z≠0) :
 ∃ (co:Nat→T3) (D:Int) (dt:Rat) (o:Bool),BQ (gG 3 Q4 l) 3=some ⟨gG 3 (qE D fun i t=>EF (co i) t) l,[0,1,2],dt⟩∧FL (gG 3 e0 l) 3=some ⟨gG 3 (fun i t=>EF (co i) t) l,[0,1,2],D,o⟩ ∧
   D≠0∧D.natAbs≤4374∧(∀ i,i < 3→Kx 162 (co i))∧∀ i c t,i < 3→c < 3→[x,y,z][c]?=some t→EF (co i) t=if i=c then D else 0:=by
 obtain ⟨σ,dt,o,hσ,ha,hdt,hq,hz⟩:=ZT hl hb hD
 have hb1:=Mh hσ.1 hb
 obtain ⟨τ,dt1,o1,hτ,hP,hdt1,hq1,hz1⟩:=ZS (o:=o) (DX (σ:=σ) hl) (DX (σ:=σ) hl1) hb1 (hσ.2 _ _ _ hD) ha hdt
 have hb2:=Mh hτ.1 hb1
 have hD2:=hτ.2 _ _ _ (hσ.2 _ _ _ hD)
 have hl':=DX (σ:=τ) (DX (σ:=σ) hl)
 have hl1':=DX (σ:=τ) (DX (σ:=σ) hl1)
 have hl2':=DX (σ:=τ) (DX (σ:=σ) hl2)
 obtain ⟨ρ,hρ⟩:∃ ρ,ρ=τ ∘ σ:=⟨_,rfl⟩
 have kl:Ms ρ:=by rw [hρ]; exact hτ.1.comp hσ.1
 have hbx:=hb _ (Ac hl)
 have hby:=hb _ (Ac hl1)
 have hbz:=hb _ (Ac hl2)
 have rx:∀ t,τ (σ t)=ρ t:=fun t=>by rw [hρ]; rfl
 have hm:(l.map σ).map τ=l.map ρ:=by rw [CN,hρ]
 have hch:∀ i,∃ co',(∀ t,EF (OL (ρ x).1 (ρ x).2.1 (ρ x).2.2 (ρ y).1 (ρ y).2.1 (ρ y).2.2 (ρ z).1 (ρ z).2.1 (ρ z).2.2 i) (ρ t)=EF co' t)∧Kx 162 co':=fun i=>by
  obtain ⟨c',h1,h2⟩:=kl.2 (OL (ρ x).1 (ρ x).2.1 (ρ x).2.2 (ρ y).1 (ρ y).2.1 (ρ y).2.2 (ρ z).1 (ρ z).2.1 (ρ z).2.2 i)
  exact ⟨c',h1,h2 162 (Ya (kl.1 _ _ hbx) (kl.1 _ _ hby) (kl.1 _ _ hbz) i)⟩
 refine ⟨fun i=>(hch i).choose,D3 (ρ x) (ρ y) (ρ z), ?_⟩
 have hco:=fun i=>(hch i).choose_spec
 simp only [rx,hm] at hP hdt1 hq1 hz1 hl' hl1' hl2' hD2 hb2
 have hti:NW (gG 3 (n2 (ρ x).1 (ρ x).2.1 (ρ x).2.2 (ρ y).1 (ρ y).2.1 (ρ y).2.2) (l.map ρ))=true:=J7 fun i _ t ht=>(RK (kl.1 _ _ hbx) (kl.1 _ _ hby) (hb2 t ht) i).1
 have hq2:n2 (ρ x).1 (ρ x).2.1 (ρ x).2.2 (ρ y).1 (ρ y).2.1 (ρ y).2.2 2 (ρ z)≠0:=hD2
 have hqP:(((ρ x).1 * (ρ y).2.1 - (ρ y).1 * (ρ x).2.1:Int):Rat)≠0:=fun e=>hP (BA.1 (by rw [e]; rfl))
 have e1:=IK (n:=3) (k:=2) (φ:=qE ((ρ x).1 * (ρ y).2.1 - (ρ y).1 * (ρ x).2.1) (n2 (ρ x).1 (ρ x).2.1 (ρ x).2.2 (ρ y).1 (ρ y).2.1 (ρ y).2.2)) hl2' (by decide) (Af 2) (fun i _ hi=>by omega) (fun e=>hq2 (BA.1 (by
  have e:((n2 (ρ x).1 (ρ x).2.1 (ρ x).2.2 (ρ y).1 (ρ y).2.1 (ρ y).2.2 2 (ρ z):Int):Rat) / _=0:=e
  generalize ((n2 (ρ x).1 (ρ x).2.1 (ρ x).2.2 (ρ y).1 (ρ y).2.1 (ρ y).2.2 2 (ρ z):Int):Rat)=m at e
  have e:m=0:=by grind
  rw [e]; rfl)))
 have e2:=IJ (n:=3) (k:=2) (φ:=n2 (ρ x).1 (ρ x).2.1 (ρ x).2.2 (ρ y).1 (ρ y).2.1 (ρ y).2.2) hl2' (by decide) (Af 2) (fun i _ hi=>by omega) hq2
 obtain ⟨dt2,o2,hq3,hz3⟩:=XH (o:=o1) hl' hl1' hl2' hb2 hP hD2 (g:=gG 3 (qE ((ρ x).1 * (ρ y).2.1 - (ρ y).1 * (ρ x).2.1) (n2 (ρ x).1 (ρ x).2.1 (ρ x).2.2 (ρ y).1 (ρ y).2.1 (ρ y).2.2)) (l.map ρ)) rfl (by rw [e1]; decide) (by rw [e1]; rfl)
  (z:=gG 3 (n2 (ρ x).1 (ρ x).2.1 (ρ x).2.2 (ρ y).1 (ρ y).2.1 (ρ y).2.2) (l.map ρ)) rfl (by rw [e2]; decide) (by rw [e2]; rfl) hti hdt1
 refine ⟨dt2,o2, ?_, ?_,hD2,RO (kl.1 _ _ hbx) (kl.1 _ _ hby) (kl.1 _ _ hbz),fun i _=>(hco i).2,fun i c t hi hc ht=>?_⟩
 ·rw [BQ,BQ,BQ,BQ,AV,hq,AV,hq1,AV,hq3]
  refine congrArg some (congrArg (fun g=>RS.mk g [0,1,2] dt2) ((JJ _ _ _).trans (EE fun i _ t _=>?_)))
  show ((EF _ (ρ t):Int):Rat) / _=((EF _ t:Int):Rat) / _
  rw [(hco i).1 t]; rfl
 ·rw [FL,FL,FL,FL,AV,hz,AV,hz1,AV,hz3]
  refine congrArg some (congrArg (fun g=>EZ.mk g [0,1,2] _ o2) ((JJ _ _ _).trans (EE fun i _ t _=>?_)))
  exact (hco i).1 t
 ·rw [← (hco i).1 t]
  refine WN hi hc ?_
  have:=congrArg (Option.map ρ) ht
  rw [← Am] at this
  exact this
theorem YS {l:List (Int×Int)} {x y:Int×Int} (hl:l[0]?=some x) (hl1:l[1]?=some y) (hb:∀ t,t ∈ l→t.1.natAbs≤9∧t.2.natAbs≤9) (hD:x.1 * y.2 - y.1 * x.2≠0) :
 ∃ (co:Nat→Int×Int) (D:Int) (dt:Rat) (o:Bool),BQ (gG 2 (fun i t=>((if i=0 then t.1 else t.2:Int):Rat)) l) 2=some ⟨gG 2 (fun i t=>(((co i).1 * t.1+(co i).2 * t.2:Int):Rat) / (D:Rat)) l,[0,1],dt⟩ ∧
   FL (gG 2 (fun i t=>if i=0 then t.1 else t.2) l) 2=some ⟨gG 2 (fun i t=>(co i).1 * t.1+(co i).2 * t.2) l,[0,1],D,o⟩ ∧
   D≠0∧D.natAbs≤162∧(∀ i,(co i).1.natAbs≤9∧(co i).2.natAbs≤9)∧∀ i c t,i < 2→c < 2→[x,y][c]?=some t→(co i).1 * t.1+(co i).2 * t.2=if i=c then D else 0:=by
 have lt2:∀ {i:Nat},i < 2→i=0∨i=1:=fun h=>by omega
 have nz:∀ {a:Int},a≠0→(a:Rat)≠0:=fun ha e=>ha (BA.1 (by rw [e]; rfl))
 -- the pivot in the first row of l
 have core:∀ {l:List (Int×Int)} {x y:Int×Int} {g:List (List Rat)} {z:List (List Int)},l[0]?=some x→l[1]?=some y→(∀ t,t ∈ l→t.1.natAbs≤9∧t.2.natAbs≤9)→x.1 * y.2 - y.1 * x.2≠0→x.1≠0 →
  g.length=2→Ej g 0 0≠2→BH g 0 (Ej g 0 0)=gG 2 (fun i t=>((if i=0 then t.1 else t.2:Int):Rat)) l→z.length=2→Eu z 0 0≠2→CE z 0 (Eu z 0 0)=gG 2 (fun i t=>if i=0 then t.1 else t.2) l→NW z=true →
  ∃ dt o,BQ g 2=some ⟨gG 2 (fun i t=>((if i=0 then y.2 * t.1 - y.1 * t.2 else x.1 * t.2 - x.2 * t.1:Int):Rat) / ((x.1 * y.2 - y.1 * x.2:Int):Rat)) l,[0,1],dt⟩ ∧
    FL z 2=some ⟨gG 2 (fun i t=>if i=0 then y.2 * t.1 - y.1 * t.2 else x.1 * t.2 - x.2 * t.1) l,[0,1],x.1 * y.2 - y.1 * x.2,o⟩:=by
  intro l x y g z hl hl1 hb hD ha hlen hat hS hlz haz hSz hti
  obtain ⟨xa,xb⟩:=hb _ (Ac hl)
  obtain ⟨ya,yb⟩:=hb _ (Ac hl1)
  have hqa:=nz ha
  have hqD:=nz hD
  have hcm:x.1 * y.2 - x.2 * y.1=x.1 * y.2 - y.1 * x.2:=by rw [Cd x.2]
  have hDb:(x.1 * y.2 - y.1 * x.2).natAbs≤162:=DG (Bz xa yb) (Bz ya xb)
  have bx:∀ t,t ∈ l→(x.1 * t.2 - x.2 * t.1).natAbs≤162:=fun t ht=>DG (Bz xa (hb t ht).2) (Bz xb (hb t ht).1)
  have by':∀ t,t ∈ l→(y.2 * t.1 - y.1 * t.2).natAbs≤162:=fun t ht=>DG (Bz yb (hb t ht).1) (Bz ya (hb t ht).2)
  obtain ⟨o,ho⟩:=Ig (χ:=fun i t=>if i=0 then t.1 else x.1 * t.2 - x.2 * t.1) (c:=0) (piv:=[]) (L:=1) (odd:=false) hlz (by decide) haz hSz hl hti ⟨by decide,by decide⟩ (by decide)
   (fun t _=>rfl) (fun i hi hik t _=>by
    rcases lt2 hi with rfl | rfl
    ·exact absurd rfl hik
    ·exact (Gv (by decide) (by show x.1 * t.2 - x.2 * t.1=1 * _; rw [Dn]; rfl)).symm)
  have hq:=Ih (χ:=fun i t=>((if i=0 then t.1 else x.1 * t.2 - x.2 * t.1:Int):Rat) / (x.1:Rat)) (c:=0) (lead:=[]) (det:=1) hlen (by decide) hat hS hl Bd.one.q
   ((Bd.int _ xa).q) (fun t ht=>(Bd.int _ (hb t ht).1).q) (fun t _=>rfl)
   (fun i hi hik t _=>by
    rcases lt2 hi with rfl | rfl
    ·exact absurd rfl hik
    ·show ((x.1 * t.2 - x.2 * t.1:Int):Rat) / (x.1:Rat)=(t.2:Rat) - (x.2:Rat) * ((t.1:Rat) / (x.1:Rat))
     rw [Dx,Bb,Bb]; grind)
   (fun i hi hik t ht=>by
    rcases lt2 hi with rfl | rfl
    ·exact absurd rfl hik
    ·have k1:Bd 9 1 (x.2:Rat):=Bd.int _ xb
     have k2:Bd 9 9 ((t.1:Rat) / (x.1:Rat)):=Bd.of ha (hb t ht).1 xa
     exact BO k1.q k2.q (k1.mul k2).q (Bd.int _ (hb t ht).2).q)
  have hdt:C5 1 0 (Ej g 0 0) * (x.1:Rat)=(x.1:Rat)∨C5 1 0 (Ej g 0 0) * (x.1:Rat)=-(x.1:Rat):=by
   rcases LT 1 0 (Ej g 0 0) with e | e
   ·exact .inl (by rw [e,VP])
   ·exact .inr (by rw [e,VQ,VP])
  obtain ⟨dt,hdt9⟩:∃ dt,dt=C5 1 0 (Ej g 0 0) * (x.1:Rat):=⟨_,rfl⟩
  rw [← hdt9] at hdt
  have hq:Dj 0 ⟨g,[],1⟩=some ⟨gG 2 (fun i t=>((if i=0 then t.1 else x.1 * t.2 - x.2 * t.1:Int):Rat) / (x.1:Rat)) l,[0],dt⟩:=by rw [hdt9]; exact hq
  have ho:Ds 0 ⟨z,[],1,false⟩=some ⟨gG 2 (fun i t=>if i=0 then t.1 else x.1 * t.2 - x.2 * t.1) l,[0],x.1,o⟩:=ho
  have e1:Ej (gG 2 (fun i t=>((if i=0 then t.1 else x.1 * t.2 - x.2 * t.1:Int):Rat) / (x.1:Rat)) l) 1 1=1:=IK hl1 (by decide) (by decide) (fun i _ hi=>by omega) (by
   show ((x.1 * y.2 - x.2 * y.1:Int):Rat) / (x.1:Rat)≠0
   rw [hcm]; exact fun e=>hqD (by grind))
  have e2:Eu (gG 2 (fun i t=>if i=0 then t.1 else x.1 * t.2 - x.2 * t.1) l) 1 1=1:=IJ hl1 (by decide) (by decide) (fun i _ hi=>by omega) (by show x.1 * y.2 - x.2 * y.1≠0; rw [hcm]; exact hD)
  obtain ⟨o',ho'⟩:=Ig (φ:=fun i t=>if i=0 then t.1 else x.1 * t.2 - x.2 * t.1) (χ:=fun i t=>if i=0 then y.2 * t.1 - y.1 * t.2 else x.1 * t.2 - x.2 * t.1) (g:=gG 2 (fun i t=>if i=0 then t.1 else x.1 * t.2 - x.2 * t.1) l) (c:=1) (piv:=[0]) (L:=x.1) (odd:=o) (EI _ _ _) (by decide) (by show Eu _ 1 1≠2; rw [e2]; decide) (by show CE _ 1 (Eu _ 1 1)=_; rw [e2]; rfl) hl1
   (J7 fun i _ t ht=>by
    show Int.natAbs (if i=0 then t.1 else x.1 * t.2 - x.2 * t.1)≤_
    split
    ·exact E0 (hb t ht).1 (by decide)
    ·exact E0 (bx t ht) (by decide)) ⟨by omega,by omega⟩ ha
   (fun t _=>rfl) (fun i hi hik t _=>by
    rcases lt2 hi with rfl | rfl
    ·exact (Gv ha (by show (x.1 * y.2 - x.2 * y.1) * t.1 - y.1 * (x.1 * t.2 - x.2 * t.1)=x.1 * (y.2 * t.1 - y.1 * t.2); grind)).symm
    ·exact absurd rfl hik)
  have k1:∀ i t,t ∈ l→Bd 162 9 (((if i=0 then t.1 else x.1 * t.2 - x.2 * t.1:Int):Rat) / (x.1:Rat)):=fun i t ht=>Bd.of ha (by
   split
   ·exact E0 (hb t ht).1 (by decide)
   ·exact bx t ht) xa
  have hq':=Ih (φ:=fun i t=>((if i=0 then t.1 else x.1 * t.2 - x.2 * t.1:Int):Rat) / (x.1:Rat)) (χ:=fun i t=>((if i=0 then y.2 * t.1 - y.1 * t.2 else x.1 * t.2 - x.2 * t.1:Int):Rat) / ((x.1 * y.2 - y.1 * x.2:Int):Rat)) (g:=gG 2 (fun i t=>((if i=0 then t.1 else x.1 * t.2 - x.2 * t.1:Int):Rat) / (x.1:Rat)) l) (c:=1) (lead:=[0]) (det:=dt) (EI _ _ _) (by decide) (by show Ej _ 1 1≠2; rw [e1]; decide) (by show BH _ 1 (Ej _ 1 1)=_; rw [e1]; rfl) hl1 (Zs hdt xa (by decide))
   ((k1 1 _ (Ac hl1)).q) (fun t ht=>(k1 1 t ht).q) (fun t _=>by
     show ((x.1 * t.2 - x.2 * t.1:Int):Rat) / ((x.1 * y.2 - y.1 * x.2:Int):Rat)=((x.1 * t.2 - x.2 * t.1:Int):Rat) / (x.1:Rat) / (((x.1 * y.2 - x.2 * y.1:Int):Rat) / (x.1:Rat))
     rw [hcm]; exact Ut hqD hqa _)
   (fun i hi hik t _=>by
    rcases lt2 hi with rfl | rfl
    ·show ((y.2 * t.1 - y.1 * t.2:Int):Rat) / ((x.1 * y.2 - y.1 * x.2:Int):Rat)=(t.1:Rat) / (x.1:Rat) - (y.1:Rat) / (x.1:Rat) * (((x.1 * t.2 - x.2 * t.1:Int):Rat) / ((x.1 * y.2 - y.1 * x.2:Int):Rat))
     refine Xo hqD hqa ?_
     simp only [Dx,Bb]; grind
    ·exact absurd rfl hik)
   (fun i hi hik t ht=>by
    have k2:Bd 162 162 (((x.1 * t.2 - x.2 * t.1:Int):Rat) / ((x.1 * y.2 - y.1 * x.2:Int):Rat)):=Bd.of hD (bx t ht) hDb
    exact BO (k1 i _ (Ac hl1)).q k2.q ((k1 i _ (Ac hl1)).mul k2).q (k1 i t ht).q)
  have hf:∀ {A:Int},A=x.1 * y.2 - y.1 * x.2→EZ.mk (gG 2 (fun i t=>if i=0 then y.2 * t.1 - y.1 * t.2 else x.1 * t.2 - x.2 * t.1) l) [0,1] A o'=EZ.mk (gG 2 (fun i t=>if i=0 then y.2 * t.1 - y.1 * t.2 else x.1 * t.2 - x.2 * t.1) l) [0,1] (x.1 * y.2 - y.1 * x.2) o':=fun h=>by rw [h]
  exact ⟨_,o',by rw [BQ,BQ,BQ,AV,hq,AV]; exact hq',by rw [FL,FL,FL,AV,ho,AV]; exact ho'.trans (congrArg some (hf hcm))⟩
 obtain ⟨xa,xb⟩:=hb _ (Ac hl)
 obtain ⟨ya,yb⟩:=hb _ (Ac hl1)
 have hti:NW (gG 2 (fun i (t:Int×Int)=>if i=0 then t.1 else t.2) l)=true:=J7 fun i _ t ht=>by
  show Int.natAbs (if i=0 then t.1 else t.2)≤_
  split
  ·exact E0 (hb t ht).1 (by decide)
  ·exact E0 (hb t ht).2 (by decide)
 by_cases h0:x.1=0
 ·have h1:x.2≠0:=fun h1=>hD (by rw [h0,h1]; omega)
  have e1:Ej (gG 2 (fun i t=>((if i=0 then t.1 else t.2:Int):Rat)) l) 0 0=1:=IK hl (by decide) (by decide) (fun i _ hi=>by rw [show i=0 by omega]; show (x.1:Rat)=0; rw [h0]; rfl) (nz h1)
  have e2:Eu (gG 2 (fun i (t:Int×Int)=>if i=0 then t.1 else t.2) l) 0 0=1:=IJ hl (by decide) (by decide) (fun i _ hi=>by rw [show i=0 by omega]; exact h0) h1
  obtain ⟨dt,o,hF,hs⟩:=core (l:=l.map Prod.swap) (x:=x.swap) (y:=y.swap) (g:=gG 2 (fun i t=>((if i=0 then t.1 else t.2:Int):Rat)) l) (z:=gG 2 (fun i t=>if i=0 then t.1 else t.2) l) (by rw [Am,hl]; rfl) (by rw [Am,hl1]; rfl)
   (fun t ht=>by obtain ⟨u,hu,rfl⟩:=AU.1 ht; exact ⟨(hb u hu).2,(hb u hu).1⟩) (fun e=>hD (by have e:x.2 * y.1 - y.2 * x.1=0:=e; rw [Cd y.1,Cd x.1]; omega)) h1 (EI _ _ _) (by rw [e1]; decide)
   (by rw [e1]; unfold BH; rw [Aj (by decide)]; exact HU (by decide) (by decide) (by funext t; rfl) (by funext t; rfl) (fun k hk _ _=>by omega)) (EI _ _ _) (by rw [e2]; decide)
   (by rw [e2]; unfold CE; rw [Aj (by decide)]; exact HU (by decide) (by decide) (by funext t; rfl) (by funext t; rfl) (fun k hk _ _=>by omega)) hti
  refine ⟨fun i=>if i=0 then (-y.2,y.1) else (x.2,-x.1),x.2 * y.1 - y.2 * x.1,dt,o, ?_, ?_,fun e=>hD (by rw [Cd y.1,Cd x.1]; omega),DG (Bz xb ya) (Bz yb xa),fun i=>?_,fun i c t hi hc ht=>?_⟩
  ·rw [hF,JJ]
   refine congrArg some (congrArg (fun g=>RS.mk g [0,1] dt) (EE fun i hi t _=>?_))
   rcases lt2 hi with rfl | rfl
   ·exact congrArg (fun v:Int=>(v:Rat) / ((x.2 * y.1 - y.2 * x.1:Int):Rat)) (show y.1 * t.2 - y.2 * t.1=-y.2 * t.1+y.1 * t.2 by grind)
   ·exact congrArg (fun v:Int=>(v:Rat) / ((x.2 * y.1 - y.2 * x.1:Int):Rat)) (show x.2 * t.1 - x.1 * t.2=x.2 * t.1+-x.1 * t.2 by grind)
  ·rw [hs,JJ]
   refine congrArg some (congrArg (fun g=>EZ.mk g [0,1] _ o) (EE fun i hi t _=>?_))
   rcases lt2 hi with rfl | rfl
   ·show y.1 * t.2 - y.2 * t.1=-y.2 * t.1+y.1 * t.2; grind
   ·show x.2 * t.1 - x.1 * t.2=x.2 * t.1+-x.1 * t.2; grind
  ·show Int.natAbs (if i=0 then (-y.2,y.1) else (x.2,-x.1)).1≤9∧Int.natAbs (if i=0 then (-y.2,y.1) else (x.2,-x.1)).2≤9
   split
   ·exact ⟨by show Int.natAbs (-y.2)≤9; omega,ya⟩
   ·exact ⟨xb,by show Int.natAbs (-x.1)≤9; omega⟩
  ·rcases lt2 hi with rfl | rfl <;> rcases lt2 hc with rfl | rfl <;> injection ht with ht <;> subst ht <;> simp <;> grind
 ·have e1:Ej (gG 2 (fun i t=>((if i=0 then t.1 else t.2:Int):Rat)) l) 0 0=0:=IK hl (by decide) (by decide) (fun i _ hi=>by omega) (nz h0)
  have e2:Eu (gG 2 (fun i (t:Int×Int)=>if i=0 then t.1 else t.2) l) 0 0=0:=IJ hl (by decide) (by decide) (fun i _ hi=>by omega) h0
  obtain ⟨dt,o,hF,hs⟩:=core (g:=gG 2 (fun i t=>((if i=0 then t.1 else t.2:Int):Rat)) l) (z:=gG 2 (fun i t=>if i=0 then t.1 else t.2) l) hl hl1 hb hD h0 (EI _ _ _) (by rw [e1]; decide) (by rw [e1]; rfl) (EI _ _ _) (by rw [e2]; decide) (by rw [e2]; rfl) hti
  refine ⟨fun i=>if i=0 then (y.2,-y.1) else (-x.2,x.1),x.1 * y.2 - y.1 * x.2,dt,o, ?_, ?_,hD,DG (Bz xa yb) (Bz ya xb),fun i=>?_,fun i c t hi hc ht=>?_⟩
  ·rw [hF]
   refine congrArg some (congrArg (fun g=>RS.mk g [0,1] dt) (EE fun i hi t _=>?_))
   rcases lt2 hi with rfl | rfl
   ·exact congrArg (fun v:Int=>(v:Rat) / ((x.1 * y.2 - y.1 * x.2:Int):Rat)) (show y.2 * t.1 - y.1 * t.2=y.2 * t.1+-y.1 * t.2 by grind)
   ·exact congrArg (fun v:Int=>(v:Rat) / ((x.1 * y.2 - y.1 * x.2:Int):Rat)) (show x.1 * t.2 - x.2 * t.1=-x.2 * t.1+x.1 * t.2 by grind)
  ·rw [hs]
   refine congrArg some (congrArg (fun g=>EZ.mk g [0,1] _ o) (EE fun i hi t _=>?_))
   rcases lt2 hi with rfl | rfl
   ·show y.2 * t.1 - y.1 * t.2=y.2 * t.1+-y.1 * t.2; grind
   ·show x.1 * t.2 - x.2 * t.1=-x.2 * t.1+x.1 * t.2; grind
  ·show Int.natAbs (if i=0 then (y.2,-y.1) else (-x.2,x.1)).1≤9∧Int.natAbs (if i=0 then (y.2,-y.1) else (-x.2,x.1)).2≤9
   split
   ·exact ⟨yb,by show Int.natAbs (-y.1)≤9; omega⟩
   ·exact ⟨by show Int.natAbs (-x.2)≤9; omega,xa⟩
  ·rcases lt2 hi with rfl | rfl <;> rcases lt2 hc with rfl | rfl <;> injection ht with ht <;> subst ht <;> simp <;> grind
theorem YT {l:List Int} {x:Int} (hl:l[0]?=some x) (hb:∀ t,t ∈ l→t.natAbs≤9) (hx:x≠0) :
 ∃ dt o,BQ (gG 1 (fun _ (t:Int)=>(t:Rat)) l) 1=some ⟨gG 1 (fun _ (t:Int)=>(t:Rat) / (x:Rat)) l,[0],dt⟩∧FL (gG 1 (fun _ t=>t) l) 1=some ⟨gG 1 (fun _ t=>t) l,[0],x,o⟩:=by
 have hxb:=hb _ (Ac hl)
 have hqx:(x:Rat)≠0:=fun e=>hx (BA.1 (by rw [e]; rfl))
 have e1:Ej (gG 1 (fun _ (t:Int)=>(t:Rat)) l) 0 0=0:=IK hl (by decide) (by decide) (fun i _ hi=>by omega) hqx
 have e2:Eu (gG 1 (fun _ (t:Int)=>t) l) 0 0=0:=IJ hl (by decide) (by decide) (fun i _ hi=>by omega) hx
 obtain ⟨o,ho⟩:=Ig (n:=1) (φ:=fun _ t=>t) (χ:=fun _ t=>t) (g:=gG 1 (fun _ (t:Int)=>t) l) (c:=0) (piv:=[]) (L:=1) (odd:=false) (EI _ _ _) (by decide) (by show Eu _ 0 0≠1; rw [e2]; decide) (by show CE _ 0 (Eu _ 0 0)=_; rw [e2]; rfl) hl
  (J7 fun _ _ t ht=>E0 (hb t ht) (by decide)) ⟨by decide,by decide⟩ (by decide) (fun _ _=>rfl) (fun i hi hik _ _=>absurd (show i=0 by omega) hik)
 have hq:=Ih (n:=1) (φ:=fun _ (t:Int)=>(t:Rat)) (χ:=fun _ (t:Int)=>(t:Rat) / (x:Rat)) (g:=gG 1 (fun _ (t:Int)=>(t:Rat)) l) (c:=0) (lead:=[]) (det:=1) (EI _ _ _) (by decide) (by show Ej _ 0 0≠1; rw [e1]; decide) (by show BH _ 0 (Ej _ 0 0)=_; rw [e1]; rfl) hl Bd.one.q
  ((Bd.int _ hxb).q) (fun t ht=>(Bd.int _ (hb t ht)).q) (fun _ _=>rfl) (fun i hi hik _ _=>absurd (show i=0 by omega) hik) (fun i hi hik _ _=>absurd (show i=0 by omega) hik)
 exact ⟨_,o,by rw [BQ,BQ,AV]; exact hq,by rw [FL,FL,AV]; exact ho⟩
def CR (n i:Nat):List Int:=(List.replicate n (0:Int)).set i 1
def GY (m:List (List Int)):List (List Int):=m.mapIdx fun i r=>r ++ CR m.length i
def Ce (f g:Nat→Int):Nat→Int
 | 0=>0
 | k+1=>Ce f g k+f k * g k
structure Fw (m:List (List Int)) (n:Nat) (C:List (List Int)) (D:Int):Prop where
 len:C.length=n
 rect:∀ r,r ∈ C→r.length=n
 bd:IB 162 C
 d0:D≠0
 dB:D.natAbs≤4374
 one:∀ i c,i < n→c < n→Ce (fun j=>BD C i j) (fun j=>BD m j c) n=if i=c then D else 0
def B9 (C:List (List Int)) (D:Int):List (List Rat):=C.map (List.map fun x:Int=>(x:Rat) / (D:Rat))
def Gx (m:List (List Int)) (n:Nat) (C:List (List Int)) (D:Int):Prop :=
 (∃ F,BQ (Ho m) n=some F∧F.lead.length=n∧F.g.map (List.drop n)=B9 C D)∧∃ s,FL (GY m) n=some s∧s.piv.length=n∧s.last=D∧s.m.map (List.drop n)=C∧s.m.length=n
theorem Il {i:Nat} (h:i < 3):i=0∨i=1∨i=2:=by omega
theorem Zl {a b c d e f g h i:Int} (hb:IB 9 [[a,b,c],[d,e,f],[g,h,i]]) (hd:Iy a b c d e f g h i≠0):∃ C D,Gx [[a,b,c],[d,e,f],[g,h,i]] 3 C D∧Fw [[a,b,c],[d,e,f],[g,h,i]] 3 C D:=by
 have k0:=hb _ (Ac (i:=0) rfl)
 have k1:=hb _ (Ac (i:=1) rfl)
 have k2:=hb _ (Ac (i:=2) rfl)
 have u:∀ {v:Int},v.natAbs≤1→v.natAbs≤9:=fun h=>Aw h (by decide)
 obtain ⟨co,D,dt,o,hF,hs,h0,hB,hc,hid⟩:=YR (l:=[(a,d,g),(b,e,h),(c,f,i),(1,0,0),(0,1,0),(0,0,1)]) (x:=(a,d,g)) (y:=(b,e,h)) (z:=(c,f,i)) rfl rfl rfl (fun t ht=>by
  simp only [A2,BG,D7] at ht
  rcases ht with rfl | rfl | rfl | rfl | rfl | rfl
  ·exact ⟨k0 _ (by simp),k1 _ (by simp),k2 _ (by simp)⟩
  ·exact ⟨k0 _ (by simp),k1 _ (by simp),k2 _ (by simp)⟩
  ·exact ⟨k0 _ (by simp),k1 _ (by simp),k2 _ (by simp)⟩
  ·exact ⟨u (by decide),u (by decide),u (by decide)⟩
  ·exact ⟨u (by decide),u (by decide),u (by decide)⟩
  ·exact ⟨u (by decide),u (by decide),u (by decide)⟩) hd
 have d1:∀ i,EF (co i) (1,0,0)=(co i).1:=fun i=>by unfold EF; simp
 have d2:∀ i,EF (co i) (0,1,0)=(co i).2.1:=fun i=>by unfold EF; simp
 have d3:∀ i,EF (co i) (0,0,1)=(co i).2.2:=fun i=>by unfold EF; simp
 refine ⟨[[(co 0).1,(co 0).2.1,(co 0).2.2],[(co 1).1,(co 1).2.1,(co 1).2.2],[(co 2).1,(co 2).2.1,(co 2).2.2]],D,⟨⟨_,hF,rfl, ?_⟩,_,hs,rfl,rfl, ?_,rfl⟩,rfl, ?_, ?_,h0,hB, ?_⟩
 ·rw [← d1,← d2,← d3,← d1,← d2,← d3,← d1,← d2,← d3]; rfl
 ·rw [← d1,← d2,← d3,← d1,← d2,← d3,← d1,← d2,← d3]; rfl
 ·intro r hr
  simp only [A2,BG,D7] at hr
  rcases hr with rfl | rfl | rfl <;> rfl
 ·intro r hr x hx
  simp only [A2,BG,D7] at hr
  rcases hr with rfl | rfl | rfl <;> simp only [A2,BG,D7] at hx
  ·obtain ⟨p,q,r⟩:=hc 0 (by decide); rcases hx with rfl | rfl | rfl; exact p; exact q; exact r
  ·obtain ⟨p,q,r⟩:=hc 1 (by decide); rcases hx with rfl | rfl | rfl; exact p; exact q; exact r
  ·obtain ⟨p,q,r⟩:=hc 2 (by decide); rcases hx with rfl | rfl | rfl; exact p; exact q; exact r
 ·intro p q hp hq
  have z:∀ (u v x y z w:Int),0+u * v+x * y+z * w=u * v+x * y+z * w:=fun u v x y z w=>by omega
  rcases Il hq with rfl | rfl | rfl
  ·rw [← hid p 0 (a,d,g) hp (by decide) rfl]
   rcases Il hp with rfl | rfl | rfl <;> exact z _ _ _ _ _ _
  ·rw [← hid p 1 (b,e,h) hp (by decide) rfl]
   rcases Il hp with rfl | rfl | rfl <;> exact z _ _ _ _ _ _
  ·rw [← hid p 2 (c,f,i) hp (by decide) rfl]
   rcases Il hp with rfl | rfl | rfl <;> exact z _ _ _ _ _ _
theorem Zm {a b d e:Int} (hb:IB 9 [[a,b],[d,e]]) (hd:a * e - b * d≠0):∃ C D,Gx [[a,b],[d,e]] 2 C D∧Fw [[a,b],[d,e]] 2 C D:=by
 have k0:=hb _ (Ac (i:=0) rfl)
 have k1:=hb _ (Ac (i:=1) rfl)
 have lt2:∀ {i:Nat},i < 2→i=0∨i=1:=fun h=>by omega
 obtain ⟨co,D,dt,o,hF,hs,h0,hB,hc,hid⟩:=YS (l:=[(a,d),(b,e),(1,0),(0,1)]) (x:=(a,d)) (y:=(b,e)) rfl rfl (fun t ht=>by
  simp only [A2,BG,D7] at ht
  rcases ht with rfl | rfl | rfl | rfl
  ·exact ⟨k0 _ (by simp),k1 _ (by simp)⟩
  ·exact ⟨k0 _ (by simp),k1 _ (by simp)⟩
  ·exact ⟨by decide,by decide⟩
  ·exact ⟨by decide,by decide⟩) hd
 have d1:∀ i,(co i).1 * 1+(co i).2 * 0=(co i).1:=fun i=>by omega
 have d2:∀ i,(co i).1 * 0+(co i).2 * 1=(co i).2:=fun i=>by omega
 refine ⟨[[(co 0).1,(co 0).2],[(co 1).1,(co 1).2]],D,⟨⟨_,hF,rfl, ?_⟩,_,hs,rfl,rfl, ?_,rfl⟩,rfl, ?_, ?_,h0,by omega, ?_⟩
 ·show [[(((co 0).1 * 1+(co 0).2 * 0:Int):Rat) / (D:Rat),(((co 0).1 * 0+(co 0).2 * 1:Int):Rat) / (D:Rat)],[(((co 1).1 * 1+(co 1).2 * 0:Int):Rat) / (D:Rat),(((co 1).1 * 0+(co 1).2 * 1:Int):Rat) / (D:Rat)]]=_
  rw [d1,d2,d1,d2]; rfl
 ·show [[(co 0).1 * 1+(co 0).2 * 0,(co 0).1 * 0+(co 0).2 * 1],[(co 1).1 * 1+(co 1).2 * 0,(co 1).1 * 0+(co 1).2 * 1]]=_
  rw [d1,d2,d1,d2]
 ·intro r hr
  simp only [A2,BG,D7] at hr
  rcases hr with rfl | rfl <;> rfl
 ·intro r hr x hx
  simp only [A2,BG,D7] at hr
  rcases hr with rfl | rfl <;> simp only [A2,BG,D7] at hx
  ·rcases hx with rfl | rfl
   ·exact Aw (hc 0).1 (by decide)
   ·exact Aw (hc 0).2 (by decide)
  ·rcases hx with rfl | rfl
   ·exact Aw (hc 1).1 (by decide)
   ·exact Aw (hc 1).2 (by decide)
 ·intro p q hp hq
  have z:∀ (u v x y:Int),0+u * v+x * y=u * v+x * y:=fun u v x y=>by omega
  rcases lt2 hq with rfl | rfl
  ·rw [← hid p 0 (a,d) hp (by decide) rfl]
   rcases lt2 hp with rfl | rfl <;> exact z _ _ _ _
  ·rw [← hid p 1 (b,e) hp (by decide) rfl]
   rcases lt2 hp with rfl | rfl <;> exact z _ _ _ _
theorem Zn {a:Int} (hb:IB 9 [[a]]) (hd:a≠0):∃ C D,Gx [[a]] 1 C D∧Fw [[a]] 1 C D:=by
 have k0:=hb _ (Ac (i:=0) rfl) a (by simp)
 obtain ⟨dt,o,hF,hs⟩:=YT (l:=[a,1]) (x:=a) rfl (fun t ht=>by
  simp only [A2,BG,D7] at ht
  rcases ht with rfl | rfl
  ·exact k0
  ·decide) hd
 refine ⟨[[1]],a,⟨⟨_,hF,rfl,rfl⟩,_,hs,rfl,rfl,rfl,rfl⟩,rfl, ?_, ?_,hd,Aw k0 (by decide), ?_⟩
 ·intro r hr; rw [Bo] at hr; subst hr; rfl
 ·intro r hr x hx; rw [Bo] at hr; subst hr; rw [Bo] at hx; subst hx; decide
 ·intro p q hp hq
  obtain rfl:p=0:=by omega
  obtain rfl:q=0:=by omega
  show 0+1 * a=a; omega
theorem RT {m:List (List Int)} {n:Nat} (hn:n≤3) (hn1:1≤n) (hm:m.length=n) (hr:∀ r,r ∈ m→r.length=n) (hb:IB 9 m) (hd:Fv m≠0):∃ C D,Gx m n C D∧Fw m n C D:=by
 have hn4:n=1∨n=2∨n=3:=by omega
 rcases hn4 with rfl | rfl | rfl
 ·obtain ⟨r,rfl⟩:=Gt hm
  obtain ⟨a,rfl⟩:=Gt (hr r (by simp))
  exact Zn hb hd
 ·obtain ⟨r,r',rfl⟩:=ED hm
  obtain ⟨a,b,rfl⟩:=ED (hr r (by simp))
  obtain ⟨d,e,rfl⟩:=ED (hr r' (by simp))
  exact Zm hb hd
 ·obtain ⟨r,r',r'',rfl⟩:=Dz hm
  obtain ⟨a,b,c,rfl⟩:=Dz (hr r (by simp))
  obtain ⟨d,e,f,rfl⟩:=Dz (hr r' (by simp))
  obtain ⟨g,h,i,rfl⟩:=Dz (hr r'' (by simp))
  exact Zl hb hd
theorem WJ {m:List (List Int)} {n:Nat} (hn:n≤3) (hm:m.length=n) (hr:∀ r,r ∈ m→r.length=n) (hb:IB 9 m) {s:EZ} (hs:FL m n=some s) (hf:s.piv.length=n):∃ F,BQ (m.map CY) n=some F∧F.lead.length=n:=by
 have hd:=UX hn hm hr hs hf
 have hn4:n=0∨n=1∨n=2∨n=3:=by omega
 rcases hn4 with rfl | rfl | rfl | rfl
 ·exact ⟨_,rfl,rfl⟩
 ·obtain ⟨r,rfl⟩:=Gt hm
  obtain ⟨a,rfl⟩:=Gt (hr r (by simp))
  have k0:=hb _ (Ac (i:=0) rfl)
  obtain ⟨dt,o,hF,-⟩:=YT (l:=[a]) (x:=a) rfl (fun t ht=>k0 t ht) hd
  exact ⟨_,hF,rfl⟩
 ·obtain ⟨r,r',rfl⟩:=ED hm
  obtain ⟨a,b,rfl⟩:=ED (hr r (by simp))
  obtain ⟨d,e,rfl⟩:=ED (hr r' (by simp))
  have k0:=hb _ (Ac (i:=0) rfl)
  have k1:=hb _ (Ac (i:=1) rfl)
  obtain ⟨co,D,dt,o,hF,-⟩:=YS (l:=[(a,d),(b,e)]) (x:=(a,d)) (y:=(b,e)) rfl rfl (fun t ht=>by
   simp only [A2,BG,D7] at ht
   rcases ht with rfl | rfl
   ·exact ⟨k0 _ (by simp),k1 _ (by simp)⟩
   ·exact ⟨k0 _ (by simp),k1 _ (by simp)⟩) hd
  exact ⟨_,hF,rfl⟩
 ·obtain ⟨r,r',r'',rfl⟩:=Dz hm
  obtain ⟨a,b,c,rfl⟩:=Dz (hr r (by simp))
  obtain ⟨d,e,f,rfl⟩:=Dz (hr r' (by simp))
  obtain ⟨g,h,i,rfl⟩:=Dz (hr r'' (by simp))
  have k0:=hb _ (Ac (i:=0) rfl)
  have k1:=hb _ (Ac (i:=1) rfl)
  have k2:=hb _ (Ac (i:=2) rfl)
  obtain ⟨co,D,dt,o,hF,-⟩:=YR (l:=[(a,d,g),(b,e,h),(c,f,i)]) (x:=(a,d,g)) (y:=(b,e,h)) (z:=(c,f,i)) rfl rfl rfl (fun t ht=>by
   simp only [A2,BG,D7] at ht
   rcases ht with rfl | rfl | rfl
   ·exact ⟨k0 _ (by simp),k1 _ (by simp),k2 _ (by simp)⟩
   ·exact ⟨k0 _ (by simp),k1 _ (by simp),k2 _ (by simp)⟩
   ·exact ⟨k0 _ (by simp),k1 _ (by simp),k2 _ (by simp)⟩) hd
  exact ⟨_,hF,rfl⟩
attribute [local go_sem ↓] AQ AR
theorem GG.slice {w:World} {base:Nat} {E:TypeId} {v:Value} {hs:List (Nat×Nat×Nat)} {g:List (List Int)} (h:GG w base E v hs g):∃ a c,v=.slice a g.length c:=by
 rcases h.own.2 with ⟨h1,h2⟩ | ⟨g',cap',cur',hv,_⟩
 ·exact ⟨none,0,by rw [h1,h2]⟩
 ·exact ⟨_,_,hv⟩
theorem Vq (a:Option Addr) (cap:Nat) (w:World) (hG:G w) :
 Calls Tryz.prog 64 #[.slice a 0 cap] w fun e w'=>e=.returned (.int .i64 0)∧Fr w w':=by
 have hbig:=hZ (fun W (hW:G W)=>JS [] a cap 1 W hW (.inl rfl) (fun r hr=>by cases hr) (by decide) (by decide) (by simp) (fun r hr=>by cases hr))
 have hcol:∀ W:World,Calls Tryz.prog 114 #[.slice a 0 cap] W fun e w'=>e=.returned (.int .i64 0)∧W=w':=fun W=>by
  go_enter Tryz.func114,Tryz.ntmps114
  go_wp2_with fail
  go_ret
  exact ⟨rfl,rfl⟩
 have hel:∀ (b:Option Addr) (c:Nat) (W:World),Calls Tryz.prog 112 #[.slice b 0 c,.int .i64 0] W fun e w'=>e=.returned (.tuple #[.slice none 0 0,.string ⟨#[49]⟩,.bool false])∧W=w':=fun b c W=>by
  go_enter Tryz.func112,Tryz.ntmps112
  go_wp2_with fail
  refine Ba 1 ?_
  rw [A5]
  go_wp2_with fail
  go_ret3
  exact ⟨rfl,rfl⟩
 replace hcol:=hZ hcol
 replace hel:=hZ hel
 go_enter Tryz.func64,Tryz.ntmps64
 go_wp2_with fail
 refine (hbig.out _ hG).mono ?_
 rintro e w1 ⟨v,hs,rfl,hgg,hrw,hnew,hf1⟩
 obtain ⟨b,c,rfl⟩:=hgg.slice
 go_wp2_with fail
 refine (hcol.out _).mono ?_
 rintro e w2 ⟨rfl,rfl⟩
 go_wp2_with fail
 refine (hel.out _ _ _).mono ?_
 rintro e w3 ⟨rfl,rfl⟩
 go_wp2_with fail
 go_ret
 exact ⟨rfl,hf1⟩
theorem WX (m:List (List Int)) (n:Nat) (s:EZ) (a:Option Addr) (cap:Nat) (w:World) (hG:G w) (hm:BS w a m) (hr:BU n m) (hn1:1≤n) (hn:n≤1000) (hl1:1≤m.length) (hl:m.length≤1000) (hb:∀ r,r ∈ m→∀ x,x ∈ r→Sm x) (hz:FL m n=some s) :
 Calls Tryz.prog 64 #[.slice a m.length cap] w fun e w'=>e=.returned (.int .i64 s.piv.length)∧Fr w w':=by
 have hbig:=hZ (fun W (hW:Fr w W)=>JS m a cap n W (hG.fr hW) (hm.fr hW) hr hn1 (by omega) (by omega) hb)
 have hcol:∀ W,Fr w W→Calls Tryz.prog 114 #[.slice a m.length cap] W fun e w'=>e=.returned (.int .i64 n)∧W=w':=fun W hW=>by
  match m,hl1,hr,hm with
  | r :: m',_,hr,hm=>
    have:=KQ r m' a cap W (hm.fr hW)
    rw [hr r Bx] at this
    exact this
 have hel:=fun ob c hs W (hW:G W) (h:Bu W ob 0 hs m)=>Qg ob 0 c n n hs m s W hW h hr (Af _) hn hl hz
 obtain ⟨L,hL⟩:∃ L,L=m.length:=⟨_,rfl⟩
 rw [← hL] at hl1 hbig hcol hel ⊢
 replace hcol:=hZ hcol
 replace hel:=hZ hel
 have hG1:=hZ hG
 replace hL:=hZ hL
 clear hm hb hG
 go_enter Tryz.func64,Tryz.ntmps64
 go_wp2_with fail
 refine (hbig.out _ (Fr.refl _)).mono ?_
 rintro e w1 ⟨v,hs,rfl,hgg,hrw,hnew,hf1⟩
 obtain ⟨gb1,cb1,rfl⟩:=CF hgg.own (by rw [← hL.out]; omega)
 obtain ⟨hgr,-,hge,-⟩:=hgg.grid
 rw [← hL.out]
 have he:=hZ (hel.out gb1 cb1 hs w1 (hG1.out.fr hf1) hgr)
 have hbl:Hid (∀ k,gb gb1 hs k→w.heap.size≤k):=by
  rintro k (rfl | ⟨hd,hm2,rfl⟩)
  ·exact hge
  ·exact hnew.out hd hm2
 replace hgg:=hZ hgg
 replace hgr:=hZ hgr
 replace hrw:=hZ hrw
 go_wp2_with fail
 refine (hcol.out _ hf1).mono ?_
 rintro e w2 ⟨rfl,rfl⟩
 go_wp2_with fail
 refine he.out.mono ?_
 rintro e w3 ⟨a3,c3,hs3,rfl,-,-,-,-,-,hfx⟩
 go_wp2_with fail
 go_ret
 exact ⟨rfl,((Fx.of_fr hf1).trans (hfx.mono hbl.out)).toFr (fun k hk e=>by omega)⟩
theorem WW (m:List (List Int)) (d:Nat) (hd:d≤3) (hl:m.length=d) (hr:BU d m) (hb:IB 9 m):∃ r,r≤d∧(r=d→(∃ F,BQ (m.map CY) d=some F∧F.lead.length=d)∧Fv m≠0)∧∀ (a:Option Addr) (cap:Nat) (w:World),G w→BS w a m →
 Calls Tryz.prog 64 #[.slice a d cap] w fun e w'=>e=.returned (.int .i64 r)∧Fr w w':=by
 obtain ⟨s,hs⟩:=UY hb hd
 refine ⟨s.piv.length,JL hs,fun h=>⟨WJ hd hl hr hb hs h,UX hd hl hr hs h⟩,fun a cap w hG hm=>?_⟩
 by_cases h0:d=0
 ·subst h0
  have e0:s.piv.length=0:=by have:=JL hs; omega
  rw [e0]
  exact Vq a cap w hG
 ·have:=WX m d s a cap w hG hm hr (by omega) (by omega) (by omega) (by omega) (fun r hr' x hx=>by have:=hb r hr' x hx; exact ⟨by omega,by omega⟩) hs
  rw [hl] at this
  exact this
def Km (m:List (List Int)) (k:Nat):List Int:=m.map fun r=>(r[k]?).getD 0
def Jm (n:Nat) (m:List (List Int)):List (List Int):=(List.range n).map (Km m)
theorem Ma (m:List (List Int)) (k:Nat):(Km m k).length=m.length:=by unfold Km; rw [Al]
theorem Jl (n:Nat) (m:List (List Int)):(Jm n m).length=n:=by unfold Jm; rw [Al,BP]
theorem Rv {n k:Nat} (m:List (List Int)) (h:k < n):(Jm n m)[k]?=some (Km m k):=by unfold Jm; rw [Am,DD h]; rfl
theorem MY (m:List (List Int)) (a:Option Addr) (cap n:Nat) (w:World) (hG:G w) (hm:BS w a m) (hr:BU n m) (hn:1≤n) (hn2:n≤1000000) (hl1:1≤m.length) (hl:m.length≤1000000) :
 Calls Tryz.prog 76 #[.slice a m.length cap] w fun e w'=>∃ a' c',e=.returned (.slice a' n c')∧BS w' a' (Jm n m)∧Fr w w':=by
 have hgn:=Ch hG
 obtain ⟨i0,hi,hz0,hz1,hz2⟩:=AG CS
 obtain ⟨i1,ji,jz0,jz1,jz2⟩:=AG K7
 have hcol:Hid (∀ W,Fr w W→Calls Tryz.prog 114 #[.slice a m.length cap] W fun e w'=>e=.returned (.int .i64 n)∧W=w'):=fun W hW=>by
  match m,hm,hr,hl1 with
  | r :: m',hm,hr,_=>
    have h:=KQ r m' a cap W (hm.fr hW)
    rw [hr r Bx] at h; exact h
 have hget:Hid (∀ (t:Nat) (r:List Int),m[t]?=some r→r.length=n):=fun t r h=>hr r (Ac h)
 have hsnT:Hid (∀ k,k < n→(Jm n m).take (k+1)=(Jm n m).take k ++ [Km m k]):=fun k hk=>Bh (Rv m hk)
 have htl:Hid (∀ k,k≤n→((Jm n m).take k).length=k):=fun k hk=>by rw [AB,Jl]; omega
 have hta:Hid ((Jm n m).take n=Jm n m):=Ai (by rw [Jl]; exact Af _)
 obtain ⟨M,hM⟩:∃ M,M=m.length:=⟨_,rfl⟩
 rw [← hM] at hl1 hl hcol ⊢
 replace hM:=hZ hM
 replace hm:=hZ hm
 clear hr hG
 go_enter Tryz.func76,Tryz.ntmps76
 go_wp2_with fail
 go_loopg [3,4] n (fun k s3 s4 wr=>∃ (j:Nat) (hO:List (Nat×Nat×Nat)),s4=.int .i64 j∧j+k=n∧Fr w wr∧GI wr w.heap.size 29 s3 hO ((Jm n m).take j))
 case atStart=>exact ⟨0,[],rfl,by omega,Fr.refl _,GI.nil _ _ _ hgn⟩
 case round=>
  obtain ⟨j,hO,rfl,hjk,hf,hgi⟩:=hrel
  go_wp2_with fail
  refine (hcol.out _ hf).mono ?_
  rintro e w1 ⟨rfl,rfl⟩
  by_cases hlt:j < n
  ·have dJ:decide (j < n)=true:=Ad hlt
   have hgl:=hZ (htl.out j (by omega))
   have hsn:=hZ (hsnT.out j hlt)
   replace hgi:=hZ hgi
   obtain ⟨wo,rfl⟩:∃ wo:World,wo=wr:=⟨_,rfl⟩
   obtain ⟨ko,rfl⟩:∃ ko:Nat,ko=gk:=⟨_,rfl⟩
   have z0:(0:Int)≤(j:Int):=Ag _
   have z1:(j:Int) < (n:Int):=by omega
   go_wp2_with fail
   go_loopg [5,6] M (fun k s5 s6 wr2=>∃ t:Nat,s6=.int .i64 t∧t+k=M∧Fr wo wr2∧wr2.ownsRow wo.heap.size 3 1 s5 t ((Km (m.take t) j).map iv))
   case atStart=>exact ⟨0,rfl,by omega,Fr.refl _,AO _ _ _ _⟩
   case round=>
    obtain ⟨t,rfl,htk,hf2,hown⟩:=hrel
    by_cases ht:t < M
    ·obtain ⟨b,o,a1,c1,ha9,hc,hel⟩:=((hm.out.fr hf).fr hf2).at (i:=t) (by rw [← hM.out]; exact ht)
     subst ha9
     have hgt:m[t]?=some m[t]:=Aa (by rw [← hM.out]; exact ht)
     have hrl:=hget.out t _ hgt
     have hsn2:Hid (Km (m.take (t+1)) j=Km (m.take t) j ++ [((m[t])[j]?).getD 0]):=by
      show _=_
      rw [Bh hgt]; unfold Km; rw [Ax]; rfl
     generalize m[t]=row at *
     rw [hrl] at hc
     obtain ⟨b2,o2,x,rfl,hbl2,hxt,hcell2⟩:=hel.at (i:=j) (by rw [hrl]; exact hlt)
     rw [hxt] at hsn2
     have hsn3:Hid (Km (m.take (t+1)) j=Km (m.take t) j ++ [x]):=hsn2.out
     replace hxt:=hZ hxt
     replace hgt:=hZ hgt
     replace hrl:=hZ hrl
     replace hel:=hZ hel
     clear hsn2
     have dT:decide (t < M)=true:=Ad ht
     have y0:(0:Int)≤(t:Int):=Ag _
     have y1:(t:Int) < (M:Int):=by omega
     go_wp2_with (at_builtin; refine As _ rfl _ _ 29 (by rfl) _ 3 _ _ 1 8 Tryz.underlying29 hi hz0 hz1 hz2 rfl (by decide) _ t _ (by rfl) (Av hown _) ⟨wr.heap.size,0,none⟩ 1 1 [iv x] (by rfl) rfl (AD _ _ _ _ (by simp)) (by simp [Value.oneCell']) (by decide) (by unfold maxLen; omega) (by omega) (by have:=hf2.size; simp; omega) (wr.heap.size+1) (by simp) ?_; intro gA capA wA hownA hgrowA hatA hltA)
     go_wp2_with fail
     go_roundg (gk - 1)
     case measure=>omega
     case rel=>exact ⟨t+1,by go_num,by omega,(hf2.alloc _).grown hgrowA (fun k e=>(hown.lt k e).1),by rw [hsn3.out,Ax]; exact hownA⟩
    ·have hd:decide (t < M)=false:=Ab ht
     obtain rfl:M=t:=by omega
     obtain ⟨gb7,cp7,rfl⟩:=CF hown (by omega)
     rw [Ai (by rw [← hM.out]; exact Af _)] at hown
     obtain ⟨hrow,-,-,hgb,-⟩:=BW (Aw hgn hf.size) hown
     have hgi2:=hgi.out.fr hf2
     replace hown:=hZ hown
     have hgl2:=hgl.out
     have hne:u3.ownBlock≠some gb7:=fun e=>by have h9:=(hgi.out.own.lt gb7 e).2; exact Ck _ (An h9 hgb)
     have hne2:∀ h',h' ∈ hO→h'.1≠gb7:=fun h' hm e2=>by have h9:=hgi.out.lt h' hm; rw [e2] at h9; exact Ck _ (An h9 hgb)
     have hown3:=hgi2.own
     rw [hgl2] at hown3
     clear hgl2
     replace hgi2:=hZ hgi2
     have hz9:=(hf.trans hf2).size
     have hcl:=hZ (Ma m j)
     go_wp2_with (at_builtin; refine As _ rfl _ _ 107 (by rfl) _ 29 _ _ 1 24 Tryz.underlying107 ji jz0 jz1 jz2 rfl (by decide) _ j _ (by rfl) (Av hown3 _) ⟨wr.heap.size,0,none⟩ 1 1 [.slice (some ⟨gb7,0,none⟩) M cp7] (by rfl) rfl (AD _ _ _ _ (by simp)) (by simp [Value.oneCell']) (by decide) (by unfold maxLen; omega) (by omega) (by skip; simp; omega) (wr.heap.size+1) (by simp) ?_; intro gA capA wA hownA hgrowA hatA hltA)
     have hpush:=(hgi2.out.fr ((Fr.refl wr).alloc _)).pushN (hd:=(gb7,0,cp7)) (hrow.fr ((Fr.refl wr).alloc _)) hne2 hne hgl.out (by unfold Kj; rw [hcl.out,← hM.out]) hownA hgrowA (hatA.imp id (fun e=>by rw [e]; simp))
     rw [← hsn.out] at hpush
     have hfrA:Fr w wA:=(((hf.trans hf2).alloc _)).grown hgrowA (fun k e=>(hgi2.out.own.lt k e).1)
     go_wp2_with fail
     go_roundg (ko - 1)
     case measure=>omega
     case rel=>exact ⟨j+1,_,by go_num,by omega,hfrA,hpush⟩
  ·have hd:decide (j < n)=false:=Ab hlt
   obtain rfl:n=j:=by omega
   rw [hta.out] at hgi
   obtain ⟨a9,c9,rfl,-⟩:=C4 hgi.own
   have hmat:=hZ hgi.mat
   have hlen:Hid ((Jm n m).length=n):=Jl n m
   rw [hlen.out]
   replace hgi:=hZ hgi
   go_wp2_with fail
   go_ret
   exact ⟨_,_,rfl,hmat.out,hf⟩
theorem Vx (n:Int) (w:World) (hs:(tx n).size≤1000000000) :
 Calls Tryz.prog 217 #[.string (tx n)] w fun e w'=>e=.returned (.string (tx (n.natAbs:Int)))∧w=w':=by
 have h:=hZ (fun W=>G2 n W hs)
 go_enter Tryz.func217,Tryz.ntmps217
 go_wp2_with fail
 refine (h.out _).mono ?_; rintro e w1 ⟨rfl,rfl⟩
 go_wp2_with fail
 go_ret
 exact ⟨rfl,rfl⟩
theorem Vw (a b:Int) (ha:Sm a) (hb:Sm b) (w:World) (hG:G w) :
 Calls Tryz.prog 186 #[.string (tx a),.string (tx b)] w fun e w'=>e=.returned (.string (tx (Nat.gcd a.natAbs b.natAbs:Nat)))∧Fr w w':=by
 have sa:=ha.size
 have sb:=hb.size
 have h1:=hZ (fun W=>Vx a W (by omega))
 have h2:=hZ (fun W=>Vx b W (by omega))
 obtain ⟨g,hg⟩:∃ g,g=Nat.gcd a.natAbs b.natAbs:=⟨_,rfl⟩
 rw [← hg]
 replace hg:=hZ hg
 have hax:a.natAbs < 100000000000000000:=by unfold Sm at ha; omega
 have hbx:b.natAbs < 100000000000000000:=by unfold Sm at hb; omega
 have hGf:=hZ (fun W (hW:Fr w W)=>hG.fr hW)
 clear ha hb sa sb hG
 go_enter Tryz.func186,Tryz.ntmps186
 go_wp2_with fail
 refine (h1.out _).mono ?_; rintro e w1 ⟨rfl,rfl⟩
 go_wp2_with fail
 refine (h2.out _).mono ?_; rintro e w1 ⟨rfl,rfl⟩
 go_wp2_with fail
 go_loopg [0,1] b.natAbs (fun gk s0 s1 wr=>∃ x y:Nat,s0=.string (tx (x:Int))∧s1=.string (tx (y:Int))∧Hid (Nat.gcd x y=g)∧y≤gk∧x < 100000000000000000∧y < 100000000000000000∧Fr w wr)
 case atStart=>exact ⟨a.natAbs,b.natAbs,rfl,rfl,hg.out.symm,Af _,hax,hbx,Fr.refl _⟩
 case round=>
  obtain ⟨x,y,rfl,rfl,hgc,hyk,hx1,hy1,hf⟩:=hrel
  have hz:=DE (y:Int)
  by_cases hy0:y=0
  ·have hga:x=g:=by have:=hgc.out; rw [hy0,Rp] at this; exact this
   have hfin:=hZ hga
   rw [Ad (show (y:Int)=0 by omega)] at hz
   clear hga hgc hy0
   go_wp2_with fail
   go_ret
   exact ⟨by rw [hfin.out]; rfl,hf⟩
  ·have hst:=hZ (show Nat.gcd y (x % y)=g by rw [← hgc.out,D8 x y,Z1 y x,D8])
   have hlt:=Hv x (show 0 < y by omega)
   rw [Ab (show ¬ ((y:Int)=0) by omega)] at hz
   have hdm:=JX (x:Int) (y:Int) ⟨by omega,by omega⟩ ⟨by omega,by omega⟩ (by omega) wr (hGf.out _ hf)
   rw [show ((x:Int).fmod (y:Int))=((x % y:Nat):Int) by rw [Int.fmod_eq_emod_of_nonneg _ (Ag _)]; rfl] at hdm
   replace hdm:=hZ hdm
   go_wp2_with fail
   refine hdm.out.mono ?_; rintro e w2 ⟨rfl,hf2⟩
   go_wp2_with fail
   go_roundg (gk - 1)
   case measure=>omega
   case rel=>exact ⟨y,x % y,rfl,rfl,hst.out,by omega,by omega,by omega,hf.trans hf2⟩
theorem Re (n d:Int) (hn:Sm n) (hd:Sm d) (h0:d≠0) (w:World) (hG:G w) :
 Calls Tryz.prog 129 #[.string (tx n),.string (tx d)] w fun e w'=>e=.returned (qv (Rat.divInt n d))∧Fr w w':=by
 unfold qv
 rw [RP n d h0,RQ n d h0]
 obtain ⟨n2,hn2⟩:∃ n2,n2=d.sign * n:=⟨_,rfl⟩
 obtain ⟨d2,hd2⟩:∃ d2:Int,d2=d.natAbs:=⟨_,rfl⟩
 have hs2:Sm n2:=by
  rcases EM h0 with h | h
  ·rw [hn2,Int.sign_eq_neg_one_of_neg h]; unfold Sm at *; omega
  ·rw [hn2,Int.sign_eq_one_of_pos h,Dn]; exact hn
 have hsd2:Sm d2:=by rw [hd2]; exact Ud hd
 have hd20:0 < d2:=by omega
 have hg2:=Vw n2 d2 hs2 hsd2
 have hna:d2.natAbs=d.natAbs:=by rw [hd2,AA]
 rw [hna] at hg2
 rw [← hn2,← hd2]
 obtain ⟨g,hg⟩:∃ g,g=Nat.gcd n2.natAbs d.natAbs:=⟨_,rfl⟩
 rw [← hg] at hg2 ⊢
 have hgp:0 < g:=by rw [hg]; exact Ky _ (by omega)
 have hgd:g≤d.natAbs:=by rw [hg]; exact VM _ (by omega)
 have hgS:Sm (g:Int):=by unfold Sm at *; omega
 have hdn:=hZ (fun W (hW:Fr w W)=>JX n2 g hs2 hgS (by omega) W (hG.fr hW))
 have hdd:=hZ (fun W (hW:Fr w W)=>JX d2 g hsd2 hgS (by omega) W (hG.fr hW))
 replace hg2:=hZ (fun W (hW:Fr w W)=>hg2 W (hG.fr hW))
 have hsn:=hn.size
 have hsd:=hd.size
 have hN1:=hZ (fun W=>Se n W (by omega))
 have hN2:=hZ (fun W=>Se d W (by omega))
 have hSg:=hZ (fun W=>Rf d W)
 obtain ⟨wb,hwb⟩:∃ wb,wb=w.alloc (.cells #[.string ⟨#[]⟩,.string ⟨#[]⟩] 134):=⟨_,rfl⟩
 have hfb:Fr w wb:=by rw [hwb]; exact (Fr.refl _).alloc _
 have q4:wb.cell? ⟨w.heap.size,0,none⟩=some (.string ⟨#[]⟩):=by rw [hwb]; exact (CL _ _ _ _).1
 have q5:wb.cell? ⟨w.heap.size,1,none⟩=some (.string ⟨#[]⟩):=by rw [hwb]; exact (CK _ _ _ _).1
 have q6:wb.frozen? ⟨w.heap.size,0,none⟩=false:=by rw [hwb]; exact (CL _ _ _ _).2
 have q7:wb.frozen? ⟨w.heap.size,1,none⟩=false:=by rw [hwb]; exact (CK _ _ _ _).2
 have hneg:(d < 0∧decide (d.sign < 0)=true∧-n=n2∧-d=d2)∨(decide (d.sign < 0)=false∧n=n2∧d=d2):=by
  by_cases h:d < 0
  ·exact .inl ⟨h,Ad (by rw [Int.sign_eq_neg_one_of_neg h]; omega),by rw [hn2,Int.sign_eq_neg_one_of_neg h]; omega,by omega⟩
  ·exact .inr ⟨Ab (by rw [Int.sign_eq_one_of_pos (by omega)]; omega),by rw [hn2,Int.sign_eq_one_of_pos (by omega),Dn],by omega⟩
 replace hg:=hZ hg
 clear hna hs2 hsd2 hd20 hgd hgS hsn hsd hn hd h0 hgp hG
 generalize d.sign=sg at *
 rcases hneg with ⟨-,hsg,e1,e2⟩ | ⟨hsg,e1,e2⟩
 ·rw [e1] at hN1
  rw [e2] at hN2
  clear e1 e2 hn2 hd2
  go_enter Tryz.func129,Tryz.ntmps129
  go_upto_region 1 with (fail)
  rw [← hwb]
  clear hwb
  go_wp2_with fail
  refine (hSg.out _).mono ?_; rintro e w1 ⟨rfl,rfl⟩
  go_wp2_with fail
  refine (hN1.out _).mono ?_; rintro e w1 ⟨rfl,rfl⟩
  go_wp2_with fail
  refine (hN2.out _).mono ?_; rintro e w1 ⟨rfl,rfl⟩
  go_wp2_with fail
  refine (hg2.out _ hfb).mono ?_
  rintro e w3 ⟨rfl,hf3⟩
  replace hfb:=hfb.trans hf3
  go_wp2_with fail
  refine (hdn.out _ hfb).mono ?_
  rintro e w4 ⟨rfl,hf4⟩
  replace hfb:=hfb.trans hf4
  go_wp2_with fail
  refine (hdd.out _ hfb).mono ?_
  rintro e w5 ⟨rfl,hf5⟩
  replace hfb:=hfb.trans hf5
  have hf45:=(hf3.trans hf4).trans hf5
  replace q6:=hf45.keepf q4 q6
  replace q7:=hf45.keepf q5 q7
  replace q4:=hf45.keep q4
  replace q5:=hf45.keep q5
  have qs:=Bf w5 w.heap.size (sv (Int.fdiv n2 (g:Int))) (sv (Int.fdiv d2 (g:Int))) _ _ q4 q5
  have q8:=qs.2.2.1
  have u0:=hZ qs.1
  have u1:=hZ qs.2.1
  have hfx:=hZ qs.2.2.2
  clear qs
  go_wp2_with fail
  have v0:=u0.out
  have v1:=u1.out
  refine Ay (v:=.agg #[sv (Int.fdiv n2 (g:Int)),sv (Int.fdiv d2 (g:Int))]) (by simp [results,Tryz.results129,go_sem,v0,v1]) rfl ⟨rfl, ?_⟩
  exact ((Fx.of_fr (p:=fun q=>q=w.heap.size) hfb).trans hfx.out).toFr (fun q hq e=>by have e:q=w.heap.size:=e; omega)
 ·rw [← e1] at hg2 hdn ⊢
  rw [← e2] at hg2 hdd ⊢
  clear e1 e2 hn2 hd2 hN1 hN2
  go_enter Tryz.func129,Tryz.ntmps129
  go_upto_region 1 with (fail)
  rw [← hwb]
  clear hwb
  go_wp2_with fail
  refine (hSg.out _).mono ?_; rintro e w1 ⟨rfl,rfl⟩
  go_wp2_with fail
  refine (hg2.out _ hfb).mono ?_
  rintro e w3 ⟨rfl,hf3⟩
  replace hfb:=hfb.trans hf3
  go_wp2_with fail
  refine (hdn.out _ hfb).mono ?_
  rintro e w4 ⟨rfl,hf4⟩
  replace hfb:=hfb.trans hf4
  go_wp2_with fail
  refine (hdd.out _ hfb).mono ?_
  rintro e w5 ⟨rfl,hf5⟩
  replace hfb:=hfb.trans hf5
  have hf45:=(hf3.trans hf4).trans hf5
  replace q6:=hf45.keepf q4 q6
  replace q7:=hf45.keepf q5 q7
  replace q4:=hf45.keep q4
  replace q5:=hf45.keep q5
  have qs:=Bf w5 w.heap.size (sv (Int.fdiv n (g:Int))) (sv (Int.fdiv d (g:Int))) _ _ q4 q5
  have q8:=qs.2.2.1
  have u0:=hZ qs.1
  have u1:=hZ qs.2.1
  have hfx:=hZ qs.2.2.2
  clear qs
  go_wp2_with fail
  have v0:=u0.out
  have v1:=u1.out
  refine Ay (v:=.agg #[sv (Int.fdiv n (g:Int)),sv (Int.fdiv d (g:Int))]) (by simp [results,Tryz.results129,go_sem,v0,v1]) rfl ⟨rfl, ?_⟩
  exact ((Fx.of_fr (p:=fun q=>q=w.heap.size) hfb).trans hfx.out).toFr (fun q hq e=>by have e:q=w.heap.size:=e; omega)
theorem Mi (m:List (List Int)):(GY m).length=m.length:=DS
theorem PT {m:List (List Int)} {j:Nat} (h:j < m.length):(GY m)[j]?=some (m[j] ++ CR m.length j):=by
 unfold GY; rw [Ec,Aa h]; rfl
theorem GF (n i:Nat):(CR n i).length=n:=by unfold CR; rw [AN,AH]
theorem Sl {n i t:Nat} (h:t < n):(CR n i)[t]?=some (if i=t then 1 else 0):=by
 unfold CR
 rw [AX,AH]
 by_cases e:i=t
 ·subst e; rw [Ak rfl,Ak h,Ak rfl]
 ·rw [Aj e,Aj e,Cs,Ak h]
theorem Th {n:Nat} {m:List (List Int)} (h:BU n m) (hsq:m.length=n):BU (n+n) (GY m):=fun r hr=>by
 obtain ⟨i,hi,rfl⟩:=Ex hr
 have hi2:i < m.length:=by rw [← Mi m]; exact hi
 have h9:=PT hi2
 rw [Aa hi] at h9
 injection h9 with h9
 rw [h9,At,GF,h.row hi2,hsq]
def Vt (w:World) (I:List (List Rat)) (e:Ending) (w':World):Prop:=∃ base v hs,e=.returned (.tuple #[v,.bool true])∧w.heap.size≤base∧J6 w' base 136 v hs I∧Fr w w'
theorem Tp (m C:List (List Int)) (D:Int) (a:Option Addr) (cap n:Nat) (w:World) (hG:G w) (hm:BS w a m) (hr:BU n m) (hsq:m.length=n) (hn1:1≤n) (hn3:n≤3) (hb:IB 9 m) (hI:Gx m n C D) (hC:Fw m n C D) :
 Calls Tryz.prog 77 #[.slice a m.length cap] w (Vt w (B9 C D)):=by
 have hbig:=JS m a cap n w hG hm hr hn1 (by omega) (by omega) (fun r hr x hx=>by have:=hb r hr x hx; unfold Sm; omega)
 obtain ⟨-,s,hs,hpl,hla,hdro,hsl⟩:=hI
 have hgn:=Ch hG
 have hz1:=hZ hs
 have hG1:=hZ hG
 have hr1:=hZ hr
 have hrz:=hZ (Th hr hsq)
 have hal:=hZ ((Mi m).trans hsq)
 have hag:Hid (∀ j (h:j < m.length),(GY m)[j]?=some (m[j] ++ CR n j)):=fun j h=>by rw [PT h,hsq]
 have hsq1:=hZ hsq
 obtain ⟨i0,hi,hz0,hz1',hz2⟩:=AG GC
 obtain ⟨k0,ki,kz0,kz1,kz2⟩:=AG Pv
 obtain ⟨j1,ji,jz0,jz1,jz2⟩:=AG N7
 rw [hsq] at hbig ⊢
 clear hG hm hb hr hs
 go_enter Tryz.func77,Tryz.ntmps77
 go_wp2_with fail
 refine hbig.mono ?_
 clear hbig
 rintro e w1 ⟨v1,hs1,rfl,hgg1,hrw1,hnew1,hf1⟩
 obtain ⟨gb1,cp1,rfl⟩:=CF hgg1.own (by omega)
 have hg1:=hgg1.grid.1
 have hgb1:gb1 < w1.heap.size:=hg1.outer
 have hgbase:=hgg1.grid.2.2.1
 have hcp1:=hZ hgg1.grid.2.2.2
 have hlt1:=hZ hgg1.lt
 have hrf:Hid (GZ w1 w.heap.size w1.heap.size 0 hs1 m):=fun i h xs _ k1 k2=>by
  obtain ⟨p1,p2⟩:=hrw1 i h xs k1 k2
  exact ⟨p1,hnew1.out h (Ac k1),hlt1.out h (Ac k1),p2⟩
 replace hgg1:=hZ hgg1
 replace hrw1:=hZ hrw1
 replace hg1:=hZ hg1
 rw [hsq1.out]
 go_wp2_with fail
 go_loopg [5] n (fun k s5 wr=>∃ (j:Nat) (hs:List (Nat×Nat×Nat)),s5=.int .i64 j∧j+k=n∧Fr w wr∧Hid (w1.heap.size≤wr.heap.size)∧Bu wr gb1 0 hs ((GY m).take j ++ m.drop j)∧GZ wr w.heap.size w1.heap.size j hs m∧Hid (∀ h,h ∈ hs→w.heap.size≤h.1))
 case atStart=>exact ⟨0,hs1,rfl,by omega,hf1,Af _,by simpa using hg1.out,hrf.out,hnew1⟩
 case round=>
  obtain ⟨j,hs,rfl,hjk,hf,hsz,hgr,hrr,hnw⟩:=hrel
  have hwl:(GY m).length=m.length:=Mi m
  by_cases hlt:j < n
  ·have dJ:decide (j < n)=true:=Ad hlt
   have hltm:j < m.length:=by rw [hsq1.out]; exact hlt
   have hmid:=Gs (GY m) m j hwl hltm
   have hmj:=Aa hltm
   have hgl:j < ((GY m).take j ++ m.drop j).length:=by simp [hwl]; omega
   obtain ⟨b1,o1,c1,e1,ca1,cf1,ro1,bo1⟩:=hgr.at hgl
   obtain ⟨q1,q0,q2,q3⟩:=hrr j _ _ (Af _) e1 hmj
   have hq1:o1=0:=q1
   subst hq1
   have hrl:=hr1.out.row hltm
   rw [hrl] at q3
   have hset:Hid (((GY m).take j ++ m.drop j).set j (m[j] ++ CR n j)=(GY m).take (j+1) ++ m.drop (j+1)):=Gr (GY m) m j hwl hltm _ (hag.out j hltm)
   have hset0:((GY m).take j ++ m.drop j).set j (m[j] ++ (CR n j).take 0)=(GY m).take j ++ m.drop j:=by
    rw [Fi,Bq]
    exact CB fun i=>by
     rw [AX]
     by_cases e:j=i
     ·subst e; rw [Ak rfl,Ak hgl,hmid,hmj]
     ·rw [Aj e]
   have hcl:Hid (j < ((GY m).take j ++ m.drop j).length):=hgl
   rw [← hset0] at hgr
   have q4:wr.ownsRow gN 56 1 (.slice (some ⟨b1,0,none⟩) (n+0) c1) (n+0) ((m[j] ++ (CR n j).take 0).map sv):=by rw [Fi,Bq]; exact q3
   have hrr0:GZ wr w.heap.size w1.heap.size (j+1) hs m:=fun i h xs hi k1 k2=>hrr i h xs (by omega) k1 k2
   obtain ⟨cur,hcur⟩:∃ cur,cur=(GY m).take j ++ m.drop j:=⟨_,rfl⟩
   rw [← hcur] at hgr hcl
   rw [← hcur] at hset
   obtain ⟨row,hrow⟩:∃ row,row=m[j]:=⟨_,rfl⟩
   rw [← hrow] at hgr hset q4 hrl
   replace hrow:=hZ hrow
   replace hcur:=hZ hcur
   replace hrl:=hZ hrl
   replace hgr:=hZ hgr
   replace hrr0:=hZ hrr0
   replace q4:=hZ q4
   replace e1:=hZ e1
   obtain ⟨wo,rfl⟩:∃ wo:World,wo=wr:=⟨_,rfl⟩
   obtain ⟨ko,rfl⟩:∃ ko:Nat,ko=gk:=⟨_,rfl⟩
   clear hmid hmj hgl ca1 cf1 ro1 q1 q3 hset0 hrr hwl
   have zj0:(0:Int)≤(j:Int):=Ag _
   have zj1:(j:Int) < (n:Int):=by omega
   go_wp2_with fail
   go_loopg [6] n (fun k s6 wr=>∃ (t b c:Nat) (hs:List (Nat×Nat×Nat)),s6=.int .i64 t∧t+k=n∧Fr w wr∧Hid (w1.heap.size≤wr.heap.size)∧Hid (hs[j]?=some (b,0,c))∧w.heap.size≤b∧Hid (wr.ownsRow gN 56 1 (.slice (some ⟨b,0,none⟩) (n+t) c) (n+t) ((row ++ (CR n j).take t).map sv)) ∧
    Hid (Bu wr gb1 0 hs (cur.set j (row ++ (CR n j).take t)))∧Hid (GZ wr w.heap.size w1.heap.size (j+1) hs m)∧Hid (∀ h,h ∈ hs→w.heap.size≤h.1))
   case atStart=>exact ⟨0,b1,c1,hs,rfl,by omega,hf,hsz,e1,q0,q4,hgr,hrr0,hnw⟩
   case round=>
    obtain ⟨t,b,c,hs2,rfl,htk,hf2,hsz2,e2,hwb,hown,hgr2,hrr2,hnw2⟩:=hrel
    by_cases ht:t < n
    ·have dT:decide (t < n)=true:=Ad ht
     have hun:=Sl (i:=j) ht
     have hjl9:j < (cur.set j (row ++ (CR n j).take t)).length:=by rw [AN]; exact hcl.out
     have hrowj:(cur.set j (row ++ (CR n j).take t))[j]?=some (row ++ (CR n j).take t):=by rw [AX,Ak rfl,Ak hcl.out]
     have hrln:(row ++ (CR n j).take t).length=n+t:=by rw [At,hrl.out,AB,GF]; omega
     obtain ⟨ca1,cf1⟩:=hgr2.out.cell j _ _ e2.out hrowj
     have bo1:=(hgr2.out.row j _ _ e2.out hrowj).2
     rw [hrln,AE] at ca1
     rw [AE] at cf1
     have bo2:b≠gb1:=bo1
     have ca1:wr.cell? ⟨gb1,j,none⟩=some (.slice (some ⟨b,0,none⟩) (n+t) c):=ca1
     have hkeep:∀ o wA,(wr.alloc o).grownBy wA (Value.slice (some ⟨b,0,none⟩) (n+t) c).ownBlock→wA.cell? ⟨gb1,j,none⟩=some (.slice (some ⟨b,0,none⟩) (n+t) c)∧wA.frozen? ⟨gb1,j,none⟩=false:=fun o wA hg=>
      ⟨(Fx.of_grown hg).keep (q:=⟨gb1,j,none⟩) (((Fr.refl wr).alloc o).keep ca1) (fun e=>bo2 (by injection e)),(Fx.of_grown hg).keepf (q:=⟨gb1,j,none⟩) (((Fr.refl wr).alloc o).keep ca1) (((Fr.refl wr).alloc o).keepf ca1 cf1) (fun e=>bo2 (by injection e))⟩
     replace hkeep:=hZ hkeep
     have hbs:gN≤wr.heap.size:=Aw hgn hf2.size
     have hsn:Hid ((CR n j).take (t+1)=(CR n j).take t ++ [if j=t then 1 else 0]):=Bh hun
     clear hrowj hun bo1 hjl9 hrln
     have zt0:(0:Int)≤(t:Int):=Ag _
     have zt1:(t:Int) < (n:Int):=by omega
     by_cases hjt:j=t
     ·have dE:((j:Int) == (t:Int))=true:=by rw [beq_iff_eq]; omega
      rw [Ak hjt] at hsn
      replace hjt:=hZ hjt
      go_wp2_with (at_builtin; refine As _ rfl _ _ 76 (by rfl) _ 56 _ _ 1 16 Tryz.underlying76 hi hz0 hz1' hz2 rfl (by decide) _ (n+t) _ (by rfl) (Av hown.out _) ⟨wr.heap.size,0,none⟩ 1 1 [.string ⟨#[49]⟩] (by rfl) rfl (AD _ _ _ _ (by simp)) (by simp [Value.oneCell']) (by decide) (by unfold maxLen; omega) (by omega) (by simp; omega) (wr.heap.size+1) (by simp) ?_; intro gA capA wA hownA hgrowA hatA hltA; have ca3:=hkeep.out _ wA hgrowA; obtain ⟨ca3,cf3⟩:=ca3)
      go_wp2_with fail
      have hxs9:(row ++ (CR n j).take t).map sv ++ [.string ⟨#[49]⟩]=(row ++ (CR n j).take (t+1)).map sv:=by rw [hsn.out,← Bv,Ax (l₂:=[_])]; show _=_ ++ [sv 1]; unfold sv; rw [Gy]
      rw [hxs9] at hownA
      have hfx:Fx (·=b) wr wA:=((Fx.refl _ wr).alloc _).trans ((Fx.of_grown hgrowA).mono (fun k e=>by injection e with e; exact e.symm))
      have hOA:=(CG (Af _) hownA).1
      have hat2:gA=b∨wr.heap.size≤gA:=hatA.imp (fun e=>by injection e with e; exact e.symm) (fun e=>by rw [e]; simp)
      have hrl9:(row ++ (CR n j).take (t+1)).length=n+t+1:=by rw [At,hrl.out,AB,GF]; omega
      have hhd:Value.slice (some ⟨gA,0,none⟩) (n+t+1) capA=Kj (gA,0,capA) (row ++ (CR n j).take (t+1)):=by unfold Kj; rw [hrl9]
      rw [hhd]
      have hG2:=hgr2.out.setHead (hd':=(gA,0,capA)) e2.out hfx hOA hat2
      rw [AE,List.set_set] at hG2
      have hs9:Fx (·=gb1) wA (wA.setCell ⟨gb1,j,none⟩ (Kj (gA,0,capA) (row ++ (CR n j).take (t+1)))):=Fx.setCell (p:=(·=gb1)) (q:=⟨gb1,j,none⟩) (Fx.refl _ wA) (.inl rfl) _
      have hpp:Fx (fun k=>k=b∨k=gb1) wr (wA.setCell ⟨gb1,j,none⟩ (Kj (gA,0,capA) (row ++ (CR n j).take (t+1)))):=(hfx.mono (fun k e=>.inl e)).trans (hs9.mono (fun k e=>.inr e))
      have hfrw:Fr w (wA.setCell ⟨gb1,j,none⟩ (Kj (gA,0,capA) (row ++ (CR n j).take (t+1)))):=((Fx.of_fr hf2).trans hpp).toFr (fun k hk e=>by rcases e with e | e <;> omega)
      have hjl:j < hs2.length:=(Ah.1 e2.out).1
      have hgA1:gA≠gb1:=by rcases hat2 with e | e; (rw [e]; exact bo2); (have:=hsz2.out; omega)
      have hown3:=B2 hownA hs9 (fun g hg e=>by have e9:gA=g:=(by simpa [Value.ownBlock] using hg); exact hgA1 (by rw [e9,e]))
      have hrr3:GZ (wA.setCell ⟨gb1,j,none⟩ (Kj (gA,0,capA) (row ++ (CR n j).take (t+1)))) w.heap.size w1.heap.size (j+1) (hs2.set j (gA,0,capA)) m:=fun i h xs hi k1 k2=>by
       rw [AX,Aj (by omega)] at k1
       obtain ⟨p1,p2,p3,p4⟩:=hrr2.out i h xs hi k1 k2
       have hap:=hgr2.out.apart i j _ _ k1 e2.out (by omega)
       refine ⟨p1,p2,p3,B2 p4 hpp (fun g9 hg9 e=>?_)⟩
       have e9:h.1=g9:=by simpa [Value.ownBlock] using hg9
       rcases e with e | e
       ·exact hap (by rw [e9,e])
       ·have hil:i < (cur.set j (row ++ (CR n j).take t)).length:=by rw [← hgr2.out.len]; exact (Ah.1 k1).1
        exact (hgr2.out.row i h _ k1 (Aa hil)).2 (by rw [e9,e])
      go_roundg (gk - 1)
      case measure=>omega
      case rel=>exact ⟨t+1,gA,capA,hs2.set j (gA,0,capA),by go_num,by omega,hfrw,Aw hsz2.out hpp.size,by show _=_; rw [AX,Ak rfl,Ak hjl],(by rcases hat2 with e | e; (rw [e]; exact hwb); exact Aw hf2.size e),hown3,hG2,hrr3,fun h hm=>by rcases Bt hm with h1 | h1; exact hnw2.out h h1; (subst h1; rcases hat2 with e | e; (rw [e]; exact hwb); exact Aw hf2.size e)⟩
     ·have dE:((j:Int) == (t:Int))=false:=AF (by omega)
      rw [Aj hjt] at hsn
      replace hjt:=hZ hjt
      go_wp2_with (at_builtin; refine As _ rfl _ _ 76 (by rfl) _ 56 _ _ 1 16 Tryz.underlying76 hi hz0 hz1' hz2 rfl (by decide) _ (n+t) _ (by rfl) (Av hown.out _) ⟨wr.heap.size,0,none⟩ 1 1 [.string ⟨#[48]⟩] (by rfl) rfl (AD _ _ _ _ (by simp)) (by simp [Value.oneCell']) (by decide) (by unfold maxLen; omega) (by omega) (by simp; omega) (wr.heap.size+1) (by simp) ?_; intro gA capA wA hownA hgrowA hatA hltA; have ca3:=hkeep.out _ wA hgrowA; obtain ⟨ca3,cf3⟩:=ca3)
      go_wp2_with fail
      have hxs9:(row ++ (CR n j).take t).map sv ++ [.string ⟨#[48]⟩]=(row ++ (CR n j).take (t+1)).map sv:=by rw [hsn.out,← Bv,Ax (l₂:=[_])]; show _=_ ++ [sv 0]; unfold sv; rw [G7]
      rw [hxs9] at hownA
      have hfx:Fx (·=b) wr wA:=((Fx.refl _ wr).alloc _).trans ((Fx.of_grown hgrowA).mono (fun k e=>by injection e with e; exact e.symm))
      have hOA:=(CG (Af _) hownA).1
      have hat2:gA=b∨wr.heap.size≤gA:=hatA.imp (fun e=>by injection e with e; exact e.symm) (fun e=>by rw [e]; simp)
      have hrl9:(row ++ (CR n j).take (t+1)).length=n+t+1:=by rw [At,hrl.out,AB,GF]; omega
      have hhd:Value.slice (some ⟨gA,0,none⟩) (n+t+1) capA=Kj (gA,0,capA) (row ++ (CR n j).take (t+1)):=by unfold Kj; rw [hrl9]
      rw [hhd]
      have hG2:=hgr2.out.setHead (hd':=(gA,0,capA)) e2.out hfx hOA hat2
      rw [AE,List.set_set] at hG2
      have hs9:Fx (·=gb1) wA (wA.setCell ⟨gb1,j,none⟩ (Kj (gA,0,capA) (row ++ (CR n j).take (t+1)))):=Fx.setCell (p:=(·=gb1)) (q:=⟨gb1,j,none⟩) (Fx.refl _ wA) (.inl rfl) _
      have hpp:Fx (fun k=>k=b∨k=gb1) wr (wA.setCell ⟨gb1,j,none⟩ (Kj (gA,0,capA) (row ++ (CR n j).take (t+1)))):=(hfx.mono (fun k e=>.inl e)).trans (hs9.mono (fun k e=>.inr e))
      have hfrw:Fr w (wA.setCell ⟨gb1,j,none⟩ (Kj (gA,0,capA) (row ++ (CR n j).take (t+1)))):=((Fx.of_fr hf2).trans hpp).toFr (fun k hk e=>by rcases e with e | e <;> omega)
      have hjl:j < hs2.length:=(Ah.1 e2.out).1
      have hgA1:gA≠gb1:=by rcases hat2 with e | e; (rw [e]; exact bo2); (have:=hsz2.out; omega)
      have hown3:=B2 hownA hs9 (fun g hg e=>by have e9:gA=g:=(by simpa [Value.ownBlock] using hg); exact hgA1 (by rw [e9,e]))
      have hrr3:GZ (wA.setCell ⟨gb1,j,none⟩ (Kj (gA,0,capA) (row ++ (CR n j).take (t+1)))) w.heap.size w1.heap.size (j+1) (hs2.set j (gA,0,capA)) m:=fun i h xs hi k1 k2=>by
       rw [AX,Aj (by omega)] at k1
       obtain ⟨p1,p2,p3,p4⟩:=hrr2.out i h xs hi k1 k2
       have hap:=hgr2.out.apart i j _ _ k1 e2.out (by omega)
       refine ⟨p1,p2,p3,B2 p4 hpp (fun g9 hg9 e=>?_)⟩
       have e9:h.1=g9:=by simpa [Value.ownBlock] using hg9
       rcases e with e | e
       ·exact hap (by rw [e9,e])
       ·have hil:i < (cur.set j (row ++ (CR n j).take t)).length:=by rw [← hgr2.out.len]; exact (Ah.1 k1).1
        exact (hgr2.out.row i h _ k1 (Aa hil)).2 (by rw [e9,e])
      go_roundg (gk - 1)
      case measure=>omega
      case rel=>exact ⟨t+1,gA,capA,hs2.set j (gA,0,capA),by go_num,by omega,hfrw,Aw hsz2.out hpp.size,by show _=_; rw [AX,Ak rfl,Ak hjl],(by rcases hat2 with e | e; (rw [e]; exact hwb); exact Aw hf2.size e),hown3,hG2,hrr3,fun h hm=>by rcases Bt hm with h1 | h1; exact hnw2.out h h1; (subst h1; rcases hat2 with e | e; (rw [e]; exact hwb); exact Aw hf2.size e)⟩
    ·have hd:decide (t < n)=false:=Ab ht
     obtain rfl:n=t:=by omega
     have hg9:=hgr2.out
     rw [Ai (by rw [GF]; exact Af _),hset.out] at hg9
     replace hg9:=hZ hg9
     go_wp2_with fail
     go_roundg (ko - 1)
     case measure=>omega
     case rel=>exact ⟨j+1,hs2,by go_num,by omega,hf2,hsz2,hg9.out,hrr2.out,hnw2⟩
  ·have hd:decide (j < n)=false:=Ab hlt
   obtain rfl:n=j:=by omega
   have hgE:(GY m).take n ++ m.drop n=GY m:=by rw [EL (by rw [hsq1.out]; exact Af _),Bq,Ai (by rw [hal.out]; exact Af _)]
   rw [hgE] at hgr
   have hel:=Qg gb1 0 cp1 (n+n) n hs (GY m) s wr (hG1.out.fr hf) hgr hrz.out (by omega) (by omega) (by rw [hal.out]; omega) hz1.out
   rw [hal.out] at hel
   have hge:∀ k,gb gb1 hs k→w.heap.size≤k:=by
    rintro k (rfl | ⟨h,hm2,rfl⟩)
    ·exact hgbase
    ·exact hnw.out h hm2
   replace hge:=hZ hge
   replace hgr:=hZ hgr
   have dnn:decide ((n:Int) < (n:Int))=false:=Ab (by omega)
   clear hgE hwl hrr
   go_wp2_with fail
   refine hel.mono ?_
   clear hel
   rintro e w5 ⟨ap,cpv,hs5,rfl,-,hg5,hr5,hl5,-,hfx5⟩
   rw [hpl,hla]
   have hf5:Fr w w5:=((Fx.of_fr hf).trans hfx5).toFr (fun k hk e=>by have:=hge.out k e; omega)
   have hgn5:gN≤w5.heap.size:=Ch (hG1.out.fr hf5)
   have hDS:Sm D:=by have:=hC.dB; unfold Sm; omega
   have hCl:=hZ hC.len
   have hD0:=hZ hC.d0
   have hCr:Hid (∀ (j:Nat) (xs:List Int),s.m[j]?=some xs→xs.length=n+n∧C[j]?=some (xs.drop n)∧(∀ x,x ∈ xs.drop n→Sm x)∧(B9 C D)[j]?=some ((xs.drop n).map fun x:Int=>Rat.divInt x D)):=fun j xs hx=>by
    have h1:C[j]?=some (xs.drop n):=by rw [← hdro,Am,hx]; rfl
    refine ⟨hr5 xs (Ac hx),h1,fun x hx=>by have:=hC.bd _ (Ac h1) x hx; unfold Sm; omega, ?_⟩
    unfold B9
    rw [Am,h1]
    exact congrArg some (Cy fun x _=>(E4 x D).symm)
   have hdl:Hid ((B9 C D).length=n):=by show _=_; unfold B9; rw [Al,hCl.out]
   replace hg5:=hZ hg5
   replace hr5:=hZ hr5
   replace hl5:=hZ hl5
   generalize B9 C D=Q at *
   clear hC hdro hsl hpl hla
   go_wp2_with fail
   go_loopg [11,12] n (fun k s11 Ly wr=>∃ (j:Nat) (hs':List (Nat×Nat×Nat)),Ly=.int .i64 j∧j+k=n∧Fr w5 wr∧J6 wr w5.heap.size 136 s11 hs' (Q.take j))
   case atStart=>exact ⟨0,[],rfl,by omega,Fr.refl _,J6.nil _ _ _ hgn5⟩
   case round=>
    obtain ⟨j,hs',rfl,hjk,hf6,hgg⟩:=hrel
    by_cases hlt:j < n
    ·have dJ:decide (j < n)=true:=Ad hlt
     obtain ⟨b,o,c,ec,cac,cfc,roc,boc⟩:=(hg5.out.fr hf6).at (i:=j) (by rw [hl5.out]; exact hlt)
     have hxs:=Aa (show j < s.m.length by rw [hl5.out]; exact hlt)
     obtain ⟨hxl,-,hxs1,hxs2⟩:=hCr.out j _ hxs
     rw [AE] at cac
     generalize s.m[j]'(by rw [hl5.out]; exact hlt)=xs at *
     rw [hxl] at cac
     have hgl:Hid ((Q.take j).length=j):=by show _=_; rw [AB,hdl.out]; omega
     have hsnq:=hZ (Bh hxs2)
     replace hxs:=hZ hxs
     replace hxs2:=hZ hxs2
     replace hxs1:=hZ hxs1
     replace hxl:=hZ hxl
     replace roc:=hZ roc
     replace cac:=hZ cac
     replace hgg:=hZ hgg
     obtain ⟨wo,rfl⟩:∃ wo:World,wo=wr:=⟨_,rfl⟩
     obtain ⟨ko,rfl⟩:∃ ko:Nat,ko=gk:=⟨_,rfl⟩
     have zj0:(0:Int)≤(j:Int):=Ag _
     have zj1:(j:Int) < (n:Int):=by omega
     clear cfc boc ec
     go_wp2_with fail
     go_loopg [13,14] n (fun k s13 s14 wr2=>∃ t:Nat,s14=.int .i64 ((n+t:Nat):Int)∧t+k=n∧Fr wo wr2∧Hid (wr2.ownsRow wo.heap.size 134 2 s13 t (Cl (((xs.drop n).map fun x:Int=>Rat.divInt x D).take t))))
     case atStart=>exact ⟨0,rfl,by omega,Fr.refl _,AO _ _ _ _⟩
     case round=>
      obtain ⟨t,rfl,htk,hf7,hown⟩:=hrel
      have ca9:=hf7.keep cac.out
      by_cases ht:t < n
      ·obtain ⟨x,hx⟩:∃ x,xs[n+t]?=some x:=⟨_,Aa (by rw [hxl.out]; omega)⟩
       have hcx:=((roc.out.fr hf7).2.2 (n+t) x hx).1
       have hxd:(xs.drop n)[t]?=some x:=by rw [Jg]; exact hx
       have hsx:=hxs1.out x (Ac hxd)
       have hfr:=Re x D hsx hDS hD0.out wr ((hG1.out.fr hf5).fr (hf6.trans hf7))
       have hsn2:Hid (Cl (((xs.drop n).map fun x:Int=>Rat.divInt x D).take (t+1))=Cl (((xs.drop n).map fun x:Int=>Rat.divInt x D).take t) ++ [sv (Rat.divInt x D).num,sv ((Rat.divInt x D).den:Int)]):=by
        show _=_
        rw [Bh (show ((xs.drop n).map fun x:Int=>Rat.divInt x D)[t]?=some (Rat.divInt x D) by rw [Am,hxd]; rfl),EB]; rfl
       unfold qv at hfr
       generalize (Rat.divInt x D).num=qn at *
       generalize ((Rat.divInt x D).den:Int)=qd at *
       replace hx:=hZ hx
       replace hxd:=hZ hxd
       replace hsx:=hZ hsx
       replace hfr:=hZ hfr
       have dT:decide (((n+t:Nat):Int) < ((n+n:Nat):Int))=true:=Ad (by omega)
       have zt0:(0:Int)≤((n+t:Nat):Int):=Ag _
       have zt1:((n+t:Nat):Int) < ((n+n:Nat):Int):=by omega
       obtain ⟨nt,hnt⟩:∃ nt,nt=n+t:=⟨_,rfl⟩
       obtain ⟨nn,hnn⟩:∃ nn,nn=n+n:=⟨_,rfl⟩
       rw [← hnt] at dT zt0 zt1 hcx ⊢
       rw [← hnn] at dT zt1 ca9
       have hw9:IntKind.i64.wrap ((nt:Int)+1)=(nt:Int)+1:=AC _ (by omega)
       replace hnt:=hZ hnt
       replace hnn:=hZ hnn
       go_wp2_with fail
       refine hfr.out.mono ?_
       rintro e w7 ⟨rfl,hf8⟩
       go_wp2_with (at_builtin; refine As _ rfl _ _ 136 (by rfl) _ 134 _ _ 2 32 Tryz.underlying136 ki kz0 kz1 kz2 rfl (by decide) _ t _ (by rfl) (Av (A3 hown.out hf8) _) ⟨w7.heap.size,0,none⟩ 1 1 [sv qn,sv qd] (by rfl) rfl (Es _ _ _ _ _ (by simp)) (by simp [Value.oneCell']) (by decide) (by unfold maxLen; omega) (by omega) (by have:=(hf7.trans hf8).size; simp; omega) (w7.heap.size+1) (by simp) ?_; intro gA capA wA hownA hgrowA hatA hltA)
       go_wp2_with fail
       go_roundg (gk - 1)
       case measure=>omega
       case rel=>exact ⟨t+1,congrArg (Value.int .i64) (by have:=hnt.out; omega),by omega,((hf7.trans hf8).alloc _).grown hgrowA (fun k e=>(hown.out.lt k e).1),by show _; rw [hsn2.out]; exact hownA⟩
      ·have hd:decide (((n+t:Nat):Int) < ((n+n:Nat):Int))=false:=Ab (by omega)
       obtain rfl:n=t:=by omega
       obtain ⟨gb7,cp7,rfl⟩:=CF hown.out (by omega)
       have hown9:=hown.out
       have hql:Hid (((xs.drop n).map fun x:Int=>Rat.divInt x D).length=n):=by show _=_; rw [Al,B3,hxl.out]; omega
       rw [Ai (by rw [hql.out]; exact Af _)] at hown9
       obtain ⟨hrow7,-,-,hgb7,-⟩:=Eo (Aw hgn5 hf6.size) hown9
       have hgg2:=hgg.out.fr hf7
       replace hrow7:=hZ hrow7
       have hne:u11.ownBlock≠some gb7:=fun e=>by have h9:=(hgg.out.own.lt gb7 e).2; exact Ck _ (An h9 hgb7)
       have hne2:∀ h',h' ∈ hs'→h'.1≠gb7:=fun h' hm e2=>by have h9:=hgg.out.lt h' hm; rw [e2] at h9; exact Ck _ (An h9 hgb7)
       have hownG:=hgg2.own
       rw [hgl.out] at hownG
       replace hgg2:=hZ hgg2
       have hz7:=(hf6.trans hf7).size
       obtain ⟨nn,hnn⟩:∃ nn,nn=n+n:=⟨_,rfl⟩
       rw [← hnn] at hd ca9 ⊢
       replace hnn:=hZ hnn
       clear hown9
       go_wp2_with (at_builtin; refine As _ rfl _ _ 130 (by rfl) _ 136 _ _ 1 24 Tryz.underlying130 ji jz0 jz1 jz2 rfl (by decide) _ j _ (by rfl) (Av hownG _) ⟨wr.heap.size,0,none⟩ 1 1 [.slice (some ⟨gb7,0,none⟩) n cp7] (by rfl) rfl (AD _ _ _ _ (by simp)) (by simp [Value.oneCell']) (by decide) (by unfold maxLen; omega) (by omega) (by skip; simp; omega) (wr.heap.size+1) (by simp) ?_; intro gA capA wA hownA hgrowA hatA hltA)
       have hpush:=(hgg2.out.fr ((Fr.refl wr).alloc _)).pushN (hd:=(gb7,0,cp7)) (hrow7.out.fr ((Fr.refl wr).alloc _)) hne2 hne hgl.out (by unfold MQ; rw [hql.out]) hownA hgrowA (hatA.imp id (fun e=>by rw [e]; simp))
       rw [← hsnq.out] at hpush
       have hfrB:Fr w5 wA:=((hf6.trans hf7).alloc _).grown hgrowA (fun k e=>(hgg2.out.own.lt k e).1)
       go_wp2_with fail
       go_roundg (ko - 1)
       case measure=>omega
       case rel=>exact ⟨j+1,_,by go_num,by omega,hfrB,hpush⟩
    ·have hd:decide (j < n)=false:=Ab hlt
     obtain rfl:n=j:=by omega
     rw [Ai (by rw [hdl.out]; exact Af _)] at hgg
     replace hgg:=hZ hgg
     go_wp2_with fail
     exact Ay (v:=.tuple #[_,.bool true]) (by simp [results,Tryz.results77,go_sem]) rfl ⟨_,_,_,rfl,hf5.size,hgg.out,hf5.trans hf6⟩
end Go.Proofs.YtkjemicelmabdaaGreatDoor
