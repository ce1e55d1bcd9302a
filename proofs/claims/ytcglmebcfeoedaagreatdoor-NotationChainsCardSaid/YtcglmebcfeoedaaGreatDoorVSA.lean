/- Contracts and laws: VSA. -/
import Derived.Test.YtcglmebcfeoedaaGreatDoorVChk
import Derived.Test.YtcglmebcfeoedaaGreatDoorVK
import Derived.Test.YtcglmebcfeoedaaGreatDoorVEl
import Derived.Test.YtcglmebcfeoedaaGreatDoorVRF
import Derived.Test.YtcglmebcfeoedaaGreatDoorVB
import Derived.Test.YtcglmebcfeoedaaGreatDoorVD
import Derived.Test.YtcglmebcfeoedaaGreatDoorVA

set_option maxRecDepth 100000
namespace Go.Proofs.YtcglmebcfeoedaaGreatDoor
open Go.RowKit Go.Lib
def gG {α β:Type} (n:Nat) (φ:Nat→α→β) (l:List α):List (List β):=(List.range n).map fun i=>l.map (φ i)
def Vy {α β:Type} (φ:Nat→α→β) (k:Nat) (f:α→β) (i:Nat):α→β:=if i=k then f else φ i
theorem EB {α β:Type} (n:Nat) (φ:Nat→α→β) (l:List α):(gG n φ l).length=n:=by unfold gG; rw [Am,Bz]
theorem Kt {α β:Type} {n i:Nat} (φ:Nat→α→β) (l:List α) (h:i < n):(gG n φ l)[i]?=some (l.map (φ i)):=by
 unfold gG; rw [Ao,Do h]; rfl
theorem LW {α β:Type} {n i:Nat} (φ:Nat→α→β) (l:List α) (f:α→β):(gG n φ l).set i (l.map f)=gG n (Vy φ i f) l:=by
 refine Cm fun j=>?_
 by_cases h:j < n
 ·rw [Kt _ _ h,BA]
  unfold Vy
  by_cases e:i=j
  ·subst e; rw [Aj rfl,EB,Aj h,Aj rfl]
  ·rw [Ai e,Kt _ _ h,Ai (fun h=>e h.symm)]
 ·rw [AM (by rw [AN,EB]; omega),AM (by rw [EB]; omega)]
theorem G2 {α β:Type} {n:Nat} {φ χ:Nat→α→β} {l:List α} (h:∀ i,i < n→∀ t,t ∈ l→φ i t=χ i t):gG n φ l=gG n χ l :=
 Em fun i hi=>Em (h i (AZ.1 hi))
theorem Ro {α β:Type} {n:Nat} (φ:Nat→α→β) (σ:α→α) (l:List α):gG n φ (l.map σ)=gG n (fun i t=>φ i (σ t)) l :=
 Em fun _ _=>Da
theorem XC {α β:Type} {n i j:Nat} {φ ψ:Nat→α→β} {σ:α→α} {l:List α} (hi:i < n) (hj:j < n) (h1:ψ i ∘ σ=φ j) (h2:ψ j ∘ σ=φ i) (h:∀ k,k < n→k≠i→k≠j→ψ k ∘ σ=φ k):swp (gG n φ l) i j=gG n ψ (l.map σ):=by
 unfold swp
 rw [Kt _ _ hi,Kt _ _ hj,Ro]
 dsimp only
 rw [LW,LW]
 refine G2 fun k hk t _=>?_
 unfold Vy
 by_cases e:k=j
 ·subst e; rw [Aj rfl]; exact (congrFun h2 t).symm
 ·rw [Ai e]
  by_cases e2:k=i
  ·subst e2; rw [Aj rfl]; exact (congrFun h1 t).symm
  ·rw [Ai e2]; exact (congrFun (h k hk e2 e) t).symm
def PP {α β:Type} (χ φ:Nat→α→β) (i j:Nat):α→β:=if j < i then χ j else φ j
theorem OV {α β:Type} (χ φ:Nat→α→β):PP χ φ 0=φ:=by funext j; unfold PP; rw [Ai (Bs _)]
theorem Ua {α β:Type} (χ φ:Nat→α→β) {i j:Nat} (h:i≤j):PP χ φ i j=φ j:=by unfold PP; rw [Ai (by omega)]
theorem WL {α β:Type} {χ φ:Nat→α→β} {k:Nat} {l:List α} (h:∀ x,x ∈ l→χ k x=φ k x) (i:Nat):l.map (PP χ φ i k)=l.map (φ k):=by
 refine Em fun x hx=>?_
 unfold PP; split
 ·exact h x hx
 ·rfl
theorem Rj {α β:Type} {n:Nat} (χ φ:Nat→α→β) (l:List α):gG n (PP χ φ n) l=gG n χ l:=G2 fun j hj t _=>by unfold PP; rw [Aj hj]
theorem LO {α β:Type} {n i:Nat} {χ φ:Nat→α→β} {l:List α} (h:∀ x,x ∈ l→χ i x=φ i x):gG n (PP χ φ i) l=gG n (PP χ φ (i+1)) l:=G2 fun j hj x hx=>by
 unfold PP
 by_cases e:j < i
 ·rw [Aj e,Aj (by omega)]
 ·rw [Ai e]
  by_cases e2:j < i+1
  ·obtain rfl:j=i:=by omega
   rw [Aj e2]; exact (h x hx).symm
  ·rw [Ai e2]
theorem OW {α β:Type} {n i:Nat} {χ φ:Nat→α→β} {l:List α} {f:α→β} (h:∀ x,x ∈ l→χ i x=f x):gG n (Vy (PP χ φ i) i f) l=gG n (PP χ φ (i+1)) l:=G2 fun j hj x hx=>by
 unfold Vy PP
 by_cases e:j=i
 ·subst e; rw [Aj rfl,Aj (by omega)]; exact (h x hx).symm
 ·rw [Ai e]
  by_cases e2:j < i
  ·rw [Aj e2,Aj (by omega)]
  ·rw [Ai e2,Ai (by omega)]
theorem N0 {α:Type} {n i:Nat} {φ:Nat→α→Rat} {l:List α} (h:i < n):EL (gG n φ l) i=l.map (φ i):=by unfold EL; rw [Kt _ _ h]; rfl
theorem LV {α:Type} {n i c:Nat} {φ:Nat→α→Rat} {l:List α} {t:α} (h:i < n) (hc:l[c]?=some t):DP (gG n φ l) i c=φ i t:=by
 unfold DP; rw [N0 h,Ao,hc]; rfl
theorem Lu {α:Type} (f:Rat) (φ ψ:α→Rat):∀ (l:List α),(∀ t,t ∈ l→Lv f (φ t) (ψ t)=true)→GB f (l.map φ) (l.map ψ)=some (l.map fun t=>φ t - f * ψ t)
 | [],_=>rfl
 | t :: l,h=>by
   rw [BQ,BQ,GB,Aj (h t Bp),Lu f φ ψ l (fun x hx=>h x (BX _ hx)),BQ]; rfl
theorem V9 {α:Type} {n:Nat} {φ χ:Nat→α→Rat} {l:List α} {c k:Nat} {t:α} (hc:l[c]?=some t) (hk:k < n) (h0:∀ x,x ∈ l→χ k x=φ k x)
 (h1:∀ i,i < n→i≠k→∀ x,x ∈ l→χ i x=φ i x - φ i t * φ k x) (ok:∀ i,i < n→i≠k→∀ x,x ∈ l→Lv (φ i t) (φ i x) (φ k x)=true) :
 FL (gG n φ l) c k n=some (gG n χ l):=by
 have key:∀ i,i≤n→FL (gG n φ l) c k i=some (gG n (PP χ φ i) l):=fun i=>by
  induction i with
  | zero=>intro _; rw [FL,OV]
  | succ i ih=>
    intro hi
    rw [FL,ih (by omega),AY,LV (by omega) hc,N0 (by omega),N0 hk,Ua _ _ (Ag i),WL h0]
    by_cases hik:i=k
    ·rw [Aj (.inl hik)]; exact congrArg some (LO (by rw [hik]; exact h0))
    ·by_cases hz:φ i t=0
     ·rw [Aj (.inr hz)]
      exact congrArg some (LO fun x hx=>by rw [h1 i (by omega) hik x hx,hz,Rat.zero_mul]; grind)
     ·rw [Ai (by rintro (h | h); exact hik h; exact hz h),Lu _ _ _ l (ok i (by omega) hik),Iw,LW]
      exact congrArg some (OW fun x hx=>h1 i (by omega) hik x hx)
 rw [key n (Ag _),Rj]
theorem Q3 {α:Type} {n:Nat} {φ χ:Nat→α→Rat} {l:List α} {c:Nat} {t:α} {g:List (List Rat)} {lead:List Nat} {det:Rat} (hl:g.length=n) (hk:lead.length < n) (hat:FF g c lead.length≠n) (hS:Cn g lead.length (FF g c lead.length)=gG n φ l) (hc:l[c]?=some t)
 (hd:Tq det) (hp:Tq (φ lead.length t)) (hr:∀ x,x ∈ l→Tq (φ lead.length x))
 (h0:∀ x,x ∈ l→χ lead.length x=φ lead.length x / φ lead.length t) (h1:∀ i,i < n→i≠lead.length→∀ x,x ∈ l→χ i x=φ i x - φ i t * χ lead.length x)
 (ok:∀ i,i < n→i≠lead.length→∀ x,x ∈ l→Lv (φ i t) (φ i x) (χ lead.length x)=true) :
 H4 c ⟨g,lead,det⟩=some ⟨gG n χ l,lead ++ [c],EW det lead.length (FF g c lead.length) * φ lead.length t⟩:=by
 have e1:DP (gG n φ l) lead.length c=φ lead.length t:=LV hk hc
 have e2:EL (gG n φ l) lead.length=l.map (φ lead.length):=N0 hk
 unfold H4
 dsimp only
 rw [hl,Ai hat,hS,e1,e2,Aj ⟨hd,hp,As.2 fun y hy=>by obtain ⟨x,hx,rfl⟩:=Bg.1 hy; exact Ac (hr x hx)⟩,Da,LW]
 have:=V9 (φ:=Vy φ lead.length ((· / φ lead.length t) ∘ φ lead.length)) (χ:=χ) (l:=l) (c:=c) (k:=lead.length) (t:=t) hc hk (fun x hx=>by unfold Vy; rw [Aj rfl]; exact h0 x hx)
  (fun i hi hik x hx=>by unfold Vy; rw [Ai hik,Aj rfl]; show _=φ i x - φ i t * (φ lead.length x / φ lead.length t); rw [← h0 x hx]; exact h1 i hi hik x hx)
  (fun i hi hik x hx=>by unfold Vy; rw [Ai hik,Aj rfl]; show Lv _ _ (φ lead.length x / φ lead.length t)=true; rw [← h0 x hx]; exact ok i hi hik x hx)
 rw [this,Iw]
theorem Qu {α:Type} {n i:Nat} {φ:Nat→α→Int} {l:List α} (h:i < n):DX (gG n φ l) i=l.map (φ i):=by unfold DX; rw [Kt _ _ h]; rfl
theorem LU {α:Type} {n i c:Nat} {φ:Nat→α→Int} {l:List α} {t:α} (h:i < n) (hc:l[c]?=some t):Eu (gG n φ l) i c=φ i t:=by
 unfold Eu; rw [Qu h,Ao,hc]; rfl
theorem Jr {α:Type} {f:Int→Int→Int} (φ ψ:α→Int):∀ l:List α,List.zipWith f (l.map φ) (l.map ψ)=l.map fun t=>f (φ t) (ψ t)
 | []=>rfl
 | t :: l=>by rw [BQ,BQ,List.zipWith_cons_cons,Jr φ ψ l]; rfl
theorem XH {α:Type} {n:Nat} {φ χ:Nat→α→Int} {l:List α} {c k:Nat} {t:α} {L:Int} (hc:l[c]?=some t) (hk:k < n) (h0:∀ x,x ∈ l→χ k x=φ k x)
 (h1:∀ i,i < n→i≠k→∀ x,x ∈ l→χ i x=(φ k t * φ i x - φ i t * φ k x).fdiv L):Eh (gG n φ l) (φ k t) L k c n=gG n χ l:=by
 have key:∀ i,i≤n→Eh (gG n φ l) (φ k t) L k c i=gG n (PP χ φ i) l:=fun i=>by
  induction i with
  | zero=>intro _; rw [Eh,OV]
  | succ i ih=>
    intro hi
    rw [Eh,ih (by omega),LU (by omega) hc,Qu (by omega),Qu hk,Ua _ _ (Ag i),WL h0]
    by_cases hik:i=k
    ·rw [Aj hik]; exact LO (by rw [hik]; exact h0)
    ·rw [Ai hik]
     unfold JT
     rw [Jr,LW]
     exact OW fun x hx=>h1 i (by omega) hik x hx
 rw [key n (Ag _),Rj]
theorem Q2 {α:Type} {n:Nat} {φ χ:Nat→α→Int} {l:List α} {c:Nat} {t:α} {g:List (List Int)} {piv:List Nat} {L:Int} {odd:Bool} (hl:g.length=n) (hk:piv.length < n) (hat:FE g c piv.length≠n) (hS:Ej g piv.length (FE g c piv.length)=gG n φ l) (hc:l[c]?=some t)
 (hti:PY g=true) (hL:Tz L) (hL0:L≠0)
 (h0:∀ x,x ∈ l→χ piv.length x=φ piv.length x) (h1:∀ i,i < n→i≠piv.length→∀ x,x ∈ l→χ i x=(φ piv.length t * φ i x - φ i t * φ piv.length x).fdiv L) :
 ∃ o,Gu c ⟨g,piv,L,odd⟩=some ⟨gG n χ l,piv ++ [c],φ piv.length t,o⟩:=by
 unfold Gu
 dsimp only
 rw [hl,Aj hk,Ai hat,hS,Aj ⟨hti,hL,hL0⟩,LU hk hc,XH hc hk h0 h1]
 exact ⟨_,rfl⟩
theorem Mh {α:Type} {n:Nat} {φ:Nat→α→Rat} {l:List α} {c k a:Nat} {t:α} (hc:l[c]?=some t) (ha:a < n) (hk:k≤a) (h0:∀ i,k≤i→i < a→φ i t=0) (h1:φ a t≠0):FF (gG n φ l) c k=a:=by
 have key:∀ j,j≤a - k→FF (gG n φ l) c (a - j)=a:=fun j=>by
  induction j with
  | zero=>intro _; exact Ps (by rw [EB]; omega) (by rw [LV (by omega) hc]; exact h1)
  | succ j ih=>
    intro hj
    have:=Mi (g:=gG n φ l) (c:=c) (i:=a - (j+1)) (by rw [EB]; omega) (by rw [LV (by omega) hc]; exact h0 _ (by omega) (by omega))
    rw [← this,show a - (j+1)+1=a - j by omega]; exact ih (by omega)
 have:=key (a - k) (Ag _)
 rwa [show a - (a - k)=k by omega] at this
theorem XO {g:List (List Int)} {c i:Nat} (hi:i < g.length) (h:Eu g i c≠0):FE g c i=i:=by
 unfold FE
 rw [B9 hi,Ka]
 unfold Eu DX at h
 rw [Ab hi] at h
 have h:((g[i])[c]?).getD 0≠0:=h
 simp [h]
theorem Pr {g:List (List Int)} {c i:Nat} (hi:i < g.length) (h:Eu g i c=0):FE g c (i+1)=FE g c i:=by
 unfold FE
 rw [B9 hi,Ka]
 unfold Eu DX at h
 rw [Ab hi] at h
 have h:((g[i])[c]?).getD 0=0:=h
 simp [h]; omega
theorem Mg {α:Type} {n:Nat} {φ:Nat→α→Int} {l:List α} {c k a:Nat} {t:α} (hc:l[c]?=some t) (ha:a < n) (hk:k≤a) (h0:∀ i,k≤i→i < a→φ i t=0) (h1:φ a t≠0):FE (gG n φ l) c k=a:=by
 have key:∀ j,j≤a - k→FE (gG n φ l) c (a - j)=a:=fun j=>by
  induction j with
  | zero=>intro _; exact XO (by rw [EB]; omega) (by rw [LU (by omega) hc]; exact h1)
  | succ j ih=>
    intro hj
    have:=Pr (g:=gG n φ l) (c:=c) (i:=a - (j+1)) (by rw [EB]; omega) (by rw [LU (by omega) hc]; exact h0 _ (by omega) (by omega))
    rw [← this,show a - (j+1)+1=a - j by omega]; exact ih (by omega)
 have:=key (a - k) (Ag _)
 rwa [show a - (a - k)=k by omega] at this
abbrev T3:=Int×Int×Int
def e0 (i:Nat) (t:T3):Int:=if i=0 then t.1 else if i=1 then t.2.1 else t.2.2
def n1 (a d g:Int) (i:Nat) (t:T3):Int:=if i=0 then t.1 else if i=1 then a * t.2.1 - d * t.1 else a * t.2.2 - g * t.1
def m3 (a d g b e h:Int) (t:T3):Int:=a * (e * t.2.2 - t.2.1 * h) - b * (d * t.2.2 - t.2.1 * g)+t.1 * (d * h - e * g)
def n2 (a d g b e h:Int) (i:Nat) (t:T3):Int:=if i=0 then e * t.1 - b * t.2.1 else if i=1 then a * t.2.1 - d * t.1 else m3 a d g b e h t
def c0 (b e h c f i:Int):T3:=(e * i - f * h,c * h - b * i,b * f - c * e)
def c1 (a d g c f i:Int):T3:=(f * g - d * i,a * i - c * g,c * d - a * f)
def c2 (a d g b e h:Int):T3:=(d * h - e * g,b * g - a * h,a * e - b * d)
def Vr (t:T3):T3:=(t.1,t.2.2,t.2.1)
theorem Bd.of {A B:Nat} {x y:Int} (h0:y≠0) (h1:x.natAbs≤A) (h2:y.natAbs≤B):Bd A B ((x:Rat) / (y:Rat)):=by
 refine ⟨x,y, ?_,h0,h1,h2⟩
 exact (Rat.divInt_eq_div _ _).symm
theorem Dq {x y:Int} {A B:Nat} (h:x.natAbs≤A) (k:y.natAbs≤B):(x * y).natAbs≤A * B:=by rw [BD]; exact CH h k
theorem IK {x y:Int} {A B:Nat} (h:x.natAbs≤A) (k:y.natAbs≤B):(x - y).natAbs≤A+B:=by omega
theorem Im {x:Int} {A B:Nat} (h:x.natAbs≤A) (k:A≤B):x.natAbs≤B:=AE h k
theorem Rt {x y z:Int} (hz:z≠0) (h:x=z * y):x.fdiv z=y:=by rw [h]; exact Int.mul_fdiv_cancel_left _ hz
def qE (D:Int) (φ:Nat→T3→Int) (i:Nat) (t:T3):Rat:=(φ i t:Rat) / (D:Rat)
theorem T6 (d:Rat) (k a:Nat):EW d k a=d∨EW d k a=-d:=by unfold EW; split; exact .inl rfl; exact .inr rfl
theorem Yf {D P:Rat} (hD:D≠0) (hP:P≠0) {X N K M:Rat} (h:D * N - K * M=P * X):X / D=N / P - K / P * (M / D):=by grind
theorem Xo {D P:Rat} (hD:D≠0) (hP:P≠0) (m:Rat):m / D=m / P / (D / P):=by grind
def HO (f g:Nat→Int):Nat→Int
 | 0=>0
 | k+1=>HO f g k+f k * g k
def N2 (C:List (List Int)) (D:Int):List (List Rat):=C.map (List.map fun x:Int=>(x:Rat) / (D:Rat))
attribute [local go_sem ↓] AA AB
theorem GG.slice {w:World} {base:Nat} {E:TypeId} {v:Value} {hs:List (Nat×Nat×Nat)} {g:List (List Int)} (h:GG w base E v hs g):∃ a c,v=.slice a g.length c:=by
 rcases h.own.2 with ⟨h1,h2⟩ | ⟨g',cap',cur',hv,_⟩
 ·exact ⟨none,0,by rw [h1,h2]⟩
 ·exact ⟨_,_,hv⟩
theorem Wr (m:List (List Int)) (n:Nat) (s:EZ) (a:Option Addr) (cap:Nat) (w:World) (hG:G w) (hm:BT w a m) (hr:Ce n m) (hn1:1≤n) (hn:n≤1000) (hl1:1≤m.length) (hl:m.length≤1000) (hb:∀ r,r ∈ m→∀ x,x ∈ r→Sm x) (hz:G5 m n=some s) :
 Calls Tryz.prog 58 #[.slice a m.length cap] w fun e w'=>e=.returned (.int .i64 s.piv.length)∧Fr w w':=by
 have hbig:=hZ (fun W (hW:Fr w W)=>Pn m a cap n W (hG.fr hW) (hm.fr hW) hr hn1 (by omega) (by omega) hb)
 have hcol:∀ W,Fr w W→Calls Tryz.prog 121 #[.slice a m.length cap] W fun e w'=>e=.returned (.int .i64 n)∧W=w':=fun W hW=>by
  match m,hl1,hr,hm with
  | r :: m',_,hr,hm=>
    have:=PH r m' a cap W (hm.fr hW)
    rw [hr r Bp] at this
    exact this
 have hel:=fun ob c hs W (hW:G W) (h:BH W ob 0 hs m)=>PD ob 0 c n n hs m s W hW h hr (Ag _) hn hl hz
 obtain ⟨L,hL⟩:∃ L,L=m.length:=⟨_,rfl⟩
 rw [← hL] at hl1 hbig hcol hel ⊢
 replace hcol:=hZ hcol
 replace hel:=hZ hel
 have hG1:=hZ hG
 replace hL:=hZ hL
 clear hm hb hG
 go_enter Tryz.func58,Tryz.ntmps58
 go_wp2_with fail
 refine (hbig.out _ (Fr.refl _)).mono ?_
 rintro e w1 ⟨v,hs,rfl,hgg,hrw,hnew,hf1⟩
 obtain ⟨gb1,cb1,rfl⟩:=Dh hgg.own (by rw [← hL.out]; omega)
 obtain ⟨hgr,-,hge,-⟩:=hgg.grid
 rw [← hL.out]
 have he:=hZ (hel.out gb1 cb1 hs w1 (hG1.out.fr hf1) hgr)
 have hbl:Hid (∀ k,gb gb1 hs k→w.heap.size≤k):=by
  rintro k (rfl | ⟨hd,hm2,rfl⟩)
  ·exact hge
  ·exact hnew.out hd hm2
 replace hgg:=hZ hgg
 replace hgr:=hZ hgr
 replace hrw:=hZ hrw
 go_wp2_with fail
 refine (hcol.out _ hf1).mono ?_
 rintro e w2 ⟨rfl,rfl⟩
 go_wp2_with fail
 refine he.out.mono ?_
 rintro e w3 ⟨a3,c3,hs3,rfl,-,-,-,-,-,hfx⟩
 go_wp2_with fail
 go_ret
 exact ⟨rfl,((Fx.of_fr hf1).trans (hfx.mono hbl.out)).toFr (fun k hk e=>by omega)⟩

theorem XT (n:Int) (w:World) (hs:(tx n).size≤1000000000) :
 Calls Tryz.prog 22 #[.string (tx n)] w fun e w'=>e=.returned (.string (tx (n.natAbs:Int)))∧w=w':=by
 have h:=hZ (fun W=>Hc n W hs)
 go_enter Tryz.func22,Tryz.ntmps22
 go_wp2_with fail
 refine (h.out _).mono ?_; rintro e w1 ⟨rfl,rfl⟩
 go_wp2_with fail
 go_ret
 exact ⟨rfl,rfl⟩

end Go.Proofs.YtcglmebcfeoedaaGreatDoor
namespace Go.Proofs.YtcglmebcfeoedaaGreatDoor
def YS:Nat→(Nat→Rat)→Rat
 | 0,_=>0
 | n+1,f=>YS n f+f n
def Y8:Nat→Rat
 | 0=>1
 | n+1=>-Y8 n
def Zj (i a:Nat):Nat:=if a < i then a else a+1
def Zb:Nat→(Nat→Nat→Rat)→Rat
 | 0,_=>1
 | n+1,E=>YS (n+1) fun i=>Y8 i * E i 0 * Zb n fun a b=>E (Zj i a) (b+1)
def Zq (x:Rat):Prop:=∃ z:Int,x=z
def Zp (B x:Rat):Prop:=-B≤x∧x≤B
structure Zn (b:Rat) (m n k:Nat) (p:Nat→Nat) (M R:Nat→Nat→Rat) (d:Rat):Prop where
 int:∀ i,i < m→∀ c,c < n→Zq (M i c)
 bd:∀ i,i < m→∀ c,c < n→Zp b (M i c)
 b1:1≤b
 km:k≤m
 pn:∀ j,j < k→p j < n
 det:d=Zb k fun i j=>M i (p j)
 d0:d≠0
 co:∃ Y:Nat→Nat→Rat,∀ i,i < m→∀ c,c < n→R i c=(if i < k then 0 else M i c)+YS k fun j=>Y i j * M j c
 un:∀ i,i < m→∀ j,j < k→R i (p j)=if i=j then 1 else 0
section
variable {b:Rat} {m n k:Nat} {p:Nat→Nat} {M R:Nat→Nat→Rat} {d:Rat}
end
end Go.Proofs.YtcglmebcfeoedaaGreatDoor
namespace Go.Proofs.YtcglmebcfeoedaaGreatDoor
open Go.RowKit Go.Lib
section
variable {mm n k:Nat} {p:Nat→Nat} {M R:Nat→Nat→Rat} {d:Int}
end
structure Zz (mm n c:Nat) (p:Nat→Nat) (M R:Nat→Nat→Rat) (B:Nat→Nat→Int) (d:Int) (F:RS) (S:EZ):Prop where
 st:Zn 1000000000 mm n S.piv.length p M R d
 fg:F.g=gG mm R (List.range n)
 sm:S.m=gG mm B (List.range n)
 lead:F.lead=S.piv
 last:S.last=d
 eq:∀ i,i < mm→∀ x,x < n→(B i x:Rat)=d * R i x
 det:(S.piv.length=c∧F.det=if S.odd=true then -(d:Rat) else (d:Rat))∨(S.piv.length < c∧F.det=0)

end Go.Proofs.YtcglmebcfeoedaaGreatDoor
