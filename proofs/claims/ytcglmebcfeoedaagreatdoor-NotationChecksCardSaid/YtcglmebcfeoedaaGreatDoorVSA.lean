/- Contracts and laws: VSA. -/
import Derived.Test.YtcglmebcfeoedaaGreatDoorVChk
import Derived.Test.YtcglmebcfeoedaaGreatDoorVK
import Derived.Test.YtcglmebcfeoedaaGreatDoorVEl
import Derived.Test.YtcglmebcfeoedaaGreatDoorVRF
import Derived.Test.YtcglmebcfeoedaaGreatDoorVB
import Derived.Test.YtcglmebcfeoedaaGreatDoorVD
import Derived.Test.YtcglmebcfeoedaaGreatDoorVA

set_option maxRecDepth 100000
namespace Go.Proofs.YtcglmebcfeoedaaGreatDoor
open Go.RowKit Go.Lib
def gG {α β:Type} (n:Nat) (φ:Nat→α→β) (l:List α):List (List β):=(List.range n).map fun i=>l.map (φ i)
def Uy {α β:Type} (φ:Nat→α→β) (k:Nat) (f:α→β) (i:Nat):α→β:=if i=k then f else φ i
theorem Dm {α β:Type} (n:Nat) (φ:Nat→α→β) (l:List α):(gG n φ l).length=n:=by unfold gG; rw [Am,BV]
theorem JO {α β:Type} {n i:Nat} (φ:Nat→α→β) (l:List α) (h:i < n):(gG n φ l)[i]?=some (l.map (φ i)):=by
 unfold gG; rw [Ap,DX h]; rfl
theorem Le {α β:Type} {n i:Nat} (φ:Nat→α→β) (l:List α) (f:α→β):(gG n φ l).set i (l.map f)=gG n (Uy φ i f) l:=by
 refine DI fun j=>?_
 by_cases h:j < n
 ·rw [JO _ _ h,BC]
  unfold Uy
  by_cases e:i=j
  ·subst e; rw [Al rfl,Dm,Al h,Al rfl]
  ·rw [Ai e,JO _ _ h,Ai (fun h=>e h.symm)]
 ·rw [Cr (by rw [A2,Dm]; omega),Cr (by rw [Dm]; omega)]
theorem Gx {α β:Type} {n:Nat} {φ χ:Nat→α→β} {l:List α} (h:∀ i,i < n→∀ t,t ∈ l→φ i t=χ i t):gG n φ l=gG n χ l :=
 C9 fun i hi=>C9 (h i (AQ.1 hi))
theorem U0 {α β:Type} {n:Nat} (φ:Nat→α→β) (σ:α→α) (l:List α):gG n φ (l.map σ)=gG n (fun i t=>φ i (σ t)) l :=
 C9 fun _ _=>CD
theorem Wm {α β:Type} {n i j:Nat} {φ ψ:Nat→α→β} {σ:α→α} {l:List α} (hi:i < n) (hj:j < n) (h1:ψ i ∘ σ=φ j) (h2:ψ j ∘ σ=φ i) (h:∀ k,k < n→k≠i→k≠j→ψ k ∘ σ=φ k):E2 (gG n φ l) i j=gG n ψ (l.map σ):=by
 unfold E2
 rw [JO _ _ hi,JO _ _ hj,U0]
 dsimp only
 rw [Le,Le]
 refine Gx fun k hk t _=>?_
 unfold Uy
 by_cases e:k=j
 ·subst e; rw [Al rfl]; exact (congrFun h2 t).symm
 ·rw [Ai e]
  by_cases e2:k=i
  ·subst e2; rw [Al rfl]; exact (congrFun h1 t).symm
  ·rw [Ai e2]; exact (congrFun (h k hk e2 e) t).symm
def O5 {α β:Type} (χ φ:Nat→α→β) (i j:Nat):α→β:=if j < i then χ j else φ j
theorem N6 {α β:Type} (χ φ:Nat→α→β):O5 χ φ 0=φ:=by funext j; unfold O5; rw [Ai (DD _)]
theorem SW {α β:Type} (χ φ:Nat→α→β) {i j:Nat} (h:i≤j):O5 χ φ i j=φ j:=by unfold O5; rw [Ai (by omega)]
theorem VA {α β:Type} {χ φ:Nat→α→β} {k:Nat} {l:List α} (h:∀ x,x ∈ l→χ k x=φ k x) (i:Nat):l.map (O5 χ φ i k)=l.map (φ k):=by
 refine C9 fun x hx=>?_
 unfold O5; split
 ·exact h x hx
 ·rfl
theorem Qv {α β:Type} {n:Nat} (χ φ:Nat→α→β) (l:List α):gG n (O5 χ φ n) l=gG n χ l:=Gx fun j hj t _=>by unfold O5; rw [Al hj]
theorem K6 {α β:Type} {n i:Nat} {χ φ:Nat→α→β} {l:List α} (h:∀ x,x ∈ l→χ i x=φ i x):gG n (O5 χ φ i) l=gG n (O5 χ φ (i+1)) l:=Gx fun j hj x hx=>by
 unfold O5
 by_cases e:j < i
 ·rw [Al e,Al (by omega)]
 ·rw [Ai e]
  by_cases e2:j < i+1
  ·obtain rfl:j=i:=by omega
   rw [Al e2]; exact (h x hx).symm
  ·rw [Ai e2]
theorem N7 {α β:Type} {n i:Nat} {χ φ:Nat→α→β} {l:List α} {f:α→β} (h:∀ x,x ∈ l→χ i x=f x):gG n (Uy (O5 χ φ i) i f) l=gG n (O5 χ φ (i+1)) l:=Gx fun j hj x hx=>by
 unfold Uy O5
 by_cases e:j=i
 ·subst e; rw [Al rfl,Al (by omega)]; exact (h x hx).symm
 ·rw [Ai e]
  by_cases e2:j < i
  ·rw [Al e2,Al (by omega)]
  ·rw [Ai e2,Ai (by omega)]
theorem Na {α:Type} {n i:Nat} {φ:Nat→α→Rat} {l:List α} (h:i < n):Eo (gG n φ l) i=l.map (φ i):=by unfold Eo; rw [JO _ _ h]; rfl
theorem Ld {α:Type} {n i c:Nat} {φ:Nat→α→Rat} {l:List α} {t:α} (h:i < n) (hc:l[c]?=some t):Dz (gG n φ l) i c=φ i t:=by
 unfold Dz; rw [Na h,Ap,hc]; rfl
theorem KJ {α:Type} (f:Rat) (φ ψ:α→Rat):∀ (l:List α),(∀ t,t ∈ l→KK f (φ t) (ψ t)=true)→F6 f (l.map φ) (l.map ψ)=some (l.map fun t=>φ t - f * ψ t)
 | [],_=>rfl
 | t :: l,h=>by
   rw [DQ,DQ,F6,Al (h t Dn),KJ f φ ψ l (fun x hx=>h x (EL _ hx)),DQ]; rfl
theorem U4 {α:Type} {n:Nat} {φ χ:Nat→α→Rat} {l:List α} {c k:Nat} {t:α} (hc:l[c]?=some t) (hk:k < n) (h0:∀ x,x ∈ l→χ k x=φ k x)
 (h1:∀ i,i < n→i≠k→∀ x,x ∈ l→χ i x=φ i x - φ i t * φ k x) (ok:∀ i,i < n→i≠k→∀ x,x ∈ l→KK (φ i t) (φ i x) (φ k x)=true) :
 Fc (gG n φ l) c k n=some (gG n χ l):=by
 have key:∀ i,i≤n→Fc (gG n φ l) c k i=some (gG n (O5 χ φ i) l):=fun i=>by
  induction i with
  | zero=>intro _; rw [Fc,N6]
  | succ i ih=>
    intro hi
    rw [Fc,ih (by omega),EW,Ld (by omega) hc,Na (by omega),Na hk,SW _ _ (Ah i),VA h0]
    by_cases hik:i=k
    ·rw [Al (.inl hik)]; exact congrArg some (K6 (by rw [hik]; exact h0))
    ·by_cases hz:φ i t=0
     ·rw [Al (.inr hz)]
      exact congrArg some (K6 fun x hx=>by rw [h1 i (by omega) hik x hx,hz,Rat.zero_mul]; grind)
     ·rw [Ai (by rintro (h | h); exact hik h; exact hz h),KJ _ _ _ l (ok i (by omega) hik),LM,Le]
      exact congrArg some (N7 fun x hx=>h1 i (by omega) hik x hx)
 rw [key n (Ah _),Qv]
theorem UC {α:Type} {n:Nat} {φ χ:Nat→α→Rat} {l:List α} {c:Nat} {t:α} {g:List (List Rat)} {lead:List Nat} {det:Rat} (hl:g.length=n) (hk:lead.length < n) (hat:H0 g c lead.length≠n) (hS:Cn g lead.length (H0 g c lead.length)=gG n φ l) (hc:l[c]?=some t)
 (hd:Tq det) (hp:Tq (φ lead.length t)) (hr:∀ x,x ∈ l→Tq (φ lead.length x))
 (h0:∀ x,x ∈ l→χ lead.length x=φ lead.length x / φ lead.length t) (h1:∀ i,i < n→i≠lead.length→∀ x,x ∈ l→χ i x=φ i x - φ i t * χ lead.length x)
 (ok:∀ i,i < n→i≠lead.length→∀ x,x ∈ l→KK (φ i t) (φ i x) (χ lead.length x)=true) :
 Hw c ⟨g,lead,det⟩=some ⟨gG n χ l,lead ++ [c],F0 det lead.length (H0 g c lead.length) * φ lead.length t⟩:=by
 have e1:Dz (gG n φ l) lead.length c=φ lead.length t:=Ld hk hc
 have e2:Eo (gG n φ l) lead.length=l.map (φ lead.length):=Na hk
 unfold Hw
 dsimp only
 rw [hl,Ai hat,hS,e1,e2,Al ⟨hd,hp,Aw.2 fun y hy=>by obtain ⟨x,hx,rfl⟩:=BG.1 hy; exact Ab (hr x hx)⟩,CD,Le]
 have:=U4 (φ:=Uy φ lead.length ((· / φ lead.length t) ∘ φ lead.length)) (χ:=χ) (l:=l) (c:=c) (k:=lead.length) (t:=t) hc hk (fun x hx=>by unfold Uy; rw [Al rfl]; exact h0 x hx)
  (fun i hi hik x hx=>by unfold Uy; rw [Ai hik,Al rfl]; show _=φ i x - φ i t * (φ lead.length x / φ lead.length t); rw [← h0 x hx]; exact h1 i hi hik x hx)
  (fun i hi hik x hx=>by unfold Uy; rw [Ai hik,Al rfl]; show KK _ _ (φ lead.length x / φ lead.length t)=true; rw [← h0 x hx]; exact ok i hi hik x hx)
 rw [this,LM]
theorem PD {α:Type} {n i:Nat} {φ:Nat→α→Int} {l:List α} (h:i < n):Dx (gG n φ l) i=l.map (φ i):=by unfold Dx; rw [JO _ _ h]; rfl
theorem Lc {α:Type} {n i c:Nat} {φ:Nat→α→Int} {l:List α} {t:α} (h:i < n) (hc:l[c]?=some t):C6 (gG n φ l) i c=φ i t:=by
 unfold C6; rw [PD h,Ap,hc]; rfl
theorem II {α:Type} {f:Int→Int→Int} (φ ψ:α→Int):∀ l:List α,List.zipWith f (l.map φ) (l.map ψ)=l.map fun t=>f (φ t) (ψ t)
 | []=>rfl
 | t :: l=>by rw [DQ,DQ,List.zipWith_cons_cons,II φ ψ l]; rfl
theorem Ws {α:Type} {n:Nat} {φ χ:Nat→α→Int} {l:List α} {c k:Nat} {t:α} {L:Int} (hc:l[c]?=some t) (hk:k < n) (h0:∀ x,x ∈ l→χ k x=φ k x)
 (h1:∀ i,i < n→i≠k→∀ x,x ∈ l→χ i x=(φ k t * φ i x - φ i t * φ k x).fdiv L):DT (gG n φ l) (φ k t) L k c n=gG n χ l:=by
 have key:∀ i,i≤n→DT (gG n φ l) (φ k t) L k c i=gG n (O5 χ φ i) l:=fun i=>by
  induction i with
  | zero=>intro _; rw [DT,N6]
  | succ i ih=>
    intro hi
    rw [DT,ih (by omega),Lc (by omega) hc,PD (by omega),PD hk,SW _ _ (Ah i),VA h0]
    by_cases hik:i=k
    ·rw [Al hik]; exact K6 (by rw [hik]; exact h0)
    ·rw [Ai hik]
     unfold Jc
     rw [II,Le]
     exact N7 fun x hx=>h1 i (by omega) hik x hx
 rw [key n (Ah _),Qv]
theorem UB {α:Type} {n:Nat} {φ χ:Nat→α→Int} {l:List α} {c:Nat} {t:α} {g:List (List Int)} {piv:List Nat} {L:Int} {odd:Bool} (hl:g.length=n) (hk:piv.length < n) (hat:G4 g c piv.length≠n) (hS:Ee g piv.length (G4 g c piv.length)=gG n φ l) (hc:l[c]?=some t)
 (hti:Ur g=true) (hL:Tz L) (hL0:L≠0)
 (h0:∀ x,x ∈ l→χ piv.length x=φ piv.length x) (h1:∀ i,i < n→i≠piv.length→∀ x,x ∈ l→χ i x=(φ piv.length t * φ i x - φ i t * φ piv.length x).fdiv L) :
 ∃ o,E9 c ⟨g,piv,L,odd⟩=some ⟨gG n χ l,piv ++ [c],φ piv.length t,o⟩:=by
 unfold E9
 dsimp only
 rw [hl,Al hk,Ai hat,hS,Al ⟨hti,hL,hL0⟩,Lc hk hc,Ws hc hk h0 h1]
 exact ⟨_,rfl⟩
theorem Xh {α:Type} {n:Nat} {φ:Nat→α→Rat} {l:List α} {c k a:Nat} {t:α} (hc:l[c]?=some t) (ha:a < n) (hk:k≤a) (h0:∀ i,k≤i→i < a→φ i t=0) (h1:φ a t≠0):H0 (gG n φ l) c k=a:=by
 have key:∀ j,j≤a - k→H0 (gG n φ l) c (a - j)=a:=fun j=>by
  induction j with
  | zero=>intro _; exact OE (by rw [Dm]; omega) (by rw [Ld (by omega) hc]; exact h1)
  | succ j ih=>
    intro hj
    have:=Lz (g:=gG n φ l) (c:=c) (i:=a - (j+1)) (by rw [Dm]; omega) (by rw [Ld (by omega) hc]; exact h0 _ (by omega) (by omega))
    rw [← this,show a - (j+1)+1=a - j by omega]; exact ih (by omega)
 have:=key (a - k) (Ah _)
 rwa [show a - (a - k)=k by omega] at this
theorem Wu {g:List (List Int)} {c i:Nat} (hi:i < g.length) (h:C6 g i c≠0):G4 g c i=i:=by
 unfold G4
 rw [BZ hi,Ju]
 unfold C6 Dx at h
 rw [Ac hi] at h
 have h:((g[i])[c]?).getD 0≠0:=h
 simp [h]
theorem OD {g:List (List Int)} {c i:Nat} (hi:i < g.length) (h:C6 g i c=0):G4 g c (i+1)=G4 g c i:=by
 unfold G4
 rw [BZ hi,Ju]
 unfold C6 Dx at h
 rw [Ac hi] at h
 have h:((g[i])[c]?).getD 0=0:=h
 simp [h]; omega
theorem Xg {α:Type} {n:Nat} {φ:Nat→α→Int} {l:List α} {c k a:Nat} {t:α} (hc:l[c]?=some t) (ha:a < n) (hk:k≤a) (h0:∀ i,k≤i→i < a→φ i t=0) (h1:φ a t≠0):G4 (gG n φ l) c k=a:=by
 have key:∀ j,j≤a - k→G4 (gG n φ l) c (a - j)=a:=fun j=>by
  induction j with
  | zero=>intro _; exact Wu (by rw [Dm]; omega) (by rw [Lc (by omega) hc]; exact h1)
  | succ j ih=>
    intro hj
    have:=OD (g:=gG n φ l) (c:=c) (i:=a - (j+1)) (by rw [Dm]; omega) (by rw [Lc (by omega) hc]; exact h0 _ (by omega) (by omega))
    rw [← this,show a - (j+1)+1=a - j by omega]; exact ih (by omega)
 have:=key (a - k) (Ah _)
 rwa [show a - (a - k)=k by omega] at this
abbrev T3:=Int×Int×Int
def e0 (i:Nat) (t:T3):Int:=if i=0 then t.1 else if i=1 then t.2.1 else t.2.2
def n1 (a d g:Int) (i:Nat) (t:T3):Int:=if i=0 then t.1 else if i=1 then a * t.2.1 - d * t.1 else a * t.2.2 - g * t.1
def m3 (a d g b e h:Int) (t:T3):Int:=a * (e * t.2.2 - t.2.1 * h) - b * (d * t.2.2 - t.2.1 * g)+t.1 * (d * h - e * g)
def n2 (a d g b e h:Int) (i:Nat) (t:T3):Int:=if i=0 then e * t.1 - b * t.2.1 else if i=1 then a * t.2.1 - d * t.1 else m3 a d g b e h t
def c0 (b e h c f i:Int):T3:=(e * i - f * h,c * h - b * i,b * f - c * e)
def c1 (a d g c f i:Int):T3:=(f * g - d * i,a * i - c * g,c * d - a * f)
def c2 (a d g b e h:Int):T3:=(d * h - e * g,b * g - a * h,a * e - b * d)
def Us (t:T3):T3:=(t.1,t.2.2,t.2.1)
theorem Bd.of {A B:Nat} {x y:Int} (h0:y≠0) (h1:x.natAbs≤A) (h2:y.natAbs≤B):Bd A B ((x:Rat) / (y:Rat)):=by
 refine ⟨x,y, ?_,h0,h1,h2⟩
 exact (Rat.divInt_eq_div _ _).symm
theorem U1 {x y z:Int} (hz:z≠0) (h:x=z * y):x.fdiv z=y:=by rw [h]; exact Int.mul_fdiv_cancel_left _ hz

attribute [local go_sem ↓] AC AD
theorem GG.slice {w:World} {base:Nat} {E:TypeId} {v:Value} {hs:List (Nat×Nat×Nat)} {g:List (List Int)} (h:GG w base E v hs g):∃ a c,v=.slice a g.length c:=by
 rcases h.own.2 with ⟨h1,h2⟩ | ⟨g',cap',cur',hv,_⟩
 ·exact ⟨none,0,by rw [h1,h2]⟩
 ·exact ⟨_,_,hv⟩
theorem TL (a:Option Addr) (cap:Nat) (w:World) (hG:G w) :
 Calls Tryz.prog 58 #[.slice a 0 cap] w fun e w'=>e=.returned (.int .i64 0)∧Fr w w':=by
 have hbig:=hZ (fun W (hW:G W)=>Je [] a cap 1 W hW (.inl rfl) (fun r hr=>by cases hr) (by decide) (by decide) (by simp) (fun r hr=>by cases hr))
 have hcol:∀ W:World,Calls Tryz.prog 121 #[.slice a 0 cap] W fun e w'=>e=.returned (.int .i64 0)∧W=w':=fun W=>by
  go_enter Tryz.func121,Tryz.ntmps121
  go_wp2_with fail
  go_ret
  exact ⟨rfl,rfl⟩
 have hel:∀ (b:Option Addr) (c:Nat) (W:World),Calls Tryz.prog 70 #[.slice b 0 c,.int .i64 0] W fun e w'=>e=.returned (.tuple #[.slice none 0 0,.string ⟨#[49]⟩,.bool false])∧W=w':=fun b c W=>by
  go_enter Tryz.func70,Tryz.ntmps70
  go_wp2_with fail
  refine D2 1 ?_
  rw [Cb]
  go_wp2_with fail
  go_ret3
  exact ⟨rfl,rfl⟩
 replace hcol:=hZ hcol
 replace hel:=hZ hel
 go_enter Tryz.func58,Tryz.ntmps58
 go_wp2_with fail
 refine (hbig.out _ hG).mono ?_
 rintro e w1 ⟨v,hs,rfl,hgg,hrw,hnew,hf1⟩
 obtain ⟨b,c,rfl⟩:=hgg.slice
 go_wp2_with fail
 refine (hcol.out _).mono ?_
 rintro e w2 ⟨rfl,rfl⟩
 go_wp2_with fail
 refine (hel.out _ _ _).mono ?_
 rintro e w3 ⟨rfl,rfl⟩
 go_wp2_with fail
 go_ret
 exact ⟨rfl,hf1⟩
theorem Vc (m:List (List Int)) (n:Nat) (s:EZ) (a:Option Addr) (cap:Nat) (w:World) (hG:G w) (hm:Ca w a m) (hr:CQ n m) (hn1:1≤n) (hn:n≤1000) (hl1:1≤m.length) (hl:m.length≤1000) (hb:∀ r,r ∈ m→∀ x,x ∈ r→Sm x) (hz:Kq m n=some s) :
 Calls Tryz.prog 58 #[.slice a m.length cap] w fun e w'=>e=.returned (.int .i64 s.piv.length)∧Fr w w':=by
 have hbig:=hZ (fun W (hW:Fr w W)=>Je m a cap n W (hG.fr hW) (hm.fr hW) hr hn1 (by omega) (by omega) hb)
 have hcol:∀ W,Fr w W→Calls Tryz.prog 121 #[.slice a m.length cap] W fun e w'=>e=.returned (.int .i64 n)∧W=w':=fun W hW=>by
  match m,hl1,hr,hm with
  | r :: m',_,hr,hm=>
    have:=OY r m' a cap W (hm.fr hW)
    rw [hr r Dn] at this
    exact this
 have hel:=fun ob c hs W (hW:G W) (h:Bz W ob 0 hs m)=>OU ob 0 c n n hs m s W hW h hr (Ah _) hn hl hz
 obtain ⟨L,hL⟩:∃ L,L=m.length:=⟨_,rfl⟩
 rw [← hL] at hl1 hbig hcol hel ⊢
 replace hcol:=hZ hcol
 replace hel:=hZ hel
 have hG1:=hZ hG
 replace hL:=hZ hL
 clear hm hb hG
 go_enter Tryz.func58,Tryz.ntmps58
 go_wp2_with fail
 refine (hbig.out _ (Fr.refl _)).mono ?_
 rintro e w1 ⟨v,hs,rfl,hgg,hrw,hnew,hf1⟩
 obtain ⟨gb1,cb1,rfl⟩:=CW hgg.own (by rw [← hL.out]; omega)
 obtain ⟨hgr,-,hge,-⟩:=hgg.grid
 rw [← hL.out]
 have he:=hZ (hel.out gb1 cb1 hs w1 (hG1.out.fr hf1) hgr)
 have hbl:Hid (∀ k,gb gb1 hs k→w.heap.size≤k):=by
  rintro k (rfl | ⟨hd,hm2,rfl⟩)
  ·exact hge
  ·exact hnew.out hd hm2
 replace hgg:=hZ hgg
 replace hgr:=hZ hgr
 replace hrw:=hZ hrw
 go_wp2_with fail
 refine (hcol.out _ hf1).mono ?_
 rintro e w2 ⟨rfl,rfl⟩
 go_wp2_with fail
 refine he.out.mono ?_
 rintro e w3 ⟨a3,c3,hs3,rfl,-,-,-,-,-,hfx⟩
 go_wp2_with fail
 go_ret
 exact ⟨rfl,((Fx.of_fr hf1).trans (hfx.mono hbl.out)).toFr (fun k hk e=>by omega)⟩

theorem WA (n:Int) (w:World) (hs:(tx n).size≤1000000000) :
 Calls Tryz.prog 22 #[.string (tx n)] w fun e w'=>e=.returned (.string (tx (n.natAbs:Int)))∧w=w':=by
 have h:=hZ (fun W=>GE n W hs)
 go_enter Tryz.func22,Tryz.ntmps22
 go_wp2_with fail
 refine (h.out _).mono ?_; rintro e w1 ⟨rfl,rfl⟩
 go_wp2_with fail
 go_ret
 exact ⟨rfl,rfl⟩

end Go.Proofs.YtcglmebcfeoedaaGreatDoor
namespace Go.Proofs.YtcglmebcfeoedaaGreatDoor
def En:Nat→(Nat→Rat)→Rat
 | 0,_=>0
 | n+1,f=>En n f+f n
def O4:Nat→Rat
 | 0=>1
 | n+1=>-O4 n
def GH (i a:Nat):Nat:=if a < i then a else a+1
def Ek:Nat→(Nat→Nat→Rat)→Rat
 | 0,_=>1
 | n+1,E=>En (n+1) fun i=>O4 i * E i 0 * Ek n fun a b=>E (GH i a) (b+1)
theorem MT {f g:Nat→Rat}:∀ n,(∀ i,i < n→f i=g i)→En n f=En n g
 | 0,_=>rfl
 | n+1,h=>by
   show En n f+f n=En n g+g n
   rw [MT n (fun i hi=>h i (by omega)),h n (by omega)]
theorem HR {f g h:Nat→Rat} {x y:Rat}:∀ n,(∀ i,i < n→f i=x * g i+y * h i)→En n f=x * En n g+y * En n h
 | 0,_=>by show (0:Rat)=x * 0+y * 0; grind
 | n+1,k=>by
   show En n f+f n=x * (En n g+g n)+y * (En n h+h n)
   rw [HR n (fun i hi=>k i (by omega)),k n (by omega)]; grind
theorem NO {f:Nat→Rat}:∀ n,(∀ i,i < n→f i=0)→En n f=0
 | 0,_=>rfl
 | n+1,k=>by
   show En n f+f n=0
   rw [NO n (fun i hi=>k i (by omega)),k n (by omega)]; grind
theorem Qh {f:Nat→Rat} {r:Nat} (h0:f r+f (r+1)=0):∀ n,r+1 < n→(∀ i,i < n→i≠r→i≠r+1→f i=0)→En n f=0
 | 0,h,_=>by omega
 | n+1,h,k=>by
   show En n f+f n=0
   by_cases e:n=r+1
   ·subst e
    show En r f+f r+f (r+1)=0
    rw [NO r (fun i hi=>k i (by omega) (by omega) (by omega))]; grind
   ·rw [Qh h0 n (by omega) (fun i hi=>k i (by omega)),k n (by omega) (by omega) (by omega)]; grind
theorem NP {f:Nat→Rat}:∀ n,En (n+1) f=En n f+f n:=fun _=>rfl
theorem Jy {i a n:Nat} (ha:a < n):GH i a < n+1:=by unfold GH; split <;> omega
theorem Sx {i a:Nat}:GH i a≠i:=by unfold GH; split <;> omega
theorem E5:∀ (n:Nat) {E F:Nat→Nat→Rat},(∀ i,i < n→∀ j,j < n→E i j=F i j)→Ek n E=Ek n F
 | 0,_,_,_=>rfl
 | n+1,E,F,h=>MT _ fun i hi=>by
   show O4 i * E i 0 * Ek n _=O4 i * F i 0 * Ek n _
   rw [h i hi 0 (by omega),E5 n (fun a ha b hb=>h _ (Jy ha) (b+1) (by omega))]
theorem VZ {i r n:Nat} (h:i≠r) (hr:r < n+1) (hi:i < n+1):∃ s,s < n∧GH i s=r∧∀ a,a≠s→GH i a≠r:=by
 by_cases e:r < i
 ·exact ⟨r,by omega,by unfold GH; rw [Al e],fun a ha=>by unfold GH; split <;> omega⟩
 ·exact ⟨r - 1,by omega,by unfold GH; split <;> omega,fun a ha=>by unfold GH; split <;> omega⟩
theorem Kr:∀ (n r:Nat) {E F G:Nat→Nat→Rat} {x y:Rat},r < n→(∀ j,j < n→E r j=x * F r j+y * G r j)→(∀ i,i < n→i≠r→∀ j,j < n→E i j=F i j∧E i j=G i j)→Ek n E=x * Ek n F+y * Ek n G
 | 0,r,_,_,_,_,_,h,_,_=>by omega
 | n+1,r,E,F,G,x,y,hr,h1,h2=>HR _ fun i hi=>by
   show O4 i * E i 0 * Ek n _=x * (O4 i * F i 0 * Ek n _)+y * (O4 i * G i 0 * Ek n _)
   by_cases e:i=r
   ·subst e
    have k1:Ek n (fun a b=>E (GH i a) (b+1))=Ek n (fun a b=>F (GH i a) (b+1)):=E5 n fun a ha b hb=>(h2 _ (Jy ha) Sx (b+1) (by omega)).1
    have k2:Ek n (fun a b=>E (GH i a) (b+1))=Ek n (fun a b=>G (GH i a) (b+1)):=E5 n fun a ha b hb=>(h2 _ (Jy ha) Sx (b+1) (by omega)).2
    rw [← k1,← k2,h1 0 (by omega)]; grind
   ·obtain ⟨s,hs,hsr,hne⟩:=VZ e hr hi
    have ih:=Kr n s (E:=fun a b=>E (GH i a) (b+1)) (F:=fun a b=>F (GH i a) (b+1)) (G:=fun a b=>G (GH i a) (b+1)) (x:=x) (y:=y) hs (fun j hj=>by show E (GH i s) _=x * F (GH i s) _+y * G (GH i s) _; rw [hsr]; exact h1 (j+1) (by omega)) (fun a ha hne2 b hb=>h2 _ (Jy ha) (hne a hne2) (b+1) (by omega))
    rw [ih,← (h2 i hi e 0 (by omega)).1,← (h2 i hi e 0 (by omega)).2]; grind
theorem Ks:∀ (n r:Nat) {E:Nat→Nat→Rat},r+1 < n→(∀ j,j < n→E r j=E (r+1) j)→Ek n E=0
 | 0,r,_,h,_=>by omega
 | n+1,r,E,hr,h=>by
   refine Qh (r:=r) ?_ (n+1) hr fun i hi h1 h2=>?_
   ·have e:Ek n (fun a b=>E (GH r a) (b+1))=Ek n (fun a b=>E (GH (r+1) a) (b+1)):=E5 n fun a ha b hb=>by
     unfold GH
     by_cases e1:a < r
     ·rw [Al e1,Al (by omega)]
     ·rw [Ai e1]
      by_cases e2:a=r
      ·subst e2; rw [Al (by omega)]; exact (h (b+1) (by omega)).symm
      ·rw [Ai (by omega)]
    show O4 r * E r 0 * Ek n _+-O4 r * E (r+1) 0 * Ek n _=0
    rw [e,h 0 (by omega)]; grind
   ·have:Ek n (fun a b=>E (GH i a) (b+1))=0:=by
     by_cases e:r < i
     ·exact Ks n r (by omega) fun j hj=>by
       show E (GH i r) (j+1)=E (GH i (r+1)) (j+1)
       unfold GH; rw [Al e,Al (by omega)]; exact h (j+1) (by omega)
     ·exact Ks n (r - 1) (by omega) fun j hj=>by
       show E (GH i (r - 1)) (j+1)=E (GH i (r - 1+1)) (j+1)
       unfold GH; rw [Ai (by omega),Ai (by omega),show r - 1+1=r by omega]; exact h (j+1) (by omega)
    show O4 i * E i 0 * Ek n _=0
    rw [this]; grind
def DY (E:Nat→Nat→Rat) (r:Nat) (v:Nat→Rat):Nat→Nat→Rat:=fun i=>if i=r then v else E i
theorem Bs {E:Nat→Nat→Rat} {r:Nat} {v:Nat→Rat}:DY E r v r=v:=Al rfl
theorem Bc {E:Nat→Nat→Rat} {r i:Nat} {v:Nat→Rat} (h:i≠r):DY E r v i=E i:=Ai h
theorem Nc {n r:Nat} {E:Nat→Nat→Rat} (hr:r < n) (x y:Rat) (u v:Nat→Rat):Ek n (DY E r fun j=>x * u j+y * v j)=x * Ek n (DY E r u)+y * Ek n (DY E r v) :=
 Kr n r hr (fun j _=>by rw [Bs,Bs,Bs]) (fun i _ h j _=>by rw [Bc h,Bc h,Bc h]; exact ⟨rfl,rfl⟩)
theorem Tk {n r:Nat} {E:Nat→Nat→Rat} (hr:r+1 < n):Ek n (DY (DY E r (E (r+1))) (r+1) (E r))=-Ek n E:=by
 have add1:∀ u u' v:Nat→Rat,Ek n (DY (DY E r fun j=>1 * u j+1 * u' j) (r+1) v)=1 * Ek n (DY (DY E r u) (r+1) v)+1 * Ek n (DY (DY E r u') (r+1) v):=fun u u' v=>
  Kr n r (by omega) (fun j _=>by
   have o:∀ x:Nat→Rat,DY (DY E r x) (r+1) v r=x:=fun x=>by rw [Bc (by omega),Bs]
   rw [o,o,o]) (fun i _ h j _=>by
   by_cases e:i=r+1
   ·subst e; rw [Bs,Bs,Bs]; exact ⟨rfl,rfl⟩
   ·rw [Bc e,Bc e,Bc e,Bc h,Bc h,Bc h]; exact ⟨rfl,rfl⟩)
 have same:∀ u:Nat→Rat,Ek n (DY (DY E r u) (r+1) u)=0:=fun u=>Ks n r hr fun j _=>by rw [Bs,Bc (by omega),Bs]
 have h:=same fun j=>1 * E r j+1 * E (r+1) j
 rw [Nc (by omega),add1,add1,same,same] at h
 have e:Ek n (DY (DY E r (E r)) (r+1) (E (r+1)))=Ek n E:=E5 n fun i _ j _=>by
  by_cases e:i=r+1
  ·subst e; rw [Bs]
  ·rw [Bc e]
   by_cases e2:i=r
   ·subst e2; rw [Bs]
   ·rw [Bc e2]
 rw [e] at h
 grind
theorem Nd:∀ (g n i:Nat) {E:Nat→Nat→Rat},i+g+1 < n→(∀ c,c < n→E i c=E (i+g+1) c)→Ek n E=0
 | 0,n,i,E,h,k=>Ks n i h k
 | g+1,n,i,E,h,k=>by
   have h1:=Tk (n:=n) (r:=i+g+1) (E:=E) (by omega)
   have h2:=Nd g n i (E:=DY (DY E (i+g+1) (E (i+g+1+1))) (i+g+1+1) (E (i+g+1))) (by omega) fun c hc=>by
    rw [Bc (by omega),Bc (by omega),Bc (by omega),Bs]; exact k c hc
   rw [h2] at h1
   grind
theorem Ol {n i j:Nat} {E:Nat→Nat→Rat} (hi:i < n) (hj:j < n) (hij:i≠j) (h:∀ c,c < n→E i c=E j c):Ek n E=0:=by
 by_cases e:i < j
 ·have:j=i+(j - i - 1)+1:=by omega
  rw [this] at h hj
  exact Nd _ n i hj h
 ·have:i=j+(i - j - 1)+1:=by omega
  rw [this] at h hi
  exact Nd _ n j hi fun c hc=>(h c hc).symm
theorem Tj {n r:Nat} {E:Nat→Nat→Rat} (hr:r < n) (h:∀ c,c < n→E r c=0):Ek n E=0:=by
 have:=Kr n r (E:=E) (F:=E) (G:=E) (x:=0) (y:=0) hr (fun j hj=>by rw [h j hj]; grind) (fun _ _ _ _ _=>⟨rfl,rfl⟩)
 rw [this]; grind
theorem Om {n i:Nat} {T:Nat→Nat→Rat} {y:Nat→Rat} (hi:i < n):∀ m,m≤n→Ek n (DY T i fun c=>En m fun j=>y j * T j c)=if i < m then y i * Ek n T else 0
 | 0,_=>by rw [Ai (by omega)]; exact Tj hi fun c _=>by rw [Bs]; rfl
 | m+1,hm=>by
   have h:=Nc (E:=T) hi 1 (y m) (fun c=>En m fun j=>y j * T j c) (T m)
   have e:Ek n (DY T i fun c=>En (m+1) fun j=>y j * T j c)=Ek n (DY T i fun c=>1 * (En m fun j=>y j * T j c)+y m * T m c):=E5 n fun a _ b _=>by
    by_cases ha:a=i
    ·subst ha; rw [Bs,Bs,NP]; grind
    ·rw [Bc ha,Bc ha]
   rw [e,h,Om hi m (by omega)]
   by_cases h1:i=m
   ·subst h1
    rw [Ai (by omega),Al (by omega)]
    have:Ek n (DY T i (T i))=Ek n T:=E5 n fun a _ b _=>by
     by_cases ha:a=i
     ·subst ha; rw [Bs]
     ·rw [Bc ha]
    rw [this]; grind
   ·have z:Ek n (DY T i (T m))=0:=Ol hi (by omega:m < n) h1 fun c _=>by rw [Bs,Bc (by omega)]
    rw [z]
    by_cases h2:i < m
    ·rw [Al h2,Al (by omega)]; grind
    ·rw [Ai h2,Ai (by omega)]; grind
theorem QI {n:Nat} {E:Nat→Nat→Rat} {y:Nat→Rat}:∀ m,m≤n→Ek (n+1) (DY E n fun c=>E n c - En m fun j=>y j * E j c)=Ek (n+1) E
 | 0,_=>E5 _ fun a _ b _=>by
   by_cases ha:a=n
   ·subst ha; rw [Bs]; show E a b - 0=_; grind
   ·rw [Bc ha]
 | m+1,hm=>by
   have h:=Nc (E:=E) (show n < n+1 by omega) 1 (-y m) (fun c=>E n c - En m fun j=>y j * E j c) (E m)
   have e:Ek (n+1) (DY E n fun c=>E n c - En (m+1) fun j=>y j * E j c)=Ek (n+1) (DY E n fun c=>1 * (E n c - En m fun j=>y j * E j c)+-y m * E m c):=E5 _ fun a _ b _=>by
    by_cases ha:a=n
    ·subst ha; rw [Bs,Bs,NP]; grind
    ·rw [Bc ha,Bc ha]
   have z:Ek (n+1) (DY E n (E m))=0:=Ol (show n < n+1 by omega) (show m < n+1 by omega) (by omega) fun c _=>by rw [Bs,Bc (by omega)]
   rw [e,h,QI m (by omega),z]; grind
theorem QJ:∀ (n:Nat) {E:Nat→Nat→Rat},(∀ j,j < n→E n j=0)→Ek (n+1) E=E n n * Ek n E
 | 0,E,_=>by show 0+1 * E 0 0 * 1=E 0 0 * 1; grind
 | n+1,E,h=>by
   show En (n+1) _+O4 (n+1) * E (n+1) 0 * Ek (n+1) _=_
   rw [h 0 (by omega)]
   have:En (n+1) (fun i=>O4 i * E i 0 * Ek (n+1) fun a b=>E (GH i a) (b+1))=E (n+1) (n+1) * En (n+1) (fun i=>O4 i * E i 0 * Ek n fun a b=>E (GH i a) (b+1))+0 * En (n+1) (fun i=>O4 i * E i 0 * Ek n fun a b=>E (GH i a) (b+1)):=HR _ fun i hi=>by
    have hs:GH i n=n+1:=by unfold GH; rw [Ai (by omega)]
    rw [QJ n (E:=fun a b=>E (GH i a) (b+1)) fun j hj=>by show E (GH i n) (j+1)=0; rw [hs]; exact h _ (by omega)]
    show _ * (E (GH i n) (n+1) * _)=_
    rw [hs]; grind
   rw [this]
   show _+_=_ * En (n+1) _
   grind
def Hi (x:Rat):Prop:=∃ z:Int,x=z
theorem Hi.of (z:Int):Hi z:=⟨z,rfl⟩
theorem Hi.add {x y:Rat} (h:Hi x) (k:Hi y):Hi (x+y):=by obtain ⟨a,rfl⟩:=h; obtain ⟨b,rfl⟩:=k; exact ⟨a+b,(Rat.intCast_add a b).symm⟩
theorem Hi.mul {x y:Rat} (h:Hi x) (k:Hi y):Hi (x * y):=by obtain ⟨a,rfl⟩:=h; obtain ⟨b,rfl⟩:=k; exact ⟨a * b,(LK a b).symm⟩
theorem Hi.neg {x:Rat} (h:Hi x):Hi (-x):=by obtain ⟨a,rfl⟩:=h; exact ⟨-a,(LJ a).symm⟩
theorem Hi.sum {f:Nat→Rat}:∀ n,(∀ i,i < n→Hi (f i))→Hi (En n f)
 | 0,_=>⟨0,rfl⟩
 | n+1,h=>(Hi.sum n fun i hi=>h i (by omega)).add (h n (by omega))
theorem Hi.sg:∀ n,Hi (O4 n)
 | 0=>⟨1,rfl⟩
 | n+1=>(Hi.sg n).neg
theorem Hi.dt:∀ (n:Nat) {E:Nat→Nat→Rat},(∀ i,i < n→∀ j,j < n→Hi (E i j))→Hi (Ek n E)
 | 0,_,_=>⟨1,rfl⟩
 | n+1,E,h=>Hi.sum _ fun i hi=>((Hi.sg i).mul (h i hi 0 (by omega))).mul (Hi.dt n fun a ha b hb=>h _ (Jy ha) (b+1) (by omega))
def Fs (B x:Rat):Prop:=-B≤x∧x≤B
theorem Fs.mul {A B x y:Rat} (h:Fs A x) (k:Fs B y):Fs (A * B) (x * y):=by
 obtain ⟨h1,h2⟩:=h
 obtain ⟨k1,k2⟩:=k
 have hA:0≤A:=by grind
 have hB:0≤B:=by grind
 have a1:0≤A - x:=by grind
 have a2:0≤A+x:=by grind
 have b1:0≤B - y:=by grind
 have b2:0≤B+y:=by grind
 have p1:=D3 a1 b1
 have p2:=D3 a1 b2
 have p3:=D3 a2 b1
 have p4:=D3 a2 b2
 constructor <;> grind
theorem Fs.add {A B x y:Rat} (h:Fs A x) (k:Fs B y):Fs (A+B) (x+y):=by
 obtain ⟨h1,h2⟩:=h
 obtain ⟨k1,k2⟩:=k
 constructor <;> grind
theorem Fs.neg {A x:Rat} (h:Fs A x):Fs A (-x):=by
 obtain ⟨h1,h2⟩:=h
 constructor <;> grind
theorem Fs.sum {f:Nat→Rat} {B:Rat}:∀ n:Nat,(∀ i,i < n→Fs B (f i))→Fs (n * B) (En n f)
 | 0,_=>by show Fs ((0:Nat) * B) 0; unfold Fs; grind
 | n+1,h=>by
   have:=(Fs.sum n fun i hi=>h i (by omega)).add (h n (by omega))
   have e:((n+1:Nat):Rat) * B=n * B+B:=by rw [show ((n+1:Nat):Rat)=(n:Rat)+1 from by simp]; grind
   rw [e]; exact this
theorem Fs.sg:∀ n,Fs 1 (O4 n)
 | 0=>by show Fs 1 1; unfold Fs; grind
 | n+1=>(Fs.sg n).neg
def J9 (B:Rat):Nat→Rat
 | 0=>1
 | n+1=>((n+1:Nat):Rat) * (B * J9 B n)
theorem Fs.dt {B:Rat}:∀ (n:Nat) {E:Nat→Nat→Rat},(∀ i,i < n→∀ j,j < n→Fs B (E i j))→Fs (J9 B n) (Ek n E)
 | 0,_,_=>by show Fs 1 1; unfold Fs; grind
 | n+1,E,h=>Fs.sum _ fun i hi=>by
   have:=((Fs.sg i).mul (h i hi 0 (by omega))).mul (Fs.dt n (E:=fun a b=>E (GH i a) (b+1)) fun a ha b hb=>h _ (Jy ha) (b+1) (by omega))
   rw [show (1:Rat) * B * J9 B n=B * J9 B n by grind] at this
   exact this
structure J4 (b:Rat) (m n k:Nat) (p:Nat→Nat) (M R:Nat→Nat→Rat) (d:Rat):Prop where
 int:∀ i,i < m→∀ c,c < n→Hi (M i c)
 bd:∀ i,i < m→∀ c,c < n→Fs b (M i c)
 b1:1≤b
 km:k≤m
 pn:∀ j,j < k→p j < n
 det:d=Ek k fun i j=>M i (p j)
 d0:d≠0
 co:∃ Y:Nat→Nat→Rat,∀ i,i < m→∀ c,c < n→R i c=(if i < k then 0 else M i c)+En k fun j=>Y i j * M j c
 un:∀ i,i < m→∀ j,j < k→R i (p j)=if i=j then 1 else 0
section
variable {b:Rat} {m n k:Nat} {p:Nat→Nat} {M R:Nat→Nat→Rat} {d:Rat}
theorem Fs.le1 {b x:Rat} (hb:1≤b) (h:x=1∨x=0):Fs b x:=by unfold Fs; rcases h with h | h <;> subst h <;> grind
theorem Qi {f:Nat→Rat} {d:Rat}:∀ n,d * En n f=En n fun i=>d * f i
 | 0=>by show d * 0=0; grind
 | n+1=>by show d * (En n f+f n)=_; rw [Rat.mul_add,Qi n]; rfl
theorem J4.coef (h:J4 b m n k p M R d) {Y:Nat→Nat→Rat} (hY:∀ i,i < m→∀ c,c < n→R i c=(if i < k then 0 else M i c)+En k fun j=>Y i j * M j c) {i l:Nat} (hi:i < m) (hl:l < k):Hi (Y i l * d)∧Fs (J9 b k) (Y i l * d):=by
 have hc:=Om (n:=k) (i:=l) (T:=fun i j=>M i (p j)) (y:=Y i) hl k (Ah _)
 rw [Al hl,← h.det] at hc
 rw [← hc]
 have key:∀ c,c < k→Hi (En k fun j=>Y i j * M j (p c))∧Fs b (En k fun j=>Y i j * M j (p c)):=fun c hck=>by
  have e1:=hY i hi (p c) (h.pn c hck)
  rw [h.un i hi c hck] at e1
  by_cases hik:i < k
  ·rw [Al hik] at e1
   have e:(En k fun j=>Y i j * M j (p c))=if i=c then 1 else 0:=by grind
   rw [e]
   by_cases hic:i=c
   ·rw [Al hic]; exact ⟨⟨1,rfl⟩,Fs.le1 h.b1 (.inl rfl)⟩
   ·rw [Ai hic]; exact ⟨⟨0,rfl⟩,Fs.le1 h.b1 (.inr rfl)⟩
  ·rw [Ai hik,Ai (by omega)] at e1
   have e:(En k fun j=>Y i j * M j (p c))=-M i (p c):=by grind
   rw [e]
   exact ⟨(h.int i hi _ (h.pn c hck)).neg,(h.bd i hi _ (h.pn c hck)).neg⟩
 have hkm:=h.km
 constructor
 ·refine Hi.dt k fun a ha c hck=>?_
  by_cases e:a=l
  ·subst e; rw [Bs]; exact (key c hck).1
  ·rw [Bc e]; exact h.int a (by omega) _ (h.pn c hck)
 ·refine Fs.dt k fun a ha c hck=>?_
  by_cases e:a=l
  ·subst e; rw [Bs]; exact (key c hck).2
  ·rw [Bc e]; exact h.bd a (by omega) _ (h.pn c hck)
theorem J4.dI (h:J4 b m n k p M R d):Hi d∧Fs (J9 b k) d:=by
 have hkm:=h.km
 rw [h.det]
 exact ⟨Hi.dt k fun a ha c hc=>h.int a (by omega) _ (h.pn c hc),Fs.dt k fun a ha c hc=>h.bd a (by omega) _ (h.pn c hc)⟩
theorem QO {b:Rat} (hb:1≤b):∀ n,1≤J9 b n
 | 0=>by show (1:Rat)≤1; grind
 | n+1=>by
   have ih:=QO hb n
   have h1:(0:Rat)≤(n:Rat):=Rat.natCast_nonneg
   have h2:=D3 (show (0:Rat)≤b - 1 by grind) (show (0:Rat)≤J9 b n - 1 by grind)
   have h4:1≤b * J9 b n:=by grind
   have h3:=D3 h1 (show (0:Rat)≤b * J9 b n by grind)
   show 1≤((n+1:Nat):Rat) * (b * J9 b n)
   rw [show ((n+1:Nat):Rat)=(n:Rat)+1 from by simp]
   grind
theorem To {b:Rat} (hb:1≤b) (n:Nat):J9 b n≤J9 b (n+1):=by
 have h0:=QO hb n
 have h1:(0:Rat)≤(n:Rat):=Rat.natCast_nonneg
 have h2:=D3 (show (0:Rat)≤b - 1 by grind) (show (0:Rat)≤J9 b n by grind)
 have h4:0≤b * J9 b n:=by grind
 have h3:=D3 h1 h4
 show J9 b n≤((n+1:Nat):Rat) * (b * J9 b n)
 rw [show ((n+1:Nat):Rat)=(n:Rat)+1 from by simp]
 grind
theorem Ow {b:Rat} (hb:1≤b) {i j:Nat} (h:i≤j):J9 b i≤J9 b j:=by
 induction h with
 | refl=>grind
 | step _ ih=>exact R1 ih (To hb _)
theorem J4.num (h:J4 b m n k p M R d) {i c:Nat} (hi:i < m) (hc:c < n):Hi (d * R i c)∧Fs (J9 b (k+1)) (d * R i c):=by
 obtain ⟨Y,hY⟩:=h.co
 obtain ⟨dI,dB⟩:=h.dI
 have hkm:=h.km
 have e:d * R i c=(if i < k then 0 else d * M i c)+En k fun j=>(Y i j * d) * M j c:=by
  have e1:(En k fun j=>(Y i j * d) * M j c)=d * En k fun j=>Y i j * M j c:=by rw [Qi]; exact MT k fun j _=>by grind
  rw [e1,hY i hi c hc]
  split <;> grind
 have hs:=Hi.sum (f:=fun j=>(Y i j * d) * M j c) k fun j hj=>(h.coef hY hi hj).1.mul (h.int j (by omega) c hc)
 have hb:=Fs.sum (f:=fun j=>(Y i j * d) * M j c) k fun j hj=>(h.coef hY hi hj).2.mul (h.bd j (by omega) c hc)
 have e2:J9 b (k+1)=J9 b k * b+k * (J9 b k * b):=by
  show ((k+1:Nat):Rat) * (b * J9 b k)=_
  rw [show ((k+1:Nat):Rat)=(k:Rat)+1 from by simp]; grind
 rw [e,e2]
 by_cases hik:i < k
 ·rw [Al hik]
  refine ⟨(Hi.of 0).add hs,Fs.add ?_ hb⟩
  have:=(dB.mul (h.bd i hi c hc)).mul (Fs.le1 (b:=1) (by grind) (.inr rfl):Fs 1 0)
  rw [XR,Rat.mul_one] at this
  exact this
 ·rw [Ai hik]
  exact ⟨(dI.mul (h.int i hi c hc)).add hs,(dB.mul (h.bd i hi c hc)).add hb⟩
def Gj (k a i:Nat):Nat:=if i=k then a else if i=a then k else i
theorem Il {k a i m:Nat} (hk:k < m) (ha:a < m) (hi:i < m):Gj k a i < m:=by unfold Gj; split; omega; split <;> omega
theorem J4.swap (h:J4 b m n k p M R d) {a:Nat} (hk:k < m) (ha:a < m) (hka:k≤a):J4 b m n k p (fun i=>M (Gj k a i)) (fun i=>R (Gj k a i)) d:=by
 have lo:∀ i,i < k→Gj k a i=i:=fun i hi=>by unfold Gj; rw [Ai (by omega),Ai (by omega)]
 have hi9:∀ i,¬ i < k→¬ Gj k a i < k:=fun i hi=>by unfold Gj; split; omega; split <;> omega
 refine ⟨fun i hi=>h.int _ (Il hk ha hi),fun i hi=>h.bd _ (Il hk ha hi),h.b1,h.km,h.pn, ?_,h.d0, ?_,fun i hi j hj=>?_⟩
 ·rw [h.det]; exact E5 k fun i hi j _=>by show M i _=M (Gj k a i) _; rw [lo i hi]
 ·obtain ⟨Y,hY⟩:=h.co
  refine ⟨fun i=>Y (Gj k a i),fun i hi c hc=>?_⟩
  show R (Gj k a i) c=_
  rw [hY _ (Il hk ha hi) c hc]
  have e:(En k fun j=>Y (Gj k a i) j * M j c)=En k fun j=>Y (Gj k a i) j * M (Gj k a j) c:=MT k fun j hj=>by rw [lo j hj]
  rw [e]
  by_cases hik:i < k
  ·rw [Al hik,Al (by rw [lo i hik]; exact hik)]
  ·rw [Ai hik,Ai (hi9 i hik)]
 ·show R (Gj k a i) (p j)=_
  rw [h.un _ (Il hk ha hi) j hj]
  by_cases hik:i < k
  ·rw [lo i hik]
  ·rw [Ai (by have:=hi9 i hik; omega),Ai (by omega)]
theorem J4.step (h:J4 b m n k p M R d) {c:Nat} (hk:k < m) (hc:c < n) (h0:R k c≠0) {p':Nat→Nat} {R':Nat→Nat→Rat} (hp:∀ j,j < k→p' j=p j) (hpk:p' k=c)
 (hk':∀ x,x < n→R' k x=R k x / R k c) (hr':∀ i,i < m→i≠k→∀ x,x < n→R' i x=R i x - R i c * (R k x / R k c)):J4 b m n (k+1) p' M R' (d * R k c):=by
 obtain ⟨Y,hY⟩:=h.co
 refine ⟨h.int,h.bd,h.b1,by omega,fun j hj=>?_, ?_, ?_, ?_,fun i hi j hj=>?_⟩
 ·by_cases e:j=k
  ·rw [e,hpk]; exact hc
  ·rw [hp j (by omega)]; exact h.pn j (by omega)
 ·have s:=QI (n:=k) (E:=fun i j=>M i (p' j)) (y:=fun j=>-Y k j) k (Ah _)
  rw [← s]
  have e:Ek (k+1) (DY (fun i j=>M i (p' j)) k fun c=>M k (p' c) - En k fun j=>-Y k j * M j (p' c))=Ek (k+1) (DY (fun i j=>M i (p' j)) k fun c=>R k (p' c)):=E5 _ fun i hi j hj=>by
   by_cases e:i=k
   ·subst e
    rw [Bs,Bs]
    have hpj:p' j < n:=by
     by_cases e:j=i
     ·rw [e,hpk]; exact hc
     ·rw [hp j (by omega)]; exact h.pn j (by omega)
    rw [hY i hk _ hpj,Ai (by omega)]
    have:(En i fun l=>-Y i l * M l (p' j))=-1 * (En i fun l=>Y i l * M l (p' j))+0 * (En i fun l=>Y i l * M l (p' j)):=HR i fun l _=>by grind
    rw [this]; grind
   ·rw [Bc e,Bc e]
  rw [e,QJ k fun j hj=>by rw [Bs,hp j hj,h.un k hk j hj,Ai (by omega)],Bs,hpk]
  have e2:Ek k (DY (fun i j=>M i (p' j)) k fun c=>R k (p' c))=d:=by
   rw [h.det]; exact E5 k fun i hi j hj=>by rw [Bc (by omega)]; show M i (p' j)=M i (p j); rw [hp j hj]
  rw [e2]; grind
 ·have:=h.d0; grind
 ·refine ⟨fun i j=>if i=k then (if j < k then Y k j / R k c else 1 / R k c) else (if j < k then Y i j - R i c * (Y k j / R k c) else -(R i c / R k c)),fun i hi x hx=>?_⟩
  show _=_+(En k _+_)
  have ek:=hY k hk x hx
  rw [Ai (by omega)] at ek
  by_cases e:i=k
  ·subst e
   rw [hk' x hx,Al (by omega)]
   have:(En i fun j=>(if i=i then (if j < i then Y i j / R i c else 1 / R i c) else (if j < i then Y i j - R i c * (Y i j / R i c) else -(R i c / R i c))) * M j x)=1 / R i c * (En i fun j=>Y i j * M j x)+0 * (En i fun j=>Y i j * M j x):=HR i fun j hj=>by rw [Al rfl,Al hj]; grind
   rw [this]; dsimp only
   rw [Al rfl,Ai (by omega),ek]; grind
  ·rw [hr' i hi e x hx]
   have:(En k fun j=>(if i=k then (if j < k then Y k j / R k c else 1 / R k c) else (if j < k then Y i j - R i c * (Y k j / R k c) else -(R i c / R k c))) * M j x)=1 * (En k fun j=>Y i j * M j x)+-(R i c / R k c) * (En k fun j=>Y k j * M j x):=HR k fun j hj=>by rw [Ai e,Al hj]; grind
   rw [this]; dsimp only
   rw [Ai e,Ai (Ci k),hY i hi x hx,ek]
   by_cases hik:i < k
   ·rw [Al hik,Al (by omega)]; grind
   ·rw [Ai hik,Ai (by omega)]; grind
 ·have dd:∀ y:Rat,y / y=1∨y=0:=fun y=>by by_cases e:y=0; exact .inr e; exact .inl (by grind)
  by_cases ej:j=k
  ·subst ej
   rw [hpk]
   by_cases e:i=j
   ·subst e; rw [hk' c hc,Al rfl]; grind
   ·rw [hr' i hi e c hc,Ai e]; grind
  ·have hjk:j < k:=by omega
   rw [hp j hjk]
   by_cases e:i=k
   ·subst e; rw [hk' _ (h.pn j hjk),h.un i hk j hjk,Ai (by omega)]; grind
   ·rw [hr' i hi e _ (h.pn j hjk),h.un i hi j hjk,h.un k hk j hjk,Ai (show ¬ k=j by omega)]; grind
theorem J4.init (hi:∀ i,i < m→∀ c,c < n→Hi (M i c)) (hb:∀ i,i < m→∀ c,c < n→Fs b (M i c)) (b1:1≤b):J4 b m n 0 p M M 1 :=
 ⟨hi,hb,b1,BJ _,fun j hj=>by omega,rfl,by grind,⟨fun _ _=>0,fun i _ c _=>by rw [Ai (by omega)]; show M i c=M i c+0; grind⟩,fun i _ j hj=>by omega⟩
end
end Go.Proofs.YtcglmebcfeoedaaGreatDoor
namespace Go.Proofs.YtcglmebcfeoedaaGreatDoor
open Go.RowKit Go.Lib
theorem Hi.nat {x B:Rat} (hi:Hi x) (hb:Fs B x) {N:Nat} (hN:B≤N):∃ z:Int,x=z∧z.natAbs≤N:=by
 obtain ⟨z,rfl⟩:=hi
 refine ⟨z,rfl, ?_⟩
 obtain ⟨h1,h2⟩:=hb
 have h3:(z:Rat)≤((N:Int):Rat):=R1 h2 hN
 have h4:(((-(N:Int)):Int):Rat)≤(z:Rat):=by
  rw [LJ]
  have:-B≤(z:Rat):=h1
  have hN':B≤((N:Int):Rat):=hN
  grind
 have h5:=Gc.1 h3
 have h6:=Gc.1 h4
 omega
theorem VE:J9 1000000000 13≤((10 ^ 127:Nat):Rat):=by decide +kernel
theorem Wb:(1:Rat)≤1000000000:=by decide +kernel
section
variable {mm n k:Nat} {p:Nat→Nat} {M R:Nat→Nat→Rat} {d:Int}
theorem J4.dN (h:J4 1000000000 mm n k p M R d) (hm:mm≤12):d.natAbs≤10 ^ 127:=by
 have hk:=h.km
 obtain ⟨z,hz,hb⟩:=h.dI.1.nat h.dI.2 (R1 (Ow Wb (show k≤13 by omega)) VE)
 rw [Fv.1 hz]; exact hb
theorem J4.eN (h:J4 1000000000 mm n k p M R d) (hm:mm≤12) {i c:Nat} (hi:i < mm) (hc:c < n):∃ z:Int,(d:Rat) * R i c=z∧z.natAbs≤10 ^ 127:=by
 have hk:=h.km
 exact (h.num hi hc).1.nat (h.num hi hc).2 (R1 (Ow Wb (show k+1≤13 by omega)) VE)
theorem J4.d0I (h:J4 1000000000 mm n k p M R d):d≠0:=fun e=>h.d0 (by rw [e]; rfl)
theorem J4.bd2 (h:J4 1000000000 mm n k p M R d) (hm:mm≤12) {i c:Nat} (hi:i < mm) (hc:c < n):Bd (10 ^ 127) (10 ^ 127) (R i c):=by
 obtain ⟨z,hz,hb⟩:=h.eN hm hi hc
 have hd:=h.d0
 have e:R i c=(z:Rat) / (d:Rat):=by rw [← hz]; grind
 rw [e]; exact Bd.of h.d0I hb (h.dN hm)
end
theorem Fb:10 ^ 127 < 10 ^ 255:=by decide +kernel
theorem SY:10 ^ 127 * 10 ^ 127 < 10 ^ 255:=by decide +kernel
theorem Ty {α:Type} {n:Nat} {φ:Nat→α→Rat} {l:List α} {c k:Nat} {t:α} (hc:l[c]?=some t) (hk:k≤n) (h0:∀ i,k≤i→i < n→φ i t=0):H0 (gG n φ l) c k=n:=by
 have key:∀ j,j≤n - k→H0 (gG n φ l) c (n - j)=n:=fun j=>by
  induction j with
  | zero=>intro _; have:=Ni (g:=gG n φ l) (c:=c); rw [Dm] at this; exact this
  | succ j ih=>
    intro hj
    have:=Lz (g:=gG n φ l) (c:=c) (i:=n - (j+1)) (by rw [Dm]; omega) (by rw [Ld (by omega) hc]; exact h0 _ (by omega) (by omega))
    rw [← this,show n - (j+1)+1=n - j by omega]; exact ih (by omega)
 have:=key (n - k) (Ah _)
 rwa [show n - (n - k)=k by omega] at this
theorem TD {g:List (List Int)} {c:Nat}:G4 g c g.length=g.length:=by unfold G4; rw [Df]; rfl
theorem Tx {α:Type} {n:Nat} {φ:Nat→α→Int} {l:List α} {c k:Nat} {t:α} (hc:l[c]?=some t) (hk:k≤n) (h0:∀ i,k≤i→i < n→φ i t=0):G4 (gG n φ l) c k=n:=by
 have key:∀ j,j≤n - k→G4 (gG n φ l) c (n - j)=n:=fun j=>by
  induction j with
  | zero=>intro _; have:=TD (g:=gG n φ l) (c:=c); rw [Dm] at this; exact this
  | succ j ih=>
    intro hj
    have:=OD (g:=gG n φ l) (c:=c) (i:=n - (j+1)) (by rw [Dm]; omega) (by rw [Lc (by omega) hc]; exact h0 _ (by omega) (by omega))
    rw [← this,show n - (j+1)+1=n - j by omega]; exact ih (by omega)
 have:=key (n - k) (Ah _)
 rwa [show n - (n - k)=k by omega] at this
theorem Ob {f:Nat→Rat} {k:Nat}:∀ m,(∀ i,k≤i→i < m→f i=0)∨∃ a,k≤a∧a < m∧f a≠0∧∀ i,k≤i→i < a→f i=0
 | 0=>.inl fun i _ h=>by omega
 | m+1=>by
   rcases Ob (f:=f) (k:=k) m with h | ⟨a,h1,h2,h3,h4⟩
   ·by_cases e:k≤m∧f m≠0
    ·exact .inr ⟨m,e.1,by omega,e.2,h⟩
    ·refine .inl fun i h1 h2=>?_
     by_cases e2:i=m
     ·subst e2; exact Bj fun e3=>e ⟨h1,e3⟩
     ·exact h i h1 (by omega)
   ·exact .inr ⟨a,h1,by omega,h3,h4⟩
structure XO (mm n c:Nat) (p:Nat→Nat) (M R:Nat→Nat→Rat) (B:Nat→Nat→Int) (d:Int) (F:RS) (S:EZ):Prop where
 st:J4 1000000000 mm n S.piv.length p M R d
 fg:F.g=gG mm R (List.range n)
 sm:S.m=gG mm B (List.range n)
 lead:F.lead=S.piv
 last:S.last=d
 eq:∀ i,i < mm→∀ x,x < n→(B i x:Rat)=d * R i x
 det:(S.piv.length=c∧F.det=if S.odd=true then -(d:Rat) else (d:Rat))∨(S.piv.length < c∧F.det=0)
theorem Qg {α β:Type} {mm k a:Nat} {φ:Nat→α→β} {l:List α} (hk:k < mm) (ha:a < mm) (hka:a≠k):E2 (gG mm φ l) k a=gG mm (fun i=>φ (Gj k a i)) l:=by
 have h:=Wm (n:=mm) (i:=k) (j:=a) (φ:=φ) (ψ:=fun i=>φ (Gj k a i)) (σ:=id) (l:=l) hk ha (by
  show φ (Gj k a k) ∘ id=φ a
  unfold Gj; rw [Al rfl]; rfl) (by
  show φ (Gj k a a) ∘ id=φ k
  unfold Gj; rw [Ai hka,Al rfl]; rfl) (fun i _ h1 h2=>by
  show φ (Gj k a i) ∘ id=φ i
  unfold Gj; rw [Ai h1,Ai h2]; rfl)
 rw [List.map_id] at h
 exact h
theorem NI {k:Nat}:∀ i,Gj k k i=i:=fun i=>by unfold Gj; split <;> simp_all
theorem Q5 {α:Type} (l:List α) (i j:Nat):E2 l i j=E2 l j i:=by
 unfold E2
 cases h1:l[i]? with
 | none=>cases h2:l[j]? <;> rfl
 | some a=>
   cases h2:l[j]? with
   | none=>rfl
   | some b=>
     show (l.set i b).set j a=(l.set j a).set i b
     by_cases e:i=j
     ·subst e
      rw [h1] at h2
      injection h2 with h2
      subst h2; rfl
     ·exact List.set_comm _ _ e
theorem Rf {n c:Nat} (h:c < n):(List.range n)[c]?=some c:=DX h
theorem Tg {mm n c:Nat} {p:Nat→Nat} {M R:Nat→Nat→Rat} {B:Nat→Nat→Int} {d:Int} {F:RS} {S:EZ} (h:XO mm n c p M R B d F S) (hc:c < n) (hm:mm≤12) :
 ∃ p2 M2 R2 B2 d2 F2 S2,Hw c F=some F2∧E9 c S=some S2∧XO mm n (c+1) p2 M2 R2 B2 d2 F2 S2:=by
 obtain ⟨Fg,Fl,Fd⟩:=F
 obtain ⟨Sm',Sp,Sl,So⟩:=S
 obtain ⟨st,fg,sm,lead,last,eq,det⟩:=h
 dsimp only at st fg sm lead last det
 subst fg; subst sm; subst lead; subst last
 have hrc:=Rf hc
 have hkm:=st.km
 have hd0:=st.d0I
 have hdq:=st.d0
 rcases Nat.lt_or_ge Fl.length mm with hk | hk
 ·rcases Ob (f:=fun i=>R i c) (k:=Fl.length) mm with hz | ⟨a,h1,h2,h3,h4⟩
  ·-- no pivot
   have e1:=Ty (φ:=R) hrc (Db hk) hz
   have e2:=Tx (φ:=B) hrc (Db hk) (fun i hi hi2=>by
    have:=eq i hi2 c hc
    rw [hz i hi hi2,XR] at this
    exact Fv.1 this)
   refine ⟨p,M,R,B,Sl,⟨gG mm R (List.range n),Fl,0⟩,⟨gG mm B (List.range n),Fl,Sl,So⟩, ?_, ?_,⟨st,rfl,rfl,rfl,rfl,eq,.inr ⟨?_,rfl⟩⟩⟩
   ·unfold Hw; dsimp only; rw [Dm,Al e1]
   ·unfold E9; dsimp only; rw [Dm,Al hk,Al e2]
   ·show Fl.length < c+1
    rcases det with ⟨e,_⟩ | ⟨e,_⟩
    ·have:Fl.length=c:=e
     omega
    ·have:Fl.length < c:=e
     omega
  ·have hBa:B a c≠0:=fun e=>by
    have:=eq a h2 c hc
    rw [e] at this
    have h9:(Sl:Rat) * R a c=0:=this.symm
    rcases Rat.mul_eq_zero.1 h9 with h9 | h9
    ·exact hdq h9
    ·exact h3 h9
   have e1:=Xh (φ:=R) hrc h2 h1 h4 h3
   have e2:=Xg (φ:=B) hrc h2 h1 (fun i hi hi2=>by
    have:=eq i (by omega) c hc
    have h9:R i c=0:=h4 i hi hi2
    rw [h9,XR] at this
    exact Fv.1 this) hBa
   have hsw:=st.swap hk h2 h1
   have hpk:Gj Fl.length a Fl.length=a:=by unfold Gj; rw [Al rfl]
   -- the new rows
   obtain ⟨R2,hR2⟩:∃ R2:Nat→Nat→Rat,R2=fun i x=>if i=Fl.length then R a x / R a c else R (Gj Fl.length a i) x - R (Gj Fl.length a i) c * (R a x / R a c):=⟨_,rfl⟩
   have hR2k:∀ x,R2 Fl.length x=R a x / R a c:=fun x=>by rw [hR2]; exact Al rfl
   have hR2o:∀ i,i≠Fl.length→∀ x,R2 i x=R (Gj Fl.length a i) x - R (Gj Fl.length a i) c * (R a x / R a c):=fun i hi x=>by rw [hR2]; exact Ai hi
   obtain ⟨p2,hp2⟩:∃ p2:Nat→Nat,p2=fun j=>if j=Fl.length then c else p j:=⟨_,rfl⟩
   have st2:J4 1000000000 mm n (Fl.length+1) p2 (fun i=>M (Gj Fl.length a i)) R2 ((Sl:Rat) * R a c):=by
    have h9:=hsw.step (c:=c) (p':=p2) (R':=R2) hk hc (by rw [hpk]; exact h3) (fun j hj=>by rw [hp2]; exact Ai (by omega)) (by rw [hp2]; exact Al rfl)
     (fun x _=>by rw [hR2k,hpk]) (fun i _ hik x _=>by rw [hR2o i hik,hpk])
    rw [hpk] at h9
    exact h9
   have hBac:=eq a h2 c hc
   rw [← hBac] at st2
   -- integers
   have hB2:∃ B2:Nat→Nat→Int,∀ i,i < mm→∀ x,x < n→(B2 i x:Rat)=(B a c:Rat) * R2 i x:=by
    refine ⟨fun i x=>((B a c:Rat) * R2 i x).num,fun i hi x hx=>?_⟩
    obtain ⟨z,hz⟩:=(st2.num hi hx).1
    show ((((B a c:Rat) * R2 i x).num:Int):Rat)=_
    rw [hz,HN]
   obtain ⟨B2,hB2⟩:=hB2
   have hsQ:Cn (gG mm R (List.range n)) Fl.length (H0 (gG mm R (List.range n)) c Fl.length)=gG mm (fun i=>R (Gj Fl.length a i)) (List.range n):=by
    rw [e1]; unfold Cn
    by_cases e:a=Fl.length
    ·rw [Al e]; exact Gx fun i _ x _=>by rw [e,NI]
    ·rw [Ai e]; exact Qg hk h2 e
   have hsZ:Ee (gG mm B (List.range n)) Fl.length (G4 (gG mm B (List.range n)) c Fl.length)=gG mm (fun i=>B (Gj Fl.length a i)) (List.range n):=by
    rw [e2]; unfold Ee
    by_cases e:a=Fl.length
    ·rw [Al e]; exact Gx fun i _ x _=>by rw [e,NI]
    ·rw [Ai e,Q5]; exact Qg hk h2 e
   have hdetT:Tq Fd:=by
    rcases det with ⟨_,e⟩ | ⟨_,e⟩
    ·have hb:=st.dN hm
     have e:Fd=if So=true then -(Sl:Rat) else (Sl:Rat):=e
     rw [e]
     split
     ·rw [← LJ]; exact (Bd.int (A:=10 ^ 127) (-Sl) (by rw [D5]; exact hb)).tqG Fb (by decide +kernel)
     ·exact (Bd.int (A:=10 ^ 127) Sl hb).tqG Fb (by decide +kernel)
    ·have e:Fd=0:=e
     rw [e]; exact (Bd.int (A:=10 ^ 127) 0 (by decide +kernel)).tqG Fb (by decide +kernel)
   have hbd1:∀ i,i < mm→∀ x,x < n→Bd (10 ^ 127) (10 ^ 127) (R (Gj Fl.length a i) x):=fun i hi x hx=>st.bd2 hm (Il hk h2 hi) hx
   have hbd2:∀ i,i < mm→∀ x,x < n→Bd (10 ^ 127) (10 ^ 127) (R2 i x):=fun i hi x hx=>st2.bd2 hm hi hx
   have hQ:=UC (φ:=fun i=>R (Gj Fl.length a i)) (χ:=R2) (l:=List.range n) (c:=c) (t:=c) (g:=gG mm R (List.range n)) (lead:=Fl) (det:=Fd) (Dm ..) hk (by rw [e1]; omega) hsQ hrc hdetT
    ((hbd1 _ hk c hc).tqG Fb Fb) (fun x hx=>(hbd1 _ hk x (AQ.1 hx)).tqG Fb Fb) (fun x _=>by rw [hR2k,hpk]) (fun i _ hik x _=>by rw [hR2o i hik,hR2k])
    (fun i hi _ x hx=>St ((hbd1 i hi c hc).tqG Fb Fb) ((hbd2 _ hk x (AQ.1 hx)).tqG Fb Fb) (((hbd1 i hi c hc).mul (hbd2 _ hk x (AQ.1 hx))).tqG SY SY) ((hbd1 i hi x (AQ.1 hx)).tqG Fb Fb))
   have htm:Ur (gG mm B (List.range n))=true:=by
    refine Aw.2 fun r hr=>Aw.2 fun x hx=>Ab ?_
    obtain ⟨i,hi,rfl⟩:=BG.1 hr
    obtain ⟨t,ht,rfl⟩:=BG.1 hx
    obtain ⟨z,hz,hb⟩:=st.eN hm (AQ.1 hi) (AQ.1 ht)
    rw [← eq _ (AQ.1 hi) _ (AQ.1 ht)] at hz
    rw [Fv.1 hz]
    exact XB (Bm hb Fb)
   have hkB:∀ x,x < n→B2 Fl.length x=B a x:=fun x hx=>by
    have e3:=hB2 _ hk x hx
    rw [hR2k,hBac] at e3
    have e4:=eq a h2 x hx
    refine Fv.1 ?_
    rw [e3,e4]
    grind
   have hoB:∀ i,i < mm→i≠Fl.length→∀ x,x < n→B2 i x=(B a c * B (Gj Fl.length a i) x - B (Gj Fl.length a i) c * B a x).fdiv Sl:=fun i hi hik x hx=>by
    refine (U1 hd0 ?_).symm
    refine Fv.1 ?_
    rw [Rat.intCast_sub,LK,LK,LK,hB2 i hi x hx,hR2o i hik,hBac,eq _ (Il hk h2 hi) x hx,eq _ (Il hk h2 hi) c hc,eq a h2 x hx]
    grind
   obtain ⟨hSo,hZ⟩:∃ o,E9 c ⟨gG mm B (List.range n),Fl,Sl,So⟩=some ⟨gG mm B2 (List.range n),Fl ++ [c],B a c,o⟩∧o=(So != decide (a≠Fl.length)):=by
    obtain ⟨o,ho⟩:=UB (φ:=fun i=>B (Gj Fl.length a i)) (χ:=B2) (l:=List.range n) (c:=c) (t:=c) (g:=gG mm B (List.range n)) (piv:=Fl) (L:=Sl) (odd:=So) (Dm ..) hk (by rw [e2]; omega) hsZ hrc htm (XB (Bm (st.dN hm) Fb)) hd0
     (fun x hx=>by rw [hkB x (AQ.1 hx),hpk]) (fun i hi hik x hx=>by rw [hoB i hi hik x (AQ.1 hx),hpk])
    rw [hpk] at ho
    refine ⟨o,ho, ?_⟩
    unfold E9 at ho
    dsimp only at ho
    rw [Dm,Al hk,Ai (by rw [e2]; omega),Al ⟨htm,XB (Bm (st.dN hm) Fb),hd0⟩] at ho
    injection ho with ho
    injection ho with _ _ _ ho
    rw [← ho,e2]
   obtain ⟨hZ,hoE⟩:=hZ
   refine ⟨p2,fun i=>M (Gj Fl.length a i),R2,B2,B a c,_,_,hQ,hZ,⟨?_,rfl,rfl,rfl,rfl,hB2, ?_⟩⟩
   ·show J4 1000000000 mm n (Fl ++ [c]).length p2 _ R2 _
    rw [Aq,GL]; exact st2
   ·show ((Fl ++ [c]).length=c+1∧F0 Fd Fl.length (H0 (gG mm R (List.range n)) c Fl.length) * R (Gj Fl.length a Fl.length) c=_)∨_
    rw [Aq,GL,e1,hpk]
    rcases det with ⟨ek,ed⟩ | ⟨ek,ed⟩
    ·have ek:Fl.length=c:=ek
     have ed:Fd=if So=true then -(Sl:Rat) else (Sl:Rat):=ed
     refine .inl ⟨by omega, ?_⟩
     show _=if hSo=true then -(B a c:Rat) else (B a c:Rat)
     rw [hoE,hBac,ed]
     unfold F0
     by_cases ea:a=Fl.length
     ·rw [Al ea,Aa (by omega)]
      cases So <;> simp <;> grind
     ·rw [Ai ea,Ab ea]
      cases So <;> simp <;> grind
    ·have ek:Fl.length < c:=ek
     have ed:Fd=0:=ed
     refine .inr ⟨?_, ?_⟩
     ·omega
     ·show F0 Fd Fl.length a * R a c=0
      rw [ed]; unfold F0
      split <;> grind
 ·have hkk:Fl.length=mm:=by omega
  have e1:H0 (gG mm R (List.range n)) c Fl.length=mm:=by
   have:=Ni (g:=gG mm R (List.range n)) (c:=c)
   rw [Dm] at this
   rw [hkk]; exact this
  refine ⟨p,M,R,B,Sl,⟨gG mm R (List.range n),Fl,0⟩,⟨gG mm B (List.range n),Fl,Sl,So⟩, ?_, ?_,⟨st,rfl,rfl,rfl,rfl,eq,.inr ⟨?_,rfl⟩⟩⟩
  ·unfold Hw; dsimp only; rw [Dm,Al e1]
  ·unfold E9; dsimp only; rw [Dm,Ai (by omega)]
  ·show Fl.length < c+1
   rcases det with ⟨e,_⟩ | ⟨e,_⟩
   ·have:Fl.length=c:=e
    omega
   ·have:Fl.length < c:=e
    omega
theorem QD {m:List (List Int)} {n:Nat} (hr:CQ n m):m=gG m.length (C6 m) (List.range n):=by
 unfold gG
 refine List.ext_getElem (by simp) fun i h1 h2=>?_
 rw [List.getElem_map,List.getElem_range]
 have hl:(m[i]).length=n:=hr _ (A3 h1)
 refine List.ext_getElem (by rw [hl]; simp) fun c h3 h4=>?_
 rw [List.getElem_map,List.getElem_range]
 unfold C6 Dx
 rw [Ac h1]
 show _=((m[i])[c]?).getD 0
 rw [Ac h3]; rfl
theorem UZ {m:List (List Int)} {n:Nat} (hr:CQ n m):m.map CB=gG m.length (fun i c=>(C6 m i c:Rat)) (List.range n):=by
 have h:=congrArg (List.map CB) (QD hr)
 rw [h]
 unfold gG CB
 rw [CD]
 refine C9 fun i _=>?_
 show ((List.range n).map (C6 m i)).map _=_
 rw [CD]; rfl
theorem QG {m:List (List Int)} {n:Nat} (hm:m.length≤12) (hr:CQ n m) (hb:WG 1000000000 m):∀ c,c≤n→∃ p M R B d F S,C4 (m.map CB) c=some F∧Kq m c=some S∧XO m.length n c p M R B d F S
 | 0,_=>by
   refine ⟨id,fun i c=>(C6 m i c:Rat),fun i c=>(C6 m i c:Rat),C6 m,1,_,_,rfl,rfl,⟨?_,UZ hr,QD hr,rfl,rfl, ?_,.inl ⟨rfl,rfl⟩⟩⟩
   ·refine J4.init (fun i _ c _=>⟨_,rfl⟩) (fun i _ c _=>?_) Wb
    have h:=hb.ent i c
    exact ⟨by have:((-1000000000:Int):Rat)≤(C6 m i c:Rat):=Gc.2 (by omega)
              exact this,by have:(C6 m i c:Rat)≤((1000000000:Int):Rat):=Gc.2 (by omega)
                            exact this⟩
   ·intro i _ x _
    show (C6 m i x:Rat)=((1:Int):Rat) * _
    rw [Rat.intCast_one,Rat.one_mul]
 | c+1,h=>by
   obtain ⟨p,M,R,B,d,F,S,e1,e2,h1⟩:=QG hm hr hb c (by omega)
   obtain ⟨p2,M2,R2,B2,d2,F2,S2,e3,e4,h2⟩:=Tg h1 (by omega) hm
   exact ⟨p2,M2,R2,B2,d2,F2,S2,by rw [C4,e1]; exact e3,by rw [Kq,e2]; exact e4,h2⟩
theorem U3 {m:List (List Int)} {n:Nat} (hm:m.length≤12) (hr:CQ n m) (hb:WG 1000000000 m):∃ F S,C4 (m.map CB) n=some F∧Kq m n=some S∧F.lead=S.piv∧S.piv.length≤m.length∧S.last.natAbs≤10 ^ 127 ∧
 ((S.piv.length=n∧F.det=((if S.odd=true then -S.last else S.last:Int):Rat))∨(S.piv.length < n∧F.det=0)):=by
 obtain ⟨p,M,R,B,d,F,S,e1,e2,h⟩:=QG hm hr hb n (Ah _)
 refine ⟨F,S,e1,e2,h.lead,h.st.km,by rw [h.last]; exact h.st.dN hm, ?_⟩
 rcases h.det with ⟨a,b⟩ | a
 ·refine .inl ⟨a, ?_⟩
  rw [b,h.last]
  split
  ·rw [LJ]
  ·rfl
 ·exact .inr a
end Go.Proofs.YtcglmebcfeoedaaGreatDoor
