/- Contracts and laws: VCP. -/
import Derived.Test.YtcglmebcfeoedaaGreatDoorVPM
import Derived.Test.YtcglmebcfeoedaaGreatDoorVSA
import Derived.Test.YtcglmebcfeoedaaGreatDoorVK
import Derived.Test.YtcglmebcfeoedaaGreatDoorVSB
import Derived.Test.YtcglmebcfeoedaaGreatDoorVUG0
import Derived.Test.YtcglmebcfeoedaaGreatDoorVL

set_option maxHeartbeats 2000000
namespace Go.Proofs.YtcglmebcfeoedaaGreatDoor
open Go.RowKit Go.Lib
theorem Sr {n K:Nat} {g:List (List Int)} (hn:2≤n) (hr:Ce n g) (hl:g.length=2) (hK:1≤K) (hK2:K≤1000000000) (hb:∀ i,i < 2→∀ k,(ent g i k).natAbs≤K) (h0:JR 2 (ent g)≠0) :
 ∃ gF,DR (2 * (K * K)+1) n 0 g 0=some (gF,2)∧Ce n gF∧gF.length=2∧Mn 2 (ent g) (ent gF)∧Sq 2 2 (2 * (K * K)) gF:=by
 have hKK:K * K≤1000000000 * 1000000000:=CH hK2 hK2
 have hK1:K≤K * K:=Mu K hK
 have z0:=Sq.zero 2 (2 * (K * K)) g
 obtain ⟨i,-,hi,hne⟩:=Pe (d:=2) (by decide) (c:=0) (by omega) .refl z0 h0
 obtain ⟨g1,k1,-,k3⟩:=UA (t:=0) (c:=0) (T:=0) (K:=K) (F:=2 * (K * K)+1) (P2.of hr hl hK (fun i h=>absurd h (Bs _)) (hb 0 (by omega)) (hb 1 (by omega))) (by
  have:i=0∨i=1:=by omega
  rcases this with rfl | rfl
  ·exact .inl hne
  ·exact .inr hne) (by omega) (by omega) (by omega) (by omega)
 obtain ⟨a1,a2,a3,a4,a5⟩:=Q4 (c:=0) (by omega) (by omega) hr hl .refl z0 k1 (k3 0).1
 obtain ⟨j,j1,j2,jn⟩:=Pe (d:=2) (by decide) (c:=1) (by omega) a3 a4 h0
 obtain rfl:j=1:=by omega
 obtain ⟨g2,q1,-,q3⟩:=UB (t:=1) (c:=1) (T:=2 * (K * K)) (V:=2 * (K * K)) (F:=2 * (K * K)+1) a1 (by omega) jn (by omega) (by omega) (by omega) (fun i h k=>by
  obtain rfl:i=0:=by omega
  exact (k3 k).1) (fun k=>(k3 k).2)
 obtain ⟨b1,b2,b3,b4,b5⟩:=Q4 (c:=1) (by omega) (by omega) a1 a2 a3 a4 q1 (q3 1)
 have e:DR (2 * (K * K)+1) n 0 g 0=DR (2 * (K * K)+1) (n - (1+1)) (1+1) g2 (1+1):=a5.trans b5
 exact ⟨g2,e.trans (Ss (by omega)),b1,b2,b3,b4⟩
section
variable {m g:List (List Int)} {d B:Nat}
theorem M6 {X:Nat} (hg:ER d B m g) (hd:d≤3) (hX:1≤X) (hB:4 * X * B < 10000000000000000000000000000000000000000) {x:List Int} (hl:x.length=d) (hx:∀ y,y ∈ x→y.natAbs≤X) :
 KS m g d x (Db g x)∧(∃ s,H7 g x d=some s∧s.1=Db g x∧∀ y,y ∈ s.2→y.natAbs≤8 * X):=by
 have hx':∀ k:Nat,((x[k]?).getD 0).natAbs≤X:=fun k=>by
  cases e:x[k]? with
  | none=>exact Bm _
  | some y=>exact hx y (Ae e)
 obtain ⟨s,h1,h2,h3,h4⟩:=Rb hg hd hX hB hl hx' d (Ag _)
 have e:Db g x=s.1:=by unfold Db; rw [hg.len,h1]; rfl
 have hsl:=(EM d s h1).1
 have hb:=fun k (hk:k < d)=>OH hg.sq (x:=fun k=>(x[k]?).getD 0) d (Ag _) k hk
 have hs:=Ra (g:=g) (x:=fun k=>(x[k]?).getD 0) d (Ag _)
 rw [e]
 refine ⟨⟨by rw [hsl,hl],fun k hk=>?_,(Tn hg.uni _).2 (hs.congr fun k=>by rw [h2])⟩,s,h1,rfl,h3⟩
 rw [h2]; exact hb k hk
end
def N7 (k:Nat) (g0 g1 e0 e1:Int):List (List Int):=[[k * g0,k * g1],[e0,e1]]
def Om (k:Nat) (s g0 g1:Int):List (List Int):=(List.range k).map fun i=>[(s+(i:Nat)) * g0,(s+(i:Nat)) * g1]
theorem RH (k:Nat) (s g0 g1:Int):(Om k s g0 g1).length=k:=by unfold Om; rw [Am,Bz]
theorem N6 {k i:Nat} (s g0 g1:Int) (hi:i < k):(Om k s g0 g1)[i]?=some [(s+(i:Nat)) * g0,(s+(i:Nat)) * g1]:=by
 unfold Om; rw [Ao,Do hi]; rfl
section
variable {k:Nat} {s g0 g1 e0 e1:Int}
theorem UD (hd:g0 * e1 - g1 * e0≠0) {a c0 c1:Int} (h0:a * g0=c0 * (k * g0)+c1 * e0) (h1:a * g1=c0 * (k * g1)+c1 * e1):a=c0 * k:=by
 have h:c1 * (g0 * e1 - g1 * e0)=0:=by grind
 have h9:(a - c0 * k) * (g0 * e1 - g1 * e0)=0:=by grind
 rcases Int.mul_eq_zero.1 h9 with h | h
 ·omega
 ·exact absurd h hd
theorem We (hd:g0 * e1 - g1 * e0≠0) {a:Int} {x:Nat→Int} (h:Gi 2 (ent (N7 k g0 g1 e0 e1)) x) (h0:x 0=a * g0) (h1:x 1=a * g1):∃ c:Int,a=c * k:=by
 obtain ⟨c,hc⟩:=TH h
 have a0:=hc 0
 have a1:=hc 1
 rw [h0] at a0
 rw [h1] at a1
 refine ⟨c 0,UD hd (c1:=c 1) ?_ ?_⟩
 ·rw [a0]; show 0+c 0 * (k * g0)+c 1 * e0=_; omega
 ·rw [a1]; show 0+c 0 * (k * g1)+c 1 * e1=_; omega
theorem RG {c:Int} {i j k:Nat} (hij:i < j) (hj:j < k) (h:(j:Int) - i=c * k):False:=by
 have h1:0 < (j:Int) - i:=by omega
 have h2:(j:Int) - i < k:=by omega
 rw [h] at h1 h2
 by_cases hc:c≤0
 ·have:=QU hc (show (0:Int)≤k by omega)
  omega
 ·have:=AP (show 1≤c by omega) (show (0:Int)≤k by omega)
  omega
theorem UE:JR 2 (ent (N7 k g0 g1 e0 e1))=k * (g0 * e1 - g1 * e0):=by
 show (k * g0) * e1 - (k * g1) * e0=_
 grind
theorem RF:Ce 2 (N7 k g0 g1 e0 e1):=fun r hr=>by
 rcases A1.1 hr with rfl | hr
 ·rfl
 ·rw [Bo] at hr; subst hr; rfl
theorem XI {K:Nat} (h:∀ r,r ∈ N7 k g0 g1 e0 e1→∀ x,x ∈ r→x.natAbs≤K) (i c:Nat):(ent (N7 k g0 g1 e0 e1) i c).natAbs≤K:=by
 unfold ent Bv
 cases e:(N7 k g0 g1 e0 e1)[i]? with
 | none=>exact Bm _
 | some r=>
   rw [Cz]
   cases e2:r[c]? with
   | none=>exact Bm _
   | some y=>exact h r (Ae e) y (Ae e2)
theorem Wh {K:Nat} (hk:1≤k) (hK:1≤K) (hK2:K≤1000000000) (hd:g0 * e1 - g1 * e0≠0) (hb:∀ r,r ∈ N7 k g0 g1 e0 e1→∀ x,x ∈ r→x.natAbs≤K) :
 ∃ F gF,DR F 2 0 (N7 k g0 g1 e0 e1) 0=some (gF,2)∧ER 2 (2 * (K * K)) (N7 k g0 g1 e0 e1) gF:=by
 obtain ⟨gF,h1,h2,h3,h4,h5⟩:=Sr (n:=2) (Ag _) RF rfl hK hK2 (fun i _ c=>XI hb i c) (by rw [UE]; exact FZ (by omega) hd)
 exact ⟨_,gF,h1,h2,h3,h4,h5⟩
variable {B:List (List Int)} {b X:Nat}
theorem XK (hN:∀ r,r ∈ Om k s g0 g1→∀ x,x ∈ r→x.natAbs≤X) {i:Nat} (hi:i < k):∀ x,x ∈ [(s+(i:Nat)) * g0,(s+(i:Nat)) * g1]→x.natAbs≤X:=hN _ (Ae (N6 s g0 g1 hi))
theorem Me (hB:ER 2 b (N7 k g0 g1 e0 e1) B) (hX:1≤X) (hb:4 * X * b < 10000000000000000000000000000000000000000) (hN:∀ r,r ∈ Om k s g0 g1→∀ x,x ∈ r→x.natAbs≤X) {i:Nat} (hi:i < k) :
 KS (N7 k g0 g1 e0 e1) B 2 [(s+(i:Nat)) * g0,(s+(i:Nat)) * g1] (Db B [(s+(i:Nat)) * g0,(s+(i:Nat)) * g1]) :=
 (M6 hB (by decide) hX hb rfl (XK hN hi)).1
theorem Pm (hd:g0 * e1 - g1 * e0≠0) (hB:ER 2 b (N7 k g0 g1 e0 e1) B) (hX:1≤X) (hb:4 * X * b < 10000000000000000000000000000000000000000) (hN:∀ r,r ∈ Om k s g0 g1→∀ x,x ∈ r→x.natAbs≤X) {i j:Nat} (hij:i < j) (hj:j < k) :
 Db B [(s+(i:Nat)) * g0,(s+(i:Nat)) * g1]≠Db B [(s+(j:Nat)) * g0,(s+(j:Nat)) * g1]:=fun e=>by
 have h1:=((Me hB hX hb hN hj).same_iff hB (Me hB hX hb hN (show i < k by omega))).1 e.symm
 obtain ⟨c,hc⟩:=We (a:=(j:Int) - i) hd h1 (by show (s+(j:Nat)) * g0 - (s+(i:Nat)) * g0=_; grind) (by show (s+(j:Nat)) * g1 - (s+(i:Nat)) * g1=_; grind)
 exact RG hij hj hc
theorem Wf (hB:ER 2 b (N7 k g0 g1 e0 e1) B):My B 2=k * ((g0 * e1 - g1 * e0).natAbs:Int):=by
 have h1:=VC (by decide) hB.sq
 have h2:=QZ (by decide) hB.uni
 rw [h1,UE] at h2
 have h3:0 < My B 2:=by
  have p0:=hB.sq.pos 0 (by decide)
  have p1:=hB.sq.pos 1 (by decide)
  show 0 < 1 * ent B 0 0 * ent B 1 1
  rw [Ey]
  exact Int.mul_pos p0 p1
 have h4:∀ D:Int,0≤D→(D.natAbs:Int)=D:=fun D h=>by omega
 have h5:∀ D:Int,D≤0→(D.natAbs:Int)=-D:=fun D h=>by omega
 rcases Int.le_total 0 (g0 * e1 - g1 * e0) with h | h
 ·have:=Cv (show (0:Int)≤k by omega) h
  rw [h4 _ h]; omega
 ·have:=QV (show (0:Int)≤k by omega) h
  rw [h5 _ h,Int.mul_neg]; omega
theorem SJ (hk:1≤k) (hd:g0 * e1 - g1 * e0≠0) (hB:ER 2 b (N7 k g0 g1 e0 e1) B) (hX:1≤X) (hb:4 * X * b < 10000000000000000000000000000000000000000) (hN:∀ r,r ∈ Om k s g0 g1→∀ x,x ∈ r→x.natAbs≤X)
 (hf:∀ x:List Int,x.length=2→Gf B 2 x→x.all Bi=true) :
 ∃ F res,Mk B ((Om k s g0 g1).map fun q=>Dk (Db B q)) 2 F (List.replicate 2 0)=some res∧(res=none ↔ (g0 * e1 - g1 * e0).natAbs=1):=by
 have hp:∀ j,j < 2→0 < Ef B j:=fun j hj=>hB.sq.pos j hj
 have hz:∀ j:Nat,((List.replicate 2 (0:Int))[j]?).getD 0=0:=fun j=>by rw [Cq]; split <;> rfl
 have hz2:Gf B 2 (List.replicate 2 0):=fun j hj=>by rw [hz]; exact ⟨Ez _,hp j hj⟩
 obtain ⟨P,hP⟩:∃ P:List Int→Bool,P=fun x=>((Om k s g0 g1).map fun q=>Dk (Db B q)).any fun y=>y.toList == (Dk x).toList:=⟨_,rfl⟩
 have key:∀ x:List Int,x.length=2→(P x=true ↔ ∃ i,i < k∧Db B [(s+(i:Nat)) * g0,(s+(i:Nat)) * g1]=x):=fun x hl=>by
  rw [hP]
  show (List.any _ _=true) ↔ _
  rw [Vq]
  constructor
  ·rintro ⟨y,hy,he⟩
   obtain ⟨q,hq,rfl⟩:=Bg.1 hy
   obtain ⟨i,hi⟩:=AO hq
   have hik:i < k:=by have:=(Ah.1 hi).1; rw [RH] at this; exact this
   rw [N6 s g0 g1 hik] at hi
   injection hi with hi
   subst hi
   have he:=eq_of_beq he
   rw [CD,CD] at he
   exact ⟨i,hik,Sb (by rw [(Me hB hX hb hN hik).len,hl]) (Il he)⟩
  ·rintro ⟨i,hi,rfl⟩
   exact ⟨_,Bg.2 ⟨_,Ae (N6 s g0 g1 hi),rfl⟩,FH _⟩
 have hsz:=Wf hB
 obtain ⟨res,h1,h2⟩:=RK (p:=P) hp (My B 2 - CJ B (List.replicate 2 0) 2).toNat (List.replicate 2 0) rfl hz2 (by omega)
 refine ⟨_,res,by rw [Pv hp hf _ _ rfl hz2,← hP]; exact h1, ?_⟩
 have hR:∀ i,i < k→(Db B [(s+(i:Nat)) * g0,(s+(i:Nat)) * g1]).length=2∧Gf B 2 (Db B [(s+(i:Nat)) * g0,(s+(i:Nat)) * g1]):=fun i hi=>⟨(Me hB hX hb hN hi).len,(Me hB hX hb hN hi).box⟩
 constructor
 ·rintro rfl
  have hz3:CJ B (List.replicate 2 0) 2=0:=by
   show (0 * Ef B 0+_) * Ef B 1+_=_
   rw [hz,hz]; omega
  have h9:=Uz (M:=k) hp (R:=fun i=>Db B [(s+(i:Nat)) * g0,(s+(i:Nat)) * g1]) hR (fun i j hij hj=>Pm hd hB hX hb hN hij hj) (fun y hy hby=>(key y hy).1 (h2 y hy hby (by rw [hz3]; exact (Gr 2 hby).1)))
  rw [hsz] at h9
  generalize (g0 * e1 - g1 * e0).natAbs=D at h9
  have h8:((k * D:Nat):Int)=((k * 1:Nat):Int):=by rw [AU,Fi]; exact h9.symm
  exact Nat.eq_of_mul_eq_mul_left hk (Int.ofNat.inj h8)
 ·intro hD
  rw [hD] at hsz
  cases res with
  | none=>rfl
  | some y=>
    exfalso
    obtain ⟨y1,y2,y3⟩:=h2
    have hny:∀ i,i < k→Db B [(s+(i:Nat)) * g0,(s+(i:Nat)) * g1]≠y:=fun i hi e=>by
     rw [(key y y1).2 ⟨i,hi,e⟩] at y3; cases y3
    obtain ⟨R,hRd⟩:∃ R:Nat→List Int,R=fun i=>if i < k then Db B [(s+(i:Nat)) * g0,(s+(i:Nat)) * g1] else y:=⟨_,rfl⟩
    have hlo:∀ i,i < k→R i=Db B [(s+(i:Nat)) * g0,(s+(i:Nat)) * g1]:=fun i hi=>by rw [hRd]; exact Aj hi
    have hhi:R k=y:=by rw [hRd]; exact Ai (Cw k)
    have hRR:∀ i,i < k+1→(R i).length=2∧Gf B 2 (R i):=fun i hi=>by
     by_cases h:i < k
     ·rw [hlo i h]; exact hR i h
     ·obtain rfl:i=k:=by omega
      rw [hhi]; exact ⟨y1,y2⟩
    have hne:∀ i j,i < j→j < k+1→R i≠R j:=fun i j hij hj=>by
     rw [hlo i (by omega)]
     by_cases h:j < k
     ·rw [hlo j h]; exact Pm hd hB hX hb hN hij h
     ·obtain rfl:j=k:=by omega
      rw [hhi]; exact hny i hij
    have h3:=Rh (l2:=List.range (My B 2).toNat) (T7 (f:=fun i=>(CJ B (R i) 2).toNat) (M:=k+1) fun i j hij hj e=>by
     have a:=Gr 2 (hRR i (by omega)).2
     have c:=Gr 2 (hRR j hj).2
     have e:(CJ B (R i) 2).toNat=(CJ B (R j) 2).toNat:=e
     exact hne i j hij hj (NL (hRR i (by omega)).1 (hRR j hj).1 (HV 2 (hRR i (by omega)).2 (hRR j hj).2 (by omega)))) fun a ha=>by
     obtain ⟨i,hi,rfl⟩:=Bg.1 ha
     have:=Gr 2 (hRR i (AZ.1 hi)).2
     exact AZ.2 (by show (CJ B (R i) 2).toNat < _; omega)
    rw [Am,Bz,Bz] at h3
    omega
end
theorem PO {A B:Nat} {q:Rat} (h:Bd A B q) (h1:A≤10000000000000000000000000000000000000000) (h2:B≤10000000000000000000000000000000000000000):Tq q:=h.tqG (BI h1 (by decide +kernel)) (BI h2 (by decide +kernel))
theorem YI {x:Int} (h:x.natAbs≤10000000000000000000000000000000000000000):Tz x:=Zi (BI h (by decide +kernel))
theorem YK {l:List (Int×Int)} {x:Int×Int} {g:List (List Rat)} {dt:Rat} {cc:Nat} (hl:l[cc]?=some x) (hb:∀ t,t ∈ l→t.1.natAbs≤1000000000∧t.2.natAbs≤1000000000) (ha:x.1≠0) (hd:Tq dt)
 (hlen:g.length=2) (hat:FF g cc 0≠2) (hS:Cn g 0 (FF g cc 0)=gG 2 (fun i t=>((if i=0 then t.1 else t.2:Int):Rat)) l) :
 H4 cc ⟨g,[],dt⟩=some ⟨gG 2 (fun i t=>((if i=0 then t.1 else x.1 * t.2 - x.2 * t.1:Int):Rat) / (x.1:Rat)) l,[cc],EW dt 0 (FF g cc 0) * (x.1:Rat)⟩:=by
 have lt2:∀ {i:Nat},i < 2→i=0∨i=1:=fun h=>by omega
 have hqa:(x.1:Rat)≠0:=fun e=>ha (DT.1 (by rw [e]; rfl))
 obtain ⟨xa,xb⟩:=hb _ (Ae hl)
 exact Q3 (χ:=fun i t=>((if i=0 then t.1 else x.1 * t.2 - x.2 * t.1:Int):Rat) / (x.1:Rat)) (c:=cc) (lead:=[]) (det:=dt) hlen (by decide) hat hS hl hd
  (PO (Bd.int _ xa) (by decide) (by decide)) (fun t ht=>PO (Bd.int _ (hb t ht).1) (by decide) (by decide)) (fun t _=>rfl)
  (fun i hi hik t _=>by
   rcases lt2 hi with rfl | rfl
   ·exact absurd rfl hik
   ·show ((x.1 * t.2 - x.2 * t.1:Int):Rat) / (x.1:Rat)=(t.2:Rat) - (x.2:Rat) * ((t.1:Rat) / (x.1:Rat))
    rw [Rat.intCast_sub,Di,Di]; grind)
  (fun i hi hik t ht=>by
   rcases lt2 hi with rfl | rfl
   ·exact absurd rfl hik
   ·have k1:Bd 1000000000 1 (x.2:Rat):=Bd.int _ xb
    have k2:Bd 1000000000 1000000000 ((t.1:Rat) / (x.1:Rat)):=Bd.of ha (hb t ht).1 xa
    exact Ow (PO k1 (by decide) (by decide)) (PO k2 (by decide) (by decide)) (PO (k1.mul k2) (by decide) (by decide)) (PO (Bd.int _ (hb t ht).2) (by decide) (by decide)))
theorem YG {l:List (Int×Int)} {x:Int×Int} {z:List (List Int)} {od:Bool} {cc:Nat} (hl:l[cc]?=some x) (hlz:z.length=2) (haz:FE z cc 0≠2) (hSz:Ej z 0 (FE z cc 0)=gG 2 (fun i t=>if i=0 then t.1 else t.2) l) (hti:PY z=true) :
 ∃ o,Gu cc ⟨z,[],1,od⟩=some ⟨gG 2 (fun i t=>if i=0 then t.1 else x.1 * t.2 - x.2 * t.1) l,[cc],x.1,o⟩:=by
 obtain ⟨o,ho⟩:=Q2 (χ:=fun i t=>if i=0 then t.1 else x.1 * t.2 - x.2 * t.1) (c:=cc) (piv:=[]) (L:=1) (odd:=od) hlz (by decide) haz hSz hl hti (YI (by decide)) (by decide)
  (fun t _=>rfl) (fun i hi hik t _=>by
   have:i=1:=by
    have:i≠0:=hik
    omega
   subst this
   exact (Rt (by decide) (by show x.1 * t.2 - x.2 * t.1=1 * _; rw [Ey]; rfl)).symm)
 exact ⟨o,ho⟩
theorem Kc {c n:Nat} {s:EZ} (hl:s.m.length=n) (hp:s.piv.length < n) (h:FE s.m c s.piv.length=n):Gu c s=some s:=by
 unfold Gu
 rw [Aj (by omega),Aj (by omega)]
theorem Kd {c n:Nat} {s:RS} (hl:s.g.length=n) (h:FF s.g c s.lead.length=n):H4 c s=some ⟨s.g,s.lead,0⟩:=by
 unfold H4
 rw [Aj (by omega)]
theorem Yt {l:List (Int×Int)} {x y:Int×Int} (hl:l[0]?=some x) (hl1:l[1]?=some y) (hb:∀ t,t ∈ l→t.1.natAbs≤1000000000∧t.2.natAbs≤1000000000) (hD:x.1 * y.2 - y.1 * x.2≠0) :
 ∃ (co:Nat→Int×Int) (D:Int) (dt:Rat),Cg (gG 2 (fun i t=>((if i=0 then t.1 else t.2:Int):Rat)) l) 2=some ⟨gG 2 (fun i t=>(((co i).1 * t.1+(co i).2 * t.2:Int):Rat) / (D:Rat)) l,[0,1],dt⟩ ∧
   D≠0∧D.natAbs≤2000000000000000000∧(∀ i,(co i).1.natAbs≤1000000000∧(co i).2.natAbs≤1000000000)∧∀ i c t,i < 2→c < 2→[x,y][c]?=some t→(co i).1 * t.1+(co i).2 * t.2=if i=c then D else 0:=by
 have lt2:∀ {i:Nat},i < 2→i=0∨i=1:=fun h=>by omega
 have nz:∀ {a:Int},a≠0→(a:Rat)≠0:=fun ha e=>ha (DT.1 (by rw [e]; rfl))
 have core:∀ {l:List (Int×Int)} {x y:Int×Int} {g:List (List Rat)},l[0]?=some x→l[1]?=some y→(∀ t,t ∈ l→t.1.natAbs≤1000000000∧t.2.natAbs≤1000000000)→x.1 * y.2 - y.1 * x.2≠0→x.1≠0 →
  g.length=2→FF g 0 0≠2→Cn g 0 (FF g 0 0)=gG 2 (fun i t=>((if i=0 then t.1 else t.2:Int):Rat)) l →
  ∃ dt,Cg g 2=some ⟨gG 2 (fun i t=>((if i=0 then y.2 * t.1 - y.1 * t.2 else x.1 * t.2 - x.2 * t.1:Int):Rat) / ((x.1 * y.2 - y.1 * x.2:Int):Rat)) l,[0,1],dt⟩:=by
  intro l x y g hl hl1 hb hD ha hlen hat hS
  obtain ⟨xa,xb⟩:=hb _ (Ae hl)
  obtain ⟨ya,yb⟩:=hb _ (Ae hl1)
  have hqa:=nz ha
  have hqD:=nz hD
  have hcm:x.1 * y.2 - x.2 * y.1=x.1 * y.2 - y.1 * x.2:=by rw [CW x.2]
  have hDb:(x.1 * y.2 - y.1 * x.2).natAbs≤2000000000000000000:=IK (Dq xa yb) (Dq ya xb)
  have bx:∀ t,t ∈ l→(x.1 * t.2 - x.2 * t.1).natAbs≤2000000000000000000:=fun t ht=>IK (Dq xa (hb t ht).2) (Dq xb (hb t ht).1)
  have hq:=YK hl hb ha (PO Bd.one (by decide) (by decide)) hlen hat hS
  have hdt:EW 1 0 (FF g 0 0) * (x.1:Rat)=(x.1:Rat)∨EW 1 0 (FF g 0 0) * (x.1:Rat)=-(x.1:Rat):=by
   rcases T6 1 0 (FF g 0 0) with e | e
   ·exact .inl (by rw [e,Rat.one_mul])
   ·exact .inr (by rw [e,Rat.neg_mul,Rat.one_mul])
  obtain ⟨dt,hdt9⟩:∃ dt,dt=EW 1 0 (FF g 0 0) * (x.1:Rat):=⟨_,rfl⟩
  rw [← hdt9] at hdt
  rw [← hdt9] at hq
  have e1:FF (gG 2 (fun i t=>((if i=0 then t.1 else x.1 * t.2 - x.2 * t.1:Int):Rat) / (x.1:Rat)) l) 1 1=1:=Mh hl1 (by decide) (by decide) (fun i _ hi=>by omega) (by
   show ((x.1 * y.2 - x.2 * y.1:Int):Rat) / (x.1:Rat)≠0
   rw [hcm]; exact fun e=>hqD (by grind))
  have k1:∀ i t,t ∈ l→Bd 2000000000000000000 1000000000 (((if i=0 then t.1 else x.1 * t.2 - x.2 * t.1:Int):Rat) / (x.1:Rat)):=fun i t ht=>Bd.of ha (by
   split
   ·exact Im (hb t ht).1 (by decide)
   ·exact bx t ht) xa
  have tdt:Tq dt:=by
   have h9:=PO (Bd.int _ xa) (by decide) (by decide)
   rcases hdt with e | e
   ·rw [e]; exact h9
   ·rw [e]; exact h9.neg
  have hq':=Q3 (φ:=fun i t=>((if i=0 then t.1 else x.1 * t.2 - x.2 * t.1:Int):Rat) / (x.1:Rat)) (χ:=fun i t=>((if i=0 then y.2 * t.1 - y.1 * t.2 else x.1 * t.2 - x.2 * t.1:Int):Rat) / ((x.1 * y.2 - y.1 * x.2:Int):Rat)) (g:=gG 2 (fun i t=>((if i=0 then t.1 else x.1 * t.2 - x.2 * t.1:Int):Rat) / (x.1:Rat)) l) (c:=1) (lead:=[0]) (det:=dt) (EB _ _ _) (by decide) (by show FF _ 1 1≠2; rw [e1]; decide) (by show Cn _ 1 (FF _ 1 1)=_; rw [e1]; rfl) hl1 tdt
   (PO (k1 1 _ (Ae hl1)) (by decide) (by decide)) (fun t ht=>PO (k1 1 t ht) (by decide) (by decide)) (fun t _=>by
    show ((x.1 * t.2 - x.2 * t.1:Int):Rat) / ((x.1 * y.2 - y.1 * x.2:Int):Rat)=((x.1 * t.2 - x.2 * t.1:Int):Rat) / (x.1:Rat) / (((x.1 * y.2 - x.2 * y.1:Int):Rat) / (x.1:Rat))
    rw [hcm]; exact Xo hqD hqa _)
   (fun i hi hik t _=>by
    rcases lt2 hi with rfl | rfl
    ·show ((y.2 * t.1 - y.1 * t.2:Int):Rat) / ((x.1 * y.2 - y.1 * x.2:Int):Rat)=(t.1:Rat) / (x.1:Rat) - (y.1:Rat) / (x.1:Rat) * (((x.1 * t.2 - x.2 * t.1:Int):Rat) / ((x.1 * y.2 - y.1 * x.2:Int):Rat))
     refine Yf hqD hqa ?_
     simp only [Rat.intCast_sub,Di]; grind
    ·exact absurd rfl hik)
   (fun i hi hik t ht=>by
    have k2:Bd 2000000000000000000 2000000000000000000 (((x.1 * t.2 - x.2 * t.1:Int):Rat) / ((x.1 * y.2 - y.1 * x.2:Int):Rat)):=Bd.of hD (bx t ht) hDb
    exact Ow (PO (k1 i _ (Ae hl1)) (by decide) (by decide)) (PO k2 (by decide) (by decide)) (PO ((k1 i _ (Ae hl1)).mul k2) (by decide) (by decide)) (PO (k1 i t ht) (by decide) (by decide)))
  exact ⟨_,by rw [Cg,Cg,Cg,AY,hq,AY]; exact hq'⟩
 obtain ⟨xa,xb⟩:=hb _ (Ae hl)
 obtain ⟨ya,yb⟩:=hb _ (Ae hl1)
 by_cases h0:x.1=0
 ·have h1:x.2≠0:=fun h1=>hD (by rw [h0,h1]; omega)
  have e1:FF (gG 2 (fun i t=>((if i=0 then t.1 else t.2:Int):Rat)) l) 0 0=1:=Mh hl (by decide) (by decide) (fun i _ hi=>by rw [show i=0 by omega]; show (x.1:Rat)=0; rw [h0]; rfl) (nz h1)
  obtain ⟨dt,hF⟩:=core (l:=l.map Prod.swap) (x:=x.swap) (y:=y.swap) (g:=gG 2 (fun i t=>((if i=0 then t.1 else t.2:Int):Rat)) l) (by rw [Ao,hl]; rfl) (by rw [Ao,hl1]; rfl)
   (fun t ht=>by obtain ⟨u,hu,rfl⟩:=Bg.1 ht; exact ⟨(hb u hu).2,(hb u hu).1⟩) (fun e=>hD (by have e:x.2 * y.1 - y.2 * x.1=0:=e; rw [CW y.1,CW x.1]; omega)) h1 (EB _ _ _) (by rw [e1]; decide)
   (by rw [e1]; unfold Cn; rw [Ai (by decide)]; exact XC (by decide) (by decide) (by funext t; rfl) (by funext t; rfl) (fun k hk _ _=>by omega))
  refine ⟨fun i=>if i=0 then (-y.2,y.1) else (x.2,-x.1),x.2 * y.1 - y.2 * x.1,dt, ?_,fun e=>hD (by rw [CW y.1,CW x.1]; omega),IK (Dq xb ya) (Dq yb xa),fun i=>?_,fun i c t hi hc ht=>?_⟩
  ·rw [hF,Ro]
   refine congrArg some (congrArg (fun g=>RS.mk g [0,1] dt) (G2 fun i hi t _=>?_))
   rcases lt2 hi with rfl | rfl
   ·exact congrArg (fun v:Int=>(v:Rat) / ((x.2 * y.1 - y.2 * x.1:Int):Rat)) (show y.1 * t.2 - y.2 * t.1=-y.2 * t.1+y.1 * t.2 by grind)
   ·exact congrArg (fun v:Int=>(v:Rat) / ((x.2 * y.1 - y.2 * x.1:Int):Rat)) (show x.2 * t.1 - x.1 * t.2=x.2 * t.1+-x.1 * t.2 by grind)
  ·show Int.natAbs (if i=0 then (-y.2,y.1) else (x.2,-x.1)).1≤1000000000∧Int.natAbs (if i=0 then (-y.2,y.1) else (x.2,-x.1)).2≤1000000000
   split
   ·exact ⟨by show Int.natAbs (-y.2)≤1000000000; omega,ya⟩
   ·exact ⟨xb,by show Int.natAbs (-x.1)≤1000000000; omega⟩
  ·rcases lt2 hi with rfl | rfl <;> rcases lt2 hc with rfl | rfl <;> injection ht with ht <;> subst ht <;> simp <;> grind
 ·have e1:FF (gG 2 (fun i t=>((if i=0 then t.1 else t.2:Int):Rat)) l) 0 0=0:=Mh hl (by decide) (by decide) (fun i _ hi=>by omega) (nz h0)
  obtain ⟨dt,hF⟩:=core (g:=gG 2 (fun i t=>((if i=0 then t.1 else t.2:Int):Rat)) l) hl hl1 hb hD h0 (EB _ _ _) (by rw [e1]; decide) (by rw [e1]; rfl)
  refine ⟨fun i=>if i=0 then (y.2,-y.1) else (-x.2,x.1),x.1 * y.2 - y.1 * x.2,dt, ?_,hD,IK (Dq xa yb) (Dq ya xb),fun i=>?_,fun i c t hi hc ht=>?_⟩
  ·rw [hF]
   refine congrArg some (congrArg (fun g=>RS.mk g [0,1] dt) (G2 fun i hi t _=>?_))
   rcases lt2 hi with rfl | rfl
   ·exact congrArg (fun v:Int=>(v:Rat) / ((x.1 * y.2 - y.1 * x.2:Int):Rat)) (show y.2 * t.1 - y.1 * t.2=y.2 * t.1+-y.1 * t.2 by grind)
   ·exact congrArg (fun v:Int=>(v:Rat) / ((x.1 * y.2 - y.1 * x.2:Int):Rat)) (show x.1 * t.2 - x.2 * t.1=-x.2 * t.1+x.1 * t.2 by grind)
  ·show Int.natAbs (if i=0 then (y.2,-y.1) else (-x.2,x.1)).1≤1000000000∧Int.natAbs (if i=0 then (y.2,-y.1) else (-x.2,x.1)).2≤1000000000
   split
   ·exact ⟨yb,by show Int.natAbs (-y.1)≤1000000000; omega⟩
   ·exact ⟨by show Int.natAbs (-x.2)≤1000000000; omega,xa⟩
  ·rcases lt2 hi with rfl | rfl <;> rcases lt2 hc with rfl | rfl <;> injection ht with ht <;> subst ht <;> simp <;> grind
structure Oe (a b d e:Int) (p q u v D:Int):Prop where
 d0:D≠0
 dB:D.natAbs≤2000000000000000000
 bp:p.natAbs≤1000000000∧q.natAbs≤1000000000∧u.natAbs≤1000000000∧v.natAbs≤1000000000
 e00:p * a+q * d=D
 e01:p * b+q * e=0
 e10:u * a+v * d=0
 e11:u * b+v * e=D
theorem YV {a b d e:Int} (ka:a.natAbs≤1000000000) (kb:b.natAbs≤1000000000) (kd:d.natAbs≤1000000000) (ke:e.natAbs≤1000000000) (hd:a * e - b * d≠0) :
 ∃ p q u v D F,Cg (HD [[a,b],[d,e]]) 2=some F∧F.lead.length=2∧F.g.map (List.drop 2)=N2 [[p,q],[u,v]] D∧Oe a b d e p q u v D:=by
 obtain ⟨co,D,dt,hF,h0,hB,hc,hid⟩:=Yt (l:=[(a,d),(b,e),(1,0),(0,1)]) (x:=(a,d)) (y:=(b,e)) rfl rfl (fun t ht=>by
  simp only [A1,BB,DF] at ht
  rcases ht with rfl | rfl | rfl | rfl
  ·exact ⟨ka,kd⟩
  ·exact ⟨kb,ke⟩
  ·exact ⟨by decide,by decide⟩
  ·exact ⟨by decide,by decide⟩) hd
 have d1:∀ i,(co i).1 * 1+(co i).2 * 0=(co i).1:=fun i=>by omega
 have d2:∀ i,(co i).1 * 0+(co i).2 * 1=(co i).2:=fun i=>by omega
 refine ⟨(co 0).1,(co 0).2,(co 1).1,(co 1).2,D,_,hF,rfl, ?_,h0,hB,⟨(hc 0).1,(hc 0).2,(hc 1).1,(hc 1).2⟩,hid 0 0 _ (by decide) (by decide) rfl,hid 0 1 _ (by decide) (by decide) rfl,hid 1 0 _ (by decide) (by decide) rfl,hid 1 1 _ (by decide) (by decide) rfl⟩
 show [[(((co 0).1 * 1+(co 0).2 * 0:Int):Rat) / (D:Rat),(((co 0).1 * 0+(co 0).2 * 1:Int):Rat) / (D:Rat)],[(((co 1).1 * 1+(co 1).2 * 0:Int):Rat) / (D:Rat),(((co 1).1 * 0+(co 1).2 * 1:Int):Rat) / (D:Rat)]]=_
 rw [d1,d2,d1,d2]; rfl
theorem Yn {x D:Int} (hD:D≠0) (h:((x:Rat) / (D:Rat)).den=1):∃ c:Int,x=D * c:=by
 have hq:(D:Rat)≠0:=fun e=>hD (DT.1 (by rw [e]; rfl))
 obtain ⟨q,hqe⟩:∃ q,q=(x:Rat) / (D:Rat):=⟨_,rfl⟩
 rw [← hqe] at h
 have h1:q=(q.num:Rat):=Rat.ext (by rw [Iu]) (by rw [Iv,h])
 have h2:(x:Rat)=((D * q.num:Int):Rat):=by rw [Di,← h1,hqe]; grind
 exact ⟨q.num,DT.1 h2⟩
section
variable {a b d e p q u v D:Int}
theorem Oe.s0 (h:Oe a b d e p q u v D) (x y:Int):E3 (N2 [[p,q],[u,v]] D) [x,y] 0 2=((x * p+y * u:Int):Rat) / (D:Rat):=by
 have hD:(D:Rat)≠0:=fun e=>h.d0 (DT.1 (by rw [e]; rfl))
 show (0:Rat)+(x:Rat) * ((p:Rat) / (D:Rat))+(y:Rat) * ((u:Rat) / (D:Rat))=_
 rw [Rat.intCast_add,Di,Di]; grind
theorem Oe.s1 (h:Oe a b d e p q u v D) (x y:Int):E3 (N2 [[p,q],[u,v]] D) [x,y] 1 2=((x * q+y * v:Int):Rat) / (D:Rat):=by
 have hD:(D:Rat)≠0:=fun e=>h.d0 (DT.1 (by rw [e]; rfl))
 show (0:Rat)+(x:Rat) * ((q:Rat) / (D:Rat))+(y:Rat) * ((v:Rat) / (D:Rat))=_
 rw [Rat.intCast_add,Di,Di]; grind
theorem Oe.none (h:Oe a b d e p q u v D) (x y:Int) (hno:∀ c0 c1:Int,x=c0 * a+c1 * d→y=c0 * b+c1 * e→False):E4 (N2 [[p,q],[u,v]] D) [x,y] 2=none:=by
 by_cases h0:(E3 (N2 [[p,q],[u,v]] D) [x,y] 0 2).den=1
 ·by_cases h1:(E3 (N2 [[p,q],[u,v]] D) [x,y] 1 2).den=1
  ·exfalso
   rw [h.s0] at h0
   rw [h.s1] at h1
   obtain ⟨c0,k0⟩:=Yn h.d0 h0
   obtain ⟨c1,k1⟩:=Yn h.d0 h1
   have e00:=h.e00
   have e01:=h.e01
   have e10:=h.e10
   have e11:=h.e11
   refine hno c0 c1 (Yc h.d0 ?_) (Yc h.d0 ?_)
   ·have:D * (c0 * a+c1 * d)=(x * p+y * u) * a+(x * q+y * v) * d:=by rw [k0,k1]; grind
    rw [this]
    have:(x * p+y * u) * a+(x * q+y * v) * d=x * (p * a+q * d)+y * (u * a+v * d):=by grind
    rw [this,e00,e10]; grind
   ·have:D * (c0 * b+c1 * e)=(x * p+y * u) * b+(x * q+y * v) * e:=by rw [k0,k1]; grind
    rw [this]
    have:(x * p+y * u) * b+(x * q+y * v) * e=x * (p * b+q * e)+y * (u * b+v * e):=by grind
    rw [this,e01,e11]; grind
  ·exact H5 (by decide) h1
 ·exact H5 (by decide) h0
theorem Xd {x D:Int} (hD:D≠0) (hx:x.natAbs≤10000000000000000000000) (hB:D.natAbs≤2000000000000000000):Tq ((x:Rat) / (D:Rat)):=by
 obtain ⟨h1,h2⟩:=V6 (x:=x) hD
 exact Tq.lit (by omega) (by omega)
theorem Oe.ok (h:Oe a b d e p q u v D) {x y:Int} (hx:x.natAbs≤2000000000) (hy:y.natAbs≤2000000000):Lt (N2 [[p,q],[u,v]] D) [x,y] 2=true:=by
 obtain ⟨bp,bq,bu,bv⟩:=h.bp
 have hD:(D:Rat)≠0:=fun e=>h.d0 (DT.1 (by rw [e]; rfl))
 have tz:∀ {z:Int},z.natAbs≤2000000000→Tq (z:Rat):=fun {z} hz=>Tq.lit (by rw [Iu]; omega) (by rw [Iv]; decide)
 have td:∀ {z:Int},z.natAbs≤10000000000000000000000→Tq ((z:Rat) / (D:Rat)):=fun hz=>Xd h.d0 hz h.dB
 have pr:∀ {z c:Int},z.natAbs≤2000000000→c.natAbs≤1000000000→Tq ((z:Rat) * ((c:Rat) / (D:Rat))):=fun {z c} hz hc=>by
  have e:(z:Rat) * ((c:Rat) / (D:Rat))=((z * c:Int):Rat) / (D:Rat):=by rw [Di]; grind
  rw [e]; exact td (by have:=Dq hz hc; omega)
 have s1:∀ {z c:Int},z.natAbs≤2000000000→c.natAbs≤1000000000→Tq (0+(z:Rat) * ((c:Rat) / (D:Rat))):=fun hz hc=>by rw [Rat.zero_add]; exact pr hz hc
 have t0:Tq 0:=Tq.lit (by decide) (by decide)
 refine As.2 fun c hc=>As.2 fun k hk=>Ac ?_
 have hc:=AZ.1 hc
 have hk:=AZ.1 hk
 have lt2:∀ {i:Nat},i < 2→i=0∨i=1:=fun h=>by omega
 rcases lt2 hc with rfl | rfl <;> rcases lt2 hk with rfl | rfl
 ·exact ⟨⟨tz hx,td (by show p.natAbs≤_; omega)⟩,t0,pr hx bp⟩
 ·exact ⟨⟨tz hy,td (by show u.natAbs≤_; omega)⟩,s1 hx bp,pr hy bu⟩
 ·exact ⟨⟨tz hx,td (by show q.natAbs≤_; omega)⟩,t0,pr hx bq⟩
 ·exact ⟨⟨tz hy,td (by show v.natAbs≤_; omega)⟩,s1 hx bq,pr hy bv⟩
end
theorem TA {α:Type} {n:Nat} {φ:Nat→α→Int} {l:List α} (h:∀ i,i < n→∀ t,t ∈ l→(φ i t).natAbs≤10000000000000000000000000000000000000000):PY (gG n φ l)=true:=by
 refine As.2 fun r hr=>As.2 fun x hx=>Ac ?_
 obtain ⟨i,hi,rfl⟩:=Bg.1 hr
 obtain ⟨t,ht,rfl⟩:=Bg.1 hx
 exact YI (h i (AZ.1 hi) t ht)
theorem Za {a b c d:Int} (ka:a.natAbs≤1000000000) (kb:b.natAbs≤1000000000) (kc:c.natAbs≤1000000000) (kd:d.natAbs≤1000000000) (hD:a * d - b * c≠0) :
 ∃ S,G5 [[a,b],[c,d]] 2=some S∧S.piv.length=2∧S.last.natAbs=(a * d - b * c).natAbs:=by
 have lt2:∀ {i:Nat},i < 2→i=0∨i=1:=fun h=>by omega
 have core:∀ {l:List (Int×Int)} {x y:Int×Int} {z:List (List Int)},l[0]?=some x→l[1]?=some y→(∀ t,t ∈ l→t.1.natAbs≤1000000000∧t.2.natAbs≤1000000000)→x.1 * y.2 - x.2 * y.1≠0→x.1≠0 →
  z.length=2→FE z 0 0≠2→Ej z 0 (FE z 0 0)=gG 2 (fun i t=>if i=0 then t.1 else t.2) l→PY z=true →
  ∃ S,G5 z 2=some S∧S.piv.length=2∧S.last=x.1 * y.2 - x.2 * y.1:=by
  intro l x y z hl hl1 hb hD ha hlz haz hSz hti
  obtain ⟨xa,xb⟩:=hb _ (Ae hl)
  have bx:∀ t,t ∈ l→(x.1 * t.2 - x.2 * t.1).natAbs≤2000000000000000000:=fun t ht=>IK (Dq xa (hb t ht).2) (Dq xb (hb t ht).1)
  obtain ⟨o,ho⟩:=YG (od:=false) hl hlz haz hSz hti
  have e2:FE (gG 2 (fun i t=>if i=0 then t.1 else x.1 * t.2 - x.2 * t.1) l) 1 1=1:=Mg hl1 (by decide) (by decide) (fun i _ hi=>by omega) (by show x.1 * y.2 - x.2 * y.1≠0; exact hD)
  obtain ⟨o',ho'⟩:=Q2 (φ:=fun i t=>if i=0 then t.1 else x.1 * t.2 - x.2 * t.1) (χ:=fun i t=>if i=0 then y.2 * t.1 - y.1 * t.2 else x.1 * t.2 - x.2 * t.1) (g:=gG 2 (fun i t=>if i=0 then t.1 else x.1 * t.2 - x.2 * t.1) l) (c:=1) (piv:=[0]) (L:=x.1) (odd:=o) (EB _ _ _) (by decide) (by show FE _ 1 1≠2; rw [e2]; decide) (by show Ej _ 1 (FE _ 1 1)=_; rw [e2]; rfl) hl1
   (TA fun i _ t ht=>by
    show Int.natAbs (if i=0 then t.1 else x.1 * t.2 - x.2 * t.1)≤_
    split
    ·exact Im (hb t ht).1 (by decide)
    ·exact Im (bx t ht) (by decide)) (YI (AE xa (by decide))) ha
   (fun t _=>rfl) (fun i hi hik t _=>by
    rcases lt2 hi with rfl | rfl
    ·exact (Rt ha (by show (x.1 * y.2 - x.2 * y.1) * t.1 - y.1 * (x.1 * t.2 - x.2 * t.1)=x.1 * (y.2 * t.1 - y.1 * t.2); grind)).symm
    ·exact absurd rfl hik)
  exact ⟨_,by rw [G5,G5,G5,AY,ho,AY]; exact ho',rfl,rfl⟩
 have hm:[[a,b],[c,d]]=gG 2 (fun i (t:Int×Int)=>if i=0 then t.1 else t.2) [(a,c),(b,d)]:=rfl
 have hb:∀ t,t ∈ [(a,c),(b,d)]→t.1.natAbs≤1000000000∧t.2.natAbs≤1000000000:=fun t ht=>by
  simp only [A1,BB,DF] at ht
  rcases ht with rfl | rfl
  ·exact ⟨ka,kc⟩
  ·exact ⟨kb,kd⟩
 have hti:PY [[a,b],[c,d]]=true:=by
  rw [hm]
  exact TA fun i _ t ht=>by
   show Int.natAbs (if i=0 then t.1 else t.2)≤_
   split
   ·exact Im (hb t ht).1 (by decide)
   ·exact Im (hb t ht).2 (by decide)
 by_cases h0:a=0
 ·have h1:c≠0:=fun h1=>hD (by rw [h0,h1]; omega)
  have e2:FE [[a,b],[c,d]] 0 0=1:=by
   rw [hm]
   exact Mg (t:=(a,c)) rfl (by decide) (by decide) (fun i _ hi=>by rw [show i=0 by omega]; exact h0) h1
  obtain ⟨S,k1,k2,k3⟩:=core (l:=[(c,a),(d,b)]) (x:=(c,a)) (y:=(d,b)) (z:=[[a,b],[c,d]]) rfl rfl (fun t ht=>by
   simp only [A1,BB,DF] at ht
   rcases ht with rfl | rfl
   ·exact ⟨kc,ka⟩
   ·exact ⟨kd,kb⟩) (by show c * b - a * d≠0; rw [CW c]; omega) h1 rfl (by rw [e2]; decide) (by rw [e2]; rfl) hti
  refine ⟨S,k1,k2, ?_⟩
  rw [k3]
  show (c * b - a * d).natAbs=_
  rw [CW c]; omega
 ·have e2:FE [[a,b],[c,d]] 0 0=0:=by
   rw [hm]
   exact Mg (t:=(a,c)) rfl (by decide) (by decide) (fun i _ hi=>by omega) h0
  obtain ⟨S,k1,k2,k3⟩:=core (l:=[(a,c),(b,d)]) (x:=(a,c)) (y:=(b,d)) (z:=[[a,b],[c,d]]) rfl rfl hb (by show a * d - c * b≠0; rw [CW c]; exact hD) h0 rfl (by rw [e2]; decide) (by rw [e2]; rfl) hti
  refine ⟨S,k1,k2, ?_⟩
  rw [k3]
  show (a * d - c * b).natAbs=_
  rw [CW c]
theorem YW {a b c d:Int} (ka:a.natAbs≤1000000000) (kb:b.natAbs≤1000000000) (kc:c.natAbs≤1000000000) (kd:d.natAbs≤1000000000) (hD:a * d - b * c=0) :
 ∃ F S,Cg ([[a,b],[c,d]].map CM) 2=some F∧G5 [[a,b],[c,d]] 2=some S∧F.lead.length=S.piv.length∧S.piv.length≤1:=by
 have hti:PY [[a,b],[c,d]]=true:=by
  refine As.2 fun r hr=>As.2 fun x hx=>Ac (YI (AE (m:=1000000000) ?_ (by decide)))
  simp only [A1,BB,DF] at hr
  rcases hr with rfl | rfl <;> simp only [A1,BB,DF] at hx <;> rcases hx with rfl | rfl <;> assumption
 have t1:Tq 1:=PO Bd.one (by decide) (by decide)
 have t0:Tq 0:=PO (Bd.int (A:=0) 0 (by decide)) (by decide) (by decide)
 have nz:∀ {a:Int},a≠0→(a:Rat)≠0:=fun ha e=>ha (DT.1 (by rw [e]; rfl))
 have hz:([[a,b],[c,d]]:List (List Int))=gG 2 (fun i (t:Int×Int)=>if i=0 then t.1 else t.2) [(a,c),(b,d)]:=rfl
 have hq:[[a,b],[c,d]].map CM=gG 2 (fun i (t:Int×Int)=>((if i=0 then t.1 else t.2:Int):Rat)) [(a,c),(b,d)]:=rfl
 have core:∀ {l:List (Int×Int)} {x y:Int×Int} {g:List (List Rat)} {z:List (List Int)},l[0]?=some x→l[1]?=some y→(∀ t,t ∈ l→t.1.natAbs≤1000000000∧t.2.natAbs≤1000000000)→x.1 * y.2 - x.2 * y.1=0→x.1≠0 →
  g.length=2→FF g 0 0≠2→Cn g 0 (FF g 0 0)=gG 2 (fun i t=>((if i=0 then t.1 else t.2:Int):Rat)) l →
  z.length=2→FE z 0 0≠2→Ej z 0 (FE z 0 0)=gG 2 (fun i t=>if i=0 then t.1 else t.2) l→PY z=true →
  ∃ F S,Cg g 2=some F∧G5 z 2=some S∧F.lead.length=S.piv.length∧S.piv.length≤1:=by
  intro l x y g z hl hl1 hb hD ha hlen hat hS hlz haz hSz hti
  obtain ⟨o,ho⟩:=YG (od:=false) hl hlz haz hSz hti
  have h1:=YK hl hb ha t1 hlen hat hS
  have e1:FF (gG 2 (fun i t=>((if i=0 then t.1 else x.1 * t.2 - x.2 * t.1:Int):Rat) / (x.1:Rat)) l) 1 1=2:=by
   rw [← Mi (by rw [EB]; decide) (by rw [LV (by decide) hl1]; show ((x.1 * y.2 - x.2 * y.1:Int):Rat) / (x.1:Rat)=0; rw [hD]; exact Rat.zero_mul _)]
   rfl
  have e2:FE (gG 2 (fun i t=>if i=0 then t.1 else x.1 * t.2 - x.2 * t.1) l) 1 1=2:=by
   rw [← Pr (by rw [EB]; decide) (by rw [LU (by decide) hl1]; show x.1 * y.2 - x.2 * y.1=0; exact hD)]
   rfl
  have h2:=Kc (c:=1) (n:=2) (s:=⟨gG 2 (fun i t=>if i=0 then t.1 else x.1 * t.2 - x.2 * t.1) l,[0],x.1,o⟩) (EB _ _ _) Nat.one_lt_two e2
  have h3:=Kd (c:=1) (n:=2) (s:=⟨gG 2 (fun i t=>((if i=0 then t.1 else x.1 * t.2 - x.2 * t.1:Int):Rat) / (x.1:Rat)) l,[0],EW 1 0 (FF g 0 0) * (x.1:Rat)⟩) (EB _ _ _) e1
  exact ⟨_,_,by rw [Cg,Cg,Cg,AY,h1,AY]; exact h3,by rw [G5,G5,G5,AY,ho,AY]; exact h2,rfl,Ag _⟩
 have hb:∀ t,t ∈ [(a,c),(b,d)]→t.1.natAbs≤1000000000∧t.2.natAbs≤1000000000:=fun t ht=>by
  simp only [A1,BB,DF] at ht
  rcases ht with rfl | rfl
  ·exact ⟨ka,kc⟩
  ·exact ⟨kb,kd⟩
 have hbs:∀ t,t ∈ [(c,a),(d,b)]→t.1.natAbs≤1000000000∧t.2.natAbs≤1000000000:=fun t ht=>by
  simp only [A1,BB,DF] at ht
  rcases ht with rfl | rfl
  ·exact ⟨kc,ka⟩
  ·exact ⟨kd,kb⟩
 by_cases h0:a=0
 ·by_cases h1:c=0
  ·have e0:FE [[a,b],[c,d]] 0 0=2:=by subst h0; subst h1; rfl
   have f0:FF ([[a,b],[c,d]].map CM) 0 0=2:=by subst h0; subst h1; rfl
   have s0:=Kc (c:=0) (n:=2) (s:=⟨[[a,b],[c,d]],[],1,false⟩) rfl Nat.zero_lt_two e0
   have r0:=Kd (c:=0) (n:=2) (s:=⟨[[a,b],[c,d]].map CM,[],1⟩) rfl f0
   by_cases hb0:b=0
   ·by_cases hd0:d=0
    ·have e1:FE [[a,b],[c,d]] 1 0=2:=by subst hb0; subst hd0; rfl
     have f1:FF ([[a,b],[c,d]].map CM) 1 0=2:=by subst hb0; subst hd0; rfl
     have s1:=Kc (c:=1) (n:=2) (s:=⟨[[a,b],[c,d]],[],1,false⟩) rfl Nat.zero_lt_two e1
     have r1:=Kd (c:=1) (n:=2) (s:=⟨[[a,b],[c,d]].map CM,[],0⟩) rfl f1
     exact ⟨_,_,by rw [Cg,Cg,Cg,AY,r0,AY]; exact r1,by rw [G5,G5,G5,AY,s0,AY]; exact s1,rfl,Bm _⟩
    ·have f1:FF ([[a,b],[c,d]].map CM) 1 0=1:=by
      rw [hq]
      exact Mh (t:=(b,d)) rfl (by decide) (by decide) (fun i _ hi=>by rw [show i=0 by omega]; show (b:Rat)=0; rw [hb0]; rfl) (nz hd0)
     have e1:FE [[a,b],[c,d]] 1 0=1:=by
      rw [hz]
      exact Mg (t:=(b,d)) rfl (by decide) (by decide) (fun i _ hi=>by rw [show i=0 by omega]; exact hb0) hd0
     have r1:=YK (l:=[(c,a),(d,b)]) (x:=(d,b)) (g:=[[a,b],[c,d]].map CM) (cc:=1) rfl hbs hd0 t0 rfl (by rw [f1]; decide) (by rw [f1]; rfl)
     obtain ⟨o,s1⟩:=YG (l:=[(c,a),(d,b)]) (x:=(d,b)) (z:=[[a,b],[c,d]]) (od:=false) (cc:=1) rfl rfl (by rw [e1]; decide) (by rw [e1]; rfl) hti
     exact ⟨_,_,by rw [Cg,Cg,Cg,AY,r0,AY]; exact r1,by rw [G5,G5,G5,AY,s0,AY]; exact s1,rfl,Ag _⟩
   ·have f1:FF ([[a,b],[c,d]].map CM) 1 0=0:=by
     rw [hq]
     exact Mh (t:=(b,d)) rfl (by decide) (by decide) (fun i _ hi=>by omega) (nz hb0)
    have e1:FE [[a,b],[c,d]] 1 0=0:=by
     rw [hz]
     exact Mg (t:=(b,d)) rfl (by decide) (by decide) (fun i _ hi=>by omega) hb0
    have r1:=YK (l:=[(a,c),(b,d)]) (x:=(b,d)) (g:=[[a,b],[c,d]].map CM) (cc:=1) rfl hb hb0 t0 rfl (by rw [f1]; decide) (by rw [f1]; rfl)
    obtain ⟨o,s1⟩:=YG (l:=[(a,c),(b,d)]) (x:=(b,d)) (z:=[[a,b],[c,d]]) (od:=false) (cc:=1) rfl rfl (by rw [e1]; decide) (by rw [e1]; rfl) hti
    exact ⟨_,_,by rw [Cg,Cg,Cg,AY,r0,AY]; exact r1,by rw [G5,G5,G5,AY,s0,AY]; exact s1,rfl,Ag _⟩
  ·have f1:FF ([[a,b],[c,d]].map CM) 0 0=1:=by
    rw [hq]
    exact Mh (t:=(a,c)) rfl (by decide) (by decide) (fun i _ hi=>by rw [show i=0 by omega]; show (a:Rat)=0; rw [h0]; rfl) (nz h1)
   have e2:FE [[a,b],[c,d]] 0 0=1:=by
    rw [hz]
    exact Mg (t:=(a,c)) rfl (by decide) (by decide) (fun i _ hi=>by rw [show i=0 by omega]; exact h0) h1
   exact core (l:=[(c,a),(d,b)]) (x:=(c,a)) (y:=(d,b)) rfl rfl hbs (by show c * b - a * d=0; rw [CW c]; omega) h1 rfl (by rw [f1]; decide) (by rw [f1]; rfl) rfl (by rw [e2]; decide) (by rw [e2]; rfl) hti
 ·have f1:FF ([[a,b],[c,d]].map CM) 0 0=0:=by
   rw [hq]
   exact Mh (t:=(a,c)) rfl (by decide) (by decide) (fun i _ hi=>by omega) (nz h0)
  have e2:FE [[a,b],[c,d]] 0 0=0:=by
   rw [hz]
   exact Mg (t:=(a,c)) rfl (by decide) (by decide) (fun i _ hi=>by omega) h0
  exact core (l:=[(a,c),(b,d)]) (x:=(a,c)) (y:=(b,d)) rfl rfl hb (by show a * d - c * b=0; rw [CW c]; exact hD) h0 rfl (by rw [f1]; decide) (by rw [f1]; rfl) rfl (by rw [e2]; decide) (by rw [e2]; rfl) hti
theorem Zk {a b c d:Int} (ka:a.natAbs≤1000000000) (kb:b.natAbs≤1000000000) (kc:c.natAbs≤1000000000) (kd:d.natAbs≤1000000000):∃ F S,Cg ([[a,b],[c,d]].map CM) 2=some F∧G5 [[a,b],[c,d]] 2=some S∧F.lead.length=S.piv.length∧S.piv.length≤2∧(a * d - b * c=0→S.piv.length≤1):=by
 by_cases hD:a * d - b * c=0
 ·obtain ⟨F,S,h1,h2,h3,h4⟩:=YW ka kb kc kd hD
  exact ⟨F,S,h1,h2,h3,by omega,fun _=>h4⟩
 ·obtain ⟨co,D,dt,hF,-⟩:=Yt (l:=[(a,c),(b,d)]) (x:=(a,c)) (y:=(b,d)) rfl rfl (fun t ht=>by
   simp only [A1,BB,DF] at ht
   rcases ht with rfl | rfl
   ·exact ⟨ka,kc⟩
   ·exact ⟨kb,kd⟩) hD
  obtain ⟨S,k1,k2,-⟩:=Za ka kb kc kd hD
  exact ⟨_,S,hF,k1,k2.symm,by omega,fun h=>absurd h hD⟩
attribute [local go_sem ↓] AA AB
def YB (w:World) (D:Nat) (e:Ending) (w':World):Prop:=∃ (is q:Bool) (a1 a2 a3:Option Addr) (n1 c1 n2 c2 n3 c3:Nat) (i j f:Int),e=.returned (.tuple #[.bool is,.agg #[.bool q,.slice a1 n1 c1,.int .i64 i,.slice a2 n2 c2,.int .i64 j,.slice a3 n3 c3],.int .i64 f])∧Fr w w'∧((f=4∧is=false)∨(f=0∧(is=true ↔ D=1)))
section
variable {N A:List Sy} {k:Nat} {s g0 g1 e0 e1:Int}
theorem Hz {x:Int} (h:Bi x=true):x.natAbs≤1000000000:=by unfold Bi at h; have h:=Av h; omega
theorem QB (hN:N.map Sy.row=Om k s g0 g1) {i:Nat} {x:Sy} (hx:N[i]?=some x):i < k∧x.row=[(s+(i:Nat)) * g0,(s+(i:Nat)) * g1]:=by
 have h1:(N.map Sy.row)[i]?=some x.row:=by rw [Ao,hx]; rfl
 rw [hN] at h1
 have hi:i < k:=by have:=(Ah.1 h1).1; rw [RH] at this; exact this
 rw [N6 s g0 g1 hi] at h1
 injection h1 with h1
 exact ⟨hi,h1.symm⟩
theorem SX (aN aA:Option Addr) (cN cA:Nat) (w:World) (hG:G w) (hn:DS w aN aA cA N A) (lN:N.length=k) (hN:N.map Sy.row=Om k s g0 g1) (hA:A.map Sy.row=N7 k g0 g1 e0 e1) (k1:1≤k) (k60:k≤60) (hd:g0 * e1 - g1 * e0≠0)
 (hfN:∀ r,r ∈ Om k s g0 g1→∀ x,x ∈ r→Bi x=true) (hfA:∀ r,r ∈ N7 k g0 g1 e0 e1→∀ x,x ∈ r→Bi x=true)
 (hck:∀ W,Fr w W→Calls Tryz.prog 25 #[.agg #[.slice aN k cN,.slice aA 2 cA]] W fun e w'=>e=.returned (.int .i64 0)∧Fr W w') :
 Calls Tryz.prog 21 #[.agg #[.slice aN k cN,.slice aA 2 cA]] w (YB w (g0 * e1 - g1 * e0).natAbs):=by
 have lA:A.length=2:=by rw [← Am (f:=Sy.row),hA]; rfl
 have bA:∀ r,r ∈ N7 k g0 g1 e0 e1→∀ x,x ∈ r→x.natAbs≤1000000000:=fun r hr x hx=>Hz (hfA r hr x hx)
 have bN:∀ r,r ∈ Om k s g0 g1→∀ x,x ∈ r→x.natAbs≤1000000000:=fun r hr x hx=>Hz (hfN r hr x hx)
 obtain ⟨F,B,hF,hB⟩:=Wh (K:=1000000000) k1 (by decide) (by decide) hd bA
 have hTA:Ge 2 (A.map Sy.row):=by rw [hA]; exact ⟨by show 2≤12; decide,by decide,RF,hfA⟩
 have hmr:∀ x,x ∈ N→∃ i,N[i]?=some x:=fun x hx=>AO hx
 have hrl:∀ x,x ∈ N→x.row.length=2:=fun x hx=>by obtain ⟨i,hi⟩:=hmr x hx; rw [(QB hN hi).2]; rfl
 have hrm:∀ x,x ∈ N→x.row ∈ Om k s g0 g1:=fun x hx=>by rw [← hN]; exact Bg.2 ⟨x,hx,rfl⟩
 have hBl:B.length=2:=hB.len
 have hBt:B.take 2=B:=Ak (by rw [hBl]; exact Ag _)
 have hB64:∀ r,r ∈ B→∀ x,x ∈ r→-9223372036854775808≤x∧x≤9223372036854775807:=fun r hr x hx=>by
  obtain ⟨i,hi⟩:=AO hr
  obtain ⟨c,hc⟩:=AO hx
  have:=hB.bd i c
  unfold ent Bv at this
  rw [hi,Cz,hc,Cz] at this
  omega
 have hofL:∀ W,Fr w W→∀ a c,BT W a (A.map Sy.row)→Calls Tryz.prog 41 #[.int .i64 2,.slice a 2 c] W (U4 W 2 B):=fun W hW a c hm=>by
  have:=RR (A.map Sy.row) B F 2 a c 2 W (hG.fr hW) hm hTA (by rw [Am,lA]; decide) (by decide) (by rw [hA]; exact hF) (by rw [hBt]; exact hB64)
  rw [Am,lA,hBt] at this
  exact this
 cases hfit:GL B with
 | false=>
   refine (QF aN aA cN cA k 2 A w hG hn.accs lA (by decide) hck fun W hW a c hm=>(hofL W hW a c hm).mono fun _ _ h=>h.2 hfit).mono ?_
   rintro e w' ⟨rfl,hf⟩
   exact ⟨_,_,_,_,_,_,_,_,_,_,_,_,_,_,rfl,hf,.inl ⟨rfl,rfl⟩⟩
 | true=>
   have hfB:∀ q,q ∈ B→∀ x,x ∈ q→Bi x=true:=fun q hq x hx=>As.1 (As.1 hfit q hq) x hx
   have hTB:Ge 2 B:=⟨by rw [hBl]; decide,by decide,hB.rect,hfB⟩
   have hbox:∀ x:List Int,x.length=2→Gf B 2 x→x.all Bi=true:=fun x hl hb=>As.2 fun y hy=>by
    obtain ⟨c,hc⟩:=AO hy
    have hc2:c < 2:=by rw [← hl]; exact (Ah.1 hc).1
    have h1:=hb c hc2
    rw [hc,Cz] at h1
    have hc3:c < (B[c]'(by omega)).length:=by rw [hB.rect.row (by omega)]; exact hc2
    have h2:Bi (Ef B c)=true:=by
     have e:Ef B c=(B[c]'(by omega))[c]:=by unfold Ef; rw [Cb (by omega),Ab hc3]; rfl
     rw [e]; exact hfB _ (A8 _) _ (A8 _)
    have:=Hz h2
    exact Ac ⟨by omega,by omega⟩
   obtain ⟨G9,res,hab,hres⟩:=SJ (X:=1000000000) k1 hd hB (by decide) (by decide) bN hbox
   obtain ⟨p,q,u,v,D,Fq,hq1,hq2,hq3,hI⟩:=YV (a:=k * g0) (b:=k * g1) (d:=e0) (e:=e1) (bA _ Bp _ (by simp)) (bA _ Bp _ (by simp)) (bA [e0,e1] (BX _ Bp) _ (by simp)) (bA [e0,e1] (BX _ Bp) _ (by simp)) (by
    have e:(k:Int) * g0 * e1 - k * g1 * e0=k * (g0 * e1 - g1 * e0):=by grind
    rw [e]; exact FZ (by omega) hd)
   have hrest:=fun (x:Sy) (hx:x ∈ N)=>M6 (X:=1000000000) hB (by decide) (by decide) (by decide) (hrl x hx) (bN _ (hrm x hx))
   have hrf:∀ x,x ∈ N→(Db B x.row).length=2∧∀ z,z ∈ Db B x.row→Bi z=true:=fun x hx=>by
    obtain ⟨h3,-⟩:=hrest x hx
    exact ⟨h3.len,fun z hz=>As.1 (hbox _ h3.len h3.box) z hz⟩
   refine (Mm True N A 2 k B (Db B) (fun W v xs=>∃ g c,v=.slice (some ⟨g,0,none⟩) 2 c∧El W sv (some ⟨g,0,none⟩) xs) (fun _ _=>none) res aN aA cN cA w hG hn lN.symm k1 k60 (by decide) lA hBl hrl
    (fun W' W'' v xs ⟨g,c,e,h⟩ hf=>⟨g,c,e,h.fr hf⟩) hck (fun W hW a c hm=>(hofL W hW a c hm).mono fun _ _ h=>h.1 hfit) ?_ ?_ (fun i j cs _ _ h=>by cases h) ?_ ?_ ?_ ?_ ?_).mono ?_
   ·intro x hx W' hW'
    refine (J0 x.row x.ra x.rc 2 W' (hG.fr hW') ((hn.noms.2 x hx).fr hW') (hrl x hx) (by decide) (by decide) (fun y hy=>hfN _ (hrm x hx) y hy)).mono ?_
    rintro e w' ⟨g,c,rfl,h3,h4⟩
    exact ⟨_,rfl,⟨g,c,rfl,h3⟩,h4⟩
   ·rintro i j x y hx hy hij W' hW' v1 v2 ⟨g,c,rfl,x1⟩ ⟨g2,c2,rfl,x2⟩
    obtain ⟨hi,rx⟩:=QB hN hx
    obtain ⟨hj,ry⟩:=QB hN hy
    have hxm:=Ae hx
    have hym:=Ae hy
    have hinv:∀ a c W2,Fr W' W2→BT W2 a (A.map Sy.row)→Calls Tryz.prog 122 #[.slice a 2 c] W2 (Od W2 (Fq.g.map (List.drop 2))):=fun a c W2 hW2 hm=>by
     have h:=Iq (A.map Sy.row) a c 2 Fq W2 ((hG.fr hW').fr hW2) hm hTA (by decide) (by rw [Am,lA]) (by rw [hA]; exact hq1) hq2
     rw [Am,lA] at h
     exact h
    rw [hq3] at hinv
    have hz:List.zipWith (· - ·) y.row x.row=[(s+(j:Nat)) * g0 - (s+(i:Nat)) * g0,(s+(j:Nat)) * g1 - (s+(i:Nat)) * g1]:=by rw [rx,ry]; rfl
    have bx:=bN _ (hrm x hxm)
    have by':=bN _ (hrm y hym)
    rw [rx] at bx
    rw [ry] at by'
    have b0:=bx _ Bp
    have b1:=bx ((s+(i:Nat)) * g1) (by simp)
    have b2:=by' _ Bp
    have b3:=by' ((s+(j:Nat)) * g1) (by simp)
    have hsm:∀ x,x ∈ N→∀ z,z ∈ x.row→Sm z:=fun x hx z hz=>by have:=bN _ (hrm x hx) z hz; exact ⟨by omega,by omega⟩
    have hno:=hI.none ((s+(j:Nat)) * g0 - (s+(i:Nat)) * g0) ((s+(j:Nat)) * g1 - (s+(i:Nat)) * g1) fun c0 c1 h0 h1=>by
     have:=UD (k:=k) (a:=(j:Int) - i) hd (c0:=c0) (c1:=c1) (by rw [← h0]; grind) (by rw [← h1]; grind)
     exact RG hij hj this
    have h9:=Kx aN aA k cN cA 2 A (N2 [[p,q],[u,v]] D) x.row y.row (some ⟨g,0,none⟩) (some ⟨g2,0,none⟩) c c2 W' (hG.fr hW') (hn.accs.fr hW') lA.symm (by decide) (by decide) hinv (fun r hr=>by
     unfold N2 at hr
     obtain ⟨z,hz,rfl⟩:=Bg.1 hr
     rw [Am]
     simp only [A1,BB,DF] at hz
     rcases hz with rfl | rfl <;> rfl) rfl x1 x2 (hrl x hxm) (hrl y hym) (hsm x hxm) (hsm y hym) (by rw [hz]; exact hI.ok (by omega) (by omega))
    rw [hz,hno] at h9
    exact h9
   ·intro x hx W' hW'
    have hl:=hrl x hx
    rcases ((hn.noms.2 x hx).fr hW') with h9 | ⟨b,o,hra,hb,hc⟩
    ·rw [h9] at hl; exact absurd hl (by decide)
    ·have:=KD b o x.rc x.row W' (by omega) hc
     rw [hl] at this
     rw [hra]
     refine this.mono ?_
     rintro e w' ⟨g,c,rfl,hf,ho⟩
     rw [hl] at ho ⊢
     have h8:=Cr (CS (hG.fr hW')) ho
     exact ⟨_,_,rfl,.inr ⟨g,rfl,h8.2.2.2.1,h8.1.el⟩,hf⟩
   ·intro x hx W' hW' a c hm hc
    obtain ⟨h3,r,h4,h5,h6⟩:=hrest x hx
    have hsl:=EM _ r h4
    have:=KT B x.row r a x.ra c x.rc 2 W' (hG.fr hW') hm hTB (by rw [hBl]; exact hc) hB.ok (by decide) (by rw [hBl]; decide) ((hn.noms.2 x hx).fr hW') (hrl x hx) (fun y hy=>hfN _ (hrm x hx) y hy) (by rw [hBl]; exact h4) (fun z hz=>by rw [h5] at hz; exact (hrf x hx).2 z hz) (fun z hz=>by have:=h6 z hz; omega)
    rw [hBl] at this
    refine this.mono ?_
    intro e w' hl
    cases hr:r.2.all Bi with
    | true=>
      obtain ⟨b,c',b2,c2,rfl,h8,-,h9⟩:=hl.1 hr
      exact .inl ⟨_,_,_,_,by rw [hsl.1,hsl.2,hrl x hx],by rw [← h5]; exact h8,h9⟩
    | false=>exact .inr ⟨trivial,hl.2 hr⟩
   ·intro x hx W' hW' a c he
    exact QL (Db B x.row) a c 2 W' (hG.fr hW') he (hrf x hx).1 (by decide) (by decide) (hrf x hx).2
   ·exact fun x hx=>I8 _ (by rw [(hrf x hx).1]; decide) (by rw [(hrf x hx).1]; decide) (hrf x hx).2
   ·intro W' hW' a c mb hm hsn
    refine Mj B a c 2 mb G9 _ res W' (hG.fr hW') hm hB.rect hBl (by decide) (by decide) hfB hsn ?_
    rw [← hN,Da] at hab
    exact hab
   ·rintro e w' ((⟨i,j,cs,y,_,_,_,_,_,_,-,-,h,-⟩ | ⟨-,h⟩) | ⟨-,rfl,hf⟩)
    ·cases h
    ·unfold RM at h
     cases res with
     | none=>
       obtain ⟨rfl,hf⟩:=h
       exact ⟨_,_,_,_,_,_,_,_,_,_,_,_,_,_,rfl,hf,.inr ⟨rfl,fun _=>hres.1 rfl,fun _=>rfl⟩⟩
     | some x=>
       obtain ⟨g,c,rfl,-,-,hf⟩:=h
       exact ⟨_,_,_,_,_,_,_,_,_,_,_,_,_,_,rfl,hf,.inr ⟨rfl,fun h=>(by cases h),fun h=>(by cases hres.2 h)⟩⟩
    ·exact ⟨_,_,_,_,_,_,_,_,_,_,_,_,_,_,rfl,hf,.inl ⟨rfl,rfl⟩⟩
end
end Go.Proofs.YtcglmebcfeoedaaGreatDoor
