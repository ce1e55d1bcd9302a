/- Contracts and laws: GBN. -/
import Derived.Test.YtiniigadkknboaaGreatDoorGBM
import Derived.Test.YtiniigadkknboaaGreatDoorGBF

namespace Go.Proofs.YtiniigadkknboaaGreatDoor
open Go.RowKit Go.Lib
attribute [local go_sem ↓] Go.wp_at_zero Go.wp_at_succ

theorem IQ {t n:Nat} {E:Nat→Nat→Int} {x y:Nat→Int} (h:DL t E y) (ho:∀ i,i < t→Dn (E i) x n=0):Dn y x n=0:=T5 h ho
theorem OL {n:Nat} {m:List (List Int)} (hm:m.length≤4) (hr:Bx n m) (hb:∀ r,r ∈ m→∀ x,x ∈ r→x.natAbs≤1000000000) (x:Nat→Int):Jh n (H7 n m) x ↔ Jh n m x:=by
 obtain ⟨gF,tF,p,e1,e2,e3,e4,e5,e6,-⟩:=MJ (n:=n) (B:=1000000000) hm hr (by decide) Df hb
 obtain ⟨-,-,-,-,hU⟩:=GC _ 0 0 m gF tF (fun _=>0) hr (FU.init _ _) e1
 have hsp:=Nk hU
 obtain ⟨L,hL⟩:∃ L,L=H7 n m:=⟨_,rfl⟩
 rw [← hL]
 have hLl:L.length=tF:=by rw [hL,e2,Av]; omega
 have hLe:∀ i,i < tF→∀ k,AC L i k=AC gF i k:=fun i hi k=>by
  rw [hL,e2]; unfold AC BT; rw [Bp,Ai hi]
 have hz:∀ i,tF≤i→i < m.length→∀ k,AC gF i k=0:=fun i h1 h2 k=>by
  by_cases hk:k < n
  ·exact e4.zero i h1 (by omega) k hk
  ·exact NU e5 (by omega)
 constructor
 ·rintro ⟨h0,h1⟩
  refine ⟨h0,fun i hi=>?_⟩
  refine IQ ((hsp _).1 (DL.row hi)) fun l hl=>?_
  by_cases hlt:l < tF
  ·have:=h1 l (by omega)
   rw [show AC gF l=AC L l from funext fun k=>(hLe l hlt k).symm]
   exact this
  ·rw [show AC gF l=fun _=>0 from funext fun k=>hz l (by omega) (by omega) k]; exact Es _ _
 ·rintro ⟨h0,h1⟩
  refine ⟨h0,fun i hi=>?_⟩
  rw [show AC L i=AC gF i from funext fun k=>hLe i (by omega) k]
  exact IQ ((hsp _).2 (DL.row (by omega))) h1
theorem Lj {n:Nat} {v u:List Int} (x:Nat→Int):Jh n [v,u] x ↔ (∀ k,n≤k→x k=0)∧Dn (fun j=>(v[j]?).getD 0) x n=0∧Dn (fun j=>(u[j]?).getD 0) x n=0:=by
 unfold Jh
 constructor
 ·rintro ⟨h0,h1⟩
  exact ⟨h0,h1 0 (by simp),h1 1 (by simp)⟩
 ·rintro ⟨h0,h1,h2⟩
  refine ⟨h0,fun i hi=>?_⟩
  match i,hi with
  | 0,_=>exact h1
  | 1,_=>exact h2
theorem Gp {n:Nat} {v u:List Int} (hv:v.length=n) (hu:u.length=n):Bx n [v,u]:=fun r hr=>by
 rcases Bu.1 hr with rfl | hr
 ·exact hv
 ·rw [AX.1 hr]; exact hu
theorem Jc {v u:List Int} (hv:∀ x,x ∈ v→Bq x=true) (hu:∀ x,x ∈ u→Bq x=true):∀ r,r ∈ [v,u]→∀ x,x ∈ r→x.natAbs≤1000000000:=fun r hr x hx=>by
 have:Bq x=true:=by
  rcases Bu.1 hr with rfl | hr
  ·exact hv x hx
  ·rw [AX.1 hr] at hx; exact hu x hx
 exact FD this
theorem I6 {P v u:List Int} (h1:1≤P.length) (h4:P.length≤4) (hp:BQ P=0) (hvl:v.length=P.length) (hul:u.length=P.length) (hvf:∀ x,x ∈ v→Bq x=true) (huf:∀ x,x ∈ u→Bq x=true) (hj:Fq P.length (jL P v u)=true):Tg P (jA P v u) (jS P v u):=by
 unfold Fq at hj
 rw [Bm,Bm] at hj
 obtain ⟨a1,a2,a3⟩:=hj
 obtain ⟨gF,tF,p,e1,e2,e3,e4,e5,e6,-⟩:=MJ (n:=P.length) (B:=1000000000) (m:=[v,u]) (by simp) (Gp hvl hul) (by decide) Df (Jc hvf huf)
 have hr:Bx P.length (jL P v u):=fun r hr=>by
  unfold jL at hr
  rw [e2] at hr
  exact e5 r (BZ hr)
 exact (VZ h1 h4 hp a1 hr a3 a2).2
theorem O4 {P v u:List Int} (h:Rz P v u=0):Fq P.length (jL P v u)=true∧2≤(jS P v u).length:=by
 unfold Rz at h
 split at h
 ·cases h
 ·rename_i h1
  split at h
  ·cases h
  ·rename_i h2
   exact ⟨by simpa using h1,by omega⟩
theorem XL {P v u:List Int} (h4:P.length≤4) (hj:Fq P.length (jL P v u)=true):∃ p,FU p P.length (jA P v u).length (jA P v u)∧Bx P.length (jA P v u):=by
 unfold Fq at hj
 rw [Bm,Bm] at hj
 obtain ⟨gW,p,t,r,k⟩:=D5 (n:=P.length) h4 (by decide) Df (Gc hj.1)
 exact ⟨_,k.kech,k.krect⟩
section
variable {P v u:List Int} (h1:1≤P.length) (h4:P.length≤4) (hp:BQ P=0) (hvl:v.length=P.length) (hul:u.length=P.length) (hvf:∀ x,x ∈ v→Bq x=true) (huf:∀ x,x ∈ u→Bq x=true) (hj:Fq P.length (jL P v u)=true)
include h4 hvl hul hvf huf hj
theorem Ut (x:Nat→Int):DL (jA P v u).length (AC (jA P v u)) x ↔ Jh P.length [v,u] x:=by
 unfold Fq at hj
 rw [Bm,Bm] at hj
 obtain ⟨gW,p,t,r,k⟩:=D5 (n:=P.length) h4 (by decide) Df (Gc hj.1)
 exact (k.spans x).trans (OL (by simp) (Gp hvl hul) (Jc hvf huf) x)
theorem Ur:Ei (jA P v u) v=true∧Ei (jA P v u) u=true:=by
 obtain ⟨p,-,hr⟩:=XL h4 hj
 have hsp:=Ut h4 hvl hul hvf huf hj
 constructor
 ·rw [K7 hr]
  intro i hi
  rw [CM]
  exact ((Lj _).1 ((hsp _).1 (DL.row hi))).2.1
 ·rw [K7 hr]
  intro i hi
  rw [CM]
  exact ((Lj _).1 ((hsp _).1 (DL.row hi))).2.2
include h1 hp
theorem XK (x:Nat→Int):DL (jS P v u).length (AC (jS P v u)) x ↔ Jh P.length (jA P v u) x :=
 (I6 h1 h4 hp hvl hul hvf huf hj).krM x
theorem Us {z:Nat→Int} (hz:∀ x:Nat→Int,(∀ k,P.length≤k→x k=0)→Dn z x P.length=0→Jh P.length [v,u] x):(jS P v u).length < 2:=by
 refine AW fun hlen=>?_
 have hT:=I6 h1 h4 hp hvl hul hvf huf hj
 obtain ⟨gW,p,t,r,k⟩:=D5 (n:=P.length) h4 (by decide) Df (B:=1000000000) (m:=jA P v u) (fun r hr x hx=>FD (hT.tabC.2.2.2 r hr x hx))
 have hE:=k.kech
 change FU _ _ (jS P v u).length (jS P v u) at hE
 obtain ⟨q,hq⟩:∃ q:Nat→Nat,q=fun i=>p (r+i) - (jA P v u).length:=⟨_,rfl⟩
 rw [← hq] at hE
 have ho:∀ x:Nat→Int,(∀ k,P.length≤k→x k=0)→Dn z x P.length=0→∀ i,i < (jS P v u).length→Dn x (AC (jS P v u) i) P.length=0:=fun x hx0 hx i hi=>by
  have a:=(Ut h4 hvl hul hvf huf hj x).2 (hz x hx0 hx)
  have b:=((XK h1 h4 hp hvl hul hvf huf hj _).1 (DL.row hi)).2
  exact IQ a b
 have q0:=hE.lt 0 (by omega)
 have q1:=hE.lt 1 (by omega)
 have q01:=hE.inc 0 1 (by omega) (by omega)
 have p0:=hE.pos 0 (by omega)
 have p1:=hE.pos 1 (by omega)
 have l1:=hE.low 1 (by omega) (q 0) q01
 have hd:∀ (i:Nat) (f:Nat→Int),i < P.length→Dn (fun k=>if i=k then 1 else 0) f P.length=f i:=fun i f hi=>by
  have:=GD 1 i f P.length
  rw [Ai hi] at this
  omega
 have hx2:∀ i j,i < P.length→j < P.length→∀ l,l < (jS P v u).length→z j * AC (jS P v u) l i - z i * AC (jS P v u) l j=0:=fun i j hi hj2 l hl=>by
  have e:∀ f:Nat→Int,Dn (fun k=>z j * (if i=k then 1 else 0)+(-(z i)) * (if j=k then 1 else 0)) f P.length=z j * f i - z i * f j:=fun f=>by
   rw [F9,Ec,Ec,hd i f hi,hd j f hj2]; grind
  have h9:=ho (fun k=>z j * (if i=k then 1 else 0)+(-(z i)) * (if j=k then 1 else 0)) (fun k hk=>by rw [Ag (by omega),Ag (by omega)]; omega) (by rw [CM,e]; grind) l hl
  rw [e] at h9
  exact h9
 have z0:z (q 0)=0:=by
  have h9:=hx2 (q 0) (q 1) q0 q1 1 (by omega)
  rw [l1] at h9
  have h8:z (q 0) * AC (jS P v u) 1 (q 1)=0:=by omega
  rcases FI.1 h8 with h | h
  ·exact h
  ·omega
 have zz:∀ j,j < P.length→z j=0:=fun j hj2=>by
  have h9:=hx2 (q 0) j q0 hj2 0 (by omega)
  rw [z0] at h9
  have h8:z j * AC (jS P v u) 0 (q 0)=0:=by omega
  rcases FI.1 h8 with h | h
  ·exact h
  ·omega
 have h9:=ho (fun k=>if q 0=k then 1 else 0) (fun k hk=>by rw [Ag (by omega)]) (by rw [CM,hd _ _ q0]; exact z0) 0 (by omega)
 rw [hd _ _ q0] at h9
 omega
end
theorem e8:100000000≤10 ^ 255:=by decide +kernel
def Tz (n:Int):Prop:=Bn 2000 n
@[irreducible] instance decTz (n:Int):Decidable (Tz n):=inferInstanceAs (Decidable (Bn _ _))
theorem ZE {n:Int} (h:n.natAbs < 10 ^ 255):Tz n:=(show Bn 255 n from h).mono (by decide)
structure EZ where
 m:List (List Int)
 piv:List Nat
 last:Int
 odd:Bool
def EA (m:List (List Int)) (i:Nat):List Int:=(m[i]?).getD []
def Fj (m:List (List Int)) (i c:Nat):Int:=((EA m i)[c]?).getD 0
def UU (p f l x y:Int):Int:=(p * x - f * y).fdiv l
def GE (p f l:Int) (xs ys:List Int):List Int:=List.zipWith (UU p f l) xs ys
def Ek (m:List (List Int)) (p l:Int) (d c:Nat):Nat→List (List Int)
 | 0=>m
 | i+1=>if i=d then Ek m p l d c i else (Ek m p l d c i).set i (GE p (Fj (Ek m p l d c i) i c) l (EA (Ek m p l d c i) i) (EA (Ek m p l d c i) d))
def Hn (m:List (List Int)) (c k:Nat):Nat:=k+(m.drop k).findIdx fun r=>decide ((r[c]?).getD 0≠0)
def Eo (m:List (List Int)) (k a:Nat):List (List Int):=if a=k then m else DT m a k
def VM (m:List (List Int)):Bool:=m.all fun r=>r.all fun x=>decide (Tz x)
def F4 (c:Nat) (s:EZ):Option EZ :=
 if s.piv.length < s.m.length then
  if Hn s.m c s.piv.length=s.m.length then some s else
   if VM s.m=true∧Tz s.last∧s.last≠0 then
    some ⟨Ek (Eo s.m s.piv.length (Hn s.m c s.piv.length)) (Fj (Eo s.m s.piv.length (Hn s.m c s.piv.length)) s.piv.length c) s.last s.piv.length c s.m.length,s.piv ++ [c],
     Fj (Eo s.m s.piv.length (Hn s.m c s.piv.length)) s.piv.length c,s.odd != decide (Hn s.m c s.piv.length≠s.piv.length)⟩
   else none
 else some s
def JO (m:List (List Int)):Nat→Option EZ
 | 0=>some ⟨m,[],1,false⟩
 | c+1=>(JO m c).bind (F4 c)
example:(JO [[2,1],[4,3]] 2).map (fun s=>(s.m,s.piv,s.last,s.odd))=some ([[2,0],[0,2]],[0,1],2,false):=by decide +kernel
example:(JO [[0,1],[4,3]] 2).map (fun s=>(s.m,s.piv,s.last,s.odd))=some ([[4,0],[0,4]],[0,1],4,true):=by decide +kernel
example:(JO [[0,0],[4,3]] 2).map (fun s=>(s.m,s.piv,s.last,s.odd))=some ([[4,3],[0,0]],[0],4,true):=by decide +kernel
theorem I3 {f:Int→Int→Int}:∀ {xs ys:List Int} {z:Int},z ∈ List.zipWith f xs ys→∃ x y,x ∈ xs∧y ∈ ys∧z=f x y
 | [],_,z,h=>by simp at h
 | _ :: _,[],z,h=>by simp at h
 | x :: xs,y :: ys,z,h=>by
   rw [List.zipWith_cons_cons] at h
   rcases Bu.1 h with e | h
   ·exact ⟨x,y,BC,BC,e⟩
   ·obtain ⟨a,b,ha,hb,e⟩:=I3 h
    exact ⟨a,b,BI _ ha,BI _ hb,e⟩
theorem Wy {B:Nat} {p f l x y:Int} (hp:p.natAbs≤B) (hf:f.natAbs≤B) (hx:x.natAbs≤B) (hy:y.natAbs≤B):(UU p f l x y).natAbs≤2 * (B * B):=by
 refine As (Int.natAbs_fdiv_le_natAbs _ _) ?_
 have h1:(p * x).natAbs≤B * B:=by rw [Be]; exact AD hp hx
 have h2:(f * y).natAbs≤B * B:=by rw [Be]; exact AD hf hy
 omega
theorem GH (m:List (List Int)) (p l:Int) (d c:Nat):∀ t,(Ek m p l d c t).length=m.length
 | 0=>rfl
 | t+1=>by
   rw [Ek]
   split
   ·exact GH m p l d c t
   ·rw [A0]; exact GH m p l d c t
theorem LI (m:List (List Int)) (p l:Int) (d c:Nat):∀ (t j:Nat),(Ek m p l d c t)[j]?=if j < t∧j≠d then m[j]?.map fun r=>GE p ((r[c]?).getD 0) l r (EA m d) else m[j]?
 | 0,j=>by rw [Ag (by omega)]; rfl
 | t+1,j=>by
   have ih:=LI m p l d c t
   rw [Ek]
   by_cases h:t=d
   ·rw [Ai h,ih j]
    by_cases hj:j < t∧j≠d
    ·rw [Ai hj,Ai (by omega)]
    ·rw [Ag hj,Ag (by omega)]
   ·rw [Ag h,Cp]
    have h1:EA (Ek m p l d c t) d=EA m d:=by unfold EA; rw [ih d,Ag (by omega)]
    have h2:EA (Ek m p l d c t) t=EA m t:=by unfold EA; rw [ih t,Ag (by omega)]
    by_cases hj:t=j
    ·subst hj
     rw [Ai rfl,Ai (by omega:t < t+1∧t≠d),GH]
     unfold Fj
     rw [h1,h2]
     by_cases hl:t < m.length
     ·rw [Ai hl]; unfold EA; rw [Ac hl]; rfl
     ·rw [Ag hl,A3 (by omega)]; rfl
    ·rw [Ag hj,ih j]
     by_cases hk:j < t∧j≠d
     ·rw [Ai hk,Ai (by omega)]
     ·rw [Ag hk,Ag (by omega)]
theorem On {α:Type} {l:List α} {i j:Nat} {x:α} (h:x ∈ DT l i j):x ∈ l:=by
 unfold DT at h
 split at h
 ·rename_i a b h1 h2
  rcases Cf h with h | e
  ·rcases Cf h with h | e
   ·exact h
   ·rw [e]; exact Af h2
  ·rw [e]; exact Af h1
 ·exact h
theorem Mz (m:List (List Int)) (k a:Nat):(Eo m k a).length=m.length:=by
 unfold Eo DT; split
 ·rfl
 ·split
  ·rw [A0,A0]
  ·rfl
theorem U3 (m:List (List Int)) (c k:Nat) (h:k≤m.length):k≤Hn m c k∧Hn m c k≤m.length:=by
 unfold Hn
 have:=List.findIdx_le_length (xs:=m.drop k) (p:=fun r=>decide ((r[c]?).getD 0≠0))
 rw [CJ] at this
 omega
theorem XX {m:List (List Int)} {c k:Nat} (h:k≤m.length) (hlt:Hn m c k≠m.length):Fj m (Hn m c k) c≠0:=by
 have hle:=U3 m c k h
 unfold Hn at hlt hle ⊢
 have hl:(m.drop k).findIdx (fun r=>decide ((r[c]?).getD 0≠0)) < (m.drop k).length:=by rw [CJ]; omega
 have:=List.findIdx_getElem (xs:=m.drop k) (p:=fun r=>decide ((r[c]?).getD 0≠0)) (w:=hl)
 have:=AL this
 unfold Fj EA
 rw [List.getElem_drop] at this
 rw [CJ] at hl
 rw [Ac (show _ < m.length by omega)]
 exact this
theorem Sd {m:List (List Int)} {k a c:Nat} (hk:k < m.length) (ha:a < m.length):Fj (Eo m k a) k c=Fj m a c:=by
 unfold Eo; split
 ·rename_i e; rw [e]
 ·rename_i e
  unfold Fj EA DT
  rw [Ac hk,Ac ha]
  simp only [Cp,A0,hk,if_true]
theorem Se {c:Nat} {s s':EZ} (h:F4 c s=some s'):s'.piv.length≤s.piv.length+1∧s.piv.length≤s'.piv.length:=by
 unfold F4 at h
 split at h
 ·split at h
  ·injection h with h; subst h; omega
  ·split at h
   ·injection h with h; subst h; show (s.piv ++ [c]).length≤_∧_≤(s.piv ++ [c]).length; rw [Ar]; simp
   ·cases h
 ·injection h with h; subst h; omega
theorem RG {m:List (List Int)}:∀ {n:Nat} {s:EZ},JO m n=some s→s.piv.length≤n
 | 0,s,h=>by injection h with h; subst h; exact Ah _
 | n+1,s,h=>by
   rw [JO] at h
   obtain ⟨s1,h1,h2⟩:=AY.1 h
   have:=RG h1
   have:=(Se h2).1
   omega
end Go.Proofs.YtiniigadkknboaaGreatDoor
