/- Contracts and laws: GBR. -/
import Derived.Test.YtiniigadkknboaaGreatDoorGBQ
import Derived.Test.YtiniigadkknboaaGreatDoorGBJ
import Derived.Test.YtiniigadkknboaaGreatDoorGBM
import Derived.Test.YtiniigadkknboaaGreatDoorGAG
import Derived.Test.YtiniigadkknboaaGreatDoorGBH

set_option maxRecDepth 100000
set_option maxHeartbeats 8000000
namespace Go.Proofs.YtiniigadkknboaaGreatDoor
open Go.RowKit Go.Lib
theorem RI {f g:Nat→Int} {B:Nat}:∀ m,(∀ k,k < m→(f k).natAbs≤B∧(g k).natAbs≤B)→(Dn f g m).natAbs≤m * (B * B)
 | 0,_=>by simp [Dn]
 | m+1,h=>by
   have ih:=RI m fun k hk=>h k (by omega)
   have h1:=AD (h m (by omega)).1 (h m (by omega)).2
   rw [← Be] at h1
   rw [Dn,Hl,E8]
   omega
def Mh (i j:Nat) (a b:Int) (k:Nat):Int:=(if i=k then a else 0)+(if j=k then b else 0)
theorem Lz {i j n:Nat} {a b:Int} (hi:i < n) (hj:j < n) (g:Nat→Int):Dn (Mh i j a b) g n=a * g i+b * g j:=by
 unfold Mh
 rw [F9,GD,GD,Ai hi,Ai hj]
theorem WB {n:Nat} {v:List Int} (hv:v.length=n) {x:Int} (hx:x ∈ v):∃ k,k < n∧Cz v k=x:=by
 obtain ⟨k,hk⟩:=BU.1 hx
 exact ⟨k,by rw [← hv]; exact (Ae.1 hk).1,by unfold Cz; rw [hk]; rfl⟩
theorem Ys {n:Nat} {v:List Int} (hv:v.length=n) (hp:∀ k,k < n→0 < Cz v k∧Cz v k≤10000):∀ r,r ∈ [v]→∀ x,x ∈ r→x.natAbs≤1000000000:=fun r hr x hx=>by
 rw [AX.1 hr] at hx
 obtain ⟨k,h1,rfl⟩:=WB hv hx
 have:=hp k h1
 omega
section
variable {n:Nat} {v:List Int} (hn4:n≤4) (hn1:1≤n) (hv:v.length=n) (hp:∀ k,k < n→0 < Cz v k∧Cz v k≤10000)
include hn4 hv hp
include hn1
theorem OX:BG (Dj n [v])=true:=by
 obtain ⟨gW,p,t,r,k⟩:=D5 (n:=n) (m:=[v]) (B:=1000000000) hn4 (by decide) Df (Ys hv hp)
 have hE:=k.kech
 have hsp:=k.spans
 have hR:=k.krect
 generalize Dj n [v]=K at *
 obtain ⟨q,hq⟩:∃ q:Nat→Nat,q=fun i=>p (r+i) - ([v]:List (List Int)).length:=⟨_,rfl⟩
 rw [← hq] at hE
 obtain ⟨m,rfl⟩:∃ m,n=m+1:=⟨n - 1,by omega⟩
 have hrow:∀ i,i < K.length→Dn (Cz v) (AC K i) (m+1)=0:=fun i hi=>((Gu _).1 ((hsp _).1 (DL.row hi))).2
 have hpiv:∀ c,c < m→∃ j,j < K.length∧q j=c∧AC K j c≤10000:=fun c hc=>by
  obtain ⟨z,hz⟩:∃ z,z=(List.range (m+1)).map (Mh c m (Cz v m) (-(Cz v c))):=⟨_,rfl⟩
  have hzl:z.length=m+1:=by rw [hz,An,Co]
  have hze:∀ k,k < m+1→AC [z] 0 k=Mh c m (Cz v m) (-(Cz v c)) k:=fun k hk=>by
   show (z[k]?).getD 0=_
   rw [hz,At,List.getElem?_range hk]; rfl
  have hpc:=hp c (by omega)
  have hpm:=hp m (by omega)
  have e1:FU (fun _=>c) (m+1) [z].length [z]:=⟨by simp,fun i a b=>absurd b (by simp at a ⊢; omega),fun i hi=>by omega,fun i j h1 h2=>by simp at h2; omega,fun i hi=>by
   obtain rfl:i=0:=by simpa using hi
   rw [hze c (by omega)]
   unfold Mh
   rw [Ai rfl,Ag (by omega)]
   omega,fun i hi k hk=>by
   obtain rfl:i=0:=by simpa using hi
   rw [hze k (by omega)]
   unfold Mh
   rw [Ag (by omega),Ag (by omega)]; rfl,fun i j h1 h2=>by simp at h2; omega⟩
  obtain ⟨j,h1,h2,b,h3⟩:=e1.pivot_in hE (fun x hx=>(hsp x).2 ((Gu x).2 (by
   obtain ⟨d,hd⟩:=Eh hx
   have hd1:∀ k,x k=d 0 * AC [z] 0 k:=fun k=>by rw [hd k]; show 0+d 0 * AC [z] 0 k=_; omega
   refine ⟨fun k hk=>?_, ?_⟩
   ·rw [hd1 k]
    have:AC [z] 0 k=0:=by show (z[k]?).getD 0=0; rw [A3 (by omega)]; rfl
    rw [this,B0]
   ·rw [CM,CT (f':=fun k=>d 0 * Mh c m (Cz v m) (-(Cz v c)) k) (g':=Cz v) (fun k hk=>⟨by rw [hd1 k,hze k hk],rfl⟩),Ec,Lz (by omega) (by omega)]
    grind))) (i:=0) (by simp)
  refine ⟨j,h1,h2, ?_⟩
  replace h2:q j=c:=h2
  replace h3:AC [z] 0 c=b * AC K j c:=h3
  rw [hze c (by omega)] at h3
  unfold Mh at h3
  rw [Ai rfl,Ag (by omega)] at h3
  have h4:=hE.pos j h1
  rw [h2] at h4
  have h5:0 < b:=by
   refine AW fun h=>?_
   have h6:b * AC K j c≤0:=Q1 (by omega) (by omega)
   omega
  have h6:1 * AC K j c≤b * AC K j c:=Ba (by omega) (by omega)
  omega
 have hcol:∀ i c,i < K.length→c < m→(AC K i c).natAbs≤10000:=fun i c hi hc=>by
  obtain ⟨j,h1,h2,h3⟩:=hpiv c hc
  have hj:=hE.pos j h1
  rw [h2] at hj
  rcases Th j i with h | h | h
  ·have h4:=hE.inc j i h hi
   rw [hE.low i hi c (by omega)]; decide
  ·subst h; omega
  ·have h4:=hE.up i j h h1
   rw [h2] at h4
   omega
 have hlast:∀ i,i < K.length→(AC K i m).natAbs≤1000000000:=fun i hi=>by
  have h1:=hrow i hi
  rw [Dn] at h1
  have h2:=RI (f:=Cz v) (g:=AC K i) (B:=10000) m fun k hk=>⟨by have:=hp k (by omega); omega,hcol i k hi hk⟩
  have h3:=hp m (by omega)
  have h4:(Cz v m * AC K i m).natAbs≤m * (10000 * 10000):=by omega
  rw [Be] at h4
  have h5:(AC K i m).natAbs≤(Cz v m).natAbs * (AC K i m).natAbs:=L3 _ (by omega)
  have h6:m * (10000 * 10000)≤3 * (10000 * 10000):=AU _ (by omega)
  omega
 refine JS fun r hr x hx=>?_
 obtain ⟨i,hi⟩:=BU.1 hr
 obtain ⟨c,hc⟩:=BU.1 hx
 have hil:=(Ae.1 hi).1
 have hcl:=(Ae.1 hc).1
 rw [hR r hr] at hcl
 have e9:AC K i c=x:=by
  unfold AC BT
  rw [hi,BB,hc]; rfl
 have h9:(AC K i c).natAbs≤1000000000:=by
  by_cases h:c < m
  ·have:=hcol i c hil h; omega
  ·obtain rfl:c=m:=by omega
   exact hlast i hil
 rw [e9] at h9
 unfold Bq
 exact Ab (by omega)
theorem Sw:BG (Dj n (Dj n [v]))=true:=by
 have hA:=OX hn4 hn1 hv hp
 obtain ⟨gW,p,t,r,k⟩:=D5 (n:=n) (m:=[v]) (B:=1000000000) hn4 (by decide) Df (Ys hv hp)
 have hsp:=k.spans
 generalize Dj n [v]=K at *
 obtain ⟨gW2,p2,t2,r2,k2⟩:=D5 (n:=n) (m:=K) (B:=1000000000) hn4 (by decide) Df (Gc hA)
 have hE:=k2.kech
 have hsp2:=k2.spans
 have hR:=k2.krect
 generalize Dj n K=S at *
 obtain ⟨q,hq⟩:∃ q:Nat→Nat,q=fun i=>p2 (r2+i) - K.length:=⟨_,rfl⟩
 rw [← hq] at hE
 have h0:=hp 0 (by omega)
 have hrow:∀ i,i < S.length→∀ c,c < n→Cz v 0 * AC S i c=Cz v c * AC S i 0:=fun i hi c hc=>by
  have h1:=((hsp2 _).1 (DL.row hi)).2
  have h2:=(hsp (Mh c 0 (Cz v 0) (-(Cz v c)))).2 ((Gu _).2 ⟨fun k hk=>by unfold Mh; rw [Ag (by omega),Ag (by omega)]; rfl,by rw [CM,Lz hc (by omega)]; grind⟩)
  have h3:=IQ h2 h1
  rw [Lz hc (by omega)] at h3
  grind
 have hq0:∀ i,i < S.length→q i=0:=fun i hi=>by
  refine AW fun hne=>?_
  have h1:=hrow i hi (q i) (hE.lt i hi)
  rw [hE.low i hi 0 (by omega),B0] at h1
  have h2:=hE.pos i hi
  rcases FI.1 h1 with h | h <;> omega
 have hS1:S.length≤1:=by
  refine AW fun hne=>?_
  have h1:=hE.inc 0 1 (by omega) (by omega)
  rw [hq0 0 (by omega),hq0 1 (by omega)] at h1
  omega
 have hvS:DL S.length (AC S) (Cz v):=(hsp2 _).2 ⟨fun k hk=>by unfold Cz; rw [A3 (by omega)]; rfl,fun i hi=>by
  have:=((Gu _).1 ((hsp _).1 (DL.row hi))).2
  rw [CM]; exact this⟩
 obtain ⟨c,hc⟩:=Eh hvS
 have hc1:S.length=1∧∀ k,Cz v k=c 0 * AC S 0 k:=by
  by_cases e:S.length=0
  ·exfalso
   have:=hc 0
   rw [e] at this
   have h9:Cz v 0=0:=this
   omega
  ·have e1:S.length=1:=by omega
   refine ⟨e1,fun k=>?_⟩
   rw [hc k,e1]
   show 0+c 0 * AC S 0 k=_
   omega
 have hcz:c 0≠0:=fun h=>by have:=hc1.2 0; rw [h,CZ] at this; omega
 refine JS fun r hr x hx=>?_
 obtain ⟨i,hi⟩:=BU.1 hr
 obtain ⟨j,hj⟩:=BU.1 hx
 have hil:=(Ae.1 hi).1
 obtain rfl:i=0:=by omega
 have hjl:=(Ae.1 hj).1
 rw [hR r hr] at hjl
 have e9:AC S 0 j=x:=by
  unfold AC BT
  rw [hi,BB,hj]; rfl
 have h1:=hp j hjl
 have h2:=hc1.2 j
 have h3:(Cz v j).natAbs=(c 0).natAbs * (AC S 0 j).natAbs:=by rw [h2,Be]
 have h5:(AC S 0 j).natAbs≤(c 0).natAbs * (AC S 0 j).natAbs:=L3 _ (by omega)
 rw [e9] at h3 h5
 unfold Bq
 exact Ab (by omega)
end
def Y6 (v:List Int):Bool:=v.all fun x=>decide (0 < x∧x≤10000)
theorem Xy:((List.range 10).all fun j=>(List.range 400).all fun k=>Y6 (BM (AV j) ((k:Int)+1)))=true:=by decide +kernel
theorem Yy (j:Nat) {k:Nat} (h1:1≤k) (h2:k≤400):Y6 (BM (AV j) k)=true:=by
 have key:∀ j,j < 10→Y6 (BM (AV j) k)=true:=fun j hj=>by
  have h8:=AE.1 (AE.1 Xy j (BH.2 hj)) (k - 1) (BH.2 (by omega))
  rw [show ((k - 1:Nat):Int)+1=(k:Int) by omega] at h8
  exact h8
 by_cases hj:j < 10
 ·exact key j hj
 ·rw [Nz j (by omega)]; exact key 9 (by decide)
theorem V4 {v:List Int} {n:Nat} (hn4:n≤4) (hn1:1≤n) (hv:v.length=n) (h:Y6 v=true):BG (Dj n [v])=true∧BG (Dj n (Dj n [v]))=true:=by
 have hp:∀ k,k < n→0 < Cz v k∧Cz v k≤10000:=fun k hk=>by
  have h1:=AE.1 h v[k] (AG (by omega))
  unfold Cz
  rw [Ac (by omega),BB]
  exact AL h1
 exact ⟨OX hn4 hn1 hv hp,Sw hn4 hn1 hv hp⟩
def YG (P v u:List Int):Option (List (List Int)×List (List Int)) :=
 match (CF 1000 P.length 0 [v,u] 0).map (fun r=>r.1.take r.2) with
 | some L=>match Dc 1000 P.length L with
   | some A=>match Dc 1000 P.length A with
     | some S=>if BG L && (BG S && BG A) then some (A,S) else none
     | none=>none
   | none=>none
 | none=>none
theorem NX {P v u:List Int} {A S:List (List Int)} (h:YG P v u=some (A,S)):Fq P.length (jL P v u)=true∧jA P v u=A∧jS P v u=S:=by
 unfold YG at h
 cases h1:(CF 1000 P.length 0 [v,u] 0).map (fun r=>r.1.take r.2) with
 | none=>rw [h1] at h; cases h
 | some L=>
   rw [h1] at h
   simp only at h
   cases h2:Dc 1000 P.length L with
   | none=>rw [h2] at h; cases h
   | some A'=>
     rw [h2] at h
     simp only at h
     cases h3:Dc 1000 P.length A' with
     | none=>rw [h3] at h; cases h
     | some S'=>
       rw [h3] at h
       simp only at h
       have e1:jL P v u=L:=MK h1
       have e2:jA P v u=A':=by unfold jA; rw [e1]; exact FH h2
       have e3:jS P v u=S':=by unfold jS; rw [e2]; exact FH h3
       split at h
       ·rename_i hf
        injection h with h
        injection h with ha hs
        refine ⟨?_,e2.trans ha,e3.trans hs⟩
        unfold Fq
        rw [e1,FH h2,FH h3]
        exact hf
       ·cases h
def FB:List (Nat×Nat):=(List.range 7).flatMap fun a=>(List.range 7).filterMap fun b=>if a < b then some (a+1,b+1) else none
def Pd (P:List Int) (x:Nat×Nat):Option ((List (List Int)×List (List Int))×List UInt8):=(YG P (BM P (x.1:Int)) (BM P (x.2:Int))).map fun r=>(r,Tt P r.1 r.2)
def XT (l:List (Option ((List (List Int)×List (List Int))×List UInt8))):Bool:=l.all fun o=>match o with
 | none=>false
 | some x=>l.all fun q=>match q with
   | none=>false
   | some y=>!(x.2 == y.2) || x.1 == y.1
theorem Zg:((List.range 10).all fun j=>XT (FB.map (Pd (AV j))))=true:=by decide +kernel
def Ii (P:List Int) (x:Nat×Nat):List (List Int):=jA P (BM P (x.1:Int)) (BM P (x.2:Int))
def Ix (P:List Int) (x:Nat×Nat):List (List Int):=jS P (BM P (x.1:Int)) (BM P (x.2:Int))
def PW (P:List Int) (x:Nat×Nat):Int:=Rz P (BM P (x.1:Int)) (BM P (x.2:Int))
def O3 (P:List Int) (x:Nat×Nat):ByteArray:=⟨(Tt P (Ii P x) (Ix P x)).toArray⟩
def F8 (P:List Int) (out:List (Nat×Nat)) (x:Nat×Nat):List (Nat×Nat) :=
 if PW P x=18 then out else if ((out.map (O3 P)).any fun y=>y.toList == (O3 P x).toList)=true then out else out ++ [x]
def Hw (P:List Int) (x y:Nat×Nat):Bool:=decide (Ii P y=Ii P x) && decide (Ix P y=Ix P x)
def Lp (P:List Int) (out:List (Nat×Nat)) (x:Nat×Nat):List (Nat×Nat) :=
 if PW P x≠0 then out else if (out.any fun y=>Hw P x y)=true then out else out ++ [x]
theorem I4 {x:Nat×Nat} (h1:1≤x.1) (h2:x.1 < x.2) (h3:x.2≤7):x ∈ FB:=by
 unfold FB
 refine List.mem_flatMap.2 ⟨x.1 - 1,BH.2 (by omega),List.mem_filterMap.2 ⟨x.2 - 1,BH.2 (by omega), ?_⟩⟩
 rw [Ai (by omega)]
 congr 1
 exact Prod.ext (by show x.1 - 1+1=_; omega) (by show x.2 - 1+1=_; omega)
section
variable (j:Nat)
theorem UV:XT (FB.map (Pd (AV j)))=true:=by
 have key:∀ j,j < 10→XT (FB.map (Pd (AV j)))=true:=fun j hj=>AE.1 Zg j (BH.2 hj)
 by_cases hj:j < 10
 ·exact key j hj
 ·rw [Nz j (by omega)]; exact key 9 (by decide)
theorem NT {x:Nat×Nat} (hx:x ∈ FB):∃ A S,YG (AV j) (BM (AV j) (x.1:Int)) (BM (AV j) (x.2:Int))=some (A,S)∧Pd (AV j) x=some ((A,S),Tt (AV j) A S):=by
 have h1:=AE.1 (UV j) (Pd (AV j) x) (Bc.2 ⟨x,hx,rfl⟩)
 unfold Pd at h1 ⊢
 cases e:YG (AV j) (BM (AV j) (x.1:Int)) (BM (AV j) (x.2:Int)) with
 | none=>rw [e] at h1; cases h1
 | some r=>exact ⟨r.1,r.2,rfl,rfl⟩
theorem Ry {x:Nat×Nat} (hx:x ∈ FB):PW (AV j) x=0∨PW (AV j) x=18:=by
 obtain ⟨A,S,h1,-⟩:=NT j hx
 obtain ⟨h2,-,-⟩:=NX h1
 unfold PW Rz
 rw [Ag (by rw [h2]; decide)]
 split
 ·exact .inr rfl
 ·exact .inl rfl
theorem Wo {x y:Nat×Nat} (hx:x ∈ FB) (hy:y ∈ FB) (h:(O3 (AV j) y).toList=(O3 (AV j) x).toList):Ii (AV j) y=Ii (AV j) x∧Ix (AV j) y=Ix (AV j) x:=by
 obtain ⟨A,S,h1,h2⟩:=NT j hx
 obtain ⟨A',S',h3,h4⟩:=NT j hy
 obtain ⟨-,a1,a2⟩:=NX h1
 obtain ⟨-,a3,a4⟩:=NX h3
 have b1:Ii (AV j) x=A:=a1
 have b2:Ix (AV j) x=S:=a2
 have b3:Ii (AV j) y=A':=a3
 have b4:Ix (AV j) y=S':=a4
 unfold O3 at h
 rw [b1,b2,b3,b4,Dd,Dd] at h
 have h9:Tt (AV j) A' S'=Tt (AV j) A S:=h
 have k:=AE.1 (UV j) (Pd (AV j) y) (Bc.2 ⟨y,hy,rfl⟩)
 rw [h4] at k
 have k2:=AE.1 k (Pd (AV j) x) (Bc.2 ⟨x,hx,rfl⟩)
 rw [h2] at k2
 simp only [Bool.or_eq_true,Gi,Cj,beq_iff_eq] at k2
 rcases k2 with k2 | k2
 ·exact absurd h9 k2
 ·rw [b1,b2,b3,b4]
  injection k2 with e1 e2
  exact ⟨e1,e2⟩
theorem U6 {out:List (Nat×Nat)} {x:Nat×Nat} (ho:∀ y,y ∈ out→y ∈ FB) (hx:x ∈ FB):((out.map (O3 (AV j))).any fun y=>y.toList == (O3 (AV j) x).toList)=out.any fun y=>Hw (AV j) x y:=by
 rw [List.any_map]
 rw [Bool.eq_iff_iff,VL,VL]
 constructor
 ·rintro ⟨y,hy,h⟩
  obtain ⟨a,b⟩:=Wo j hx (ho y hy) (by simpa using h)
  refine ⟨y,hy, ?_⟩
  unfold Hw
  rw [a,b]; simp
 ·rintro ⟨y,hy,h⟩
  unfold Hw at h
  rw [Bm,Jr,Jr] at h
  refine ⟨y,hy, ?_⟩
  show ((O3 (AV j) y).toList == (O3 (AV j) x).toList)=true
  unfold O3
  rw [h.1,h.2,Ku]
theorem OZ {out:List (Nat×Nat)} {x:Nat×Nat} (ho:∀ y,y ∈ out→y ∈ FB) (hx:x ∈ FB):F8 (AV j) out x=Lp (AV j) out x:=by
 unfold F8 Lp
 rw [U6 j ho hx]
 rcases Ry j hx with h | h
 ·rw [h,Ag (show ¬ (0:Int)=18 by decide),Ag (show ¬ ((0:Int)≠0) by simp)]
 ·rw [h,Ai rfl,Ai (show (18:Int)≠0 by decide)]
theorem MR {P:List Int} {out:List (Nat×Nat)} {x y:Nat×Nat} (h:y ∈ F8 P out x):y ∈ out∨(y=x∧PW P x≠18):=by
 unfold F8 at h
 split at h
 ·exact .inl h
 ·rename_i h18
  split at h
  ·exact .inl h
  ·rcases BD.1 h with h | h
   ·exact .inl h
   ·exact .inr ⟨AX.1 h,h18⟩
theorem O0 {P:List Int}:∀ (l out:List (Nat×Nat)) (y:Nat×Nat),y ∈ l.foldl (F8 P) out→y ∈ out∨y ∈ l
 | [],_,_,h=>.inl h
 | x :: l,out,y,h=>by
   rcases O0 l _ y h with h | h
   ·rcases MR h with h | ⟨rfl,-⟩
    ·exact .inl h
    ·exact .inr BC
   ·exact .inr (BI _ h)
theorem O1:∀ (l out:List (Nat×Nat)),(∀ x,x ∈ l→x ∈ FB)→(∀ y,y ∈ out→y ∈ FB)→l.foldl (F8 (AV j)) out=l.foldl (Lp (AV j)) out
 | [],_,_,_=>rfl
 | x :: l,out,hl,ho=>by
   have hx:=hl x BC
   rw [WU,WU,OZ j ho hx]
   refine O1 l _ (fun y hy=>hl y (BI _ hy)) (fun y hy=>?_)
   rw [← OZ j ho hx] at hy
   rcases MR hy with h | ⟨rfl,-⟩
   ·exact ho y h
   ·exact hx
end
def JH (k a b:Nat):List (Nat×Nat):=((List.range (a - 1)).flatMap fun x=>(List.range (k - (x+1))).map fun y=>(x+1,x+2+y)) ++ (List.range (b - (a+1))).map fun y=>(a,a+1+y)
theorem MD {k a b:Nat} (h:a+1≤b):JH k a (b+1)=JH k a b ++ [(a,b)]:=by
 unfold JH
 rw [show b+1 - (a+1)=(b - (a+1))+1 by omega,Me,Ay,Bd]
 congr 2
 show [(a,a+1+(b - (a+1)))]=_
 rw [show a+1+(b - (a+1))=b by omega]
theorem Oy {k a:Nat} (h1:1≤a):JH k a (k+1)=JH k (a+1) (a+2):=by
 unfold JH
 obtain ⟨c,rfl⟩:∃ c,a=c+1:=⟨a - 1,by omega⟩
 rw [show c+1+1 - 1=c+1 by omega,show c+1 - 1=c by omega,show c+1+2 - (c+1+1+1)=0 by omega,Me,ZW]
 simp only [List.flatMap_cons,List.flatMap_nil,BE,List.range_zero,L4]
 rw [show k+1 - (c+1+1)=k - (c+1) by omega]
theorem Oz {k a b:Nat} {x:Nat×Nat} (hk:k≤7) (ha:1≤a) (_hak:a≤k+1) (hb:b≤k+1) (h:x ∈ JH k a b):x ∈ FB:=by
 unfold JH at h
 rcases BD.1 h with h | h
 ·obtain ⟨u,hu,h⟩:=List.mem_flatMap.1 h
  obtain ⟨v,hv,rfl⟩:=Bc.1 h
  have hu:=BH.1 hu
  have hv:=BH.1 hv
  exact I4 (by show 1≤u+1; omega) (by show u+1 < u+2+v; omega) (by show u+2+v≤7; omega)
 ·obtain ⟨v,hv,rfl⟩:=Bc.1 h
  have hv:=BH.1 hv
  exact I4 (by show 1≤a; omega) (by show a < a+1+v; omega) (by show a+1+v≤7; omega)
def I5 (P:List Int) (k a b:Nat):List (Nat×Nat):=(JH k a b).foldl (F8 P) []
def MP (P:List Int) (k a b:Nat):List (Nat×Nat):=(JH k a b).foldl (Lp P) []
theorem Uk {P:List Int} {k a b:Nat} (h:a+1≤b):I5 P k a (b+1)=F8 P (I5 P k a b) (a,b):=by unfold I5; rw [MD h,Js]; rfl
theorem Ul {P:List Int} {k a b:Nat} (h:a+1≤b):MP P k a (b+1)=Lp P (MP P k a b) (a,b):=by unfold MP; rw [MD h,Js]; rfl
theorem Rs {P:List Int} {k a:Nat} (h:1≤a):I5 P k a (k+1)=I5 P k (a+1) (a+2):=by unfold I5; rw [Oy h]
theorem Ru {P:List Int} {k a:Nat} (h:1≤a):MP P k a (k+1)=MP P k (a+1) (a+2):=by unfold MP; rw [Oy h]
theorem ND (j:Nat) {k a b:Nat} (hk:k≤7) (ha:1≤a) (hak:a≤k+1) (hb:b≤k+1):I5 (AV j) k a b=MP (AV j) k a b:=O1 j _ _ (fun x hx=>Oz hk ha hak hb hx) (fun y hy=>by simp at hy)
theorem Wm {P:List Int} {k a b:Nat} {x:Nat×Nat} (hk:k≤7) (ha:1≤a) (hak:a≤k+1) (hb:b≤k+1) (h:x ∈ I5 P k a b):x ∈ FB:=by
 rcases O0 _ _ _ h with h | h
 ·simp at h
 ·exact Oz hk ha hak hb h
theorem MV {P:List Int}:∀ (l out:List (Nat×Nat)),(l.foldl (F8 P) out).length≤out.length+l.length
 | [],_=>by simp
 | x :: l,out=>by
   have h1:=MV (P:=P) l (F8 P out x)
   have h2:(F8 P out x).length≤out.length+1:=by
    unfold F8
    split
    ·omega
    ·split
     ·omega
     ·simp
   rw [WU,Aw]
   omega
theorem TZ {k a b:Nat} (hk:k≤7) (hak:a≤k+1) (hb:b≤k+1):(JH k a b).length≤100:=by
 unfold JH
 rw [Ar,An,Co,List.length_flatMap]
 have:∀ n,((List.range n).map fun x=>((List.range (k - (x+1))).map fun y=>(x+1,x+2+y)).length).sum≤n * 7:=fun n=>by
  induction n with
  | zero=>simp
  | succ n ih=>
    rw [Me,Ay,List.sum_append]
    simp only [J0,L4,List.sum_cons,List.sum_nil,An,Co] at ih ⊢
    omega
 have h:=this (a - 1)
 omega
theorem Rt {P:List Int} {k a b:Nat} (hk:k≤7) (hak:a≤k+1) (hb:b≤k+1):(I5 P k a b).length≤100:=by
 have h1:=MV (P:=P) (JH k a b) []
 have h2:=TZ hk hak hb
 unfold I5
 simp only [DC] at h1
 omega
attribute [local go_sem ↓] Go.wp_at_zero Go.wp_at_succ
structure PE where
 a:Nat
 b:Nat
 pa:Option Addr
 pc:Nat
 ca:Option Addr
 cc:Nat
 ma:Option Addr
 mc:Nat
 ok:Nat→Prop
 hi:Nat
def PE.key (x:PE):Nat×Nat:=(x.a,x.b)
def PE.cs (P:List Int) (x:PE):List Value:=[.int .i64 x.a,.int .i64 x.b,.slice x.pa P.length x.pc,.slice x.ca (Ii P x.key).length x.cc,.slice x.ma (Ix P x.key).length x.mc]
def Tl (P:List Int) (x:PE) (W:World):Prop:=∀ W',Fx x.ok W W'→El W' iv x.pa P∧A5 W' x.ca (Ii P x.key)∧A5 W' x.ma (Ix P x.key)
theorem Tl.step {P:List Int} {x:PE} {W W':World} {q:Nat→Prop} (h:Tl P x W) (k:Fx q W W') (hq:∀ k,q k→x.ok k):Tl P x W':=fun _ hW=>h _ ((k.mono hq).trans hW)
theorem Tl.fr {P:List Int} {x:PE} {W W':World} (h:Tl P x W) (k:Fr W W'):Tl P x W':=h.step (q:=fun _=>False) (Fx.of_fr k) (fun _ e=>e.elim)
def Lw (P:List Int) (L:List PE):List Value:=L.flatMap (PE.cs P)
structure PO (P:List Int) (w:World) (base:Nat) (v:Value) (L:List PE):Prop where
 own:w.ownsRow base 87 5 v L.length (Lw P L)
 el:∀ x,x ∈ L→Tl P x w∧x.hi≤w.heap.size∧(∀ k,x.hi≤k→x.ok k)∧∀ g,v.ownBlock=some g→x.ok g
theorem PO.nil (P:List Int) (w:World) (base:Nat):PO P w base (.slice none 0 0) []:=⟨Bl _ _ _ _,fun x h=>by simp at h⟩
theorem PO.fx {P:List Int} {w w':World} {base:Nat} {v:Value} {L:List PE} {q:Nat→Prop} (h:PO P w base v L) (k:Fx q w w') (h1:∀ g,v.ownBlock=some g→¬ q g) (h2:∀ x,x ∈ L→∀ k,q k→x.ok k):PO P w' base v L :=
 ⟨BW h.own k h1,fun x hx=>⟨(h.el x hx).1.step k (h2 x hx),As (h.el x hx).2.1 k.size,(h.el x hx).2.2⟩⟩
theorem PO.fr {P:List Int} {w w':World} {base:Nat} {v:Value} {L:List PE} (h:PO P w base v L) (k:Fr w w'):PO P w' base v L:=h.fx (q:=fun _=>False) (Fx.of_fr k) (fun _ _ e=>e) (fun _ _ _ e=>e.elim)
theorem PO.push {P:List Int} {w2 w3:World} {base g9 cap9:Nat} {v:Value} {L:List PE} {o:Obj} {x:PE} (h:PO P w2 base v L) (hx:Tl P x w2) (hxh:x.hi≤w2.heap.size) (hxk:∀ k,x.hi≤k→x.ok k) (hxv:∀ g,v.ownBlock=some g→x.ok g)
 (hown:w3.ownsRow base 87 5 (.slice (some ⟨g9,0,none⟩) (L.length+1) cap9) (L.length+1) (Lw P L ++ x.cs P)) (hg:(w2.alloc o).grownBy w3 v.ownBlock) (hat:v.ownBlock=some g9∨g9=w2.heap.size+1):PO P w3 base (.slice (some ⟨g9,0,none⟩) (L.length+1) cap9) (L ++ [x]):=by
 have hFx:Fx (fun k=>v.ownBlock=some k) (w2.alloc o) w3:=Fx.of_grown hg
 have hfA:Fr w2 (w2.alloc o):=(Fr.refl w2).alloc o
 have hsz:w2.heap.size≤w3.heap.size:=As hfA.size hFx.size
 have key:∀ y,Tl P y w2→y.hi≤w2.heap.size→(∀ k,y.hi≤k→y.ok k)→(∀ g,v.ownBlock=some g→y.ok g)→Tl P y w3∧y.hi≤w3.heap.size∧(∀ k,y.hi≤k→y.ok k)∧∀ g,(Value.slice (some ⟨g9,0,none⟩) (L.length+1) cap9).ownBlock=some g→y.ok g:=fun y h1 h2 h4 h3=>
  ⟨(h1.fr hfA).step hFx (fun k e=>h3 k e),As h2 hsz,h4,fun g e=>by
    have e2:g9=g:=by simpa [Value.ownBlock] using e
    subst e2
    rcases hat with h | h
    ·exact h3 _ h
    ·exact h4 _ (by omega)⟩
 refine ⟨?_,fun y hy=>?_⟩
 ·rw [Ar]
  show w3.ownsRow base _ 5 _ (L.length+1) _
  unfold Lw at hown ⊢
  rw [ZW,List.flatMap_cons,List.flatMap_nil,BE]
  exact hown
 ·rcases BD.1 hy with hy | hy
  ·obtain ⟨h1,h2,h4,h3⟩:=h.el y hy
   exact key y h1 h2 h4 h3
  ·rw [AX.1 hy]
   exact key x hx hxh hxk hxv
theorem LN (w:World) (l:List Value) (t:TypeId):∀ (j:Nat) (u:Value),l[j]?=some u→(w.alloc (.cells l.toArray t)).cell? ((⟨w.heap.size,0,none⟩:Addr).add j)=some u:=by
 intro j u hu
 rw [show ((⟨w.heap.size,0,none⟩:Addr).add j)=⟨w.heap.size,j,none⟩ by simp [Addr.add]; exact fun h=>h.symm,A1 (CB w _)]
 simpa using hu
structure VP (P:List Int) (K:Nat) (w:World) (mb a b:Nat) (v:Value) (W:World):Prop where
 fr:Fr w W
 mlo:w.heap.size≤mb
 seen:D6 W mb ((I5 P K a b).map (O3 P))
 vm:v.ownBlock≠some mb
 po:∃ L,PO P W w.heap.size v L∧L.map PE.key=I5 P K a b∧∀ x,x ∈ L→x.ok mb
theorem VP.step {P:List Int} {K a b:Nat} {w W W':World} {mb:Nat} {v:Value} (h:VP P K w mb a b v W) (k:Fr W W'):VP P K w mb a b v W':=by
 obtain ⟨L,h1,h2,h3⟩:=h.po
 exact ⟨h.fr.trans k,h.mlo,h.seen.fr k,h.vm,L,h1.fr k,h2,h3⟩
theorem VP.skip {P:List Int} {K a b a' b':Nat} {w W:World} {mb:Nat} {v:Value} (h:VP P K w mb a b v W) (e:I5 P K a' b'=I5 P K a b):VP P K w mb a' b' v W:=by
 obtain ⟨L,h1,h2,h3⟩:=h.po
 exact ⟨h.fr,h.mlo,by rw [e]; exact h.seen,h.vm,L,h1,by rw [e]; exact h2,h3⟩
theorem O6:(Tryz.prog.info? 87).map (fun i=>(i.zero,i.size,i.bytes))=some (some (.agg #[.int .i64 0,.int .i64 0,.slice none 0 0,.slice none 0 0,.slice none 0 0]),5,88):=by kernel_rfl
theorem Vm (P:List Int) (aP:Option Addr) (cP:Nat) (l:Int) (w:World) (hP:El w iv aP P) (hp:BQ P=0) (hl:P.length≤1000000) (h:l < 1∨40 < l) :
 Calls Tryz.prog 42 #[.slice aP P.length cP,.int .i64 l] w fun e w'=>e=.returned (.tuple #[.slice none 0 0,.int .i64 3])∧Fr w w':=by
 have h1:=E5 P aP cP w hP hl
 rw [hp] at h1
 replace h1:=hZ h1
 generalize P.length=n at *
 clear hP hp hl
 by_cases h2:l < 1
 ·have d1:decide (l < 1)=true:=Ab h2
  go_enter Tryz.func42,Tryz.ntmps42
  go_wp2_with fail
  refine h1.out.mono ?_
  rintro e w1 ⟨rfl,hf1⟩
  go_wp2_with fail
  go_ret2
  exact ⟨rfl,hf1⟩
 ·have d1:decide (l < 1)=false:=Aa h2
  have d2:decide (40 < l)=true:=Ab (by omega)
  go_enter Tryz.func42,Tryz.ntmps42
  go_wp2_with fail
  refine h1.out.mono ?_
  rintro e w1 ⟨rfl,hf1⟩
  go_wp2_with fail
  go_ret2
  exact ⟨rfl,hf1⟩
theorem XQ {P:List Int} {a b:Nat} (ha:1≤a∧a≤400) (hb:1≤b∧b≤400):Wu P (a:Int) (b:Int)=PW P (a,b):=by
 unfold Wu PW
 rw [Ag (fun h=>by unfold Kq at h; omega)]
theorem OE {nm:ByteArray} {rows:List ByteArray} (hn:nm.size≤10) (h:∀ x,x ∈ rows→x.size≤1000) (hl:rows.length≤12):(Hy nm rows).length≤12100:=by
 have h1:=Je h rows.length
 unfold Hy
 have h3:(if rows.length=0 then ([110,111,110,101]:List UInt8) else []).length≤4:=by split <;> simp
 have h4:nm.data.toList.length≤10:=by rw [De]; exact hn
 have h5:rows.length * 1001≤12 * 1001:=AU _ hl
 rw [Ar,Ar]
 omega
theorem VY {P:List Int} {C M:List (List Int)} (hT:Tg P C M):(Tt P C M).length≤30000:=by
 have h1:=hT.n1
 have h4:=hT.n4
 have hPf:∀ x,x ∈ P→Bq x=true:=fun x hx=>by
  have h9:=(CV hT.prime).2.2 x hx
  unfold G5 at h9
  unfold Bq
  by_cases h:x < 2∨97 < x
  ·rw [Ai h] at h9; cases h9
  ·exact Ab (by omega)
 have e1:=ME P (by omega) (by omega) hPf
 have e2:=OE (nm:=⟨#[44,32,99,111,109,109,97,115,32]⟩) (rows:=C.map Ft) (by decide) (fun x hx=>by
  obtain ⟨r,hr,rfl⟩:=Bc.1 hx
  have hl:=hT.tabC.2.2.1 r hr
  exact K9 r (by omega) (by omega) (hT.tabC.2.2.2 r hr)) (by rw [An]; exact hT.tabC.1)
 have e3:=OE (nm:=⟨#[44,32,109,97,112,112,105,110,103,32]⟩) (rows:=M.map Ie) (by decide) (fun x hx=>by
  obtain ⟨r,hr,rfl⟩:=Bc.1 hx
  have hl:=hT.tabM.2.2.1 r hr
  exact Lc r (by omega) (by omega) (hT.tabM.2.2.2 r hr)) (by rw [An]; exact hT.tabM.1)
 unfold Tt
 have e4:(Nx P).data.toList.length≤1000:=by rw [De]; exact e1
 rw [Ar,Ar]
 omega
def LT (P:List Int) (K:Nat) (w:World) (e:Ending) (w':World):Prop:=∃ (v:Value) (L:List PE),e=.returned (.tuple #[v,.int .i64 0])∧PO P w' w.heap.size v L∧L.map PE.key=I5 P K (K+1) (K+2)∧Fr w w'
theorem S3 (j K:Nat) (aP:Option Addr) (cP:Nat) (w:World) (hG:G w) (hE:LW w) (hK:1≤K∧K≤7) (hP:El w iv aP (AV j)) :
 Calls Tryz.prog 42 #[.slice aP (AV j).length cP,.int .i64 K] w (LT (AV j) K w):=by
 obtain ⟨i0,hi,hz0,hz1,hz2⟩:=AZ O6
 have hmm:=@run_makeMap Tryz.prog
 obtain ⟨hp,hp1,hp4⟩:BQ (AV j)=0∧1≤(AV j).length∧(AV j).length≤4:=Ny j
 have hck:=fun W (hW:Fr w W)=>E5 (AV j) aP cP W (hP.fr hW) (by omega)
 rw [hp] at hck
 have hkT:=fun a b (h1:a+1≤b)=>Uk (P:=AV j) (k:=K) (a:=a) (b:=b) h1
 have hdv:Hid (∀ (a b:Nat) W,(1≤a∧a≤7)→(1≤b∧b≤7)→Fr w W→Calls Tryz.prog 13 #[.slice aP (AV j).length cP,.int .i64 a,.int .i64 b] W (PC W (PW (AV j) (a,b)) (AV j) (Ii (AV j) (a,b)) (Ix (AV j) (a,b)))):=fun a b W h1 h2 hW=>by
  have h3:=hP.fr hW
  have h4:=Iu j (k:=a) h1.1 (by omega)
  have h5:=Iu j (k:=b) h2.1 (by omega)
  rw [← XQ (P:=AV j) (a:=a) (b:=b) (by omega) (by omega)]
  show Calls _ _ _ W (PC W (Wu (AV j) a b) (AV j) (jA (AV j) (BM (AV j) (a:Int)) (BM (AV j) (b:Int))) (jS (AV j) (BM (AV j) (a:Int)) (BM (AV j) (b:Int))))
  generalize AV j=P at *
  cases P with
  | nil=>simp at hp1
  | cons p0 r=>exact Im p0 r aP cP a b W (hG.fr hW) (hE.fr hW) hp hp4 h3 (.inr ⟨by omega,h4⟩) (.inr ⟨by omega,h5⟩)
 have htx:Hid (∀ (a b:Nat) (W:World) (pa ca ma:Option Addr) (pc cc mc:Nat),(1≤a∧a≤7)→(1≤b∧b≤7)→PW (AV j) (a,b)=0→Fr w W→El W iv pa (AV j)→A5 W ca (Ii (AV j) (a,b))→A5 W ma (Ix (AV j) (a,b))→(Ii (AV j) (a,b)).length≤cc →
  Calls Tryz.prog 82 #[.agg #[.slice pa (AV j).length pc,.slice ca (Ii (AV j) (a,b)).length cc,.slice ma (Ix (AV j) (a,b)).length mc]] W fun e w'=>e=.returned (.tuple #[.string (O3 (AV j) (a,b)),.int .i64 0])∧Fr W w'):=fun a b W pa ca ma pc cc mc h1 h2 h3 hW k1 k2 k3 k4=>by
  have hl:∀ s:Int,(BM (AV j) s).length=(AV j).length:=fun s=>Fg _ _
  have hf:∀ s:Nat,(1≤s∧s≤7)→∀ y,y ∈ BM (AV j) (s:Int)→Bq y=true:=fun s hs=>Gq (Iu j hs.1 (by omega)) (by omega)
  have hT:Tg (AV j) (Ii (AV j) (a,b)) (Ix (AV j) (a,b)):=I6 hp1 hp4 hp (hl _) (hl _) (hf a h1) (hf b h2) (O4 h3).1
  exact Va (AV j) _ _ pa ca ma pc cc mc W (hG.fr hW) (RR.of (hG.fr hW) k1 k2 k3 k4 hT.w) hp
 have hz:Hid (∀ a b:Nat,(1≤a∧a < b)→b≤7→PW (AV j) (a,b)=0∨PW (AV j) (a,b)=18):=fun a b h1 h2=>Ry j (I4 h1.1 h1.2 h2)
 have hTs:Hid (∀ a b:Nat,(1≤a∧a≤7)→(1≤b∧b≤7)→PW (AV j) (a,b)=0→(O3 (AV j) (a,b)).size≤maxLen):=fun a b h1 h2 h3=>by
  have hl:∀ s:Int,(BM (AV j) s).length=(AV j).length:=fun s=>Fg _ _
  have hf:∀ s:Nat,(1≤s∧s≤7)→∀ y,y ∈ BM (AV j) (s:Int)→Bq y=true:=fun s hs=>Gq (Iu j hs.1 (by omega)) (by omega)
  have hT:Tg (AV j) (Ii (AV j) (a,b)) (Ix (AV j) (a,b)):=I6 hp1 hp4 hp (hl _) (hl _) (hf a h1) (hf b h2) (O4 h3).1
  have h9:=VY hT
  show (Tt (AV j) (Ii (AV j) (a,b)) (Ix (AV j) (a,b))).toArray.size≤_
  rw [BL]
  unfold maxLen
  omega
 have hlen:Hid (∀ a b,a≤K+1→b≤K+1→(I5 (AV j) K a b).length≤100):=fun a b h1 h2=>Rt hK.2 h1 h2
 have hrow:Hid (∀ a,1≤a→I5 (AV j) K a (K+1)=I5 (AV j) K (a+1) (a+1+1)):=fun a h=>Rs h
 have h00:I5 (AV j) K 1 2=[]:=rfl
 generalize AV j=P at *
 unfold LT
 obtain ⟨n,hn⟩:∃ n,n=P.length:=⟨_,rfl⟩
 unfold PC at hdv
 rw [← hn] at hck hdv htx ⊢
 replace hn:=hZ hn
 replace hck:=hZ hck
 replace hkT:=hZ hkT
 obtain ⟨hK1,hK7⟩:=hK
 have d1:decide ((K:Int) < 1)=false:=Aa (by omega)
 have d2:decide ((40:Int) < (K:Int))=false:=Aa (by omega)
 clear hp hp1 hp4 hG hE hP
 go_enter Tryz.func42,Tryz.ntmps42
 go_wp2_with fail
 refine (hck.out _ (Fr.refl _)).mono ?_
 rintro e w1 ⟨rfl,hf1⟩
 go_upto_region 8 with (fail)
 have hsn0:=D6.nil w1
 obtain ⟨w2,hw2⟩:∃ w2,w2=w1.alloc (.map #[] 0):=⟨_,rfl⟩
 have hf2:Fr w1 w2:=by rw [hw2]; exact (Fr.refl _).alloc _
 rw [← hw2] at hsn0 ⊢
 clear hw2
 obtain ⟨mb,hmb⟩:∃ mb,mb=w1.heap.size:=⟨_,rfl⟩
 rw [← hmb] at hsn0 ⊢
 have hI0:VP P K w mb 1 2 (.slice none 0 0) w2:=⟨hf1.trans hf2,by rw [hmb]; exact hf1.size,by rw [h00]; exact hsn0,by simp [Value.ownBlock],[],PO.nil _ _ _,by rw [h00]; rfl,fun x h=>by simp at h⟩
 replace hI0:=hZ hI0
 replace hmb:=hZ hmb
 clear hmm hf1 hf2 hsn0 h00 hck
 go_wp2_with fail
 go_loopg [7,9] K (fun k s7 s9 wr=>∃ a:Nat,s9=.int .i64 a∧1≤a∧a+k=K+1∧Hid (VP P K w mb a (a+1) s7 wr))
 case atStart=>exact ⟨1,rfl,by omega,by omega,hI0⟩
 case round=>
  clear hI0
  rename_i v0
  obtain ⟨a,rfl,ha1,hak,hI⟩:=hrel
  obtain ⟨wo,rfl⟩:∃ wo:World,wo=wr:=⟨_,rfl⟩
  obtain ⟨ko,rfl⟩:∃ ko:Nat,ko=gk:=⟨_,rfl⟩
  by_cases haK:a≤K
  ·have hd:decide ((a:Int)≤(K:Int))=true:=Ab (by omega)
   have hdN:decide (a≤K)=true:=Ab haK
   have k1:IntKind.i64.wrap ((a:Int)+1)=((a+1:Nat):Int):=by rw [show (a:Int)+1=((a+1:Nat):Int) by omega]; exact Ak _ (by omega)
   go_wp2_with fail
   go_loopg [7,10] (K - a) (fun k s7 s10 wr2=>∃ b:Nat,s10=.int .i64 b∧a+1≤b∧b+k=K+1∧Hid (VP P K w mb a b s7 wr2))
   case atStart=>exact ⟨a+1,by first | rfl | go_num,by omega,by omega,hI⟩
   case round=>
    clear hI
    obtain ⟨b,rfl,hab,hbk,hJ⟩:=hrel
    obtain ⟨v,rfl⟩:∃ v:Value,v=u7:=⟨_,rfl⟩
    obtain ⟨W0,rfl⟩:∃ W:World,W=wr:=⟨_,rfl⟩
    by_cases hbK:b≤K
    ·have he:decide ((b:Int)≤(K:Int))=true:=Ab (by omega)
     have heN:decide (b≤K)=true:=Ab hbK
     have k2:IntKind.i64.wrap ((b:Int)+1)=((b+1:Nat):Int):=by rw [show (b:Int)+1=((b+1:Nat):Int) by omega]; exact Ak _ (by omega)
     have hdw:=hZ (hdv.out a b W0 (by omega) (by omega) hJ.out.fr)
     have hnx:=hZ (hkT.out a b hab)
     have hzw:=hz.out a b (by omega) (by omega)
     have htw:=hZ (fun W pa ca ma pc cc mc=>htx.out a b W pa ca ma pc cc mc (by omega) (by omega))
     have hTw:=hZ (hTs.out a b (by omega) (by omega))
     obtain ⟨E,hE9⟩:∃ E,E=PW P (a,b):=⟨_,rfl⟩
     rw [← hE9] at hdw hzw htw hTw
     replace hE9:=hZ hE9
     obtain ⟨A,hA⟩:∃ A,A=Ii P (a,b):=⟨_,rfl⟩
     obtain ⟨S,hS⟩:∃ S,S=Ix P (a,b):=⟨_,rfl⟩
     rw [← hA,← hS] at hdw htw
     replace hA:=hZ hA
     replace hS:=hZ hS
     obtain ⟨T,hT⟩:∃ T,T=O3 P (a,b):=⟨_,rfl⟩
     rw [← hT] at htw hTw
     replace hT:=hZ hT
     go_wp2_with fail
     refine hdw.out.mono ?_
     rintro e w3 ⟨hf3,hok,hno⟩
     have hJ3:=hZ (hJ.out.step hf3)
     rcases hzw with hE0 | hE0
     case inr=>
      subst hE0
      obtain rfl:=hno (by decide)
      clear hok hno hdw htw hTw
      obtain ⟨w4,hw4⟩:∃ W,W=w3.alloc (.cells #[.slice none 0 0,.slice none 0 0,.slice none 0 0] 29):=⟨_,rfl⟩
      have hf4:Fr w3 w4:=by rw [hw4]; exact (Fr.refl _).alloc _
      have hJ4:=hJ3.out.step hf4
      have hJ5:=hZ (hJ4.skip (a':=a) (b':=b+1) (by rw [hnx.out]; unfold F8; rw [Ai hE9.out.symm]))
      clear hJ4 hJ3
      go_upto_region 15 with (fail)
      rw [← hw4]
      clear hw4
      go_wp2_with fail
      go_roundg (gk - 1)
      case measure=>omega
      case rel=>exact ⟨b+1,by first | rfl | go_num,by omega,by omega,hJ5⟩
     subst hE0
     obtain ⟨pa,pc,ca,cc,ma,mc,rfl,hel,hmc,hmm,hcc,-⟩:=hok (by trivial)
     clear hok hno hdw
     obtain ⟨x,hx⟩:∃ x:PE,x=⟨a,b,pa,pc,ca,cc,ma,mc,fun k=>k < W0.heap.size∨w3.heap.size≤k,w3.heap.size⟩:=⟨_,rfl⟩
     have hpe:Tl P x w3:=fun W' hW=>by
      rw [hx] at hW ⊢
      have hW':Fx (· < W0.heap.size) w3 W':=⟨hW.os,hW.tape,hW.output,hW.size,fun k hk hn=>hW.block k hk (fun e=>by rcases e with e | e; exact hn e; exact absurd hk (by show ¬ k < w3.heap.size; exact Nat.not_lt.2 e))⟩
      exact ⟨hel W' hW',by rw [show Ii P (PE.key ⟨a,b,pa,pc,ca,cc,ma,mc,fun k=>k < W0.heap.size∨w3.heap.size≤k,w3.heap.size⟩)=A from hA.out.symm]; exact hmc W' hW',by rw [show Ix P (PE.key ⟨a,b,pa,pc,ca,cc,ma,mc,fun k=>k < W0.heap.size∨w3.heap.size≤k,w3.heap.size⟩)=S from hS.out.symm]; exact hmm W' hW'⟩
     obtain ⟨w4,hw4⟩:∃ W,W=w3.alloc (.cells #[.slice pa n pc,.slice ca A.length cc,.slice ma S.length mc] 29):=⟨_,rfl⟩
     have hf4:Fr w3 w4:=by rw [hw4]; exact (Fr.refl _).alloc _
     have hB4:=C3.new w3 (.slice pa n pc) (.slice ca A.length cc) (.slice ma S.length mc) 29
     rw [← hw4] at hB4
     obtain ⟨tb,htb⟩:∃ q,q=w3.heap.size:=⟨_,rfl⟩
     rw [← htb] at hB4
     have t0:=hB4.a
     have t1:=hB4.b
     have t2:=hB4.c
     have htm:tb≠mb:=by have:=hJ3.out.seen.lt; omega
     have hJ4:=hJ3.out.step hf4
     have htx4:=hZ (htw.out w4 pa ca ma pc cc mc rfl hJ4.fr (hel w4 (Fx.of_fr hf4)) (hmc w4 (Fx.of_fr hf4)) (hmm w4 (Fx.of_fr hf4)) hcc)
     have hTl:=hTw.out rfl
     replace hJ4:=hZ hJ4
     replace hpe:=hZ hpe
     clear hel hmc hmm hcc htw hTw hJ3 hB4
     go_upto_region 15 with (fail)
     rw [← hw4,← htb]
     clear hw4
     replace htb:=hZ htb
     go_wp2_with fail
     refine htx4.out.mono ?_
     rintro e w5 ⟨rfl,hf5⟩
     have hJ5:=hJ4.out.step hf5
     have hpe5:=(hpe.out.fr hf4).fr hf5
     have hmb5:=hJ5.seen.lt
     have hmb0:=hJ.out.seen.lt
     have hsn5:=hZ hJ5.seen
     have hkl:(I5 P K a b).length≤100:=hlen.out a b (by omega) (by omega)
     have hlk:((I5 P K a b).map (O3 P)).length≤1000000:=by rw [An]; omega
     replace t0:=hf5.keep t0
     replace t1:=hf5.keep t1
     replace t2:=hf5.keep t2
     have hs5:=(hf4.trans hf5).size
     obtain ⟨c,hc⟩:∃ c,c=(((I5 P K a b).map (O3 P)).any fun y=>y.toList == T.toList):=⟨_,rfl⟩
     have hkeep:Hid (I5 P K a (b+1)=if c=true then I5 P K a b else I5 P K a b ++ [(a,b)]):=by
      show _=_
      rw [hnx.out,hc,hT.out]
      unfold F8
      rw [Ag (by rw [← hE9.out]; decide)]
     replace hc:=hZ hc
     clear htx4 hJ4 hpe
     cases c with
     | true=>
       have hJ6:=hZ (hJ5.skip (a':=a) (b':=b+1) (by rw [hkeep.out,Ai rfl]))
       clear hJ5 hpe5
       go_wp2_with (at_lookup; refine J3 _ mb _ T true rfl _ _ rfl (by rfl) (by rfl) hsn5.out hTl hc.out.symm ?_)
       go_roundg (gk - 1)
       case measure=>omega
       case rel=>exact ⟨b+1,by first | rfl | go_num,by omega,by omega,hJ6⟩
     | false=>
       have hv0:Hid (∀ g,v.ownBlock=some g→g < W0.heap.size):=by
        obtain ⟨L0,hPO0,-,-⟩:=hJ.out.po
        exact fun g e=>(hPO0.own.lt g e).2
       obtain ⟨L,hPO,hLk,hLo⟩:=hJ5.po
       have hvm:=hJ5.vm
       have hmlo:=hJ5.mlo
       have hfr5:=hJ5.fr
       have hvl:=fun g e=>(hPO.own.lt g e)
       have hLl:L.length≤100:=by rw [← An (f:=PE.key),hLk]; exact hkl
       replace hPO:=hZ hPO
       replace hLk:=hZ hLk
       replace hLo:=hZ hLo
       replace hvm:=hZ hvm
       replace hvl:=hZ hvl
       replace hpe5:=hZ hpe5
       clear hJ5
       go_wp2_with (first
        | (at_lookup; refine J3 _ mb _ T false rfl _ _ rfl (by rfl) (by rfl) hsn5.out hTl hc.out.symm ?_)
        | (at_mapUpdate; refine P4 _ mb _ T rfl _ _ _ rfl (by rfl) (by rfl) (by rfl) hsn5.out hlk hTl ?_; intro w6 hsn6 hfx6; have t0:=hfx6.keep t0 htm; have t1:=hfx6.keep t1 htm; have t2:=hfx6.keep t2 htm; replace hsn6:=hZ hsn6; have hfr6:Fr w w6:=((Fx.of_fr hfr5).trans hfx6).toFr (fun k hk e=>by have e:k=mb:=e; omega); have hPO6:=hZ (hPO.out.fx hfx6 (fun g hg e=>hvm.out (by rw [hg,e])) (fun y hy k e=>by have e:k=mb:=e; rw [e]; exact hLo.out y hy)); have hpe6:=hZ (hpe5.out.step hfx6 (fun k e=>by have e:k=mb:=e; rw [hx]; left; show k < W0.heap.size; omega)); have hs6:=hfx6.size; have hown6:=hZ hPO6.out.own; replace hfr6:=hZ hfr6)
        | (at_builtin; refine wpList_append_lies _ rfl _ _ 83 (by rfl) _ 87 _ _ 5 88 Tryz.underlying83 hi hz0 hz1 hz2 rfl (by decide) _ L.length _ (by rfl) (hown6.out.alloc _) ⟨w6.heap.size,0,none⟩ 1 1 [.int .i64 a,.int .i64 b,.slice pa n pc,.slice ca A.length cc,.slice ma S.length mc] (by rfl) rfl (LN w6 [.int .i64 a,.int .i64 b,.slice pa n pc,.slice ca A.length cc,.slice ma S.length mc] _) (by simp [Value.oneCell']) (by decide) (by unfold maxLen; omega) (by omega) (by rw [AF]; have:=hfr6.out.size; omega) (w6.heap.size+1) (by simp) ?_; intro gA capA wA hownA hgrowA hatA hltA))
       have hcs:[.int .i64 a,.int .i64 b,.slice pa n pc,.slice ca A.length cc,.slice ma S.length mc]=PE.cs P x:=by
        rw [hx]
        unfold PE.cs PE.key
        rw [← hn.out,← hA.out,← hS.out]
       have hpush:=PO.push hPO6.out hpe6.out (by rw [hx]; show w3.heap.size≤_; omega) (fun k hk=>by rw [hx] at hk ⊢; exact .inr hk) (fun g e=>by rw [hx]; exact .inl (hv0.out g e)) (by rw [← hcs]; exact hownA) hgrowA hatA
       have hFr9:Fr w wA:=(hfr6.out.alloc _).grown hgrowA (fun k e=>(hvl.out k e).1)
       have hsn9:D6 wA mb ((I5 P K a b).map (O3 P) ++ [T]):=(hsn6.out.fr ((Fr.refl w6).alloc _)).fx (Fx.of_grown hgrowA) (fun e=>hvm.out e)
       have hkp:I5 P K a (b+1)=I5 P K a b ++ [(a,b)]:=by rw [hkeep.out,Ag (by decide)]
       have hJ9:VP P K w mb a (b+1) (.slice (some ⟨gA,0,none⟩) (L.length+1) capA) wA:=⟨hFr9,hmlo,by rw [hkp,Ay,J0,L4,← hT.out]; exact hsn9,fun e=>by
        have e2:gA=mb:=by simpa [Value.ownBlock] using e
        rcases hatA with h | h
        ·exact hvm.out (by rw [h,e2])
        ·omega,L ++ [x],hpush,by rw [Ay,hLk.out,hkp,hx]; rfl,fun y hy=>by
        rcases BD.1 hy with hy | hy
        ·exact hLo.out y hy
        ·rw [AX.1 hy,hx]; exact .inl hmb0⟩
       replace hJ9:=hZ hJ9
       clear hpush hFr9 hsn9 hkp hcs
       go_wp2_with fail
       go_roundg (gk - 1)
       case measure=>omega
       case rel=>exact ⟨b+1,by first | rfl | go_num,by omega,by omega,hJ9⟩
    ·obtain rfl:b=K+1:=by omega
     have he:decide (((K+1:Nat):Int)≤(K:Int))=false:=Aa (by omega)
     have heN:decide (K+1≤K)=false:=Aa (by omega)
     have hJ2:=hZ (hJ.out.skip (a':=a+1) (b':=a+1+1) (hrow.out a ha1).symm)
     go_wp2_with fail
     go_roundg (ko - 1)
     case measure=>omega
     case rel=>exact ⟨a+1,by first | rfl | go_num,by omega,by omega,hJ2⟩
  ·obtain rfl:a=K+1:=by omega
   have hd:decide (((K+1:Nat):Int)≤(K:Int))=false:=Aa (by omega)
   have hdN:decide (K+1≤K)=false:=Aa (by omega)
   go_wp2_with fail
   go_ret2
   obtain ⟨L,q1,q2,-⟩:=hI.out.po
   exact ⟨_,L,rfl,q1,q2,hI.out.fr⟩
end Go.Proofs.YtiniigadkknboaaGreatDoor
