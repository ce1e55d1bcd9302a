/- Contracts and laws: FBS. -/
import Derived.Test.YtiniigadkknboaaGreatDoorFBF
import Derived.Test.YtiniigadkknboaaGreatDoorFAC
import Derived.Test.YtiniigadkknboaaGreatDoorFAI

namespace Go.Proofs.YtiniigadkknboaaGreatDoor
open Go.RowKit Go.Lib
def Bd (A B:Nat) (q:Rat):Prop:=∃ x y:Int,q=Rat.divInt x y∧y≠0∧x.natAbs≤A∧y.natAbs≤B
theorem e8:100000000≤10 ^ 255:=by decide +kernel
def Tz (n:Int):Prop:=Bn 2000 n
@[irreducible] instance decTz (n:Int):Decidable (Tz n):=inferInstanceAs (Decidable (Bn _ _))
theorem tzR {n:Int} (h:n.natAbs < 10 ^ 255):Tz n:=(show Bn 255 n from h).mono (by decide)
structure EZ where
 m:List (List Int)
 piv:List Nat
 last:Int
 odd:Bool
def E6 (m:List (List Int)) (i:Nat):List Int:=(m[i]?).getD []
def FH (m:List (List Int)) (i c:Nat):Int:=((E6 m i)[c]?).getD 0
def V8 (p f l x y:Int):Int:=(p * x - f * y).fdiv l
def G8 (p f l:Int) (xs ys:List Int):List Int:=List.zipWith (V8 p f l) xs ys
def EM (m:List (List Int)) (p l:Int) (d c:Nat):Nat→List (List Int)
 | 0=>m
 | i+1=>if i=d then EM m p l d c i else (EM m p l d c i).set i (G8 p (FH (EM m p l d c i) i c) l (E6 (EM m p l d c i) i) (E6 (EM m p l d c i) d))
def HU (m:List (List Int)) (c k:Nat):Nat:=k+(m.drop k).findIdx fun r=>decide ((r[c]?).getD 0≠0)
def ET (m:List (List Int)) (k a:Nat):List (List Int):=if a=k then m else Ep m a k
def WU (m:List (List Int)):Bool:=m.all fun r=>r.all fun x=>decide (Tz x)
def Gx (c:Nat) (s:EZ):Option EZ :=
 if s.piv.length < s.m.length then
  if HU s.m c s.piv.length=s.m.length then some s else
   if WU s.m=true∧Tz s.last∧s.last≠0 then
    some ⟨EM (ET s.m s.piv.length (HU s.m c s.piv.length)) (FH (ET s.m s.piv.length (HU s.m c s.piv.length)) s.piv.length c) s.last s.piv.length c s.m.length,s.piv ++ [c],
     FH (ET s.m s.piv.length (HU s.m c s.piv.length)) s.piv.length c,s.odd != decide (HU s.m c s.piv.length≠s.piv.length)⟩
   else none
 else some s
def Kx (m:List (List Int)):Nat→Option EZ
 | 0=>some ⟨m,[],1,false⟩
 | c+1=>(Kx m c).bind (Gx c)
example:(Kx [[2,1],[4,3]] 2).map (fun s=>(s.m,s.piv,s.last,s.odd))=some ([[2,0],[0,2]],[0,1],2,false):=by decide +kernel
example:(Kx [[0,1],[4,3]] 2).map (fun s=>(s.m,s.piv,s.last,s.odd))=some ([[4,0],[0,4]],[0,1],4,true):=by decide +kernel
example:(Kx [[0,0],[4,3]] 2).map (fun s=>(s.m,s.piv,s.last,s.odd))=some ([[4,3],[0,0]],[0],4,true):=by decide +kernel
theorem JJ {f:Int→Int→Int}:∀ {xs ys:List Int} {z:Int},z ∈ List.zipWith f xs ys→∃ x y,x ∈ xs∧y ∈ ys∧z=f x y
 | [],_,z,h=>by simp at h
 | _ :: _,[],z,h=>by simp at h
 | x :: xs,y :: ys,z,h=>by
   rw [List.zipWith_cons_cons] at h
   rcases Bv.1 h with e | h
   ·exact ⟨x,y,Cz,Cz,e⟩
   ·obtain ⟨a,b,ha,hb,e⟩:=JJ h
    exact ⟨a,b,CA _ ha,CA _ hb,e⟩
theorem XF {B:Nat} {p f l x y:Int} (hp:p.natAbs≤B) (hf:f.natAbs≤B) (hx:x.natAbs≤B) (hy:y.natAbs≤B):(V8 p f l x y).natAbs≤2 * (B * B):=by
 refine Ar (Int.natAbs_fdiv_le_natAbs _ _) ?_
 have h1:(p * x).natAbs≤B * B:=by rw [AZ]; exact Az hp hx
 have h2:(f * y).natAbs≤B * B:=by rw [AZ]; exact Az hf hy
 omega
theorem Hb (m:List (List Int)) (p l:Int) (d c:Nat):∀ t,(EM m p l d c t).length=m.length
 | 0=>rfl
 | t+1=>by
   rw [EM]
   split
   ·exact Hb m p l d c t
   ·rw [A4]; exact Hb m p l d c t
theorem MB (m:List (List Int)) (p l:Int) (d c:Nat):∀ (t j:Nat),(EM m p l d c t)[j]?=if j < t∧j≠d then m[j]?.map fun r=>G8 p ((r[c]?).getD 0) l r (E6 m d) else m[j]?
 | 0,j=>by rw [Ae (by omega)]; rfl
 | t+1,j=>by
   have ih:=MB m p l d c t
   rw [EM]
   by_cases h:t=d
   ·rw [Ai h,ih j]
    by_cases hj:j < t∧j≠d
    ·rw [Ai hj,Ai (by omega)]
    ·rw [Ae hj,Ae (by omega)]
   ·rw [Ae h,BZ]
    have h1:E6 (EM m p l d c t) d=E6 m d:=by unfold E6; rw [ih d,Ae (by omega)]
    have h2:E6 (EM m p l d c t) t=E6 m t:=by unfold E6; rw [ih t,Ae (by omega)]
    by_cases hj:t=j
    ·subst hj
     rw [Ai rfl,Ai (by omega:t < t+1∧t≠d),Hb]
     unfold FH
     rw [h1,h2]
     by_cases hl:t < m.length
     ·rw [Ai hl]; unfold E6; rw [Ac hl]; rfl
     ·rw [Ae hl,AG (by omega)]; rfl
    ·rw [Ae hj,ih j]
     by_cases hk:j < t∧j≠d
     ·rw [Ai hk,Ai (by omega)]
     ·rw [Ae hk,Ae (by omega)]
theorem Pr {α:Type} {l:List α} {i j:Nat} {x:α} (h:x ∈ Ep l i j):x ∈ l:=by
 unfold Ep at h
 split at h
 ·rename_i a b h1 h2
  rcases Cj h with h | e
  ·rcases Cj h with h | e
   ·exact h
   ·rw [e]; exact Af h2
  ·rw [e]; exact Af h1
 ·exact h
theorem Np (m:List (List Int)) (k a:Nat):(ET m k a).length=m.length:=by
 unfold ET Ep; split
 ·rfl
 ·split
  ·rw [A4,A4]
  ·rfl
theorem Wi (m:List (List Int)) (c k:Nat) (h:k≤m.length):k≤HU m c k∧HU m c k≤m.length:=by
 unfold HU
 have:=List.findIdx_le_length (xs:=m.drop k) (p:=fun r=>decide ((r[c]?).getD 0≠0))
 rw [CS] at this
 omega
theorem Y3 {m:List (List Int)} {c k:Nat} (h:k≤m.length) (hlt:HU m c k≠m.length):FH m (HU m c k) c≠0:=by
 have hle:=Wi m c k h
 unfold HU at hlt hle ⊢
 have hl:(m.drop k).findIdx (fun r=>decide ((r[c]?).getD 0≠0)) < (m.drop k).length:=by rw [CS]; omega
 have:=List.findIdx_getElem (xs:=m.drop k) (p:=fun r=>decide ((r[c]?).getD 0≠0)) (w:=hl)
 have:=AV this
 unfold FH E6
 rw [List.getElem_drop] at this
 rw [CS] at hl
 rw [Ac (show _ < m.length by omega)]
 exact this
theorem TA {m:List (List Int)} {k a c:Nat} (hk:k < m.length) (ha:a < m.length):FH (ET m k a) k c=FH m a c:=by
 unfold ET; split
 ·rename_i e; rw [e]
 ·rename_i e
  unfold FH E6 Ep
  rw [Ac hk,Ac ha]
  simp only [BZ,A4,hk,if_true]
theorem TC {c:Nat} {s s':EZ} (h:Gx c s=some s'):s'.piv.length≤s.piv.length+1∧s.piv.length≤s'.piv.length:=by
 unfold Gx at h
 split at h
 ·split at h
  ·injection h with h; subst h; omega
  ·split at h
   ·injection h with h; subst h; show (s.piv ++ [c]).length≤_∧_≤(s.piv ++ [c]).length; rw [AB]; simp
   ·cases h
 ·injection h with h; subst h; omega
theorem S0 {m:List (List Int)}:∀ {n:Nat} {s:EZ},Kx m n=some s→s.piv.length≤n
 | 0,s,h=>by injection h with h; subst h; exact Ah _
 | n+1,s,h=>by
   rw [Kx] at h
   obtain ⟨s1,h1,h2⟩:=A1.1 h
   have:=S0 h1
   have:=(TC h2).1
   omega

attribute [local go_sem ↓] Go.wp_at_zero Go.wp_at_succ



end Go.Proofs.YtiniigadkknboaaGreatDoor
