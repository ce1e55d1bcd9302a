/- Contracts and laws: RChk. -/
import Derived.Test.YtcglmebcfeoedaaGreatDoorRB
import Derived.Test.YtcglmebcfeoedaaGreatDoorRE
import Derived.Test.YtcglmebcfeoedaaGreatDoorRD
import Derived.Test.YtcglmebcfeoedaaGreatDoorRKn
import Derived.Test.YtcglmebcfeoedaaGreatDoorRH

namespace Go.Proofs.YtcglmebcfeoedaaGreatDoor
open Go.RowKit Go.Lib
attribute [local go_sem ↓] Go.wp_at_zero Go.wp_at_succ

def Bd (A B:Nat) (q:Rat):Prop:=∃ x y:Int,q=Rat.divInt x y∧y≠0∧x.natAbs≤A∧y.natAbs≤B
theorem Bd.mono {A B A' B':Nat} {q:Rat} (h:Bd A B q) (h1:A≤A') (h2:B≤B'):Bd A' B' q:=by
 obtain ⟨x,y,e,h0,hx,hy⟩:=h; exact ⟨x,y,e,h0,by omega,by omega⟩
theorem Bd.int {A:Nat} (n:Int) (h:n.natAbs≤A):Bd A 1 (n:Rat):=⟨n,1,by have:=Rat.num_divInt_den (n:Rat); rw [Rat.num_intCast,Rat.den_intCast] at this; exact this.symm,by decide,h,by decide⟩
theorem Bd.mul {A B C D:Nat} {p q:Rat} (h:Bd A B p) (k:Bd C D q):Bd (A * C) (B * D) (p * q):=by
 obtain ⟨x,y,rfl,h0,hx,hy⟩:=h
 obtain ⟨u,v,rfl,k0,hu,hv⟩:=k
 exact ⟨x * u,y * v,by rw [Rat.divInt_mul_divInt],Int.mul_ne_zero h0 k0,by rw [Int.natAbs_mul]; exact Nat.mul_le_mul hx hu,by rw [Int.natAbs_mul]; exact Nat.mul_le_mul hy hv⟩
theorem Bd.sub {A B C D:Nat} {p q:Rat} (h:Bd A B p) (k:Bd C D q):Bd (A * D+C * B) (B * D) (p - q):=by
 obtain ⟨x,y,rfl,h0,hx,hy⟩:=h
 obtain ⟨u,v,rfl,k0,hu,hv⟩:=k
 refine ⟨x * v - u * y,y * v,by rw [Rat.divInt_sub_divInt _ _ h0 k0],Int.mul_ne_zero h0 k0, ?_,by rw [Int.natAbs_mul]; exact Nat.mul_le_mul hy hv⟩
 have h1:(x * v).natAbs≤A * D:=by rw [Int.natAbs_mul]; exact Nat.mul_le_mul hx hv
 have h2:(u * y).natAbs≤C * B:=by rw [Int.natAbs_mul]; exact Nat.mul_le_mul hu hy
 omega
theorem Bd.neg {A B:Nat} {p:Rat} (h:Bd A B p):Bd A B (-p):=by
 obtain ⟨x,y,rfl,h0,hx,hy⟩:=h
 exact ⟨-x,y,by rw [Rat.neg_divInt],h0,by rw [Int.natAbs_neg]; exact hx,hy⟩
theorem Bd.tq {A B:Nat} {q:Rat} (h:Bd A B q) (h1:A < 100000000) (h2:B < 100000000):Tq q:=by
 obtain ⟨x,y,rfl,h0,hx,hy⟩:=h
 have e1:(Rat.divInt x y).num.natAbs≤A:=by
  rw [Rat.num_divInt]
  refine Nat.le_trans (Int.natAbs_ediv_le_natAbs _ _) ?_
  rw [Int.natAbs_mul,Int.natAbs_sign_of_ne_zero h0,Nat.one_mul]; exact hx
 have e2:(Rat.divInt x y).den≤B:=by
  rw [Rat.den_divInt,if_neg h0]
  exact Nat.le_trans (Nat.div_le_self _ _) hy
 unfold Tq Ti
 omega
theorem subOk_of {f x y:Rat} (h1:Tq f) (h2:Tq y) (h3:Tq (f * y)) (h4:Tq x):subOk f x y=true:=decide_eq_true ⟨h1,h2,h3,h4⟩
theorem Bd.zero:Bd 0 1 (0:Rat):=Bd.int 0 (by decide)
theorem Bd.one:Bd 1 1 (1:Rat):=Bd.int 1 (by decide)
theorem Bd.q {A B:Nat} {q:Rat} (h:Bd A B q) (h1:A < 100000000:=by decide) (h2:B < 100000000:=by decide):Tq q:=h.tq h1 h2
instance (n:Int):Decidable (Ti n):=inferInstanceAs (Decidable (_∧_))
structure EZ where
 m:List (List Int)
 piv:List Nat
 last:Int
 odd:Bool
def rowZ (m:List (List Int)) (i:Nat):List Int:=(m[i]?).getD []
def entZ (m:List (List Int)) (i c:Nat):Int:=((rowZ m i)[c]?).getD 0
def cmbZ (p f l x y:Int):Int:=(p * x - f * y).fdiv l
def combZ (p f l:Int) (xs ys:List Int):List Int:=List.zipWith (cmbZ p f l) xs ys
def clrZ (m:List (List Int)) (p l:Int) (d c:Nat):Nat→List (List Int)
 | 0=>m
 | i+1=>if i=d then clrZ m p l d c i else (clrZ m p l d c i).set i (combZ p (entZ (clrZ m p l d c i) i c) l (rowZ (clrZ m p l d c i) i) (rowZ (clrZ m p l d c i) d))
def atZ (m:List (List Int)) (c k:Nat):Nat:=k+(m.drop k).findIdx fun r=>decide ((r[c]?).getD 0≠0)
def swapZ (m:List (List Int)) (k a:Nat):List (List Int):=if a=k then m else swp m a k
def tiM (m:List (List Int)):Bool:=m.all fun r=>r.all fun x=>decide (Ti x)
def stepZ (c:Nat) (s:EZ):Option EZ :=
 if s.piv.length < s.m.length then
  if atZ s.m c s.piv.length=s.m.length then some s else
   if tiM s.m=true∧Ti s.last∧s.last≠0 then
    some ⟨clrZ (swapZ s.m s.piv.length (atZ s.m c s.piv.length)) (entZ (swapZ s.m s.piv.length (atZ s.m c s.piv.length)) s.piv.length c) s.last s.piv.length c s.m.length,s.piv ++ [c],
     entZ (swapZ s.m s.piv.length (atZ s.m c s.piv.length)) s.piv.length c,s.odd != decide (atZ s.m c s.piv.length≠s.piv.length)⟩
   else none
 else some s
def elZ (m:List (List Int)):Nat→Option EZ
 | 0=>some ⟨m,[],1,false⟩
 | c+1=>(elZ m c).bind (stepZ c)
example:(elZ [[2,1],[4,3]] 2).map (fun s=>(s.m,s.piv,s.last,s.odd))=some ([[2,0],[0,2]],[0,1],2,false):=by decide +kernel
example:(elZ [[0,1],[4,3]] 2).map (fun s=>(s.m,s.piv,s.last,s.odd))=some ([[4,0],[0,4]],[0,1],4,true):=by decide +kernel
example:(elZ [[0,0],[4,3]] 2).map (fun s=>(s.m,s.piv,s.last,s.odd))=some ([[4,3],[0,0]],[0],4,true):=by decide +kernel
def BdM (B:Nat) (m:List (List Int)):Prop:=∀ r,r ∈ m→∀ x,x ∈ r→x.natAbs≤B
theorem BdM.row {B:Nat} {m:List (List Int)} (h:BdM B m) (i:Nat):∀ x,x ∈ rowZ m i→x.natAbs≤B:=by
 unfold rowZ
 cases e:m[i]? with
 | none=>intro x hx; cases hx
 | some r=>exact h r (List.mem_of_getElem? e)
theorem BdM.ent {B:Nat} {m:List (List Int)} (h:BdM B m) (i c:Nat):(entZ m i c).natAbs≤B:=by
 unfold entZ
 cases e:(rowZ m i)[c]? with
 | none=>simp
 | some x=>exact h.row i x (List.mem_of_getElem? e)
theorem BdM.mono {A B:Nat} {m:List (List Int)} (h:BdM A m) (k:A≤B):BdM B m:=fun r hr x hx=>Nat.le_trans (h r hr x hx) k
theorem swp_memZ {α:Type} {l:List α} {i j:Nat} {x:α} (h:x ∈ swp l i j):x ∈ l:=by
 unfold swp at h
 split at h
 ·rename_i a b h1 h2
  rcases List.mem_or_eq_of_mem_set h with h | e
  ·rcases List.mem_or_eq_of_mem_set h with h | e
   ·exact h
   ·rw [e]; exact List.mem_of_getElem? h2
  ·rw [e]; exact List.mem_of_getElem? h1
 ·exact h
theorem BdM.swap {B:Nat} {m:List (List Int)} (h:BdM B m) (k a:Nat):BdM B (swapZ m k a):=by
 unfold swapZ; split
 ·exact h
 ·exact fun r hr=>h r (swp_memZ hr)
def det3 (a b c d e f g h i:Int):Int:=a * (e * i - f * h) - b * (d * i - f * g)+c * (d * h - e * g)
theorem list1 {α:Type} {l:List α} (h:l.length=1):∃ a,l=[a]:=by
 match l,h with | [a],_=>exact ⟨a,rfl⟩
theorem list2 {α:Type} {l:List α} (h:l.length=2):∃ a b,l=[a,b]:=by
 match l,h with | [a,b],_=>exact ⟨a,b,rfl⟩
theorem list3 {α:Type} {l:List α} (h:l.length=3):∃ a b c,l=[a,b,c]:=by
 match l,h with | [a,b,c],_=>exact ⟨a,b,c,rfl⟩
theorem intQ_ne {n:Int} (h:n≠0):(n:Rat)≠0:=fun e=>h (Rat.intCast_inj.1 (by rw [e]; rfl))
def detM:List (List Int)→Int
 | []=>1
 | [[a]]=>a
 | [[a,b],[d,e]]=>a * e - b * d
 | [[a,b,c],[d,e,f],[g,h,i]]=>det3 a b c d e f g h i
 | _=>0


end Go.Proofs.YtcglmebcfeoedaaGreatDoor
