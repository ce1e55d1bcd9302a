/- Contracts and laws: RSC. -/
import Derived.Test.YtcglmebcfeoedaaGreatDoorRSW
import Derived.Test.YtcglmebcfeoedaaGreatDoorRSB
import Derived.Test.YtcglmebcfeoedaaGreatDoorRSA
import Derived.Test.YtcglmebcfeoedaaGreatDoorRK
import Derived.Test.YtcglmebcfeoedaaGreatDoorRH
import Derived.Test.YtcglmebcfeoedaaGreatDoorRRd

namespace Go.Proofs.YtcglmebcfeoedaaGreatDoor
open Go.RowKit Go.Lib
attribute [local go_sem ↓] Go.wp_at_zero Go.wp_at_succ

def toF (C:List (List Int)) (D:Int) (RN:List (List Int)) (d:Nat) (r:List Int) (i:Nat):Option (List Int):=solveS (divC C D) (List.zipWith (· - ·) r (rowAt RN i)) d
def Inv42 (RA:List (List Int)) (d:Nat) (C:List (List Int)) (D:Int) (C':List (List Int)) (D':Int):Prop:=1≤d→(InvBoth RA d C D∧InvIs RA d C D)∧InvBoth (trM d RA) d C' D'∧InvIs (trM d RA) d C' D'
theorem Inv42.ok {RA C C':List (List Int)} {d:Nat} {D D':Int} (h:Inv42 RA d C D C' D') (hd:1≤d):SpOk RA C C' d D D':=⟨(h hd).1.2,(h hd).2.2⟩
section
variable {N A:List Sy} {d M:Nat} {aN aA:Option Addr} {cN cA:Nat} {w:World}
theorem Nt42.lA (hn:Nt42 w aN aA cN cA M d N A):(A.map Sy.row).length=d:=by rw [List.length_map]; exact hn.hd
theorem Nt42.lRA (hn:Nt42 w aN aA cN cA M d N A):∀ q,q ∈ A.map Sy.row→q.length=d:=fun q hq=>by obtain ⟨x,hx,rfl⟩:=List.mem_map.1 hq; exact (hn.rA x hx).2.1
theorem Nt42.bA (hn:Nt42 w aN aA cN cA M d N A):BdM 9 (A.map Sy.row):=fun q hq y hy=>by obtain ⟨x,hx,rfl⟩:=List.mem_map.1 hq; exact (hn.rA x hx).2.2 y hy
theorem Nt42.at (_:Nt42 w aN aA cN cA M d N A) {i:Nat} {x:Sy} (hx:N[i]?=some x):rowAt (N.map Sy.row) i=x.row:=by
 have h1:(N.map Sy.row)[i]?=some x.row:=by rw [List.getElem?_map,hx]; rfl
 have h2:=List.getElem?_eq_some_iff.1 h1
 rw [rowAt_eq h2.1]; exact h2.2
theorem Nt42.get (hn:Nt42 w aN aA cN cA M d N A) {i:Nat} (hi:i < M):∃ x,N[i]?=some x∧x ∈ N:=⟨_,List.getElem?_eq_getElem (by rw [hn.hM]; exact hi),List.getElem_mem _⟩
theorem Nt42.inv (hn:Nt42 w aN aA cN cA M d N A):∃ C D C' D',Inv42 (A.map Sy.row) d C D C' D':=by
 by_cases hd1:1≤d
 ·obtain ⟨C,D,h1⟩:=inv_any hn.d3 hd1 hn.lA hn.lRA hn.bA hn.det
  obtain ⟨C',D',h2⟩:=inv_any hn.d3 hd1 (trM_len d _) (fun q hq=>by
   obtain ⟨k,-,rfl⟩:=List.mem_map.1 hq
   rw [colZ_len]; exact hn.lA) (bdM_tr hn.bA) (by rw [detM_tr hn.d3 hn.lA hn.lRA]; exact hn.det)
  exact ⟨C,D,C',D',fun _=>⟨h1,h2⟩⟩
 ·exact ⟨[],0,[],0,fun h=>absurd h hd1⟩
variable {C C':List (List Int)} {D D':Int}
theorem spF_inv {f:Nat→Option (List Int)} {i:Nat} {cs:List Int} (h:spF f M=some (i,cs)):i < M∧f i=some cs:=by
 unfold spF at h
 obtain ⟨j,hj,h2⟩:=List.exists_of_findSome?_eq_some h
 cases hfj:f j with
 | none=>rw [hfj] at h2; cases h2
 | some cs'=>
   rw [hfj] at h2
   injection h2 with h2; injection h2 with h3 h4; subst h3; subst h4
   exact ⟨List.mem_range.1 hj,hfj⟩
end
end Go.Proofs.YtcglmebcfeoedaaGreatDoor
