/- Contracts and laws: WAJ. -/
import Derived.Test.YtiniigadkknboaaGreatDoorWAD
import Derived.Test.YtiniigadkknboaaGreatDoorWAI
import Derived.Deep.RegionHeld3
import Derived.Deep.Cut
import Derived.Test.YtiniigadkknboaaGreatDoorWAC
import Derived.IntWalk

namespace Go.Proofs.YtiniigadkknboaaGreatDoor
open Go.RowKit Go.Lib
attribute [local go_sem ↓] Go.wp_at_zero Go.wp_at_succ
theorem trimL_pre (l:List Int):∀ n,n≤l.length→trimL (l.take n)=l.take (trimL (l.take n)).length∧(trimL (l.take n)).length≤n
 | 0,_=>⟨rfl,Nat.le_refl _⟩
 | n+1,h=>by
   obtain ⟨d,hd⟩:∃ d,l[n]?=some d:=⟨_,List.getElem?_eq_getElem (by omega)⟩
   by_cases h0:d=0
   ·rw [trimL_take hd h0]
    obtain ⟨h1,h2⟩:=trimL_pre l n (by omega)
    exact ⟨h1,by omega⟩
   ·rw [trimL_stop hd h0,List.length_take,Nat.min_eq_left h]
    exact ⟨rfl,Nat.le_refl _⟩
theorem trimL_len (l:List Int):trimL l=l.take (trimL l).length∧(trimL l).length≤l.length:=by
 have h:=trimL_pre l l.length (Nat.le_refl _)
 rw [List.take_length] at h
 exact h

def pw:Nat→Int
 | 0=>1
 | n+1=>1000000000 * pw n
theorem pw_pos:∀ n,0 < pw n
 | 0=>by show (0:Int) < 1; omega
 | n+1=>by have:=pw_pos n; show 0 < 1000000000 * pw n; omega
theorem pw_add:∀ (a b:Nat),pw (a+b)=pw a * pw b
 | 0,b=>by rw [Nat.zero_add]; show pw b=1 * pw b; omega
 | a+1,b=>by
   rw [Nat.add_right_comm]
   show 1000000000 * pw (a+b)=1000000000 * pw a * pw b
   rw [pw_add a b,Int.mul_assoc]
theorem pw_mono {a b:Nat} (h:a≤b):pw a≤pw b:=by
 obtain ⟨k,rfl⟩:∃ k,b=a+k:=⟨b - a,by omega⟩
 rw [pw_add]
 have h1:=pw_pos a
 have h2:=pw_pos k
 have:=Int.mul_le_mul_of_nonneg_left (show (1:Int)≤pw k by omega) (Int.le_of_lt h1)
 omega
theorem Dg.set {l:List Int} (h:Dg l) (j:Nat) {v:Int} (hv:0≤v∧v < 1000000000):Dg (l.set j v):=fun x hx=>by
 rcases List.mem_or_eq_of_mem_set hx with h1 | rfl
 ·exact h x h1
 ·exact hv

end Go.Proofs.YtiniigadkknboaaGreatDoor
