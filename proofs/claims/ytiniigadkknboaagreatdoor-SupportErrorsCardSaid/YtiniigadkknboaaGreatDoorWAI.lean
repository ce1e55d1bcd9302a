/- Contracts and laws: WAI. -/
import Derived.Test.YtiniigadkknboaaGreatDoorWAH
import Derived.Test.YtiniigadkknboaaGreatDoorWAB
import Derived.Test.YtiniigadkknboaaGreatDoorWAG
import Derived.Test.YtiniigadkknboaaGreatDoorWAD
import Derived.Test.YtiniigadkknboaaGreatDoorWAC

namespace Go.Proofs.YtiniigadkknboaaGreatDoor
open Go.RowKit Go.Lib

attribute [local go_sem ↓] Go.wp_at_zero Go.wp_at_succ
theorem cell_twoQ (w:World) (x y:Value) (t:TypeId) (n:Nat) (hn:w.heap.size=n):∀ (j:Nat) (u:Value),[x,y][j]?=some u→(w.alloc (.cells #[x,y] t)).cell? ((⟨n,0,none⟩:Addr).add j)=some u:=fun j u hu=>by
 subst hn
 match j,hu with
 | 0,hu=>simp at hu; subst hu; exact (new2a w x y t).1
 | 1,hu=>simp at hu; subst hu; exact (new2b w x y t).1
 | j+2,hu=>simp at hu


theorem digVal_le (l m:List UInt8) (a:Nat) (hm:∀ c ∈ m,48≤c.toNat∧c.toNat≤57):digVal a l≤digVal a (l ++ m):=by
 rw [digVal_append]
 have:=(digVal_bound m (digVal a l) hm).1
 have h2:=Nat.pow_pos (n:=m.length) (show 0 < 10 by decide)
 exact Nat.le_trans (Nat.le_mul_of_pos_right _ h2) this
theorem digVal_one (c:UInt8) (a:Nat):digVal a [c]=10 * a+(c.toNat - 48):=by
 show a * 10+(c.toNat - 48)=_
 omega
def S18 (n:Int):Prop:=-1000000000000000000 < n∧n < 1000000000000000000
end Go.Proofs.YtiniigadkknboaaGreatDoor
