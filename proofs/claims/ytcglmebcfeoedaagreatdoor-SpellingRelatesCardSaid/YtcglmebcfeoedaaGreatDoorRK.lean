/- Contracts and laws: RK. -/
import Derived.Test.YtcglmebcfeoedaaGreatDoorRB
import Derived.Test.YtcglmebcfeoedaaGreatDoorRD
import Derived.Test.YtcglmebcfeoedaaGreatDoorRH
import Derived.Test.YtcglmebcfeoedaaGreatDoorRE

namespace Go.Proofs.YtcglmebcfeoedaaGreatDoor
open Go.RowKit Go.Lib

attribute [local go_sem ↓] Go.wp_at_zero Go.wp_at_succ

def unitQ (n i:Nat):List Rat:=(List.replicate n (0:Rat)).set i 1
def augM (m:List (List Int)):List (List Rat):=m.mapIdx fun i r=>qrow r ++ unitQ m.length i


def sumQ (I:List (List Rat)) (d:List Int) (c:Nat):Nat→Rat
 | 0=>0
 | k+1=>sumQ I d c k+((d[k]?).getD 0:Int) * entQ I k c
def sumOk (I:List (List Rat)) (d:List Int) (r:Nat):Bool :=
 (List.range r).all fun c=>(List.range r).all fun k=>decide (okM (((d[k]?).getD 0:Int):Rat) (entQ I k c)∧okA (sumQ I d c k) ((((d[k]?).getD 0:Int):Rat) * entQ I k c))
def numsQ (I:List (List Rat)) (d:List Int) (r:Nat):List Int:=(List.range r).map fun c=>(sumQ I d c r).num
def solveS (I:List (List Rat)) (d:List Int) (r:Nat):Option (List Int) :=
 if (List.range r).all (fun c=>decide ((sumQ I d c r).den=1)) then some (numsQ I d r) else none
theorem solveS_none {I:List (List Rat)} {d:List Int} {r c:Nat} (hc:c < r) (h:(sumQ I d c r).den≠1):solveS I d r=none:=by
 unfold solveS
 rw [if_neg]
 intro h9
 exact h (of_decide_eq_true (List.all_eq_true.1 h9 c (List.mem_range.2 hc)))
theorem solveS_some {I:List (List Rat)} {d:List Int} {r:Nat} (h:∀ c,c < r→(sumQ I d c r).den=1):solveS I d r=some (numsQ I d r):=by
 unfold solveS
 rw [if_pos]
 exact List.all_eq_true.2 fun c hc=>decide_eq_true (h c (List.mem_range.1 hc))
theorem numsQ_get {I:List (List Rat)} {d:List Int} {r c:Nat} (hc:c < r):(numsQ I d r)[c]?=some (sumQ I d c r).num:=by
 unfold numsQ
 rw [List.getElem?_map,List.getElem?_range hc]; rfl
theorem numsQ_len (I:List (List Rat)) (d:List Int) (r:Nat):(numsQ I d r).length=r:=by unfold numsQ; rw [List.length_map,List.length_range]
end Go.Proofs.YtcglmebcfeoedaaGreatDoor
