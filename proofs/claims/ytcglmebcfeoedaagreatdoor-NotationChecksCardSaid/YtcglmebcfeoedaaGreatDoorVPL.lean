/- Contracts and laws: VPL. -/
import Derived.Test.YtcglmebcfeoedaaGreatDoorVFT
import Derived.Test.YtcglmebcfeoedaaGreatDoorVSA

namespace Go.Proofs.YtcglmebcfeoedaaGreatDoor
open Go.RowKit Go.Lib
def dK (g:List (List Int)) (c t k:Nat):Int:=ent g t c * ent g (t+1) k - ent g (t+1) c * ent g t k
structure P2 (n c t T K:Nat) (g:List (List Int)):Prop where
 rect:CQ n g
 len:g.length=t+2
 top:∀ i,i < t→∀ k,(ent g i k).natAbs≤T
 v0:∀ k,(ent g t k).natAbs≤2 * (K * K)
 v1:∀ k,(ent g (t+1) k).natAbs≤2 * (K * K)
 u0:(ent g t c).natAbs≤K
 u1:(ent g (t+1) c).natAbs≤K
 mi:∀ k,(dK g c t k).natAbs≤2 * (K * K)
def XU (s:List (List Int)) (i:Nat):List Int:=[ent s i 0 - (ent s i 0).fdiv (ent s 0 0) * ent s 0 0,ent s i 1+(((ent s i 0).fdiv (ent s 0 0)).natAbs:Int) * ent s 0 1]
def Xs (s:List (List Int)):List (List Int):=[B8 s 0,XU s 1,XU s 2]
def XV (K:Nat) (s:List (List Int)):Bool:=decide (ent s 0 1≤K) && decide (ent s 1 1≤K) && decide (ent s 2 1≤K)
def sh (K:Nat):Nat→List (List Int)→Bool
 | 0,_=>false
 | f+1,s=>XV K s && match Dy s 0 0 3 with
   | none=>true
   | some k=>XV K (Xs (E2 s 0 k)) && ((decide (ent (Xs (E2 s 0 k)) 1 0=0) && decide (ent (Xs (E2 s 0 k)) 2 0=0)) || sh K f (Xs (E2 s 0 k)))
end Go.Proofs.YtcglmebcfeoedaaGreatDoor
