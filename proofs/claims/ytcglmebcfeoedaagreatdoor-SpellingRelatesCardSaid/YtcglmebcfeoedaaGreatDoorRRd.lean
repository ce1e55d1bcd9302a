/- Contracts and laws: RRd. -/
import Derived.Test.YtcglmebcfeoedaaGreatDoorRNA
import Derived.Test.YtcglmebcfeoedaaGreatDoorREl
import Derived.Test.YtcglmebcfeoedaaGreatDoorRMk

namespace Go.Proofs.YtcglmebcfeoedaaGreatDoor
open Go.RowKit Go.Lib
attribute [local go_sem ↓] Go.wp_at_zero Go.wp_at_succ


def Row9 (d:Nat) (q:List Int):Prop:=q.length=d∧∀ x,x ∈ q→x.natAbs≤9
structure Nt42 (w:World) (aN aA:Option Addr) (cN cA M d:Nat) (N A:List Sy):Prop where
 hn:NotIs w aN aA cA N A
 hM:N.length=M
 hd:A.length=d
 d3:d≤3
 m1:1≤M
 m8:M≤8
 rN:∀ x,x ∈ N→x.nm.size=1∧Row9 d x.row
 rA:∀ x,x ∈ A→x.nm.size=1∧Row9 d x.row
 fine:nchkE N A d=0
 red:∃ Fq,redTo ((A.map Sy.row).map qrow) d=some Fq∧Fq.lead.length=d
 det:detM (A.map Sy.row)≠0
theorem Nt42.fr {w w':World} {aN aA:Option Addr} {cN cA M d:Nat} {N A:List Sy} (h:Nt42 w aN aA cN cA M d N A) (k:Fr w w'):Nt42 w' aN aA cN cA M d N A:=⟨h.hn.fr k,h.hM,h.hd,h.d3,h.m1,h.m8,h.rN,h.rA,h.fine,h.red,h.det⟩
theorem Nt42.check {w:World} {aN aA:Option Addr} {cN cA M d:Nat} {N A:List Sy} (h:Nt42 w aN aA cN cA M d N A) (hG:G w):Calls Tryz.prog 25 #[.agg #[.slice aN M cN,.slice aA d cA]] w fun e w'=>e=.returned (.int .i64 0)∧Fr w w':=by
 have hc:=NCheck_any aN aA cN cA d N A w hG h.hn (fun x hx=>by
  rcases List.mem_append.1 hx with h9 | h9
  ·have h1:=(h.rN x h9).1
   have h2:=(h.rN x h9).2.1
   have:=h.d3
   exact ⟨by omega,by omega⟩
  ·have h1:=(h.rA x h9).1
   have h2:=(h.rA x h9).2.1
   have:=h.d3
   exact ⟨by omega,by omega⟩) (by have:=h.hM; have:=h.m8; omega) (by have:=h.hd; have:=h.d3; omega) (fun _ _ _ _=>by
  have e:colsN (A.map Sy.row)=d:=by
   have hd:=h.hd
   match A,hd,h.rA with
   | [],hd,_=>exact hd
   | x :: A',_,hr=>exact (hr x List.mem_cons_self).2.1
  rw [e]
  exact h.red)
 rw [h.fine,h.hM,h.hd] at hc
 exact hc
theorem Nt42.rowA {w:World} {aN aA:Option Addr} {cN cA M d:Nat} {N A:List Sy} (h:Nt42 w aN aA cN cA M d N A):∀ i,i < d→Row9 d (rowAt (A.map Sy.row) i):=fun i hi=>by
 rw [rowAt_eq (by rw [List.length_map,h.hd]; exact hi),List.getElem_map]
 exact (h.rA _ (List.getElem_mem _)).2

end Go.Proofs.YtcglmebcfeoedaaGreatDoor
