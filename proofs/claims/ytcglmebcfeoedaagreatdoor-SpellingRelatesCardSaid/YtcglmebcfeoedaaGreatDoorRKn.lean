/- Contracts and laws: RKn. -/
import Derived.Test.YtcglmebcfeoedaaGreatDoorRSW
import Derived.Test.YtcglmebcfeoedaaGreatDoorRM
import Derived.Test.YtcglmebcfeoedaaGreatDoorRNA
import Derived.Test.YtcglmebcfeoedaaGreatDoorRNB
import Derived.Test.YtcglmebcfeoedaaGreatDoorRP
import Derived.Lib.SplitLaws
import Derived.Test.YtcglmebcfeoedaaGreatDoorRUG0
import Derived.Test.YtcglmebcfeoedaaGreatDoorRPG
import Derived.Test.YtcglmebcfeoedaaGreatDoorRH

namespace Go.Proofs.YtcglmebcfeoedaaGreatDoor
open Go.RowKit Go.Lib
def mkSy (p:ByteArray×List Int):Sy:=⟨p.1,p.2,none,0⟩
theorem nsymE_bare (d:Nat) (p:List Sy) (x:Sy):nsymE d p x=nsymE d ((bare p).map mkSy) (mkSy (x.nm,x.row)):=by
 have e:((bare p).map mkSy).any (fun y=>y.nm.toList == x.nm.toList)=p.any (fun y=>y.nm.toList == x.nm.toList):=by
  unfold bare; rw [List.map_map,List.any_map]; rfl
 unfold nsymE
 show _=if isName x.nm=false then 8 else if ((bare p).map mkSy).any (fun y=>y.nm.toList == x.nm.toList)=true then 9 else if rowE x.row≠0 then rowE x.row else if x.row.length≠d then 5 else 0
 rw [e]
theorem nscanE_bare (d:Nat) (L:List Sy):∀ k i,nscanE d L k i=nscanE d ((bare L).map mkSy) k i
 | 0,i=>rfl
 | k+1,i=>by
   have e:((bare L).map mkSy)[i]?=(L[i]?).map (fun x=>mkSy (x.nm,x.row)):=by
    unfold bare; rw [List.map_map,List.getElem?_map]; rfl
   have et:((bare L).map mkSy).take i=(bare (L.take i)).map mkSy:=by unfold bare; rw [← List.map_take,← List.map_take]
   rw [nscanE,nscanE,e]
   cases hx:L[i]? with
   | none=>rfl
   | some x=>
     show (if nsymE d (L.take i) x≠0 then _ else _)=(if nsymE d (((bare L).map mkSy).take i) (mkSy (x.nm,x.row))≠0 then _ else _)
     rw [et,← nsymE_bare d (L.take i) x,nscanE_bare d L k (i+1)]
theorem nchkE_bare (N A:List Sy) (r:Nat):nchkE N A r=nchkE ((bare N).map mkSy) ((bare A).map mkSy) r:=by
 have e1:((bare N).map mkSy).length=N.length:=by rw [List.length_map,bare_len]
 have e2:((bare A).map mkSy).length=A.length:=by rw [List.length_map,bare_len]
 have e3:(bare N).map mkSy ++ (bare A).map mkSy=(bare (N ++ A)).map mkSy:=by unfold bare; rw [List.map_append,List.map_append]
 unfold nchkE
 rw [e1,e2,e3,← nscanE_bare,List.length_map,bare_len]
attribute [local go_sem ↓] Go.wp_at_zero Go.wp_at_succ
structure Kn (w:World) (aN aA:Option Addr) (cN cA:Nat) (N A:List Sy) (SN SA:List (ByteArray×List Int)) (r:Nat):Prop where
 hn:NotIs w aN aA cA N A
 bN:bare N=SN
 bA:bare A=SA
theorem Kn.fr {w w':World} {aN aA:Option Addr} {cN cA:Nat} {N A:List Sy} {SN SA:List (ByteArray×List Int)} {r:Nat} (h:Kn w aN aA cN cA N A SN SA r) (k:Fr w w'):Kn w' aN aA cN cA N A SN SA r:=⟨h.hn.fr k,h.bN,h.bA⟩
def sizeB (S:List (ByteArray×List Int)):Bool:=S.all fun p=>decide (p.1.size≤32∧p.2.length≤64)
theorem bare_rows (L:List Sy):(bare L).map Prod.snd=L.map Sy.row:=by unfold bare; rw [List.map_map]; rfl
theorem sizes_of {L:List Sy} {S:List (ByteArray×List Int)} (h:bare L=S) (hs:sizeB S=true):∀ x,x ∈ L→x.nm.size≤32∧x.row.length≤64:=fun _ hx=>of_decide_eq_true (List.all_eq_true.1 hs _ (bare_mem h hx))
theorem Kn.check {w:World} {aN aA:Option Addr} {cN cA:Nat} {N A:List Sy} {SN SA:List (ByteArray×List Int)} {r nN nA:Nat} (h:Kn w aN aA cN cA N A SN SA r) (hG:G w) (h1:sizeB SN=true) (h2:sizeB SA=true) (hE:nchkE (SN.map mkSy) (SA.map mkSy) r=0) (hnN:SN.length=nN) (hnA:SA.length=nA) (hb:nN≤1000000000∧nA≤1000000000)
 (hF:∃ F,redTo ((SA.map Prod.snd).map qrow) (colsN (SA.map Prod.snd))=some F∧F.lead.length=r):∀ W,Fr w W→Calls Tryz.prog 25 #[.agg #[.slice aN nN cN,.slice aA nA cA]] W fun e w'=>e=.returned (.int .i64 0)∧Fr W w':=fun W hW=>by
 have e1:N.length=nN:=by rw [← hnN,← h.bN,bare_len]
 have e2:A.length=nA:=by rw [← hnA,← h.bA,bare_len]
 have hc:=NCheck_any aN aA cN cA r N A W (hG.fr hW) (h.hn.fr hW) (fun x hx=>by
  rcases List.mem_append.1 hx with h9 | h9
  ·have:=sizes_of h.bN h1 x h9; omega
  ·have:=sizes_of h.bA h2 x h9; omega) (by omega) (by omega) (fun _ _ _ _=>by
  rw [← bare_rows,h.bA]; exact hF)
 rw [nchkE_bare,h.bN,h.bA,hE,e1,e2] at hc
 exact hc
instance:DecidableEq Pc:=fun a b=>decidable_of_iff (a.nm=b.nm∧a.ng=b.ng∧a.k=b.k) ⟨fun h=>by cases a; cases b; obtain ⟨rfl,rfl,rfl⟩:=h; rfl,fun h=>by rw [h]; exact ⟨rfl,rfl,rfl⟩⟩

end Go.Proofs.YtcglmebcfeoedaaGreatDoor
