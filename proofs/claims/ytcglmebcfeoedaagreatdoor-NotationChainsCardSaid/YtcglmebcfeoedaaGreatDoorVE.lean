/- Contracts and laws: VE. -/
import Derived.Test.YtcglmebcfeoedaaGreatDoorVC
import Derived.Test.YtcglmebcfeoedaaGreatDoorVD
import Derived.Test.YtcglmebcfeoedaaGreatDoorVB

set_option maxRecDepth 100000
set_option maxHeartbeats 1000000
namespace Go.Proofs.YtcglmebcfeoedaaGreatDoor
open Go.RowKit Go.Lib
attribute [local go_sem ↓] AA AB
def H0 (x:Sy):Value:=.slice x.ra x.row.length x.rc
theorem LP {w:World} {base:Nat} {e:TypeId} {v:Value} {A:List Sy} {n:Nat} (hn:n=A.length) (h:w.ownsRow base e 1 v n (A.map H0)) (hr:∀ x,x ∈ A→El w iv x.ra x.row):∃ a c,v=.slice a n c∧BT w a (A.map Sy.row):=by
 rcases h.2 with ⟨h1,h2⟩ | ⟨g,cap,cur,hv,_⟩
 ·have e:A=[]:=AD (by omega)
  subst e
  subst h2
  exact ⟨none,0,h1,.inl rfl⟩
 ·subst hv
  obtain ⟨-,h1,h2,h3,h4⟩:=Bf h
  refine ⟨_,_,rfl,.inr ⟨g,0,rfl,h2,fun i xs hx=>?_⟩⟩
  rw [Ao] at hx
  obtain ⟨x,hx1,rfl⟩:=AV.1 hx
  rw [Az]
  exact ⟨x.ra,x.rc,(h4 i (H0 x) (by rw [Ao,hx1]; rfl)).1,hr x (Ae hx1)⟩
theorem J4 (aN aA:Option Addr) (nN cN cA:Nat) (A:List Sy) (w:World) (hG:G w) (ha:Gn w aA A) (hl:A.length≤1000000) :
 Calls Tryz.prog 62 #[.agg #[.slice aN nN cN,.slice aA A.length cA]] w fun e w'=>∃ a c,e=.returned (.slice a A.length c)∧BT w' a (A.map Sy.row)∧Fr w w':=by
 have hgn:=CS hG
 obtain ⟨i1,ji,jz0,jz1,jz2⟩:=AQ NV
 obtain ⟨n,hn⟩:∃ n,n=A.length:=⟨_,rfl⟩
 rw [← hn] at hl ⊢
 replace hn:=hZ hn
 replace ha:=hZ ha
 clear hG
 go_enter Tryz.func62,Tryz.ntmps62
 go_wp2_with fail
 have hf0:Fr w (w.alloc (.cells #[.slice aN nN cN,.slice aA n cA] 31)):=(Fr.refl w).alloc _
 go_loopg [3,9] n (fun k s3 s9 wr=>∃ i:Nat,s9=.int .i64 i∧i+k=n∧Fr w wr∧Hid (wr.ownsRow w.heap.size 44 1 s3 i ((A.take i).map H0)))
 case atStart=>exact ⟨0,rfl,by omega,hf0,A6 _ _ _ _⟩
 case round=>
  clear hf0
  obtain ⟨i,rfl,hik,hf,hown⟩:=hrel
  by_cases hi:i < n
  ·have hdI:decide (i < n)=true:=Ac hi
   obtain ⟨b,o,x,rfl,hbl,hxi,hc1,hc2,-⟩:=(ha.out.fr hf).at (i:=i) (by rw [← hn.out]; exact hi)
   have hsn:Hid ((A.take (i+1)).map H0=(A.take i).map H0 ++ [.slice x.ra x.row.length x.rc]):=hZ (by rw [Bx hxi,Aw]; rfl)
   replace hxi:=hZ hxi
   have z0:(0:Int)≤(i:Int):=Af _
   have z1:(i:Int) < (n:Int):=by omega
   generalize x.row.length=d at *
   generalize x.nm=nm at *
   generalize x.ra=ra at *
   generalize x.rc=rc at *
   go_upto_region 5 with (fail)
   obtain ⟨w1,hw1⟩:∃ w1,w1=wr.alloc (.cells #[.string nm,.slice ra d rc] 46):=⟨_,rfl⟩
   have hf1:Fr wr w1:=by rw [hw1]; exact (Fr.refl _).alloc _
   have q1:w1.cell? ⟨wr.heap.size,1,none⟩=some (.slice ra d rc):=by rw [hw1]; exact (CY _ _ _ _).1
   rw [← hw1]
   clear hw1
   have hownG:=Ba hown.out hf1
   have hz7:=hf.size
   have hz8:=hf1.size
   go_wp2_with (at_builtin; refine At _ rfl _ _ 34 (by rfl) _ 44 _ _ 1 24 Tryz.underlying34 ji jz0 jz1 jz2 rfl (by decide) _ i _ (by rfl) (Au hownG _) ⟨w1.heap.size,0,none⟩ 1 1 [.slice ra d rc] (by rfl) rfl (AF _ _ _ _ (by simp)) (by simp [Value.oneCell']) (by decide) (by unfold maxLen; omega) (by omega) (by skip; simp; omega) (w1.heap.size+1) (by simp) ?_; intro gA capA wA hownA hgrowA hatA hltA)
   go_wp2_with fail
   go_roundg (gk - 1)
   case measure=>omega
   case rel=>exact ⟨i+1,by go_num,by omega,((hf.trans hf1).alloc _).grown hgrowA (fun k e=>(hown.out.lt k e).1),by show _; rw [hsn.out]; exact hownA⟩
  ·have hdI:decide (i < n)=false:=Aa hi
   obtain rfl:n=i:=by omega
   have hown9:=hown.out
   rw [Ak (by rw [← hn.out]; exact Ag _)] at hown9
   obtain ⟨a,c,rfl,hm⟩:=LP hn.out hown9 (fun x hx=>((ha.out.fr hf).2 x hx))
   replace hm:=hZ hm
   clear hown9
   go_wp2_with fail
   go_ret
   exact ⟨a,c,rfl,hm.out,hf⟩
def PA (w:World) (xs:List Int) (e:Ending) (w':World):Prop:=∃ v,e=.returned v∧w'.ownsRow w.heap.size 42 1 v xs.length (xs.map sv)∧Fr w w'
theorem Py (xs:List Int) (a:Option Addr) (cap:Nat) (w:World) (hG:G w) (hx:El w iv a xs) (hl:xs.length≤1000000) (hb:∀ x,x ∈ xs→Sm x) :
 Calls Tryz.prog 64 #[.slice a xs.length cap] w (PA w xs):=by
 have hgn:=CS hG
 obtain ⟨i1,ji,jz0,jz1,jz2⟩:=AQ Je
 obtain ⟨n,hn⟩:∃ n,n=xs.length:=⟨_,rfl⟩
 unfold PA
 rw [← hn] at hl ⊢
 replace hn:=hZ hn
 replace hx:=hZ hx
 replace hb:=hZ hb
 replace hG:=hZ hG
 go_enter Tryz.func64,Tryz.ntmps64
 go_wp2_with fail
 go_loopg [3,8] n (fun k s3 s8 wr=>∃ i:Nat,s8=.int .i64 i∧i+k=n∧Fr w wr∧Hid (wr.ownsRow w.heap.size 42 1 s3 i ((xs.take i).map sv)))
 case atStart=>exact ⟨0,rfl,by omega,Fr.refl _,A6 _ _ _ _⟩
 case round=>
  obtain ⟨i,rfl,hik,hf,hown⟩:=hrel
  by_cases hi:i < n
  ·have hdI:decide (i < n)=true:=Ac hi
   obtain ⟨b,o,x,rfl,hbl,hxi,hcell⟩:=(hx.out.fr hf).at (i:=i) (by rw [← hn.out]; exact hi)
   have hsx:=hb.out x (Ae hxi)
   unfold Sm at hsx
   have hsn:Hid ((xs.take (i+1)).map sv=(xs.take i).map sv ++ [sv x]):=hZ (by rw [Bx hxi,Aw]; rfl)
   replace hxi:=hZ hxi
   have z0:(0:Int)≤(i:Int):=Af _
   have z1:(i:Int) < (n:Int):=by omega
   go_wp2_with fail
   refine (Du _ (by omega) (by omega) _ (hG.out.fr hf)).mono ?_
   rintro e w1 ⟨rfl,hf1⟩
   have hownG:=Ba hown.out hf1
   have hz7:=hf.size
   have hz8:=hf1.size
   go_wp2_with (at_builtin; refine At _ rfl _ _ 40 (by rfl) _ 42 _ _ 1 16 Tryz.underlying40 ji jz0 jz1 jz2 rfl (by decide) _ i _ (by rfl) (Au hownG _) ⟨w1.heap.size,0,none⟩ 1 1 [.string (tx x)] (by rfl) rfl (AF _ _ _ _ (by simp)) (by simp [Value.oneCell']) (by decide) (by unfold maxLen; omega) (by omega) (by skip; simp; omega) (w1.heap.size+1) (by simp) ?_; intro gA capA wA hownA hgrowA hatA hltA)
   go_wp2_with fail
   go_roundg (gk - 1)
   case measure=>omega
   case rel=>exact ⟨i+1,by go_num,by omega,((hf.trans hf1).alloc _).grown hgrowA (fun k e=>(hown.out.lt k e).1),by show _; rw [hsn.out]; exact hownA⟩
  ·have hdI:decide (i < n)=false:=Aa hi
   obtain rfl:n=i:=by omega
   have hown9:=hown.out
   rw [Ak (by rw [← hn.out]; exact Ag _)] at hown9
   replace hown9:=hZ hown9
   go_wp2_with fail
   go_ret
   exact ⟨_,rfl,hown9.out,hf⟩
def WH (w:World) (xs:List Int) (e:Ending) (w':World):Prop:=∃ v,e=.returned (.tuple #[v,.bool true])∧w'.ownsRow w.heap.size 3 1 v xs.length (xs.map iv)∧v≠.slice none 0 0∧Fr w w'
end Go.Proofs.YtcglmebcfeoedaaGreatDoor
