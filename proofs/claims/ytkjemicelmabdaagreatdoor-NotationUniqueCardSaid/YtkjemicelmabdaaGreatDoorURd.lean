/- Contracts and laws: URd. -/
import Derived.Test.YtkjemicelmabdaaGreatDoorUNA
import Derived.Test.YtkjemicelmabdaaGreatDoorUEl
import Derived.Test.YtkjemicelmabdaaGreatDoorUMk

set_option maxRecDepth 100000
set_option maxHeartbeats 2000000
namespace Go.Proofs.YtkjemicelmabdaaGreatDoor
open Go.RowKit Go.Lib
attribute [local go_sem ↓] AQ AR
def YV (w:World) (xs:List Int) (d:Nat) (e:Ending) (w':World):Prop:=(xs.all Bk=true→∃ a c,e=.returned (.tuple #[.slice a d c,.bool true])∧El w' iv a xs∧xs.length=d∧Fr w w'∧(d=0∨∃ g,a=some ⟨g,0,none⟩∧w.heap.size≤g))∧(xs.all Bk=false→e=.returned (.tuple #[.slice none 0 0,.bool false])∧Fr w w')
theorem KG (xs:List Int) (a:Option Addr) (cap n:Nat) (w:World) (hG:G w) (hx:El w sv a xs) (hn:n=xs.length) (hl:n≤1000000) (hb:∀ x,x ∈ xs→Sm x) :
 Calls Tryz.prog 36 #[.slice a n cap] w (YV w xs n):=by
 have hgn:=Ch hG
 obtain ⟨i1,ji,jz0,jz1,jz2⟩:=AG CS
 replace hn:=hZ hn
 replace hx:=hZ hx
 replace hb:=hZ hb
 replace hG:=hZ hG
 go_enter Tryz.func36,Tryz.ntmps36
 go_wp2_with fail
 have hf0:Fr w (w.alloc (.cells #[] 3)):=(Fr.refl w).alloc _
 have hown0:=E3 (base:=w.heap.size) (e:=3) (size:=1) w #[] 0 (Af _) (by decide) rfl
 go_loopg [4,5] n (fun k s4 s5 wr=>∃ i:Nat,s5=.int .i64 i∧i+k=n∧Fr w wr∧Hid (wr.ownsRow w.heap.size 3 1 s4 i ((xs.take i).map iv))∧Hid ((xs.take i).all Bk=true))
 case atStart=>exact ⟨0,rfl,by omega,hf0,hown0,rfl⟩
 case round=>
  clear hf0 hown0
  obtain ⟨i,rfl,hik,hf,hown,hfit⟩:=hrel
  by_cases hi:i < n
  ·have hdI:decide (i < n)=true:=Ad hi
   obtain ⟨b,o,x,rfl,hbl,hxi,hcell⟩:=(hx.out.fr hf).at (i:=i) (by rw [← hn.out]; exact hi)
   have hsx:=hb.out x (Ac hxi)
   have hsm:=hZ (fun W=>WZ x hsx W)
   have hft:=hZ (fun W=>Yl x (by obtain ⟨h1,h2⟩:=hsx; omega) (by obtain ⟨h1,h2⟩:=hsx; omega) W)
   have htk:=Bh hxi
   have hmem:x ∈ xs:=Ac hxi
   replace hxi:=hZ hxi
   have z0:(0:Int)≤(i:Int):=Ag _
   have z1:(i:Int) < (n:Int):=by omega
   cases hfx:Bk x with
   | true=>
     have hsn:Hid ((xs.take (i+1)).map iv=(xs.take i).map iv ++ [iv x]):=hZ (by rw [htk,Ax]; rfl)
     have hft9:Hid ((xs.take (i+1)).all Bk=true):=hZ (by
      rw [htk,MG,hfit.out]; simp [hfx])
     rw [hfx] at hft
     replace hfx:=hZ hfx
     clear htk hmem hsx
     have hz7:=hf.size
     go_wp2_with fail
     refine (hsm.out _).mono ?_
     rintro e w1 ⟨rfl,rfl⟩
     go_wp2_with fail
     refine (hft.out _).mono ?_
     rintro e w1 ⟨rfl,rfl⟩
     go_wp2_with (at_builtin; refine As _ rfl _ _ 29 (by rfl) _ 3 _ _ 1 8 Tryz.underlying29 ji jz0 jz1 jz2 rfl (by decide) _ i _ (by rfl) (Av hown.out _) ⟨wr.heap.size,0,none⟩ 1 1 [.int .i64 x] (by rfl) rfl (AD _ _ _ _ (by simp)) (by simp [Value.oneCell']) (by decide) (by unfold maxLen; omega) (by omega) (by skip; simp; omega) (wr.heap.size+1) (by simp) ?_; intro gA capA wA hownA hgrowA hatA hltA)
     go_wp2_with fail
     go_roundg (gk - 1)
     case measure=>omega
     case rel=>exact ⟨i+1,by go_num,by omega,(hf.alloc _).grown hgrowA (fun k e=>(hown.out.lt k e).1),by show _; rw [hsn.out]; exact hownA,hft9.out⟩
   | false=>
     have hbad:Hid (xs.all Bk=false):=hZ (Ed.2 ⟨x,hmem,by rw [hfx]; simp⟩)
     rw [hfx] at hft
     replace hfx:=hZ hfx
     clear htk hmem hsx
     go_wp2_with fail
     refine (hsm.out _).mono ?_
     rintro e w1 ⟨rfl,rfl⟩
     go_wp2_with fail
     refine (hft.out _).mono ?_
     rintro e w1 ⟨rfl,rfl⟩
     go_wp2_with fail
     go_ret2
     exact ⟨fun h=>(by rw [hbad.out] at h; cases h),fun _=>⟨rfl,hf⟩⟩
  ·have hdI:decide (i < n)=false:=Ab hi
   obtain rfl:n=i:=by omega
   obtain ⟨a9,c9,rfl,hel9⟩:=FQ hown.out
   have hnw9:Hid (n=0∨∃ g,a9=some ⟨g,0,none⟩∧w.heap.size≤g):=by
    obtain ⟨a8,c8,h1,h2⟩:=C4 hown.out
    injection h1 with h1
    rcases h2 with h2 | ⟨g,h2⟩
    ·exact .inl h2
    ·refine .inr ⟨g,h1.trans h2,(hown.out.lt g ?_).1⟩
     rw [h1,h2]; simp [Value.ownBlock]
   have hall:=hfit.out
   rw [Ai (by rw [← hn.out]; exact Af _)] at hel9 hall
   replace hel9:=hZ hel9
   replace hall:=hZ hall
   go_wp2_with fail
   go_ret2
   exact ⟨fun _=>⟨a9,c9,rfl,hel9.out,hn.out.symm,hf,hnw9.out⟩,fun h=>(by rw [hall.out] at h; cases h)⟩

def Yh (d:Nat) (q:List Int):Prop:=q.length=d∧∀ x,x ∈ q→x.natAbs≤9
structure DY (w:World) (aN aA:Option Addr) (cN cA M d:Nat) (N A:List Sy):Prop where
 hn:DA w aN aA cA N A
 hM:N.length=M
 hd:A.length=d
 d3:d≤3
 m1:1≤M
 m8:M≤8
 rN:∀ x,x ∈ N→x.nm.size=1∧Yh d x.row
 rA:∀ x,x ∈ A→x.nm.size=1∧Yh d x.row
 fine:Cq N A d=0
 red:∃ Fq,BQ ((A.map Sy.row).map CY) d=some Fq∧Fq.lead.length=d
 det:Fv (A.map Sy.row)≠0
 nmN:N.map Sy.nm=(List.range M).map LS
 nmA:A.map Sy.nm=(List.range d).map OM
theorem DY.fr {w w':World} {aN aA:Option Addr} {cN cA M d:Nat} {N A:List Sy} (h:DY w aN aA cN cA M d N A) (k:Fr w w'):DY w' aN aA cN cA M d N A:=⟨h.hn.fr k,h.hM,h.hd,h.d3,h.m1,h.m8,h.rN,h.rA,h.fine,h.red,h.det,h.nmN,h.nmA⟩
theorem DY.check {w:World} {aN aA:Option Addr} {cN cA M d:Nat} {N A:List Sy} (h:DY w aN aA cN cA M d N A) (hG:G w):Calls Tryz.prog 27 #[.agg #[.slice aN M cN,.slice aA d cA]] w fun e w'=>e=.returned (.int .i64 0)∧Fr w w':=by
 have hc:=Hu aN aA cN cA d N A w hG h.hn (fun x hx=>by
  rcases A4.1 hx with h9 | h9
  ·have h1:=(h.rN x h9).1
   have h2:=(h.rN x h9).2.1
   have:=h.d3
   exact ⟨by omega,by omega⟩
  ·have h1:=(h.rA x h9).1
   have h2:=(h.rA x h9).2.1
   have:=h.d3
   exact ⟨by omega,by omega⟩) (by have:=h.hM; have:=h.m8; omega) (by have:=h.hd; have:=h.d3; omega) (fun _ _ _ _=>by
  have e:FE (A.map Sy.row)=d:=by
   have hd:=h.hd
   match A,hd,h.rA with
   | [],hd,_=>exact hd
   | x :: A',_,hr=>exact (hr x Bx).2.1
  rw [e]
  exact h.red)
 rw [h.fine,h.hM,h.hd] at hc
 exact hc
theorem DY.rowA {w:World} {aN aA:Option Addr} {cN cA M d:Nat} {N A:List Sy} (h:DY w aN aA cN cA M d N A):∀ i,i < d→Yh d (A7 (A.map Sy.row) i):=fun i hi=>by
 rw [BB (by rw [Al,h.hd]; exact hi),List.getElem_map]
 exact (h.rA _ (AK _)).2
theorem MR {x:Int} (h:x.natAbs≤9):Bk x=true:=Ad ⟨by omega,by omega⟩
theorem SM (d:Nat) (L:List (List Int)):(Gq d L).map Prod.fst=(List.range (Gq d L).length).map LS:=by
 unfold Gq
 split
 ·rfl
 ·refine CB (fun i=>?_)
  rw [Am,Ec,Am,DS]
  by_cases hi:i < (L.take 8).length
  ·rw [Aa hi,DD hi]; rfl
  ·rw [AJ (by omega),AJ (by rw [BP]; omega)]; rfl
theorem Ws {w:World} {aN aA:Option Addr} {cN cA d r:Nat} {N A:List Sy} {L B:List (List Int)} (hn:DA w aN aA cA N A) (hN:CD N=Gq d L) (hA:CD A=Hy d B) (d3:d≤3) (hL:Mo L) (hB:Mo B) (hBl:B.length=3) (hf:Cq N A r=0) (hr:r≤d) (hred:r=d→(∃ Fq,BQ (((Hy d B).map Prod.snd).map CY) d=some Fq∧Fq.lead.length=d)∧Fv ((Hy d B).map Prod.snd)≠0):DY w aN aA cN cA N.length d N A:=by
 have hd:A.length=d:=by rw [← Dc,hA]; unfold Hy; rw [Al,BP]
 have hpA:=PY d3 hB hBl
 have hpN:=Pi (d:=d) d3 hL
 have hrd:r=d:=by
  have h:=hf
  unfold Cq at h
  split at h
  ·cases h
  ·split at h
   ·cases h
   ·split at h
    ·rename_i h1 h2 h3; exact absurd h h3
    ·split at h
     ·cases h
     ·omega
 have hm:1≤N.length∧N.length≤8:=by
  rw [← Dc,hN]
  unfold Gq
  split
  ·exact ⟨Af _,by simp⟩
  ·rename_i h
   rw [DS,AB]
   have:=Cz.2 h
   omega
 refine ⟨hn,rfl,hd,d3,hm.1,hm.2,fun x hx=>?_,fun x hx=>?_,by rw [← hrd]; exact hf, ?_, ?_, ?_, ?_⟩
 ·obtain ⟨h1,h2,h3⟩:=hpN _ (by rw [← hN]; exact Ge rfl hx)
  exact ⟨h1,h2,h3⟩
 ·obtain ⟨h1,h2,h3⟩:=hpA _ (by rw [← hA]; exact Ge rfl hx)
  exact ⟨h1,h2,h3⟩
 ·have:=(hred hrd).1
  rw [← hA,Et] at this
  exact this
 ·have:=(hred hrd).2
  rw [← hA,Et] at this
  exact this
 ·rw [← JT,hN,← Dc,hN]; exact SM d L
 ·rw [← JT,hA]; unfold Hy; rw [CN]; rfl
end Go.Proofs.YtkjemicelmabdaaGreatDoor
