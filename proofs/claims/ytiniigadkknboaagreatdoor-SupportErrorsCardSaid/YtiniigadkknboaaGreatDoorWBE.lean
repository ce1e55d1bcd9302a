/- Contracts and laws: WBE. -/
import Derived.Test.YtiniigadkknboaaGreatDoorWBC
import Derived.Deep.RegionHeld3
import Derived.Test.YtiniigadkknboaaGreatDoorWBD
import Derived.Test.YtiniigadkknboaaGreatDoorWAE
import Derived.RangeFuncFrom
import Derived.RangeFuncBox
import Derived.Maps.AppendAt
import Derived.Maps.OwnIn
import Derived.Sort.LoopGhostIn
import Derived.Test.YtiniigadkknboaaGreatDoorWAI
import Derived.Test.YtiniigadkknboaaGreatDoorWAZ

set_option maxRecDepth 100000
set_option maxHeartbeats 4000000
namespace Go.Proofs.YtiniigadkknboaaGreatDoor
open Go.RowKit Go.Lib
attribute [local go_sem ↓] Go.wp_at_zero Go.wp_at_succ
def supS (C:List (List Int)) (v:List Int):Bool:=C.all fun c=>dotP c v c.length == 0
theorem supS_no {C:List (List Int)} {v c:List Int} {j:Nat} (h:C[j]?=some c) (h0:dotP c v c.length≠0):supS C v=false:=by
 unfold supS
 rw [List.all_eq_false]
 exact ⟨c,List.mem_of_getElem? h,by simpa using h0⟩
theorem supS_yes {C:List (List Int)} {v:List Int} (h:∀ (j:Nat) (c:List Int),C[j]?=some c→dotP c v c.length=0):supS C v=true:=by
 unfold supS
 rw [List.all_eq_true]
 intro c hc
 obtain ⟨j,hj,e⟩:=List.getElem_of_mem hc
 have:=h j c (by rw [List.getElem?_eq_getElem hj,e])
 simpa using this
theorem supports_any (C:List (List Int)) (v:List Int) (n:Nat) (va aM aP aC:Option Addr) (vc cM nP cP nM cC:Nat) (w:World) (hG:G w) (hC:MatIs w aC C) (hr:Rect n C) (hv:El w iv va v) (hvn:v.length=n) (hvl:n≤12) (hCl:C.length≤1000) (hvf:∀ y,y ∈ v→fitB y=true) (hCf:∀ r,r ∈ C→∀ y,y ∈ r→fitB y=true) :
 Calls Tryz.prog 57 #[.agg #[.slice aP nP cP,.slice aC C.length cC,.slice aM nM cM],.slice va n vc] w fun e w'=>e=.returned (.bool (supS C v))∧Fr w w':=by
 obtain ⟨N,hN⟩:∃ N,N=C.length:=⟨_,rfl⟩
 rw [← hN] at hCl ⊢
 have hno:Hid (∀ (j:Nat) (c:List Int),C[j]?=some c→dotP c v c.length≠0→supS C v=false):=fun j c h h0=>supS_no h h0
 have hyes:Hid ((∀ (j:Nat) (c:List Int),C[j]?=some c→dotP c v c.length=0)→supS C v=true):=supS_yes
 obtain ⟨res,hres⟩:∃ res,res=supS C v:=⟨_,rfl⟩
 rw [← hres] at hno hyes ⊢
 replace hres:=hZ hres
 replace hvn:=hZ hvn
 replace hN:=hZ hN
 replace hC:=hZ hC
 replace hr:=hZ hr
 replace hv:=hZ hv
 replace hvf:=hZ hvf
 replace hCf:=hZ hCf
 obtain ⟨wb,hwb⟩:∃ wb,wb=w.alloc (.cells #[.slice aP nP cP,.slice aC N cC,.slice aM nM cM] 29):=⟨_,rfl⟩
 have hfb:Fr w wb:=by rw [hwb]; exact (Fr.refl _).alloc _
 have b1:=(C3.new w (.slice aP nP cP) (.slice aC N cC) (.slice aM nM cM) 29).b
 rw [← hwb] at b1
 go_enter Tryz.func57,Tryz.ntmps57
 go_upto_region 1 with (fail)
 rw [← hwb]
 clear hwb
 go_wp2_with fail
 go_loopg [13] N (fun k s13 wr=>∃ j:Nat,s13=.int .i64 j∧j+k=N∧Fr wb wr∧Hid (∀ (t:Nat) (c:List Int),t < j→C[t]?=some c→dotP c v c.length=0))
 case atStart=>exact ⟨0,rfl,by omega,Fr.refl _,fun t c h=>absurd h (Nat.not_lt_zero _)⟩
 case round=>
  obtain ⟨j,rfl,hjk,hf,hz⟩:=hrel
  by_cases hj:j < N
  ·have hdJ:decide (j < N)=true:=decide_eq_true hj
   have hdJ2:decide ((j:Int) < (N:Int))=true:=decide_eq_true (by omega)
   obtain ⟨wo,rfl⟩:∃ wo:World,wo=wr:=⟨_,rfl⟩
   obtain ⟨ko,rfl⟩:∃ ko:Nat,ko=gk:=⟨_,rfl⟩
   have hfo:=hfb.trans hf
   have hj2:j < C.length:=by rw [← hN.out]; exact hj
   obtain ⟨mb,mo,ca,cc,rfl,hcm,hev⟩:=(hC.out.fr hfo).at hj2
   have hcl:=hr.out _ (List.getElem_mem hj2)
   have hcf:=hCf.out _ (List.getElem_mem hj2)
   have hget:=List.getElem?_eq_getElem hj2
   generalize C[j]=c at *
   rw [hcl] at hcm
   have hGo:=hG.fr hfo
   have hdb:=dotP_bd hcf hvf.out
   replace hget:=hZ hget
   replace hev:=hZ hev
   replace hcl:=hZ hcl
   replace hcf:=hZ hcf
   replace hdb:=hZ hdb
   have zj0:(0:Int)≤(j:Int):=Int.natCast_nonneg _
   have zj1:(j:Int) < (N:Int):=by omega
   go_wp2_with fail
   go_loopg [7,19] n (fun k s7 s19 wr=>∃ i:Nat,s19=.int .i64 i∧i+k=n∧Fr wo wr∧s7=.string (tx (dotP c v i)))
   case atStart=>exact ⟨0,rfl,by omega,Fr.refl _,by rw [dotP,tx_zero]⟩
   case round=>
    obtain ⟨i,rfl,hik,hf2,rfl⟩:=hrel
    by_cases hi:i < n
    ·have hdI:decide (i < n)=true:=decide_eq_true hi
     have hdI2:decide ((i:Int) < (n:Int))=true:=decide_eq_true (by omega)
     obtain ⟨wi,rfl⟩:∃ wi:World,wi=wr:=⟨_,rfl⟩
     have hfi:=hfo.trans hf2
     obtain ⟨xb,xo,y,rfl,hxb,hy,cy⟩:=(hev.out.fr hf2).at (i:=i) (by rw [hcl.out]; exact hi)
     obtain ⟨vb,vo,z,rfl,hvb,hz9,cz⟩:=(hv.out.fr hfi).at (i:=i) (by rw [hvn.out]; exact hi)
     have hyb:=fitB_le (hcf.out y (List.mem_of_getElem? hy))
     have hzb:=fitB_le (hvf.out z (List.mem_of_getElem? hz9))
     have hyz:=dot_mul_bd hyb hzb
     have hS:=hdb.out i
     have hstep:dotP c v (i+1)=dotP c v i+y * z:=by rw [dotP,hy,hz9]; rfl
     have hGi:=hGo.fr hf2
     have hofy:=hZ (fun W (hW:Fr wi W)=>Of_any y (by omega) (by omega) W (hGi.fr hW))
     have hofz:=hZ (fun W (hW:Fr wi W)=>Of_any z (by omega) (by omega) W (hGi.fr hW))
     have hmul:=hZ (fun W (hW:Fr wi W)=>MulWd y z (Wd.of40 (by omega)) (Wd.of40 (by omega)) W (hGi.fr hW))
     have hadd:=hZ (fun W (hW:Fr wi W)=>AddWd (dotP c v i) (y * z) (Wd.of40 (by omega)) (Wd.of40 (by omega)) W (hGi.fr hW))
     generalize dotP c v i=S at *
     generalize y * z=yz at *
     rw [← hstep] at hadd
     have zi0:(0:Int)≤(i:Int):=Int.natCast_nonneg _
     have zi1:(i:Int) < (n:Int):=by omega
     replace hy:=hZ hy
     replace hz9:=hZ hz9
     replace hstep:=hZ hstep
     clear hyb hzb hyz hS
     go_wp2_with fail
     go_region_held3 (fun w'=>w'.cell? ⟨vb,vo+i,none⟩=some (.int .i64 z))
      (first | assumption | (refine Fr.keep (by assumption) ?_; assumption) | go_keep)
      (first
       | (go_at_call 96; (with_reducible refine (hofy.out _ ?_).mono ?_); (exact fr9); rintro e w3 ⟨rfl,hf3⟩)
       | (go_at_call 96; (with_reducible refine (hofz.out _ ?_).mono ?_); (exact fr9); rintro e w4 ⟨rfl,hf4⟩)
       | (go_at_call 95; (with_reducible refine (hmul.out _ ?_).mono ?_); (exact fr9); rintro e w5 ⟨rfl,hf5⟩)
       | (go_at_call 94; (with_reducible refine (hadd.out _ ?_).mono ?_); (exact fr9); rintro e w6 ⟨rfl,hf6⟩))
     have hf9:Fr wi w6:=by exact fr9
     go_wp2_with fail
     go_roundg (gk - 1)
     case measure=>omega
     case rel=>exact ⟨i+1,by go_num,by omega,hf2.trans hf9,rfl⟩
    ·obtain rfl:i=n:=by omega
     have hdI:decide (i < i)=false:=decide_eq_false (by omega)
     have hdI2:decide ((i:Int) < (i:Int))=false:=decide_eq_false (by omega)
     have hb0:=tx_beq0 (dotP c v i)
     by_cases h0:dotP c v i=0
     ·rw [decide_eq_true h0] at hb0
      have hz2:Hid (∀ (t:Nat) (c:List Int),t < j+1→C[t]?=some c→dotP c v c.length=0):=fun t c' ht hc'=>by
       by_cases e:t=j
       ·subst e; rw [hget.out] at hc'; injection hc' with hc'; rw [← hc',hcl.out]; exact h0
       ·exact hz.out t c' (by omega) hc'
      replace h0:=hZ h0
      go_wp2_with fail
      go_roundg (ko - 1)
      case measure=>omega
      case rel=>exact ⟨j+1,by go_num,by omega,hf.trans hf2,hz2⟩
     ·rw [decide_eq_false h0] at hb0
      have hfin:=hZ (hno.out j c hget.out (by rw [hcl.out]; exact h0))
      replace h0:=hZ h0
      go_wp2_with fail
      go_ret
      exact ⟨by rw [hfin.out]; rfl,hfo.trans hf2⟩
  ·have hdJ:decide (j < N)=false:=decide_eq_false hj
   have hdJ2:decide ((j:Int) < (N:Int))=false:=decide_eq_false (by omega)
   have hfin:=hZ (hyes.out (fun t c hc=>hz.out t c (by have:=(List.getElem?_eq_some_iff.1 hc).1; have:=hN.out; omega) hc))
   clear hz
   go_wp2_with fail
   go_ret
   exact ⟨by rw [hfin.out]; rfl,hfb.trans hf⟩
theorem valE_zero {P v:List Int} (h:valE P v=0):primeE P=0∧rowE v=0∧v.length=P.length:=by
 unfold valE at h
 by_cases h1:primeE P=0
 ·rw [if_neg (by rw [h1]; simp)] at h
  by_cases h2:rowE v=0
  ·rw [if_neg (by rw [h2]; simp)] at h
   by_cases h3:v.length=P.length
   ·exact ⟨h1,h2,h3⟩
   ·rw [if_pos h3] at h; cases h
  ·rw [if_pos h2] at h; exact absurd h h2
 ·rw [if_pos h1] at h; exact absurd h h1
def sE (E:Int) (P v:List Int):Int:=if E≠0 then E else valE P v
theorem sbegE_one (E:Int) (P v:List Int):sbegE E P [v]=sE E P v:=by
 unfold sbegE sE
 by_cases h:E=0
 ·rw [if_neg (by rw [h]; simp),if_neg (by rw [h]; simp)]
  show (if valE P v≠0 then valE P v else firstE [])=_
  by_cases h2:valE P v=0
  ·rw [if_neg (by rw [h2]; simp),h2]; rfl
  ·rw [if_pos h2]
 ·rw [if_pos h,if_pos h]
theorem sE_zero {E:Int} {P v:List Int} (h:sE E P v=0):E=0∧valE P v=0:=by
 unfold sE at h
 by_cases h1:E=0
 ·rw [if_neg (by rw [h1]; simp)] at h; exact ⟨h1,h⟩
 ·rw [if_pos h1] at h; exact absurd h h1
theorem Mat_one (w:World) (va:Option Addr) (v:List Int) (vc:Nat) (hv:El w iv va v):MatIs (w.alloc (.cells #[.slice va v.length vc] 33)) (some ⟨w.heap.size,0,none⟩) [v] :=
 .inr ⟨w.heap.size,0,rfl,by simp,fun i xs hx=>by
  match i,hx with
  | 0,hx=>
    have hx:v=xs:=by simpa using hx
    subst hx
    exact ⟨va,vc,new_cell _ _ _,hv.fr ((Fr.refl _).alloc _)⟩⟩
theorem Supports_any (aP aC aM:Option Addr) (cP cC cM:Nat) (P:List Int) (C M:List (List Int)) (E:Int) (v:List Int) (va:Option Addr) (vc:Nat) (w:World) (ht:TmF w aP aC aM cP cC cM P C M E) (hv:El w iv va v) (hvl:v.length≤1000000) (hG:G w) :
 Calls Tryz.prog 33 #[.agg #[.slice aP P.length cP,.slice aC C.length cC,.slice aM M.length cM],.slice va v.length vc] w fun e w'=>e=.returned (.tuple #[.bool (decide (sE E P v=0) && supS C v),.int .i64 (sE E P v)])∧Fr w w':=by
 obtain ⟨wb,hwb⟩:∃ wb,wb=w.alloc (.cells #[.slice aP P.length cP,.slice aC C.length cC,.slice aM M.length cM] 29):=⟨_,rfl⟩
 have hfb:Fr w wb:=by rw [hwb]; exact (Fr.refl _).alloc _
 have hT:=C3.new w (.slice aP P.length cP) (.slice aC C.length cC) (.slice aM M.length cM) 29
 rw [← hwb] at hT
 have hzb:wb.heap.size=w.heap.size+1:=by rw [hwb]; simp
 obtain ⟨W2,hW2⟩:∃ W2,W2=wb.alloc (.cells #[.slice va v.length vc] 33):=⟨_,rfl⟩
 have hf2:Fr wb W2:=by rw [hW2]; exact (Fr.refl _).alloc _
 have hm1:MatIs W2 (some ⟨w.heap.size+1,0,none⟩) [v]:=by rw [hW2,← hzb]; exact Mat_one wb va v vc (hv.fr hfb)
 have hbg:=SBegin_any aP aC aM cP cC cM P C M E [v] (some ⟨w.heap.size+1,0,none⟩) 1 W2 (ht.fr (hfb.trans hf2)) hm1 (by simp) (fun r hr=>by rw [List.mem_singleton.1 hr]; exact hvl)
 rw [sbegE_one] at hbg
 have hsu:sE E P v=0→Hid (∀ W,Fr w W→Calls Tryz.prog 57 #[.agg #[.slice aP P.length cP,.slice aC C.length cC,.slice aM M.length cM],.slice va v.length vc] W fun e w'=>e=.returned (.bool (supS C v))∧Fr W w'):=fun h0 W hW=>by
  obtain ⟨h1,h2⟩:=sE_zero h0
  obtain ⟨k1,k2,k3,k4,k5,k6,k7⟩:=ht.ok h1
  obtain ⟨v1,v2,v3⟩:=valE_zero h2
  have h9:=supports_any C v v.length va aM aP aC vc cM P.length cP M.length cC W (hG.fr hW) (ht.c.fr hW) (by rw [v3]; exact k4) (hv.fr hW) rfl (by omega) (by omega) (rowE_fit v2) k6
  exact h9
 have e1:([v]:List (List Int)).length=1:=rfl
 rw [e1] at hbg
 obtain ⟨sb,hsb⟩:∃ sb,sb=supS C v:=⟨_,rfl⟩
 obtain ⟨err,herr⟩:∃ err,err=sE E P v:=⟨_,rfl⟩
 rw [← hsb,← herr] at hsu
 rw [← herr] at hbg
 rw [← hsb,← herr]
 replace hsb:=hZ hsb
 replace herr:=hZ herr
 replace hbg:=hZ hbg
 have b0:=hT.a
 have b1:=hT.b
 have b2:=hT.c
 have c0:=hf2.keep b0
 have c1:=hf2.keep b1
 have c2:=hf2.keep b2
 have hf3:=hfb.trans hf2
 generalize P.length=n at *
 generalize C.length=nC at *
 generalize M.length=nM at *
 generalize v.length=m at *
 clear ht hT hm1 hv hG hf2
 by_cases e0:err=0
 ·have q0:(err != 0)=false:=by rw [e0]; rfl
  have hsu2:=hsu e0
  rw [decide_eq_true e0,e0,Bool.true_and]
  rw [e0] at hbg
  clear hsu herr q0
  subst e0
  go_enter Tryz.func33,Tryz.ntmps33
  go_upto_region 1 with (fail)
  rw [← hwb]
  clear hwb
  go_wp2_with fail
  rw [← hW2]
  refine hbg.out.mono ?_
  rintro e w3 ⟨rfl,hf4⟩
  replace c0:=hf4.keep c0
  replace c1:=hf4.keep c1
  replace c2:=hf4.keep c2
  clear hW2 b0 b1 b2
  go_wp2_with fail
  refine (hsu2.out _ (hf3.trans hf4)).mono ?_
  rintro e w4 ⟨rfl,hf5⟩
  go_wp2_with fail
  go_ret2
  exact ⟨rfl,(hf3.trans hf4).trans hf5⟩
 ·have q0:(err != 0)=true:=bne_iff_ne.2 e0
  rw [decide_eq_false e0,Bool.false_and]
  replace e0:=hZ e0
  clear hsu
  go_enter Tryz.func33,Tryz.ntmps33
  go_upto_region 1 with (fail)
  rw [← hwb]
  clear hwb
  go_wp2_with fail
  rw [← hW2]
  refine hbg.out.mono ?_
  rintro e w3 ⟨rfl,hf4⟩
  clear hW2 b0 b1 b2
  go_wp2_with fail
  go_ret2
  exact ⟨rfl,hf3.trans hf4⟩
def TRet (w:World) (err:Int) (P:List Int) (C M:List (List Int)) (e:Ending) (w':World):Prop:=Fr w w'∧(err=0→∃ (pa:Option Addr) (pc:Nat) (ca:Option Addr) (cc:Nat) (ma:Option Addr) (mc:Nat),e=.returned (.tuple #[.agg #[.slice pa P.length pc,.slice ca C.length cc,.slice ma M.length mc],.int .i64 0])∧(∀ W,Fx (· < w.heap.size) w' W→El W iv pa P)∧(∀ W,Fx (· < w.heap.size) w' W→MatIs W ca C)∧(∀ W,Fx (· < w.heap.size) w' W→MatIs W ma M)∧C.length≤cc∧M.length≤mc) ∧
 (err≠0→e=.returned (.tuple #[.agg #[.slice none 0 0,.slice none 0 0,.slice none 0 0],.int .i64 err]))
theorem Mat_two (w:World) (va ua:Option Addr) (v u:List Int) (vc uc:Nat) (hv:El w iv va v) (hu:El w iv ua u):MatIs (w.alloc (.cells #[.slice va v.length vc,.slice ua u.length uc] 33)) (some ⟨w.heap.size,0,none⟩) [v,u] :=
 .inr ⟨w.heap.size,0,rfl,by simp,fun i xs hx=>by
  match i,hx with
  | 0,hx=>
    have hx:v=xs:=by simpa using hx
    subst hx
    exact ⟨va,vc,(new2a w _ _ _).1,hv.fr ((Fr.refl _).alloc _)⟩
  | 1,hx=>
    have hx:u=xs:=by simpa using hx
    subst hx
    exact ⟨ua,uc,(new2b w _ _ _).1,hu.fr ((Fr.refl _).alloc _)⟩⟩
def jL (P v u:List Int):List (List Int):=ofB P.length [v,u]
def jA (P v u:List Int):List (List Int):=ker P.length (jL P v u)
def jS (P v u:List Int):List (List Int):=ker P.length (jA P v u)
def jnE (P v u:List Int):Int:=if frOk P.length (jL P v u)=false then 4 else if (jS P v u).length < 2 then 18 else 0
theorem sjoin_any (P v u:List Int) (aP va ua:Option Addr) (cP vc uc:Nat) (w:World) (hG:G w) (hE:ErX w) (hp:primeE P=0) (hP4:P.length≤4) (hP:El w iv aP P) (hv:El w iv va v) (hu:El w iv ua u) (hvl:v.length=P.length) (hul:u.length=P.length) (hvf:∀ x,x ∈ v→fitB x=true) (huf:∀ x,x ∈ u→fitB x=true) :
 Calls Tryz.prog 45 #[.slice aP P.length cP,.slice va P.length vc,.slice ua P.length uc] w (TRet w (jnE P v u) P (jA P v u) (jS P v u)):=by
 have hT:=C3.new w (.slice none 0 0) (.slice none 0 0) (.slice none 0 0) 29
 obtain ⟨wb,hwb⟩:∃ wb,wb=w.alloc (.cells #[.slice none 0 0,.slice none 0 0,.slice none 0 0] 29):=⟨_,rfl⟩
 have hfb:Fr w wb:=by rw [hwb]; exact (Fr.refl _).alloc _
 have hszb:wb.heap.size=w.heap.size+1:=by rw [hwb]; simp
 rw [← hwb] at hT
 have hmt:=Mat_two wb va ua v u vc uc (hv.fr hfb) (hu.fr hfb)
 rw [hszb,hvl,hul] at hmt
 obtain ⟨W2,hW2⟩:∃ W2,W2=wb.alloc (.cells #[.slice va P.length vc,.slice ua P.length uc] 33):=⟨_,rfl⟩
 have hf2:Fr wb W2:=by rw [hW2]; exact (Fr.refl _).alloc _
 have hsz2:W2.heap.size=w.heap.size+2:=by rw [hW2,World.size_alloc,hszb]
 rw [← hW2] at hmt
 have hfm:=FromMapping_any P [v,u] aP (some ⟨w.heap.size+1,0,none⟩) cP 2 W2 (hG.fr (hfb.trans hf2)) (hE.fr (hfb.trans hf2)) hp hP4 (hP.fr (hfb.trans hf2)) hmt (fun r hr=>by
  rcases List.mem_cons.1 hr with rfl | hr
  ·exact hvl
  ·rw [List.mem_singleton.1 hr]; exact hul) (by simp) (fun r hr=>by
  rcases List.mem_cons.1 hr with rfl | hr
  ·exact hvf
  ·rw [List.mem_singleton.1 hr]; exact huf) (fun h=>by cases h)
 have e2:([v,u]:List (List Int)).length=2:=rfl
 rw [e2] at hfm
 have hje:jnE P v u=if frOk P.length (jL P v u)=false then 4 else if (jS P v u).length < 2 then 18 else 0:=rfl
 generalize jnE P v u=JE at *
 have hS:ker P.length (ker P.length (ofB P.length [v,u]))=jS P v u:=rfl
 have hA:ker P.length (ofB P.length [v,u])=jA P v u:=rfl
 have hL:ofB P.length [v,u]=jL P v u:=rfl
 rw [hS,hA,hL] at hfm
 generalize frOk P.length (jL P v u)=ok at *
 generalize jS P v u=S at *
 generalize jA P v u=A at *
 unfold FmRet at hfm
 obtain ⟨n,hn⟩:∃ n,n=P.length:=⟨_,rfl⟩
 rw [← hn] at hfm hW2 ⊢
 replace hn:=hZ hn
 replace hje:=hZ hje
 replace hfm:=hZ hfm
 replace hT:=hZ hT
 replace hszb:=hZ hszb
 replace hsz2:=hZ hsz2
 have hfw2:=hfb.trans hf2
 clear hS hA hL e2 hmt hG hE hp hP hv hu hvl hul hvf huf
 have hz0:=hszb.out
 go_enter Tryz.func45,Tryz.ntmps45
 go_upto_region 1 with (fail)
 rw [← hwb]
 clear hwb
 go_wp2_with fail
 rw [← hW2]
 clear hW2
 obtain ⟨rb,hrb⟩:∃ rb,rb=w.heap.size:=⟨_,rfl⟩
 replace hfm:=hfm.out
 rw [← hrb] at hT hfm ⊢
 replace hrb:=hZ hrb
 refine hfm.mono ?_
 rintro e w3 ⟨hf3,hok,hno⟩
 have hT3:=(hT.out.fr hf2).fr hf3
 have hfw:=hfw2.trans hf3
 cases hb:ok with
 | false=>
   obtain rfl:=hno hb
   clear hok hno
   obtain rfl:JE=4:=by rw [hje.out,if_pos hb]
   obtain ⟨w4,hw4⟩:∃ w4,w4=w3.alloc (.cells #[.slice none 0 0,.slice none 0 0,.slice none 0 0] 29):=⟨_,rfl⟩
   have hf4:Fr w3 w4:=by rw [hw4]; exact (Fr.refl _).alloc _
   have hT4:=hT3.fr hf4
   go_upto_region 2 with (fail)
   rw [← hw4]
   clear hw4
   have q0:=hT4.a
   have q1:=hT4.fa
   have q2:=hT4.b
   have q3:=hT4.fb
   have q4:=hT4.c
   have q5:=hT4.fc
   have hU:=hT4.set0 (.slice none 0 0)
   have p0:=hU.b
   have p1:=hU.fb
   have hU1:=hU.set1 (.slice none 0 0)
   have p2:=hU1.c
   have p3:=hU1.fc
   have hU2:=hU1.set2 (.slice none 0 0)
   have y0:=hZ hU2.a
   have y1:=hZ hU2.b
   have y2:=hZ hU2.c
   have hfxT:Fx (·=rb) w4 (((w4.setCell ⟨rb,0,none⟩ (.slice none 0 0)).setCell ⟨rb,1,none⟩ (.slice none 0 0)).setCell ⟨rb,2,none⟩ (.slice none 0 0)):=Fx.setCell (p:=(·=rb)) (q:=⟨rb,2,none⟩) (Fx.setCell (p:=(·=rb)) (q:=⟨rb,1,none⟩) (Fx.setCell (p:=(·=rb)) (q:=⟨rb,0,none⟩) (Fx.refl _ _) (.inl rfl) _) (.inl rfl) _) (.inl rfl) _
   have hfin:=hZ (((Fx.of_fr ((hfw.trans hf4))).trans hfxT).toFr (fun k hk e=>by have e:k=rb:=e; have:=hrb.out; omega))
   replace hfxT:=hZ hfxT
   clear hU hU1 hU2
   go_wp2_with fail
   have v0:=y0.out
   have v1:=y1.out
   have v2:=y2.out
   refine bodyPost_ret (v:=.tuple #[.agg #[.slice none 0 0,.slice none 0 0,.slice none 0 0],.int .i64 4]) (by simp [results,Tryz.results45,go_sem,v0,v1,v2]) rfl ?_
   exact ⟨hfin.out,fun h=>(by cases h),fun _=>rfl⟩
 | true=>
   obtain ⟨pa,pc,ca,cc,ma,mc,rfl,hel,hmc,hmm,hcc,hcm⟩:=hok hb
   clear hok hno
   obtain ⟨w4,hw4⟩:∃ w4,w4=w3.alloc (.cells #[.slice pa n pc,.slice ca A.length cc,.slice ma S.length mc] 29):=⟨_,rfl⟩
   have hf4:Fr w3 w4:=by rw [hw4]; exact (Fr.refl _).alloc _
   have hB:=C3.new w3 (.slice pa n pc) (.slice ca A.length cc) (.slice ma S.length mc) 29
   rw [← hw4] at hB
   have hT4:=hT3.fr hf4
   have b0:=hB.a
   have b1:=hB.b
   have b2:=hB.c
   replace hel:=hZ hel
   replace hmc:=hZ hmc
   replace hmm:=hZ hmm
   have hchp:=hZ (fun Wf (hfT:Fx (·=rb) w4 Wf) W (hW:Fx (· < w.heap.size) Wf W)=>((Fx.of_fr (p:=(· < W2.heap.size)) hf4).trans (hfT.mono (fun k e=>by have e:k=rb:=e; have:=hrb.out; have:=hsz2.out; show k < _; omega))).trans (hW.mono (fun k e=>by have e:k < w.heap.size:=e; have:=hsz2.out; show k < W2.heap.size; omega)))
   go_upto_region 2 with (fail)
   rw [← hw4]
   clear hw4 hB
   by_cases hl2:S.length < 2
   ·obtain rfl:JE=18:=by rw [hje.out,if_neg (by rw [hb]; decide),if_pos hl2]
    have d1:decide ((S.length:Int) < 2)=true:=decide_eq_true (by omega)
    have q0:=hT4.a
    have q1:=hT4.fa
    have q2:=hT4.b
    have q3:=hT4.fb
    have q4:=hT4.c
    have q5:=hT4.fc
    have hU:=hT4.set0 (.slice none 0 0)
    have p0:=hU.b
    have p1:=hU.fb
    have hU1:=hU.set1 (.slice none 0 0)
    have p2:=hU1.c
    have p3:=hU1.fc
    have hU2:=hU1.set2 (.slice none 0 0)
    have y0:=hZ hU2.a
    have y1:=hZ hU2.b
    have y2:=hZ hU2.c
    have hfxT:Fx (·=rb) w4 (((w4.setCell ⟨rb,0,none⟩ (.slice none 0 0)).setCell ⟨rb,1,none⟩ (.slice none 0 0)).setCell ⟨rb,2,none⟩ (.slice none 0 0)):=Fx.setCell (p:=(·=rb)) (q:=⟨rb,2,none⟩) (Fx.setCell (p:=(·=rb)) (q:=⟨rb,1,none⟩) (Fx.setCell (p:=(·=rb)) (q:=⟨rb,0,none⟩) (Fx.refl _ _) (.inl rfl) _) (.inl rfl) _) (.inl rfl) _
    have hfin:=hZ (((Fx.of_fr ((hfw.trans hf4))).trans hfxT).toFr (fun k hk e=>by have e:k=rb:=e; have:=hrb.out; omega))
    replace hfxT:=hZ hfxT
    clear hU hU1 hU2
    go_wp2_with fail
    have v0:=y0.out
    have v1:=y1.out
    have v2:=y2.out
    refine bodyPost_ret (v:=.tuple #[.agg #[.slice none 0 0,.slice none 0 0,.slice none 0 0],.int .i64 18]) (by simp [results,Tryz.results45,go_sem,v0,v1,v2]) rfl ?_
    exact ⟨hfin.out,fun h=>(by cases h),fun _=>rfl⟩
   ·obtain rfl:JE=0:=by rw [hje.out,if_neg (by rw [hb]; decide),if_neg hl2]
    have d1:decide ((S.length:Int) < 2)=false:=decide_eq_false (by omega)
    have q0:=hT4.a
    have q1:=hT4.fa
    have q2:=hT4.b
    have q3:=hT4.fb
    have q4:=hT4.c
    have q5:=hT4.fc
    have hU:=hT4.set0 (.slice pa n pc)
    have p0:=hU.b
    have p1:=hU.fb
    have hU1:=hU.set1 (.slice ca A.length cc)
    have p2:=hU1.c
    have p3:=hU1.fc
    have hU2:=hU1.set2 (.slice ma S.length mc)
    have y0:=hZ hU2.a
    have y1:=hZ hU2.b
    have y2:=hZ hU2.c
    have hfxT:Fx (·=rb) w4 (((w4.setCell ⟨rb,0,none⟩ (.slice pa n pc)).setCell ⟨rb,1,none⟩ (.slice ca A.length cc)).setCell ⟨rb,2,none⟩ (.slice ma S.length mc)):=Fx.setCell (p:=(·=rb)) (q:=⟨rb,2,none⟩) (Fx.setCell (p:=(·=rb)) (q:=⟨rb,1,none⟩) (Fx.setCell (p:=(·=rb)) (q:=⟨rb,0,none⟩) (Fx.refl _ _) (.inl rfl) _) (.inl rfl) _) (.inl rfl) _
    have hfin:=hZ (((Fx.of_fr ((hfw.trans hf4))).trans hfxT).toFr (fun k hk e=>by have e:k=rb:=e; have:=hrb.out; omega))
    replace hfxT:=hZ hfxT
    clear hU hU1 hU2
    go_wp2_with fail
    have v0:=y0.out
    have v1:=y1.out
    have v2:=y2.out
    refine bodyPost_ret (v:=.tuple #[.agg #[.slice pa n pc,.slice ca A.length cc,.slice ma S.length mc],.int .i64 0]) (by simp [results,Tryz.results45,go_sem,v0,v1,v2]) rfl ?_
    exact ⟨hfin.out,fun _=>⟨pa,pc,ca,cc,ma,mc,by rw [← hn.out],fun W hW=>hel.out W (hchp.out _ hfxT.out W hW),fun W hW=>hmc.out W (hchp.out _ hfxT.out W hW),fun W hW=>hmm.out W (hchp.out _ hfxT.out W hW),hcc,hcm⟩,fun h=>absurd rfl h⟩
theorem Fr.grownBy {w w':World} (h:Fr w w'):w.grownBy w' none :=
 have h:Below w.heap.size w w':=h
 ⟨h.os,h.tape,h.output,h.size,fun k hk _=>h.block k hk⟩
def dvT (C:List (List Int)) (P:List Int) (i:Nat):List Int:=((List.range i).map fun k=>((k+1:Nat):Int)).filter fun n=>supS C (patS P n)
theorem dvT_succ (C:List (List Int)) (P:List Int) (i:Nat):dvT C P (i+1)=if supS C (patS P ((i+1:Nat):Int))=true then dvT C P i ++ [((i+1:Nat):Int)] else dvT C P i:=by
 unfold dvT
 rw [List.range_succ,List.map_append,List.filter_append]
 by_cases h:supS C (patS P ((i+1:Nat):Int))=true
 ·rw [if_pos h]
  congr 1
  rw [List.map_cons,List.map_nil,List.filter_cons_of_pos (by exact h),List.filter_nil]
 ·rw [if_neg h,List.map_cons,List.map_nil,List.filter_cons_of_neg (by exact h),List.filter_nil,List.append_nil]
theorem dvT_len (C:List (List Int)) (P:List Int) (i:Nat):(dvT C P i).length≤i:=by
 unfold dvT
 have:=List.length_filter_le (fun n=>supS C (patS P n)) ((List.range i).map fun k=>((k+1:Nat):Int))
 rw [List.length_map,List.length_range] at this
 exact this
theorem dvT_pre (C:List (List Int)) (P:List Int):∀ (j i:Nat),i≤j→dvT C P i <+: dvT C P j
 | 0,i,h=>by
   obtain rfl:i=0:=by omega
   exact List.prefix_rfl
 | j+1,i,h=>by
   by_cases e:i=j+1
   ·subst e; exact List.prefix_rfl
   ·refine (dvT_pre C P j i (by omega)).trans ?_
    rw [dvT_succ]
    split
    ·exact List.prefix_append _ _
    ·exact List.prefix_rfl
theorem patS_fit {P:List Int} {s:Int} (h:patOk P s=true) (hs:0≤s∧s≤1000000000):∀ y,y ∈ patS P s→fitB y=true:=by
 cases P with
 | nil=>intro y hy; cases hy
 | cons p0 r=>
   intro y hy
   unfold patS at hy
   rcases List.mem_cons.1 hy with rfl | hy
   ·exact decide_eq_true (by omega)
   ·obtain ⟨p,hp,rfl⟩:=List.mem_map.1 hy
    have hq:=List.all_eq_true.1 h p hp
    obtain ⟨-,-,-,-,-,q6,q7⟩:=of_decide_eq_true hq
    exact decide_eq_true (by omega)
theorem divs_seq (p0:Int) (r:List Int) (C:List (List Int)) (aP aC aM:Option Addr) (cP cC cM nM:Nat) (tb lb lm:Nat) (w0:World) (hG:G w0) (hE:primeE (p0 :: r)=0) (hP:El w0 iv aP (p0 :: r)) (hC:MatIs w0 aC C) (hr:Rect (r.length+1) C) (hCl:C.length≤12) (hCf:∀ r,r ∈ C→∀ y,y ∈ r→fitB y=true)
 (hc0:w0.cell? ⟨tb,0,none⟩=some (.slice aP (r.length+1) cP)) (hc1:w0.cell? ⟨tb,1,none⟩=some (.slice aC C.length cC)) (hc2:w0.cell? ⟨tb,2,none⟩=some (.slice aM nM cM)) (hcl:w0.cell? ⟨lb,0,none⟩=some (.int .i64 lm)) (hlm:lm≤1000)
 (hpo:∀ k:Nat,1≤k→k≤lm→patOk (p0 :: r) k=true) :
 SeqStopsK Fence.wide 3 Tryz.prog 99 #[.pointer (some ⟨lb,0,none⟩),.pointer (some ⟨tb,0,none⟩)] (fun x:Int=>#[.int .i64 x]) (Below w0.heap.size) (fun xs=>xs=dvT C (p0 :: r) lm) (fun pre=>pre≠[]∧pre <+: dvT C (p0 :: r) lm) 100000 w0:=by
 intro l J Jx W hW hJ hJx hY h0
 have hW:Fr w0 W:=hW
 have h6:=(primeE_mem hE).2.1
 rw [List.length_cons] at h6
 have hpat:=hZ (fun (k:Nat) (h1:1≤k) (h2:k≤lm) W' (hW':Fr w0 W')=>Patent_ok p0 r aP cP (k:Int) W' (by omega) hE (hpo k h1 h2) (hP.fr hW') (hG.fr hW'))
 have hsup:=hZ (fun (k:Nat) (h1:1≤k) (h2:k≤lm) W' (va:Option Addr) (vc:Nat) (hW':Fr w0 W') (hv:El W' iv va (patS (p0 :: r) (k:Int)))=>supports_any C (patS (p0 :: r) (k:Int)) (r.length+1) va aM aP aC vc cM (r.length+1) cP nM cC W' (hG.fr hW') (hC.fr hW') hr hv (by rw [patS_len]; rfl) (by omega) (by omega) (patS_fit (hpo k h1 h2) (by omega)) hCf)
 have hvl:∀ k:Nat,(patS (p0 :: r) (k:Int)).length=r.length+1:=fun k=>by rw [patS_len]; rfl
 generalize r.length+1=n at *
 replace hY:=hZ hY
 replace hJ:=hZ hJ
 replace hJx:=hZ hJx
 have hst:Hid (∀ i,dvT C (p0 :: r) (i+1)=if supS C (patS (p0 :: r) ((i+1:Nat):Int))=true then dvT C (p0 :: r) i ++ [((i+1:Nat):Int)] else dvT C (p0 :: r) i):=fun i=>dvT_succ C (p0 :: r) i
 have hle:Hid (∀ i,(dvT C (p0 :: r) i).length≤i):=fun i=>dvT_len C (p0 :: r) i
 have hpr:Hid (∀ i j,i≤j→dvT C (p0 :: r) i <+: dvT C (p0 :: r) j):=fun i j h=>dvT_pre C (p0 :: r) j i h
 have h0':J (dvT C (p0 :: r) 0) W:=h0
 generalize dvT C (p0 :: r)=T at *
 generalize patS (p0 :: r)=V at *
 replace hvl:=hZ hvl
 replace hW:=hZ hW
 clear hE hpo hP hG hC hr hCf h0
 refine callsIn_of_wp Tryz.func99 rfl trivial ?_ rfl
 simp only [Tryz.ntmps99,List.size_toArray,List.length_cons,List.length_nil,Nat.reduceAdd,Nat.reduceSub,Array.replicate_succ,Array.replicate_zero,List.push_toArray,List.append_toArray,List.nil_append,List.cons_append]
 gi_wp2
 gi_loopg [4] lm (fun k s4 wr=>∃ i:Nat,s4=.int .i64 ((i+1:Nat):Int)∧i+k=lm∧J (T i) wr∧Fr w0 wr)
 case atStart=>exact ⟨0,rfl,by omega,h0',hW.out⟩
 case round=>
  obtain ⟨i,rfl,hik,hj,hf⟩:=hrel
  have c0:=hf.keep hc0
  have c1:=hf.keep hc1
  have c2:=hf.keep hc2
  have cl:=hf.keep hcl
  by_cases hi:i < lm
  ·have hd:decide (((i+1:Nat):Int)≤(lm:Int))=true:=decide_eq_true (by omega)
   have hpi:=hZ (hpat.out (i+1) (by omega) (by omega) wr hf)
   have hsi:=hZ (hst.out i)
   have hsu2:=hZ (hsup.out (i+1) (by omega) (by omega))
   obtain ⟨wo,rfl⟩:∃ wo:World,wo=wr:=⟨_,rfl⟩
   gi_wp2
   refine ⟨trivial,(callsIn_wide.2 hpi.out).mono ?_⟩
   rintro e w1 ⟨va,vc,rfl,hel,-,-,hf1⟩
   rw [hvl.out (i+1)]
   have hsu3:=hZ (hsu2.out w1 va vc (hf.trans hf1) hel)
   replace c0:=hf1.keep c0
   replace c1:=hf1.keep c1
   replace c2:=hf1.keep c2
   replace cl:=hf1.keep cl
   clear hel
   cases hb:supS C (V ((i+1:Nat):Int)) with
   | false=>
     rw [hb] at hsu3 hsi
     rw [if_neg (by decide)] at hsi
     gi_wp2
     refine ⟨trivial,(callsIn_wide.2 hsu3.out).mono ?_⟩
     rintro e w2 ⟨rfl,hf2⟩
     gi_wp2
     try (refine ⟨fun _ h=>(by cases h), ?_⟩; gi_wp2)
     gi_roundg (gk - 1)
     case measure=>omega
     case rel=>exact ⟨i+1,by go_num,by omega,by rw [hsi.out]; exact hJ.out _ _ _ none hj (hf1.trans hf2).grownBy (fun r e=>by cases e),(hf.trans hf1).trans hf2⟩
   | true=>
     rw [hb] at hsu3 hsi
     rw [if_pos rfl] at hsi
     gi_wp2
     refine ⟨trivial,(callsIn_wide.2 hsu3.out).mono ?_⟩
     rintro e w2 ⟨rfl,hf2⟩
     replace c0:=hf2.keep c0
     replace cl:=hf2.keep cl
     have hj2:J (T i) w2:=hJ.out _ _ _ none hj (hf1.trans hf2).grownBy (fun r e=>by cases e)
     obtain ⟨fn,tmps,assign,body,hy,hR⟩:=hY.out (T i) ((i+1:Nat):Int) w2 hj2 (by have:=hle.out i; omega)
     rw [show (((i+1:Nat):Int))=(i:Int)+1 by omega] at hy
     gi_wp2
     refine hR.mono ?_
     rintro e w5 (⟨rfl,hj5,hk5⟩ | ⟨rfl,hjx⟩)
     ·have hf5:Fr w0 w5:=Below.trans ((hf.trans hf1).trans hf2) hk5
      gi_wp2
      gi_roundg (gk - 1)
      case measure=>omega
      case rel=>exact ⟨i+1,by go_num,by omega,by rw [hsi.out]; exact hj5,hf5⟩
     ·gi_wp2
      refine bodyPost_ret (results_none rfl _ _ _) rfl ?_
      exact ⟨⟨_,rfl⟩,.inr ⟨_,⟨by simp,by have:=hpr.out (i+1) lm (by omega); rw [hsi.out] at this; exact this⟩,hjx⟩⟩
  ·obtain rfl:i=lm:=by omega
   have hd:decide (((i+1:Nat):Int)≤(i:Int))=false:=decide_eq_false (by omega)
   gi_wp2
   go_end0
   exact ⟨⟨_,rfl⟩,.inl ⟨_,rfl,hj⟩⟩
theorem colF_more:∀ (F F':Nat) (g:List (List Int)) (c t:Nat) (r:List (List Int)×Nat),F≤F'→colF F g c t=some r→colF F' g c t=some r
 | 0,_,_,_,_,_,_,h=>by simp [colF] at h
 | F+1,0,_,_,_,_,hle,_=>absurd hle (by omega)
 | F+1,F'+1,g,c,t,r,hle,h=>by
   rw [colF] at h ⊢
   by_cases h1:colOkW g c=true
   ·rw [if_pos h1] at h ⊢
    cases hp:pickFT g c t (g.length - t) with
    | none=>rw [hp] at h; exact h
    | some k=>
      rw [hp] at h
      simp only at h ⊢
      obtain ⟨g2,h2,h3⟩:=Option.bind_eq_some_iff.1 h
      rw [h2,Option.bind_some]
      by_cases hr:restT (swp g t k) c t (t+1) (g.length - (t+1))=true
      ·rw [if_pos hr] at h3 ⊢; exact colF_more F F' g2 c t r (by omega) h3
      ·rw [if_neg hr] at h3 ⊢; exact h3
   ·rw [if_neg h1] at h; cases h
theorem formS_more (F F':Nat) (hF:F≤F'):∀ (n c:Nat) (g:List (List Int)) (t:Nat) (r:List (List Int)×Nat),formS F n c g t=some r→formS F' n c g t=some r
 | 0,_,_,_,_,h=>h
 | n+1,c,g,t,r,h=>by
   rw [formS] at h ⊢
   by_cases ht:t < g.length
   ·rw [if_pos ht] at h ⊢
    obtain ⟨q,h1,h2⟩:=Option.bind_eq_some_iff.1 h
    rw [colF_more F F' g c t q hF h1,Option.bind_some]
    exact formS_more F F' hF n (c+1) q.1 q.2 r h2
   ·rw [if_neg ht] at h ⊢; exact h
theorem kernS_more {F F' n:Nat} {m K:List (List Int)} (hF:F≤F') (h:kernS F n m=some K):kernS F' n m=some K:=by
 obtain ⟨gW,tW,gK,tK,h1,h2,h3⟩:=kernS_some h
 unfold kernS
 rw [formS_more F F' hF _ _ _ _ _ h1,Option.bind_some,formS_more F F' hF _ _ _ _ _ h2,Option.map_some,h3]
theorem FX_ge:1000000000≤FX:=by have:=KA_pos; have:=KB_ge; unfold FX; omega
theorem ker_small {n:Nat} {m K:List (List Int)} (h:kernS 1000 n m=some K):ker n m=K:=by
 unfold ker
 rw [kernS_more (Nat.le_trans (by decide) FX_ge) h]; rfl
theorem ofB_small {n:Nat} {m K:List (List Int)} (h:(formS 1000 n 0 m 0).map (fun r=>r.1.take r.2)=some K):ofB n m=K:=by
 obtain ⟨r,h1,h2⟩:=Option.map_eq_some_iff.1 h
 unfold ofB
 rw [formS_more 1000 FX (Nat.le_trans (by decide) FX_ge) _ _ _ _ _ h1,Option.map_some,Option.getD_some]
 exact h2
def badS (a:Int):Prop:=a < 1∨100000 < a
instance (a:Int):Decidable (badS a):=by unfold badS; infer_instance
def dvE (P:List Int) (a b:Int):Int:=if badS a∨badS b then 3 else jnE P (patS P a) (patS P b)
theorem Divisions_any (p0:Int) (r:List Int) (aP:Option Addr) (cP:Nat) (a b:Int) (w:World) (hG:G w) (hE:ErX w) (hp:primeE (p0 :: r)=0) (hP4:r.length+1≤4) (hP:El w iv aP (p0 :: r)) (ha:badS a∨(1≤a∧a≤50000)∧patOk (p0 :: r) a=true) (hb:badS b∨(1≤b∧b≤50000)∧patOk (p0 :: r) b=true) :
 Calls Tryz.prog 13 #[.slice aP (r.length+1) cP,.int .i64 a,.int .i64 b] w (TRet w (dvE (p0 :: r) a b) (p0 :: r) (jA (p0 :: r) (patS (p0 :: r) a) (patS (p0 :: r) b)) (jS (p0 :: r) (patS (p0 :: r) a) (patS (p0 :: r) b))):=by
 have hT:=C3.new w (.slice none 0 0) (.slice none 0 0) (.slice none 0 0) 29
 obtain ⟨wb,hwb⟩:∃ wb,wb=w.alloc (.cells #[.slice none 0 0,.slice none 0 0,.slice none 0 0] 29):=⟨_,rfl⟩
 have hfb:Fr w wb:=by rw [hwb]; exact (Fr.refl _).alloc _
 have hszb:Hid (wb.heap.size=w.heap.size+1):=by show _=_; rw [hwb]; simp
 rw [← hwb] at hT
 have hpc:=hZ (PCheck_fr (p0 :: r) aP cP wb (hP.fr hfb) (by rw [List.length_cons]; omega))
 rw [hp,List.length_cons] at hpc
 have hpg:=hZ (fun (s:Int) (h:(1≤s∧s≤50000)∧patOk (p0 :: r) s=true) W (hW:Fr w W)=>Patent_ok p0 r aP cP s W h.1 hp h.2 (hP.fr hW) (hG.fr hW))
 have hpb:=hZ (fun (s:Int) (h:badS s) W (hW:Fr w W)=>Patent_rg (p0 :: r) aP cP s W hp h (hP.fr hW) (by rw [List.length_cons]; omega))
 rw [List.length_cons] at hpb
 have hvl:∀ s,(patS (p0 :: r) s).length=r.length+1:=fun s=>by rw [patS_len]; rfl
 have hjn:Hid ((1≤a∧a≤50000)∧patOk (p0 :: r) a=true→(1≤b∧b≤50000)∧patOk (p0 :: r) b=true→∀ (W:World) (va ua:Option Addr) (vc uc:Nat),Fr w W→El W iv va (patS (p0 :: r) a)→El W iv ua (patS (p0 :: r) b)→Calls Tryz.prog 45 #[.slice aP (r.length+1) cP,.slice va (r.length+1) vc,.slice ua (r.length+1) uc] W (TRet W (jnE (p0 :: r) (patS (p0 :: r) a) (patS (p0 :: r) b)) (p0 :: r) (jA (p0 :: r) (patS (p0 :: r) a) (patS (p0 :: r) b)) (jS (p0 :: r) (patS (p0 :: r) a) (patS (p0 :: r) b)))):=fun h1 h2 W va ua vc uc hW hv hu=>
  sjoin_any (p0 :: r) (patS (p0 :: r) a) (patS (p0 :: r) b) aP va ua cP vc uc W (hG.fr hW) (hE.fr hW) hp hP4 (hP.fr hW) hv hu (hvl a) (hvl b) (patS_fit h1.2 (by omega)) (patS_fit h2.2 (by omega))
 have hde:dvE (p0 :: r) a b=if badS a∨badS b then 3 else jnE (p0 :: r) (patS (p0 :: r) a) (patS (p0 :: r) b):=rfl
 generalize dvE (p0 :: r) a b=DE at *
 unfold TRet at hjn
 rw [List.length_cons] at hjn
 generalize jnE (p0 :: r) (patS (p0 :: r) a) (patS (p0 :: r) b)=JE at *
 generalize jA (p0 :: r) (patS (p0 :: r) a) (patS (p0 :: r) b)=A at *
 generalize jS (p0 :: r) (patS (p0 :: r) a) (patS (p0 :: r) b)=S at *
 obtain ⟨n,hn⟩:∃ n,n=r.length+1:=⟨_,rfl⟩
 rw [← hn] at hpc hpg hpb hvl hjn ⊢
 replace hn:=hZ hn
 replace hT:=hZ hT
 replace hvl:=hZ hvl
 replace hde:=hZ hde
 clear hG hE hp hP
 have hz0:=hszb.out
 go_enter Tryz.func13,Tryz.ntmps13
 go_upto_region 1 with (fail)
 rw [← hwb]
 clear hwb
 obtain ⟨rb,hrb⟩:∃ rb,rb=w.heap.size:=⟨_,rfl⟩
 rw [← hrb] at hT ⊢
 replace hrb:=hZ hrb
 go_wp2_with fail
 refine hpc.out.mono ?_
 rintro e w1 ⟨rfl,hf1⟩
 have hT1:=hT.out.fr hf1
 have hfw1:=hfb.trans hf1
 by_cases hba:badS a
 ·have h9:=hZ (hpb.out a hba w1 hfw1)
  obtain rfl:DE=3:=by rw [hde.out,if_pos (.inl hba)]
  clear ha hb
  replace hba:=hZ hba
  go_wp2_with fail
  refine h9.out.mono ?_
  rintro e w2 ⟨rfl,hf2⟩
  have hT2:=hT1.fr hf2
  have hfw2:=hfw1.trans hf2
  have q0:=hT2.a
  have q1:=hT2.fa
  have q2:=hT2.b
  have q3:=hT2.fb
  have q4:=hT2.c
  have q5:=hT2.fc
  have hU:=hT2.set0 (.slice none 0 0)
  have p0:=hU.b
  have p1:=hU.fb
  have hU1:=hU.set1 (.slice none 0 0)
  have p2:=hU1.c
  have p3:=hU1.fc
  have hU2:=hU1.set2 (.slice none 0 0)
  have y0:=hZ hU2.a
  have y1:=hZ hU2.b
  have y2:=hZ hU2.c
  have hfxT:Fx (·=rb) w2 (((w2.setCell ⟨rb,0,none⟩ (.slice none 0 0)).setCell ⟨rb,1,none⟩ (.slice none 0 0)).setCell ⟨rb,2,none⟩ (.slice none 0 0)):=Fx.setCell (p:=(·=rb)) (q:=⟨rb,2,none⟩) (Fx.setCell (p:=(·=rb)) (q:=⟨rb,1,none⟩) (Fx.setCell (p:=(·=rb)) (q:=⟨rb,0,none⟩) (Fx.refl _ _) (.inl rfl) _) (.inl rfl) _) (.inl rfl) _
  have hfin:=hZ (((Fx.of_fr (hfw2)).trans hfxT).toFr (fun k hk e=>by have e:k=rb:=e; have:=hrb.out; omega))
  replace hfxT:=hZ hfxT
  clear hU hU1 hU2
  go_wp2_with fail
  have v0:=y0.out
  have v1:=y1.out
  have v2:=y2.out
  refine bodyPost_ret (v:=.tuple #[.agg #[.slice none 0 0,.slice none 0 0,.slice none 0 0],.int .i64 3]) (by simp [results,Tryz.results13,go_sem,v0,v1,v2]) rfl ?_
  exact ⟨hfin.out,fun h=>(by cases h),fun _=>rfl⟩
 ·have ha2:=ha.resolve_left hba
  have h9:=hZ (hpg.out a ha2 w1 hfw1)
  clear ha
  go_wp2_with fail
  refine h9.out.mono ?_
  rintro e w2 ⟨va,vc,rfl,hev,-,-,hf2⟩
  rw [hvl.out a]
  have hT2:=hT1.fr hf2
  have hfw2:=hfw1.trans hf2
  replace hev:=hZ hev
  by_cases hbb:badS b
  ·have h8:=hZ (hpb.out b hbb w2 hfw2)
   obtain rfl:DE=3:=by rw [hde.out,if_pos (.inr hbb)]
   clear hb ha2
   replace hbb:=hZ hbb
   replace hba:=hZ hba
   go_wp2_with fail
   refine h8.out.mono ?_
   rintro e w3 ⟨rfl,hf3⟩
   have hT3:=hT2.fr hf3
   have hfw3:=hfw2.trans hf3
   have q0:=hT3.a
   have q1:=hT3.fa
   have q2:=hT3.b
   have q3:=hT3.fb
   have q4:=hT3.c
   have q5:=hT3.fc
   have hU:=hT3.set0 (.slice none 0 0)
   have p0:=hU.b
   have p1:=hU.fb
   have hU1:=hU.set1 (.slice none 0 0)
   have p2:=hU1.c
   have p3:=hU1.fc
   have hU2:=hU1.set2 (.slice none 0 0)
   have y0:=hZ hU2.a
   have y1:=hZ hU2.b
   have y2:=hZ hU2.c
   have hfxT:Fx (·=rb) w3 (((w3.setCell ⟨rb,0,none⟩ (.slice none 0 0)).setCell ⟨rb,1,none⟩ (.slice none 0 0)).setCell ⟨rb,2,none⟩ (.slice none 0 0)):=Fx.setCell (p:=(·=rb)) (q:=⟨rb,2,none⟩) (Fx.setCell (p:=(·=rb)) (q:=⟨rb,1,none⟩) (Fx.setCell (p:=(·=rb)) (q:=⟨rb,0,none⟩) (Fx.refl _ _) (.inl rfl) _) (.inl rfl) _) (.inl rfl) _
   have hfin:=hZ (((Fx.of_fr (hfw3)).trans hfxT).toFr (fun k hk e=>by have e:k=rb:=e; have:=hrb.out; omega))
   replace hfxT:=hZ hfxT
   clear hU hU1 hU2
   go_wp2_with fail
   have v0:=y0.out
   have v1:=y1.out
   have v2:=y2.out
   refine bodyPost_ret (v:=.tuple #[.agg #[.slice none 0 0,.slice none 0 0,.slice none 0 0],.int .i64 3]) (by simp [results,Tryz.results13,go_sem,v0,v1,v2]) rfl ?_
   exact ⟨hfin.out,fun h=>(by cases h),fun _=>rfl⟩
  ·have hb2:=hb.resolve_left hbb
   have h8:=hZ (hpg.out b hb2 w2 hfw2)
   obtain rfl:DE=JE:=by rw [hde.out,if_neg (fun h=>h.elim hba hbb)]
   have hj2:=hZ (hjn.out ha2 hb2)
   clear hb hb2 ha2 hjn
   replace hba:=hZ hba
   replace hbb:=hZ hbb
   go_wp2_with fail
   refine h8.out.mono ?_
   rintro e w3 ⟨ua,uc,rfl,heu,-,-,hf3⟩
   rw [hvl.out b]
   have hT3:=hT2.fr hf3
   have hfw3:=hfw2.trans hf3
   have hj3:=hZ (hj2.out w3 va ua vc uc hfw3 (hev.out.fr hf3) heu)
   clear heu hj2
   go_wp2_with fail
   refine hj3.out.mono ?_
   rintro e w4 ⟨hf4,hok,hno⟩
   have hT4:=hT3.fr hf4
   have hfw4:=hfw3.trans hf4
   by_cases hj0:DE=0
   ·obtain ⟨pa,pc,ca,cc,ma,mc,rfl,hel,hmc,hmm,hcc,hcm⟩:=hok hj0
    clear hok hno
    subst hj0
    replace hel:=hZ hel
    replace hmc:=hZ hmc
    replace hmm:=hZ hmm
    have hz3:w.heap.size < w3.heap.size:=by have:=hszb.out; have:=(hf1.trans (hf2.trans hf3)).size; omega
    replace hz3:=hZ hz3
    have hchp:=hZ (fun Wf (hfT:Fx (·=rb) w4 Wf) W (hW:Fx (· < w.heap.size) Wf W)=>(hfT.mono (q:=(· < w3.heap.size)) (fun k e=>by have e:k=rb:=e; have:=hrb.out; have:=hz3.out; show k < _; omega)).trans (hW.mono (q:=(· < w3.heap.size)) (fun k e=>by have e:k < w.heap.size:=e; have:=hz3.out; show k < _; omega)))
    have q0:=hT4.a
    have q1:=hT4.fa
    have q2:=hT4.b
    have q3:=hT4.fb
    have q4:=hT4.c
    have q5:=hT4.fc
    have hU:=hT4.set0 (.slice pa n pc)
    have p0:=hU.b
    have p1:=hU.fb
    have hU1:=hU.set1 (.slice ca A.length cc)
    have p2:=hU1.c
    have p3:=hU1.fc
    have hU2:=hU1.set2 (.slice ma S.length mc)
    have y0:=hZ hU2.a
    have y1:=hZ hU2.b
    have y2:=hZ hU2.c
    have hfxT:Fx (·=rb) w4 (((w4.setCell ⟨rb,0,none⟩ (.slice pa n pc)).setCell ⟨rb,1,none⟩ (.slice ca A.length cc)).setCell ⟨rb,2,none⟩ (.slice ma S.length mc)):=Fx.setCell (p:=(·=rb)) (q:=⟨rb,2,none⟩) (Fx.setCell (p:=(·=rb)) (q:=⟨rb,1,none⟩) (Fx.setCell (p:=(·=rb)) (q:=⟨rb,0,none⟩) (Fx.refl _ _) (.inl rfl) _) (.inl rfl) _) (.inl rfl) _
    have hfin:=hZ (((Fx.of_fr (hfw4)).trans hfxT).toFr (fun k hk e=>by have e:k=rb:=e; have:=hrb.out; omega))
    replace hfxT:=hZ hfxT
    clear hU hU1 hU2
    go_wp2_with fail
    have v0:=y0.out
    have v1:=y1.out
    have v2:=y2.out
    refine bodyPost_ret (v:=.tuple #[.agg #[.slice pa n pc,.slice ca A.length cc,.slice ma S.length mc],.int .i64 0]) (by simp [results,Tryz.results13,go_sem,v0,v1,v2]) rfl ?_
    exact ⟨hfin.out,fun _=>⟨pa,pc,ca,cc,ma,mc,by rw [hn.out]; rfl,fun W hW=>hel.out W (hchp.out _ hfxT.out W hW),fun W hW=>hmc.out W (hchp.out _ hfxT.out W hW),fun W hW=>hmm.out W (hchp.out _ hfxT.out W hW),hcc,hcm⟩,fun h=>absurd rfl h⟩
   ·obtain rfl:=hno hj0
    clear hok hno
    have hj9:=hZ hj0
    clear hj0
    have q0:=hT4.a
    have q1:=hT4.fa
    have q2:=hT4.b
    have q3:=hT4.fb
    have q4:=hT4.c
    have q5:=hT4.fc
    have hU:=hT4.set0 (.slice none 0 0)
    have p0:=hU.b
    have p1:=hU.fb
    have hU1:=hU.set1 (.slice none 0 0)
    have p2:=hU1.c
    have p3:=hU1.fc
    have hU2:=hU1.set2 (.slice none 0 0)
    have y0:=hZ hU2.a
    have y1:=hZ hU2.b
    have y2:=hZ hU2.c
    have hfxT:Fx (·=rb) w4 (((w4.setCell ⟨rb,0,none⟩ (.slice none 0 0)).setCell ⟨rb,1,none⟩ (.slice none 0 0)).setCell ⟨rb,2,none⟩ (.slice none 0 0)):=Fx.setCell (p:=(·=rb)) (q:=⟨rb,2,none⟩) (Fx.setCell (p:=(·=rb)) (q:=⟨rb,1,none⟩) (Fx.setCell (p:=(·=rb)) (q:=⟨rb,0,none⟩) (Fx.refl _ _) (.inl rfl) _) (.inl rfl) _) (.inl rfl) _
    have hfin:=hZ (((Fx.of_fr (hfw4)).trans hfxT).toFr (fun k hk e=>by have e:k=rb:=e; have:=hrb.out; omega))
    replace hfxT:=hZ hfxT
    clear hU hU1 hU2
    go_wp2_with fail
    have v0:=y0.out
    have v1:=y1.out
    have v2:=y2.out
    refine bodyPost_ret (v:=.tuple #[.agg #[.slice none 0 0,.slice none 0 0,.slice none 0 0],.int .i64 DE]) (by simp [results,Tryz.results13,go_sem,v0,v1,v2]) rfl ?_
    exact ⟨hfin.out,fun h=>absurd h hj9.out,fun _=>rfl⟩
def rowQ (g:List (List Rat)) (i:Nat):List Rat:=(g[i]?).getD []
def entQ (g:List (List Rat)) (i c:Nat):Rat:=((rowQ g i)[c]?).getD 0
def tqRow (r:List Rat):Bool:=r.all fun x=>decide (Tq x)
def atQ (g:List (List Rat)) (c k:Nat):Nat:=k+(g.drop k).findIdx fun r=>decide ((r[c]?).getD 0≠0)
def subOk (f x y:Rat):Bool:=decide (Tq f∧Tq y∧Tq (f * y)∧Tq x)
def subRow (f:Rat):List Rat→List Rat→Option (List Rat)
 | [],_=>some []
 | x :: xs,y :: ys=>if subOk f x y then (subRow f xs ys).map ((x - f * y) :: ·) else none
 | _ :: _,[]=>none
def elimQ (g:List (List Rat)) (c k:Nat):Nat→Option (List (List Rat))
 | 0=>some g
 | i+1=>(elimQ g c k i).bind fun g=>if i=k∨entQ g i c=0 then some g else (subRow (entQ g i c) (rowQ g i) (rowQ g k)).map fun r=>g.set i r
structure RS where
 g:List (List Rat)
 lead:List Nat
 det:Rat
def swapIf (g:List (List Rat)) (k a:Nat):List (List Rat):=if a=k then g else swp g k a
def negIf (d:Rat) (k a:Nat):Rat:=if a=k then d else -d
def stepQ (c:Nat) (s:RS):Option RS :=
 if atQ s.g c s.lead.length=s.g.length then some ⟨s.g,s.lead,0⟩ else
  if Tq s.det∧Tq (entQ (swapIf s.g s.lead.length (atQ s.g c s.lead.length)) s.lead.length c)∧tqRow (rowQ (swapIf s.g s.lead.length (atQ s.g c s.lead.length)) s.lead.length)=true then
   (elimQ ((swapIf s.g s.lead.length (atQ s.g c s.lead.length)).set s.lead.length ((rowQ (swapIf s.g s.lead.length (atQ s.g c s.lead.length)) s.lead.length).map (· / entQ (swapIf s.g s.lead.length (atQ s.g c s.lead.length)) s.lead.length c))) c s.lead.length s.g.length).map
    fun g3=>⟨g3,s.lead ++ [c],negIf s.det s.lead.length (atQ s.g c s.lead.length) * entQ (swapIf s.g s.lead.length (atQ s.g c s.lead.length)) s.lead.length c⟩
  else none
def redTo (g:List (List Rat)):Nat→Option RS
 | 0=>some ⟨g,[],1⟩
 | c+1=>(redTo g c).bind (stepQ c)
example:(redTo [[2,1],[4,3]] 2).map (fun s=>(s.g,s.lead,s.det))=some ([[1,0],[0,1]],[0,1],2):=by decide +kernel

end Go.Proofs.YtiniigadkknboaaGreatDoor
