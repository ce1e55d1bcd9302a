/- Contracts and laws: FBP. -/
import Derived.Test.YtiniigadkknboaaGreatDoorFAE
import Derived.Test.YtiniigadkknboaaGreatDoorFAT
import Derived.Maps.OwnIn
import Derived.Sort.LoopGhostIn
import Derived.Sort.QuietIn
import Derived.Stop.RegionWithIn

set_option maxRecDepth 100000
set_option maxHeartbeats 2000000
namespace Go.Proofs.YtiniigadkknboaaGreatDoor
open Go.RowKit Go.Lib
structure PV where
 xs:List Int
 g:Nat
 c:Nat
def PV.enc (n:Nat) (x:PV):Array Value:=#[.int .i64 (FG x.xs),.slice (some ⟨x.g,0,none⟩) n x.c]
def YV (form:List (List Int)) (n₀:Nat) (_:Nat→Prop) (pre:List PV) (x:PV) (W:World):Prop:=form[pre.length]?=some x.xs∧n₀≤x.g∧EN W x.g 0 x.xs
theorem A2.fxb {w W W':World} {a:Option Addr} {m:List (List Int)} {p:Nat→Prop} (h:A2 w a m) (hf:Fr w W) (k:Fx p W W') (hp:∀ j,j < w.heap.size→¬ p j):A2 W' a m:=by
 rcases h with h | ⟨b,o,ha,hb,hc⟩
 ·exact .inl h
 ·refine .inr ⟨b,o,ha,An hb (Ar hf.size k.size),fun i xs hx=>?_⟩
  obtain ⟨a',c',h1,h2⟩:=hc i xs hx
  refine ⟨a',c',k.keep (hf.keep h1) (hp b hb), ?_⟩
  rcases h2 with h2 | ⟨b2,o2,ha2,hb2,hc2⟩
  ·exact .inl h2
  ·exact .inr ⟨b2,o2,ha2,An hb2 (Ar hf.size k.size),fun j x hx=>k.keep (hf.keep (hc2 j x hx)) (hp b2 hb2)⟩
theorem Ri (n:Nat) (a:Option Addr) (N cap:Nat) (w:World) :
 Calls Tryz.prog 111 #[.agg #[.int .i64 n,.slice a N cap]] w fun e w'=>e=.returned (.func (.func 154) #[] #[.pointer (some ⟨w.heap.size,0,none⟩)])∧w'=w.alloc (.cells #[.int .i64 n,.slice a N cap] 76):=by
 go_enter Tryz.func111,Tryz.ntmps111
 go_wp2_with fail
 go_ret
 exact ⟨rfl,rfl⟩
theorem Rh (lb n cap:Nat) (form:List (List Int)) (a:Option Addr) (w0:World) (q:Nat→Prop) (hc:w0.cell? ⟨lb,1,none⟩=some (.slice a form.length cap)) (hG:∀ W,Fx q w0 W→G W) (hM:∀ W,Fx q w0 W→A2 W a form) (hq:¬ q lb)
 (hr:Bq n form) (hn:n≤1000000) (hl:form.length≤1000) (hb:∀ r,r ∈ form→∀ x,x ∈ r→Sm x) :
 Y4 Fence.wide 3 Tryz.prog 154 #[.pointer (some ⟨lb,0,none⟩)] (PV.enc n) (YV form) (fun xs=>xs.map PV.xs=form) w0 q:=by
 intro l J W hfr hJ hY h0
 refine QZ Tryz.func154 rfl trivial ?_ rfl
 simp only [Tryz.ntmps154,CG,Ay,CM,Nat.reduceAdd,Nat.reduceSub,CV,CU,Du,C6,D5,DG]
 have e1:=hfr.keep hc
 obtain ⟨N,hN⟩:∃ N,N=form.length:=⟨_,rfl⟩
 rw [← hN] at e1 hl
 replace hN:=hZ hN
 replace hG:=hZ hG
 replace hM:=hZ hM
 replace hY:=hZ hY
 replace hJ:=hZ hJ
 replace hq:=hZ hq
 replace hr:=hZ hr
 replace hb:=hZ hb
 clear hc
 gi_wp2
 gi_loopg [9] N (fun k s9 wr=>∃ (i:Nat) (xs:List PV),s9=.int .i64 i∧i+k=N∧Hid (xs.map PV.xs=form.take i)∧J (fun _=>False) xs wr∧Fx q W wr)
 case atStart=>exact ⟨0,[],rfl,by omega,rfl,h0,Fx.refl _ _⟩
 case round=>
  obtain ⟨i,xs,rfl,hik,hxs,hj,hfx⟩:=hrel
  by_cases hi:i < N
  ·have hd:decide (i < N)=true:=Ab hi
   have hiL:i < form.length:=by rw [← hN.out]; exact hi
   have hqx:Fx q w0 wr:=(Fx.of_fr hfr).trans hfx
   obtain ⟨r,hr1⟩:∃ r,form[i]?=some r:=⟨_,Ac hiL⟩
   have hrm:=Af hr1
   have hrl:=hr.out r hrm
   obtain ⟨b2,o2,hae,hc2⟩:∃ b o,a=some ⟨b,o,none⟩∧∀ (i:Nat) (xs:List Int),form[i]?=some xs→∃ a' c',wr.cell? ⟨b,o+i,none⟩=some (.slice a' xs.length c')∧El wr iv a' xs:=by
    rcases hM.out wr hqx with h | ⟨b,o,h1,-,h2⟩
    ·rw [h] at hiL; simp at hiL
    ·exact ⟨b,o,h1,h2⟩
   obtain ⟨ra,rc,c1,her⟩:=hc2 i r hr1
   rw [hrl] at c1
   have hlo:=HA r ra rc wr (hG.out wr hqx) her (by omega) (hb.out r hrm)
   rw [hrl] at hlo
   have hlo2:Hid (Calls Tryz.prog 110 #[.slice ra n rc] wr fun e w'=>∃ g c,e=.returned (.slice (some ⟨g,0,none⟩) n c)∧Fr wr w'∧wr.heap.size≤g∧EN w' g 0 r):=hlo.mono fun e w' ⟨g,c,h1,h2,h3⟩=>by
    obtain ⟨k1,-,-,k4,-⟩:=Eh (Fe (hG.out wr hqx)) h3
    exact ⟨g,c,by rw [h1,hrl],h2,k4,k1⟩
   subst hae
   have hsn:=hZ (BH hr1)
   have hlen:Hid (form[xs.length]?=some r):=by
    show _=_
    have h9:=congrArg List.length hxs.out
    rw [AE,Av] at h9
    rw [show xs.length=i by omega]; exact hr1
   have z1:(i:Int) < (N:Int):=by omega
   have z2:(0:Int)≤(i:Int):=by omega
   replace e1:=hfx.keep e1 hq.out
   replace hr1:=hZ hr1
   replace hc2:=hZ hc2
   replace her:=hZ her
   replace hrl:=hZ hrl
   replace hrm:=hZ hrm
   replace hj:=hZ hj
   clear hlo hqx
   gi_wp2
   refine ⟨trivial,(BV.2 hlo2.out).mono ?_⟩
   rintro e w4 ⟨g4,c4,rfl,hf4,hg4,hO4⟩
   have hj4:=hZ (hJ.out (fun _=>False) (fun _=>False) xs _ _ hj.out (Fx.of_fr hf4) (fun k e=>.inl e))
   have hld:=Ks r (some ⟨g4,0,none⟩) c4 w4 hO4.el (by have:=hrl.out; omega)
   rw [hrl.out] at hld
   replace hld:=hZ hld
   replace hO4:=hZ hO4
   clear hlo2 hj
   gi_wp2
   refine ⟨trivial,(BV.2 hld.out).mono ?_⟩
   rintro e w5 ⟨rfl,hf5⟩
   have hj5:=hJ.out (fun _=>False) (fun _=>False) xs _ _ hj4.out (Fx.of_fr hf5) (fun k e=>.inl e)
   obtain ⟨fn,tmps,assign,body,hy,hR⟩:=hY.out (fun _=>False) xs ⟨r,g4,c4⟩ w5 hj5 (fun k e=>e.elim) ⟨hlen.out,by have:=hfx.size; show W.heap.size≤g4; omega,hO4.out.fr hf5⟩
   simp only [PV.enc] at hy
   clear hj5 hj4 hld
   gi_wp2
   refine hR.mono ?_
   rintro e w6 ⟨rfl,hj6,hk6⟩
   have hfx6:=((hfx.fr hf4).fr hf5).trans (hk6.mono fun k e=>e.2)
   obtain ⟨xs6,hxs6⟩:∃ xs6,xs6=xs ++ [(⟨r,g4,c4⟩:PV)]:=⟨_,rfl⟩
   rw [← hxs6] at hj6
   have hx6:=hZ (show xs6.map PV.xs=form.take (i+1) by rw [hxs6,AD,hxs.out,hsn.out]; rfl)
   clear hR hy hxs6
   gi_wp2
   gi_roundg (gk - 1)
   case measure=>omega
   case rel=>exact ⟨i+1,xs6,by go_num,by omega,hx6,hj6,hfx6⟩
  ·obtain rfl:i=N:=by omega
   have hd:decide (i < i)=false:=Aa hi
   have hx9:xs.map PV.xs=form:=by rw [hxs.out,Ap (by rw [← hN.out]; exact Ah _)]
   replace hx9:=hZ hx9
   gi_wp2
   go_end0
   exact ⟨⟨_,rfl⟩,_,xs,hx9.out,hj⟩
end Go.Proofs.YtiniigadkknboaaGreatDoor
