/- Contracts and laws: VNC. -/
import Derived.Test.YtcglmebcfeoedaaGreatDoorVSA
import Derived.Test.YtcglmebcfeoedaaGreatDoorVUD
import Derived.Test.YtcglmebcfeoedaaGreatDoorVL

set_option maxRecDepth 100000
set_option maxHeartbeats 2000000
namespace Go.Proofs.YtcglmebcfeoedaaGreatDoor
open Go.RowKit Go.Lib
attribute [local go_sem ↓] AC AD
def Ok (s:EZ):Int:=if s.odd=true then -s.last else s.last
theorem U5 {s:EZ} {k:Nat} (h:Bn k s.last):Bn k (Ok s):=by unfold Ok; split; exact h.neg; exact h
theorem Vp (m:List (List Int)) (n:Nat) (s:EZ) (a:Option Addr) (cap:Nat) (w:World) (hG:G w) (hm:Ca w a m) (hr:CQ n m) (hn1:1≤n) (hn:n≤1000) (hl:m.length=n) (hb:∀ r,r ∈ m→∀ x,x ∈ r→Sm x) (hz:Kq m n=some s) (hp:s.piv.length=n) (hL:Bn 200 s.last) :
 Calls Tryz.prog 23 #[.slice a n cap] w fun e w'=>e=.returned (.string (tx (Ok s)))∧Fr w w':=by
 have hbig:=hZ (fun W (hW:Fr w W)=>Je m a cap n W (hG.fr hW) (hm.fr hW) hr hn1 (by omega) (by omega) hb)
 have hel:=fun ob c hs W (hW:G W) (h:Bz W ob 0 hs m)=>OU ob 0 c n n hs m s W hW h hr (Ah _) hn (by omega) hz
 have hng:=hZ (fun W=>VJ s.last W (by have:=hL.size2; omega))
 have e1:s.odd=true→Ok s=-s.last:=fun h=>Al h
 have e2:s.odd=false→Ok s=s.last:=fun h=>Ai (by rw [h]; simp)
 rw [hl] at hbig hel
 replace hel:=hZ hel
 replace e1:=hZ e1
 replace e2:=hZ e2
 have hG1:=hZ hG
 replace hl:=hZ hl
 generalize Ok s=D at *
 obtain ⟨od,hod⟩:∃ od,od=s.odd:=⟨_,rfl⟩
 rw [← hod] at e1 e2
 replace hod:=hZ hod
 replace hp:=hZ hp
 clear hm hb hG hL hr hz
 go_enter Tryz.func23,Tryz.ntmps23
 go_wp2_with fail
 refine (hbig.out _ (Fr.refl _)).mono ?_
 rintro e w1 ⟨v,hs,rfl,hgg,hrw,hnew,hf1⟩
 obtain ⟨gb1,cb1,rfl⟩:=CW hgg.own (by rw [hl.out]; omega)
 obtain ⟨hgr,-,hge,-⟩:=hgg.grid
 rw [hl.out]
 have he:=hZ (hel.out gb1 cb1 hs w1 (hG1.out.fr hf1) hgr)
 have hbl:Hid (∀ k,gb gb1 hs k→w.heap.size≤k):=by
  rintro k (rfl | ⟨hd,hm2,rfl⟩)
  ·exact hge
  ·exact hnew.out hd hm2
 replace hgg:=hZ hgg
 replace hgr:=hZ hgr
 replace hrw:=hZ hrw
 go_wp2_with fail
 refine he.out.mono ?_
 rintro e w3 ⟨a3,c3,hs3,rfl,-,-,-,-,-,hfx⟩
 have hfr:=hZ (((Fx.of_fr hf1).trans (hfx.mono hbl.out)).toFr (fun k hk e=>by omega))
 rw [hp.out,← hod.out]
 have d1:decide ((n:Int) < (n:Int))=false:=Aa (by omega)
 cases od with
 | false=>
   have e3:=hZ (e2.out rfl)
   go_wp2_with fail
   go_ret
   exact ⟨by rw [e3.out]; rfl,hfr.out⟩
 | true=>
   have e3:=hZ (e1.out rfl)
   go_wp2_with fail
   refine (hng.out _).mono ?_
   rintro e w4 ⟨rfl,rfl⟩
   go_wp2_with fail
   go_ret
   exact ⟨by rw [e3.out]; rfl,hfr.out⟩
theorem Ub (a:Option Addr) (cap:Nat) (w:World) (hG:G w) :
 Calls Tryz.prog 23 #[.slice a 0 cap] w fun e w'=>e=.returned (.string (tx 1))∧Fr w w':=by
 have hbig:=hZ (fun W (hW:G W)=>Je [] a cap 1 W hW (.inl rfl) (fun r hr=>by cases hr) (by decide) (by decide) (by simp) (fun r hr=>by cases hr))
 have hel:∀ (b:Option Addr) (c:Nat) (W:World),Calls Tryz.prog 70 #[.slice b 0 c,.int .i64 0] W fun e w'=>e=.returned (.tuple #[.slice none 0 0,.string ⟨#[49]⟩,.bool false])∧W=w':=fun b c W=>by
  go_enter Tryz.func70,Tryz.ntmps70
  go_wp2_with fail
  refine D2 1 ?_
  rw [Cb]
  go_wp2_with fail
  go_ret3
  exact ⟨rfl,rfl⟩
 replace hel:=hZ hel
 go_enter Tryz.func23,Tryz.ntmps23
 go_wp2_with fail
 refine (hbig.out _ hG).mono ?_
 rintro e w1 ⟨v,hs,rfl,hgg,hrw,hnew,hf1⟩
 obtain ⟨b,c,rfl⟩:=hgg.slice
 go_wp2_with fail
 refine (hel.out _ _ _).mono ?_
 rintro e w3 ⟨rfl,rfl⟩
 go_wp2_with fail
 go_ret
 exact ⟨by rw [show tx 1=⟨#[49]⟩ from E1]; rfl,hf1⟩
theorem OZ {A:List Sy} {M d k:Nat} {D:Int} {aN aA:Option Addr} {cN cA:Nat} {w:World} (hG:G w) (hC:Jk w 0 aN aA M cN d cA) (hA:Hm w aA A) (hd:A.length=d) (hd6:d≤1000000) (hD:Bn k D) (hk:k≤40000)
 (hdet:∀ W a c,Fr w W→Ca W a (A.map Sy.row)→Calls Tryz.prog 76 #[.slice a d c] W fun e w'=>e=.returned (.tuple #[sv D,.int .i64 0])∧Fr W w') :
 Calls Tryz.prog 27 #[.agg #[.slice aN M cN,.slice aA d cA]] w fun e w'=>e=.returned (.tuple #[sv (D.natAbs:Int),.int .i64 0])∧Fr w w':=by
 have hacc:=hZ (fun W (hW:Fr w W)=>Jo aN aA M cN cA A W (hG.fr hW) (hA.fr hW) (by omega))
 rw [hd] at hacc
 have habs:=hZ (fun W=>Jp D W (by have:=hD.size2; omega))
 have hC2:=Bl.new w (.slice aN M cN) (.slice aA d cA) 31
 have f1:Fr w (w.alloc (.cells #[.slice aN M cN,.slice aA d cA] 31)):=(Fr.refl _).alloc _
 have n0:=hC2.a
 have n1:=hC2.b
 replace hC:=hZ hC
 replace hdet:=hZ hdet
 clear hC2 hD hG
 go_enter Tryz.func27,Tryz.ntmps27
 go_wp2_with fail
 refine (hC.out _ f1).mono ?_
 rintro e w2 ⟨rfl,hf2⟩
 replace n0:=hf2.keep n0
 replace n1:=hf2.keep n1
 have f2:=f1.trans hf2
 go_wp2_with fail
 refine (hacc.out _ f2).mono ?_
 rintro e w3 ⟨a3,c3,rfl,hm3,hf3⟩
 have hdet3:=hZ (hdet.out _ a3 c3 (f2.trans hf3) hm3)
 clear hm3
 go_wp2_with fail
 refine hdet3.out.mono ?_
 rintro e w4 ⟨rfl,hf4⟩
 go_wp2_with fail
 refine (habs.out _).mono ?_
 rintro e w5 ⟨rfl,hf5⟩
 go_wp2_with fail
 go_ret2
 exact ⟨rfl,((f2.trans hf3).trans hf4).trans hf5⟩
structure Xn (A:List Sy) (r:Nat) (D:Int):Prop where
 red:∃ F,C4 ((A.map Sy.row).map CB) (Ew (A.map Sy.row))=some F∧F.lead.length=r
 rank:∀ (a:Option Addr) (c:Nat) (W:World),G W→Ca W a (A.map Sy.row)→Calls Tryz.prog 58 #[.slice a A.length c] W fun e w'=>e=.returned (.int .i64 r)∧Fr W w'
 bd:Bn 200 D
 le:r≤A.length
 detL:r=A.length→∀ (a:Option Addr) (c:Nat) (W:World),G W→Ca W a (A.map Sy.row)→Calls Tryz.prog 23 #[.slice a A.length c] W fun e w'=>e=.returned (.string (tx D))∧Fr W w'
 detT:r=A.length→∀ (a:Option Addr) (c:Nat) (W:World),G W→Ca W a (A.map Sy.row)→Calls Tryz.prog 76 #[.slice a A.length c] W fun e w'=>e=.returned (.tuple #[sv D,.int .i64 0])∧Fr W w'
theorem XN {N A:List Sy} (h:Cs A.length (N ++ A) (N ++ A).length 0=0) (h12:A.length≤12):∃ r D,Xn A r D:=by
 have hz:=HA _ _ h
 have hA:∀ x,x ∈ A→CV x.row=0∧x.row.length=A.length:=fun x hx=>by
  obtain ⟨j,hj⟩:=A6 (GK N hx)
  have hl:=(Ag.1 hj).1
  have h9:=Mo (hz j x (BJ _) (by omega) hj)
  exact h9.2.2
 obtain ⟨m,hm⟩:∃ m,m=A.map Sy.row:=⟨_,rfl⟩
 have hml:m.length=A.length:=by rw [hm,Am]
 have hR:CQ A.length m:=fun r hr=>by
  rw [hm] at hr
  obtain ⟨x,hx,rfl⟩:=BG.1 hr
  exact (hA x hx).2
 have hF:∀ r,r ∈ m→∀ x,x ∈ r→Br x=true:=fun r hr=>by
  rw [hm] at hr
  obtain ⟨x,hx,rfl⟩:=BG.1 hr
  exact (JJ (hA x hx).1).2
 have hB:WG 1000000000 m:=fun r hr x hx=>by
  have:=hF r hr x hx
  unfold Br at this
  rw [IE] at this
  omega
 have hSm:∀ r,r ∈ m→∀ x,x ∈ r→Sm x:=fun r hr x hx=>by have:=hB r hr x hx; exact ⟨by omega,by omega⟩
 obtain ⟨F,S,e1,e2,e3,e4,e5,e6⟩:=U3 (by omega) hR hB
 have hbd:Bn 200 S.last:=Bm e5 (by decide +kernel)
 rw [hml] at e4
 by_cases h0:A.length=0
 ·have hA0:A=[]:=Az h0
  subst hA0
  refine ⟨0,1,⟨⟨⟨[],[],1⟩,rfl,rfl⟩,fun a c W hW _=>TL a c W hW,by decide +kernel,Ah _,fun _ a c W hW _=>Ub a c W hW,fun _ a c W _ _=>Xk a c W⟩⟩
 ·have hcol:Ew m=A.length:=by unfold Ew; rw [B1 (by omega)]; exact hR _ (A3 _)
  refine ⟨S.piv.length,Ok S,⟨⟨F,by rw [← hm,hcol]; exact e1,by rw [e3]⟩,fun a c W hW hm2=>?_,U5 hbd,e4,fun hr a c W hW hm2=>?_,fun hr a c W hW hm2=>?_⟩⟩
  ·rw [← hm] at hm2
   have:=Vc m A.length S a c W hW hm2 hR (by omega) (by omega) (by omega) (by omega) hSm e2
   rw [hml] at this; exact this
  ·rw [← hm] at hm2
   exact Vp m A.length S a c W hW hm2 hR (by omega) (by omega) hml hSm e2 hr hbd
  ·rw [← hm] at hm2
   have hdet:F.det=((Ok S:Int):Rat):=by
    rcases e6 with ⟨_,e⟩ | ⟨e,_⟩
    ·exact e
    ·omega
   have:=Vo m a c A.length F W hW hm2 ⟨by omega,by omega,hR,hF⟩ (by omega) hml e1
   rw [hdet,HN] at this
   exact this
end Go.Proofs.YtcglmebcfeoedaaGreatDoor
