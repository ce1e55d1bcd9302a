/- Contracts and laws: FBN. -/
import Derived.Test.YtiniigadkknboaaGreatDoorFBH
import Derived.Test.YtiniigadkknboaaGreatDoorFBJ
import Derived.Test.YtiniigadkknboaaGreatDoorFBE
import Derived.Test.YtiniigadkknboaaGreatDoorFBG
import Derived.Test.YtiniigadkknboaaGreatDoorFBF
import Derived.Test.YtiniigadkknboaaGreatDoorFBL

set_option maxRecDepth 100000
set_option maxHeartbeats 800000
namespace Go.Proofs.YtiniigadkknboaaGreatDoor
open Go.RowKit Go.Lib
theorem Sy {v:List Int} (hl:v.length≤64) (hf:∀ y,y ∈ v→Bk y=true):Ck v=0 :=
 Lu (by omega) (Cu.2 fun y hy=>by simp [hf y hy])
theorem Lp {P v:List Int} (hp:BM P=0) (hl:v.length=P.length) (hf:∀ y,y ∈ v→Bk y=true):DU P v=0:=by
 have h6:=(Dx hp).2.1
 have hr:=Sy (by omega) hf
 unfold DU
 rw [Ae (by rw [hp]; simp),Ae (by rw [hr]; simp),Ae (by rw [hl]; simp)]
theorem Su {P v:List Int} (h:DU P v=0):sE 0 P v=0:=by
 unfold sE; rw [Ae (by simp)]; exact h
theorem Vl {p0:Int} {r:List Int} {s:Int} (hs:1≤s):((BI (p0 :: r) s)[0]?).getD 0≠0:=by
 show s≠0
 omega
attribute [local go_sem ↓] Go.wp_at_zero Go.wp_at_succ
theorem Rc (P:List Int) (C M:List (List Int)) (aP bP aC bC aM bM:Option Addr) (cP dP cC dC cM dM:Nat) (w:World) (hP:El w iv aP P) (hP2:El w iv bP P) (hC:A2 w aC C) (hC2:A2 w bC C) (hM:A2 w aM M) (hM2:A2 w bM M) (hPl:P.length≤1000000) (hCl:C.length≤1000) (hMl:M.length≤1000) (hCr:∀ r,r ∈ C→r.length≤1000000) (hMr:∀ r,r ∈ M→r.length≤1000000) :
 Calls Tryz.prog 51 #[.agg #[.slice aP P.length cP,.slice aC C.length cC,.slice aM M.length cM],.agg #[.slice bP P.length dP,.slice bC C.length dC,.slice bM M.length dM]] w fun e w'=>e=.returned (.bool true)∧Fr w w':=by
 have h1:=fun W (hW:Fr w W)=>EO P P aP bP cP dP W (hP.fr hW) (hP2.fr hW) hPl hPl
 have h2:=hZ (fun W (hW:Fr w W)=>O1 C aC bC cC dC W (hC.fr hW) (hC2.fr hW) hCl hCr)
 have h3:=hZ (fun W (hW:Fr w W)=>O1 M aM bM cM dM W (hM.fr hW) (hM2.fr hW) hMl hMr)
 rw [Ab rfl] at h1
 replace h1:=hZ h1
 clear hP hP2 hC hC2 hM hM2
 generalize P.length=n at *
 generalize C.length=k at *
 generalize M.length=m at *
 obtain ⟨wa,hwa⟩:∃ W,W=w.alloc (.cells #[.slice aP n cP,.slice aC k cC,.slice aM m cM] 29):=⟨_,rfl⟩
 have hB:=C3.new w (.slice aP n cP) (.slice aC k cC) (.slice aM m cM) 29
 rw [← hwa] at hB
 have hfa:Fr w wa:=by rw [hwa]; exact (Fr.refl _).alloc _
 have hsa:wa.heap.size=w.heap.size+1:=by rw [hwa,AC]
 obtain ⟨wb,hwb⟩:∃ W,W=wa.alloc (.cells #[.slice bP n dP,.slice bC k dC,.slice bM m dM] 29):=⟨_,rfl⟩
 have hD:=C3.new wa (.slice bP n dP) (.slice bC k dC) (.slice bM m dM) 29
 rw [← hwb] at hD
 rw [hsa] at hD
 have hfb:Fr wa wb:=by rw [hwb]; exact (Fr.refl _).alloc _
 have hB2:=hB.fr hfb
 have hfw:=hfa.trans hfb
 have x0:=hB2.a
 have x1:=hB2.b
 have x2:=hB2.c
 have y0:=hD.a
 have y1:=hD.b
 have y2:=hD.c
 clear hB hB2 hD hfa hfb hPl hCl hMl hCr hMr
 go_enter Tryz.func51,Tryz.ntmps51
 go_upto_region 1 with (fail)
 rw [← hwa,← hwb]
 clear hwa hwb
 replace hsa:=hZ hsa
 go_wp2_with fail
 refine (h1.out _ hfw).mono ?_
 rintro e w1 ⟨rfl,hf1⟩
 replace x1:=hf1.keep x1
 replace x2:=hf1.keep x2
 replace y1:=hf1.keep y1
 replace y2:=hf1.keep y2
 go_wp2_with fail
 refine (h2.out _ (hfw.trans hf1)).mono ?_
 rintro e w2 ⟨rfl,hf2⟩
 replace x2:=hf2.keep x2
 replace y2:=hf2.keep y2
 go_wp2_with fail
 refine (h3.out _ ((hfw.trans hf1).trans hf2)).mono ?_
 rintro e w3 ⟨rfl,hf3⟩
 go_wp2_with fail
 go_ret
 exact ⟨rfl,((hfw.trans hf1).trans hf2).trans hf3⟩
theorem HI (P:List Int) (C M:List (List Int)) (aP bP aC bC aM bM:Option Addr) (cP dP cC dC cM dM:Nat) (w:World) (hP:El w iv aP P) (hP2:El w iv bP P) (hC:A2 w aC C) (hC2:A2 w bC C) (hM:A2 w aM M) (hM2:A2 w bM M) (hPl:P.length≤1000000) (hCl:C.length≤1000) (hMl:M.length≤1000) (hCr:∀ r,r ∈ C→r.length≤1000000) (hMr:∀ r,r ∈ M→r.length≤1000000) :
 Calls Tryz.prog 17 #[.agg #[.slice aP P.length cP,.slice aC C.length cC,.slice aM M.length cM],.agg #[.slice bP P.length dP,.slice bC C.length dC,.slice bM M.length dM]] w fun e w'=>e=.returned (.bool true)∧Fr w w':=by
 have h1:=hZ (fun W (hW:Fr w W)=>Rc P C M aP bP aC bC aM bM cP dP cC dC cM dM W (hP.fr hW) (hP2.fr hW) (hC.fr hW) (hC2.fr hW) (hM.fr hW) (hM2.fr hW) hPl hCl hMl hCr hMr)
 clear hP hP2 hC hC2 hM hM2
 generalize P.length=n at *
 generalize C.length=k at *
 generalize M.length=m at *
 obtain ⟨wa,hwa⟩:∃ W,W=w.alloc (.cells #[.slice aP n cP,.slice aC k cC,.slice aM m cM] 29):=⟨_,rfl⟩
 have hB:=C3.new w (.slice aP n cP) (.slice aC k cC) (.slice aM m cM) 29
 rw [← hwa] at hB
 have hfa:Fr w wa:=by rw [hwa]; exact (Fr.refl _).alloc _
 have hsa:wa.heap.size=w.heap.size+1:=by rw [hwa,AC]
 obtain ⟨wb,hwb⟩:∃ W,W=wa.alloc (.cells #[.slice bP n dP,.slice bC k dC,.slice bM m dM] 29):=⟨_,rfl⟩
 have hD:=C3.new wa (.slice bP n dP) (.slice bC k dC) (.slice bM m dM) 29
 rw [← hwb] at hD
 rw [hsa] at hD
 have hfb:Fr wa wb:=by rw [hwb]; exact (Fr.refl _).alloc _
 have hB2:=hB.fr hfb
 have hfw:=hfa.trans hfb
 have x0:=hB2.a
 have x1:=hB2.b
 have x2:=hB2.c
 have y0:=hD.a
 have y1:=hD.b
 have y2:=hD.c
 clear hB hB2 hD hfa hfb hPl hCl hMl hCr hMr
 go_enter Tryz.func17,Tryz.ntmps17
 go_upto_region 1 with (fail)
 rw [← hwa,← hwb]
 clear hwa hwb
 replace hsa:=hZ hsa
 go_wp2_with fail
 refine (h1.out _ hfw).mono ?_
 rintro e w1 ⟨rfl,hf1⟩
 go_wp2_with fail
 go_ret
 exact ⟨rfl,hfw.trans hf1⟩
theorem PL (w:World):Calls Tryz.prog 15 #[.agg #[.slice none 0 0,.slice none 0 0,.slice none 0 0]] w fun e w'=>e=.returned (.bool true)∧Fr w w':=by
 have h1:=hZ (fun W=>HI [] [] [] none none none none none none 0 0 0 0 0 0 W (.inl rfl) (.inl rfl) (.inl rfl) (.inl rfl) (.inl rfl) (.inl rfl) (by decide) (by decide) (by decide) (fun r h=>by cases h) (fun r h=>by cases h))
 obtain ⟨wa,hwa⟩:∃ W,W=w.alloc (.cells #[.slice none 0 0,.slice none 0 0,.slice none 0 0] 29):=⟨_,rfl⟩
 have hB:=C3.new w (.slice none 0 0) (.slice none 0 0) (.slice none 0 0) 29
 rw [← hwa] at hB
 have hfa:Fr w wa:=by rw [hwa]; exact (Fr.refl _).alloc _
 have x0:=hB.a
 have x1:=hB.b
 have x2:=hB.c
 clear hB
 go_enter Tryz.func15,Tryz.ntmps15
 go_upto_region 1 with (fail)
 rw [← hwa]
 clear hwa
 go_wp2_with fail
 refine (h1.out _).mono ?_
 rintro e w1 ⟨rfl,hf1⟩
 go_wp2_with fail
 go_ret
 exact ⟨rfl,hfa.trans hf1⟩
theorem Tv (w:World) (xs:List Int):J2 w 78 #[] sv (fun x=>x != 0) xs:=fun x W _ _=>by
 show Calls Tryz.prog 78 #[.string (tx x)] W fun e W'=>e=.returned (.bool (x != 0))∧Fr W W'
 have hb:=B8 x
 have e:(x != 0)=!(decide (x=0)):=by by_cases h:x=0 <;> simp [h]
 rw [e,← hb]
 clear e hb
 go_enter Tryz.func78,Tryz.ntmps78
 go_wp2_with fail
 go_ret
 exact ⟨rfl,Fr.refl _⟩
theorem Wn (P:List Int) (C M:List (List Int)) (x:List Int) (aP aC aM xa:Option Addr) (cP cC cM xc:Nat) (w:World) (hG:G w) (hP:El w iv aP P) (hC:A2 w aC C) (hM:A2 w aM M) (hcap:C.length≤cC) (hT:Tg P C M) (hx:El w iv xa x) (hxl:x.length=P.length) (hxf:∀ y,y ∈ x→Bk y=true) :
 Calls Tryz.prog 40 #[.agg #[.slice aP P.length cP,.slice aC C.length cC,.slice aM M.length cM],.slice xa x.length xc] w fun e w'=>e=.returned (.tuple #[.bool (DN (I3 M x)),.int .i64 0])∧Fr w w':=by
 have hn4:=hT.n4
 have hbg:=fun W rb (hW:Fr w W)=>UF P C M x aP aC aM xa cP cC cM xc rb W (hG.fr hW) (hP.fr hW) (hC.fr hW) (hM.fr hW) hcap (.inr hT) (hx.fr hW) (by omega)
 have hbe:We P x=0:=by
  unfold We
  have hP0:P≠[]:=fun e=>by have:=hT.n1; rw [e] at this; simp at this
  have hr0:=Sy (by omega) hxf
  simp [hP0,hr0,hxl]
 have eg:∀ args w,(callFunc 78 args).run Tryz.prog w=.ok (.enter 78 args) w:=D2 Tryz.func78 (by kernel_rfl) rfl
 have htl:=Pn M x
 have hMl:=hT.tabM.1
 have hcf:=hZ (fun (W:World) (b:Option Addr) (c:Nat) (h:El W sv b (I3 M x))=>HO (I3 M x) b c 78 #[] _ W eg h (by omega) (Tv W (I3 M x)))
 have htm:=hZ (fun W (hW:Fr w W)=>Q6 x M xa aM aP aC xc cM P.length cP C.length cC W (hG.fr hW) (hM.fr hW) (by rw [hxl]; exact hT.tabM.2.2.1) (hx.fr hW) (by omega) (by omega) hxf hT.tabM.2.2.2)
 rw [htl] at hcf
 rw [hbe] at hbg
 replace hbg:=hZ hbg
 have hz:DN (I3 M x)=!(I3 M x).any fun x=>x != 0:=rfl
 rw [hz]
 clear hz
 generalize I3 M x=L at *
 rw [hxl] at hbg htm ⊢
 generalize P.length=n at *
 generalize C.length=nC at *
 generalize M.length=N at *
 clear hP hC hM hcap hT hx hxl hxf hbe eg hG
 obtain ⟨wb,hwb⟩:∃ wb,wb=w.alloc (.cells #[.slice aP n cP,.slice aC nC cC,.slice aM N cM] 29):=⟨_,rfl⟩
 have hfb:Fr w wb:=by rw [hwb]; exact (Fr.refl _).alloc _
 have hB:=C3.new w (.slice aP n cP) (.slice aC nC cC) (.slice aM N cM) 29
 rw [← hwb] at hB
 obtain ⟨wc,hwc⟩:∃ wc,wc=wb.alloc (.cells #[.slice xa n xc] 33):=⟨_,rfl⟩
 have hfc:Fr wb wc:=by rw [hwc]; exact (Fr.refl _).alloc _
 have hcc:wc.cell? ⟨wb.heap.size,0,none⟩=some (.slice xa n xc):=by rw [hwc]; exact DC _ _ _
 have hbc:=hZ (hbg.out wc wb.heap.size (hfb.trans hfc) hcc)
 have b0:=hB.a
 have b1:=hB.b
 have b2:=hB.c
 clear hB hcc hbg
 go_enter Tryz.func40,Tryz.ntmps40
 go_upto_region 1 with (fail)
 rw [← hwb]
 clear hwb
 obtain ⟨tb,htb⟩:∃ tb,tb=w.heap.size:=⟨_,rfl⟩
 rw [← htb] at b0 b1 b2 ⊢
 replace htb:=hZ htb
 go_wp2_with (go_at_call 75; rw [← hwc]; refine hbc.out.mono ?_; rintro e w1 ⟨rfl,hf1⟩; replace b0:=(hfc.trans hf1).keep b0; replace b1:=(hfc.trans hf1).keep b1; replace b2:=(hfc.trans hf1).keep b2)
 clear hwc hbc
 have hfw:=(hfb.trans hfc).trans hf1
 refine (htm.out _ hfw).mono ?_
 rintro e w2 ⟨ra,rc,rfl,hra,hf2⟩
 have hcf2:=hZ (hcf.out w2 ra rc hra)
 go_wp2_with fail
 refine hcf2.out.mono ?_
 rintro e w3 ⟨rfl,hf3⟩
 go_wp2_with fail
 go_ret2
 exact ⟨rfl,(hfw.trans hf2).trans hf3⟩
theorem Uq (P v u:List Int) (aP va ua:Option Addr) (cP vc uc:Nat) (w:World) (hG:G w) (hE:Jd w) (hp:BM P=0) (hP4:P.length≤4) (hP:El w iv aP P) (hv:El w iv va v) (hu:El w iv ua u) (hvl:v.length=P.length) (hul:u.length=P.length) (hvf:∀ x,x ∈ v→Bk x=true) (huf:∀ x,x ∈ u→Bk x=true) :
 Calls Tryz.prog 38 #[.slice aP P.length cP,.slice va P.length vc,.slice ua P.length uc] w (OT w (NG P v u) P (jA P v u) (jS P v u)):=by
 have hT:=C3.new w (.slice none 0 0) (.slice none 0 0) (.slice none 0 0) 29
 obtain ⟨wb,hwb⟩:∃ wb,wb=w.alloc (.cells #[.slice none 0 0,.slice none 0 0,.slice none 0 0] 29):=⟨_,rfl⟩
 have hfb:Fr w wb:=by rw [hwb]; exact (Fr.refl _).alloc _
 have hszb:Hid (wb.heap.size=w.heap.size+1):=by show _=_; rw [hwb]; simp
 rw [← hwb] at hT
 have hpc:=hZ (Hf P aP cP wb (hP.fr hfb) (by omega))
 rw [hp] at hpc
 have hc1:=fun W (hW:Fr w W)=>HH P v aP va cP vc W (hP.fr hW) (hv.fr hW) (by omega) (by omega)
 have hc2:=fun W (hW:Fr w W)=>HH P u aP ua cP uc W (hP.fr hW) (hu.fr hW) (by omega) (by omega)
 rw [Lp hp hvl hvf,hvl] at hc1
 rw [Lp hp hul huf,hul] at hc2
 replace hc1:=hZ hc1
 replace hc2:=hZ hc2
 have hjn:=hZ (fun W (hW:Fr w W)=>Nq P v u aP va ua cP vc uc W (hG.fr hW) (hE.fr hW) hp hP4 (hP.fr hW) (hv.fr hW) (hu.fr hW) hvl hul hvf huf)
 unfold OT at hjn
 generalize NG P v u=JE at *
 generalize jA P v u=A at *
 generalize jS P v u=S at *
 obtain ⟨n,hn⟩:∃ n,n=P.length:=⟨_,rfl⟩
 rw [← hn] at hpc hc1 hc2 hjn ⊢
 replace hn:=hZ hn
 replace hT:=hZ hT
 clear hG hE hp hP hv hu hvl hul hvf huf
 have hz0:=hszb.out
 go_enter Tryz.func38,Tryz.ntmps38
 go_upto_region 1 with (fail)
 rw [← hwb]
 clear hwb
 obtain ⟨rb,hrb⟩:∃ rb,rb=w.heap.size:=⟨_,rfl⟩
 rw [← hrb] at hT ⊢
 replace hrb:=hZ hrb
 go_wp2_with fail
 refine hpc.out.mono ?_
 rintro e w1 ⟨rfl,hf1⟩
 have hT1:=hZ (hT.out.fr hf1)
 have hfw1:=hfb.trans hf1
 clear hz0 hpc
 have ix0:∀ W:World,(Instr.index 125 (.agg #[.slice va n vc,.slice ua n uc]) (.int .i64 0)).run Tryz.prog W=.ok (.slice va n vc) W:=fun _=>by kernel_rfl
 have ix1:∀ W:World,(Instr.index 125 (.agg #[.slice va n vc,.slice ua n uc]) (.int .i64 1)).run Tryz.prog W=.ok (.slice ua n uc) W:=fun _=>by kernel_rfl
 go_wp2_with fail
 go_loopg [21] 2 (fun k s21 wr=>∃ j:Nat,s21=.int .i64 j∧j+k=2∧Fr w1 wr)
 case atStart=>exact ⟨0,rfl,by omega,Fr.refl _⟩
 case round=>
  obtain ⟨j,rfl,hjk,hf⟩:=hrel
  have h3:j=0∨j=1∨j=2:=by omega
  rcases h3 with rfl | rfl | rfl
  ·go_wp2_with fail
   refine (hc1.out _ (hfw1.trans hf)).mono ?_
   rintro e w2 ⟨rfl,hf2⟩
   go_wp2_with fail
   go_roundg (gk - 1)
   case measure=>omega
   case rel=>exact ⟨1,by go_num,by omega,hf.trans hf2⟩
  ·go_wp2_with fail
   refine (hc2.out _ (hfw1.trans hf)).mono ?_
   rintro e w2 ⟨rfl,hf2⟩
   go_wp2_with fail
   go_roundg (gk - 1)
   case measure=>omega
   case rel=>exact ⟨2,by go_num,by omega,hf.trans hf2⟩
  ·have hfw3:=hfw1.trans hf
   have hj3:=hZ (hjn.out _ hfw3)
   have hT3:=hZ (hT1.out.fr hf)
   obtain ⟨w3,rfl⟩:∃ w3:World,w3=wr:=⟨_,rfl⟩
   have hfs:=hf1.trans hf
   clear hjn hc1 hc2
   go_wp2_with fail
   refine hj3.out.mono ?_
   rintro e w4 ⟨hf4,hok,hno⟩
   have hT4:=hT3.out.fr hf4
   have hfw4:=hfw3.trans hf4
   by_cases hj0:JE=0
   ·obtain ⟨pa,pc,ca,cc,ma,mc,rfl,hel,hmc,hmm,hcc,hcm⟩:=hok hj0
    clear hok hno
    subst hj0
    replace hel:=hZ hel
    replace hmc:=hZ hmc
    replace hmm:=hZ hmm
    have hz3:w.heap.size < w3.heap.size:=by have:=hszb.out; have:=hfs.size; omega
    replace hz3:=hZ hz3
    have hchp:=hZ (fun Wf (hfT:Fx (·=rb) w4 Wf) W (hW:Fx (· < w.heap.size) Wf W)=>(hfT.mono (q:=(· < w3.heap.size)) (fun k e=>by have e:k=rb:=e; have:=hrb.out; have:=hz3.out; show k < _; omega)).trans (hW.mono (q:=(· < w3.heap.size)) (fun k e=>by have e:k < w.heap.size:=e; have:=hz3.out; show k < _; omega)))
    have q0:=hT4.a
    have q1:=hT4.fa
    have q2:=hT4.b
    have q3:=hT4.fb
    have q4:=hT4.c
    have q5:=hT4.fc
    have hU:=hT4.set0 (.slice pa n pc)
    have p0:=hU.b
    have p1:=hU.fb
    have hU1:=hU.set1 (.slice ca A.length cc)
    have p2:=hU1.c
    have p3:=hU1.fc
    have hU2:=hU1.set2 (.slice ma S.length mc)
    have y0:=hZ hU2.a
    have y1:=hZ hU2.b
    have y2:=hZ hU2.c
    have hfxT:Fx (·=rb) w4 (((w4.setCell ⟨rb,0,none⟩ (.slice pa n pc)).setCell ⟨rb,1,none⟩ (.slice ca A.length cc)).setCell ⟨rb,2,none⟩ (.slice ma S.length mc)):=Fx.setCell (p:=(·=rb)) (q:=⟨rb,2,none⟩) (Fx.setCell (p:=(·=rb)) (q:=⟨rb,1,none⟩) (Fx.setCell (p:=(·=rb)) (q:=⟨rb,0,none⟩) (Fx.refl _ _) (.inl rfl) _) (.inl rfl) _) (.inl rfl) _
    have hfin:=hZ (((Fx.of_fr (hfw4)).trans hfxT).toFr (fun k hk e=>by have e:k=rb:=e; have:=hrb.out; omega))
    replace hfxT:=hZ hfxT
    clear hU hU1 hU2
    go_wp2_with fail
    have v0:=y0.out
    have v1:=y1.out
    have v2:=y2.out
    refine AK (v:=.tuple #[.agg #[.slice pa n pc,.slice ca A.length cc,.slice ma S.length mc],.int .i64 0]) (by simp [results,Tryz.results38,go_sem,v0,v1,v2]) rfl ?_
    exact ⟨hfin.out,fun _=>⟨pa,pc,ca,cc,ma,mc,by rw [← hn.out],fun W hW=>hel.out W (hchp.out _ hfxT.out W hW),fun W hW=>hmc.out W (hchp.out _ hfxT.out W hW),fun W hW=>hmm.out W (hchp.out _ hfxT.out W hW),hcc,hcm⟩,fun h=>absurd rfl h⟩
   ·obtain rfl:=hno hj0
    clear hok hno
    have hj9:=hZ hj0
    clear hj0
    have q0:=hT4.a
    have q1:=hT4.fa
    have q2:=hT4.b
    have q3:=hT4.fb
    have q4:=hT4.c
    have q5:=hT4.fc
    have hU:=hT4.set0 (.slice none 0 0)
    have p0:=hU.b
    have p1:=hU.fb
    have hU1:=hU.set1 (.slice none 0 0)
    have p2:=hU1.c
    have p3:=hU1.fc
    have hU2:=hU1.set2 (.slice none 0 0)
    have y0:=hZ hU2.a
    have y1:=hZ hU2.b
    have y2:=hZ hU2.c
    have hfxT:Fx (·=rb) w4 (((w4.setCell ⟨rb,0,none⟩ (.slice none 0 0)).setCell ⟨rb,1,none⟩ (.slice none 0 0)).setCell ⟨rb,2,none⟩ (.slice none 0 0)):=Fx.setCell (p:=(·=rb)) (q:=⟨rb,2,none⟩) (Fx.setCell (p:=(·=rb)) (q:=⟨rb,1,none⟩) (Fx.setCell (p:=(·=rb)) (q:=⟨rb,0,none⟩) (Fx.refl _ _) (.inl rfl) _) (.inl rfl) _) (.inl rfl) _
    have hfin:=hZ (((Fx.of_fr (hfw4)).trans hfxT).toFr (fun k hk e=>by have e:k=rb:=e; have:=hrb.out; omega))
    replace hfxT:=hZ hfxT
    clear hU hU1 hU2
    go_wp2_with fail
    have v0:=y0.out
    have v1:=y1.out
    have v2:=y2.out
    refine AK (v:=.tuple #[.agg #[.slice none 0 0,.slice none 0 0,.slice none 0 0],.int .i64 JE]) (by simp [results,Tryz.results38,go_sem,v0,v1,v2]) rfl ?_
    exact ⟨hfin.out,fun h=>absurd h hj9.out,fun _=>rfl⟩
theorem Jy {t n:Nat} {E:Nat→Nat→Int} {x y:Nat→Int} (h:DF t E y) (ho:∀ i,i < t→Cd (E i) x n=0):Cd y x n=0:=JI h ho
theorem PK {n:Nat} {m:List (List Int)} (hm:m.length≤4) (hr:Bq n m) (hb:∀ r,r ∈ m→∀ x,x ∈ r→x.natAbs≤1000000000) (x:Nat→Int):Fu n (Hx n m) x ↔ Fu n m x:=by
 obtain ⟨gF,tF,p,e1,e2,e3,e4,e5,e6,-⟩:=KY (n:=n) (B:=1000000000) hm hr (by decide) C1 hb
 obtain ⟨-,-,-,-,hU⟩:=F6 _ 0 0 m gF tF (fun _=>0) hr (FL.init _ _) e1
 have hsp:=LS hU
 obtain ⟨L,hL⟩:∃ L,L=Hx n m:=⟨_,rfl⟩
 rw [← hL]
 have hLl:L.length=tF:=by rw [hL,e2,Av]; omega
 have hLe:∀ i,i < tF→∀ k,Aw L i k=Aw gF i k:=fun i hi k=>by
  rw [hL,e2]; unfold Aw BB; rw [Bf,Ai hi]
 have hz:∀ i,tF≤i→i < m.length→∀ k,Aw gF i k=0:=fun i h1 h2 k=>by
  by_cases hk:k < n
  ·exact e4.zero i h1 (by omega) k hk
  ·exact I7 e5 (by omega)
 constructor
 ·rintro ⟨h0,h1⟩
  refine ⟨h0,fun i hi=>?_⟩
  refine Jy ((hsp _).1 (DF.row hi)) fun l hl=>?_
  by_cases hlt:l < tF
  ·have:=h1 l (by omega)
   rw [show Aw gF l=Aw L l from funext fun k=>(hLe l hlt k).symm]
   exact this
  ·rw [show Aw gF l=fun _=>0 from funext fun k=>hz l (by omega) (by omega) k]; exact Dp _ _
 ·rintro ⟨h0,h1⟩
  refine ⟨h0,fun i hi=>?_⟩
  rw [show Aw L i=Aw gF i from funext fun k=>hLe i (by omega) k]
  exact Jy ((hsp _).2 (DF.row (by omega))) h1
theorem FE {n:Nat} {v u:List Int} (x:Nat→Int):Fu n [v,u] x ↔ (∀ k,n≤k→x k=0)∧Cd (fun j=>(v[j]?).getD 0) x n=0∧Cd (fun j=>(u[j]?).getD 0) x n=0:=by
 unfold Fu
 constructor
 ·rintro ⟨h0,h1⟩
  exact ⟨h0,h1 0 (by simp),h1 1 (by simp)⟩
 ·rintro ⟨h0,h1,h2⟩
  refine ⟨h0,fun i hi=>?_⟩
  match i,hi with
  | 0,_=>exact h1
  | 1,_=>exact h2
theorem GV {n:Nat} {v u:List Int} (hv:v.length=n) (hu:u.length=n):Bq n [v,u]:=fun r hr=>by
 rcases Bv.1 hr with rfl | hr
 ·exact hv
 ·rw [AY.1 hr]; exact hu
theorem JR {v u:List Int} (hv:∀ x,x ∈ v→Bk x=true) (hu:∀ x,x ∈ u→Bk x=true):∀ r,r ∈ [v,u]→∀ x,x ∈ r→x.natAbs≤1000000000:=fun r hr x hx=>by
 have:Bk x=true:=by
  rcases Bv.1 hr with rfl | hr
  ·exact hv x hx
  ·rw [AY.1 hr] at hx; exact hu x hx
 exact C9 this
theorem Iy {P v u:List Int} (h1:1≤P.length) (h4:P.length≤4) (hp:BM P=0) (hvl:v.length=P.length) (hul:u.length=P.length) (hvf:∀ x,x ∈ v→Bk x=true) (huf:∀ x,x ∈ u→Bk x=true) (hj:Gp P.length (jL P v u)=true):Tg P (jA P v u) (jS P v u):=by
 unfold Gp at hj
 rw [Bt,Bt] at hj
 obtain ⟨a1,a2,a3⟩:=hj
 obtain ⟨gF,tF,p,e1,e2,e3,e4,e5,e6,-⟩:=KY (n:=P.length) (B:=1000000000) (m:=[v,u]) (by simp) (GV hvl hul) (by decide) C1 (JR hvf huf)
 have hr:Bq P.length (jL P v u):=fun r hr=>by
  unfold jL at hr
  rw [e2] at hr
  exact e5 r (BW hr)
 exact (Sn h1 h4 hp a1 hr a3 a2).2
theorem P4 {P v u:List Int} (h:NG P v u=0):Gp P.length (jL P v u)=true∧2≤(jS P v u).length:=by
 unfold NG at h
 split at h
 ·cases h
 ·rename_i h1
  split at h
  ·cases h
  ·rename_i h2
   exact ⟨by simpa using h1,by omega⟩
theorem YQ {P v u:List Int} (h:NG P v u≠0):NG P v u=18∨NG P v u=4:=by
 unfold NG at h ⊢
 split
 ·exact .inr rfl
 ·split
  ·exact .inl rfl
  ·rename_i h1 h2
   rw [Ae h1,Ae h2] at h
   exact absurd rfl h
theorem VG {P v u:List Int} (h4:P.length≤4) (hj:Gp P.length (jL P v u)=true):∃ p,FL p P.length (jA P v u).length (jA P v u)∧Bq P.length (jA P v u):=by
 unfold Gp at hj
 rw [Bt,Bt] at hj
 obtain ⟨gW,p,t,r,k⟩:=Dz (n:=P.length) h4 (by decide) C1 (GL hj.1)
 exact ⟨_,k.kech,k.krect⟩
section
variable {P v u:List Int} (h1:1≤P.length) (h4:P.length≤4) (hp:BM P=0) (hvl:v.length=P.length) (hul:u.length=P.length) (hvf:∀ x,x ∈ v→Bk x=true) (huf:∀ x,x ∈ u→Bk x=true) (hj:Gp P.length (jL P v u)=true)
include h4 hvl hul hvf huf hj
theorem Ox (x:Nat→Int):DF (jA P v u).length (Aw (jA P v u)) x ↔ Fu P.length [v,u] x:=by
 unfold Gp at hj
 rw [Bt,Bt] at hj
 obtain ⟨gW,p,t,r,k⟩:=Dz (n:=P.length) h4 (by decide) C1 (GL hj.1)
 exact (k.spans x).trans (PK (by simp) (GV hvl hul) (JR hvf huf) x)
theorem P3:Dd (jA P v u) v=true∧Dd (jA P v u) u=true:=by
 obtain ⟨p,-,hr⟩:=VG h4 hj
 have hsp:=Ox h4 hvl hul hvf huf hj
 constructor
 ·rw [L6 hr]
  intro i hi
  rw [BP]
  exact ((FE _).1 ((hsp _).1 (DF.row hi))).2.1
 ·rw [L6 hr]
  intro i hi
  rw [BP]
  exact ((FE _).1 ((hsp _).1 (DF.row hi))).2.2
include h1 hp
theorem YR (x:Nat→Int):DF (jS P v u).length (Aw (jS P v u)) x ↔ Fu P.length (jA P v u) x :=
 (Iy h1 h4 hp hvl hul hvf huf hj).krM x
theorem VF {y:List Int} (hy:y.length=P.length):DN (I3 (jS P v u) y)=(decide (Cy v y P.length=0) && decide (Cy u y P.length=0)):=by
 have hT:=Iy h1 h4 hp hvl hul hvf huf hj
 have hyz:∀ k,P.length≤k→((y[k]?).getD 0)=0:=fun k hk=>by rw [AG (by omega)]; rfl
 have key:DN (I3 (jS P v u) y)=true ↔ Fu P.length (jS P v u) (fun j=>(y[j]?).getD 0):=by
  unfold DN I3 Fu
  rw [Ee,Cu]
  constructor
  ·intro h
   refine ⟨hyz,fun i hi=>?_⟩
   have h9:=h (Cy y (jS P v u)[i] y.length) (Cb.2 ⟨_,AJ hi,rfl⟩)
   have h8:Cy y (jS P v u)[i] y.length=0:=by simpa using h9
   rw [Gh,hy] at h8
   rw [BP]
   refine (Cv fun k _=>⟨rfl, ?_⟩).trans h8
   unfold Aw; rw [CK hi]
  ·rintro ⟨-,h⟩ z hz
   obtain ⟨r,hr,rfl⟩:=Cb.1 hz
   obtain ⟨i,hi,rfl⟩:=FS hr
   have h9:=h i hi
   have h8:Cy y (jS P v u)[i] y.length=0:=by
    rw [Gh,hy]
    rw [BP] at h9
    refine (Cv fun k _=>⟨rfl, ?_⟩).trans h9
    unfold Aw; rw [CK hi]
   simp [h8]
 have key2:Fu P.length (jS P v u) (fun j=>(y[j]?).getD 0) ↔ Cy v y P.length=0∧Cy u y P.length=0:=by
  rw [← hT.krC,Ox h4 hvl hul hvf huf hj,FE,Gh,Gh]
  exact ⟨fun h=>h.2,fun h=>⟨hyz,h⟩⟩
 rw [Bool.eq_iff_iff,key,key2,Bt,Kc,Kc]
theorem JK {z:Nat→Int} (hz:∀ x:Nat→Int,(∀ k,P.length≤k→x k=0)→Cd z x P.length=0→Fu P.length [v,u] x):(jS P v u).length < 2:=by
 refine AX fun hlen=>?_
 have hT:=Iy h1 h4 hp hvl hul hvf huf hj
 obtain ⟨gW,p,t,r,k⟩:=Dz (n:=P.length) h4 (by decide) C1 (B:=1000000000) (m:=jA P v u) (fun r hr x hx=>C9 (hT.tabC.2.2.2 r hr x hx))
 have hE:=k.kech
 change FL _ _ (jS P v u).length (jS P v u) at hE
 obtain ⟨q,hq⟩:∃ q:Nat→Nat,q=fun i=>p (r+i) - (jA P v u).length:=⟨_,rfl⟩
 rw [← hq] at hE
 have ho:∀ x:Nat→Int,(∀ k,P.length≤k→x k=0)→Cd z x P.length=0→∀ i,i < (jS P v u).length→Cd x (Aw (jS P v u) i) P.length=0:=fun x hx0 hx i hi=>by
  have a:=(Ox h4 hvl hul hvf huf hj x).2 (hz x hx0 hx)
  have b:=((YR h1 h4 hp hvl hul hvf huf hj _).1 (DF.row hi)).2
  exact Jy a b
 have q0:=hE.lt 0 (by omega)
 have q1:=hE.lt 1 (by omega)
 have q01:=hE.inc 0 1 (by omega) (by omega)
 have p0:=hE.pos 0 (by omega)
 have p1:=hE.pos 1 (by omega)
 have l1:=hE.low 1 (by omega) (q 0) q01
 have hd:∀ (i:Nat) (f:Nat→Int),i < P.length→Cd (fun k=>if i=k then 1 else 0) f P.length=f i:=fun i f hi=>by
  have:=DS 1 i f P.length
  rw [Ai hi] at this
  omega
 have hx2:∀ i j,i < P.length→j < P.length→∀ l,l < (jS P v u).length→z j * Aw (jS P v u) l i - z i * Aw (jS P v u) l j=0:=fun i j hi hj2 l hl=>by
  have e:∀ f:Nat→Int,Cd (fun k=>z j * (if i=k then 1 else 0)+(-(z i)) * (if j=k then 1 else 0)) f P.length=z j * f i - z i * f j:=fun f=>by
   rw [CZ,Co,Co,hd i f hi,hd j f hj2]; grind
  have h9:=ho (fun k=>z j * (if i=k then 1 else 0)+(-(z i)) * (if j=k then 1 else 0)) (fun k hk=>by rw [Ae (by omega),Ae (by omega)]; omega) (by rw [BP,e]; grind) l hl
  rw [e] at h9
  exact h9
 have z0:z (q 0)=0:=by
  have h9:=hx2 (q 0) (q 1) q0 q1 1 (by omega)
  rw [l1] at h9
  have h8:z (q 0) * Aw (jS P v u) 1 (q 1)=0:=by omega
  rcases CB.1 h8 with h | h
  ·exact h
  ·omega
 have zz:∀ j,j < P.length→z j=0:=fun j hj2=>by
  have h9:=hx2 (q 0) j q0 hj2 0 (by omega)
  rw [z0] at h9
  have h8:z j * Aw (jS P v u) 0 (q 0)=0:=by omega
  rcases CB.1 h8 with h | h
  ·exact h
  ·omega
 have h9:=ho (fun k=>if q 0=k then 1 else 0) (fun k hk=>by rw [Ae (by omega)]) (by rw [BP,hd _ _ q0]; exact z0) 0 (by omega)
 rw [hd _ _ q0] at h9
 omega
theorem TV {C M:List (List Int)} (hT:Tg P C M) (h2:M.length=2) (sv:Dd C v=true) (su:Dd C u=true) (hl:2≤(jS P v u).length):jA P v u=C∧jS P v u=M:=by
 obtain ⟨a,ha⟩:=Di ((hT.sup hvl).1 sv)
 obtain ⟨b,hb⟩:=Di ((hT.sup hul).1 su)
 rw [h2] at ha hb
 have fa:∀ x:Nat→Int,Cd (fun j=>(v[j]?).getD 0) x P.length=a 0 * Cd (Aw M 0) x P.length+a 1 * Cd (Aw M 1) x P.length:=fun x=>by
  rw [Cv (f':=fun k=>a 0 * Aw M 0 k+a 1 * Aw M 1 k) (g':=x) (fun k _=>⟨by rw [ha k]; show 0+a 0 * Aw M 0 k+a 1 * Aw M 1 k=_; omega,rfl⟩),CZ,Co,Co]
 have fb:∀ x:Nat→Int,Cd (fun j=>(u[j]?).getD 0) x P.length=b 0 * Cd (Aw M 0) x P.length+b 1 * Cd (Aw M 1) x P.length:=fun x=>by
  rw [Cv (f':=fun k=>b 0 * Aw M 0 k+b 1 * Aw M 1 k) (g':=x) (fun k _=>⟨by rw [hb k]; show 0+b 0 * Aw M 0 k+b 1 * Aw M 1 k=_; omega,rfl⟩),CZ,Co,Co]
 have hdet:a 0 * b 1 - a 1 * b 0≠0:=fun hd=>by
  have hlt:(jS P v u).length < 2:=by
   by_cases e0:a 0=0
   ·by_cases e1:a 1=0
    ·refine JK h1 h4 hp hvl hul hvf huf hj (z:=fun j=>(u[j]?).getD 0) (fun x hx0 hx=>(FE x).2 ⟨hx0, ?_,hx⟩)
     rw [fa,e0,e1]; omega
    ·refine JK h1 h4 hp hvl hul hvf huf hj (z:=fun j=>(v[j]?).getD 0) (fun x hx0 hx=>(FE x).2 ⟨hx0,hx, ?_⟩)
     rw [fa] at hx
     rw [fb]
     have:a 1 * (b 0 * Cd (Aw M 0) x P.length+b 1 * Cd (Aw M 1) x P.length)=0:=by grind
     rcases CB.1 this with h | h
     ·exact absurd h e1
     ·exact h
   ·refine JK h1 h4 hp hvl hul hvf huf hj (z:=fun j=>(v[j]?).getD 0) (fun x hx0 hx=>(FE x).2 ⟨hx0,hx, ?_⟩)
    rw [fa] at hx
    rw [fb]
    have:a 0 * (b 0 * Cd (Aw M 0) x P.length+b 1 * Cd (Aw M 1) x P.length)=0:=by grind
    rcases CB.1 this with h | h
    ·exact absurd h e0
    ·exact h
  omega
 have horth:∀ x,Fu P.length [v,u] x ↔ Fu P.length M x:=fun x=>by
  rw [FE,fa,fb]
  unfold Fu
  rw [h2]
  constructor
  ·rintro ⟨k0,k1,k2⟩
   have w0:(a 0 * b 1 - a 1 * b 0) * Cd (Aw M 0) x P.length=0:=by grind
   have w1:(a 0 * b 1 - a 1 * b 0) * Cd (Aw M 1) x P.length=0:=by grind
   refine ⟨k0,fun i hi=>?_⟩
   match i,hi with
   | 0,_=>exact (CB.1 w0).resolve_left hdet
   | 1,_=>exact (CB.1 w1).resolve_left hdet
  ·rintro ⟨k0,k1⟩
   have w0:=k1 0 (by omega)
   have w1:=k1 1 (by omega)
   exact ⟨k0,by rw [w0,w1]; omega,by rw [w0,w1]; omega⟩
 have eC:CI P.length M=C:=by unfold CI; rw [hT.sat]; rfl
 have eM:CI P.length C=M:=by unfold CI; rw [hT.ann]; rfl
 obtain ⟨gW,p,t,r,k⟩:=Dz (n:=P.length) h4 (by decide) C1 (B:=1000000000) (m:=M) (fun r hr x hx=>C9 (hT.tabM.2.2.2 r hr x hx))
 rw [eC] at k
 obtain ⟨q,hq,hqr⟩:=VG h4 hj
 have e1:jA P v u=C:=FL.uniq hqr k.krect hq k.kech fun x=>by
  rw [Ox h4 hvl hul hvf huf hj,horth,hT.krC]
 refine ⟨e1, ?_⟩
 show CI P.length (jA P v u)=M
 rw [e1,eM]
end
end Go.Proofs.YtiniigadkknboaaGreatDoor
