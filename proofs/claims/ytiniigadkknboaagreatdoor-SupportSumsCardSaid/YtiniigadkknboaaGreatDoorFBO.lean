/- Contracts and laws: FBO. -/
import Derived.Test.YtiniigadkknboaaGreatDoorFBN
import Derived.Test.YtiniigadkknboaaGreatDoorFBM
import Derived.Deep.CutRange

set_option maxRecDepth 100000
set_option maxHeartbeats 8000000
namespace Go.Proofs.YtiniigadkknboaaGreatDoor
open Go.RowKit Go.Lib
attribute [local go_sem ↓] Go.wp_at_zero Go.wp_at_succ
theorem N2 (xs:List Int) (a:Option Addr) (n c:Nat) (w:World) (h:El w iv a xs) (hn:xs.length=n) (hl:n≤1000000):Calls Tryz.prog 22 #[.slice a n c] w fun e w'=>e=.returned (.int .i64 (Ck xs))∧Fr w w':=by
 subst hn
 exact DT xs a c w h (by omega)
theorem Lf (np:Int) (qa:Option Addr) (QL:List (List Int)) (qc:Nat) (vb:Bool) (a0 a1 a2 a3 b0 b1 b2 b3 y0 y1 y2 y3:Int) (w:World) (hG:G w) (hE:Jd w) (hnp:0≤np∧np≤255) (hQ:Gj w qa QL) (hQ8:MJ QL) (hA:∀ x,x ∈ [a0,a1,a2,a3]→-128≤x∧x≤127) (hB:∀ x,x ∈ [b0,b1,b2,b3]→-128≤x∧x≤127) (hY:∀ x,x ∈ [y0,y1,y2,y3]→-128≤x∧x≤127) :
 Calls Tryz.prog 9 #[.agg #[.int .u8 np,.slice qa QL.length qc,.bool vb],.agg #[.int .i8 a0,.int .i8 a1,.int .i8 a2,.int .i8 a3,.int .i8 b0,.int .i8 b1,.int .i8 b2,.int .i8 b3],.agg #[.int .i8 y0,.int .i8 y1,.int .i8 y2,.int .i8 y3]] w fun e w'=>e=.returned (.bool true)∧Fr w w':=by
 obtain ⟨wa,hwa⟩:∃ wb,wb=w.alloc (.cells #[.int .u8 np,.slice qa QL.length qc,.bool vb] 42):=⟨_,rfl⟩
 have hfa:Fr w wa:=by rw [hwa]; exact (Fr.refl _).alloc _
 have hBa:=C3.new w (.int .u8 np) (.slice qa QL.length qc) (.bool vb) 42
 rw [← hwa] at hBa
 have hsa:wa.heap.size=w.heap.size+1:=by rw [hwa,AC]
 obtain ⟨wd,hwd⟩:∃ wb,wb=wa.alloc (.cells #[.int .i8 a0,.int .i8 a1,.int .i8 a2,.int .i8 a3,.int .i8 b0,.int .i8 b1,.int .i8 b2,.int .i8 b3] 78):=⟨_,rfl⟩
 have hfd:Fr wa wd:=by rw [hwd]; exact (Fr.refl _).alloc _
 have hsd:wd.heap.size=w.heap.size+2:=by rw [hwd,AC,hsa]
 obtain ⟨wb,hwb⟩:∃ wb,wb=wd.alloc (.cells #[.int .i8 y0,.int .i8 y1,.int .i8 y2,.int .i8 y3] 44):=⟨_,rfl⟩
 have hfb3:Fr wd wb:=by rw [hwb]; exact (Fr.refl _).alloc _
 have hfb2:=hfd.trans hfb3
 have hfb:=hfa.trans hfb2
 have g2:=CJ wd (.cells #[.int .i8 y0,.int .i8 y1,.int .i8 y2,.int .i8 y3] 44 (0,0))
 rw [← hwb,hsd] at g2
 have g1:=CJ wa (.cells #[.int .i8 a0,.int .i8 a1,.int .i8 a2,.int .i8 a3,.int .i8 b0,.int .i8 b1,.int .i8 b2,.int .i8 b3] 78 (0,0))
 rw [← hwd,hsa] at g1
 obtain ⟨kb,hkb⟩:∃ kb,kb=w.heap.size+1:=⟨_,rfl⟩
 rw [← hkb] at g1
 obtain ⟨yb,hyb⟩:∃ yb,yb=w.heap.size+2:=⟨_,rfl⟩
 rw [← hyb] at g2
 have l0:wb.cell? ⟨kb,0,none⟩=some (.int .i8 a0):=hfb3.keep (by rw [AH g1]; rfl)
 have l1:wb.cell? ⟨kb,1,none⟩=some (.int .i8 a1):=hfb3.keep (by rw [AH g1]; rfl)
 have l2:wb.cell? ⟨kb,2,none⟩=some (.int .i8 a2):=hfb3.keep (by rw [AH g1]; rfl)
 have l3:wb.cell? ⟨kb,3,none⟩=some (.int .i8 a3):=hfb3.keep (by rw [AH g1]; rfl)
 have m0:wb.cell? ⟨kb,4,none⟩=some (.int .i8 b0):=hfb3.keep (by rw [AH g1]; rfl)
 have m1:wb.cell? ⟨kb,5,none⟩=some (.int .i8 b1):=hfb3.keep (by rw [AH g1]; rfl)
 have m2:wb.cell? ⟨kb,6,none⟩=some (.int .i8 b2):=hfb3.keep (by rw [AH g1]; rfl)
 have m3:wb.cell? ⟨kb,7,none⟩=some (.int .i8 b3):=hfb3.keep (by rw [AH g1]; rfl)
 have z0:wb.cell? ⟨yb,0,none⟩=some (.int .i8 y0):=by rw [AH g2]; rfl
 have z1:wb.cell? ⟨yb,1,none⟩=some (.int .i8 y1):=by rw [AH g2]; rfl
 have z2:wb.cell? ⟨yb,2,none⟩=some (.int .i8 y2):=by rw [AH g2]; rfl
 have z3:wb.cell? ⟨yb,3,none⟩=some (.int .i8 y3):=by rw [AH g2]; rfl
 have hYk:=hZ (fun W (hW:Fr wb W)=>(⟨hW.keep z0,hW.keep z1,hW.keep z2,hW.keep z3⟩:W.cell? ⟨yb,0,none⟩=some (.int .i8 y0)∧W.cell? ⟨yb,1,none⟩=some (.int .i8 y1)∧W.cell? ⟨yb,2,none⟩=some (.int .i8 y2)∧W.cell? ⟨yb,3,none⟩=some (.int .i8 y3)))
 have hLk:=hZ (fun W (hW:Fr wb W)=>(⟨hW.keep l0,hW.keep l1,hW.keep l2,hW.keep l3,hW.keep m0,hW.keep m1,hW.keep m2,hW.keep m3⟩:W.cell? ⟨kb,0,none⟩=some (.int .i8 a0)∧W.cell? ⟨kb,1,none⟩=some (.int .i8 a1)∧W.cell? ⟨kb,2,none⟩=some (.int .i8 a2)∧W.cell? ⟨kb,3,none⟩=some (.int .i8 a3)∧W.cell? ⟨kb,4,none⟩=some (.int .i8 b0)∧W.cell? ⟨kb,5,none⟩=some (.int .i8 b1)∧W.cell? ⟨kb,6,none⟩=some (.int .i8 b2)∧W.cell? ⟨kb,7,none⟩=some (.int .i8 b3)))
 have x0:=hfb2.keep hBa.a
 have x1:=hfb2.keep hBa.b
 have x2:=hfb2.keep hBa.c
 have hkn:=hZ (fun W (hW:Fr w W)=>Io W (hG.fr hW) (hE.fr hW))
 have hft:=hZ (fun W=>MO np vb qa QL.length qc W)
 clear l0 l1 l2 l3 m0 m1 m2 m3 g1 g2 z0 z1 z2 z3
 by_cases h3:QL.length≤3
 case neg=>
  have d3:decide (QL.length≤3)=false:=Aa h3
  rw [d3] at hft
  generalize QL.length=k at *
  clear hQ hQ8 hG hE h3 d3 hBa hA hB hLk hYk
  go_enter Tryz.func9,Tryz.ntmps9
  go_upto_region 1 with (fail)
  rw [← hwa,← hwd,← hwb]
  clear hwa hwd hwb
  go_wp2_with fail
  refine (hkn.out _ hfb).mono ?_
  rintro e w1 ⟨rfl,hf1⟩
  replace x0:=hf1.keep x0
  replace x1:=hf1.keep x1
  replace x2:=hf1.keep x2
  go_wp2_with fail
  refine (hft.out w1).mono ?_
  rintro e w2 ⟨rfl,hf2⟩
  go_wp2_with fail
  refine (hkn.out _ ((hfb.trans hf1).trans hf2)).mono ?_
  rintro e w3 ⟨rfl,hf3⟩
  go_wp2_with fail
  go_ret
  exact ⟨rfl,((hfb.trans hf1).trans hf2).trans hf3⟩
 have d3:decide (QL.length≤3)=true:=Ab h3
 rw [d3] at hft
 have hmk:=hZ (fun W (hW:Fr w W)=>ML np qa QL qc vb W (hG.fr hW) (hE.fr hW) hnp (hQ.fr hW) hQ8 h3)
 have hG1:=hZ (fun W (hW:Fr w W)=>hG.fr hW)
 have hE1:=hZ (fun W (hW:Fr w W)=>hE.fr hW)
 generalize QL.length=k at *
 replace hA:=hZ hA
 replace hB:=hZ hB
 replace hY:=hZ hY
 clear hQ hQ8 h3 d3 hBa hG hE
 go_enter Tryz.func9,Tryz.ntmps9
 go_upto_region 1 with (fail)
 rw [← hwa,← hwd,← hwb]
 clear hwa hwb hwd
 replace hsa:=hZ hsa
 replace hsd:=hZ hsd
 go_wp2_with fail
 refine (hkn.out _ hfb).mono ?_
 rintro e w1 ⟨rfl,hf1⟩
 replace x0:=hf1.keep x0
 replace x1:=hf1.keep x1
 replace x2:=hf1.keep x2
 go_wp2_with fail
 refine (hft.out w1).mono ?_
 rintro e w2 ⟨rfl,hf2⟩
 replace x0:=hf2.keep x0
 replace x1:=hf2.keep x1
 replace x2:=hf2.keep x2
 have hfw:=(hfb.trans hf1).trans hf2
 have hbw:=hf1.trans hf2
 go_wp2_with fail
 refine (hmk.out w2 hfw).mono ?_
 rintro e w3 ⟨P,C,M,aP,aC,aM,cP,cC,cM,rfl,hP,hC,hM,hcC,-,hPp,hT,hf3⟩
 clear hPp
 have hfw3:=hfw.trans hf3
 have htm:OS w3 aP aC aM cP cC cM P C M 0:=OS.of (hG1.out _ hfw3) hP hC hM hcC hT.w
 obtain ⟨w4,hw4⟩:∃ W,W=w3.alloc (.cells #[.slice aP P.length cP,.slice aC C.length cC,.slice aM M.length cM] 29):=⟨_,rfl⟩
 have hf4:Fr w3 w4:=by rw [hw4]; exact (Fr.refl _).alloc _
 have hB4:=C3.new w3 (.slice aP P.length cP) (.slice aC C.length cC) (.slice aM M.length cM) 29
 rw [← hw4] at hB4
 obtain ⟨tb,htb⟩:∃ q,q=w3.heap.size:=⟨_,rfl⟩
 rw [← htb] at hB4
 have hfw4:=hfw3.trans hf4
 have hbw4:=(hbw.trans hf3).trans hf4
 have htm4:=htm.fr hf4
 have hG4:=hZ (fun W (hW:Fr w4 W)=>hG1.out W (hfw4.trans hW))
 have hE4:=hZ (fun W (hW:Fr w4 W)=>hE1.out W (hfw4.trans hW))
 have t0:=hB4.a
 have t1:=hB4.b
 have t2:=hB4.c
 have hva:=hZ (fun W (hW:Fr w4 W)=>LR M a0 a1 a2 a3 P.length aP aC aM cP C.length cC cM W (hG4.out W hW) (hM.fr (hf4.trans hW)) hT.tabM hA.out hT.n1)
 have hvb:=hZ (fun W (hW:Fr w4 W)=>LR M b0 b1 b2 b3 P.length aP aC aM cP C.length cC cM W (hG4.out W hW) (hM.fr (hf4.trans hW)) hT.tabM hB.out hT.n1)
 have hsu:=hZ (fun (v:List Int) (va:Option Addr) (vc:Nat) W (hW:Fr w4 W) (he:El W iv va v) (hl:v.length≤1000000)=>F4 aP aC aM cP cC cM P C M 0 v va vc W (htm4.fr hW) he hl (hG4.out W hW))
 have hjo:=hZ (fun (v u:List Int) (va ua:Option Addr) (vc uc:Nat) W (hW:Fr w4 W) (h1:El W iv va v) (h2:El W iv ua u) (h3:v.length=P.length) (h4:u.length=P.length) (h5:∀ x,x ∈ v→Bk x=true) (h6:∀ x,x ∈ u→Bk x=true)=>Uq P v u aP va ua cP vc uc W (hG4.out W hW) (hE4.out W hW) hT.prime hT.n4 (htm4.fr hW).p h1 h2 h3 h4 h5 h6)
 have hiv:=hZ (fun W=>Ip P.length aP cP y0 y1 y2 y3 W hT.n1 hT.n4 hY.out)
 have hcM:C.length≤12∧M.length≤12:=⟨by have:=hT.tabC.1; omega,by have:=hT.tabM.1; omega⟩
 have hPC:=hZ (fun W (hW:Fr w4 W)=>(⟨(htm4.fr hW).p,(htm4.fr hW).c,(htm4.fr hW).m⟩:El W iv aP P∧A2 W aC C∧A2 W aM M))
 have hla:(K9 M [a0,a1,a2,a3] P.length).length=P.length:=Jn _ _ _
 have hlb:(K9 M [b0,b1,b2,b3] P.length).length=P.length:=Jn _ _ _
 have hsA:=hT.val [a0,a1,a2,a3]
 have hsB:=hT.val [b0,b1,b2,b3]
 have hn1:=hT.n1
 have hn4:=hT.n4
 obtain ⟨vA,hvA⟩:∃ l,l=K9 M [a0,a1,a2,a3] P.length:=⟨_,rfl⟩
 obtain ⟨vB,hvB⟩:∃ l,l=K9 M [b0,b1,b2,b3] P.length:=⟨_,rfl⟩
 rw [← hvA] at hva hla hsA
 rw [← hvB] at hvb hlb hsB
 obtain ⟨n,hn⟩:∃ n,n=P.length:=⟨_,rfl⟩
 obtain ⟨nC,hnC⟩:∃ n,n=C.length:=⟨_,rfl⟩
 obtain ⟨nM,hnM⟩:∃ n,n=M.length:=⟨_,rfl⟩
 rw [← hn,← hnC,← hnM] at hva hvb hsu hw4
 rw [← hn] at hjo hiv hla hlb hn1 hn4 t0
 rw [← hnC] at t1
 rw [← hnM] at t2
 rw [← hnC,← hnM] at hcM
 rw [← hn,← hnC,← hnM]
 replace hn:=hZ hn
 replace hnC:=hZ hnC
 replace hnM:=hZ hnM
 replace hsA:=hZ hsA
 replace hsB:=hZ hsB
 replace hla:=hZ hla
 replace hlb:=hZ hlb
 replace hT:=hZ hT
 clear hB4 htm htm4 hP hC hM hA hB hY hvA hvB hcC hf4 hf3 hfw3 hkn hft hmk x0 x1 x2 hf1 hf2 hG1 hE1 hfw hbw hfb hfb2 hfb3 hfa hfd
 go_upto_region 4 with (fail)
 rw [← hw4,← htb,← hkb,show kb+1=yb by omega]
 clear hw4
 replace htb:=hZ htb
 replace hkb:=hZ hkb
 replace hyb:=hZ hyb
 have hS0:=hZ (fun W (hW:Fr w4 W)=>(⟨hW.keep t0,hW.keep t1,hW.keep t2,hLk.out W (hbw4.trans hW)⟩:W.cell? ⟨tb,0,none⟩=some (.slice aP n cP)∧W.cell? ⟨tb,1,none⟩=some (.slice aC nC cC)∧W.cell? ⟨tb,2,none⟩=some (.slice aM nM cM)∧W.cell? ⟨kb,0,none⟩=some (.int .i8 a0)∧W.cell? ⟨kb,1,none⟩=some (.int .i8 a1)∧W.cell? ⟨kb,2,none⟩=some (.int .i8 a2)∧W.cell? ⟨kb,3,none⟩=some (.int .i8 a3)∧W.cell? ⟨kb,4,none⟩=some (.int .i8 b0)∧W.cell? ⟨kb,5,none⟩=some (.int .i8 b1)∧W.cell? ⟨kb,6,none⟩=some (.int .i8 b2)∧W.cell? ⟨kb,7,none⟩=some (.int .i8 b3)))
 have hTl:=hZ (fun W (hW:Fr w4 W)=>(⟨hW.keep t0,hW.keep t1,hW.keep t2,hYk.out W (hbw4.trans hW)⟩:W.cell? ⟨tb,0,none⟩=some (.slice aP n cP)∧W.cell? ⟨tb,1,none⟩=some (.slice aC nC cC)∧W.cell? ⟨tb,2,none⟩=some (.slice aM nM cM)∧W.cell? ⟨yb,0,none⟩=some (.int .i8 y0)∧W.cell? ⟨yb,1,none⟩=some (.int .i8 y1)∧W.cell? ⟨yb,2,none⟩=some (.int .i8 y2)∧W.cell? ⟨yb,3,none⟩=some (.int .i8 y3)))
 clear hLk hYk t0 t1 t2
 refine Da (S:=fun W=>W.cell? ⟨tb,0,none⟩=some (.slice aP n cP)∧W.cell? ⟨tb,1,none⟩=some (.slice aC nC cC)∧W.cell? ⟨tb,2,none⟩=some (.slice aM nM cM)∧W.cell? ⟨kb,0,none⟩=some (.int .i8 a0)∧W.cell? ⟨kb,1,none⟩=some (.int .i8 a1)∧W.cell? ⟨kb,2,none⟩=some (.int .i8 a2)∧W.cell? ⟨kb,3,none⟩=some (.int .i8 a3)∧W.cell? ⟨kb,4,none⟩=some (.int .i8 b0)∧W.cell? ⟨kb,5,none⟩=some (.int .i8 b1)∧W.cell? ⟨kb,6,none⟩=some (.int .i8 b2)∧W.cell? ⟨kb,7,none⟩=some (.int .i8 b3)) 9 (by kernel_rfl) (hS0.out _ ((Fr.refl _).drew)) (fun hHeld=>?_)
 refine uK 0 ?_
 refine uK 1 ?_
 refine uK 2 ?_
 refine uK 4 ?_
 refine uK 5 ?_
 refine uK 6 ?_
 refine uC 3 (fun K hK=>?_)
 go_simp
 (refine (hva.out _ (by exact BU)).mono ?_; rintro e w5 ⟨ga,ca,rfl,hf5,hOa,hga⟩; replace hOa:=hZ hOa)
 go_wp2_with fail
 refine hK.out _ _ (hS0.out _ (by exact BU)) (fun hHeld=>?_)
 clear hK K
 refine uC 7 (fun K hK=>?_)
 go_simp
 (refine (hvb.out _ (by exact BU)).mono ?_; rintro e w6 ⟨gb,cb,rfl,hf6,hOb,hgb⟩; replace hOb:=hZ hOb)
 go_wp2_with fail
 refine hK.out _ _ (hS0.out _ (by exact BU)) (fun hHeld=>?_)
 clear hK K
 refine uK 8 ?_
 clear hHeld
 refine uL 9 (fun K hK=>?_)
 go_simp
 refine hK.out _ _ ?_
 clear hK K
 have hf46:Fr w4 w6:=by exact BU
 have hO1:=hZ (hOa.out.fr hf6)
 have hab:ga≠gb:=by have:=hOa.out.2.1; omega
 replace hab:=hZ hab
 clear hS0 hva hvb hOa hga hgb hf5 hf6
 have hka:=hZ (fun W (hW:Fr w6 W)=>N2 vA (some ⟨ga,0,none⟩) n ca W (hO1.out.fr hW).el hla.out (by omega))
 have hkb2:=hZ (fun W (hW:Fr w6 W)=>N2 vB (some ⟨gb,0,none⟩) n cb W (hOb.out.fr hW).el hlb.out (by omega))
 obtain ⟨eA,heA⟩:∃ e,e=Ck vA:=⟨_,rfl⟩
 obtain ⟨eB,heB⟩:∃ e,e=Ck vB:=⟨_,rfl⟩
 rw [← heA] at hka
 rw [← heB] at hkb2
 replace heA:=hZ heA
 replace heB:=hZ heB
 by_cases eA0:eA=0
 case neg=>
  have q0:(eA != 0)=true:=Bb.2 eA0
  clear eA0
  go_wp2_with fail
  refine (hka.out _ (Fr.refl _)).mono ?_
  rintro e w7 ⟨rfl,hf7⟩
  go_wp2_with fail
  go_ret
  exact ⟨rfl,(hfw4.trans hf46).trans hf7⟩
 subst eA0
 by_cases eB0:eB=0
 case neg=>
  have q0:(eB != 0)=true:=Bb.2 eB0
  clear eB0
  go_wp2_with fail
  refine (hka.out _ (Fr.refl _)).mono ?_
  rintro e w7 ⟨rfl,hf7⟩
  go_wp2_with fail
  refine (hkb2.out _ hf7).mono ?_
  rintro e w8 ⟨rfl,hf8⟩
  go_wp2_with fail
  go_ret
  exact ⟨rfl,((hfw4.trans hf46).trans hf7).trans hf8⟩
 subst eB0
 go_wp2_with fail
 refine (hka.out _ (Fr.refl _)).mono ?_
 rintro e w7 ⟨rfl,hf7⟩
 go_wp2_with fail
 refine (hkb2.out _ hf7).mono ?_
 rintro e w8 ⟨rfl,hf8⟩
 have hf48:=hf46.trans (hf7.trans hf8)
 have hO1b:=hZ (hO1.out.fr (hf7.trans hf8))
 have hO2b:=hZ (hOb.out.fr (hf7.trans hf8))
 clear hka hkb2 hO1 hOb hf7 hf8
 have hzA:Hid (Ck vA=0):=heA.out.symm
 have hzB:Hid (Ck vB=0):=heB.out.symm
 have hvA:=hZ (Lp hT.out.prime (hla.out.trans hn.out) (Dq hzA.out))
 have hvB:=hZ (Lp hT.out.prime (hlb.out.trans hn.out) (Dq hzB.out))
 have hs1:=fun W (hW:Fr w4 W) (he:El W iv (some ⟨ga,0,none⟩) vA)=>hsu.out vA (some ⟨ga,0,none⟩) ca W hW he (by rw [hla.out]; omega)
 have hs2:=fun W (hW:Fr w4 W) (he:El W iv (some ⟨gb,0,none⟩) vB)=>hsu.out vB (some ⟨gb,0,none⟩) cb W hW he (by rw [hlb.out]; omega)
 rw [Su hvA.out,hsA.out,hla.out,show (decide ((0:Int)=0) && true)=true from rfl] at hs1
 rw [Su hvB.out,hsB.out,hlb.out,show (decide ((0:Int)=0) && true)=true from rfl] at hs2
 obtain ⟨t0,t1,t2,-⟩:=hTl.out w8 hf48
 have hc1:=hZ (hs1 w8 hf48 hO1b.out.el)
 replace hs2:=hZ hs2
 clear hs1 hsu heA heB
 go_wp2_with fail
 refine hc1.out.mono ?_
 rintro e w9 ⟨rfl,hf9⟩
 have hf49:=hf48.trans hf9
 have hO1c:=hZ (hO1b.out.fr hf9)
 have hO2c:=hZ (hO2b.out.fr hf9)
 have hc2:=hZ (hs2.out w9 hf49 hO2c.out.el)
 replace t0:=hf9.keep t0
 replace t1:=hf9.keep t1
 replace t2:=hf9.keep t2
 clear hs2 hc1 hO1b hO2b
 go_wp2_with fail
 refine hc2.out.mono ?_
 rintro e w10 ⟨rfl,hf10⟩
 have hf410:=hf49.trans hf10
 have hO1d:=hZ (hO1c.out.fr hf10)
 have hO2d:=hZ (hO2c.out.fr hf10)
 have hjc:=hjo.out vA vB (some ⟨ga,0,none⟩) (some ⟨gb,0,none⟩) ca cb w10 hf410 hO1d.out.el hO2d.out.el hla.out hlb.out (Dq hzA.out) (Dq hzB.out)
 obtain ⟨JE,hJE⟩:∃ e,e=NG P vA vB:=⟨_,rfl⟩
 obtain ⟨A,hA⟩:∃ e,e=jA P vA vB:=⟨_,rfl⟩
 obtain ⟨S,hS⟩:∃ e,e=jS P vA vB:=⟨_,rfl⟩
 rw [← hJE,← hA,← hS] at hjc
 unfold OT at hjc
 rw [← hn.out] at hjc
 replace hJE:=hZ hJE
 replace hA:=hZ hA
 replace hS:=hZ hS
 replace hjc:=hZ hjc
 replace t0:=hf10.keep t0
 clear t1 t2 hjo hO1c hO2c hc2
 go_wp2_with fail
 refine hjc.out.mono ?_
 rintro e w11 ⟨hf11,hok,hno⟩
 have hf411:=hf410.trans hf11
 by_cases hj0:JE=0
 case neg=>
  obtain rfl:=hno hj0
  have hj9:JE=18∨JE=4:=by rw [hJE.out] at hj0 ⊢; exact YQ hj0
  clear hok hno hjc
  obtain ⟨w12,hw12⟩:∃ W,W=w11.alloc (.cells #[.slice none 0 0,.slice none 0 0,.slice none 0 0] 29):=⟨_,rfl⟩
  have hf12:Fr w11 w12:=by rw [hw12]; exact (Fr.refl _).alloc _
  have hB12:=C3.new w11 (.slice none 0 0) (.slice none 0 0) (.slice none 0 0) 29
  rw [← hw12] at hB12
  have j0:=hB12.a
  have j1:=hB12.b
  have j2:=hB12.c
  have hnz:=hZ (PL w12)
  clear hB12
  rcases hj9 with rfl | rfl
  ·go_upto_region 10 with (fail)
   rw [← hw12]
   clear hw12
   go_wp2_with fail
   refine hnz.out.mono ?_
   rintro e w13 ⟨rfl,hf13⟩
   go_wp2_with fail
   go_ret
   exact ⟨rfl,((hfw4.trans hf411).trans hf12).trans hf13⟩
  ·go_upto_region 10 with (fail)
   rw [← hw12]
   clear hw12
   go_wp2_with fail
   refine hnz.out.mono ?_
   rintro e w13 ⟨rfl,hf13⟩
   go_wp2_with fail
   go_ret
   exact ⟨rfl,((hfw4.trans hf411).trans hf12).trans hf13⟩
 obtain ⟨pa,pc,ca2,cc,ma,mc,rfl,hel,hmc,hmm,hcc,hcm⟩:=hok hj0
 clear hok hno hjc
 obtain ⟨hfr,hS2⟩:=P4 (hJE.out.symm.trans hj0)
 subst hj0
 have hlA:=hla.out.trans hn.out
 have hlB:=hlb.out.trans hn.out
 have hfA:=Dq hzA.out
 have hfB:=Dq hzB.out
 have hT2:Tg P A S:=by rw [hA.out,hS.out]; exact Iy hT.out.n1 hT.out.n4 hT.out.prime hlA hlB hfA hfB hfr
 obtain ⟨su1,su2⟩:=P3 hT.out.n4 hlA hlB hfA hfB hfr
 have hout:=VF hT.out.n1 hT.out.n4 hT.out.prime hlA hlB hfA hfB hfr (y:=TW n [y0,y1,y2,y3]) ((JL rfl hn4).trans hn.out)
 have hsame:=fun h2=>TV hT.out.n1 hT.out.n4 hT.out.prime hlA hlB hfA hfB hfr hT.out h2 hsA.out hsB.out hS2
 rw [← hA.out] at su1 su2 hsame
 rw [← hS.out] at hout hsame
 rw [← hn.out] at hout
 obtain ⟨nA,hnA⟩:∃ n,n=A.length:=⟨_,rfl⟩
 obtain ⟨nS,hnS⟩:∃ n,n=S.length:=⟨_,rfl⟩
 have htj:=fun W (hW:Fr w11 W)=>(OS.of (hG4.out W (hf411.trans hW)) (hel W (Fx.of_fr hW)) (hmc W (Fx.of_fr hW)) (hmm W (Fx.of_fr hW)) hcc hT2.w:OS W pa ca2 ma pc cc mc P A S 0)
 have hs3:=fun W (hW:Fr w11 W) (he:El W iv (some ⟨ga,0,none⟩) vA)=>F4 pa ca2 ma pc cc mc P A S 0 vA (some ⟨ga,0,none⟩) ca W (htj W hW) he (by rw [hla.out]; omega) (hG4.out W (hf411.trans hW))
 have hs4:=fun W (hW:Fr w11 W) (he:El W iv (some ⟨gb,0,none⟩) vB)=>F4 pa ca2 ma pc cc mc P A S 0 vB (some ⟨gb,0,none⟩) cb W (htj W hW) he (by rw [hlb.out]; omega) (hG4.out W (hf411.trans hW))
 rw [Su hvA.out,su1,hla.out,← hn.out,← hnA,← hnS,show (decide ((0:Int)=0) && true)=true from rfl] at hs3
 rw [Su hvB.out,su2,hlb.out,← hn.out,← hnA,← hnS,show (decide ((0:Int)=0) && true)=true from rfl] at hs4
 obtain ⟨y,hy⟩:∃ y,y=TW n [y0,y1,y2,y3]:=⟨_,rfl⟩
 have hyl:y.length=n:=by rw [hy]; exact JL rfl hn4
 have hyf:∀ z,z ∈ y→Bk z=true:=fun z hz=>by
  rw [hy] at hz
  have:=VH z hz
  unfold Bk
  exact Ab (by omega)
 rw [← hy] at hiv hout
 have hto:=fun W (hW:Fr w11 W) (g:Nat) (c:Nat) (he:El W iv (some ⟨g,0,none⟩) y)=>Wn P A S y pa ca2 ma (some ⟨g,0,none⟩) pc cc mc c W (hG4.out W (hf411.trans hW)) (hel W (Fx.of_fr hW)) (hmc W (Fx.of_fr hW)) (hmm W (Fx.of_fr hW)) hcc hT2 he (hyl.trans hn.out) hyf
 rw [hout,hyl,← hn.out,← hnA,← hnS] at hto
 have hd1:=hZ (fun W (hW:Fr w11 W) (g:Nat) (c:Nat) (h1:El W iv (some ⟨ga,0,none⟩) vA) (he:El W iv (some ⟨g,0,none⟩) y)=>Ky vA y n n (some ⟨ga,0,none⟩) (some ⟨g,0,none⟩) ca c W (hG4.out W (hf411.trans hW)) h1 he hla.out hyl (Ah _) (by omega) hfA hyf)
 have hd2:=hZ (fun W (hW:Fr w11 W) (g:Nat) (c:Nat) (h1:El W iv (some ⟨gb,0,none⟩) vB) (he:El W iv (some ⟨g,0,none⟩) y)=>Ky vB y n n (some ⟨gb,0,none⟩) (some ⟨g,0,none⟩) cb c W (hG4.out W (hf411.trans hW)) h1 he hlb.out hyl (Ah _) (by omega) hfB hyf)
 have hq1:=B8 (Cy vA y n)
 have hq2:=B8 (Cy vB y n)
 obtain ⟨o1,ho1⟩:∃ o,o=decide (Cy vA y n=0):=⟨_,rfl⟩
 obtain ⟨o2,ho2⟩:∃ o,o=decide (Cy vB y n=0):=⟨_,rfl⟩
 rw [← ho1] at hq1 hto
 rw [← ho2] at hq2 hto
 generalize tx (Cy vA y n)=st1 at *
 generalize tx (Cy vB y n)=st2 at *
 have hend:nM=2→Hid (∀ W,Fr w11 W→Calls Tryz.prog 17 #[.agg #[.slice pa n pc,.slice ca2 nA cc,.slice ma nS mc],.agg #[.slice aP n cP,.slice aC nC cC,.slice aM nM cM]] W fun e w'=>e=.returned (.bool true)∧Fr W w'):=fun h2 W hW=>by
  obtain ⟨eA,eS⟩:=hsame (by rw [← hnM.out]; exact h2)
  obtain ⟨k1,k2,k3⟩:=hPC.out W (hf411.trans hW)
  have h9:=HI P C M pa aP ca2 aC ma aM pc cP cc cC mc cM W (hel W (Fx.of_fr hW)) k1 (by rw [← eA]; exact hmc W (Fx.of_fr hW)) k2 (by rw [← eS]; exact hmm W (Fx.of_fr hW)) k3 (by have:=hT.out.n4; omega) (by have:=hT.out.tabC.1; omega) (by have:=hT.out.tabM.1; omega) (fun r hr=>by rw [hT.out.tabC.2.2.1 r hr]; have:=hT.out.n4; omega) (fun r hr=>by rw [hT.out.tabM.2.2.1 r hr]; have:=hT.out.n4; omega)
  rw [← hn.out,← hnC.out,← hnM.out] at h9
  rw [hnA,hnS,eA,eS,← hnC.out,← hnM.out]
  exact h9
 replace hend:=hZ hend
 replace hs3:=hZ hs3
 replace hs4:=hZ hs4
 replace hto:=hZ hto
 replace hy:=hZ hy
 replace hyl:=hZ hyl
 replace hnA:=hZ hnA
 replace hnS:=hZ hnS
 replace ho1:=hZ ho1
 replace ho2:=hZ ho2
 clear hyf hsame hout su1 su2 hfA hfB hlA hlB hT2 hel hmc hmm htj hS2 hfr hE4 hPC
 obtain ⟨w12,hw12⟩:∃ W,W=w11.alloc (.cells #[.slice pa n pc,.slice ca2 nA cc,.slice ma nS mc] 29):=⟨_,rfl⟩
 have hf12:Fr w11 w12:=by rw [hw12]; exact (Fr.refl _).alloc _
 have hB12:=C3.new w11 (.slice pa n pc) (.slice ca2 nA cc) (.slice ma nS mc) 29
 rw [← hw12] at hB12
 obtain ⟨jb,hjb⟩:∃ q,q=w11.heap.size:=⟨_,rfl⟩
 rw [← hjb] at hB12
 have j0:=hB12.a
 have j1:=hB12.b
 have j2:=hB12.c
 rw [← hnA.out,← hnS.out]
 have hJb:=hZ (fun W (hW:Fr w12 W)=>(⟨hW.keep j0,hW.keep j1,hW.keep j2⟩:W.cell? ⟨jb,0,none⟩=some (.slice pa n pc)∧W.cell? ⟨jb,1,none⟩=some (.slice ca2 nA cc)∧W.cell? ⟨jb,2,none⟩=some (.slice ma nS mc)))
 have hO1e:=hZ (hO1d.out.fr (hf11.trans hf12))
 have hO2e:=hZ (hO2d.out.fr (hf11.trans hf12))
 clear hB12 hO1d hO2d
 go_upto_region 10 with (fail)
 rw [← hw12,← hjb]
 clear hw12
 replace hjb:=hZ hjb
 have hs3w:=hZ (hs3.out w12 hf12 hO1e.out.el)
 go_wp2_with fail
 refine hs3w.out.mono ?_
 rintro e w13 ⟨rfl,hf13⟩
 have hO2f:=hZ (hO2e.out.fr hf13)
 have hs4w:=hZ (hs4.out w13 (hf12.trans hf13) hO2f.out.el)
 obtain ⟨j0,j1,j2⟩:=hJb.out w13 hf13
 clear hs3w hs3 hs4
 go_wp2_with fail
 refine hs4w.out.mono ?_
 rintro e w14 ⟨rfl,hf14⟩
 have hf1214:=hf13.trans hf14
 obtain ⟨t0,t1,t2,k0,k1,k2,k3⟩:=hTl.out w14 ((hf411.trans hf12).trans hf1214)
 clear hs4w
 go_wp2_with fail
 refine (hiv.out w14).mono ?_
 rintro e w15 ⟨gy,gc,rfl,hf15,hown⟩
 have hf1215:=hf1214.trans hf15
 have hel:=hZ (KU hown)
 have htw:=hZ (hto.out w15 (hf12.trans hf1215) gy gc hel.out)
 obtain ⟨j0,j1,j2⟩:=hJb.out w15 hf1215
 clear hown hiv hto
 go_wp2_with fail
 refine htw.out.mono ?_
 rintro e w16 ⟨rfl,hf16⟩
 have hf1216:=hf1215.trans hf16
 have hf416:=(hf411.trans hf12).trans hf1216
 obtain ⟨j0,j1,j2⟩:=hJb.out w16 hf1216
 obtain ⟨t0,t1,t2,-⟩:=hTl.out w16 hf416
 have hd1w:=hZ (hd1.out w16 (hf12.trans hf1216) gy gc (hO1e.out.fr hf1216).el (hel.out.fr hf16))
 have hd2w:=hZ (fun W (hW:Fr w16 W)=>hd2.out W ((hf12.trans hf1216).trans hW) gy gc ((hO2e.out.fr hf1216).fr hW).el ((hel.out.fr hf16).fr hW))
 have hendw:=hZ (fun (h2:nM=2) W (hW:Fr w16 W)=>((hend.out h2).out) W ((hf12.trans hf1216).trans hW))
 clear htw hd1 hd2 hend hO1e hO2e hO2f
 cases o1 with
 | false=>
   go_wp2_with fail
   refine hd1w.out.mono ?_
   rintro e w17 ⟨rfl,hf17⟩
   replace j0:=hf17.keep j0
   replace j1:=hf17.keep j1
   replace j2:=hf17.keep j2
   replace t0:=hf17.keep t0
   replace t1:=hf17.keep t1
   replace t2:=hf17.keep t2
   by_cases h2:nM=2
   ·have h9:=hZ (hendw.out h2 w17 hf17)
    have q2:((nM:Int) != 2)=false:=by rw [h2]; rfl
    replace h2:=hZ h2
    go_wp2_with fail
    refine h9.out.mono ?_
    rintro e wz ⟨rfl,hfz⟩
    go_wp2_with fail
    go_ret
    exact ⟨rfl,((hfw4.trans hf416).trans hf17).trans hfz⟩
   ·have q2:((nM:Int) != 2)=true:=Bb.2 (by omega)
    go_wp2_with fail
    go_ret
    exact ⟨rfl,(hfw4.trans hf416).trans hf17⟩
 | true=>
   cases o2 with
   | false=>
     go_wp2_with fail
     refine hd1w.out.mono ?_
     rintro e w17 ⟨rfl,hf17⟩
     replace j0:=hf17.keep j0
     replace j1:=hf17.keep j1
     replace j2:=hf17.keep j2
     replace t0:=hf17.keep t0
     replace t1:=hf17.keep t1
     replace t2:=hf17.keep t2
     go_wp2_with fail
     refine (hd2w.out _ hf17).mono ?_
     rintro e w18 ⟨rfl,hf18⟩
     replace j0:=hf18.keep j0
     replace j1:=hf18.keep j1
     replace j2:=hf18.keep j2
     replace t0:=hf18.keep t0
     replace t1:=hf18.keep t1
     replace t2:=hf18.keep t2
     have hf19:=hf17.trans hf18
     by_cases h2:nM=2
     ·have h9:=hZ (hendw.out h2 w18 hf19)
      have q2:((nM:Int) != 2)=false:=by rw [h2]; rfl
      replace h2:=hZ h2
      go_wp2_with fail
      refine h9.out.mono ?_
      rintro e wz ⟨rfl,hfz⟩
      go_wp2_with fail
      go_ret
      exact ⟨rfl,((hfw4.trans hf416).trans hf19).trans hfz⟩
     ·have q2:((nM:Int) != 2)=true:=Bb.2 (by omega)
      go_wp2_with fail
      go_ret
      exact ⟨rfl,(hfw4.trans hf416).trans hf19⟩
   | true=>
     go_wp2_with fail
     refine hd1w.out.mono ?_
     rintro e w17 ⟨rfl,hf17⟩
     replace j0:=hf17.keep j0
     replace j1:=hf17.keep j1
     replace j2:=hf17.keep j2
     replace t0:=hf17.keep t0
     replace t1:=hf17.keep t1
     replace t2:=hf17.keep t2
     go_wp2_with fail
     refine (hd2w.out _ hf17).mono ?_
     rintro e w18 ⟨rfl,hf18⟩
     replace j0:=hf18.keep j0
     replace j1:=hf18.keep j1
     replace j2:=hf18.keep j2
     replace t0:=hf18.keep t0
     replace t1:=hf18.keep t1
     replace t2:=hf18.keep t2
     have hf19:=hf17.trans hf18
     by_cases h2:nM=2
     ·have h9:=hZ (hendw.out h2 w18 hf19)
      have q2:((nM:Int) != 2)=false:=by rw [h2]; rfl
      replace h2:=hZ h2
      go_wp2_with fail
      refine h9.out.mono ?_
      rintro e wz ⟨rfl,hfz⟩
      go_wp2_with fail
      go_ret
      exact ⟨rfl,((hfw4.trans hf416).trans hf19).trans hfz⟩
     ·have q2:((nM:Int) != 2)=true:=Bb.2 (by omega)
      go_wp2_with fail
      go_ret
      exact ⟨rfl,(hfw4.trans hf416).trans hf19⟩
end Go.Proofs.YtiniigadkknboaaGreatDoor
