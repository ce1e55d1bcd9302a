/- Contracts and laws: CBM. -/
import Derived.Test.YtiniigadkknboaaGreatDoorCBL
import Derived.Test.YtiniigadkknboaaGreatDoorCBA
import Derived.Deep.CutRange

set_option maxRecDepth 100000
set_option maxHeartbeats 8000000
namespace Go.Proofs.YtiniigadkknboaaGreatDoor
open Go.RowKit Go.Lib
attribute [local go_sem ↓] Go.wp_at_zero Go.wp_at_succ
theorem Check_gen (xs:List Int) (a:Option Addr) (n c:Nat) (w:World) (h:El w iv a xs) (hn:xs.length=n) (hl:n≤1000000):Calls Tryz.prog 22 #[.slice a n c] w fun e w'=>e=.returned (.int .i64 (rowE xs))∧Fr w w':=by
 subst hn
 exact Check_row xs a c w h (by omega)
theorem SupportChains_any (np:Int) (qa:Option Addr) (QL:List (List Int)) (qc:Nat) (vb:Bool) (a0 a1 a2 a3 b0 b1 b2 b3 cnt:Int) (x:List Int) (xa:Option Addr) (xc:Nat) (w:World) (hG:G w) (hE:ErX w) (hnp:0≤np∧np≤255) (hQ:QuadIs w qa QL) (hQ8:Quad8 QL) (hA:∀ x,x ∈ [a0,a1,a2,a3]→-128≤x∧x≤127) (hB:∀ x,x ∈ [b0,b1,b2,b3]→-128≤x∧x≤127) (hx:El w iv xa x) :
 Calls Tryz.prog 4 #[.agg #[.int .u8 np,.slice qa QL.length qc,.bool vb],.agg #[.int .i8 a0,.int .i8 a1,.int .i8 a2,.int .i8 a3,.int .i8 b0,.int .i8 b1,.int .i8 b2,.int .i8 b3,.int .i64 cnt],.slice xa x.length xc] w fun e w'=>e=.returned (.bool true)∧Fr w w':=by
 obtain ⟨i1,ji,jz0,jz1,jz2⟩:=info_parts infoRow
 obtain ⟨wa,hwa⟩:∃ wb,wb=w.alloc (.cells #[.int .u8 np,.slice qa QL.length qc,.bool vb] 42):=⟨_,rfl⟩
 have hfa:Fr w wa:=by rw [hwa]; exact (Fr.refl _).alloc _
 have hBa:=C3.new w (.int .u8 np) (.slice qa QL.length qc) (.bool vb) 42
 rw [← hwa] at hBa
 have hsa:wa.heap.size=w.heap.size+1:=by rw [hwa,World.size_alloc]
 obtain ⟨wb,hwb⟩:∃ wb,wb=wa.alloc (.cells #[.int .i8 a0,.int .i8 a1,.int .i8 a2,.int .i8 a3,.int .i8 b0,.int .i8 b1,.int .i8 b2,.int .i8 b3,.int .i64 cnt] 46):=⟨_,rfl⟩
 have hfb2:Fr wa wb:=by rw [hwb]; exact (Fr.refl _).alloc _
 have hfb:=hfa.trans hfb2
 have g1:=heap_alloc_new wa (.cells #[.int .i8 a0,.int .i8 a1,.int .i8 a2,.int .i8 a3,.int .i8 b0,.int .i8 b1,.int .i8 b2,.int .i8 b3,.int .i64 cnt] 46 (0,0))
 rw [← hwb,hsa] at g1
 obtain ⟨kb,hkb⟩:∃ kb,kb=w.heap.size+1:=⟨_,rfl⟩
 rw [← hkb] at g1
 have l0:wb.cell? ⟨kb,0,none⟩=some (.int .i8 a0):=by rw [cells_of g1]; rfl
 have l1:wb.cell? ⟨kb,1,none⟩=some (.int .i8 a1):=by rw [cells_of g1]; rfl
 have l2:wb.cell? ⟨kb,2,none⟩=some (.int .i8 a2):=by rw [cells_of g1]; rfl
 have l3:wb.cell? ⟨kb,3,none⟩=some (.int .i8 a3):=by rw [cells_of g1]; rfl
 have m0:wb.cell? ⟨kb,4,none⟩=some (.int .i8 b0):=by rw [cells_of g1]; rfl
 have m1:wb.cell? ⟨kb,5,none⟩=some (.int .i8 b1):=by rw [cells_of g1]; rfl
 have m2:wb.cell? ⟨kb,6,none⟩=some (.int .i8 b2):=by rw [cells_of g1]; rfl
 have m3:wb.cell? ⟨kb,7,none⟩=some (.int .i8 b3):=by rw [cells_of g1]; rfl
 have lc:wb.cell? ⟨kb,8,none⟩=some (.int .i64 cnt):=by rw [cells_of g1]; rfl
 have hLk:=hZ (fun W (hW:Fr wb W)=>(⟨hW.keep l0,hW.keep l1,hW.keep l2,hW.keep l3,hW.keep m0,hW.keep m1,hW.keep m2,hW.keep m3⟩:W.cell? ⟨kb,0,none⟩=some (.int .i8 a0)∧W.cell? ⟨kb,1,none⟩=some (.int .i8 a1)∧W.cell? ⟨kb,2,none⟩=some (.int .i8 a2)∧W.cell? ⟨kb,3,none⟩=some (.int .i8 a3)∧W.cell? ⟨kb,4,none⟩=some (.int .i8 b0)∧W.cell? ⟨kb,5,none⟩=some (.int .i8 b1)∧W.cell? ⟨kb,6,none⟩=some (.int .i8 b2)∧W.cell? ⟨kb,7,none⟩=some (.int .i8 b3)))
 have x0:=hfb2.keep hBa.a
 have x1:=hfb2.keep hBa.b
 have x2:=hfb2.keep hBa.c
 have hkn:=hZ (fun W (hW:Fr w W)=>Known22_any W (hG.fr hW) (hE.fr hW))
 have hft:=hZ (fun W=>Fits18_any np vb qa QL.length qc W)
 have hfw9:=hZ (fun W=>few_any xa x.length xc W)
 clear l0 l1 l2 l3 m0 m1 m2 m3 g1
 by_cases h3:QL.length≤3
 case neg=>
  have d3:decide (QL.length≤3)=false:=decide_eq_false h3
  rw [d3] at hft
  generalize QL.length=k at *
  clear hQ hQ8 hG hE h3 d3 hBa hx hA hB hLk hfw9 lc
  go_enter Tryz.func4,Tryz.ntmps4
  go_upto_region 1 with (fail)
  rw [← hwa,← hwb]
  clear hwa hwb
  go_wp2_with fail
  refine (hkn.out _ hfb).mono ?_
  rintro e w1 ⟨rfl,hf1⟩
  replace x0:=hf1.keep x0
  replace x1:=hf1.keep x1
  replace x2:=hf1.keep x2
  go_wp2_with fail
  refine (hft.out w1).mono ?_
  rintro e w2 ⟨rfl,hf2⟩
  go_wp2_with fail
  refine (hkn.out _ ((hfb.trans hf1).trans hf2)).mono ?_
  rintro e w3 ⟨rfl,hf3⟩
  go_wp2_with fail
  go_ret
  exact ⟨rfl,((hfb.trans hf1).trans hf2).trans hf3⟩
 have d3:decide (QL.length≤3)=true:=decide_eq_true h3
 rw [d3] at hft
 by_cases hx7:x.length≤7
 case neg=>
  have d7:decide (x.length≤7)=false:=decide_eq_false hx7
  rw [d7] at hfw9
  generalize QL.length=k at *
  generalize x.length=xn at *
  clear hQ hQ8 hG hE h3 d3 hBa hx hA hB hLk lc hx7 d7
  go_enter Tryz.func4,Tryz.ntmps4
  go_upto_region 1 with (fail)
  rw [← hwa,← hwb]
  clear hwa hwb
  go_wp2_with fail
  refine (hkn.out _ hfb).mono ?_
  rintro e w1 ⟨rfl,hf1⟩
  replace x0:=hf1.keep x0
  replace x1:=hf1.keep x1
  replace x2:=hf1.keep x2
  go_wp2_with fail
  refine (hft.out w1).mono ?_
  rintro e w2 ⟨rfl,hf2⟩
  go_wp2_with fail
  refine (hfw9.out w2).mono ?_
  rintro e w2' ⟨rfl,rfl⟩
  go_wp2_with fail
  refine (hkn.out _ ((hfb.trans hf1).trans hf2)).mono ?_
  rintro e w3 ⟨rfl,hf3⟩
  go_wp2_with fail
  go_ret
  exact ⟨rfl,((hfb.trans hf1).trans hf2).trans hf3⟩
 have d7:decide (x.length≤7)=true:=decide_eq_true hx7
 rw [d7] at hfw9
 have hmk:=hZ (fun W (hW:Fr w W)=>Make18_any np qa QL qc vb W (hG.fr hW) (hE.fr hW) hnp (hQ.fr hW) hQ8 h3)
 have hG1:=hZ (fun W (hW:Fr w W)=>hG.fr hW)
 have hx1:=hZ (fun W (hW:Fr w W)=>hx.fr hW)
 have hsb:wb.heap.size=w.heap.size+2:=by rw [hwb,World.size_alloc,hsa]
 generalize QL.length=k at *
 obtain ⟨xn,hxn⟩:∃ n,n=x.length:=⟨_,rfl⟩
 rw [← hxn] at hfw9 hx7 ⊢
 replace hxn:=hZ hxn
 replace hA:=hZ hA
 replace hB:=hZ hB
 clear hQ hQ8 h3 d3 hBa hG hE d7 hx
 go_enter Tryz.func4,Tryz.ntmps4
 go_upto_region 1 with (fail)
 rw [← hwa,← hwb]
 clear hwa hwb
 replace hsa:=hZ hsa
 replace hsb:=hZ hsb
 go_wp2_with fail
 refine (hkn.out _ hfb).mono ?_
 rintro e w1 ⟨rfl,hf1⟩
 replace x0:=hf1.keep x0
 replace x1:=hf1.keep x1
 replace x2:=hf1.keep x2
 go_wp2_with fail
 refine (hft.out w1).mono ?_
 rintro e w2 ⟨rfl,hf2⟩
 replace x0:=hf2.keep x0
 replace x1:=hf2.keep x1
 replace x2:=hf2.keep x2
 go_wp2_with fail
 refine (hfw9.out w2).mono ?_
 rintro e w2' ⟨rfl,rfl⟩
 have hfw:=(hfb.trans hf1).trans hf2
 have hbw:=hf1.trans hf2
 go_wp2_with fail
 refine (hmk.out w2' hfw).mono ?_
 rintro e w3 ⟨P,C,M,aP,aC,aM,cP,cC,cM,rfl,hP,hC,hM,hcC,-,hPp,hT,hf3⟩
 clear hPp
 have hfw3:=hfw.trans hf3
 have htm:TmF w3 aP aC aM cP cC cM P C M 0:=TmF.of (hG1.out _ hfw3) hP hC hM hcC hT.w
 obtain ⟨w4,hw4⟩:∃ W,W=w3.alloc (.cells #[.slice aP P.length cP,.slice aC C.length cC,.slice aM M.length cM] 29):=⟨_,rfl⟩
 have hf4:Fr w3 w4:=by rw [hw4]; exact (Fr.refl _).alloc _
 have hB4:=C3.new w3 (.slice aP P.length cP) (.slice aC C.length cC) (.slice aM M.length cM) 29
 rw [← hw4] at hB4
 obtain ⟨tb,htb⟩:∃ q,q=w3.heap.size:=⟨_,rfl⟩
 rw [← htb] at hB4
 have hfw4:=hfw3.trans hf4
 have hbw4:=(hbw.trans hf3).trans hf4
 have htm4:=htm.fr hf4
 have hG4:=hZ (fun W (hW:Fr w4 W)=>hG1.out W (hfw4.trans hW))
 have t0:=hB4.a
 have t1:=hB4.b
 have t2:=hB4.c
 have hva:=hZ (fun W (hW:Fr w4 W)=>vals22_any M a0 a1 a2 a3 P.length aP aC aM cP C.length cC cM W (hG4.out W hW) (hM.fr (hf4.trans hW)) hT.tabM hA.out hT.n1)
 have hvb:=hZ (fun W (hW:Fr w4 W)=>vals22_any M b0 b1 b2 b3 P.length aP aC aM cP C.length cC cM W (hG4.out W hW) (hM.fr (hf4.trans hW)) hT.tabM hB.out hT.n1)
 have hVc:=hZ (fun W (hW:Fr w4 W)=>VCheck_any P x aP xa cP xc W (htm4.fr hW).p (hx1.out W (hfw4.trans hW)) (by have:=hT.n4; omega) (by rw [← hxn.out]; omega))
 rw [← hxn.out] at hVc
 have hsu:=hZ (fun (v:List Int) (va:Option Addr) (vc:Nat) W (hW:Fr w4 W) (he:El W iv va v) (hl:v.length=P.length) (hf:∀ y,y ∈ v→fitB y=true)=>supp22_any C v P.length va aM aP aC vc cM M.length P.length cP cC W (hG4.out W hW) (htm4.fr hW).c hT.tabC.2.2.1 he hl (by have:=hT.n4; omega) (by have:=hT.tabC.1; omega) hf hT.tabC.2.2.2)
 have hch:=hZ (fun (v u:List Int) (va ua:Option Addr) (vc uc:Nat) W (hW:Fr w4 W) (h1:El W iv va v) (h2:El W iv ua u) (h3:v.length≤1000000) (h4:u.length≤1000000)=>Chain_any aP aC aM cP cC cM P C M 0 v u va ua vc uc cnt W (htm4.fr hW) h1 h2 h3 h4 (hG4.out W hW))
 have hla:(valL M [a0,a1,a2,a3] P.length).length=P.length:=valL_len _ _ _
 have hlb:(valL M [b0,b1,b2,b3] P.length).length=P.length:=valL_len _ _ _
 have hsA:=hT.val [a0,a1,a2,a3]
 have hsB:=hT.val [b0,b1,b2,b3]
 have hpr:=hT.prime
 have hn1:=hT.n1
 have hn4:=hT.n4
 have hcl:=hZ (fun (v u:List Int) (h1:v.length=P.length) (h2:u.length=P.length)=>@chL_sup P.length C v u hT.tabC.2.2.1 h1 h2)
 obtain ⟨vA,hvA⟩:∃ l,l=valL M [a0,a1,a2,a3] P.length:=⟨_,rfl⟩
 obtain ⟨vB,hvB⟩:∃ l,l=valL M [b0,b1,b2,b3] P.length:=⟨_,rfl⟩
 rw [← hvA] at hva hla hsA
 rw [← hvB] at hvb hlb hsB
 have hvx:∀ v,v.length=P.length→rowE v=0→valE P v=0:=fun v h1 h2=>valE_of hpr h1 (rowE_fit h2)
 have hvE:valE P x=0→x.length=P.length∧rowE x=0:=fun h=>⟨(valE_zero h).2.2,(valE_zero h).2.1⟩
 replace hvx:=hZ hvx
 replace hvE:=hZ hvE
 replace hsA:=hZ hsA
 replace hsB:=hZ hsB
 replace hla:=hZ hla
 replace hlb:=hZ hlb
 replace hpr:=hZ hpr
 have hPn:Hid (∃ n,n=P.length):=⟨_,rfl⟩
 generalize P.length=n at *
 generalize C.length=nC at *
 generalize M.length=nM at *
 clear hB4 htm htm4 hP hC hM hT hA hB hvA hvB hPn hcC hf4 hf3 hfw3 hkn hft hfw9 hmk x0 x1 x2 hf1 hf2 hG1
 go_upto_region 4 with (fail)
 rw [← hw4,← htb,← hkb]
 clear hw4
 replace htb:=hZ htb
 have hS0:=hZ (fun W (hW:Fr w4 W)=>(⟨hW.keep t0,hW.keep t1,hW.keep t2,hLk.out W (hbw4.trans hW)⟩:W.cell? ⟨tb,0,none⟩=some (.slice aP n cP)∧W.cell? ⟨tb,1,none⟩=some (.slice aC nC cC)∧W.cell? ⟨tb,2,none⟩=some (.slice aM nM cM)∧W.cell? ⟨kb,0,none⟩=some (.int .i8 a0)∧W.cell? ⟨kb,1,none⟩=some (.int .i8 a1)∧W.cell? ⟨kb,2,none⟩=some (.int .i8 a2)∧W.cell? ⟨kb,3,none⟩=some (.int .i8 a3)∧W.cell? ⟨kb,4,none⟩=some (.int .i8 b0)∧W.cell? ⟨kb,5,none⟩=some (.int .i8 b1)∧W.cell? ⟨kb,6,none⟩=some (.int .i8 b2)∧W.cell? ⟨kb,7,none⟩=some (.int .i8 b3)))
 have hTl:=hZ (fun W (hW:Fr w4 W)=>(⟨hW.keep t0,hW.keep t1,hW.keep t2,(hbw4.trans hW).keep lc⟩:W.cell? ⟨tb,0,none⟩=some (.slice aP n cP)∧W.cell? ⟨tb,1,none⟩=some (.slice aC nC cC)∧W.cell? ⟨tb,2,none⟩=some (.slice aM nM cM)∧W.cell? ⟨kb,8,none⟩=some (.int .i64 cnt)))
 clear hLk t0 t1 t2 lc
 replace hkb:=hZ hkb
 refine wp_region_U (S:=fun W=>W.cell? ⟨tb,0,none⟩=some (.slice aP n cP)∧W.cell? ⟨tb,1,none⟩=some (.slice aC nC cC)∧W.cell? ⟨tb,2,none⟩=some (.slice aM nM cM)∧W.cell? ⟨kb,0,none⟩=some (.int .i8 a0)∧W.cell? ⟨kb,1,none⟩=some (.int .i8 a1)∧W.cell? ⟨kb,2,none⟩=some (.int .i8 a2)∧W.cell? ⟨kb,3,none⟩=some (.int .i8 a3)∧W.cell? ⟨kb,4,none⟩=some (.int .i8 b0)∧W.cell? ⟨kb,5,none⟩=some (.int .i8 b1)∧W.cell? ⟨kb,6,none⟩=some (.int .i8 b2)∧W.cell? ⟨kb,7,none⟩=some (.int .i8 b3)) 9 (by kernel_rfl) (hS0.out _ ((Fr.refl _).drew)) (fun hHeld=>?_)
 refine uK 0 ?_
 refine uK 1 ?_
 refine uK 2 ?_
 refine uK 4 ?_
 refine uK 5 ?_
 refine uK 6 ?_
 refine uC 3 (fun K hK=>?_)
 go_simp
 (refine (hva.out _ (by exact fr9)).mono ?_; rintro e w5 ⟨ga,ca,rfl,hf5,hOa,hga⟩; replace hOa:=hZ hOa)
 go_wp2_with fail
 refine hK.out _ _ (hS0.out _ (by exact fr9)) (fun hHeld=>?_)
 clear hK K
 refine uC 7 (fun K hK=>?_)
 go_simp
 (refine (hvb.out _ (by exact fr9)).mono ?_; rintro e w6 ⟨gb,cb,rfl,hf6,hOb,hgb⟩; replace hOb:=hZ hOb)
 go_wp2_with fail
 refine hK.out _ _ (hS0.out _ (by exact fr9)) (fun hHeld=>?_)
 clear hK K
 refine uK 8 ?_
 clear hHeld
 refine uL 9 (fun K hK=>?_)
 go_simp
 refine hK.out _ _ ?_
 clear hK K
 have hf46:Fr w4 w6:=by exact fr9
 have hO1:=hZ (hOa.out.fr hf6)
 have hab:ga≠gb:=by have:=hOa.out.2.1; omega
 replace hab:=hZ hab
 clear hS0 hva hvb hOa hga hgb hf5 hf6
 have hka:=hZ (fun W (hW:Fr w6 W)=>Check_gen vA (some ⟨ga,0,none⟩) n ca W (hO1.out.fr hW).el hla.out (by omega))
 have hkb2:=hZ (fun W (hW:Fr w6 W)=>Check_gen vB (some ⟨gb,0,none⟩) n cb W (hOb.out.fr hW).el hlb.out (by omega))
 obtain ⟨eA,heA⟩:∃ e,e=rowE vA:=⟨_,rfl⟩
 obtain ⟨eB,heB⟩:∃ e,e=rowE vB:=⟨_,rfl⟩
 rw [← heA] at hka
 rw [← heB] at hkb2
 replace heA:=hZ heA
 replace heB:=hZ heB
 by_cases eA0:eA=0
 case neg=>
  have q0:(eA != 0)=true:=bne_iff_ne.2 eA0
  clear eA0
  go_wp2_with fail
  refine (hka.out _ (Fr.refl _)).mono ?_
  rintro e w7 ⟨rfl,hf7⟩
  go_wp2_with fail
  go_ret
  exact ⟨rfl,(hfw4.trans hf46).trans hf7⟩
 subst eA0
 by_cases eB0:eB=0
 case neg=>
  have q0:(eB != 0)=true:=bne_iff_ne.2 eB0
  clear eB0
  go_wp2_with fail
  refine (hka.out _ (Fr.refl _)).mono ?_
  rintro e w7 ⟨rfl,hf7⟩
  go_wp2_with fail
  refine (hkb2.out _ hf7).mono ?_
  rintro e w8 ⟨rfl,hf8⟩
  go_wp2_with fail
  go_ret
  exact ⟨rfl,((hfw4.trans hf46).trans hf7).trans hf8⟩
 subst eB0
 go_wp2_with fail
 refine (hka.out _ (Fr.refl _)).mono ?_
 rintro e w7 ⟨rfl,hf7⟩
 go_wp2_with fail
 refine (hkb2.out _ hf7).mono ?_
 rintro e w8 ⟨rfl,hf8⟩
 have hf48:=hf46.trans (hf7.trans hf8)
 have hO1b:=hZ (hO1.out.fr (hf7.trans hf8))
 have hO2b:=hZ (hOb.out.fr (hf7.trans hf8))
 clear hka hkb2 hO1 hOb hf7 hf8
 go_upto_region 7 with (fail)
 obtain ⟨bd,hbd⟩:∃ b,b=(decide (valE P x=0) && !supS C x):=⟨_,rfl⟩
 replace hbd:=hZ hbd
 go_cut [59] from 49 to 59 (fun s59 wc=>s59=.bool bd∧Fr w8 wc)
 case first=>
  obtain ⟨t0,t1,t2,-⟩:=hTl.out w8 hf48
  obtain ⟨ex,hex⟩:∃ e,e=valE P x:=⟨_,rfl⟩
  rw [← hex] at hVc hbd hvE
  replace hex:=hZ hex
  by_cases e0:ex=0
  case neg=>
   have q0:(ex == 0)=false:=beq_eq_false_iff_ne.2 e0
   obtain rfl:bd=false:=by rw [hbd.out,decide_eq_false e0]; rfl
   clear e0
   go_wp2_with fail
   refine (hVc.out _ hf48).mono ?_
   rintro e w9 ⟨rfl,hf9⟩
   go_wp2_with fail
   go_meet
   case rel=>exact ⟨rfl,hf9⟩
  subst e0
  obtain ⟨v1,v2⟩:=hvE.out rfl
  have hsx:=hZ (fun W (hW:Fr w8 W)=>hsu.out x xa xc W (hf48.trans hW) (hx1.out W (hfw4.trans (hf48.trans hW))) v1 (rowE_fit v2))
  rw [← v1,← hxn.out] at hVc t0
  rw [← v1,← hxn.out] at hsx
  replace v1:=hZ v1
  replace v2:=hZ v2
  obtain ⟨sx,hsx2⟩:∃ s,s=supS C x:=⟨_,rfl⟩
  rw [← hsx2] at hsx hbd
  replace hsx2:=hZ hsx2
  obtain rfl:bd=!sx:=by rw [hbd.out]; rfl
  go_wp2_with fail
  refine (hVc.out _ hf48).mono ?_
  rintro e w9 ⟨rfl,hf9⟩
  replace t0:=hf9.keep t0
  replace t1:=hf9.keep t1
  replace t2:=hf9.keep t2
  go_wp2_with fail
  refine (hsx.out _ hf9).mono ?_
  rintro e w10 ⟨rfl,hf10⟩
  go_wp2_with fail
  go_meet
  case rel=>exact ⟨rfl,hf9.trans hf10⟩
 case rest=>
  obtain ⟨rfl,hf9⟩:=hcut
  obtain ⟨W9,rfl⟩:∃ W:World,W=wc:=⟨_,rfl⟩
  have hf49:=hf48.trans hf9
  have hO1c:=hZ (hO1b.out.fr hf9)
  have hO2c:=hZ (hO2b.out.fr hf9)
  clear hVc hO1b hO2b hf9 hf48 hf46
  have hsb0:∀ u,valE P u=0→sbegE 0 P [vA,u]=0:=fun u hu=>by
   unfold sbegE
   rw [if_neg (by simp)]
   show firstE [valE P vA,valE P u]=0
   rw [hvx.out vA hla.out heA.out.symm,hu]
   rfl
  go_upto_if 59 with (fail)
  go_cut [10,11] from 60 to 75 (fun s10 s11 wc=>Fr W9 wc)
  case first=>
   cases bd with
   | false=>
     go_wp2_with fail
     go_meet
     case rel=>exact Fr.refl _
   | true=>
     have hbd2:=hbd.out
     rw [eq_comm,Bool.and_eq_true,decide_eq_true_eq,Bool.not_eq_true'] at hbd2
     obtain ⟨k1,k2⟩:=hbd2
     obtain ⟨t0,t1,t2,tc⟩:=hTl.out W9 hf49
     have h9:=hch.out vA x (some ⟨ga,0,none⟩) xa ca xc W9 hf49 hO1c.out.el (hx1.out W9 (hfw4.trans hf49)) (by rw [hla.out]; omega) (by rw [← hxn.out]; omega)
     rw [hsb0 x k1,hsA.out,k2,hla.out,← hxn.out] at h9
     unfold chE at h9
     rw [if_neg (by decide),if_neg (by decide),if_pos rfl] at h9
     replace h9:=hZ h9
     clear k1 k2
     go_wp2_with fail
     refine h9.out.mono ?_
     rintro e w10 ⟨hf10,he,-⟩
     obtain rfl:=he (by decide)
     go_wp2_with fail
     go_meet
     case rel=>exact hf10
  case rest=>
   obtain ⟨W10,rfl⟩:∃ W:World,W=wc:=⟨_,rfl⟩
   have hf410:=hf49.trans hcut
   have hO1d:=hZ (hO1c.out.fr hcut)
   have hO2d:=hZ (hO2c.out.fr hcut)
   have hL9:=hZ (hch.out vA vB (some ⟨ga,0,none⟩) (some ⟨gb,0,none⟩) ca cb W10 hf410 hO1d.out.el hO2d.out.el (by rw [hla.out]; omega) (by rw [hlb.out]; omega))
   have hsbz:=hsb0 vB (hvx.out vB hlb.out heB.out.symm)
   rw [hsbz,hsA.out,hsB.out,hla.out,hlb.out] at hL9
   unfold chE at hL9
   rw [if_neg (by decide),if_neg (by decide),if_neg (by decide)] at hL9
   clear hsb0 hsbz hch hvx hvE hO1c hO2c
   obtain ⟨t0,t1,t2,tc⟩:=hTl.out W10 hf410
   by_cases k0:cnt < 0
   ·have d0:decide (cnt < 0)=true:=decide_eq_true k0
    rw [if_pos k0] at hL9
    clear k0
    go_wp2_with fail
    refine hL9.out.mono ?_
    rintro e w11 ⟨hf11,he,-⟩
    obtain rfl:=he (by decide)
    replace tc:=hf11.keep tc
    go_wp2_with fail
    go_ret
    exact ⟨rfl,(hfw4.trans hf410).trans hf11⟩
   have d0:decide (cnt < 0)=false:=decide_eq_false k0
   rw [if_neg k0] at hL9
   by_cases k1:40 < cnt
   ·have d1:decide (40 < cnt)=true:=decide_eq_true k1
    rw [if_pos k1] at hL9
    clear k0 k1
    go_wp2_with fail
    refine hL9.out.mono ?_
    rintro e w11 ⟨hf11,he,-⟩
    obtain rfl:=he (by decide)
    replace tc:=hf11.keep tc
    go_wp2_with fail
    go_ret
    exact ⟨rfl,(hfw4.trans hf410).trans hf11⟩
   have d1:decide (40 < cnt)=false:=decide_eq_false k1
   rw [if_neg k1] at hL9
   obtain ⟨K,rfl⟩:∃ K:Nat,cnt=K:=⟨cnt.toNat,by omega⟩
   have hK40:K≤40:=by omega
   rw [Int.toNat_natCast] at hL9
   clear k0 k1
   obtain ⟨KK,hKK⟩:∃ q,q=K - 2:=⟨_,rfl⟩
   rw [← hKK] at hL9
   replace hKK:=hZ hKK
   go_upto_region 11 with (fail)
   go_wp2_with fail
   refine hL9.out.mono ?_
   rintro e w11 ⟨hf11,-,hno,hyes⟩
   obtain ⟨la,ln,lcc,er,rfl,hnone,hsome⟩:∃ (la:Option Addr) (ln lcc:Nat) (er:Int),e=.returned (.tuple #[.slice la ln lcc,.int .i64 er])∧(chL vA vB KK=none→ln=0∧er=4)∧∀ l,chL vA vB KK=some l→ln=K∧er=0∧MatIs w11 la (l.take K):=by
    cases hc:chL vA vB KK with
    | none=>exact ⟨none,0,0,4,hno rfl hc,fun _=>⟨rfl,rfl⟩,fun l h=>(by cases h)⟩
    | some l=>
      obtain ⟨a,c,he,hm⟩:=hyes rfl l hc
      rw [Int.toNat_natCast] at he hm
      exact ⟨a,K,c,0,he,fun h=>(by cases h),fun l' h=>(by injection h with h; subst h; exact ⟨rfl,rfl,hm⟩)⟩
   clear hno hyes hL9
   replace hnone:=hZ hnone
   replace hsome:=hZ hsome
   have hf411:=hf410.trans hf11
   have hGI:=GI.two (c1:=ca) (c2:=cb) (gN_le (hG4.out w11 hf411)) (Nat.le_refl _) (hO1d.out.fr hf11) (hO2d.out.fr hf11) hab.out
   rw [hla.out,hlb.out] at hGI
   obtain ⟨w12,hw12⟩:∃ w12,w12=w11.alloc (.cells #[.slice (some ⟨ga,0,none⟩) n ca,.slice (some ⟨gb,0,none⟩) n cb] 33):=⟨_,rfl⟩
   rw [← hw12] at hGI
   have hf12:Fr w11 w12:=by rw [hw12]; exact (Fr.refl _).alloc _
   have hgb11:=hZ (gN_le (hG4.out w11 hf411))
   have hGw:=hZ (fun W (hW:Fr w11 W)=>hG4.out W (hf411.trans hW))
   have hcs:=hZ (@chL_some n vA vB hla.out hlb.out heA.out.symm heB.out.symm)
   have hsu2:=hZ (hcl.out vA vB hla.out hlb.out heA.out.symm heB.out.symm hsA.out hsB.out)
   have hTl2:=hZ (fun W (hW:Fr w11 W)=>hTl.out W (hf411.trans hW))
   replace hGI:=hZ hGI
   obtain ⟨t0,t1,t2,tc⟩:=hTl2.out w11 (Fr.refl _)
   clear hO1d hO2d hcl hTl
   go_upto_region 14 with (fail)
   go_wp2_with fail
   rw [← hw12]
   clear hw12
   go_loopg [14] KK (fun k s14 wr=>∃ (j:Nat) (l:List (List Int)) (hs:List (Nat×Nat×Nat)),j+k=KK∧Hid (chL vA vB j=some l)∧Fr w11 wr∧Hid (GI wr w11.heap.size 33 s14 hs l))
   case atStart=>exact ⟨0,[vA,vB],_,by omega,rfl,hf12,hGI.out⟩
   case round=>
    clear hGI
    obtain ⟨j,l,hs,hjk,hcl,hf,hgi⟩:=hrel
    obtain ⟨hll,hlr⟩:=hcs.out j l hcl.out
    have hlr9:=hlr
    replace hlr:=hZ hlr
    obtain ⟨lb,lc,hv9⟩:∃ g c,u14=.slice (some ⟨g,0,none⟩) l.length c:=ownsRow_pos hgi.out.own (by omega)
    subst hv9
    have hcap:=(ownsRow_some hgi.out.own).2.2.2.1
    have hma:=hgi.out.mat
    obtain ⟨N,hN⟩:∃ N,N=l.length:=⟨_,rfl⟩
    rw [← hN] at hgi hcap ⊢
    have hN2:N=j+2:=by omega
    replace hma:=hZ hma
    obtain ⟨wo,rfl⟩:∃ wo:World,wo=wr:=⟨_,rfl⟩
    have tc:=(hTl2.out wo hf).2.2.2
    clear t0 t1 t2
    by_cases hlt:j < KK
    ·have d2:decide ((N:Int) < (K:Int))=true:=decide_eq_true (by have:=hKK.out; omega)
     have d3:decide (N < K)=true:=decide_eq_true (by have:=hKK.out; omega)
     obtain ⟨ab,ao,xa2,xc2,hae,hac,hxe⟩:=hma.out.at (i:=j) (by omega)
     obtain ⟨bb,bo,ya,yc,hbe,hbc,hye⟩:=hma.out.at (i:=j+1) (by omega)
     injection hae with hae
     injection hae with q1 q2
     subst q1
     subst q2
     injection hbe with hbe
     injection hbe with q1 q2
     subst q1
     subst q2
     obtain ⟨r1,r2⟩:=hlr9 _ (List.getElem_mem (show j < l.length by omega))
     obtain ⟨r3,r4⟩:=hlr9 _ (List.getElem_mem (show j+1 < l.length by omega))
     rw [r1,Nat.zero_add] at hac
     rw [r3,Nat.zero_add] at hbc
     have hadd:=hZ (fun W (hW:Fr wo W)=>Add_two l[j] l[j+1] n xa2 ya xc2 yc W (hGw.out W (hf.trans hW)) (hxe.fr hW) (hye.fr hW) r1 r3 r2 r4 hn1 (by omega))
     have hsum:Hid (chL vA vB (j+1)=if rowE (addS l[j] l[j+1])=0 then some (l ++ [addS l[j] l[j+1]]) else none):=by
      show _=_
      rw [chL,hcl.out,Option.bind_some,List.getElem?_eq_getElem (show j < l.length by omega),List.getElem?_eq_getElem (show j+1 < l.length by omega)]
      rfl
     have hsl:(addS l[j] l[j+1]).length=n:=addS_len r1 r3
     generalize addS l[j] l[j+1]=sm at *
     obtain ⟨J1,hJ1⟩:∃ J1,J1=j+1:=⟨_,rfl⟩
     rw [← hJ1] at hbc
     have z1:(N:Int) - 2=(j:Int):=by omega
     have z2:(N:Int) - 1=(J1:Int):=by omega
     have z3:(0:Int)≤(j:Int):=by omega
     have z4:(j:Int) < (N:Int):=by omega
     have z5:(0:Int)≤(J1:Int):=by omega
     have z6:(J1:Int) < (N:Int):=by omega
     have hNb:N≤42:=by have:=hKK.out; omega
     have hw1:IntKind.i64.wrap (j:Int)=(j:Int):=IntWalk.i64_in _ (by omega)
     have hw2:IntKind.i64.wrap (J1:Int)=(J1:Int):=IntWalk.i64_in _ (by omega)
     have hS0:=hZ (fun W' (hW':Fr wo W')=>(⟨hW'.keep hac,hW'.keep hbc⟩:W'.cell? ⟨lb,j,none⟩=some (.slice xa2 n xc2)∧W'.cell? ⟨lb,J1,none⟩=some (.slice ya n yc)))
     replace hN:=hZ hN
     replace hN2:=hZ hN2
     replace hJ1:=hZ hJ1
     replace hxe:=hZ hxe
     replace hye:=hZ hye
     replace r1:=hZ r1
     replace r3:=hZ r3
     replace r2:=hZ r2
     replace r4:=hZ r4
     replace hsl:=hZ hsl
     clear hlr9
     by_cases e0:rowE sm=0
     ·have hs2:=hsum.out
      rw [if_pos e0] at hs2
      replace hsum:=hZ hs2
      replace e0:=hZ e0
      clear hs2
      go_wp2_with fail
      refine wp_region_U (S:=fun W'=>W'.cell? ⟨lb,j,none⟩=some (.slice xa2 n xc2)∧W'.cell? ⟨lb,J1,none⟩=some (.slice ya n yc)) 17 (by kernel_rfl) (hS0.out _ ((Fr.refl _).drew)) (fun hHeld=>?_)
      refine uK 0 ?_
      refine uK 1 ?_
      refine uK 2 ?_
      refine uK 3 ?_
      refine uK 4 ?_
      refine uK 5 ?_
      refine uK 6 ?_
      refine uK 7 ?_
      refine uK 8 ?_
      refine uK 9 ?_
      refine uK 10 ?_
      refine uK 11 ?_
      refine uC 12 (fun K hK=>?_)
      go_simp
      (refine (hadd.out _ (by exact fr9)).mono ?_; rintro e w6 ⟨hf6,hok,hno⟩; obtain ⟨g,c,rfl,hownN⟩:=hok e0.out; clear hok hno; replace hownN:=hZ hownN)
      go_wp2_with fail
      refine hK.out _ _ (hS0.out _ (by exact fr9)) (fun hHeld=>?_)
      clear hK K
      refine uK 13 ?_
      refine uK 14 ?_
      refine uK 15 ?_
      refine uK 16 ?_
      clear hHeld
      refine uL 17 (fun K hK=>?_)
      go_simp
      refine hK.out _ _ ?_
      clear hK K
      have hf9:Fr wo w6:=by exact fr9
      have hs6:wo.heap.size≤w6.heap.size:=hf9.size
      have hgg2:=hgi.out.fr hf9
      have hown3:=hgg2.own
      rw [← hN.out] at hown3
      obtain ⟨hON,-,-,hbN,-⟩:=ownsRow_ownI (Nat.le_trans hgb11.out (Nat.le_trans hf.size (Nat.le_refl _))) hownN.out
      have hgl:lb < wo.heap.size:=(hgi.out.own.lt lb rfl).2
      have hdz:wo.drew.heap.size=wo.heap.size:=rfl
      have hne9:(Value.slice (some ⟨lb,0,none⟩) N lc).ownBlock≠some g:=fun e=>by injection e with e; have e:lb=g:=e; omega
      have hne8:∀ h',h' ∈ hs→h'.1≠g:=fun h' hm e2=>by have h9:=hgi.out.lt h' hm; omega
      have hs7:w11.heap.size≤w6.heap.size:=Nat.le_trans hf.size hs6
      replace hgg2:=hZ hgg2
      replace hON:=hZ hON
      clear hdz hownN tc
      go_wp2_with (at_builtin; refine wpList_append_lies _ rfl _ _ 26 (by rfl) _ 33 _ _ 1 24 Tryz.underlying26 ji jz0 jz1 jz2 rfl (by decide) _ N _ (by rfl) (World.ownsRow.alloc hown3 _) ⟨w6.heap.size,0,none⟩ 1 1 [.slice (some ⟨g,0,none⟩) sm.length c] (by rfl) rfl (cell_one_newN _ _ _ _ (by simp)) (by simp [Value.oneCell']) (by decide) (by unfold maxLen; omega) (by omega) (by skip; simp; omega) (w6.heap.size+1) (by simp) ?_; intro gA capA wA hownA hgrowA hatA hltA)
      have hpush:=(hgg2.out.fr ((Fr.refl _).alloc _)).pushN (hd:=(g,0,c)) (hON.out.fr ((Fr.refl _).alloc _)) hne8 hne9 hN.out.symm (by unfold hdr; rfl) hownA hgrowA (hatA.imp id (fun e=>by rw [e]; simp))
      have hfrA:Fr w11 wA:=((hf.trans hf9).alloc _).grown hgrowA (fun k e=>(hgg2.out.own.lt k e).1)
      go_wp2_with fail
      go_roundg (gk - 1)
      case measure=>omega
      case rel=>exact ⟨j+1,l ++ [sm],_,by omega,hsum.out,hfrA,hpush⟩
     ·have e4:=rowE_four e0
      have hs2:=hsum.out
      rw [if_neg e0] at hs2
      have hLn:chL vA vB KK=none:=by
       have:=chL_none hs2 (KK - (j+1))
       rw [Nat.add_sub_cancel' (by omega)] at this
       exact this
      obtain ⟨rfl,rfl⟩:=hnone.out hLn
      have e9:=hZ e0
      clear e0 hs2 hLn
      go_wp2_with fail
      refine wp_region_U (S:=fun W'=>W'.cell? ⟨lb,j,none⟩=some (.slice xa2 n xc2)∧W'.cell? ⟨lb,J1,none⟩=some (.slice ya n yc)) 17 (by kernel_rfl) (hS0.out _ ((Fr.refl _).drew)) (fun hHeld=>?_)
      refine uK 0 ?_
      refine uK 1 ?_
      refine uK 2 ?_
      refine uK 3 ?_
      refine uK 4 ?_
      refine uK 5 ?_
      refine uK 6 ?_
      refine uK 7 ?_
      refine uK 8 ?_
      refine uK 9 ?_
      refine uK 10 ?_
      refine uK 11 ?_
      refine uC 12 (fun K hK=>?_)
      go_simp
      (refine (hadd.out _ (by exact fr9)).mono ?_; rintro e w6 ⟨hf6,hok,hno⟩; obtain rfl:=hno e9.out; clear hok hno)
      go_wp2_with fail
      refine hK.out _ _ (hS0.out _ (by exact fr9)) (fun hHeld=>?_)
      clear hK K
      refine uK 13 ?_
      refine uK 14 ?_
      refine uK 15 ?_
      refine uK 16 ?_
      clear hHeld
      refine uL 17 (fun K hK=>?_)
      go_simp
      refine hK.out _ _ ?_
      clear hK K
      have hf9:Fr wo w6:=by exact fr9
      go_wp2_with fail
      go_ret
      exact ⟨rfl,((hfw4.trans hf411).trans hf).trans hf9⟩
    ·have d2:decide ((N:Int) < (K:Int))=false:=decide_eq_false (by have:=hKK.out; omega)
     have d3:decide (N < K)=false:=decide_eq_false (by have:=hKK.out; omega)
     obtain rfl:j=KK:=by omega
     have hNK:K≤N:=by have:=hKK.out; omega
     obtain ⟨rfl,rfl,hmL⟩:=hsome.out l hcl.out
     replace hmL:=hZ (hmL.fr hf)
     replace hN:=hZ hN
     replace hN2:=hZ hN2
     have hll2:=hZ hll
     have hs9:=hZ (hsu2.out _ l hcl.out)
     have hr9:=hZ hlr9
     have hT3:=hZ (fun W (hW:Fr wo W)=>hTl2.out W (hf.trans hW))
     have hsu3:=hZ (fun v va vc W (hW:Fr wo W)=>hsu.out v va vc W (hf411.trans (hf.trans hW)))
     have hend:=hZ ((hfw4.trans hf411).trans hf)
     clear hlr9 hll hgi hlr
     have q8:((ln:Int) != (ln:Int))=false:=by simp
     have hlN:ln≤l.length:=by rw [hll2.out]; have:=hKK.out; omega
     replace hlN:=hZ hlN
     clear hTl2 hsu2 hcs hGw hnone hsome hcl hjk hlt
     go_wp2_with fail
     go_loopg [17] ln (fun k s17 wr=>∃ i:Nat,s17=.int .i64 i∧i+k=ln∧Fr wo wr)
     case atStart=>exact ⟨0,rfl,by omega,Fr.refl _⟩
     case round=>
      obtain ⟨i,rfl,hik,hfi⟩:=hrel
      obtain ⟨wp,rfl⟩:∃ wp:World,wp=wr:=⟨_,rfl⟩
      clear tc
      by_cases hi:i < ln
      ·have f1:decide (i < ln)=true:=decide_eq_true hi
       have f2:decide ((i:Int) < (ln:Int))=true:=decide_eq_true (by omega)
       have hil:i < l.length:=by have:=hlN.out; omega
       obtain ⟨pb,po,pa,pc,rfl,hpc,hpe⟩:=(hmL.out.fr hfi).at (i:=i) (by rw [List.length_take]; omega)
       obtain ⟨qb,qo,pa2,pc2,hqe,hqc,hqq⟩:=(hma.out.fr hfi).at (i:=i) hil
       injection hqe with hqe
       injection hqe with q1 q2
       subst q1
       subst q2
       rw [List.getElem_take] at hpc hpe
       obtain ⟨r1,r2⟩:=hr9.out _ (List.getElem_mem hil)
       have r3:=hs9.out _ (List.getElem_mem hil)
       rw [r1] at hpc hqc
       rw [Nat.zero_add] at hqc
       generalize l[i]=r at *
       have heq:=hZ (fun W (hW:Fr wp W)=>EqRows_any r r pa pa2 pc pc2 W (hpe.fr hW) (hqq.fr hW) (by omega) (by omega))
       have hsp:=hZ (fun W (hW:Fr wp W)=>hsu3.out r pa pc W (hfi.trans hW) (hpe.fr hW) r1 (rowE_fit r2))
       rw [r1,decide_eq_true rfl] at heq
       rw [r3] at hsp
       obtain ⟨t0,t1,t2,-⟩:=hT3.out wp hfi
       have hS0:=hZ (fun W' (hW':Fr wp W')=>(⟨hW'.keep hpc,hW'.keep hqc,hW'.keep t0,hW'.keep t1,hW'.keep t2⟩:W'.cell? ⟨pb,po+i,none⟩=some (.slice pa n pc)∧W'.cell? ⟨lb,i,none⟩=some (.slice pa2 n pc2)∧W'.cell? ⟨tb,0,none⟩=some (.slice aP n cP)∧W'.cell? ⟨tb,1,none⟩=some (.slice aC nC cC)∧W'.cell? ⟨tb,2,none⟩=some (.slice aM nM cM)))
       have z1:(0:Int)≤(i:Int):=Int.natCast_nonneg _
       have z2:(i:Int) < (ln:Int):=by omega
       have z3:(i:Int) < (N:Int):=by omega
       have hw3:IntKind.i64.wrap (i:Int)=(i:Int):=IntWalk.i64_in _ (by omega)
       clear hpc hqc t0 t1 t2 r1 r2 r3 hpe hqq hil
       go_wp2_with fail
       refine wp_region_U (S:=fun W'=>W'.cell? ⟨pb,po+i,none⟩=some (.slice pa n pc)∧W'.cell? ⟨lb,i,none⟩=some (.slice pa2 n pc2)∧W'.cell? ⟨tb,0,none⟩=some (.slice aP n cP)∧W'.cell? ⟨tb,1,none⟩=some (.slice aC nC cC)∧W'.cell? ⟨tb,2,none⟩=some (.slice aM nM cM)) 18 (by kernel_rfl) (hS0.out _ ((Fr.refl _).drew)) (fun hHeld=>?_)
       refine uV 0 152 [2,3,8,10] ?_; try simp only [lsT,ls0,lsS]
       refine uV 1 153 [2,3,8,10] ?_; try simp only [lsT,ls0,lsS]
       refine uV 2 154 [3,8,10] ?_; try simp only [lsT,ls0,lsS]
       refine uV 3 155 [8,10] ?_; try simp only [lsT,ls0,lsS]
       refine uV 4 156 [6,7,8,10] ?_; try simp only [lsT,ls0,lsS]
       refine uV 5 157 [6,7,8,10] ?_; try simp only [lsT,ls0,lsS]
       refine uV 6 158 [7,8,10] ?_; try simp only [lsT,ls0,lsS]
       refine uV 7 159 [8,10] ?_; try simp only [lsT,ls0,lsS]
       refine uC 8 (fun K hK=>?_)
       go_simp
       (refine (heq.out _ (by exact fr9)).mono ?_; rintro e w6 ⟨rfl,hf6⟩)
       go_wp2_with fail
       refine hK.out _ _ (hS0.out _ (by exact fr9)) (fun hHeld=>?_)
       clear hK K
       refine uV 9 161 [10] ?_; try simp only [lsT,ls0,lsS]
       refine uV 10 162 [] ?_; try simp only [lsT,ls0,lsS]
       refine uV 11 163 [16,17] ?_; try simp only [lsT,ls0,lsS]
       refine uV 12 164 [14,15,16,17] ?_; try simp only [lsT,ls0,lsS]
       refine uV 13 165 [14,15,16,17] ?_; try simp only [lsT,ls0,lsS]
       refine uV 14 166 [15,16,17] ?_; try simp only [lsT,ls0,lsS]
       refine uV 15 167 [16,17] ?_; try simp only [lsT,ls0,lsS]
       refine uC 16 (fun K hK=>?_)
       go_simp
       (refine (hsp.out _ (by exact fr9)).mono ?_; rintro e w7 ⟨rfl,hf7⟩)
       go_wp2_with fail
       refine hK.out _ _ (hS0.out _ (by exact fr9)) (fun hHeld=>?_)
       clear hK K
       refine uV 17 169 [] ?_; try simp only [lsT,ls0,lsS]
       clear hHeld
       refine uL 18 (fun K hK=>?_)
       go_simp
       refine hK.out _ _ ?_
       clear hK K
       have hf9:Fr wp w7:=by exact fr9
       go_wp2_with fail
       go_roundg (gk - 1)
       case measure=>omega
       case rel=>exact ⟨i+1,by go_num,by omega,hfi.trans hf9⟩
      ·have f1:decide (i < ln)=false:=decide_eq_false hi
       have f2:decide ((i:Int) < (ln:Int))=false:=decide_eq_false (by omega)
       go_wp2_with fail
       go_ret
       exact ⟨rfl,hend.out.trans hfi⟩
end Go.Proofs.YtiniigadkknboaaGreatDoor
