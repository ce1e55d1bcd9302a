/- Contracts and laws: VLI. -/
import Derived.Test.YtmalpgbbddkdcaaGreatDoorVSP
import Derived.Test.YtmalpgbbddkdcaaGreatDoorVMK

set_option maxRecDepth 100000
set_option maxHeartbeats 6000000
namespace Go.Proofs.YtmalpgbbddkdcaaGreatDoor
open Go.RowKit Go.Lib
attribute [local go_sem ↓] Go.wp_at_zero Go.wp_at_succ
theorem rowE_of_fit {x:List Int} (hl:x.length≤64) (h:x.all fitB=true):rowE x=0 :=
 rowE_ok (by omega) (List.any_eq_false.2 fun y hy=>by rw [List.all_eq_true.1 h y hy]; simp)
theorem temE_fit {P:List Int} {M:List (List Int)} {x:List Int} (h:temE P M x=0):(temL M x).all fitB=true:=by
 unfold temE at h
 split at h
 ·exact absurd h (by decide)
 ·split at h
  ·exact absurd h (by assumption)
  ·split at h
   ·exact absurd h (by decide)
   ·split at h
    ·assumption
    ·exact absurd h (by decide)
theorem SpellingIntervals_any (two:Bool) (nn na r0 r1 r2 r3 r4 r5 r6 r7 r8 r9 r10 r11 r12 r13 np:Int) (qa:Option Addr) (QL:List (List Int)) (qc:Nat) (vals:Bool) (xa:Option Addr) (x:List Int) (xc:Nat) (most:Int) (w:World) (hG:G w) (hE:ErX w) (hnn:0≤nn∧nn≤255) (hna:0≤na∧na≤255) (hr:∀ x,x ∈ [r0,r1,r2,r3,r4,r5,r6,r7,r8,r9,r10,r11,r12,r13]→fits8 x) (hnp:0≤np∧np≤255) (hQ:QuadIs w qa QL) (hQ8:Quad8 QL) (hX:El w iv xa x) :
 Calls Tryz.prog 6 #[.agg #[.bool two,.int .u8 nn,.int .u8 na,.int .i8 r0,.int .i8 r1,.int .i8 r2,.int .i8 r3,.int .i8 r4,.int .i8 r5,.int .i8 r6,.int .i8 r7,.int .i8 r8,.int .i8 r9,.int .i8 r10,.int .i8 r11,.int .i8 r12,.int .i8 r13],.agg #[.int .u8 np,.slice qa QL.length qc,.bool vals],.agg #[.slice xa x.length xc,.int .i64 most]] w fun e w'=>e=.returned (.bool true)∧Fr w w':=by
 have hmk18:=fun W (hW:Fr w W) (h3:QL.length≤3)=>Make18_any np qa QL qc vals W (hG.fr hW) (hE.fr hW) hnp (hQ.fr hW) hQ8 h3
 obtain ⟨q,hq⟩:∃ q,q=QL.length:=⟨_,rfl⟩
 obtain ⟨nx,hnx⟩:∃ nx,nx=x.length:=⟨_,rfl⟩
 rw [← hq] at hmk18 ⊢
 rw [← hnx]
 replace hq:=hZ hq
 replace hnx:=hZ hnx
 replace hmk18:=hZ hmk18
 replace hX:=hZ hX
 obtain ⟨wb,hwb⟩:∃ wb,wb=alls w [(.cells #[.bool two,.int .u8 nn,.int .u8 na,.int .i8 r0,.int .i8 r1,.int .i8 r2,.int .i8 r3,.int .i8 r4,.int .i8 r5,.int .i8 r6,.int .i8 r7,.int .i8 r8,.int .i8 r9,.int .i8 r10,.int .i8 r11,.int .i8 r12,.int .i8 r13] 67),(.cells #[.int .u8 np,.slice qa q qc,.bool vals] 55),(.cells #[.slice xa nx xc,.int .i64 most] 69)]:=⟨_,rfl⟩
 have hfb:Fr w wb:=by rw [hwb]; exact alls_fr _ w
 have g0:wb.heap[w.heap.size]?=some (.cells #[.bool two,.int .u8 nn,.int .u8 na,.int .i8 r0,.int .i8 r1,.int .i8 r2,.int .i8 r3,.int .i8 r4,.int .i8 r5,.int .i8 r6,.int .i8 r7,.int .i8 r8,.int .i8 r9,.int .i8 r10,.int .i8 r11,.int .i8 r12,.int .i8 r13] 67 (0,0)):=by rw [hwb]; exact alls_get _ w 0 _ rfl
 have g1:wb.heap[w.heap.size+1]?=some (.cells #[.int .u8 np,.slice qa q qc,.bool vals] 55 (0,0)):=by rw [hwb]; exact alls_get _ w 1 _ rfl
 have g2:wb.heap[w.heap.size+1+1]?=some (.cells #[.slice xa nx xc,.int .i64 most] 69 (0,0)):=by rw [hwb]; exact alls_get _ w 2 _ rfl
 have p0:wb.cell? ⟨w.heap.size,0,none⟩=some (.bool two):=cells_of g0 0
 have p1:wb.cell? ⟨w.heap.size,1,none⟩=some (.int .u8 nn):=cells_of g0 1
 have p2:wb.cell? ⟨w.heap.size,2,none⟩=some (.int .u8 na):=cells_of g0 2
 have p3:wb.cell? ⟨w.heap.size,3,none⟩=some (.int .i8 r0):=cells_of g0 3
 have p4:wb.cell? ⟨w.heap.size,4,none⟩=some (.int .i8 r1):=cells_of g0 4
 have p5:wb.cell? ⟨w.heap.size,5,none⟩=some (.int .i8 r2):=cells_of g0 5
 have p6:wb.cell? ⟨w.heap.size,6,none⟩=some (.int .i8 r3):=cells_of g0 6
 have p7:wb.cell? ⟨w.heap.size,7,none⟩=some (.int .i8 r4):=cells_of g0 7
 have p8:wb.cell? ⟨w.heap.size,8,none⟩=some (.int .i8 r5):=cells_of g0 8
 have p9:wb.cell? ⟨w.heap.size,9,none⟩=some (.int .i8 r6):=cells_of g0 9
 have p10:wb.cell? ⟨w.heap.size,10,none⟩=some (.int .i8 r7):=cells_of g0 10
 have p11:wb.cell? ⟨w.heap.size,11,none⟩=some (.int .i8 r8):=cells_of g0 11
 have p12:wb.cell? ⟨w.heap.size,12,none⟩=some (.int .i8 r9):=cells_of g0 12
 have p13:wb.cell? ⟨w.heap.size,13,none⟩=some (.int .i8 r10):=cells_of g0 13
 have p14:wb.cell? ⟨w.heap.size,14,none⟩=some (.int .i8 r11):=cells_of g0 14
 have p15:wb.cell? ⟨w.heap.size,15,none⟩=some (.int .i8 r12):=cells_of g0 15
 have p16:wb.cell? ⟨w.heap.size,16,none⟩=some (.int .i8 r13):=cells_of g0 16
 have y0:wb.cell? ⟨w.heap.size+1,0,none⟩=some (.int .u8 np):=cells_of g1 0
 have y1:wb.cell? ⟨w.heap.size+1,1,none⟩=some (.slice qa q qc):=cells_of g1 1
 have y2:wb.cell? ⟨w.heap.size+1,2,none⟩=some (.bool vals):=cells_of g1 2
 have z0:wb.cell? ⟨w.heap.size+1+1,0,none⟩=some (.slice xa nx xc):=cells_of g2 0
 have z1:wb.cell? ⟨w.heap.size+1+1,1,none⟩=some (.int .i64 most):=cells_of g2 1
 have hmk:=hZ (Plan_any two nn na r0 r1 r2 r3 r4 r5 r6 r7 r8 r9 r10 r11 r12 r13 wb hnn hna hr)
 have hkn:=hZ (fun W (hW:Fr w W)=>known_any W (hG.fr hW))
 clear g0 g1 g2 hr hQ hQ8 hE hnp
 replace hfb:=hZ hfb
 go_enter Tryz.func6,Tryz.ntmps6
 go_upto_region 1 with (fail)
 change Code.wp _ _ _ _ (alls w [(.cells #[.bool two,.int .u8 nn,.int .u8 na,.int .i8 r0,.int .i8 r1,.int .i8 r2,.int .i8 r3,.int .i8 r4,.int .i8 r5,.int .i8 r6,.int .i8 r7,.int .i8 r8,.int .i8 r9,.int .i8 r10,.int .i8 r11,.int .i8 r12,.int .i8 r13] 67),(.cells #[.int .u8 np,.slice qa q qc,.bool vals] 55),(.cells #[.slice xa nx xc,.int .i64 most] 69)])
 rw [← hwb]
 clear hwb
 obtain ⟨pb,hpb⟩:∃ pb,pb=w.heap.size+1:=⟨_,rfl⟩
 obtain ⟨qb,hqb⟩:∃ qb,qb=w.heap.size+1+1:=⟨_,rfl⟩
 rw [← hqb] at z0 z1 ⊢
 rw [← hpb] at y0 y1 y2 ⊢
 replace hpb:=hZ hpb
 replace hqb:=hZ hqb
 go_wp2_with fail
 refine hmk.out.mono ?_
 rintro e w2 ⟨aN,aA,cN,cA,N,A,d,rfl,hn,hok,hf2⟩
 replace y0:=hf2.keep y0
 replace y1:=hf2.keep y1
 replace y2:=hf2.keep y2
 replace z0:=hf2.keep z0
 replace z1:=hf2.keep z1
 clear p0 p1 p2 p3 p4 p5 p6 p7 p8 p9 p10 p11 p12 p13 p14 p15 p16 hmk hnn hna
 obtain ⟨nb,no,s0,hae,-,hs0,-,hs2,-⟩:=hn.noms.at hok.n1
 subst hae
 have hs0l:=hok.ok.row s0 (List.mem_append_left _ (List.mem_of_getElem? hs0))
 rw [hs0l,Nat.zero_mul,Nat.add_zero] at hs2
 obtain ⟨nN,hnN⟩:∃ nN,nN=N.length:=⟨_,rfl⟩
 obtain ⟨nA,hnA⟩:∃ nA,nA=A.length:=⟨_,rfl⟩
 have hN1:=hok.n1
 have hN4:=hok.n4
 have hA3:=hok.a3
 have hd2:=hok.d2
 rw [← hnN] at hN1 hN4
 rw [← hnA] at hA3
 rw [← hnN,← hnA]
 replace hnN:=hZ hnN
 replace hnA:=hZ hnA
 clear hs0 hs0l
 go_upto_region 2 with (fail)
 obtain ⟨w3,hw3⟩:∃ w3,w3=w2.alloc (.cells #[.slice (some ⟨nb,no,none⟩) nN cN,.slice aA nA cA] 72):=⟨_,rfl⟩
 have hf3:Fr w2 w3:=by rw [hw3]; exact (Fr.refl _).alloc _
 have n0:w3.cell? ⟨w2.heap.size,0,none⟩=some (.slice (some ⟨nb,no,none⟩) nN cN):=by rw [hw3]; exact (new2a _ _ _ _).1
 have n1:w3.cell? ⟨w2.heap.size,1,none⟩=some (.slice aA nA cA):=by rw [hw3]; exact (new2b _ _ _ _).1
 rw [← hw3]
 clear hw3
 obtain ⟨nb2,hnb2⟩:∃ nb2,nb2=w2.heap.size:=⟨_,rfl⟩
 rw [← hnb2] at n0 n1 ⊢
 replace hnb2:=hZ hnb2
 replace hs2:=hf3.keep hs2
 replace y0:=hf3.keep y0
 replace y1:=hf3.keep y1
 replace y2:=hf3.keep y2
 replace z0:=hf3.keep z0
 replace z1:=hf3.keep z1
 replace hn:=hZ (hn.fr hf3)
 have hfw:=hZ ((hfb.out.trans hf2).trans hf3)
 clear hf2 hf3 hfb
 replace hkn:=hZ (fun W (hW:Fr w3 W)=>hkn.out W (hfw.out.trans hW))
 have hsm:=hZ (fun W=>small_law (some ⟨nb,no,none⟩) aA cN cA nN nA most W hN4 hA3)
 have hft:=hZ (fun W=>Fits18_any np vals qa q qc W)
 by_cases h3:q≤3
 ·rw [decide_eq_true h3] at hft
  by_cases h6:6 < nx
  ·have d6:decide ((6:Int) < (nx:Int))=true:=decide_eq_true (by omega)
   clear h3
   go_wp2_with fail
   refine (hkn.out _ (Fr.refl _)).mono ?_
   rintro e w4 ⟨rfl,hf4⟩
   replace n0:=hf4.keep n0
   replace n1:=hf4.keep n1
   replace y0:=hf4.keep y0
   replace y1:=hf4.keep y1
   replace y2:=hf4.keep y2
   replace z0:=hf4.keep z0
   replace z1:=hf4.keep z1
   replace hs2:=hf4.keep hs2
   go_wp2_with fail
   refine (hft.out _).mono ?_
   rintro e w5 ⟨rfl,hf5⟩
   replace n0:=hf5.keep n0
   replace n1:=hf5.keep n1
   replace y0:=hf5.keep y0
   replace y1:=hf5.keep y1
   replace y2:=hf5.keep y2
   replace z0:=hf5.keep z0
   replace z1:=hf5.keep z1
   replace hs2:=hf5.keep hs2
   have hf35:=hf4.trans hf5
   go_wp2_with fail
   refine (hkn.out _ hf35).mono ?_
   rintro e w6 ⟨rfl,hf6⟩
   go_wp2_with fail
   go_ret
   exact ⟨rfl,(hfw.out.trans hf35).trans hf6⟩
  ·have d6:decide ((6:Int) < (nx:Int))=false:=decide_eq_false (by omega)
   by_cases hs:smallB nN nA most=true
   ·rw [hs] at hsm
    have hx6:x.length≤1000000:=by rw [← hnx.out]; omega
    replace hmk18:=hZ (fun W hW=>hmk18.out W hW h3)
    clear h3 h6
    go_wp2_with fail
    refine (hkn.out _ (Fr.refl _)).mono ?_
    rintro e w4 ⟨rfl,hf4⟩
    replace n0:=hf4.keep n0
    replace n1:=hf4.keep n1
    replace y0:=hf4.keep y0
    replace y1:=hf4.keep y1
    replace y2:=hf4.keep y2
    replace z0:=hf4.keep z0
    replace z1:=hf4.keep z1
    replace hs2:=hf4.keep hs2
    go_wp2_with fail
    refine (hft.out _).mono ?_
    rintro e w5 ⟨rfl,hf5⟩
    replace n0:=hf5.keep n0
    replace n1:=hf5.keep n1
    replace y0:=hf5.keep y0
    replace y1:=hf5.keep y1
    replace y2:=hf5.keep y2
    replace z0:=hf5.keep z0
    replace z1:=hf5.keep z1
    replace hs2:=hf5.keep hs2
    have hf35:=hf4.trans hf5
    go_wp2_with fail
    refine (hsm.out _).mono ?_
    rintro e w6 ⟨rfl,hf6⟩
    replace n0:=hf6.keep n0
    replace n1:=hf6.keep n1
    replace y0:=hf6.keep y0
    replace y1:=hf6.keep y1
    replace y2:=hf6.keep y2
    replace z0:=hf6.keep z0
    replace z1:=hf6.keep z1
    replace hs2:=hf6.keep hs2
    replace hf35:=hf35.trans hf6
    clear hf4 hf5 hf6
    go_wp2_with fail
    refine (hmk18.out _ (hfw.out.trans hf35)).mono ?_
    rintro e wt ⟨P,C,M,aP,aC,aM,cP,cC,cM,rfl,hP,hC,hM,hcC,hT,hft6⟩
    have hint:=fun W (hW:Fr wt W)=>Interval_any d (some ⟨nb,no,none⟩) aA cN cA N A P C M x aP aC aM xa cP cC cM xc most W (hn.out.fr ((hf35.trans hft6).trans hW)) hok.ok hok.d1 (hG.fr ((hfw.out.trans (hf35.trans hft6)).trans hW)) (hP.fr hW) (hC.fr hW) (hM.fr hW) hcC hT (hX.out.fr ((hfw.out.trans (hf35.trans hft6)).trans hW)) hx6 (fun hb=>by rw [← hnN.out,← hnA.out] at hb; have:=small_le hs hb; omega)
    have htm:=fun W (hW:Fr wt W)=>Temper_any P C M x aP aC aM xa cP cC cM xc W (hG.fr ((hfw.out.trans (hf35.trans hft6)).trans hW)) (hP.fr hW) (hC.fr hW) (hM.fr hW) hcC hT (hX.out.fr ((hfw.out.trans (hf35.trans hft6)).trans hW)) hx6
    have hM4:M.length≤64:=by
     rcases hT with ⟨-,-,rfl⟩ | hT
     ·simp
     ·have:=hT.tabM.1; omega
    have hBd:=fun W=>boundR_any (some ⟨nb,no,none⟩) aA cN cA nN nA most W (by omega) (by omega)
    obtain ⟨R,hR⟩:∃ R,R=temL M x:=⟨_,rfl⟩
    have hRl:R.length=M.length:=by rw [hR,temL_len]
    have hRf:temE P M x=0→rowE R=0∧∀ y,y ∈ R→fitB y=true:=fun h=>by
     have h1:=temE_fit h
     rw [← hR] at h1
     exact ⟨rowE_of_fit (by omega) h1,fun y hy=>List.all_eq_true.1 h1 y hy⟩
    unfold intE allE9 at hint
    rw [← hR] at hint htm
    obtain ⟨T,hT9⟩:∃ T,T=temE P M x:=⟨_,rfl⟩
    obtain ⟨E2,hE2⟩:∃ E2,E2=boundE nN nA most:=⟨_,rfl⟩
    obtain ⟨nP,hnP⟩:∃ nP,nP=P.length:=⟨_,rfl⟩
    obtain ⟨nC,hnC⟩:∃ nC,nC=C.length:=⟨_,rfl⟩
    obtain ⟨nM,hnM⟩:∃ nM,nM=M.length:=⟨_,rfl⟩
    rw [← hT9,← hnN.out,← hnA.out,← hE2,← hnP,← hnC,← hnM,← hnx.out,hRl,← hnM] at hint
    rw [← hT9,← hnP,← hnC,← hnM,← hnx.out] at htm
    rw [← hT9] at hRf
    rw [← hE2] at hBd
    rw [← hnM] at hRl hM4
    rw [← hnP,← hnC,← hnM]
    replace hT9:=hZ hT9
    replace hR:=hZ hR
    replace hRl:=hZ hRl
    replace hRf:=hZ hRf
    replace hE2:=hZ hE2
    replace hnP:=hZ hnP
    replace hnC:=hZ hnC
    replace hnM:=hZ hnM
    replace hint:=hZ hint
    replace htm:=hZ htm
    replace hBd:=hZ hBd
    obtain ⟨w6,hw6⟩:∃ w6,w6=wt.alloc (.cells #[.slice aP nP cP,.slice aC nC cC,.slice aM nM cM] 31):=⟨_,rfl⟩
    have hf6:Fr wt w6:=by rw [hw6]; exact (Fr.refl _).alloc _
    have g3:w6.heap[wt.heap.size]?=some (.cells #[.slice aP nP cP,.slice aC nC cC,.slice aM nM cM] 31 (0,0)):=by rw [hw6]; exact heap_alloc_new wt _
    have t0:w6.cell? ⟨wt.heap.size,0,none⟩=some (.slice aP nP cP):=cells_of g3 0
    have t1:w6.cell? ⟨wt.heap.size,1,none⟩=some (.slice aC nC cC):=cells_of g3 1
    have t2:w6.cell? ⟨wt.heap.size,2,none⟩=some (.slice aM nM cM):=cells_of g3 2
    clear g3
    go_upto_region 5 with (fail)
    rw [← hw6]
    clear hw6
    obtain ⟨tb,htb⟩:∃ tb,tb=wt.heap.size:=⟨_,rfl⟩
    rw [← htb] at t0 t1 t2 ⊢
    replace htb:=hZ htb
    replace n0:=(hft6.trans hf6).keep n0
    replace n1:=(hft6.trans hf6).keep n1
    replace z0:=(hft6.trans hf6).keep z0
    replace z1:=(hft6.trans hf6).keep z1
    replace hs2:=(hft6.trans hf6).keep hs2
    replace hint:=hZ (fun W (hW:Fr w6 W)=>hint.out W (hf6.trans hW))
    replace htm:=hZ (fun W (hW:Fr w3 W) (hW6:Fr w6 W)=>htm.out W (hf6.trans hW6))
    have hf36:=(hf35.trans hft6).trans hf6
    clear hP hC hM hcC y0 y1 y2 hft6 hf35 hT hft hsm hkn hmk18
    clear hf6
    replace htm:=hZ (fun W (hW:Fr w6 W)=>htm.out W (hf36.trans hW) hW)
    by_cases eT:T=0
    ·rw [if_neg (by rw [eT]; simp)] at hint
     obtain ⟨hr0,hRf0⟩:=hRf.out eT
     rw [if_neg (by rw [hr0]; simp)] at hint
     replace hr0:=hZ hr0
     by_cases ed:nM=d
     ·rw [if_neg (by rw [ed]; simp)] at hint
      have qd:((nM:Int) != (d:Int))=false:=by rw [ed]; simp
      by_cases e2:E2=0
      ·have hm0:=bound_nn (hE2.out.symm.trans e2)
       have hm1:=small_le hs (hE2.out.symm.trans e2)
       obtain ⟨m,rfl⟩:∃ m:Nat,most=m:=⟨most.toNat,by omega⟩
       rw [Int.toNat_natCast] at hint
       have hbx:=boundE_size (by omega) (hE2.out.symm.trans e2)
       have hP1:(2 * m+1) ^ nA≤20000:=by
        have:1 * (2 * m+1) ^ nA≤nN * (2 * m+1) ^ nA:=Nat.mul_le_mul_right _ hN1
        omega
       have hin:=fun W ra rc (hW:Fr w3 W) (hRe:El W iv ra R)=>ints_any R ra rc W (hG.fr (hfw.out.trans hW)) hRe (by rw [hRl.out]; omega) (fun y hy=>by have:=fitB_bd (hRf0 y hy); omega)
       have hal:=fun W (hW:Fr w3 W) r9 c9 (h9:El W sv r9 R)=>all_law d (some ⟨nb,no,none⟩) aA cN cA N A R r9 c9 m W (hG.fr (hfw.out.trans hW)) (hn.out.fr hW) hok.ok h9 (by rw [hRl.out]; omega) (by omega) (by rw [← hnA.out]; omega) (by rw [← hnN.out,← hnA.out]; omega)
       have hLm:∀ s,s ∈ allL N A R m→s.2.length=nA:=fun s hs=>by
        unfold allL at hs
        have h1:=(sortS_perm _).mem_iff.1 hs
        rw [hnA.out]
        exact (boxL_mem (List.mem_filter.1 h1).1).2.1
       change ∀ W,Fr w3 W→∀ r9 c9,El W sv r9 R→Calls _ _ _ W (AllRet W (allL N A R m)) at hal
       obtain ⟨L,hL⟩:∃ L,L=allL N A R m:=⟨_,rfl⟩
       rw [← hL] at hint hal hLm
       rw [← hnN.out,← hnA.out] at hal
       have q2:(E2 != 0)=false:=by rw [e2]; rfl
       have q2':(E2 == 0)=true:=by rw [e2]; rfl
       subst eT
       have eT:Hid ((0:Int)=0):=rfl
       replace e2:=hZ e2
       replace ed:=hZ ed
       replace hin:=hZ hin
       replace hal:=hZ hal
       replace hLm:=hZ hLm
       replace hL:=hZ hL
       replace hint:=hZ hint
       replace hRf0:=hZ hRf0
       clear hbx hP1
       go_wp2_with fail
       refine (hint.out.out _ (Fr.refl _)).mono ?_
       rintro e w7 ⟨-,h7,h8,hf7⟩
       replace h7:=h7 e2.out
       replace h8:=h8 e2.out
       by_cases hL0:L=[]
       ·obtain rfl:=h7 hL0
        clear h7 h8
        replace hL0:=hZ hL0
        obtain ⟨w8,hw8⟩:∃ w8,w8=w7.alloc (.cells #[.int .i64 0,.slice none 0 0] 76):=⟨_,rfl⟩
        have hf8:Fr w7 w8:=by rw [hw8]; exact (Fr.refl _).alloc _
        have s0:w8.cell? ⟨w7.heap.size,0,none⟩=some (.int .i64 0):=by rw [hw8]; exact (new2a _ _ _ _).1
        have s1:w8.cell? ⟨w7.heap.size,1,none⟩=some (.slice none 0 0):=by rw [hw8]; exact (new2b _ _ _ _).1
        go_upto_region 6 with (fail)
        rw [← hw8]
        clear hw8
        obtain ⟨sb,hsb⟩:∃ sb,sb=w7.heap.size:=⟨_,rfl⟩
        rw [← hsb] at s0 s1 ⊢
        replace hsb:=hZ hsb
        have hf78:=hf7.trans hf8
        replace n0:=hf78.keep n0
        replace n1:=hf78.keep n1
        replace t0:=hf78.keep t0
        replace t1:=hf78.keep t1
        replace t2:=hf78.keep t2
        replace z0:=hf78.keep z0
        replace z1:=hf78.keep z1
        replace hs2:=hf78.keep hs2
        replace hf36:=hf36.trans hf78
        go_wp2_with fail
        refine (htm.out _ hf78).mono ?_
        rintro e w9 ⟨hr1,hr2,hf9⟩
        replace n0:=hf9.keep n0
        replace n1:=hf9.keep n1
        replace t2:=hf9.keep t2
        replace z1:=hf9.keep z1
        replace hs2:=hf9.keep hs2
        replace s0:=hf9.keep s0
        replace s1:=hf9.keep s1
        have hf89:=hf8.trans hf9
        replace hf36:=hf36.trans hf9
        clear hf7 hf8 hf78 hf9 t0 t1 z0
        obtain ⟨ra,rc,rfl,hel⟩:=hr1 rfl
        replace hel:=hZ hel
        clear hr1 hr2
        go_wp2_with fail
        go_quiet (fail)
        go_wp2_with fail
        refine (hBd.out _).mono ?_
        rintro e w10 ⟨rfl,hf10d⟩
        have hf10:=((Fr.refl w9).drewN _).trans hf10d
        clear hf10d
        replace z1:=hf10.keep z1
        replace n0:=hf10.keep n0
        replace n1:=hf10.keep n1
        replace s0:=hf10.keep s0
        replace s1:=hf10.keep s1
        replace hf89:=hf89.trans hf10
        replace hf36:=hf36.trans hf10
        have hin8:=hZ (fun W (hW:Fr w10 W)=>hin.out W ra rc (hf36.trans hW) ((hel.out.fr hf10).fr hW))
        have hal8:=hZ (fun W (hW:Fr w10 W)=>hal.out W (hf36.trans hW))
        clear hf10
        go_upto_region 13 with (fail)
        go_region_held3 (fun w'=>w'.cell? ⟨nb2,0,none⟩=some (.slice (some ⟨nb,no,none⟩) nN cN)∧w'.cell? ⟨nb2,1,none⟩=some (.slice aA nA cA)∧w'.cell? ⟨qb,1,none⟩=some (.int .i64 m))
         (first | go_keep | (go_split_ands; refine ⟨?_, ?_, ?_⟩ <;> (refine Fr.keep (by assumption) ?_; assumption)))
         (first
          | (go_at_call 34; (with_reducible refine (hin8.out _ ?_).mono ?_); (exact fr9); rintro e w11 ⟨a11,c11,rfl,he11,hc11,hf11⟩; replace he11:=hZ he11)
          | (go_at_call 33; have hz11:Fr w10 w11:=(by exact fr9); (with_reducible refine (hal8.out _ hz11 _ _ he11.out).mono ?_); rintro e w12 ⟨a12,c12,xs,rfl,hown12,hx12,hf12⟩; replace hown12:=hZ hown12; replace hx12:=hZ hx12))
        all_goals
         have hf13:Fr w10 w12:=hz11.trans hf12
         replace s0:=hf13.keep s0
         replace s1:=hf13.keep s1
         have hxnL:=hZ (show xs.length=L.length by rw [← hx12.out,List.length_map])
         have hx0:decide (0 < xs.length)=false:=decide_eq_false (by have h9:xs.length=0:=(by have h:=hxnL.out; rw [hL0.out] at h; exact h); omega)
         go_wp2_with fail
         refine wp_region_held_drew (S:=fun W=>W.cell? ⟨sb,0,none⟩=some (.int .i64 0)∧W.cell? ⟨sb,1,none⟩=some (.slice none 0 0)) (by kernel_rfl) ⟨(Fr.refl w12).drew.keep s0,(Fr.refl w12).drew.keep s1⟩ (fun hHeld=>?_)
         refine hK 0 ?_
         change wpAnyH _ _ _ _ _ _ _ (Act.put _ (some 104) _) _
         simp only [Act.put,lsT,ls0,lsS]
         refine hK 1 ?_
         change wpAnyH _ _ _ _ _ _ _ (Act.put _ (some 105) _) _
         simp only [Act.put,lsT,ls0,lsS]
         refine hK 2 ?_
         change wpAnyH _ _ _ _ _ _ _ (Act.put _ (some 106) _) _
         simp only [Act.put,lsT,ls0,lsS]
         refine hK 3 ?_
         change wpAnyH _ _ _ _ _ _ _ (Act.put _ (some 107) _) _
         simp only [Act.put,lsT,ls0,lsS]
         refine hK 4 ?_
         change wpAnyH _ _ _ _ _ _ _ (Act.put _ (some 108) _) _
         simp only [Act.put,lsT,ls0,lsS]
         refine hC 5 (fun K hK=>?_)
         go_simp
         (refine (equal_zero _).mono ?_; rintro e w14 ⟨rfl,hf15⟩)
         go_wp2_with fail
         refine hK.out _ _ (⟨((Fr.refl w12).drew.trans hf15).keep s0,((Fr.refl w12).drew.trans hf15).keep s1⟩) (fun hHeld=>?_)
         clear hK K
         refine hK 6 ?_
         change wpAnyH _ _ _ _ _ _ _ (Act.put _ (some 110) _) _
         simp only [Act.put,lsT,ls0,lsS]
         refine hK 7 ?_
         change wpAnyH _ _ _ _ _ _ _ (Act.put _ (some 111) _) _
         simp only [Act.put,lsT,ls0,lsS]
         refine hN 8 ?_
         change wpAnyH _ _ _ _ _ _ _ (Act.put _ (some 112) _) _
         simp only [Act.put,lsT,ls0,lsS]
         refine hN 9 ?_
         change wpAnyH _ _ _ _ _ _ _ (Act.put _ (some 113) _) _
         simp only [Act.put,lsT,ls0,lsS]
         refine hN 10 ?_
         change wpAnyH _ _ _ _ _ _ _ (Act.put _ (some 114) _) _
         simp only [Act.put,lsT,ls0,lsS]
         refine hN 11 ?_
         change wpAnyH _ _ _ _ _ _ _ (Act.put _ (some 115) _) _
         simp only [Act.put,lsT,ls0,lsS]
         refine hN 12 ?_
         change wpAnyH _ _ _ _ _ _ _ (Act.put _ (some 116) _) _
         simp only [Act.put,lsT,ls0,lsS]
         refine hN 13 ?_
         change wpAnyH _ _ _ _ _ _ _ (Act.put _ (some 117) _) _
         simp only [Act.put,lsT,ls0,lsS]
         refine hN 14 ?_
         change wpAnyH _ _ _ _ _ _ _ (Act.put _ (some 118) _) _
         simp only [Act.put,lsT,ls0,lsS]
         refine hN 15 ?_
         change wpAnyH _ _ _ _ _ _ _ (Act.put _ (some 119) _) _
         simp only [Act.put,lsT,ls0,lsS]
         refine hK 16 ?_
         change wpAnyH _ _ _ _ _ _ _ (Act.put _ (some 120) _) _
         simp only [Act.put,lsT,ls0,lsS]
         refine hK 17 ?_
         change wpAnyH _ _ _ _ _ _ _ (Act.put _ (some 6) _) _
         simp only [Act.put,lsT,ls0,lsS]
         refine wpAnyH_done (by kernel_rfl) ?_ _
         have hfz:=hZ (show Fr w10 w14 from hf13.trans ((Fr.refl w12).drew.trans hf15))
         go_wp2_with fail
         go_ret
         exact ⟨rfl,(hfw.out.trans hf36).trans hfz.out⟩
       ·obtain ⟨s,Rs,hLs⟩:∃ s Rs,L=s :: Rs:=by
         cases L with
         | nil=>exact absurd rfl hL0
         | cons s Rs=>exact ⟨s,Rs,rfl⟩
        obtain ⟨gs,cS,rfl,hels,-⟩:=h8 s Rs hLs
        obtain ⟨si,sc⟩:=s
        simp only at hels
        have hscl:sc.length=nA:=hLm.out (si,sc) (by rw [hLs]; exact List.mem_cons_self ..)
        obtain ⟨ns,hns⟩:∃ ns,ns=sc.length:=⟨_,rfl⟩
        simp only
        rw [← hns]
        replace hns:=hZ hns
        replace hels:=hZ hels
        replace hLs:=hZ hLs
        replace hscl:=hZ hscl
        clear h7 h8 hL0
        obtain ⟨w8,hw8⟩:∃ w8,w8=w7.alloc (.cells #[.int .i64 si,.slice (some ⟨gs,0,none⟩) ns cS] 76):=⟨_,rfl⟩
        have hf8:Fr w7 w8:=by rw [hw8]; exact (Fr.refl _).alloc _
        have s0:w8.cell? ⟨w7.heap.size,0,none⟩=some (.int .i64 si):=by rw [hw8]; exact (new2a _ _ _ _).1
        have s1:w8.cell? ⟨w7.heap.size,1,none⟩=some (.slice (some ⟨gs,0,none⟩) ns cS):=by rw [hw8]; exact (new2b _ _ _ _).1
        go_upto_region 6 with (fail)
        rw [← hw8]
        clear hw8
        obtain ⟨sb,hsb⟩:∃ sb,sb=w7.heap.size:=⟨_,rfl⟩
        rw [← hsb] at s0 s1 ⊢
        replace hsb:=hZ hsb
        have hf78:=hf7.trans hf8
        replace n0:=hf78.keep n0
        replace n1:=hf78.keep n1
        replace t0:=hf78.keep t0
        replace t1:=hf78.keep t1
        replace t2:=hf78.keep t2
        replace z0:=hf78.keep z0
        replace z1:=hf78.keep z1
        replace hs2:=hf78.keep hs2
        replace hf36:=hf36.trans hf78
        go_wp2_with fail
        refine (htm.out _ hf78).mono ?_
        rintro e w9 ⟨hr1,hr2,hf9⟩
        replace n0:=hf9.keep n0
        replace n1:=hf9.keep n1
        replace t2:=hf9.keep t2
        replace z1:=hf9.keep z1
        replace hs2:=hf9.keep hs2
        replace s0:=hf9.keep s0
        replace s1:=hf9.keep s1
        have hf89:=hf8.trans hf9
        replace hf36:=hf36.trans hf9
        clear hf7 hf8 hf78 hf9 t0 t1 z0
        obtain ⟨ra,rc,rfl,hel⟩:=hr1 rfl
        replace hel:=hZ hel
        clear hr1 hr2
        go_wp2_with fail
        go_quiet (fail)
        go_wp2_with fail
        refine (hBd.out _).mono ?_
        rintro e w10 ⟨rfl,hf10d⟩
        have hf10:=((Fr.refl w9).drewN _).trans hf10d
        clear hf10d
        replace z1:=hf10.keep z1
        replace n0:=hf10.keep n0
        replace n1:=hf10.keep n1
        replace s0:=hf10.keep s0
        replace s1:=hf10.keep s1
        replace hf89:=hf89.trans hf10
        replace hf36:=hf36.trans hf10
        have hin8:=hZ (fun W (hW:Fr w10 W)=>hin.out W ra rc (hf36.trans hW) ((hel.out.fr hf10).fr hW))
        have hal8:=hZ (fun W (hW:Fr w10 W)=>hal.out W (hf36.trans hW))
        clear hf10
        go_upto_region 13 with (fail)
        go_region_held3 (fun w'=>w'.cell? ⟨nb2,0,none⟩=some (.slice (some ⟨nb,no,none⟩) nN cN)∧w'.cell? ⟨nb2,1,none⟩=some (.slice aA nA cA)∧w'.cell? ⟨qb,1,none⟩=some (.int .i64 m))
         (first | go_keep | (go_split_ands; refine ⟨?_, ?_, ?_⟩ <;> (refine Fr.keep (by assumption) ?_; assumption)))
         (first
          | (go_at_call 34; (with_reducible refine (hin8.out _ ?_).mono ?_); (exact fr9); rintro e w11 ⟨a11,c11,rfl,he11,hc11,hf11⟩; replace he11:=hZ he11)
          | (go_at_call 33; have hz11:Fr w10 w11:=(by exact fr9); (with_reducible refine (hal8.out _ hz11 _ _ he11.out).mono ?_); rintro e w12 ⟨a12,c12,xs,rfl,hown12,hx12,hf12⟩; replace hown12:=hZ hown12; replace hx12:=hZ hx12))
        all_goals
         have hf13:Fr w10 w12:=hz11.trans hf12
         replace s0:=hf13.keep s0
         replace s1:=hf13.keep s1
         have hxnL:=hZ (show xs.length=L.length by rw [← hx12.out,List.length_map])
         have hx9:0 < xs.length:=by have h:=hxnL.out; rw [hLs.out] at h; rw [h]; simp
         have hx0:decide (0 < xs.length)=true:=decide_eq_true hx9
         have hx1:(0:Int) < (xs.length:Int):=by omega
         obtain ⟨b9,o9,y,hae,-,hy0,y0,y1,hye⟩:=hown12.out.bxs.at (i:=0) hx9
         subst hae
         simp only [Nat.zero_mul,Nat.add_zero] at y0 y1
         have hyL:stripX y=(si,sc):=by
          have h1:(xs.map stripX)[0]?=some (stripX y):=by rw [List.getElem?_map,hy0]; rfl
          rw [hx12.out,hLs.out] at h1
          exact (Option.some.inj h1).symm
         have hyi:y.i=si:=congrArg Prod.fst hyL
         have hyc2:y.cs=sc:=congrArg Prod.snd hyL
         rw [hyi] at y0
         rw [hyc2,← hns.out] at y1
         rw [hyc2] at hye
         have heq9:=fun W (hW:Fr w12 W)=>equalO_any si sc (some ⟨gs,0,none⟩) cS si sc (some ⟨y.g,0,none⟩) y.c W (hels.out.fr ((hf89.trans hf13).trans hW)) (hye.fr hW) (by rw [← hns.out,hns.out,hscl.out]; omega) (by rw [← hns.out,hns.out,hscl.out]; omega)
         rw [decide_eq_true (rfl:(si,sc)=(si,sc)),← hns.out] at heq9
         replace heq9:=hZ heq9
         replace hye:=hZ hye
         clear hy0 hyL hyi hyc2
         obtain ⟨yg,hyg⟩:∃ yg,yg=y.g:=⟨_,rfl⟩
         obtain ⟨yc,hyc3⟩:∃ yc,yc=y.c:=⟨_,rfl⟩
         rw [← hyg,← hyc3] at y1 heq9
         replace hyg:=hZ hyg
         replace hyc3:=hZ hyc3
         go_wp2_with fail
         refine wp_region_held_drew (S:=fun W=>W.cell? ⟨sb,0,none⟩=some (.int .i64 si)∧W.cell? ⟨sb,1,none⟩=some (.slice (some ⟨gs,0,none⟩) ns cS)∧W.cell? ⟨b9,o9,none⟩=some (.int .i64 si)∧W.cell? ⟨b9,o9+1,none⟩=some (.slice (some ⟨yg,0,none⟩) ns yc)) (by kernel_rfl) ⟨(Fr.refl w12).drew.keep s0,(Fr.refl w12).drew.keep s1,(Fr.refl w12).drew.keep y0,(Fr.refl w12).drew.keep y1⟩ (fun hHeld=>?_)
         refine hK 0 ?_
         change wpAnyH _ _ _ _ _ _ _ (Act.put _ (some 104) _) _
         simp only [Act.put,lsT,ls0,lsS]
         refine hK 1 ?_
         change wpAnyH _ _ _ _ _ _ _ (Act.put _ (some 105) _) _
         simp only [Act.put,lsT,ls0,lsS]
         refine hK 2 ?_
         change wpAnyH _ _ _ _ _ _ _ (Act.put _ (some 106) _) _
         simp only [Act.put,lsT,ls0,lsS]
         refine hN 3 ?_
         change wpAnyH _ _ _ _ _ _ _ (Act.put _ (some 107) _) _
         simp only [Act.put,lsT,ls0,lsS]
         refine hN 4 ?_
         change wpAnyH _ _ _ _ _ _ _ (Act.put _ (some 108) _) _
         simp only [Act.put,lsT,ls0,lsS]
         refine hN 5 ?_
         change wpAnyH _ _ _ _ _ _ _ (Act.put _ (some 109) _) _
         simp only [Act.put,lsT,ls0,lsS]
         refine hK 6 ?_
         change wpAnyH _ _ _ _ _ _ _ (Act.put _ (some 110) _) _
         simp only [Act.put,lsT,ls0,lsS]
         refine hK 7 ?_
         change wpAnyH _ _ _ _ _ _ _ (Act.put _ (some 111) _) _
         simp only [Act.put,lsT,ls0,lsS]
         refine hK 8 ?_
         change wpAnyH _ _ _ _ _ _ _ (Act.put _ (some 112) _) _
         simp only [Act.put,lsT,ls0,lsS]
         refine hK 9 ?_
         change wpAnyH _ _ _ _ _ _ _ (Act.put _ (some 113) _) _
         simp only [Act.put,lsT,ls0,lsS]
         refine hK 10 ?_
         change wpAnyH _ _ _ _ _ _ _ (Act.put _ (some 114) _) _
         simp only [Act.put,lsT,ls0,lsS]
         refine hK 11 ?_
         change wpAnyH _ _ _ _ _ _ _ (Act.put _ (some 115) _) _
         simp only [Act.put,lsT,ls0,lsS]
         refine hK 12 ?_
         change wpAnyH _ _ _ _ _ _ _ (Act.put _ (some 116) _) _
         simp only [Act.put,lsT,ls0,lsS]
         refine hK 13 ?_
         change wpAnyH _ _ _ _ _ _ _ (Act.put _ (some 117) _) _
         simp only [Act.put,lsT,ls0,lsS]
         refine hC 14 (fun K hK=>?_)
         go_simp
         (refine (heq9.out _ (Fr.refl w12).drew).mono ?_; rintro e w14 ⟨rfl,hf15⟩)
         go_wp2_with fail
         refine hK.out _ _ (⟨((Fr.refl w12).drew.trans hf15).keep s0,((Fr.refl w12).drew.trans hf15).keep s1,((Fr.refl w12).drew.trans hf15).keep y0,((Fr.refl w12).drew.trans hf15).keep y1⟩) (fun hHeld=>?_)
         clear hK K
         refine hK 15 ?_
         change wpAnyH _ _ _ _ _ _ _ (Act.put _ (some 119) _) _
         simp only [Act.put,lsT,ls0,lsS]
         refine hK 16 ?_
         change wpAnyH _ _ _ _ _ _ _ (Act.put _ (some 120) _) _
         simp only [Act.put,lsT,ls0,lsS]
         refine hK 17 ?_
         change wpAnyH _ _ _ _ _ _ _ (Act.put _ (some 6) _) _
         simp only [Act.put,lsT,ls0,lsS]
         refine wpAnyH_done (by kernel_rfl) ?_ _
         have hfz:=hZ (show Fr w10 w14 from hf13.trans ((Fr.refl w12).drew.trans hf15))
         go_wp2_with fail
         go_ret
         exact ⟨rfl,(hfw.out.trans hf36).trans hfz.out⟩
      ·have q2:(E2 != 0)=true:=bne_iff_ne.2 e2
       have q2':(E2 == 0)=false:=beq_false_of_ne e2
       subst eT
       have eT:Hid ((0:Int)=0):=rfl
       replace e2:=hZ e2
       replace ed:=hZ ed
       replace hint:=hZ hint
       replace hRf0:=hZ hRf0
       go_wp2_with fail
       refine (hint.out.out _ (Fr.refl _)).mono ?_
       rintro e w7 ⟨h7,-,-,hf7⟩
       obtain rfl:=h7 e2.out
       obtain ⟨w8,hw8⟩:∃ w8,w8=w7.alloc (.cells #[.int .i64 0,.slice none 0 0] 76):=⟨_,rfl⟩
       have hf8:Fr w7 w8:=by rw [hw8]; exact (Fr.refl _).alloc _
       have s0:w8.cell? ⟨w7.heap.size,0,none⟩=some (.int .i64 0):=by rw [hw8]; exact (new2a _ _ _ _).1
       have s1:w8.cell? ⟨w7.heap.size,1,none⟩=some (.slice none 0 0):=by rw [hw8]; exact (new2b _ _ _ _).1
       go_upto_region 6 with (fail)
       rw [← hw8]
       clear hw8
       obtain ⟨sb,hsb⟩:∃ sb,sb=w7.heap.size:=⟨_,rfl⟩
       rw [← hsb] at s0 s1 ⊢
       replace hsb:=hZ hsb
       have hf78:=hf7.trans hf8
       replace n0:=hf78.keep n0
       replace n1:=hf78.keep n1
       replace t0:=hf78.keep t0
       replace t1:=hf78.keep t1
       replace t2:=hf78.keep t2
       replace z0:=hf78.keep z0
       replace z1:=hf78.keep z1
       replace hs2:=hf78.keep hs2
       replace hf36:=hf36.trans hf78
       go_wp2_with fail
       refine (htm.out _ hf78).mono ?_
       rintro e w9 ⟨hr1,hr2,hf9⟩
       replace n0:=hf9.keep n0
       replace n1:=hf9.keep n1
       replace t2:=hf9.keep t2
       replace z1:=hf9.keep z1
       replace hs2:=hf9.keep hs2
       replace s0:=hf9.keep s0
       replace s1:=hf9.keep s1
       have hf89:=hf8.trans hf9
       replace hf36:=hf36.trans hf9
       clear hf7 hf8 hf78 hf9 t0 t1 z0
       obtain ⟨ra,rc,rfl,hel⟩:=hr1 rfl
       clear hr1 hr2 hel
       go_wp2_with fail
       go_quiet (fail)
       go_wp2_with fail
       refine (hBd.out _).mono ?_
       rintro e w10 ⟨rfl,hf10d⟩
       have hf10:=((Fr.refl w9).drewN _).trans hf10d
       clear hf10d
       replace s0:=hf10.keep s0
       replace s1:=hf10.keep s1
       replace hf36:=hf36.trans hf10
       go_wp2_with fail
       refine (equal_zero _).mono ?_
       rintro e w11 ⟨rfl,hf11⟩
       go_wp2_with fail
       go_ret
       exact ⟨rfl,(hfw.out.trans hf36).trans hf11⟩
     ·rw [if_pos ed] at hint
      have qd:((nM:Int) != (d:Int))=true:=bne_iff_ne.2 (by omega)
      subst eT
      have eT:Hid ((0:Int)=0):=rfl
      replace ed:=hZ ed
      replace hint:=hZ hint
      replace hRf0:=hZ hRf0
      go_wp2_with fail
      refine (hint.out.out _ (Fr.refl _)).mono ?_
      rintro e w7 ⟨h7,-,-,hf7⟩
      obtain rfl:=h7 (by decide)
      obtain ⟨w8,hw8⟩:∃ w8,w8=w7.alloc (.cells #[.int .i64 0,.slice none 0 0] 76):=⟨_,rfl⟩
      have hf8:Fr w7 w8:=by rw [hw8]; exact (Fr.refl _).alloc _
      have s0:w8.cell? ⟨w7.heap.size,0,none⟩=some (.int .i64 0):=by rw [hw8]; exact (new2a _ _ _ _).1
      have s1:w8.cell? ⟨w7.heap.size,1,none⟩=some (.slice none 0 0):=by rw [hw8]; exact (new2b _ _ _ _).1
      go_upto_region 6 with (fail)
      rw [← hw8]
      clear hw8
      obtain ⟨sb,hsb⟩:∃ sb,sb=w7.heap.size:=⟨_,rfl⟩
      rw [← hsb] at s0 s1 ⊢
      replace hsb:=hZ hsb
      have hf78:=hf7.trans hf8
      replace n0:=hf78.keep n0
      replace n1:=hf78.keep n1
      replace t0:=hf78.keep t0
      replace t1:=hf78.keep t1
      replace t2:=hf78.keep t2
      replace z0:=hf78.keep z0
      replace z1:=hf78.keep z1
      replace hs2:=hf78.keep hs2
      replace hf36:=hf36.trans hf78
      go_wp2_with fail
      refine (htm.out _ hf78).mono ?_
      rintro e w9 ⟨hr1,hr2,hf9⟩
      replace n0:=hf9.keep n0
      replace n1:=hf9.keep n1
      replace t2:=hf9.keep t2
      replace z1:=hf9.keep z1
      replace hs2:=hf9.keep hs2
      replace s0:=hf9.keep s0
      replace s1:=hf9.keep s1
      have hf89:=hf8.trans hf9
      replace hf36:=hf36.trans hf9
      clear hf7 hf8 hf78 hf9 t0 t1 z0
      obtain ⟨ra,rc,rfl,hel⟩:=hr1 rfl
      clear hr1 hr2 hel
      go_wp2_with fail
      go_quiet (fail)
      go_wp2_with fail
      refine (equal_zero _).mono ?_
      rintro e w11 ⟨rfl,hf11⟩
      go_wp2_with fail
      go_ret
      exact ⟨rfl,(hfw.out.trans hf36).trans (((Fr.refl w9).drewN _).trans hf11)⟩
    ·rw [if_pos eT] at hint
     have q1:(T == 0)=false:=beq_false_of_ne eT
     have q1':(T != 0)=true:=bne_iff_ne.2 eT
     replace eT:=hZ eT
     replace hint:=hZ hint
     go_wp2_with fail
     refine (hint.out.out _ (Fr.refl _)).mono ?_
     rintro e w7 ⟨h7,-,-,hf7⟩
     obtain rfl:=h7 eT.out
     obtain ⟨w8,hw8⟩:∃ w8,w8=w7.alloc (.cells #[.int .i64 0,.slice none 0 0] 76):=⟨_,rfl⟩
     have hf8:Fr w7 w8:=by rw [hw8]; exact (Fr.refl _).alloc _
     have s0:w8.cell? ⟨w7.heap.size,0,none⟩=some (.int .i64 0):=by rw [hw8]; exact (new2a _ _ _ _).1
     have s1:w8.cell? ⟨w7.heap.size,1,none⟩=some (.slice none 0 0):=by rw [hw8]; exact (new2b _ _ _ _).1
     go_upto_region 6 with (fail)
     rw [← hw8]
     clear hw8
     obtain ⟨sb,hsb⟩:∃ sb,sb=w7.heap.size:=⟨_,rfl⟩
     rw [← hsb] at s0 s1 ⊢
     replace hsb:=hZ hsb
     have hf78:=hf7.trans hf8
     replace n0:=hf78.keep n0
     replace n1:=hf78.keep n1
     replace t0:=hf78.keep t0
     replace t1:=hf78.keep t1
     replace t2:=hf78.keep t2
     replace z0:=hf78.keep z0
     replace z1:=hf78.keep z1
     replace hs2:=hf78.keep hs2
     replace hf36:=hf36.trans hf78
     go_wp2_with fail
     refine (htm.out _ hf78).mono ?_
     rintro e w9 ⟨hr1,hr2,hf9⟩
     replace n0:=hf9.keep n0
     replace n1:=hf9.keep n1
     replace t2:=hf9.keep t2
     replace z1:=hf9.keep z1
     replace hs2:=hf9.keep hs2
     replace s0:=hf9.keep s0
     replace s1:=hf9.keep s1
     have hf89:=hf8.trans hf9
     replace hf36:=hf36.trans hf9
     clear hf7 hf8 hf78 hf9 t0 t1 z0
     obtain rfl:=hr2 eT.out
     clear hr1 hr2
     go_wp2_with fail
     go_quiet (fail)
     go_wp2_with fail
     refine (equal_zero _).mono ?_
     rintro e w11 ⟨rfl,hf11⟩
     go_wp2_with fail
     go_ret
     exact ⟨rfl,(hfw.out.trans hf36).trans (((Fr.refl w9).drewN _).trans hf11)⟩
   ·have hs:smallB nN nA most=false:=by simpa using hs
    rw [hs] at hsm
    replace hs:=hZ hs
    clear h3 h6
    go_wp2_with fail
    refine (hkn.out _ (Fr.refl _)).mono ?_
    rintro e w4 ⟨rfl,hf4⟩
    replace n0:=hf4.keep n0
    replace n1:=hf4.keep n1
    replace y0:=hf4.keep y0
    replace y1:=hf4.keep y1
    replace y2:=hf4.keep y2
    replace z0:=hf4.keep z0
    replace z1:=hf4.keep z1
    replace hs2:=hf4.keep hs2
    go_wp2_with fail
    refine (hft.out _).mono ?_
    rintro e w5 ⟨rfl,hf5⟩
    replace n0:=hf5.keep n0
    replace n1:=hf5.keep n1
    replace y0:=hf5.keep y0
    replace y1:=hf5.keep y1
    replace y2:=hf5.keep y2
    replace z0:=hf5.keep z0
    replace z1:=hf5.keep z1
    replace hs2:=hf5.keep hs2
    have hf35:=hf4.trans hf5
    go_wp2_with fail
    refine (hsm.out _).mono ?_
    rintro e w6 ⟨rfl,hf6⟩
    go_wp2_with fail
    refine (hkn.out _ (hf35.trans hf6)).mono ?_
    rintro e w7 ⟨rfl,hf7⟩
    go_wp2_with fail
    go_ret
    exact ⟨rfl,((hfw.out.trans hf35).trans hf6).trans hf7⟩
 ·rw [decide_eq_false h3] at hft
  clear h3
  go_wp2_with fail
  refine (hkn.out _ (Fr.refl _)).mono ?_
  rintro e w4 ⟨rfl,hf4⟩
  replace n0:=hf4.keep n0
  replace n1:=hf4.keep n1
  replace y0:=hf4.keep y0
  replace y1:=hf4.keep y1
  replace y2:=hf4.keep y2
  replace z0:=hf4.keep z0
  replace z1:=hf4.keep z1
  replace hs2:=hf4.keep hs2
  go_wp2_with fail
  refine (hft.out _).mono ?_
  rintro e w5 ⟨rfl,hf5⟩
  replace n0:=hf5.keep n0
  replace n1:=hf5.keep n1
  replace y0:=hf5.keep y0
  replace y1:=hf5.keep y1
  replace y2:=hf5.keep y2
  replace z0:=hf5.keep z0
  replace z1:=hf5.keep z1
  replace hs2:=hf5.keep hs2
  have hf35:=hf4.trans hf5
  go_wp2_with fail
  refine (hkn.out _ hf35).mono ?_
  rintro e w6 ⟨rfl,hf6⟩
  go_wp2_with fail
  go_ret
  exact ⟨rfl,(hfw.out.trans hf35).trans hf6⟩
end Go.Proofs.YtmalpgbbddkdcaaGreatDoor
