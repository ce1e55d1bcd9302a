/- Contracts and laws: VSP. -/
import Derived.Test.YtmalpgbbddkdcaaGreatDoorVLL
import Derived.Test.YtmalpgbbddkdcaaGreatDoorVSI
import Derived.Test.YtmalpgbbddkdcaaGreatDoorVSJ
import Derived.Test.YtmalpgbbddkdcaaGreatDoorVTT
import Derived.Test.YtmalpgbbddkdcaaGreatDoorVD

set_option maxRecDepth 100000
set_option maxHeartbeats 1000000
namespace Go.Proofs.YtmalpgbbddkdcaaGreatDoor
open Go.RowKit Go.Lib
attribute [local go_sem ↓] Go.wp_at_zero Go.wp_at_succ
structure PlanOk (d:Nat) (N A:List Sy):Prop where
 ok:NotOk d N A
 n4:N.length≤4
 n1:1≤N.length
 a3:A.length≤3
 d1:1≤d
 d2:d≤2
def PlanRet (w:World) (e:Ending) (w':World):Prop:=∃ aN aA cN cA N A d,e=.returned (.agg #[.slice aN N.length cN,.slice aA A.length cA])∧NotIs w' aN aA cA N A∧PlanOk d N A∧Fr w w'
theorem Plan_any (two:Bool) (nn na r0 r1 r2 r3 r4 r5 r6 r7 r8 r9 r10 r11 r12 r13:Int) (w:World) (hnn:0≤nn∧nn≤255) (hna:0≤na∧na≤255) (hr:∀ x,x ∈ [r0,r1,r2,r3,r4,r5,r6,r7,r8,r9,r10,r11,r12,r13]→fits8 x) :
 Calls Tryz.prog 26 #[.agg #[.bool two,.int .u8 nn,.int .u8 na,.int .i8 r0,.int .i8 r1,.int .i8 r2,.int .i8 r3,.int .i8 r4,.int .i8 r5,.int .i8 r6,.int .i8 r7,.int .i8 r8,.int .i8 r9,.int .i8 r10,.int .i8 r11,.int .i8 r12,.int .i8 r13]] w (PlanRet w):=by
 refine (Make_any two nn na r0 r1 r2 r3 r4 r5 r6 r7 r8 r9 r10 r11 r12 r13 w hnn hna hr).mono ?_
 rintro e w2 ⟨aN,aA,cN,cA,N,A,rfl,hn,hN,hA,hf2⟩
 have hok:=(plan_ok two [r0,r1,r2,r3,r4,r5,r6,r7,r8,r9,r10,r11,r12,r13] (1+nn % 4).toNat (4+na % 4).toNat (by omega) (by omega) (by omega)).ok hN hA
 have hNl:N.length≤4:=by have:=congrArg List.length hN; rw [List.length_map,symsMk_length] at this; omega
 have hAl:A.length≤3:=by have:=congrArg List.length hA; rw [List.length_map,symsMk_length] at this; omega
 have hd1:1≤dMk two∧dMk two≤2:=by unfold dMk; cases two <;> decide
 exact ⟨aN,aA,cN,cA,N,A,dMk two,rfl,hn,⟨hok,hNl,hok.n1,hAl,hd1.1,hd1.2⟩,hf2⟩
theorem small_le {n a:Nat} {most:Int} (h:smallB n a most=true) (hb:boundE n a most=0):most≤10:=by
 unfold smallB at h
 by_cases h1:10 < most
 ·rw [if_pos h1,hb] at h; simp at h
 ·omega
theorem bound_nn {n a:Nat} {most:Int} (hb:boundE n a most=0):0≤most:=by
 unfold boundE at hb
 by_cases h1:most < 0
 ·rw [if_pos h1] at hb; omega
 ·omega
def SimpRet (w:World) (L:List (Nat×List Int)) (err:Int) (e:Ending) (w':World):Prop :=
 (err≠0→e=.returned (.tuple #[.agg #[.int .i64 0,.slice none 0 0],.bool false,.int .i64 err]))∧(err=0→L=[]→e=.returned (.tuple #[.agg #[.int .i64 0,.slice none 0 0],.bool false,.int .i64 0])) ∧
 (err=0→∀ s R,L=s :: R→∃ g c,e=.returned (.tuple #[.agg #[.int .i64 s.1,.slice (some ⟨g,0,none⟩) s.2.length c],.bool true,.int .i64 0])∧El w' iv (some ⟨g,0,none⟩) s.2∧w.heap.size≤g)∧Fr w w'
theorem Simplest_any (d:Nat) (aN aA:Option Addr) (cN cA:Nat) (N A:List Sy) (R:List Int) (ra:Option Addr) (rc:Nat) (most:Int) (w:World) (hn:NotIs w aN aA cA N A) (hok:NotOk d N A) (hd:1≤d) (hR:El w iv ra R) (hRl:R.length≤1000000) (hm:boundE N.length A.length most=0→most≤20000) :
 Calls Tryz.prog 69 #[.agg #[.slice aN N.length cN,.slice aA A.length cA],.slice ra R.length rc,.int .i64 most] w (SimpRet w (allL N A R most.toNat) (allE9 d N.length A.length R most)):=by
 have hal:=fun W (hW:Fr w W)=>All_any d aN aA cN cA N A R ra rc most W (hn.fr hW) hok hd (hR.fr hW) hRl hm
 obtain ⟨err,herr⟩:∃ err,err=allE9 d N.length A.length R most:=⟨_,rfl⟩
 obtain ⟨L,hL⟩:∃ L,L=allL N A R most.toNat:=⟨_,rfl⟩
 rw [← herr,← hL] at hal
 rw [← herr,← hL]
 generalize N.length=nN at *
 generalize A.length=nA at *
 generalize R.length=nR at *
 clear herr hL hn hok hR hm
 obtain ⟨wb,hwb⟩:∃ wb,wb=alls w [(.cells #[.slice aN nN cN,.slice aA nA cA] 72),(.cells #[.int .i64 0,.slice none 0 0] 76)]:=⟨_,rfl⟩
 have hfb:Fr w wb:=by rw [hwb]; exact alls_fr _ w
 have g0:wb.heap[w.heap.size]?=some (.cells #[.slice aN nN cN,.slice aA nA cA] 72 (0,0)):=by rw [hwb]; exact alls_get _ w 0 _ rfl
 have g1:wb.heap[w.heap.size+1]?=some (.cells #[.int .i64 0,.slice none 0 0] 76 (0,0)):=by rw [hwb]; exact alls_get _ w 1 _ rfl
 have hsb:=hZ (show wb.heap.size=w.heap.size+1+1 by rw [hwb]; simp [alls])
 have b0:wb.cell? ⟨w.heap.size,0,none⟩=some (.slice aN nN cN):=cells_of g0 0
 have b1:wb.cell? ⟨w.heap.size,1,none⟩=some (.slice aA nA cA):=cells_of g0 1
 have q4:wb.cell? ⟨w.heap.size+1,0,none⟩=some (.int .i64 0):=cells_of g1 0
 have q5:wb.cell? ⟨w.heap.size+1,1,none⟩=some (.slice none 0 0):=cells_of g1 1
 have q6:wb.frozen? ⟨w.heap.size+1,0,none⟩=false:=by unfold World.frozen?; rw [g1]; rfl
 have q7:wb.frozen? ⟨w.heap.size+1,1,none⟩=false:=by unfold World.frozen?; rw [g1]; rfl
 clear g0 g1
 replace hal:=hZ (hal wb hfb)
 by_cases he:err=0
 ·have d1:(err != 0)=false:=by rw [he]; rfl
  replace he:=hZ he
  go_enter Tryz.func69,Tryz.ntmps69
  go_upto_region 1 with (fail)
  change Code.wp _ _ _ _ (alls w [(.cells #[.slice aN nN cN,.slice aA nA cA] 72),(.cells #[.int .i64 0,.slice none 0 0] 76)])
  rw [← hwb]
  clear hwb
  go_wp2_with fail
  refine hal.out.mono ?_
  rintro e w2 ⟨h1,-,hf2⟩
  obtain ⟨a,c,xs,rfl,hown,hxs⟩:=h1 he.out
  replace q6:=hf2.keepf q4 q6
  replace q7:=hf2.keepf q5 q7
  replace q4:=hf2.keep q4
  replace q5:=hf2.keep q5
  clear h1 b0 b1
  cases xs with
  | nil=>
    have hLn:L=[]:=by rw [← hxs]; rfl
    have qs:=two_store w2 (w.heap.size+1) (.int .i64 0) (.slice none 0 0) _ _ q4 q5
    have q8:=qs.2.2.1
    have u0:=hZ qs.1
    have u1:=hZ qs.2.1
    have hfx:=hZ qs.2.2.2
    have hl0:([]:List BX).length=0:=rfl
    rw [hl0]
    clear qs
    replace hxs:=hZ hxs
    replace hLn:=hZ hLn
    replace hown:=hZ hown
    go_wp2_with fail
    have v0:=u0.out
    have v1:=u1.out
    refine bodyPost_ret (v:=.tuple #[.agg #[.int .i64 0,.slice none 0 0],.bool false,.int .i64 0]) (by simp [results,Tryz.results69,go_sem,v0,v1]) rfl ⟨fun h=>absurd he.out h,fun _ _=>rfl,fun _ s R e=>?_, ?_⟩
    ·rw [hLn.out] at e; cases e
    ·exact ((Fx.of_fr (p:=fun q=>q=w.heap.size+1) (hfb.trans hf2)).trans hfx.out).toFr (fun q hq e=>by have e:q=w.heap.size+1:=e; omega)
  | cons x xs=>
    obtain ⟨g,cap,hv⟩:=ownsRow_pos hown.own (by simp)
    injection hv with hv1 hv2 hv3
    subst hv1
    have hbx:=hown.bxs
    obtain ⟨b',o',y,e1,-,e2,c0,c1,hel⟩:=hbx.at (i:=0) (by simp)
    injection e1 with e1; injection e1 with e1 e1'
    subst e1; subst e1'
    injection e2 with e2; subst e2
    simp only [Nat.zero_mul,Nat.zero_add,Nat.add_zero] at c0 c1
    have hgne:g≠w.heap.size+1:=by
     have:=ownsRow_own_ge hown.own g rfl
     rw [hsb.out] at this; omega
    have hxne:=(hown.el x (by simp)).1
    rw [hsb.out] at hxne
    have qs:=two_store w2 (w.heap.size+1) (.int .i64 x.i) (.slice (some ⟨x.g,0,none⟩) x.cs.length x.c) _ _ q4 q5
    have q8:=qs.2.2.1
    have u0:=hZ qs.1
    have u1:=hZ qs.2.1
    have hfx:=hZ qs.2.2.2
    clear qs hv2 hv3 hbx
    replace hxs:=hZ hxs
    replace hown:=hZ hown
    have hl0:(0:Int) < ((x :: xs).length:Int):=by simp
    have hl1:0 < (x :: xs).length:=by simp
    have hl2:(((x :: xs).length:Int) == 0)=false:=by rw [beq_eq_false_iff_ne]; omega
    generalize hnl:(x :: xs).length=nl at *
    replace hnl:=hZ hnl
    have hel2:=hZ hel
    obtain ⟨xi,hxi⟩:∃ xi,xi=x.i:=⟨_,rfl⟩
    obtain ⟨xl,hxl⟩:∃ xl,xl=x.cs.length:=⟨_,rfl⟩
    obtain ⟨xg,hxg⟩:∃ xg,xg=x.g:=⟨_,rfl⟩
    obtain ⟨xc,hxc⟩:∃ xc,xc=x.c:=⟨_,rfl⟩
    rw [← hxi] at c0 u0 q8
    rw [← hxl,← hxg,← hxc] at c1 u1
    rw [← hxi,← hxl,← hxg,← hxc] at hfx
    rw [← hxi] at u1
    rw [← hxl,← hxg,← hxc] at u0
    replace hxi:=hZ hxi
    replace hxl:=hZ hxl
    replace hxg:=hZ hxg
    replace hxc:=hZ hxc
    clear hel
    go_wp2_with fail
    have v0:=u0.out
    have v1:=u1.out
    refine bodyPost_ret (v:=.tuple #[.agg #[.int .i64 xi,.slice (some ⟨xg,0,none⟩) xl xc],.bool true,.int .i64 0]) (by simp [results,Tryz.results69,go_sem,v0,v1]) rfl ⟨fun h=>absurd he.out h,fun _ e=>?_,fun _ s R e=>?_, ?_⟩
    ·rw [← hxs.out] at e; cases e
    ·rw [← hxs.out] at e
     injection e with e e'
     subst e
     refine ⟨x.g,x.c,by rw [hxi.out,hxl.out,hxg.out,hxc.out]; rfl,hel2.out.fx hfx.out (fun e=>?_),by omega⟩
     have e:x.g=w.heap.size+1:=e
     omega
    ·exact ((Fx.of_fr (p:=fun q=>q=w.heap.size+1) (hfb.trans hf2)).trans hfx.out).toFr (fun q hq e=>by have e:q=w.heap.size+1:=e; omega)
 ·have d1:(err != 0)=true:=bne_iff_ne.2 he
  have qs0:True:=trivial
  replace he:=hZ he
  go_enter Tryz.func69,Tryz.ntmps69
  go_upto_region 1 with (fail)
  change Code.wp _ _ _ _ (alls w [(.cells #[.slice aN nN cN,.slice aA nA cA] 72),(.cells #[.int .i64 0,.slice none 0 0] 76)])
  rw [← hwb]
  clear hwb
  go_wp2_with fail
  refine hal.out.mono ?_
  rintro e w2 ⟨-,h1,hf2⟩
  obtain rfl:=h1 he.out
  replace q6:=hf2.keepf q4 q6
  replace q7:=hf2.keepf q5 q7
  replace q4:=hf2.keep q4
  replace q5:=hf2.keep q5
  have qs:=two_store w2 (w.heap.size+1) (.int .i64 0) (.slice none 0 0) _ _ q4 q5
  have q8:=qs.2.2.1
  have u0:=hZ qs.1
  have u1:=hZ qs.2.1
  have hfx:=hZ qs.2.2.2
  clear qs
  go_wp2_with fail
  have v0:=u0.out
  have v1:=u1.out
  refine bodyPost_ret (v:=.tuple #[.agg #[.int .i64 0,.slice none 0 0],.bool false,.int .i64 err]) (by simp [results,Tryz.results69,go_sem,v0,v1]) rfl ⟨fun _=>rfl,fun h=>absurd h he.out,fun h=>absurd h he.out, ?_⟩
  exact ((Fx.of_fr (p:=fun q=>q=w.heap.size+1) (hfb.trans hf2)).trans hfx.out).toFr (fun q hq e=>by have e:q=w.heap.size+1:=e; omega)

def intE (d nN nA:Nat) (P:List Int) (M:List (List Int)) (x:List Int) (most:Int):Int:=if temE P M x≠0 then temE P M x else allE9 d nN nA (temL M x) most
theorem Interval_any (d:Nat) (aN aA:Option Addr) (cN cA:Nat) (N A:List Sy) (P:List Int) (C M:List (List Int)) (x:List Int) (aP aC aM xa:Option Addr) (cP cC cM xc:Nat) (most:Int) (w:World) (hn:NotIs w aN aA cA N A) (hok:NotOk d N A) (hd:1≤d) (hG:G w) (hP:El w iv aP P) (hC:MatIs w aC C) (hM:MatIs w aM M) (hcap:C.length≤cC) (hT:TgZ P C M) (hx:El w iv xa x) (hxl:x.length≤1000000) (hm:boundE N.length A.length most=0→most≤20000) :
 Calls Tryz.prog 29 #[.agg #[.slice aN N.length cN,.slice aA A.length cA],.agg #[.slice aP P.length cP,.slice aC C.length cC,.slice aM M.length cM],.agg #[.slice xa x.length xc,.int .i64 most]] w (SimpRet w (allL N A (temL M x) most.toNat) (intE d N.length A.length P M x most)):=by
 have hNM:M.length≤1000:=by
  rcases hT with ⟨-,-,rfl⟩ | hT
  ·simp
  ·have:=hT.tabM.1; omega
 have hck:=fun W (hW:Fr w W)=>SCheck_ok d aN aA cN cA N A W (hn.fr hW) hok
 have htm:=fun W (hW:Fr w W)=>Temper_any P C M x aP aC aM xa cP cC cM xc W (hG.fr hW) (hP.fr hW) (hC.fr hW) (hM.fr hW) hcap hT (hx.fr hW) hxl
 have hsi:=fun W ra rc (hW:Fr w W) (hR:El W iv ra (temL M x))=>Simplest_any d aN aA cN cA N A (temL M x) ra rc most W (hn.fr hW) hok hd hR (by rw [temL_len]; omega) hm
 obtain ⟨T,hT9⟩:∃ T,T=temE P M x:=⟨_,rfl⟩
 have hie:intE d N.length A.length P M x most=if T≠0 then T else allE9 d N.length A.length (temL M x) most:=by rw [hT9]; rfl
 rw [hie]
 rw [← hT9] at htm
 obtain ⟨R,hR⟩:∃ R,R=temL M x:=⟨_,rfl⟩
 obtain ⟨er,her⟩:∃ er,er=allE9 d N.length A.length R most:=⟨_,rfl⟩
 rw [← hR] at htm hsi ⊢
 rw [← her] at hsi ⊢
 obtain ⟨I9,hI9⟩:∃ I9,I9=if T≠0 then T else er:=⟨_,rfl⟩
 rw [← hI9]
 replace hI9:=hZ hI9
 obtain ⟨L,hL⟩:∃ L,L=allL N A R most.toNat:=⟨_,rfl⟩
 rw [← hL] at hsi ⊢
 obtain ⟨nN,hnN⟩:∃ nN,nN=N.length:=⟨_,rfl⟩
 obtain ⟨nA,hnA⟩:∃ nA,nA=A.length:=⟨_,rfl⟩
 obtain ⟨nP,hnP⟩:∃ nP,nP=P.length:=⟨_,rfl⟩
 obtain ⟨nC,hnC⟩:∃ nC,nC=C.length:=⟨_,rfl⟩
 obtain ⟨nM,hnM⟩:∃ nM,nM=M.length:=⟨_,rfl⟩
 obtain ⟨nx,hnx⟩:∃ nx,nx=x.length:=⟨_,rfl⟩
 rw [← hnN,← hnA] at hck hsi ⊢
 rw [← hnP,← hnC,← hnM,← hnx] at htm
 rw [← hnP,← hnC,← hnM,← hnx]
 replace hT9:=hZ hT9
 replace hR:=hZ hR
 replace her:=hZ her
 replace hL:=hZ hL
 replace hnN:=hZ hnN
 replace hnA:=hZ hnA
 replace hnP:=hZ hnP
 replace hnC:=hZ hnC
 replace hnM:=hZ hnM
 replace hnx:=hZ hnx
 replace hck:=hZ hck
 replace htm:=hZ htm
 replace hsi:=hZ hsi
 clear hn hok hd hG hP hC hM hcap hT hx hm hie hNM hxl
 obtain ⟨wb,hwb⟩:∃ wb,wb=alls w [(.cells #[.slice aN nN cN,.slice aA nA cA] 72),(.cells #[.slice aP nP cP,.slice aC nC cC,.slice aM nM cM] 31),(.cells #[.slice xa nx xc,.int .i64 most] 69),(.cells #[.int .i64 0,.slice none 0 0] 76)]:=⟨_,rfl⟩
 have hfb:Fr w wb:=by rw [hwb]; exact alls_fr _ w
 have g0:wb.heap[w.heap.size]?=some (.cells #[.slice aN nN cN,.slice aA nA cA] 72 (0,0)):=by rw [hwb]; exact alls_get _ w 0 _ rfl
 have g1:wb.heap[w.heap.size+1]?=some (.cells #[.slice aP nP cP,.slice aC nC cC,.slice aM nM cM] 31 (0,0)):=by rw [hwb]; exact alls_get _ w 1 _ rfl
 have g2:wb.heap[w.heap.size+1+1]?=some (.cells #[.slice xa nx xc,.int .i64 most] 69 (0,0)):=by rw [hwb]; exact alls_get _ w 2 _ rfl
 have g3:wb.heap[w.heap.size+1+1+1]?=some (.cells #[.int .i64 0,.slice none 0 0] 76 (0,0)):=by rw [hwb]; exact alls_get _ w 3 _ rfl
 have b0:wb.cell? ⟨w.heap.size,0,none⟩=some (.slice aN nN cN):=cells_of g0 0
 have b1:wb.cell? ⟨w.heap.size,1,none⟩=some (.slice aA nA cA):=cells_of g0 1
 have t0:wb.cell? ⟨w.heap.size+1,0,none⟩=some (.slice aP nP cP):=cells_of g1 0
 have t1:wb.cell? ⟨w.heap.size+1,1,none⟩=some (.slice aC nC cC):=cells_of g1 1
 have t2:wb.cell? ⟨w.heap.size+1,2,none⟩=some (.slice aM nM cM):=cells_of g1 2
 have x0:wb.cell? ⟨w.heap.size+1+1,0,none⟩=some (.slice xa nx xc):=cells_of g2 0
 have x1:wb.cell? ⟨w.heap.size+1+1,1,none⟩=some (.int .i64 most):=cells_of g2 1
 have q4:wb.cell? ⟨w.heap.size+1+1+1,0,none⟩=some (.int .i64 0):=cells_of g3 0
 have q5:wb.cell? ⟨w.heap.size+1+1+1,1,none⟩=some (.slice none 0 0):=cells_of g3 1
 have q6:wb.frozen? ⟨w.heap.size+1+1+1,0,none⟩=false:=by unfold World.frozen?; rw [g3]; rfl
 have q7:wb.frozen? ⟨w.heap.size+1+1+1,1,none⟩=false:=by unfold World.frozen?; rw [g3]; rfl
 have hbl:w.heap.size+1+1+1 < wb.heap.size:=lt_of_heap g3
 clear g0 g1 g2 g3
 go_enter Tryz.func29,Tryz.ntmps29
 go_upto_region 1 with (fail)
 change Code.wp _ _ _ _ (alls w [(.cells #[.slice aN nN cN,.slice aA nA cA] 72),(.cells #[.slice aP nP cP,.slice aC nC cC,.slice aM nM cM] 31),(.cells #[.slice xa nx xc,.int .i64 most] 69),(.cells #[.int .i64 0,.slice none 0 0] 76)])
 rw [← hwb]
 clear hwb
 obtain ⟨tb,htb⟩:∃ tb,tb=w.heap.size:=⟨_,rfl⟩
 rw [← htb] at b0 b1 t0 t1 t2 x0 x1 q4 q5 q6 q7 hbl ⊢
 have htb9:=hZ htb
 clear htb
 go_wp2_with fail
 refine (hck.out _ hfb).mono ?_
 rintro e w1 ⟨rfl,hf1⟩
 have hfw:=hfb.trans hf1
 replace q6:=hf1.keepf q4 q6
 replace q7:=hf1.keepf q5 q7
 replace q4:=hf1.keep q4
 replace q5:=hf1.keep q5
 replace b0:=hf1.keep b0
 replace b1:=hf1.keep b1
 replace t0:=hf1.keep t0
 replace t1:=hf1.keep t1
 replace t2:=hf1.keep t2
 replace x0:=hf1.keep x0
 replace x1:=hf1.keep x1
 have hbl1:tb+1+1+1 < w1.heap.size:=Nat.lt_of_lt_of_le hbl hf1.size
 clear hf1 hfb hbl
 go_wp2_with fail
 refine (htm.out _ hfw).mono ?_
 rintro e w2 ⟨ht1,ht2,hf2⟩
 have hfw2:=hfw.trans hf2
 replace q6:=hf2.keepf q4 q6
 replace q7:=hf2.keepf q5 q7
 replace q4:=hf2.keep q4
 replace q5:=hf2.keep q5
 replace b0:=hf2.keep b0
 replace b1:=hf2.keep b1
 replace x1:=hf2.keep x1
 have hbl2:tb+1+1+1 < w2.heap.size:=Nat.lt_of_lt_of_le hbl1 hf2.size
 clear hf2 hfw hbl1 t0 t1 t2 x0
 by_cases e1:T=0
 ·have hIT:er=I9:=by rw [hI9.out,if_neg (by rw [e1]; simp)]
  clear hI9
  subst hIT
  obtain ⟨ra,rc,rfl,hel⟩:=ht1 e1
  have hs2:=hZ (hsi.out w2 ra rc hfw2 hel)
  subst e1
  clear ht1 ht2
  go_wp2_with fail
  refine hs2.out.mono ?_
  rintro e w3 ⟨h1,h2,h3,hf3⟩
  replace q6:=hf3.keepf q4 q6
  replace q7:=hf3.keepf q5 q7
  replace q4:=hf3.keep q4
  replace q5:=hf3.keep q5
  have hfw3:=hfw2.trans hf3
  clear b0 b1 x1
  by_cases e2:er=0
  ·by_cases e3:L=[]
   ·obtain rfl:=h2 e2 e3
    clear h1 h2 h3
    have qs:=two_store w3 (tb+1+1+1) (.int .i64 0) (.slice none 0 0) _ _ q4 q5
    have q8:=qs.2.2.1
    have u0:=hZ qs.1
    have u1:=hZ qs.2.1
    have hfx:=hZ qs.2.2.2
    clear qs
    replace e2:=hZ e2
    replace e3:=hZ e3
    go_wp2_with fail
    have v0:=u0.out
    have v1:=u1.out
    refine bodyPost_ret (v:=.tuple #[.agg #[.int .i64 0,.slice none 0 0],.bool false,.int .i64 0]) (by simp [results,Tryz.results29,go_sem,v0,v1]) rfl ⟨fun h=>absurd e2.out h,fun _ _=>rfl,fun _ s R e=>?_, ?_⟩
    ·rw [e3.out] at e; cases e
    ·exact ((Fx.of_fr (p:=fun q=>q=tb+1+1+1) hfw3).trans hfx.out).toFr (fun q hq e=>by have e:q=tb+1+1+1:=e; have:=htb9.out; omega)
   ·obtain ⟨s,Rs,hLs⟩:∃ s Rs,L=s :: Rs:=by
     cases L with
     | nil=>exact absurd rfl e3
     | cons s Rs=>exact ⟨s,Rs,rfl⟩
    obtain ⟨gs,cS,rfl,hels,hge⟩:=h3 e2 s Rs hLs
    obtain ⟨si,sc⟩:=s
    simp only at hels
    clear h1 h2 h3
    obtain ⟨ns,hns⟩:∃ ns,ns=sc.length:=⟨_,rfl⟩
    simp only
    rw [← hns]
    have qs:=two_store w3 (tb+1+1+1) (.int .i64 si) (.slice (some ⟨gs,0,none⟩) ns cS) _ _ q4 q5
    have q8:=qs.2.2.1
    have u0:=hZ qs.1
    have u1:=hZ qs.2.1
    have hfx:=hZ qs.2.2.2
    have hgn:Hid (gs≠tb+1+1+1):=fun e=>by omega
    have hgw:Hid (w.heap.size≤gs):=Nat.le_trans hfw2.size hge
    clear qs hge
    replace e2:=hZ e2
    replace e3:=hZ e3
    replace hns:=hZ hns
    replace hels:=hZ hels
    replace hLs:=hZ hLs
    go_wp2_with fail
    have v0:=u0.out
    have v1:=u1.out
    refine bodyPost_ret (v:=.tuple #[.agg #[.int .i64 si,.slice (some ⟨gs,0,none⟩) ns cS],.bool true,.int .i64 0]) (by simp [results,Tryz.results29,go_sem,v0,v1]) rfl ⟨fun h=>absurd e2.out h,fun _ e=>absurd e e3.out,fun _ s R e=>?_, ?_⟩
    ·rw [hLs.out] at e
     injection e with e e'
     subst e
     exact ⟨gs,cS,by rw [hns.out],hels.out.fx hfx.out (fun e=>hgn.out e),hgw.out⟩
    ·exact ((Fx.of_fr (p:=fun q=>q=tb+1+1+1) hfw3).trans hfx.out).toFr (fun q hq e=>by have e:q=tb+1+1+1:=e; have:=htb9.out; omega)
  ·obtain rfl:=h1 e2
   clear h1 h2 h3
   have qs:=two_store w3 (tb+1+1+1) (.int .i64 0) (.slice none 0 0) _ _ q4 q5
   have q8:=qs.2.2.1
   have u0:=hZ qs.1
   have u1:=hZ qs.2.1
   have hfx:=hZ qs.2.2.2
   clear qs
   replace e2:=hZ e2
   go_wp2_with fail
   have v0:=u0.out
   have v1:=u1.out
   refine bodyPost_ret (v:=.tuple #[.agg #[.int .i64 0,.slice none 0 0],.bool false,.int .i64 er]) (by simp [results,Tryz.results29,go_sem,v0,v1]) rfl ⟨fun _=>rfl,fun h=>absurd h e2.out,fun h=>absurd h e2.out, ?_⟩
   exact ((Fx.of_fr (p:=fun q=>q=tb+1+1+1) hfw3).trans hfx.out).toFr (fun q hq e=>by have e:q=tb+1+1+1:=e; have:=htb9.out; omega)
 ·have q0:(T != 0)=true:=bne_iff_ne.2 e1
  have hIT:T=I9:=by rw [hI9.out,if_pos e1]
  clear hI9
  subst hIT
  obtain rfl:=ht2 e1
  clear ht1 ht2
  have qs:=two_store w2 (tb+1+1+1) (.int .i64 0) (.slice none 0 0) _ _ q4 q5
  have q8:=qs.2.2.1
  have u0:=hZ qs.1
  have u1:=hZ qs.2.1
  have hfx:=hZ qs.2.2.2
  clear qs
  replace e1:=hZ e1
  go_wp2_with fail
  have v0:=u0.out
  have v1:=u1.out
  refine bodyPost_ret (v:=.tuple #[.agg #[.int .i64 0,.slice none 0 0],.bool false,.int .i64 T]) (by simp [results,Tryz.results29,go_sem,v0,v1]) rfl ⟨fun _=>rfl,fun h=>absurd h e1.out,fun h=>absurd h e1.out, ?_⟩
  exact ((Fx.of_fr (p:=fun q=>q=tb+1+1+1) hfw2).trans hfx.out).toFr (fun q hq e=>by have e:q=tb+1+1+1:=e; have:=htb9.out; omega)
theorem equalO_any (j:Nat) (ds:List Int) (da:Option Addr) (dc:Nat) (i:Nat) (cs:List Int) (ca:Option Addr) (cc:Nat) (W:World) (hx:El W iv da ds) (hy:El W iv ca cs) (hl:ds.length≤1000000) (hl2:cs.length≤1000000) :
 Calls Tryz.prog 32 #[.agg #[.int .i64 j,.slice da ds.length dc],.agg #[.int .i64 i,.slice ca cs.length cc]] W fun e W'=>e=.returned (.bool (decide ((j,ds)=(i,cs))))∧Fr W W':=by
 have heq:=fun W' (hW':Fr W W')=>Equal_row ds cs da ca dc cc W' (hx.fr hW') (hy.fr hW') (by omega) (by omega)
 have hfA:Fr W ((W.alloc (.cells #[.int .i64 j,.slice da ds.length dc] 76)).alloc (.cells #[.int .i64 i,.slice ca cs.length cc] 76)):=((Fr.refl W).alloc _).alloc _
 have hst:decide ((j,ds)=(i,cs))=(decide (j=i) && decide (ds=cs)):=by
  by_cases h1:j=i <;> by_cases h2:ds=cs <;> simp [h1,h2]
 rw [hst]
 replace heq:=hZ (heq _ hfA)
 replace hfA:=hZ hfA
 generalize decide (ds=cs)=q at *
 generalize ds.length=xl at *
 generalize cs.length=yl at *
 clear hx hy hst
 by_cases h1:j=i
 ·have hd:decide (j=i)=true:=decide_eq_true h1
  have hd2:((j:Int) == (i:Int))=true:=by rw [h1]; simp
  rw [hd]
  clear h1 hd
  go_enter Tryz.func32,Tryz.ntmps32
  go_wp2_with fail
  refine heq.out.mono ?_
  rintro e w2 ⟨rfl,hf2⟩
  go_wp2_with fail
  go_ret
  exact ⟨rfl,hfA.out.trans hf2⟩
 ·have hd:decide (j=i)=false:=decide_eq_false h1
  have hd2:((j:Int) == (i:Int))=false:=beq_false_of_ne (by omega)
  rw [hd]
  clear h1 hd
  go_enter Tryz.func32,Tryz.ntmps32
  go_wp2_with fail
  go_ret
  exact ⟨rfl,hfA.out⟩
theorem equal_zero (W:World):Calls Tryz.prog 32 #[.agg #[.int .i64 0,.slice none 0 0],.agg #[.int .i64 0,.slice none 0 0]] W fun e W'=>e=.returned (.bool true)∧Fr W W':=by
 have h:=equalO_any 0 [] none 0 0 [] none 0 W (.inl rfl) (.inl rfl) (by simp) (by simp)
 rw [decide_eq_true (rfl:((0:Nat),([]:List Int))=(0,[]))] at h
 exact h
end Go.Proofs.YtmalpgbbddkdcaaGreatDoor
