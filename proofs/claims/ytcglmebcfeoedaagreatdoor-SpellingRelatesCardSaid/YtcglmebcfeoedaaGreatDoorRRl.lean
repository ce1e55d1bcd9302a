/- Contracts and laws: RRl. -/
import Derived.Test.YtcglmebcfeoedaaGreatDoorRRlC
import Derived.Test.YtcglmebcfeoedaaGreatDoorRLR
import Derived.Test.YtcglmebcfeoedaaGreatDoorRI
import Derived.Test.YtcglmebcfeoedaaGreatDoorRD
import Derived.Test.YtcglmebcfeoedaaGreatDoorRSJ
import Derived.Deep.Cut

set_option maxRecDepth 100000
set_option maxHeartbeats 16000000
namespace Go.Proofs.YtcglmebcfeoedaaGreatDoor
open Go.RowKit Go.Lib
attribute [local go_sem ↓] Go.wp_at_zero Go.wp_at_succ
theorem mk_bd9 {two:Bool} {rs:List Int} {a b:Nat} {N:List Sy} (hN:N.map plainSy=symsMk two rs a b):BdM 9 (N.map Sy.row):=fun r hr y hy=>by
 have k:∀ x:Int,(x.tmod 8).natAbs≤9:=fun x=>by rw [Int.natAbs_tmod]; have:=Nat.mod_lt x.natAbs (show 0 < (8:Int).natAbs by decide); omega
 obtain ⟨x,hx,rfl⟩:=List.mem_map.1 hr
 have h:=List.mem_map_of_mem (f:=plainSy) hx
 rw [hN] at h
 obtain ⟨i,hi⟩:=List.getElem?_of_mem h
 obtain ⟨-,e⟩:=symsMk_get two rs a b i _ hi
 unfold plainSy symMk at e
 injection e with e1 e2
 rw [e2] at hy
 unfold rowMk at hy
 rcases List.mem_cons.1 hy with rfl | hy
 ·exact k _
 ·cases two with
  | false=>simp at hy
  | true=>simp at hy; subst hy; exact k _
theorem nmOf_ne:∀ i,nmOf (4+i)≠⟨#[111]⟩
 | 0=>by decide
 | 1=>by decide
 | i+2=>by
   rw [show 4+(i+2)=i+6 by omega]
   show (⟨#[94]⟩:ByteArray)≠⟨#[111]⟩
   decide
theorem mk_ne {two:Bool} {rs:List Int} {b:Nat} {A:List Sy} (hA:A.map plainSy=symsMk two rs 4 b):∀ x,x ∈ A→x.nm≠⟨#[111]⟩:=fun x hx=>by
 have h:=List.mem_map_of_mem (f:=plainSy) hx
 rw [hA] at h
 obtain ⟨i,hi⟩:=List.getElem?_of_mem h
 obtain ⟨-,e⟩:=symsMk_get two rs 4 b i _ hi
 unfold plainSy symMk at e
 injection e with e1 e2
 rw [e1]; exact nmOf_ne i
def oSy (d rb:Nat):Sy:=⟨⟨#[111]⟩,List.replicate d 0,some ⟨rb,0,none⟩,d⟩
theorem plain_is {d:Nat} {A:List Sy} {aA:Option Addr} {cA:Nat} {w:World} (hA:Syms w aA A) (hnil:aA=none→cA=0∧A=[]) {b rb:Nat} (h0:w.cell? ⟨b,0,none⟩=some (.string ⟨#[111]⟩)) (h1:w.cell? ⟨b,1,none⟩=some (.slice (some ⟨rb,0,none⟩) d d)) (h2:El w iv (some ⟨rb,0,none⟩) (List.replicate d 0)) :
 NotIs w (some ⟨b,0,none⟩) aA cA [oSy d rb] A:=by
 refine ⟨⟨.inr ⟨b,0,rfl,World.block_lt_of_cell? w _ h0,fun i z hz=>?_⟩,fun z hz=>?_⟩,hA,hnil⟩
 ·match i,hz with
  | 0,hz=>
    simp at hz; subst hz
    refine ⟨h0, ?_⟩
    show w.cell? ⟨b,1,none⟩=some (.slice (some ⟨rb,0,none⟩) (List.replicate d (0:Int)).length d)
    rw [List.length_replicate]; exact h1
  | i+1,hz=>simp at hz
 ·simp at hz; subst hz; exact h2
theorem plain_ok {d rb:Nat} {N A:List Sy} (hok:NotOk d N A) (hA:∀ x,x ∈ A→x.nm≠⟨#[111]⟩):NotOk d [oSy d rb] A:=by
 refine ⟨Nat.zero_lt_one,(by omega:1≤60),hok.a6,hok.d12,fun x hx=>?_,fun x hx y hy=>?_,fun x hx=>?_,fun i j x y hi hj hij=>?_⟩
 ·rcases List.mem_append.1 hx with h | h
  ·simp at h; subst h; exact List.length_replicate ..
  ·exact hok.row x (List.mem_append_right _ h)
 ·rcases List.mem_append.1 hx with h | h
  ·simp at h; subst h; rw [List.eq_of_mem_replicate hy]; decide
  ·exact hok.fit x (List.mem_append_right _ h) y hy
 ·rcases List.mem_append.1 hx with h | h
  ·simp at h; subst h; rfl
  ·exact hok.nm x (List.mem_append_right _ h)
 ·obtain ⟨j,rfl⟩:∃ k,j=k+1:=⟨j - 1,by omega⟩
  have hj:A[j]?=some y:=hj
  cases i with
  | zero=>
    have hi:some (oSy d rb)=some x:=hi
    injection hi with hi
    rw [← hi]
    exact fun e=>hA y (List.mem_of_getElem? hj) e.symm
  | succ i=>
    have hi:A[i]?=some x:=hi
    have g:∀ (k:Nat) (z:Sy),A[k]?=some z→(N ++ A)[N.length+k]?=some z:=fun k z hz=>by
     rw [List.getElem?_append_right (by omega),Nat.add_sub_cancel_left]; exact hz
    exact hok.dis (N.length+i) (N.length+j) x y (g i x hi) (g j y hj) (by omega)
theorem rl1_pred (w:World) (xs:List Int):Pred w 14 #[] iv (fun x=>x != 0) xs:=fun x W _ _=>by
 show Calls Tryz.prog 14 #[.int .i64 x] W fun e W'=>e=.returned (.bool (x != 0))∧Fr W W'
 go_enter Tryz.func14,Tryz.ntmps14
 go_wp2_with fail
 go_ret
 exact ⟨rfl,Fr.refl _⟩
theorem own_rd {w:World} {base n:Nat} {v:Value} {l:List Int} (hb:gN≤base) (h:w.ownsRow base 3 1 v n (l.map iv)):∃ a c,v=.slice a n c∧El w iv a l:=by
 rcases h.2 with ⟨h1,h2⟩ | ⟨g,cap,cur,hv,_⟩
 ·have h3:=h.1
  rw [List.length_map,h2] at h3
  exact ⟨none,0,by rw [h1,h2],.inl (List.length_eq_zero_iff.1 (by omega))⟩
 ·subst hv; exact ⟨_,_,rfl,(ownsRow_ownI hb h).1.el⟩
theorem SpellingRelates_any (two:Bool) (nn na r0 r1 r2 r3 r4 r5 r6 r7 r8 r9 r10 r11 r12 r13 a0 a1 a2 b0 b1 b2:Int) (w:World) (hG:G w) (hnn:0≤nn∧nn≤255) (hna:0≤na∧na≤255) (hr:∀ x,x ∈ [r0,r1,r2,r3,r4,r5,r6,r7,r8,r9,r10,r11,r12,r13]→fits8 x) (ha8:∀ x,x ∈ [a0,a1,a2]→fits8 x) (hb8:∀ x,x ∈ [b0,b1,b2]→fits8 x) :
 Calls Tryz.prog 3 #[.agg #[.bool two,.int .u8 nn,.int .u8 na,.int .i8 r0,.int .i8 r1,.int .i8 r2,.int .i8 r3,.int .i8 r4,.int .i8 r5,.int .i8 r6,.int .i8 r7,.int .i8 r8,.int .i8 r9,.int .i8 r10,.int .i8 r11,.int .i8 r12,.int .i8 r13],.agg #[.int .i8 a0,.int .i8 a1,.int .i8 a2],.agg #[.int .i8 b0,.int .i8 b1,.int .i8 b2]] w fun e w'=>e=.returned (.bool true)∧Fr w w':=by
 obtain ⟨db,hdb⟩:∃ db,db=w.heap.size:=⟨_,rfl⟩
 obtain ⟨wb,hwb⟩:∃ wb,wb=((w.alloc (.cells #[.bool two,.int .u8 nn,.int .u8 na,.int .i8 r0,.int .i8 r1,.int .i8 r2,.int .i8 r3,.int .i8 r4,.int .i8 r5,.int .i8 r6,.int .i8 r7,.int .i8 r8,.int .i8 r9,.int .i8 r10,.int .i8 r11,.int .i8 r12,.int .i8 r13] 26)).alloc (.cells #[.int .i8 a0,.int .i8 a1,.int .i8 a2] 27)).alloc (.cells #[.int .i8 b0,.int .i8 b1,.int .i8 b2] 27):=⟨_,rfl⟩
 have hfb:Fr w wb:=by rw [hwb]; exact (((Fr.refl w).alloc _).alloc _).alloc _
 have hkn:=hZ (known_any wb (hG.fr hfb))
 replace hkn:=hkn.out
 rw [hwb] at hkn
 replace hkn:=hZ hkn
 have g0:wb.heap[db]?=some (.cells #[.bool two,.int .u8 nn,.int .u8 na,.int .i8 r0,.int .i8 r1,.int .i8 r2,.int .i8 r3,.int .i8 r4,.int .i8 r5,.int .i8 r6,.int .i8 r7,.int .i8 r8,.int .i8 r9,.int .i8 r10,.int .i8 r11,.int .i8 r12,.int .i8 r13] 26 (0,0)):=by
  rw [hwb,hdb]; exact (Below.heap_alloc _ _ _ (by simp; omega)).trans ((Below.heap_alloc _ _ _ (by simp)).trans (heap_alloc_new w _))
 have g8:wb.heap[db+1]?=some (.cells #[.int .i8 a0,.int .i8 a1,.int .i8 a2] 27 (0,0)):=by
  have:=heap_alloc_new (w.alloc (.cells #[.bool two,.int .u8 nn,.int .u8 na,.int .i8 r0,.int .i8 r1,.int .i8 r2,.int .i8 r3,.int .i8 r4,.int .i8 r5,.int .i8 r6,.int .i8 r7,.int .i8 r8,.int .i8 r9,.int .i8 r10,.int .i8 r11,.int .i8 r12,.int .i8 r13] 26 (0,0))) (.cells #[.int .i8 a0,.int .i8 a1,.int .i8 a2] 27 (0,0))
  rw [World.size_alloc] at this
  rw [hwb,hdb]; exact (Below.heap_alloc _ _ _ (by simp)).trans this
 have g9:wb.heap[db+1+1]?=some (.cells #[.int .i8 b0,.int .i8 b1,.int .i8 b2] 27 (0,0)):=by
  have:=heap_alloc_new ((w.alloc (.cells #[.bool two,.int .u8 nn,.int .u8 na,.int .i8 r0,.int .i8 r1,.int .i8 r2,.int .i8 r3,.int .i8 r4,.int .i8 r5,.int .i8 r6,.int .i8 r7,.int .i8 r8,.int .i8 r9,.int .i8 r10,.int .i8 r11,.int .i8 r12,.int .i8 r13] 26 (0,0))).alloc (.cells #[.int .i8 a0,.int .i8 a1,.int .i8 a2] 27 (0,0))) (.cells #[.int .i8 b0,.int .i8 b1,.int .i8 b2] 27 (0,0))
  rw [World.size_alloc,World.size_alloc] at this
  rw [hwb,hdb]; exact this
 have hxa:∀ W,Fr wb W→∀ (k:Nat) (v:Int),[a0,a1,a2][k]?=some v→W.cell? ⟨db+1,k,none⟩=some (.int .i8 v):=fun W hW k v hv=>by
  refine hW.keep ?_
  rw [cells_of g8]
  match k,hv with
  | 0,hv=>injection hv with hv; subst hv; rfl
  | 1,hv=>injection hv with hv; subst hv; rfl
  | 2,hv=>injection hv with hv; subst hv; rfl
  | k+3,hv=>cases hv
 have hxb:∀ W,Fr wb W→∀ (k:Nat) (v:Int),[b0,b1,b2][k]?=some v→W.cell? ⟨db+1+1,k,none⟩=some (.int .i8 v):=fun W hW k v hv=>by
  refine hW.keep ?_
  rw [cells_of g9]
  match k,hv with
  | 0,hv=>injection hv with hv; subst hv; rfl
  | 1,hv=>injection hv with hv; subst hv; rfl
  | 2,hv=>injection hv with hv; subst hv; rfl
  | k+3,hv=>cases hv
 replace hxa:=hZ hxa
 replace hxb:=hZ hxb
 replace ha8:=hZ ha8
 replace hb8:=hZ hb8
 go_enter Tryz.func3,Tryz.ntmps3
 go_wp2_with fail
 refine hkn.out.mono ?_
 rintro e w1 ⟨rfl,hf1⟩
 rw [← hwb] at hf1
 rw [← hdb]
 have g1:=(Below.block hf1 _ (lt_of_heap g0)).trans g0
 have p0:w1.cell? ⟨db,0,none⟩=some (.bool two):=cells_of g1 0
 have p1:w1.cell? ⟨db,1,none⟩=some (.int .u8 nn):=cells_of g1 1
 have p2:w1.cell? ⟨db,2,none⟩=some (.int .u8 na):=cells_of g1 2
 have p3:w1.cell? ⟨db,3,none⟩=some (.int .i8 r0):=cells_of g1 3
 have p4:w1.cell? ⟨db,4,none⟩=some (.int .i8 r1):=cells_of g1 4
 have p5:w1.cell? ⟨db,5,none⟩=some (.int .i8 r2):=cells_of g1 5
 have p6:w1.cell? ⟨db,6,none⟩=some (.int .i8 r3):=cells_of g1 6
 have p7:w1.cell? ⟨db,7,none⟩=some (.int .i8 r4):=cells_of g1 7
 have p8:w1.cell? ⟨db,8,none⟩=some (.int .i8 r5):=cells_of g1 8
 have p9:w1.cell? ⟨db,9,none⟩=some (.int .i8 r6):=cells_of g1 9
 have p10:w1.cell? ⟨db,10,none⟩=some (.int .i8 r7):=cells_of g1 10
 have p11:w1.cell? ⟨db,11,none⟩=some (.int .i8 r8):=cells_of g1 11
 have p12:w1.cell? ⟨db,12,none⟩=some (.int .i8 r9):=cells_of g1 12
 have p13:w1.cell? ⟨db,13,none⟩=some (.int .i8 r10):=cells_of g1 13
 have p14:w1.cell? ⟨db,14,none⟩=some (.int .i8 r11):=cells_of g1 14
 have p15:w1.cell? ⟨db,15,none⟩=some (.int .i8 r12):=cells_of g1 15
 have p16:w1.cell? ⟨db,16,none⟩=some (.int .i8 r13):=cells_of g1 16
 have hmk:=Make_any two nn na r0 r1 r2 r3 r4 r5 r6 r7 r8 r9 r10 r11 r12 r13 w1 hnn hna hr
 replace hmk:=hZ hmk
 have hfw:=hfb.trans hf1
 clear hkn hwb g0 g1 g8 g9 hr
 replace hdb:=hZ hdb
 go_wp2_with fail
 refine hmk.out.mono ?_
 rintro e w2 ⟨aN,aA,cN,cA,N,A,rfl,hn,hN,hA,hf2⟩
 have hok:=(plan_ok two [r0,r1,r2,r3,r4,r5,r6,r7,r8,r9,r10,r11,r12,r13] (1+nn % 4).toNat (4+na % 4).toNat (by omega) (by omega) (by omega)).ok hN hA
 have hNl:N.length≤4:=by have:=congrArg List.length hN; rw [List.length_map,symsMk_length] at this; omega
 have hAl:A.length≤3:=by have:=congrArg List.length hA; rw [List.length_map,symsMk_length] at this; omega
 have hd1:1≤dMk two∧dMk two≤2:=by unfold dMk; cases two <;> decide
 have hbA:=mk_bd9 hA
 have hne:=hZ (mk_ne hA)
 obtain ⟨d,hd⟩:∃ d,d=dMk two:=⟨_,rfl⟩
 rw [← hd] at hok hd1
 have f2:=hfw.trans hf2
 have fb2:=hf1.trans hf2
 have hGf:=hZ (fun W (hW:Fr w2 W)=>hG.fr (f2.trans hW))
 replace hxa:=hZ (fun W (hW:Fr w2 W)=>hxa.out W (fb2.trans hW))
 replace hxb:=hZ (fun W (hW:Fr w2 W)=>hxb.out W (fb2.trans hW))
 obtain ⟨K,hRK,hrel⟩:=Relations_plan d aN aA cN cA N A w2 (hG.fr f2) hn hok hd1.1 hAl hbA
 have hT:=hRK.tab (by rw [List.length_map]; exact hAl)
 rw [List.length_map] at hT
 have hfm:=hZ (fun W a c (hm:MatIs W a K) (hc:K.length≤c)=>IsForm_ok K a c A.length W hm hT hc hRK.form)
 obtain ⟨nb,no,s0,rfl,hnb,hs0,-,hs2,-⟩:=hn.noms.at hok.n1
 have hs0l:=hok.row s0 (List.mem_append_left _ (List.mem_of_getElem? hs0))
 rw [hs0l,Nat.zero_mul,Nat.add_zero] at hs2
 obtain ⟨M,hM⟩:∃ M,M=N.length:=⟨_,rfl⟩
 obtain ⟨la,hla⟩:∃ la,la=A.length:=⟨_,rfl⟩
 obtain ⟨kl,hkl⟩:∃ kl,kl=K.length:=⟨_,rfl⟩
 obtain ⟨nbk,hnbk⟩:∃ nbk,nbk=w2.heap.size:=⟨_,rfl⟩
 have hn1:(0:Int) < M:=by have:=hok.n1; omega
 have hn1n:0 < M:=by omega
 have hkl3:kl≤3:=by have h9:=hRK.le; rw [List.length_map] at h9; omega
 rw [← hM,← hla,← hkl] at hrel
 rw [← hkl] at hfm
 rw [← hM,← hla]
 clear p0 p1 p2 p3 p4 p5 p6 p7 p8 p9 p10 p11 p12 p13 p14 p15 p16 hmk hnn hna hfw hf1 hf2 fb2 hfb hnb hN hA hd hs0 hs0l
 replace hok:=hZ hok
 replace hRK:=hZ hRK
 replace hT:=hZ hT
 replace hbA:=hZ hbA
 replace hrel:=hZ hrel
 replace hM:=hZ hM
 replace hla:=hZ hla
 replace hkl:=hZ hkl
 have hfn:Fr w2 (w2.alloc (.cells #[.slice (some ⟨nb,no,none⟩) M cN,.slice aA la cA] 31)):=(Fr.refl w2).alloc _
 have n1:=(new2a w2 (.slice (some ⟨nb,no,none⟩) M cN) (.slice aA la cA) 31).1
 have n2:=(new2b w2 (.slice (some ⟨nb,no,none⟩) M cN) (.slice aA la cA) 31).1
 rw [← hnbk] at n1 n2
 obtain ⟨W2,hW2⟩:∃ W2,W2=w2.alloc (.cells #[.slice (some ⟨nb,no,none⟩) M cN,.slice aA la cA] 31):=⟨_,rfl⟩
 rw [← hW2] at hfn n1 n2
 go_upto_region 4 with (fail)
 rw [← hW2,← hnbk]
 clear hW2
 replace hnbk:=hZ hnbk
 go_wp2_with fail
 refine (hrel.out _ hfn).mono ?_
 rintro e w4 ⟨a4,c4,rfl,hc4,hm4,hf4⟩
 replace n1:=hf4.keep n1
 replace n2:=hf4.keep n2
 have hf24:=hfn.trans hf4
 have h5:=hZ (hfm.out w4 a4 c4 hm4 hc4)
 replace hm4:=hZ hm4
 replace hc4:=hZ hc4
 clear hrel hfm
 go_wp2_with fail
 refine h5.out.mono ?_
 rintro e w5 ⟨rfl,hf5⟩
 replace n1:=hf5.keep n1
 replace n2:=hf5.keep n2
 have hf25:=hf24.trans hf5
 replace hm4:=hZ (hm4.out.fr hf5)
 have z2:=hf25.keep hs2
 clear hs2 h5 hfn hf4 hf24 hf5
 go_upto_region 8 with (fail)
 have hd5:1≤d∧d≤1000000:=by omega
 have hs48:(sv 0)=.string ⟨#[48]⟩:=by unfold sv; rw [tx_zero]
 have hf8:Fr w5 (w5.alloc (.cells #[.string ⟨#[48]⟩] 42)):=(Fr.refl _).alloc _
 have c8:(w5.alloc (.cells #[.string ⟨#[48]⟩] 42)).cell? ⟨w5.heap.size,0,none⟩=some (sv 0):=by rw [hs48]; exact new_cell _ _ _
 have hrep:=hZ (Repeat_one w5.heap.size 0 1 d 0 _ hd5.1 hd5.2 c8)
 have z3:nbk < w5.heap.size:=World.block_lt_of_cell? _ _ n1
 have z4:nb < w5.heap.size:=World.block_lt_of_cell? _ _ z2
 replace hs48:=hZ hs48
 replace hf8:=hZ hf8
 clear c8
 go_wp2_with fail
 refine hrep.out.mono ?_
 rintro e w9 ⟨gz,cz,rfl,hf9,hoz⟩
 have hoz2:w9.ownsRow (w5.alloc (.cells #[.string ⟨#[48]⟩] 42)).heap.size 42 1 (.slice (some ⟨gz,0,none⟩) d cz) d ((List.replicate d (0:Int)).map sv):=by rw [List.map_replicate]; exact hoz
 have hez:=(ownsRow_own (by have:=gN_le (hGf.out _ hf25); have:=hf8.out.size; omega) hoz2).1.el
 clear hoz2
 replace hez:=hZ hez
 have hf59:=hf8.out.trans hf9
 replace n1:=hf59.keep n1
 replace n2:=hf59.keep n2
 have hf29:=hf25.trans hf59
 replace hm4:=hZ (hm4.out.fr hf59)
 clear hoz z2 z3 z4 hf25 hf8 hf9 hf59 hrep
 go_upto_region 10 with (fail)
 obtain ⟨pb,hpb⟩:∃ pb,pb=w9.heap.size:=⟨_,rfl⟩
 have m1:=(new2a w9 (.slice (some ⟨nb,no,none⟩) M cN) (.slice aA la cA) 31).1
 have m2:=(new2b w9 (.slice (some ⟨nb,no,none⟩) M cN) (.slice aA la cA) 31).1
 have m3:=(new2a w9 (.slice (some ⟨nb,no,none⟩) M cN) (.slice aA la cA) 31).2
 obtain ⟨WA,hWA⟩:∃ WA,WA=w9.alloc (.cells #[.slice (some ⟨nb,no,none⟩) M cN,.slice aA la cA] 31):=⟨_,rfl⟩
 have hfA:Fr w9 WA:=by rw [hWA]; exact (Fr.refl _).alloc _
 rw [← hWA,← hpb] at m1 m2 m3
 rw [← hWA,← hpb]
 have hpA:WA.heap.size=pb+1:=by rw [hWA,hpb]; simp
 clear hWA
 replace hpb:=hZ hpb
 replace hfA:=hZ hfA
 replace hpA:=hZ hpA
 obtain ⟨i0,hi0,hz0,hz1,hz2⟩:=info_parts infoInt
 go_wp2_with (at_make; refine wpList_make_full _ rfl _ _ 44 rfl WA.heap.size 3 i0 _ 1 Tryz.underlying44 hi0 hz0 hz1 _ _ _ _ d (by rfl) (by rfl) (by omega) (by omega) (by rw [hz2]; omega) (by unfold maxLen; omega) (Nat.le_refl _) ?_; intro wM hownM hgrM; have hfM:Fr WA wM:=(Fr.refl WA).grown hgrM (fun k e=>by cases e); have q1:=hfM.keep m1; have q9:=hfM.keepf m1 m3; have hfN:Fr wM (wM.alloc (.cells #[.string ⟨#[111]⟩,.slice (some ⟨WA.heap.size,0,none⟩) d d] 46)):=(Fr.refl _).alloc _; have q2:=hfN.keep q1; have q3:=hfN.keepf q1 q9; replace hfM:=hZ hfM; replace hfN:=hZ hfN; clear q9)
 obtain ⟨rb,hrb⟩:∃ rb,rb=WA.heap.size:=⟨_,rfl⟩
 obtain ⟨ob,hob⟩:∃ ob,ob=wM.heap.size:=⟨_,rfl⟩
 have hz9:w9.heap.size≤pb:=by rw [hpb.out]; exact Nat.le_refl _
 have hpo:pb < ob:=by rw [hob]; exact World.block_lt_of_cell? _ _ q1
 have hel0:OwnI wM rb 0 (List.replicate d 0):=by
  have e:(madeCells (Value.int IntKind.i64 0).cells (d * 1)).toList=(List.replicate d (0:Int)).map iv:=by
   rw [Nat.mul_one]
   simp [madeCells,Value.cells,iv]
   refine List.ext_getElem? fun i=>?_
   rw [List.getElem?_map,List.getElem?_replicate]
   by_cases h:i < d
   ·rw [List.getElem?_range h,if_pos h,Option.map_some,Nat.mod_one]; rfl
   ·rw [List.getElem?_eq_none (by rw [List.length_range]; omega),if_neg h]; rfl
  rw [e,← hrb] at hownM
  exact (ownsRow_ownI (by have:=gN_le (hGf.out _ hf29); have:=hfA.out.size; omega) hownM).1
 obtain ⟨WN,hWN⟩:∃ WN,WN=wM.alloc (.cells #[.string ⟨#[111]⟩,.slice (some ⟨WA.heap.size,0,none⟩) d d] 46):=⟨_,rfl⟩
 have o1:=(new2a wM (.string ⟨#[111]⟩) (.slice (some ⟨WA.heap.size,0,none⟩) d d) 46).1
 have o2:=(new2b wM (.string ⟨#[111]⟩) (.slice (some ⟨WA.heap.size,0,none⟩) d d) 46).1
 have hfN2:Fr wM WN:=by rw [hWN]; exact hfN.out
 rw [← hWN] at o1 o2 q2 q3
 rw [← hWN]
 rw [← hob] at o1 o2
 rw [← hrb] at o2
 rw [← hob]
 clear hWN hfN
 obtain ⟨WB,hWB⟩:∃ WB,WB=WN.setCell ⟨pb,0,none⟩ (.slice (some ⟨ob,0,none⟩) 1 1):=⟨_,rfl⟩
 have e01:(⟨pb,0,none⟩:Addr)≠⟨pb,1,none⟩:=fun e=>by injection e with _ e; omega
 have eo0:(⟨pb,0,none⟩:Addr)≠⟨ob,0,none⟩:=fun e=>by injection e with e; omega
 have eo1:(⟨pb,0,none⟩:Addr)≠⟨ob,1,none⟩:=fun e=>by injection e with e; omega
 have hf9N:=(hfA.out.trans hfM.out).trans hfN2
 have hf9B:Fr w9 WB:=by rw [hWB]; exact hf9N.setCell (p:=⟨pb,0,none⟩) hz9 _
 have b1:WB.cell? ⟨pb,0,none⟩=some (.slice (some ⟨ob,0,none⟩) 1 1):=by rw [hWB]; exact World.cell?_setCell_same' _ _ _ (by rw [q2]; rfl)
 have b2:WB.cell? ⟨pb,1,none⟩=some (.slice aA la cA):=by rw [hWB,World.cell?_setCell_other _ _ _ _ e01]; exact (hfM.out.trans hfN2).keep m2
 have b3:WB.cell? ⟨ob,0,none⟩=some (.string ⟨#[111]⟩):=by rw [hWB,World.cell?_setCell_other _ _ _ _ eo0]; exact o1
 have b4:WB.cell? ⟨ob,1,none⟩=some (.slice (some ⟨rb,0,none⟩) d d):=by rw [hWB,World.cell?_setCell_other _ _ _ _ eo1]; exact o2
 rw [← hWB]
 have hf2B:=hf29.trans hf9B
 have hel1:El WB iv (some ⟨rb,0,none⟩) (List.replicate d 0):=by
  have hfx:Fx (·=pb) wM WB:=by rw [hWB]; exact Fx.setCell (p:=(·=pb)) (q:=⟨pb,0,none⟩) (Fx.of_fr hfN2) (.inl rfl) _
  exact (hel0.fx hfx (fun e=>by have e:rb=pb:=e; have:=hpA.out; omega)).el
 have hP:=plain_is (hn.accs.fr hf2B) hn.nil b3 b4 hel1
 have hPok:=plain_ok (rb:=rb) hok.out hne.out
 have hread:=hZ (fun W x ca cc (hW:Fr WB W) (hx:x ∈ K) (he:El W iv ca x)=>by
  have hxl:x.length=A.length:=by rw [hRK.out.rect x hx,List.length_map]
  have h:=read_law d (some ⟨ob,0,none⟩) aA 1 cA [oSy d rb] A 0 x ca cc W (hGf.out W (hf2B.trans hW)) (hP.fr hW) hPok Nat.zero_lt_one he hxl (fun y hy=>hT.out.2.2.2 x hx y hy)
  have e:sumS [oSy d rb] A (0,x)=List.replicate d 0:=rel_zero (fun r hr=>by obtain ⟨z,hz,rfl⟩:=List.mem_map.1 hr; exact hok.out.row z (List.mem_append_right _ hz)) hRK.out hx
  have e1:[oSy d rb].length=1:=rfl
  unfold IntsRet at h
  rw [e,hxl,← hla.out,e1,List.length_replicate] at h
  exact h)
 have heq:=hZ (fun W (a b:Option Addr) (c1 c2:Nat) (h1:El W sv a (List.replicate d 0)) (h2:El W sv b (List.replicate d 0))=>by
  have h:=Equal_txs (List.replicate d 0) (List.replicate d 0) a b c1 c2 W h1 h2 (by rw [List.length_replicate]; omega) (by rw [List.length_replicate]; omega)
  rw [decide_eq_true (rfl:List.replicate d (0:Int)=List.replicate d 0),List.length_replicate] at h
  exact h)
 replace n1:=hf9B.keep n1
 replace n2:=hf9B.keep n2
 replace hm4:=hZ (hm4.out.fr hf9B)
 replace hez:=hZ (hez.out.fr hf9B)
 clear q1 q2 q3 hownM hgrM hel0 hel1 hP hPok o1 o2 m1 m2 m3 hfN2 hf9N hf9B hWB e01 eo0 eo1 hpo hz9 hob hrb hfM hi0 hz0 hz1 hz2 hd5
 replace n1:=hZ n1
 replace n2:=hZ n2
 replace b1:=hZ b1
 replace b2:=hZ b2
 clear b3 b4
 have hq0:((la:Int) != (la:Int))=false:=by simp
 go_loopg [63] kl (fun gk s63 wr=>∃ j:Nat,s63=.int .i64 j∧j+gk=kl∧Fr WB wr)
 case atStart=>exact ⟨0,rfl,by omega,Fr.refl _⟩
 case round=>
  obtain ⟨j,rfl,hjk,hf⟩:=hrel
  by_cases hj:j < kl
  ·have hdJ:decide (j < kl)=true:=decide_eq_true hj
   have hjK:j < K.length:=by rw [← hkl.out]; exact hj
   obtain ⟨mb,mo,xa,xc,rfl,hmc,hme⟩:=(hm4.out.fr hf).at (i:=j) hjK
   have hxl:(K[j]).length=la:=by rw [hRK.out.rect _ (List.getElem_mem hjK),List.length_map,← hla.out]
   rw [hxl] at hmc
   have z1:(j:Int) < (kl:Int):=by omega
   have z0:(0:Int)≤(j:Int):=by omega
   have v1:=hf.keep n1.out
   have v2:=hf.keep n2.out
   have v3:=hf.keep b1.out
   have v4:=hf.keep b2.out
   have hcl:=hZ (hread.out wr _ xa xc hf (List.getElem_mem hjK) hme)
   replace hxl:=hZ hxl
   clear hme
   go_wp2_with fail
   refine hcl.out.mono ?_
   rintro e wC ⟨aC,cC,rfl,heC,-,hfC⟩
   have hq1:=hZ (heq.out wC aC (some ⟨gz,0,none⟩) cC cz heC (hez.out.fr (hf.trans hfC)))
   clear heC hcl v1 v2 v3 v4 hmc
   go_wp2_with fail
   refine hq1.out.mono ?_
   rintro e wD ⟨rfl,hfD⟩
   have hfE:=(hf.trans hfC).trans hfD
   clear hfC hfD hq1
   go_wp2_with fail
   go_roundg (gk - 1)
   case measure=>omega
   case rel=>exact ⟨j+1,by go_num,by omega,hfE⟩
  ·have hdJ:decide (j < kl)=false:=decide_eq_false hj
   obtain ⟨wq,rfl⟩:∃ wq:World,wq=wr:=⟨_,rfl⟩
   have hf2q:=hf2B.trans hf
   have hfBq:=hZ hf
   have vq1:=hZ (hf.keep n1.out)
   have vq2:=hZ (hf.keep n2.out)
   have hgq:=gN_le (hGf.out _ hf2q)
   replace hxa:=hZ (fun W (hW:Fr wq W)=>hxa.out W (hf2q.trans hW))
   replace hxb:=hZ (fun W (hW:Fr wq W)=>hxb.out W (hf2q.trans hW))
   clear hread heq b1 b2 hez n1 n2 hf29 hq0
   go_upto_region 17 with (fail)
   obtain ⟨g0,hg0⟩:∃ g0,g0=wq.heap.size:=⟨_,rfl⟩
   obtain ⟨W7,hW7⟩:∃ W,W=(wq.alloc (.cells #[.int .i64 0,.slice none 0 0] 50)).alloc (.cells #[.int .i64 0,.slice none 0 0] 50):=⟨_,rfl⟩
   have f7:Fr wq W7:=by rw [hW7]; exact ((Fr.refl _).alloc _).alloc _
   have hS7:Cel2 W7 g0 (.int .i64 0) (.slice none 0 0):=by rw [hW7,hg0]; exact (Cel2.new _ _ _ _).fr ((Fr.refl _).alloc _)
   have hT7:Cel2 W7 (g0+1) (.int .i64 0) (.slice none 0 0):=by
    have:=Cel2.new (wq.alloc (.cells #[.int .i64 0,.slice none 0 0] 50)) (.int .i64 0) (.slice none 0 0) 50
    rw [World.size_alloc] at this
    rw [hW7,hg0]; exact this
   have hz7:W7.heap.size=g0+2:=by rw [hW7,hg0,World.size_alloc,World.size_alloc]
   go_upto_region 18 with (fail)
   rw [← hW7,← hg0]
   clear hW7
   have hgg:gN≤g0:=by rw [hg0]; exact hgq
   have hdbg:db+2 < g0:=by rw [hg0]; exact World.block_lt_of_cell? wq ⟨db+1+1,0,none⟩ (hxb.out wq (Fr.refl _) 0 b0 rfl)
   have hg0q:wq.heap.size≤g0:=by rw [hg0]; exact Nat.le_refl _
   replace hg0:=hZ hg0
   replace hz7:=hZ hz7
   have vq3:=f7.keep vq2.out
   obtain ⟨xs,hxs⟩:∃ xs:List Int,xs=[a0,a1,a2]:=⟨_,rfl⟩
   obtain ⟨ys,hys⟩:∃ ys:List Int,ys=[b0,b1,b2]:=⟨_,rfl⟩
   obtain ⟨ds,hds⟩:∃ ds:List Int,ds=[a0 - b0,a1 - b1,a2 - b2]:=⟨_,rfl⟩
   have hxl:Hid (xs.length=3):=by rw [hxs]; rfl
   have hyl:Hid (ys.length=3):=by rw [hys]; rfl
   have hdl:Hid (ds.length=3):=by rw [hds]; rfl
   have hdg:Hid (∀ (k:Nat) (x y:Int),xs[k]?=some x→ys[k]?=some y→ds[k]?=some (x - y)):=fun k x y h1 h2=>by
    rw [hxs] at h1; rw [hys] at h2; rw [hds]
    match k,h1,h2 with
    | 0,h1,h2=>injection h1 with h1; injection h2 with h2; subst h1; subst h2; rfl
    | 1,h1,h2=>injection h1 with h1; injection h2 with h2; subst h1; subst h2; rfl
    | 2,h1,h2=>injection h1 with h1; injection h2 with h2; subst h1; subst h2; rfl
    | k+3,h1,h2=>cases h1
   rw [← hxs] at hxa ha8
   rw [← hys] at hxb hb8
   clear hxs hys hds
   have hla3:la≤3:=by have:=hla.out; omega
   have hla0:(0:Int)≤(la:Int):=Int.natCast_nonneg _
   go_wp2_with fail
   go_loopg [86,18] la (fun k s86 s18 wr=>∃ (t:Nat) (u1 u2:Value),s86=.int .i64 t∧t+k=la∧Fr wq wr∧Hid (Cel2 wr g0 (.int .i64 0) u1)∧Hid (Cel2 wr (g0+1) (.int .i64 0) u2)∧Hid (wr.ownsRow (g0+2) 3 1 u1 t ((xs.take t).map iv))∧Hid (wr.ownsRow (g0+2) 3 1 u2 t ((ys.take t).map iv))∧Hid (wr.ownsRow (g0+2) 3 1 s18 t ((ds.take t).map iv))∧Hid (∀ q,u1.ownBlock=some q→u2.ownBlock≠some q∧s18.ownBlock≠some q)∧Hid (∀ q,u2.ownBlock=some q→s18.ownBlock≠some q))
   case atStart=>exact ⟨0,_,_,rfl,by omega,f7,hS7,hT7,World.ownsRow_nil _ _ _ _,World.ownsRow_nil _ _ _ _,World.ownsRow_nil _ _ _ _,hZ (fun q h=>by cases h),hZ (fun q h=>by cases h)⟩
   case round=>
    clear hS7 hT7 f7 hz7 vq3
    obtain ⟨t,u1,u2,rfl,htk,hf,hcU,hcV,hoA,hoB,hoD,hap,hbp⟩:=hrel
    obtain ⟨wv,rfl⟩:∃ wv:World,wv=wr:=⟨_,rfl⟩
    obtain ⟨kv,rfl⟩:∃ kv:Nat,kv=gk:=⟨_,rfl⟩
    obtain ⟨u3,rfl⟩:∃ u3:Value,u3=u18:=⟨_,rfl⟩
    have hgv:g0+2≤wv.heap.size:=by have:=hcV.out.lt; omega
    by_cases ht:t < la
    ·have hdT:decide (t < la)=true:=decide_eq_true ht
     have zt0:(0:Int)≤(t:Int):=Int.natCast_nonneg _
     have zt3:(t:Int) < 3:=by omega
     obtain ⟨x,hx⟩:∃ x,xs[t]?=some x:=⟨_,List.getElem?_eq_getElem (by rw [hxl.out]; omega)⟩
     obtain ⟨y,hy⟩:∃ y,ys[t]?=some y:=⟨_,List.getElem?_eq_getElem (by rw [hyl.out]; omega)⟩
     obtain ⟨x1,x2⟩:-128≤x∧x≤127:=ha8.out x (List.mem_of_getElem? hx)
     obtain ⟨y1,y2⟩:-128≤y∧y≤127:=hb8.out y (List.mem_of_getElem? hy)
     have kx:IntKind.i64.wrap x=x:=IntWalk.i64_in _ (by omega)
     have ky:IntKind.i64.wrap y=y:=IntWalk.i64_in _ (by omega)
     have kd:IntKind.i64.wrap (x - y)=x - y:=IntWalk.i64_in _ (by omega)
     have cx:=hxa.out wv hf t x hx
     have cy:=hxb.out wv hf t y hy
     have hsA:Hid ((xs.take (t+1)).map iv=(xs.take t).map iv ++ [.int .i64 x]):=by show _=_; rw [take_snoc hx,List.map_append]; rfl
     have hsB:Hid ((ys.take (t+1)).map iv=(ys.take t).map iv ++ [.int .i64 y]):=by show _=_; rw [take_snoc hy,List.map_append]; rfl
     have hsD:Hid ((ds.take (t+1)).map iv=(ds.take t).map iv ++ [.int .i64 (x - y)]):=by show _=_; rw [take_snoc (hdg.out t x y hx hy),List.map_append]; rfl
     have hvA:=hZ (hoA.out.lt)
     have hvB:=hZ (hoB.out.lt)
     have hvD:=hZ (hoD.out.lt)
     have hfar:Hid (∀ q,q < g0+2→¬ (u1.ownBlock=some q∨u2.ownBlock=some q)):=fun q hq e=>by
      rcases e with e | e
      ·have:=(hvA.out q e).1; omega
      ·have:=(hvB.out q e).1; omega
     have c1:=hcU.out.b
     have c2:=hcV.out.b
     have hS0:Hid (∀ W',Fx (fun k=>u1.ownBlock=some k∨u2.ownBlock=some k) wv W'→W'.cell? ⟨g0,1,none⟩=some u1∧W'.cell? ⟨g0+1,1,none⟩=some u2∧W'.cell? ⟨db+1,t,none⟩=some (.int .i8 x)∧W'.cell? ⟨db+1+1,t,none⟩=some (.int .i8 y)):=fun W' hW'=>
      ⟨hW'.keep c1 (hfar.out g0 (by omega)),hW'.keep c2 (hfar.out (g0+1) (by omega)),hW'.keep cx (hfar.out (db+1) (by omega)),hW'.keep cy (hfar.out (db+1+1) (by omega))⟩
     replace hx:=hZ hx
     replace hy:=hZ hy
     go_wp2_with fail
     refine wp_region_U (S:=fun W'=>W'.cell? ⟨g0,1,none⟩=some u1∧W'.cell? ⟨g0+1,1,none⟩=some u2∧W'.cell? ⟨db+1,t,none⟩=some (.int .i8 x)∧W'.cell? ⟨db+1+1,t,none⟩=some (.int .i8 y)) 17 (by kernel_rfl) (hS0.out _ (Fx.of_fr (Fr.refl _).drew)) (fun hHeld=>?_)
     clear cx cy c1 c2
     refine uM 0 89 ?_; try simp only [lsT,ls0,lsS]
     refine uM 1 90 ?_; try simp only [lsT,ls0,lsS]
     refine uM 2 91 ?_; try simp only [lsT,ls0,lsS]
     refine uM 3 92 ?_; try simp only [lsT,ls0,lsS]
     refine uM 4 93 ?_; try simp only [lsT,ls0,lsS]
     refine uM 5 94 ?_; try simp only [lsT,ls0,lsS]
     refine uV 8 97 [9,15] ?_; try simp only [lsT,ls0,lsS]
     refine uV 9 98 [15] ?_; try simp only [lsT,ls0,lsS]
     refine uV 10 99 [11,12,13,14,15] ?_; try simp only [lsT,ls0,lsS]
     refine uV 11 100 [12,13,14,15] ?_; try simp only [lsT,ls0,lsS]
     refine uV 12 101 [13,14,15] ?_; try simp only [lsT,ls0,lsS]
     refine uV 13 102 [14,15] ?_; try simp only [lsT,ls0,lsS]
     obtain ⟨i1,ji,jz0,jz1,jz2⟩:=info_parts infoInt
     obtain ⟨wd,hwd⟩:∃ wd,wd=wv.drew:=⟨_,rfl⟩
     have hfx:Fx (fun k=>u1.ownBlock=some k∨u2.ownBlock=some k) wv wd:=by rw [hwd]; exact Fx.of_fr (Fr.refl _).drew
     replace hoA:=hZ (by have:=ownsRow_fr hoA.out (Fr.refl wv).drew; rw [← hwd] at this; exact this)
     replace hoB:=hZ (by have:=ownsRow_fr hoB.out (Fr.refl wv).drew; rw [← hwd] at this; exact this)
     rw [← hwd] at hHeld ⊢
     clear hwd
     refine wpAnyU_ready (rs:=[6,14]) (by kernel_rfl) (by simp) ?_
     refine AllReadyU.cons rfl (fun K hK=>?_) (AllReadyU.cons rfl (fun K hK=>?_) AllReadyU.nil)
     ·
      go_simp
      refine hK.out _ _ (hS0.out _ (hfx.fr ((Fr.refl _).alloc _))) (fun hHeld=>?_)
      clear hK K
      obtain ⟨wa1,hW⟩:∃ W,W=wd.alloc (.cells #[.int .i64 (x)] 3):=⟨_,rfl⟩
      have hfA:Fr wd wa1:=by rw [hW]; exact (Fr.refl _).alloc _
      obtain ⟨pA,hp⟩:∃ p,p=wd.heap.size:=⟨_,rfl⟩
      have hcA:wa1.cell? ⟨pA,0,none⟩=some (.int .i64 (x)):=by rw [hW,hp]; exact new_cell _ _ _
      have pAz:wv.heap.size≤pA:=by rw [hp]; exact hfx.size
      rw [← hp,← hW]
      rw [← hW] at hHeld
      replace hp:=hZ hp
      replace hcA:=hZ hcA
      (try replace hcA:=hZ (hfA.keep hcA.out))
      (try replace hcB:=hZ (hfA.keep hcB.out))
      replace hoA:=hZ (ownsRow_fr hoA.out hfA)
      replace hoB:=hZ (ownsRow_fr hoB.out hfA)
      replace hfx:=hfx.fr hfA
      clear hW hfA
      try simp only [Act.put,lsT]
      refine wpAnyU_ready (rs:=[7,14]) (by kernel_rfl) (by simp) ?_
      refine AllReadyU.cons rfl (fun K hK=>?_) (AllReadyU.cons rfl (fun K hK=>?_) AllReadyU.nil)
      ·
       refine step_append_lies _ rfl (.tmp 90) (.tmp 95) 44 rfl (g0+2) 3 i1 _ 1 8 Tryz.underlying44 ji jz0 jz1 jz2 rfl (by decide) u1 t _ (by simp [Act.eval]) hoA.out ⟨pA,0,none⟩ 1 1 [.int .i64 x] (by simp [Act.eval]) rfl (one_at hcA.out) (by simp [Value.oneCell']) (by decide) (by unfold maxLen; omega) (by omega) (by have:=hfx.size; omega) wa1.heap.size rfl ?_
       intro gA capA wb2 hownA hgrA hatA hltA
       have hfg:=Fx.of_grown hgrA
       have hAz:g0+2≤gA:=(hownA.lt gA rfl).1
       have hAB:∀ q,u2.ownBlock=some q→gA≠q:=fun q hq e=>by
        rcases hatA with h | h
        ·exact (hap.out gA h).1 (by rw [hq,e])
        ·have:=(hvB.out q hq).2; have:=hfx.size; omega
       have hAD:Hid (∀ q,u3.ownBlock=some q→gA≠q):=fun q hq e=>by
        rcases hatA with h | h
        ·exact (hap.out gA h).2 (by rw [hq,e])
        ·have:=(hvD.out q hq).2; have:=hfx.size; omega
       replace hoB:=hZ (ownsRow_fx hoB.out hfg (fun q hq e=>(hap.out q e).1 hq))
       (try replace hcB:=hZ (hfg.keep hcB.out (fun e=>by have:=(hvA.out pB e).2; omega)))
       replace hfx:=hfx.trans (hfg.mono (fun k hk=>.inl hk))
       rw [← hsA.out] at hownA
       replace hoA:=hZ hownA
       clear hgrA hfg hatA hcA
       refine hK.out _ _ (hS0.out _ hfx) (fun hHeld=>?_)
       clear hK K
       change wpAnyU _ _ _ _ _ _ _ _ (Act.put _ (some 96) _) _
       simp only [Act.put,lsT,ls0,lsS]
       refine uM 16 105 ?_; try simp only [lsT,ls0,lsS]
       refine uC 14 (fun K hK=>?_)
       go_simp
       refine hK.out _ _ (hS0.out _ (hfx.fr ((Fr.refl _).alloc _))) (fun hHeld=>?_)
       clear hK K
       obtain ⟨wc3,hW⟩:∃ W,W=wb2.alloc (.cells #[.int .i64 (y)] 3):=⟨_,rfl⟩
       have hfA:Fr wb2 wc3:=by rw [hW]; exact (Fr.refl _).alloc _
       obtain ⟨pB,hp⟩:∃ p,p=wb2.heap.size:=⟨_,rfl⟩
       have hcB:wc3.cell? ⟨pB,0,none⟩=some (.int .i64 (y)):=by rw [hW,hp]; exact new_cell _ _ _
       have pBz:wv.heap.size≤pB:=by rw [hp]; exact hfx.size
       rw [← hp,← hW]
       rw [← hW] at hHeld
       replace hp:=hZ hp
       replace hcB:=hZ hcB
       (try replace hcA:=hZ (hfA.keep hcA.out))
       (try replace hcB:=hZ (hfA.keep hcB.out))
       replace hoA:=hZ (ownsRow_fr hoA.out hfA)
       replace hoB:=hZ (ownsRow_fr hoB.out hfA)
       replace hfx:=hfx.fr hfA
       clear hW hfA
       try simp only [Act.put,lsT]
       refine uC 15 (fun K hK=>?_)
       refine step_append_lies _ rfl (.tmp 98) (.tmp 103) 44 rfl (g0+2) 3 i1 _ 1 8 Tryz.underlying44 ji jz0 jz1 jz2 rfl (by decide) u2 t _ (by simp [Act.eval]) hoB.out ⟨pB,0,none⟩ 1 1 [.int .i64 y] (by simp [Act.eval]) rfl (one_at hcB.out) (by simp [Value.oneCell']) (by decide) (by unfold maxLen; omega) (by omega) (by have:=hfx.size; omega) wc3.heap.size rfl ?_
       intro gB capB wd4 hownB hgrB hatB hltB
       have hfg:=Fx.of_grown hgrB
       have hBz:g0+2≤gB:=(hownB.lt gB rfl).1
       have hBA:gA≠gB:=fun e=>by
        have h9:=(hoA.out.lt gA rfl).2
        rcases hatB with h | h
        ·exact hAB gB h e
        ·omega
       have hBD:∀ q,u3.ownBlock=some q→gB≠q:=fun q hq e=>by
        rcases hatB with h | h
        ·exact hbp.out gB h (by rw [hq,e])
        ·have:=(hvD.out q hq).2; have:=hfx.size; omega
       replace hoA:=hZ (ownsRow_fx hoA.out hfg (fun q hq e=>by have hq:some gA=some q:=hq; injection hq with hq; exact hAB q e hq))
       replace hfx:=hfx.trans (hfg.mono (fun k hk=>.inr hk))
       rw [← hsB.out] at hownB
       replace hoB:=hZ hownB
       clear hgrB hfg hatB hcB
       refine hK.out _ _ (hS0.out _ hfx) (fun hHeld=>?_)
       clear hK K hHeld
       change wpAnyU _ _ _ _ _ _ _ _ (Act.put _ (some 104) _) _
       simp only [Act.put,lsT,ls0,lsS]
       have hCU9:=(hcU.out.fx hfx (hfar.out g0 (by omega))).set1 (.slice (some ⟨gA,0,none⟩) (t+1) capA)
       have hCV9:=(((hcV.out.fx hfx (hfar.out (g0+1) (by omega))).fx (Fx.setCell (p:=(·=g0)) (q:=⟨g0,1,none⟩) (Fx.refl _ wd4) (.inl rfl) (.slice (some ⟨gA,0,none⟩) (t+1) capA)) (by omega)).set1 (.slice (some ⟨gB,0,none⟩) (t+1) capB))
       have hCU9b:=hCU9.fx (Fx.setCell (p:=(·=g0+1)) (q:=⟨g0+1,1,none⟩) (Fx.refl _ _) (.inl rfl) (.slice (some ⟨gB,0,none⟩) (t+1) capB)) (by omega)
       have hfs:Fx (fun k=>k=g0∨k=g0+1) wd4 ((wd4.setCell ⟨g0,1,none⟩ (.slice (some ⟨gA,0,none⟩) (t+1) capA)).setCell ⟨g0+1,1,none⟩ (.slice (some ⟨gB,0,none⟩) (t+1) capB)):=Fx.setCell (q:=⟨g0+1,1,none⟩) (Fx.setCell (q:=⟨g0,1,none⟩) (Fx.refl _ wd4) (.inl (.inl rfl)) _) (.inl (.inr rfl)) _
       have p1:=(hcU.out.fx hfx (hfar.out g0 (by omega)))
       have q1:=p1.b
       have q2:=p1.fb
       have q3:=((hcV.out.fx hfx (hfar.out (g0+1) (by omega))).fx (Fx.setCell (p:=(·=g0)) (q:=⟨g0,1,none⟩) (Fx.refl _ wd4) (.inl rfl) (.slice (some ⟨gA,0,none⟩) (t+1) capA)) (by omega))
       have q4:=q3.b
       have q5:=q3.fb
       refine uD 17 (fun K hK=>?_)
       go_simp
       refine hK.out _ _ ?_
       clear hK K
       refine uD 18 (fun K hK=>?_)
       go_simp
       refine hK.out _ _ ?_
       clear hK K
       try simp only [Act.put,lsT,ls0,lsS]
       refine uD 19 (fun K hK=>?_)
       go_simp
       refine hK.out _ _ ?_
       clear hK K
       refine uE ?_
       have hfq:Fr wq ((wd4.setCell ⟨g0,1,none⟩ (.slice (some ⟨gA,0,none⟩) (t+1) capA)).setCell ⟨g0+1,1,none⟩ (.slice (some ⟨gB,0,none⟩) (t+1) capB)):=(((Fx.of_fr hf).trans (hfx.mono (fun k hk=>(.inl hk:(u1.ownBlock=some k∨u2.ownBlock=some k)∨(k=g0∨k=g0+1))))).trans (hfs.mono (fun k hk=>.inr hk))).toFr (fun k hk e=>by
        rcases e with (e | e) | (e | e)
        ·have:=(hvA.out k e).1; omega
        ·have:=(hvB.out k e).1; omega
        ·omega
        ·omega)
       replace hoA:=hZ (ownsRow_fx hoA.out hfs (fun q hq e=>by have hq:some gA=some q:=hq; injection hq with hq; omega))
       replace hoB:=hZ (ownsRow_fx hoB.out hfs (fun q hq e=>by have hq:some gB=some q:=hq; injection hq with hq; omega))
       replace hoD:=hZ (ownsRow_fx (ownsRow_fx hoD.out hfx (fun q hq e=>by rcases e with e | e; exact (hap.out q e).2 hq; exact hbp.out q e hq)) hfs (fun q hq e=>by have:=(hvD.out q hq).1; omega))
       replace hCU9b:=hZ hCU9b
       replace hCV9:=hZ hCV9
       replace hBA:=hZ hBA
       replace hBD:=hZ hBD
       obtain ⟨wx,hwx⟩:∃ wx,wx=((wd4.setCell ⟨g0,1,none⟩ (.slice (some ⟨gA,0,none⟩) (t+1) capA)).setCell ⟨g0+1,1,none⟩ (.slice (some ⟨gB,0,none⟩) (t+1) capB)):=⟨_,rfl⟩
       rw [← hwx] at hfq hoA hoB hoD hCU9b hCV9
       rw [← hwx]
       clear hwx hfs p1 q1 q2 q3 q4 q5 hCU9 hfx hS0 hAB
       have d1:=hxa.out wx hfq t x hx.out
       have d2:=hxb.out wx hfq t y hy.out
       have hvD2:=hZ (hoD.out.lt)
       go_wp2_with fail
       refine wp_region_held_drew (S:=fun W'=>W'.cell? ⟨db+1,t,none⟩=some (.int .i8 x)∧W'.cell? ⟨db+1+1,t,none⟩=some (.int .i8 y)) (by kernel_rfl) ⟨(Fr.refl wx).drew.keep d1,(Fr.refl wx).drew.keep d2⟩ (fun hHeld=>?_)
       obtain ⟨wd9,hwd9⟩:∃ W,W=wx.drew:=⟨_,rfl⟩
       have hfw:Fr wx wd9:=by rw [hwd9]; exact (Fr.refl wx).drew
       rw [← hwd9] at hHeld ⊢
       clear hwd9
       refine hK 0 ?_
       change wpAnyH _ _ _ _ _ _ _ (Act.put _ (some 107) _) _
       simp only [Act.put,lsT,ls0,lsS]
       refine hK 1 ?_
       change wpAnyH _ _ _ _ _ _ _ (Act.put _ (some 108) _) _
       simp only [Act.put,lsT,ls0,lsS]
       refine hK 2 ?_
       change wpAnyH _ _ _ _ _ _ _ (Act.put _ (some 109) _) _
       simp only [Act.put,lsT,ls0,lsS]
       refine hK 3 ?_
       change wpAnyH _ _ _ _ _ _ _ (Act.put _ (some 110) _) _
       simp only [Act.put,lsT,ls0,lsS]
       refine hK 4 ?_
       change wpAnyH _ _ _ _ _ _ _ (Act.put _ (some 111) _) _
       simp only [Act.put,lsT,ls0,lsS]
       refine hK 5 ?_
       change wpAnyH _ _ _ _ _ _ _ (Act.put _ (some 112) _) _
       simp only [Act.put,lsT,ls0,lsS]
       refine hK 6 ?_
       change wpAnyH _ _ _ _ _ _ _ (Act.put _ (some 113) _) _
       simp only [Act.put,lsT,ls0,lsS]
       refine hK 7 ?_
       change wpAnyH _ _ _ _ _ _ _ (Act.put _ (some 114) _) _
       simp only [Act.put,lsT,ls0,lsS]
       refine hK 8 ?_
       change wpAnyH _ _ _ _ _ _ _ (Act.put _ (some 115) _) _
       simp only [Act.put,lsT,ls0,lsS]
       refine hK 9 ?_
       change wpAnyH _ _ _ _ _ _ _ (Act.put _ (some 116) _) _
       simp only [Act.put,lsT,ls0,lsS]
       refine hC 10 (fun K hK=>?_)
       go_simp
       refine hK.out _ _ ⟨(hfw.alloc _).keep d1,(hfw.alloc _).keep d2⟩ (fun hHeld=>?_)
       clear hK K
       obtain ⟨wy,hwy⟩:∃ W,W=wd9.alloc (.cells #[.int .i64 (x - y)] 3):=⟨_,rfl⟩
       have hfy:Fr wx wy:=by rw [hwy]; exact hfw.alloc _
       obtain ⟨pD,hpD⟩:∃ p,p=wd9.heap.size:=⟨_,rfl⟩
       have hcD:wy.cell? ⟨pD,0,none⟩=some (.int .i64 (x - y)):=by rw [hwy,hpD]; exact new_cell _ _ _
       rw [← hpD,← hwy]
       rw [← hwy] at hHeld
       clear hwy
       replace hoD:=hZ (ownsRow_fr hoD.out hfy)
       try simp only [Act.put,lsT]
       refine hC 11 (fun K hK=>?_)
       refine step_append_lies _ rfl (.tmp 107) (.tmp 117) 44 rfl (g0+2) 3 i1 _ 1 8 Tryz.underlying44 ji jz0 jz1 jz2 rfl (by decide) u3 t _ (by simp [Act.eval]) hoD.out ⟨pD,0,none⟩ 1 1 [.int .i64 (x - y)] (by simp [Act.eval]) rfl (one_at hcD) (by simp [Value.oneCell']) (by decide) (by unfold maxLen; omega) (by omega) (by have:=hfy.size; have:=hCV9.out.lt; omega) wy.heap.size rfl ?_
       intro gD capD wz hownD hgrD hatD hltD
       have hfg:=Fx.of_grown hgrD
       have hDA:gD≠gA∧gD≠gB:=by
        have h1:=(hoA.out.lt gA rfl).2
        have h2:=(hoB.out.lt gB rfl).2
        rcases hatD with h | h
        ·exact ⟨fun e=>hAD.out gD h e.symm,fun e=>hBD.out gD h e.symm⟩
        ·have:=hfy.size; exact ⟨by omega,by omega⟩
       refine hK.out _ _ ⟨hfg.keep (hfy.keep d1) (fun e=>by have e1:=(hvD2.out _ e).1; have e1:g0+2≤db+1:=e1; omega),hfg.keep (hfy.keep d2) (fun e=>by have e1:=(hvD2.out _ e).1; have e1:g0+2≤db+1+1:=e1; omega)⟩ (fun hHeld=>?_)
       clear hK K
       change wpAnyH _ _ _ _ _ _ _ (Act.put _ (some 118) _) _
       simp only [Act.put,lsT,ls0,lsS]
       have hap9:∀ q,(Value.slice (some ⟨gA,0,none⟩) (t+1) capA).ownBlock=some q→(Value.slice (some ⟨gB,0,none⟩) (t+1) capB).ownBlock≠some q∧(Value.slice (some ⟨gD,0,none⟩) (t+1) capD).ownBlock≠some q:=fun q hq=>by
        have hq:some gA=some q:=hq
        injection hq with hq
        exact ⟨fun e=>by have e:some gB=some q:=e; injection e with e; exact hBA.out (hq.trans e.symm),fun e=>by have e:some gD=some q:=e; injection e with e; exact hDA.1 (e.trans hq.symm)⟩
       have hbp9:∀ q,(Value.slice (some ⟨gB,0,none⟩) (t+1) capB).ownBlock=some q→(Value.slice (some ⟨gD,0,none⟩) (t+1) capD).ownBlock≠some q:=fun q hq e=>by
        have hq:some gB=some q:=hq
        have e:some gD=some q:=e
        injection hq with hq
        injection e with e
        exact hDA.2 (e.trans hq.symm)
       have hfz:Fr wq wz:=((Fx.of_fr (hfq.trans hfy)).trans hfg).toFr (fun k hk e=>by have:=(hvD2.out k e).1; omega)
       have hoA9:=ownsRow_fx (ownsRow_fr hoA.out hfy) hfg (fun q hq e=>by have hq:some gA=some q:=hq; injection hq with hq; exact hAD.out q e hq)
       have hoB9:=ownsRow_fx (ownsRow_fr hoB.out hfy) hfg (fun q hq e=>by have hq:some gB=some q:=hq; injection hq with hq; exact hBD.out q e hq)
       have hCU7:=(hCU9b.out.fr hfy).fx hfg (fun e=>by have:=(hvD2.out _ e).1; omega)
       have hCV7:=(hCV9.out.fr hfy).fx hfg (fun e=>by have:=(hvD2.out _ e).1; omega)
       rw [← hsD.out] at hownD
       clear hoA hoB hoD hgrD hatD d1 d2
       refine hK 12 ?_
       change wpAnyH _ _ _ _ _ _ _ (Act.put _ (some 18) _) _
       simp only [Act.put,lsT,ls0,lsS]
       refine wpAnyH_done (by kernel_rfl) ?_ _
       go_wp2_with fail
       go_roundg (kv - 1)
       case measure=>omega
       case rel=>exact ⟨t+1,_,_,by go_num,by omega,hfz,hCU7,hCV7,hoA9,hoB9,hownD,hap9,hbp9⟩
      ·
       go_simp
       refine hK.out _ _ (hS0.out _ (hfx.fr ((Fr.refl _).alloc _))) (fun hHeld=>?_)
       clear hK K
       obtain ⟨wb2,hW⟩:∃ W,W=wa1.alloc (.cells #[.int .i64 (y)] 3):=⟨_,rfl⟩
       have hfA:Fr wa1 wb2:=by rw [hW]; exact (Fr.refl _).alloc _
       obtain ⟨pB,hp⟩:∃ p,p=wa1.heap.size:=⟨_,rfl⟩
       have hcB:wb2.cell? ⟨pB,0,none⟩=some (.int .i64 (y)):=by rw [hW,hp]; exact new_cell _ _ _
       have pBz:wv.heap.size≤pB:=by rw [hp]; exact hfx.size
       rw [← hp,← hW]
       rw [← hW] at hHeld
       replace hp:=hZ hp
       replace hcB:=hZ hcB
       (try replace hcA:=hZ (hfA.keep hcA.out))
       (try replace hcB:=hZ (hfA.keep hcB.out))
       replace hoA:=hZ (ownsRow_fr hoA.out hfA)
       replace hoB:=hZ (ownsRow_fr hoB.out hfA)
       replace hfx:=hfx.fr hfA
       clear hW hfA
       try simp only [Act.put,lsT]
       refine uC 7 (fun K hK=>?_)
       refine step_append_lies _ rfl (.tmp 90) (.tmp 95) 44 rfl (g0+2) 3 i1 _ 1 8 Tryz.underlying44 ji jz0 jz1 jz2 rfl (by decide) u1 t _ (by simp [Act.eval]) hoA.out ⟨pA,0,none⟩ 1 1 [.int .i64 x] (by simp [Act.eval]) rfl (one_at hcA.out) (by simp [Value.oneCell']) (by decide) (by unfold maxLen; omega) (by omega) (by have:=hfx.size; omega) wb2.heap.size rfl ?_
       intro gA capA wc3 hownA hgrA hatA hltA
       have hfg:=Fx.of_grown hgrA
       have hAz:g0+2≤gA:=(hownA.lt gA rfl).1
       have hAB:∀ q,u2.ownBlock=some q→gA≠q:=fun q hq e=>by
        rcases hatA with h | h
        ·exact (hap.out gA h).1 (by rw [hq,e])
        ·have:=(hvB.out q hq).2; have:=hfx.size; omega
       have hAD:Hid (∀ q,u3.ownBlock=some q→gA≠q):=fun q hq e=>by
        rcases hatA with h | h
        ·exact (hap.out gA h).2 (by rw [hq,e])
        ·have:=(hvD.out q hq).2; have:=hfx.size; omega
       replace hoB:=hZ (ownsRow_fx hoB.out hfg (fun q hq e=>(hap.out q e).1 hq))
       (try replace hcB:=hZ (hfg.keep hcB.out (fun e=>by have:=(hvA.out pB e).2; omega)))
       replace hfx:=hfx.trans (hfg.mono (fun k hk=>.inl hk))
       rw [← hsA.out] at hownA
       replace hoA:=hZ hownA
       clear hgrA hfg hatA hcA
       refine hK.out _ _ (hS0.out _ hfx) (fun hHeld=>?_)
       clear hK K
       change wpAnyU _ _ _ _ _ _ _ _ (Act.put _ (some 96) _) _
       simp only [Act.put,lsT,ls0,lsS]
       refine uM 16 105 ?_; try simp only [lsT,ls0,lsS]
       refine uC 15 (fun K hK=>?_)
       refine step_append_lies _ rfl (.tmp 98) (.tmp 103) 44 rfl (g0+2) 3 i1 _ 1 8 Tryz.underlying44 ji jz0 jz1 jz2 rfl (by decide) u2 t _ (by simp [Act.eval]) hoB.out ⟨pB,0,none⟩ 1 1 [.int .i64 y] (by simp [Act.eval]) rfl (one_at hcB.out) (by simp [Value.oneCell']) (by decide) (by unfold maxLen; omega) (by omega) (by have:=hfx.size; omega) wc3.heap.size rfl ?_
       intro gB capB wd4 hownB hgrB hatB hltB
       have hfg:=Fx.of_grown hgrB
       have hBz:g0+2≤gB:=(hownB.lt gB rfl).1
       have hBA:gA≠gB:=fun e=>by
        have h9:=(hoA.out.lt gA rfl).2
        rcases hatB with h | h
        ·exact hAB gB h e
        ·omega
       have hBD:∀ q,u3.ownBlock=some q→gB≠q:=fun q hq e=>by
        rcases hatB with h | h
        ·exact hbp.out gB h (by rw [hq,e])
        ·have:=(hvD.out q hq).2; have:=hfx.size; omega
       replace hoA:=hZ (ownsRow_fx hoA.out hfg (fun q hq e=>by have hq:some gA=some q:=hq; injection hq with hq; exact hAB q e hq))
       replace hfx:=hfx.trans (hfg.mono (fun k hk=>.inr hk))
       rw [← hsB.out] at hownB
       replace hoB:=hZ hownB
       clear hgrB hfg hatB hcB
       refine hK.out _ _ (hS0.out _ hfx) (fun hHeld=>?_)
       clear hK K hHeld
       change wpAnyU _ _ _ _ _ _ _ _ (Act.put _ (some 104) _) _
       simp only [Act.put,lsT,ls0,lsS]
       have hCU9:=(hcU.out.fx hfx (hfar.out g0 (by omega))).set1 (.slice (some ⟨gA,0,none⟩) (t+1) capA)
       have hCV9:=(((hcV.out.fx hfx (hfar.out (g0+1) (by omega))).fx (Fx.setCell (p:=(·=g0)) (q:=⟨g0,1,none⟩) (Fx.refl _ wd4) (.inl rfl) (.slice (some ⟨gA,0,none⟩) (t+1) capA)) (by omega)).set1 (.slice (some ⟨gB,0,none⟩) (t+1) capB))
       have hCU9b:=hCU9.fx (Fx.setCell (p:=(·=g0+1)) (q:=⟨g0+1,1,none⟩) (Fx.refl _ _) (.inl rfl) (.slice (some ⟨gB,0,none⟩) (t+1) capB)) (by omega)
       have hfs:Fx (fun k=>k=g0∨k=g0+1) wd4 ((wd4.setCell ⟨g0,1,none⟩ (.slice (some ⟨gA,0,none⟩) (t+1) capA)).setCell ⟨g0+1,1,none⟩ (.slice (some ⟨gB,0,none⟩) (t+1) capB)):=Fx.setCell (q:=⟨g0+1,1,none⟩) (Fx.setCell (q:=⟨g0,1,none⟩) (Fx.refl _ wd4) (.inl (.inl rfl)) _) (.inl (.inr rfl)) _
       have p1:=(hcU.out.fx hfx (hfar.out g0 (by omega)))
       have q1:=p1.b
       have q2:=p1.fb
       have q3:=((hcV.out.fx hfx (hfar.out (g0+1) (by omega))).fx (Fx.setCell (p:=(·=g0)) (q:=⟨g0,1,none⟩) (Fx.refl _ wd4) (.inl rfl) (.slice (some ⟨gA,0,none⟩) (t+1) capA)) (by omega))
       have q4:=q3.b
       have q5:=q3.fb
       refine uD 17 (fun K hK=>?_)
       go_simp
       refine hK.out _ _ ?_
       clear hK K
       refine uD 18 (fun K hK=>?_)
       go_simp
       refine hK.out _ _ ?_
       clear hK K
       try simp only [Act.put,lsT,ls0,lsS]
       refine uD 19 (fun K hK=>?_)
       go_simp
       refine hK.out _ _ ?_
       clear hK K
       refine uE ?_
       have hfq:Fr wq ((wd4.setCell ⟨g0,1,none⟩ (.slice (some ⟨gA,0,none⟩) (t+1) capA)).setCell ⟨g0+1,1,none⟩ (.slice (some ⟨gB,0,none⟩) (t+1) capB)):=(((Fx.of_fr hf).trans (hfx.mono (fun k hk=>(.inl hk:(u1.ownBlock=some k∨u2.ownBlock=some k)∨(k=g0∨k=g0+1))))).trans (hfs.mono (fun k hk=>.inr hk))).toFr (fun k hk e=>by
        rcases e with (e | e) | (e | e)
        ·have:=(hvA.out k e).1; omega
        ·have:=(hvB.out k e).1; omega
        ·omega
        ·omega)
       replace hoA:=hZ (ownsRow_fx hoA.out hfs (fun q hq e=>by have hq:some gA=some q:=hq; injection hq with hq; omega))
       replace hoB:=hZ (ownsRow_fx hoB.out hfs (fun q hq e=>by have hq:some gB=some q:=hq; injection hq with hq; omega))
       replace hoD:=hZ (ownsRow_fx (ownsRow_fx hoD.out hfx (fun q hq e=>by rcases e with e | e; exact (hap.out q e).2 hq; exact hbp.out q e hq)) hfs (fun q hq e=>by have:=(hvD.out q hq).1; omega))
       replace hCU9b:=hZ hCU9b
       replace hCV9:=hZ hCV9
       replace hBA:=hZ hBA
       replace hBD:=hZ hBD
       obtain ⟨wx,hwx⟩:∃ wx,wx=((wd4.setCell ⟨g0,1,none⟩ (.slice (some ⟨gA,0,none⟩) (t+1) capA)).setCell ⟨g0+1,1,none⟩ (.slice (some ⟨gB,0,none⟩) (t+1) capB)):=⟨_,rfl⟩
       rw [← hwx] at hfq hoA hoB hoD hCU9b hCV9
       rw [← hwx]
       clear hwx hfs p1 q1 q2 q3 q4 q5 hCU9 hfx hS0 hAB
       have d1:=hxa.out wx hfq t x hx.out
       have d2:=hxb.out wx hfq t y hy.out
       have hvD2:=hZ (hoD.out.lt)
       go_wp2_with fail
       refine wp_region_held_drew (S:=fun W'=>W'.cell? ⟨db+1,t,none⟩=some (.int .i8 x)∧W'.cell? ⟨db+1+1,t,none⟩=some (.int .i8 y)) (by kernel_rfl) ⟨(Fr.refl wx).drew.keep d1,(Fr.refl wx).drew.keep d2⟩ (fun hHeld=>?_)
       obtain ⟨wd9,hwd9⟩:∃ W,W=wx.drew:=⟨_,rfl⟩
       have hfw:Fr wx wd9:=by rw [hwd9]; exact (Fr.refl wx).drew
       rw [← hwd9] at hHeld ⊢
       clear hwd9
       refine hK 0 ?_
       change wpAnyH _ _ _ _ _ _ _ (Act.put _ (some 107) _) _
       simp only [Act.put,lsT,ls0,lsS]
       refine hK 1 ?_
       change wpAnyH _ _ _ _ _ _ _ (Act.put _ (some 108) _) _
       simp only [Act.put,lsT,ls0,lsS]
       refine hK 2 ?_
       change wpAnyH _ _ _ _ _ _ _ (Act.put _ (some 109) _) _
       simp only [Act.put,lsT,ls0,lsS]
       refine hK 3 ?_
       change wpAnyH _ _ _ _ _ _ _ (Act.put _ (some 110) _) _
       simp only [Act.put,lsT,ls0,lsS]
       refine hK 4 ?_
       change wpAnyH _ _ _ _ _ _ _ (Act.put _ (some 111) _) _
       simp only [Act.put,lsT,ls0,lsS]
       refine hK 5 ?_
       change wpAnyH _ _ _ _ _ _ _ (Act.put _ (some 112) _) _
       simp only [Act.put,lsT,ls0,lsS]
       refine hK 6 ?_
       change wpAnyH _ _ _ _ _ _ _ (Act.put _ (some 113) _) _
       simp only [Act.put,lsT,ls0,lsS]
       refine hK 7 ?_
       change wpAnyH _ _ _ _ _ _ _ (Act.put _ (some 114) _) _
       simp only [Act.put,lsT,ls0,lsS]
       refine hK 8 ?_
       change wpAnyH _ _ _ _ _ _ _ (Act.put _ (some 115) _) _
       simp only [Act.put,lsT,ls0,lsS]
       refine hK 9 ?_
       change wpAnyH _ _ _ _ _ _ _ (Act.put _ (some 116) _) _
       simp only [Act.put,lsT,ls0,lsS]
       refine hC 10 (fun K hK=>?_)
       go_simp
       refine hK.out _ _ ⟨(hfw.alloc _).keep d1,(hfw.alloc _).keep d2⟩ (fun hHeld=>?_)
       clear hK K
       obtain ⟨wy,hwy⟩:∃ W,W=wd9.alloc (.cells #[.int .i64 (x - y)] 3):=⟨_,rfl⟩
       have hfy:Fr wx wy:=by rw [hwy]; exact hfw.alloc _
       obtain ⟨pD,hpD⟩:∃ p,p=wd9.heap.size:=⟨_,rfl⟩
       have hcD:wy.cell? ⟨pD,0,none⟩=some (.int .i64 (x - y)):=by rw [hwy,hpD]; exact new_cell _ _ _
       rw [← hpD,← hwy]
       rw [← hwy] at hHeld
       clear hwy
       replace hoD:=hZ (ownsRow_fr hoD.out hfy)
       try simp only [Act.put,lsT]
       refine hC 11 (fun K hK=>?_)
       refine step_append_lies _ rfl (.tmp 107) (.tmp 117) 44 rfl (g0+2) 3 i1 _ 1 8 Tryz.underlying44 ji jz0 jz1 jz2 rfl (by decide) u3 t _ (by simp [Act.eval]) hoD.out ⟨pD,0,none⟩ 1 1 [.int .i64 (x - y)] (by simp [Act.eval]) rfl (one_at hcD) (by simp [Value.oneCell']) (by decide) (by unfold maxLen; omega) (by omega) (by have:=hfy.size; have:=hCV9.out.lt; omega) wy.heap.size rfl ?_
       intro gD capD wz hownD hgrD hatD hltD
       have hfg:=Fx.of_grown hgrD
       have hDA:gD≠gA∧gD≠gB:=by
        have h1:=(hoA.out.lt gA rfl).2
        have h2:=(hoB.out.lt gB rfl).2
        rcases hatD with h | h
        ·exact ⟨fun e=>hAD.out gD h e.symm,fun e=>hBD.out gD h e.symm⟩
        ·have:=hfy.size; exact ⟨by omega,by omega⟩
       refine hK.out _ _ ⟨hfg.keep (hfy.keep d1) (fun e=>by have e1:=(hvD2.out _ e).1; have e1:g0+2≤db+1:=e1; omega),hfg.keep (hfy.keep d2) (fun e=>by have e1:=(hvD2.out _ e).1; have e1:g0+2≤db+1+1:=e1; omega)⟩ (fun hHeld=>?_)
       clear hK K
       change wpAnyH _ _ _ _ _ _ _ (Act.put _ (some 118) _) _
       simp only [Act.put,lsT,ls0,lsS]
       have hap9:∀ q,(Value.slice (some ⟨gA,0,none⟩) (t+1) capA).ownBlock=some q→(Value.slice (some ⟨gB,0,none⟩) (t+1) capB).ownBlock≠some q∧(Value.slice (some ⟨gD,0,none⟩) (t+1) capD).ownBlock≠some q:=fun q hq=>by
        have hq:some gA=some q:=hq
        injection hq with hq
        exact ⟨fun e=>by have e:some gB=some q:=e; injection e with e; exact hBA.out (hq.trans e.symm),fun e=>by have e:some gD=some q:=e; injection e with e; exact hDA.1 (e.trans hq.symm)⟩
       have hbp9:∀ q,(Value.slice (some ⟨gB,0,none⟩) (t+1) capB).ownBlock=some q→(Value.slice (some ⟨gD,0,none⟩) (t+1) capD).ownBlock≠some q:=fun q hq e=>by
        have hq:some gB=some q:=hq
        have e:some gD=some q:=e
        injection hq with hq
        injection e with e
        exact hDA.2 (e.trans hq.symm)
       have hfz:Fr wq wz:=((Fx.of_fr (hfq.trans hfy)).trans hfg).toFr (fun k hk e=>by have:=(hvD2.out k e).1; omega)
       have hoA9:=ownsRow_fx (ownsRow_fr hoA.out hfy) hfg (fun q hq e=>by have hq:some gA=some q:=hq; injection hq with hq; exact hAD.out q e hq)
       have hoB9:=ownsRow_fx (ownsRow_fr hoB.out hfy) hfg (fun q hq e=>by have hq:some gB=some q:=hq; injection hq with hq; exact hBD.out q e hq)
       have hCU7:=(hCU9b.out.fr hfy).fx hfg (fun e=>by have:=(hvD2.out _ e).1; omega)
       have hCV7:=(hCV9.out.fr hfy).fx hfg (fun e=>by have:=(hvD2.out _ e).1; omega)
       rw [← hsD.out] at hownD
       clear hoA hoB hoD hgrD hatD d1 d2
       refine hK 12 ?_
       change wpAnyH _ _ _ _ _ _ _ (Act.put _ (some 18) _) _
       simp only [Act.put,lsT,ls0,lsS]
       refine wpAnyH_done (by kernel_rfl) ?_ _
       go_wp2_with fail
       go_roundg (kv - 1)
       case measure=>omega
       case rel=>exact ⟨t+1,_,_,by go_num,by omega,hfz,hCU7,hCV7,hoA9,hoB9,hownD,hap9,hbp9⟩
     ·
      go_simp
      refine hK.out _ _ (hS0.out _ (hfx.fr ((Fr.refl _).alloc _))) (fun hHeld=>?_)
      clear hK K
      obtain ⟨wa1,hW⟩:∃ W,W=wd.alloc (.cells #[.int .i64 (y)] 3):=⟨_,rfl⟩
      have hfA:Fr wd wa1:=by rw [hW]; exact (Fr.refl _).alloc _
      obtain ⟨pB,hp⟩:∃ p,p=wd.heap.size:=⟨_,rfl⟩
      have hcB:wa1.cell? ⟨pB,0,none⟩=some (.int .i64 (y)):=by rw [hW,hp]; exact new_cell _ _ _
      have pBz:wv.heap.size≤pB:=by rw [hp]; exact hfx.size
      rw [← hp,← hW]
      rw [← hW] at hHeld
      replace hp:=hZ hp
      replace hcB:=hZ hcB
      (try replace hcA:=hZ (hfA.keep hcA.out))
      (try replace hcB:=hZ (hfA.keep hcB.out))
      replace hoA:=hZ (ownsRow_fr hoA.out hfA)
      replace hoB:=hZ (ownsRow_fr hoB.out hfA)
      replace hfx:=hfx.fr hfA
      clear hW hfA
      try simp only [Act.put,lsT]
      refine uC 6 (fun K hK=>?_)
      go_simp
      refine hK.out _ _ (hS0.out _ (hfx.fr ((Fr.refl _).alloc _))) (fun hHeld=>?_)
      clear hK K
      obtain ⟨wb2,hW⟩:∃ W,W=wa1.alloc (.cells #[.int .i64 (x)] 3):=⟨_,rfl⟩
      have hfA:Fr wa1 wb2:=by rw [hW]; exact (Fr.refl _).alloc _
      obtain ⟨pA,hp⟩:∃ p,p=wa1.heap.size:=⟨_,rfl⟩
      have hcA:wb2.cell? ⟨pA,0,none⟩=some (.int .i64 (x)):=by rw [hW,hp]; exact new_cell _ _ _
      have pAz:wv.heap.size≤pA:=by rw [hp]; exact hfx.size
      rw [← hp,← hW]
      rw [← hW] at hHeld
      replace hp:=hZ hp
      replace hcA:=hZ hcA
      (try replace hcA:=hZ (hfA.keep hcA.out))
      (try replace hcB:=hZ (hfA.keep hcB.out))
      replace hoA:=hZ (ownsRow_fr hoA.out hfA)
      replace hoB:=hZ (ownsRow_fr hoB.out hfA)
      replace hfx:=hfx.fr hfA
      clear hW hfA
      try simp only [Act.put,lsT]
      refine uC 7 (fun K hK=>?_)
      refine step_append_lies _ rfl (.tmp 90) (.tmp 95) 44 rfl (g0+2) 3 i1 _ 1 8 Tryz.underlying44 ji jz0 jz1 jz2 rfl (by decide) u1 t _ (by simp [Act.eval]) hoA.out ⟨pA,0,none⟩ 1 1 [.int .i64 x] (by simp [Act.eval]) rfl (one_at hcA.out) (by simp [Value.oneCell']) (by decide) (by unfold maxLen; omega) (by omega) (by have:=hfx.size; omega) wb2.heap.size rfl ?_
      intro gA capA wc3 hownA hgrA hatA hltA
      have hfg:=Fx.of_grown hgrA
      have hAz:g0+2≤gA:=(hownA.lt gA rfl).1
      have hAB:∀ q,u2.ownBlock=some q→gA≠q:=fun q hq e=>by
       rcases hatA with h | h
       ·exact (hap.out gA h).1 (by rw [hq,e])
       ·have:=(hvB.out q hq).2; have:=hfx.size; omega
      have hAD:Hid (∀ q,u3.ownBlock=some q→gA≠q):=fun q hq e=>by
       rcases hatA with h | h
       ·exact (hap.out gA h).2 (by rw [hq,e])
       ·have:=(hvD.out q hq).2; have:=hfx.size; omega
      replace hoB:=hZ (ownsRow_fx hoB.out hfg (fun q hq e=>(hap.out q e).1 hq))
      (try replace hcB:=hZ (hfg.keep hcB.out (fun e=>by have:=(hvA.out pB e).2; omega)))
      replace hfx:=hfx.trans (hfg.mono (fun k hk=>.inl hk))
      rw [← hsA.out] at hownA
      replace hoA:=hZ hownA
      clear hgrA hfg hatA hcA
      refine hK.out _ _ (hS0.out _ hfx) (fun hHeld=>?_)
      clear hK K
      change wpAnyU _ _ _ _ _ _ _ _ (Act.put _ (some 96) _) _
      simp only [Act.put,lsT,ls0,lsS]
      refine uM 16 105 ?_; try simp only [lsT,ls0,lsS]
      refine uC 15 (fun K hK=>?_)
      refine step_append_lies _ rfl (.tmp 98) (.tmp 103) 44 rfl (g0+2) 3 i1 _ 1 8 Tryz.underlying44 ji jz0 jz1 jz2 rfl (by decide) u2 t _ (by simp [Act.eval]) hoB.out ⟨pB,0,none⟩ 1 1 [.int .i64 y] (by simp [Act.eval]) rfl (one_at hcB.out) (by simp [Value.oneCell']) (by decide) (by unfold maxLen; omega) (by omega) (by have:=hfx.size; omega) wc3.heap.size rfl ?_
      intro gB capB wd4 hownB hgrB hatB hltB
      have hfg:=Fx.of_grown hgrB
      have hBz:g0+2≤gB:=(hownB.lt gB rfl).1
      have hBA:gA≠gB:=fun e=>by
       have h9:=(hoA.out.lt gA rfl).2
       rcases hatB with h | h
       ·exact hAB gB h e
       ·omega
      have hBD:∀ q,u3.ownBlock=some q→gB≠q:=fun q hq e=>by
       rcases hatB with h | h
       ·exact hbp.out gB h (by rw [hq,e])
       ·have:=(hvD.out q hq).2; have:=hfx.size; omega
      replace hoA:=hZ (ownsRow_fx hoA.out hfg (fun q hq e=>by have hq:some gA=some q:=hq; injection hq with hq; exact hAB q e hq))
      replace hfx:=hfx.trans (hfg.mono (fun k hk=>.inr hk))
      rw [← hsB.out] at hownB
      replace hoB:=hZ hownB
      clear hgrB hfg hatB hcB
      refine hK.out _ _ (hS0.out _ hfx) (fun hHeld=>?_)
      clear hK K hHeld
      change wpAnyU _ _ _ _ _ _ _ _ (Act.put _ (some 104) _) _
      simp only [Act.put,lsT,ls0,lsS]
      have hCU9:=(hcU.out.fx hfx (hfar.out g0 (by omega))).set1 (.slice (some ⟨gA,0,none⟩) (t+1) capA)
      have hCV9:=(((hcV.out.fx hfx (hfar.out (g0+1) (by omega))).fx (Fx.setCell (p:=(·=g0)) (q:=⟨g0,1,none⟩) (Fx.refl _ wd4) (.inl rfl) (.slice (some ⟨gA,0,none⟩) (t+1) capA)) (by omega)).set1 (.slice (some ⟨gB,0,none⟩) (t+1) capB))
      have hCU9b:=hCU9.fx (Fx.setCell (p:=(·=g0+1)) (q:=⟨g0+1,1,none⟩) (Fx.refl _ _) (.inl rfl) (.slice (some ⟨gB,0,none⟩) (t+1) capB)) (by omega)
      have hfs:Fx (fun k=>k=g0∨k=g0+1) wd4 ((wd4.setCell ⟨g0,1,none⟩ (.slice (some ⟨gA,0,none⟩) (t+1) capA)).setCell ⟨g0+1,1,none⟩ (.slice (some ⟨gB,0,none⟩) (t+1) capB)):=Fx.setCell (q:=⟨g0+1,1,none⟩) (Fx.setCell (q:=⟨g0,1,none⟩) (Fx.refl _ wd4) (.inl (.inl rfl)) _) (.inl (.inr rfl)) _
      have p1:=(hcU.out.fx hfx (hfar.out g0 (by omega)))
      have q1:=p1.b
      have q2:=p1.fb
      have q3:=((hcV.out.fx hfx (hfar.out (g0+1) (by omega))).fx (Fx.setCell (p:=(·=g0)) (q:=⟨g0,1,none⟩) (Fx.refl _ wd4) (.inl rfl) (.slice (some ⟨gA,0,none⟩) (t+1) capA)) (by omega))
      have q4:=q3.b
      have q5:=q3.fb
      refine uD 17 (fun K hK=>?_)
      go_simp
      refine hK.out _ _ ?_
      clear hK K
      refine uD 18 (fun K hK=>?_)
      go_simp
      refine hK.out _ _ ?_
      clear hK K
      try simp only [Act.put,lsT,ls0,lsS]
      refine uD 19 (fun K hK=>?_)
      go_simp
      refine hK.out _ _ ?_
      clear hK K
      refine uE ?_
      have hfq:Fr wq ((wd4.setCell ⟨g0,1,none⟩ (.slice (some ⟨gA,0,none⟩) (t+1) capA)).setCell ⟨g0+1,1,none⟩ (.slice (some ⟨gB,0,none⟩) (t+1) capB)):=(((Fx.of_fr hf).trans (hfx.mono (fun k hk=>(.inl hk:(u1.ownBlock=some k∨u2.ownBlock=some k)∨(k=g0∨k=g0+1))))).trans (hfs.mono (fun k hk=>.inr hk))).toFr (fun k hk e=>by
       rcases e with (e | e) | (e | e)
       ·have:=(hvA.out k e).1; omega
       ·have:=(hvB.out k e).1; omega
       ·omega
       ·omega)
      replace hoA:=hZ (ownsRow_fx hoA.out hfs (fun q hq e=>by have hq:some gA=some q:=hq; injection hq with hq; omega))
      replace hoB:=hZ (ownsRow_fx hoB.out hfs (fun q hq e=>by have hq:some gB=some q:=hq; injection hq with hq; omega))
      replace hoD:=hZ (ownsRow_fx (ownsRow_fx hoD.out hfx (fun q hq e=>by rcases e with e | e; exact (hap.out q e).2 hq; exact hbp.out q e hq)) hfs (fun q hq e=>by have:=(hvD.out q hq).1; omega))
      replace hCU9b:=hZ hCU9b
      replace hCV9:=hZ hCV9
      replace hBA:=hZ hBA
      replace hBD:=hZ hBD
      obtain ⟨wx,hwx⟩:∃ wx,wx=((wd4.setCell ⟨g0,1,none⟩ (.slice (some ⟨gA,0,none⟩) (t+1) capA)).setCell ⟨g0+1,1,none⟩ (.slice (some ⟨gB,0,none⟩) (t+1) capB)):=⟨_,rfl⟩
      rw [← hwx] at hfq hoA hoB hoD hCU9b hCV9
      rw [← hwx]
      clear hwx hfs p1 q1 q2 q3 q4 q5 hCU9 hfx hS0 hAB
      have d1:=hxa.out wx hfq t x hx.out
      have d2:=hxb.out wx hfq t y hy.out
      have hvD2:=hZ (hoD.out.lt)
      go_wp2_with fail
      refine wp_region_held_drew (S:=fun W'=>W'.cell? ⟨db+1,t,none⟩=some (.int .i8 x)∧W'.cell? ⟨db+1+1,t,none⟩=some (.int .i8 y)) (by kernel_rfl) ⟨(Fr.refl wx).drew.keep d1,(Fr.refl wx).drew.keep d2⟩ (fun hHeld=>?_)
      obtain ⟨wd9,hwd9⟩:∃ W,W=wx.drew:=⟨_,rfl⟩
      have hfw:Fr wx wd9:=by rw [hwd9]; exact (Fr.refl wx).drew
      rw [← hwd9] at hHeld ⊢
      clear hwd9
      refine hK 0 ?_
      change wpAnyH _ _ _ _ _ _ _ (Act.put _ (some 107) _) _
      simp only [Act.put,lsT,ls0,lsS]
      refine hK 1 ?_
      change wpAnyH _ _ _ _ _ _ _ (Act.put _ (some 108) _) _
      simp only [Act.put,lsT,ls0,lsS]
      refine hK 2 ?_
      change wpAnyH _ _ _ _ _ _ _ (Act.put _ (some 109) _) _
      simp only [Act.put,lsT,ls0,lsS]
      refine hK 3 ?_
      change wpAnyH _ _ _ _ _ _ _ (Act.put _ (some 110) _) _
      simp only [Act.put,lsT,ls0,lsS]
      refine hK 4 ?_
      change wpAnyH _ _ _ _ _ _ _ (Act.put _ (some 111) _) _
      simp only [Act.put,lsT,ls0,lsS]
      refine hK 5 ?_
      change wpAnyH _ _ _ _ _ _ _ (Act.put _ (some 112) _) _
      simp only [Act.put,lsT,ls0,lsS]
      refine hK 6 ?_
      change wpAnyH _ _ _ _ _ _ _ (Act.put _ (some 113) _) _
      simp only [Act.put,lsT,ls0,lsS]
      refine hK 7 ?_
      change wpAnyH _ _ _ _ _ _ _ (Act.put _ (some 114) _) _
      simp only [Act.put,lsT,ls0,lsS]
      refine hK 8 ?_
      change wpAnyH _ _ _ _ _ _ _ (Act.put _ (some 115) _) _
      simp only [Act.put,lsT,ls0,lsS]
      refine hK 9 ?_
      change wpAnyH _ _ _ _ _ _ _ (Act.put _ (some 116) _) _
      simp only [Act.put,lsT,ls0,lsS]
      refine hC 10 (fun K hK=>?_)
      go_simp
      refine hK.out _ _ ⟨(hfw.alloc _).keep d1,(hfw.alloc _).keep d2⟩ (fun hHeld=>?_)
      clear hK K
      obtain ⟨wy,hwy⟩:∃ W,W=wd9.alloc (.cells #[.int .i64 (x - y)] 3):=⟨_,rfl⟩
      have hfy:Fr wx wy:=by rw [hwy]; exact hfw.alloc _
      obtain ⟨pD,hpD⟩:∃ p,p=wd9.heap.size:=⟨_,rfl⟩
      have hcD:wy.cell? ⟨pD,0,none⟩=some (.int .i64 (x - y)):=by rw [hwy,hpD]; exact new_cell _ _ _
      rw [← hpD,← hwy]
      rw [← hwy] at hHeld
      clear hwy
      replace hoD:=hZ (ownsRow_fr hoD.out hfy)
      try simp only [Act.put,lsT]
      refine hC 11 (fun K hK=>?_)
      refine step_append_lies _ rfl (.tmp 107) (.tmp 117) 44 rfl (g0+2) 3 i1 _ 1 8 Tryz.underlying44 ji jz0 jz1 jz2 rfl (by decide) u3 t _ (by simp [Act.eval]) hoD.out ⟨pD,0,none⟩ 1 1 [.int .i64 (x - y)] (by simp [Act.eval]) rfl (one_at hcD) (by simp [Value.oneCell']) (by decide) (by unfold maxLen; omega) (by omega) (by have:=hfy.size; have:=hCV9.out.lt; omega) wy.heap.size rfl ?_
      intro gD capD wz hownD hgrD hatD hltD
      have hfg:=Fx.of_grown hgrD
      have hDA:gD≠gA∧gD≠gB:=by
       have h1:=(hoA.out.lt gA rfl).2
       have h2:=(hoB.out.lt gB rfl).2
       rcases hatD with h | h
       ·exact ⟨fun e=>hAD.out gD h e.symm,fun e=>hBD.out gD h e.symm⟩
       ·have:=hfy.size; exact ⟨by omega,by omega⟩
      refine hK.out _ _ ⟨hfg.keep (hfy.keep d1) (fun e=>by have e1:=(hvD2.out _ e).1; have e1:g0+2≤db+1:=e1; omega),hfg.keep (hfy.keep d2) (fun e=>by have e1:=(hvD2.out _ e).1; have e1:g0+2≤db+1+1:=e1; omega)⟩ (fun hHeld=>?_)
      clear hK K
      change wpAnyH _ _ _ _ _ _ _ (Act.put _ (some 118) _) _
      simp only [Act.put,lsT,ls0,lsS]
      have hap9:∀ q,(Value.slice (some ⟨gA,0,none⟩) (t+1) capA).ownBlock=some q→(Value.slice (some ⟨gB,0,none⟩) (t+1) capB).ownBlock≠some q∧(Value.slice (some ⟨gD,0,none⟩) (t+1) capD).ownBlock≠some q:=fun q hq=>by
       have hq:some gA=some q:=hq
       injection hq with hq
       exact ⟨fun e=>by have e:some gB=some q:=e; injection e with e; exact hBA.out (hq.trans e.symm),fun e=>by have e:some gD=some q:=e; injection e with e; exact hDA.1 (e.trans hq.symm)⟩
      have hbp9:∀ q,(Value.slice (some ⟨gB,0,none⟩) (t+1) capB).ownBlock=some q→(Value.slice (some ⟨gD,0,none⟩) (t+1) capD).ownBlock≠some q:=fun q hq e=>by
       have hq:some gB=some q:=hq
       have e:some gD=some q:=e
       injection hq with hq
       injection e with e
       exact hDA.2 (e.trans hq.symm)
      have hfz:Fr wq wz:=((Fx.of_fr (hfq.trans hfy)).trans hfg).toFr (fun k hk e=>by have:=(hvD2.out k e).1; omega)
      have hoA9:=ownsRow_fx (ownsRow_fr hoA.out hfy) hfg (fun q hq e=>by have hq:some gA=some q:=hq; injection hq with hq; exact hAD.out q e hq)
      have hoB9:=ownsRow_fx (ownsRow_fr hoB.out hfy) hfg (fun q hq e=>by have hq:some gB=some q:=hq; injection hq with hq; exact hBD.out q e hq)
      have hCU7:=(hCU9b.out.fr hfy).fx hfg (fun e=>by have:=(hvD2.out _ e).1; omega)
      have hCV7:=(hCV9.out.fr hfy).fx hfg (fun e=>by have:=(hvD2.out _ e).1; omega)
      rw [← hsD.out] at hownD
      clear hoA hoB hoD hgrD hatD d1 d2
      refine hK 12 ?_
      change wpAnyH _ _ _ _ _ _ _ (Act.put _ (some 18) _) _
      simp only [Act.put,lsT,ls0,lsS]
      refine wpAnyH_done (by kernel_rfl) ?_ _
      go_wp2_with fail
      go_roundg (kv - 1)
      case measure=>omega
      case rel=>exact ⟨t+1,_,_,by go_num,by omega,hfz,hCU7,hCV7,hoA9,hoB9,hownD,hap9,hbp9⟩
    ·have hdT:decide (t < la)=false:=decide_eq_false ht
     obtain rfl:la=t:=by omega
     obtain ⟨cs,hcs⟩:∃ cs,cs=xs.take la:=⟨_,rfl⟩
     obtain ⟨ct,hct⟩:∃ ct,ct=ys.take la:=⟨_,rfl⟩
     obtain ⟨dd,hdd⟩:∃ dd,dd=ds.take la:=⟨_,rfl⟩
     have hcsl:cs.length=la:=by rw [hcs,List.length_take,hxl.out]; omega
     have hctl:ct.length=la:=by rw [hct,List.length_take,hyl.out]; omega
     have hddl:dd.length=la:=by rw [hdd,List.length_take,hdl.out]; omega
     have hcs8:∀ x,x ∈ cs→-128≤x∧x≤127:=fun x hx=>by rw [hcs] at hx; exact ha8.out x (List.mem_of_mem_take hx)
     have hct8:∀ x,x ∈ ct→-128≤x∧x≤127:=fun x hx=>by rw [hct] at hx; exact hb8.out x (List.mem_of_mem_take hx)
     have hdg2:∀ j,j < la→(dd[j]?).getD 0=(cs[j]?).getD 0 - (ct[j]?).getD 0:=fun j hj=>by
      have e1:=List.getElem?_eq_getElem (show j < xs.length by rw [hxl.out]; omega)
      have e2:=List.getElem?_eq_getElem (show j < ys.length by rw [hyl.out]; omega)
      have e3:=hdg.out j _ _ e1 e2
      rw [hdd,hcs,hct,List.getElem?_take,List.getElem?_take,List.getElem?_take,if_pos hj,if_pos hj,if_pos hj,e1,e2,e3]; rfl
     have hdb2:∀ k:Nat,((dd[k]?).getD 0).natAbs≤256:=fun k=>by
      by_cases hk:k < la
      ·rw [hdg2 k hk]
       have e1:=List.getElem?_eq_getElem (show k < cs.length by omega)
       have e2:=List.getElem?_eq_getElem (show k < ct.length by omega)
       rw [e1,e2]
       have h1:=hcs8 _ (List.mem_of_getElem? e1)
       have h2:=hct8 _ (List.mem_of_getElem? e2)
       show (cs[k] - ct[k]).natAbs≤256
       omega
      ·rw [List.getElem?_eq_none (by omega)]; decide
     have hml:(A.map Sy.row).length=la:=by rw [List.length_map]; exact hla.out.symm
     obtain ⟨sp,hsp,hiff⟩:=hRK.out.has dd (by rw [hml]; exact hddl) hdb2
     have hrect:Rect d (A.map Sy.row):=fun r hr=>by
      obtain ⟨z,hz,rfl⟩:=List.mem_map.1 hr
      exact hok.out.row z (List.mem_append_right _ hz)
     have hriff:sumS N A (0,cs)=sumS N A (0,ct) ↔ ∀ k,k < d→dotZ (fun j=>(dd[j]?).getD 0) (fun j=>ent (A.map Sy.row) j k) (A.map Sy.row).length=0:=by
      obtain ⟨z,hz⟩:∃ z,N[0]?=some z:=⟨_,List.getElem?_eq_getElem hok.out.n1⟩
      exact row_iff hrect (s0:=rowOf N 0) (by rw [rowOf_eq hz]; exact hok.out.row z (List.mem_append_left _ (List.mem_of_getElem? hz))) (by rw [hml]; exact hcsl) (by rw [hml]; exact hctl) (fun j hj=>hdg2 j (by rw [hml] at hj; exact hj))
     have hin:zeroB sp.1=decide (sumS N A (0,cs)=sumS N A (0,ct)):=by
      by_cases e:sumS N A (0,cs)=sumS N A (0,ct)
      ·rw [decide_eq_true e]; exact hiff.2 (hriff.1 e)
      ·rw [decide_eq_false e]
       cases hz:zeroB sp.1 with
       | false=>rfl
       | true=>exact absurd (hriff.2 (hiff.1 hz)) e
     have hoA9:=hoA.out
     have hoB9:=hoB.out
     have hoD9:=hoD.out
     rw [← hcs] at hoA9
     rw [← hct] at hoB9
     rw [← hdd] at hoD9
     obtain ⟨a1,c1,rfl,he1⟩:=own_rd (by omega) hoA9
     obtain ⟨a2,c2,rfl,he2⟩:=own_rd (by omega) hoB9
     obtain ⟨a3,c3,rfl,he3⟩:=own_rd (by omega) hoD9
     have hf2v:=hf2q.trans hf
     have hr1:=hZ (fun W (hW:Fr wv W)=>by
      have h:=read_law d (some ⟨nb,no,none⟩) aA cN cA N A 0 cs a1 c1 W (hGf.out W (hf2v.trans hW)) (hn.fr (hf2v.trans hW)) hok.out hok.out.n1 (he1.fr hW) (hcsl.trans hla.out) (fun x hx=>by have:=hcs8 x hx; exact decide_eq_true ⟨by omega,by omega⟩)
      unfold IntsRet at h
      rw [← hM.out,← hla.out,hcsl] at h
      exact h)
     have hr2:=hZ (fun W (hW:Fr wv W)=>by
      have h:=read_law d (some ⟨nb,no,none⟩) aA cN cA N A 0 ct a2 c2 W (hGf.out W (hf2v.trans hW)) (hn.fr (hf2v.trans hW)) hok.out hok.out.n1 (he2.fr hW) (hctl.trans hla.out) (fun x hx=>by have:=hct8 x hx; exact decide_eq_true ⟨by omega,by omega⟩)
      unfold IntsRet at h
      rw [← hM.out,← hla.out,hctl] at h
      exact h)
     have hsl:∀ c:List Int,c.length=la→(sumS N A (0,c)).length=d:=fun c hc=>by
      obtain ⟨z,hz⟩:∃ z,N[0]?=some z:=⟨_,List.getElem?_eq_getElem hok.out.n1⟩
      exact sumL_len (by rw [rowOf_eq hz]; exact hok.out.row z (List.mem_append_left _ (List.mem_of_getElem? hz))) hrect
     have heq:=hZ (fun W (a b:Option Addr) (k1 k2:Nat) (h1:El W sv a (sumS N A (0,cs))) (h2:El W sv b (sumS N A (0,ct)))=>by
      have h:=Equal_txs _ _ a b k1 k2 W h1 h2 (by rw [hsl cs hcsl]; omega) (by rw [hsl ct hctl]; omega)
      rw [← hin] at h
      exact h)
     have w1:=(hf.keep vq1.out)
     have w2':=(hf.keep vq2.out)
     have w3:=hcU.out.a
     have w4:=hcU.out.b
     have w5:=hcV.out.a
     have w6:=hcV.out.b
     have hS0:Hid (∀ W',Fr wv W'→W'.cell? ⟨nbk,0,none⟩=some (.slice (some ⟨nb,no,none⟩) M cN)∧W'.cell? ⟨nbk,1,none⟩=some (.slice aA la cA)∧W'.cell? ⟨g0,0,none⟩=some (.int .i64 0)∧W'.cell? ⟨g0,1,none⟩=some (.slice a1 la c1)∧W'.cell? ⟨g0+1,0,none⟩=some (.int .i64 0)∧W'.cell? ⟨g0+1,1,none⟩=some (.slice a2 la c2)):=fun W' h=>⟨h.keep w1,h.keep w2',h.keep w3,h.keep w4,h.keep w5,h.keep w6⟩
     have eg:∀ args w,(callFunc 14 args).run Tryz.prog w=.ok (.enter 14 args) w:=enters_of Tryz.func14 (by kernel_rfl) rfl
     have hcd:=ContainsFunc_row dd a3 c3 14 #[] (fun x=>x != 0) wv eg he3 (by omega) (rl1_pred wv dd)
     rw [hddl] at hcd
     have hcon:Hid (kl≠0→∀ W,Fr wv W→Calls Tryz.prog 15 #[.slice a4 kl c4,.slice a3 la c3] W fun e w'=>e=.returned (.tuple #[.bool (zeroB sp.1),.int .i64 0])∧Fr W w'):=fun h0 W hW=>by
      have hTT:=hT.out
      rw [← hla.out] at hTT
      have hkk:0 < K.length:=by rw [← hkl.out]; omega
      have h:=HContains_ok K dd sp a4 a3 c4 c3 la W (hGf.out W (hf2v.trans hW)) (hm4.out.fr (hfBq.out.trans (hf.trans hW))) hTT (by rw [← hkl.out]; exact hc4.out) hRK.out.form (by have:=hRK.out.le; rw [hml] at this; omega) hkk (he3.fr hW) hddl (fun x hx=>by
       obtain ⟨k,hk⟩:=List.getElem?_of_mem hx
       have:=hdb2 k
       rw [hk] at this
       have this:x.natAbs≤256:=this
       exact decide_eq_true ⟨by omega,by omega⟩) hsp
      rw [← hkl.out] at h
      exact h
     have hz0:Hid (kl=0→(!dd.any fun x=>x != 0)=zeroB sp.1):=fun h0=>by
      have e:K.length=0:=by rw [← hkl.out]; exact h0
      rw [e] at hsp
      injection hsp with hsp
      rw [← hsp]; rfl
     replace hcd:=hZ hcd
     clear hcs hct hdd hcsl hctl hddl hcs8 hct8 hdg2 hdb2 hml hsp hiff hrect hriff hin hoA9 hoB9 hoD9 hsl w1 w2' w3 w4 w5 w6 eg hoA hoB hoD hap hbp he1 he2 he3 hcU hcV
     go_wp2_with fail
     refine hcd.out.mono ?_
     rintro e w3 ⟨rfl,hf3⟩
     by_cases hk0:kl=0
     ·have hz9:=hz0.out hk0
      have hk1:decide (0 < kl)=false:=decide_eq_false (by omega)
      replace hk0:=hZ hk0
      replace hz9:=hZ hz9
      go_upto_region 31 with (fail)
      rw [hz9.out]
      have v2d:=(Fr.refl w3).drew
      refine wp_region_held_drew (S:=fun W'=>W'.cell? ⟨nbk,0,none⟩=some (.slice (some ⟨nb,no,none⟩) M cN)∧W'.cell? ⟨nbk,1,none⟩=some (.slice aA la cA)∧W'.cell? ⟨g0,0,none⟩=some (.int .i64 0)∧W'.cell? ⟨g0,1,none⟩=some (.slice a1 la c1)∧W'.cell? ⟨g0+1,0,none⟩=some (.int .i64 0)∧W'.cell? ⟨g0+1,1,none⟩=some (.slice a2 la c2)) (by kernel_rfl) (hS0.out _ (hf3.trans v2d)) (fun hHeld=>?_)
      refine hK 0 ?_
      change wpAnyH _ _ _ _ _ _ _ (Act.put _ (some 134) _) _
      simp only [Act.put,lsT,ls0,lsS]
      refine hK 1 ?_
      change wpAnyH _ _ _ _ _ _ _ (Act.put _ (some 135) _) _
      simp only [Act.put,lsT,ls0,lsS]
      refine hK 2 ?_
      change wpAnyH _ _ _ _ _ _ _ (Act.put _ (some 136) _) _
      simp only [Act.put,lsT,ls0,lsS]
      refine hK 4 ?_
      change wpAnyH _ _ _ _ _ _ _ (Act.put _ (some 138) _) _
      simp only [Act.put,lsT,ls0,lsS]
      refine hK 5 ?_
      change wpAnyH _ _ _ _ _ _ _ (Act.put _ (some 139) _) _
      simp only [Act.put,lsT,ls0,lsS]
      refine hC 3 (fun K hK=>?_)
      go_simp
      (refine (hr1.out _ (hf3.trans v2d)).mono ?_; rintro e wA ⟨r1,k1,rfl,hel1,-,hfA⟩)
      go_wp2_with fail
      refine hK.out _ _ (hS0.out _ ((hf3.trans v2d).trans hfA)) (fun hHeld=>?_)
      clear hK K
      refine hC 6 (fun K hK=>?_)
      go_simp
      (refine (hr2.out _ ((hf3.trans v2d).trans hfA)).mono ?_; rintro e wB ⟨r2,k2,rfl,hel2,-,hfB⟩)
      go_wp2_with fail
      refine hK.out _ _ (hS0.out _ (((hf3.trans v2d).trans hfA).trans hfB)) (fun hHeld=>?_)
      clear hK K
      refine hC 7 (fun K hK=>?_)
      go_simp
      (refine (heq.out _ r1 r2 k1 k2 (hel1.fr hfB) hel2).mono ?_; rintro e wC ⟨rfl,hfC⟩)
      go_wp2_with fail
      refine hK.out _ _ (hS0.out _ ((((hf3.trans v2d).trans hfA).trans hfB).trans hfC)) (fun hHeld=>?_)
      clear hK K
      refine hK 8 ?_
      change wpAnyH _ _ _ _ _ _ _ (Act.put _ (some 142) _) _
      simp only [Act.put,lsT,ls0,lsS]
      refine hK 9 ?_
      change wpAnyH _ _ _ _ _ _ _ (Act.put _ (some 6) _) _
      simp only [Act.put,lsT,ls0,lsS]
      refine wpAnyH_done (by kernel_rfl) ?_ _
      clear hHeld
      go_wp2_with fail
      go_ret
      exact ⟨by first | rfl | simp,(f2.trans hf2v).trans ((((hf3.trans v2d).trans hfA).trans hfB).trans hfC)⟩
     ·have h9:=hZ (hcon.out hk0 w3 hf3)
      have hk1:decide (0 < kl)=true:=decide_eq_true (by omega)
      replace hk0:=hZ hk0
      go_wp2_with fail
      refine h9.out.mono ?_
      rintro e w4 ⟨rfl,hf4⟩
      go_upto_region 31 with (fail)
      have v2d:=(Fr.refl w4).drew
      refine wp_region_held_drew (S:=fun W'=>W'.cell? ⟨nbk,0,none⟩=some (.slice (some ⟨nb,no,none⟩) M cN)∧W'.cell? ⟨nbk,1,none⟩=some (.slice aA la cA)∧W'.cell? ⟨g0,0,none⟩=some (.int .i64 0)∧W'.cell? ⟨g0,1,none⟩=some (.slice a1 la c1)∧W'.cell? ⟨g0+1,0,none⟩=some (.int .i64 0)∧W'.cell? ⟨g0+1,1,none⟩=some (.slice a2 la c2)) (by kernel_rfl) (hS0.out _ ((hf3.trans hf4).trans v2d)) (fun hHeld=>?_)
      refine hK 0 ?_
      change wpAnyH _ _ _ _ _ _ _ (Act.put _ (some 134) _) _
      simp only [Act.put,lsT,ls0,lsS]
      refine hK 1 ?_
      change wpAnyH _ _ _ _ _ _ _ (Act.put _ (some 135) _) _
      simp only [Act.put,lsT,ls0,lsS]
      refine hK 2 ?_
      change wpAnyH _ _ _ _ _ _ _ (Act.put _ (some 136) _) _
      simp only [Act.put,lsT,ls0,lsS]
      refine hK 4 ?_
      change wpAnyH _ _ _ _ _ _ _ (Act.put _ (some 138) _) _
      simp only [Act.put,lsT,ls0,lsS]
      refine hK 5 ?_
      change wpAnyH _ _ _ _ _ _ _ (Act.put _ (some 139) _) _
      simp only [Act.put,lsT,ls0,lsS]
      refine hC 3 (fun K hK=>?_)
      go_simp
      (refine (hr1.out _ ((hf3.trans hf4).trans v2d)).mono ?_; rintro e wA ⟨r1,k1,rfl,hel1,-,hfA⟩)
      go_wp2_with fail
      refine hK.out _ _ (hS0.out _ (((hf3.trans hf4).trans v2d).trans hfA)) (fun hHeld=>?_)
      clear hK K
      refine hC 6 (fun K hK=>?_)
      go_simp
      (refine (hr2.out _ (((hf3.trans hf4).trans v2d).trans hfA)).mono ?_; rintro e wB ⟨r2,k2,rfl,hel2,-,hfB⟩)
      go_wp2_with fail
      refine hK.out _ _ (hS0.out _ ((((hf3.trans hf4).trans v2d).trans hfA).trans hfB)) (fun hHeld=>?_)
      clear hK K
      refine hC 7 (fun K hK=>?_)
      go_simp
      (refine (heq.out _ r1 r2 k1 k2 (hel1.fr hfB) hel2).mono ?_; rintro e wC ⟨rfl,hfC⟩)
      go_wp2_with fail
      refine hK.out _ _ (hS0.out _ (((((hf3.trans hf4).trans v2d).trans hfA).trans hfB).trans hfC)) (fun hHeld=>?_)
      clear hK K
      refine hK 8 ?_
      change wpAnyH _ _ _ _ _ _ _ (Act.put _ (some 142) _) _
      simp only [Act.put,lsT,ls0,lsS]
      refine hK 9 ?_
      change wpAnyH _ _ _ _ _ _ _ (Act.put _ (some 6) _) _
      simp only [Act.put,lsT,ls0,lsS]
      refine wpAnyH_done (by kernel_rfl) ?_ _
      clear hHeld
      go_wp2_with fail
      go_ret
      exact ⟨by first | rfl | simp,(f2.trans hf2v).trans (((((hf3.trans hf4).trans v2d).trans hfA).trans hfB).trans hfC)⟩
end Go.Proofs.YtcglmebcfeoedaaGreatDoor
