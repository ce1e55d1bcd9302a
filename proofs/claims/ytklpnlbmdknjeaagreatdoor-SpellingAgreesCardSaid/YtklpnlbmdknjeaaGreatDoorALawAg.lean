/- Contracts and laws: ALawAg. -/
import Derived.Test.YtklpnlbmdknjeaaGreatDoorAAgA
import Derived.Test.YtklpnlbmdknjeaaGreatDoorAAgB
import Derived.Test.YtklpnlbmdknjeaaGreatDoorASJ
import Derived.Test.YtklpnlbmdknjeaaGreatDoorASH

set_option maxRecDepth 100000
set_option maxHeartbeats 16000000
namespace Go.Proofs.YtklpnlbmdknjeaaGreatDoor
open Go.RowKit Go.Lib
attribute [local go_sem ↓] Go.wp_at_zero Go.wp_at_succ
theorem rel_none {w:World} {aN aA:Option Addr} {cN cA M d:Nat} {N A:List Sy} (hn:Nt42 w aN aA cN cA M d N A) (hok:NotOk d N A) (hd:1≤d∧d≤2) (W:World) (hG:G W) (hW:Fr w W) :
 Calls Tryz.prog 7 #[.agg #[.slice aN M cN,.slice aA d cA]] W fun e w'=>∃ a c,e=.returned (.tuple #[.slice a 0 c,.int .i64 0])∧Fr W w':=by
 have hAd:=hn.hd
 have hm:(A.map Sy.row).length=d:=by rw [List.length_map]; exact hAd
 have hr:Rect d (A.map Sy.row):=fun r hr=>by
  obtain ⟨x,hx,rfl⟩:=List.mem_map.1 hr
  exact (hn.rA x hx).2.1
 have hb:BdM 9 (A.map Sy.row):=fun r hr=>by
  obtain ⟨x,hx,rfl⟩:=List.mem_map.1 hr
  exact (hn.rA x hx).2.2
 have h:=Relations_gen d 200001 aN aA cN cA N A [] [] W hG (hn.hn.fr hW) hok hd.1 (by omega) (kerS_sq hd.1 hd.2 hm hr hb hn.det) (fun W' _ a cap _=>(Of_n A.length (by omega) a cap W').mono fun e w' h=>by
  obtain ⟨a,c,h1,-,h2,h3⟩:=h
  exact ⟨a,c,h1,h2,h3⟩)
 rw [hn.hM,hAd] at h
 refine h.mono fun e w' h=>?_
 obtain ⟨a,c,h1,-,h2⟩:=h
 exact ⟨a,c,h1,h2⟩
theorem SpellingAgrees_any (two:Bool) (nn na r0 r1 r2 r3 r4 r5 r6 r7 r8 r9 r10 r11 r12 r13 x y:Int) (w:World) (hG:G w) (hnn:0≤nn∧nn≤255) (hna:0≤na∧na≤255) (hr:∀ x,x ∈ [r0,r1,r2,r3,r4,r5,r6,r7,r8,r9,r10,r11,r12,r13]→fits8 x) (hx:fits8 x) (hy:fits8 y) :
 Calls Tryz.prog 4 #[.agg #[.bool two,.int .u8 nn,.int .u8 na,.int .i8 r0,.int .i8 r1,.int .i8 r2,.int .i8 r3,.int .i8 r4,.int .i8 r5,.int .i8 r6,.int .i8 r7,.int .i8 r8,.int .i8 r9,.int .i8 r10,.int .i8 r11,.int .i8 r12,.int .i8 r13],.agg #[.int .i8 x,.int .i8 y]] w fun e w'=>e=.returned (.bool true)∧Fr w w':=by
 obtain ⟨wb,hwb⟩:∃ wb,wb=(w.alloc (.cells #[.bool two,.int .u8 nn,.int .u8 na,.int .i8 r0,.int .i8 r1,.int .i8 r2,.int .i8 r3,.int .i8 r4,.int .i8 r5,.int .i8 r6,.int .i8 r7,.int .i8 r8,.int .i8 r9,.int .i8 r10,.int .i8 r11,.int .i8 r12,.int .i8 r13] 26)).alloc (.cells #[.int .i8 x,.int .i8 y] 23):=⟨_,rfl⟩
 have hfb:Fr w wb:=by rw [hwb]; exact ((Fr.refl w).alloc _).alloc _
 have hkn:=hZ (known_any wb (hG.fr hfb))
 replace hkn:=hkn.out
 rw [hwb] at hkn
 replace hkn:=hZ hkn
 go_enter Tryz.func4,Tryz.ntmps4
 go_wp2_with fail
 refine hkn.out.mono ?_
 rintro e w1 ⟨rfl,hf1⟩
 rw [← hwb] at hf1
 have g0:wb.heap[w.heap.size]?=some (.cells #[.bool two,.int .u8 nn,.int .u8 na,.int .i8 r0,.int .i8 r1,.int .i8 r2,.int .i8 r3,.int .i8 r4,.int .i8 r5,.int .i8 r6,.int .i8 r7,.int .i8 r8,.int .i8 r9,.int .i8 r10,.int .i8 r11,.int .i8 r12,.int .i8 r13] 26 (0,0)):=by
  rw [hwb]; exact (Below.heap_alloc _ _ _ (by simp)).trans (heap_alloc_new w _)
 have g9:wb.heap[w.heap.size+1]?=some (.cells #[.int .i8 x,.int .i8 y] 23 (0,0)):=by
  have:=heap_alloc_new (w.alloc (.cells #[.bool two,.int .u8 nn,.int .u8 na,.int .i8 r0,.int .i8 r1,.int .i8 r2,.int .i8 r3,.int .i8 r4,.int .i8 r5,.int .i8 r6,.int .i8 r7,.int .i8 r8,.int .i8 r9,.int .i8 r10,.int .i8 r11,.int .i8 r12,.int .i8 r13] 26 (0,0))) (.cells #[.int .i8 x,.int .i8 y] 23 (0,0))
  rw [World.size_alloc] at this
  rw [hwb]; exact this
 have g1:=(Below.block hf1 _ (lt_of_heap g0)).trans g0
 have g2:=(Below.block hf1 _ (lt_of_heap g9)).trans g9
 have p0:w1.cell? ⟨w.heap.size,0,none⟩=some (.bool two):=cells_of g1 0
 have p1:w1.cell? ⟨w.heap.size,1,none⟩=some (.int .u8 nn):=cells_of g1 1
 have p2:w1.cell? ⟨w.heap.size,2,none⟩=some (.int .u8 na):=cells_of g1 2
 have p3:w1.cell? ⟨w.heap.size,3,none⟩=some (.int .i8 r0):=cells_of g1 3
 have p4:w1.cell? ⟨w.heap.size,4,none⟩=some (.int .i8 r1):=cells_of g1 4
 have p5:w1.cell? ⟨w.heap.size,5,none⟩=some (.int .i8 r2):=cells_of g1 5
 have p6:w1.cell? ⟨w.heap.size,6,none⟩=some (.int .i8 r3):=cells_of g1 6
 have p7:w1.cell? ⟨w.heap.size,7,none⟩=some (.int .i8 r4):=cells_of g1 7
 have p8:w1.cell? ⟨w.heap.size,8,none⟩=some (.int .i8 r5):=cells_of g1 8
 have p9:w1.cell? ⟨w.heap.size,9,none⟩=some (.int .i8 r6):=cells_of g1 9
 have p10:w1.cell? ⟨w.heap.size,10,none⟩=some (.int .i8 r7):=cells_of g1 10
 have p11:w1.cell? ⟨w.heap.size,11,none⟩=some (.int .i8 r8):=cells_of g1 11
 have p12:w1.cell? ⟨w.heap.size,12,none⟩=some (.int .i8 r9):=cells_of g1 12
 have p13:w1.cell? ⟨w.heap.size,13,none⟩=some (.int .i8 r10):=cells_of g1 13
 have p14:w1.cell? ⟨w.heap.size,14,none⟩=some (.int .i8 r11):=cells_of g1 14
 have p15:w1.cell? ⟨w.heap.size,15,none⟩=some (.int .i8 r12):=cells_of g1 15
 have p16:w1.cell? ⟨w.heap.size,16,none⟩=some (.int .i8 r13):=cells_of g1 16
 have x0:w1.cell? ⟨w.heap.size+1,0,none⟩=some (.int .i8 x):=cells_of g2 0
 have x1:w1.cell? ⟨w.heap.size+1,1,none⟩=some (.int .i8 y):=cells_of g2 1
 have hfw:=hfb.trans hf1
 have hmk:=Make_any two nn na r0 r1 r2 r3 r4 r5 r6 r7 r8 r9 r10 r11 r12 r13 w1 hnn hna hr
 replace hmk:=hZ hmk
 clear hkn hwb hf1 hfb g0 g1 g2 g9 hr
 go_wp2_with fail
 refine hmk.out.mono ?_
 rintro e w2 ⟨aN,aA,cN,cA,N,A,rfl,hn,hN,hA,hf2⟩
 have hok:=(plan_ok two [r0,r1,r2,r3,r4,r5,r6,r7,r8,r9,r10,r11,r12,r13] (1+nn % 4).toNat (4+na % 4).toNat (by omega) (by omega) (by omega)).ok hN hA
 have hNl:N.length≤4:=by have:=congrArg List.length hN; rw [List.length_map,symsMk_length] at this; omega
 have hAl:A.length≤3:=by have:=congrArg List.length hA; rw [List.length_map,symsMk_length] at this; omega
 have hd1:1≤dMk two∧dMk two≤2:=by unfold dMk; cases two <;> decide
 have hRl:=rowG_length two x y
 have hRf:∀ z,z ∈ rowG two x y→fitB z=true:=fun z hz=>by
  unfold fits8 at hx hy
  unfold rowG at hz
  rcases List.mem_cons.1 hz with rfl | hz
  ·unfold fitB; exact decide_eq_true (by omega)
  ·cases two with
   | false=>simp at hz
   | true=>simp at hz; subst hz; unfold fitB; exact decide_eq_true (by omega)
 have hRel:∀ (W:World) (b:Nat),W.cell? ⟨b,0,none⟩=some (.int .i64 x)→W.cell? ⟨b,1,none⟩=some (.int .i64 y)→El W iv (some ⟨b,0,none⟩) (rowG two x y):=fun W b h1 h2=>.inr ⟨b,0,rfl,World.block_lt_of_cell? W _ h1,fun i z hz=>by
  unfold rowG at hz
  match i,hz with
  | 0,hz=>simp at hz; subst hz; exact h1
  | 1,hz=>
    cases two with
    | false=>simp at hz
    | true=>simp at hz; subst hz; exact h2
  | i+2,hz=>cases two <;> simp at hz⟩
 have hRb:∀ z,z ∈ rowG two x y→z.natAbs < 300:=fun z hz=>by
  unfold fits8 at hx hy
  unfold rowG at hz
  rcases List.mem_cons.1 hz with rfl | hz
  ·omega
  ·cases two with
   | false=>simp at hz
   | true=>simp at hz; subst hz; omega
 obtain ⟨R,hR⟩:∃ R,R=rowG two x y:=⟨_,rfl⟩
 rw [← hR] at hRl hRf hRel hRb
 obtain ⟨rk,hck,hnt⟩:=nt_plan (cN:=cN) (cA:=cA) hn hN hA hok.n1 hNl hAl
 obtain ⟨d,hd⟩:∃ d,d=dMk two:=⟨_,rfl⟩
 rw [← hd] at hok hd1 hRl hnt
 have f2:=hfw.trans hf2
 have x0:=hf2.keep x0
 have x1:=hf2.keep x1
 clear p0 p1 p2 p3 p4 p5 p6 p7 p8 p9 p10 p11 p12 p13 p14 p15 p16 hmk hN hA hnn hna hfw hf2
 have hGf:=hZ (fun W (hW:Fr w2 W)=>hG.fr (f2.trans hW))
 obtain ⟨M,hM⟩:∃ M,M=N.length:=⟨_,rfl⟩
 obtain ⟨nbk,hnbk⟩:∃ nbk,nbk=w2.heap.size:=⟨_,rfl⟩
 by_cases h0:nchkE N A rk=0
 ·have hNt:=hnt h0
  have hAd:=hNt.hd
  rw [h0,hAd,← hM] at hck
  rw [← hM] at hNt
  obtain ⟨nb,no,s0,rfl,hnb,hs0,-,hs2,-⟩:=hn.noms.at hok.n1
  have hs0l:=hok.row s0 (List.mem_append_left _ (List.mem_of_getElem? hs0))
  rw [hs0l,Nat.zero_mul,Nat.add_zero] at hs2
  obtain ⟨C,D,C',D',hI⟩:=hNt.inv
  obtain ⟨B,F,res,hs⟩:=hNt.srch hI
  have huq:=hZ (fun W (hW:Fr w2 W)=>(NUnique42 hNt hI hs W (hGf.out _ hW) (hNt.fr hW)).mono fun e w' h=>uq_short h)
  have hrn:=hZ (fun W (hW:Fr w2 W)=>rel_none hNt hok hd1 W (hGf.out _ hW) hW)
  have hall:=hZ (fun W ra rc (hW:Fr w2 W) (he:El W iv ra R)=>by
   have h:=GAll (cN:=cN) (cA:=cA) hn hok hNl hAl hd1 hRl hRf W 2 ra rc hW (by decide) he
   rw [hAd,← hM] at h; exact h)
  have hd2:(0:Int)≤d∧(d:Int)≤2:=by omega
  have hd3:=hd2.1
  have hd4:=hd2.2
  have hn1:(0:Int) < M:=by have:=hok.n1; omega
  have hn1n:0 < M:=by omega
  rw [hAd,← hM]
  have hfb:Fr w2 (w2.alloc (.cells #[.slice (some ⟨nb,no,none⟩) M cN,.slice aA d cA] 31)):=(Fr.refl w2).alloc _
  have n1:=(new2a w2 (.slice (some ⟨nb,no,none⟩) M cN) (.slice aA d cA) 31).1
  have n2:=(new2b w2 (.slice (some ⟨nb,no,none⟩) M cN) (.slice aA d cA) 31).1
  rw [← hnbk] at n1 n2
  obtain ⟨W2,hW2⟩:∃ W2,W2=w2.alloc (.cells #[.slice (some ⟨nb,no,none⟩) M cN,.slice aA d cA] 31):=⟨_,rfl⟩
  rw [← hW2] at hfb n1 n2
  have z0:=hfb.keep x0
  have z1:=hfb.keep x1
  have z2:=hfb.keep hs2
  have z3:nbk < W2.heap.size:=World.block_lt_of_cell? _ _ n1
  replace hck:=hZ (hck W2 (hGf.out _ hfb) hfb)
  replace hRel:=hZ hRel
  have e8x:fits8 x:=hx
  have e8y:fits8 y:=hy
  unfold fits8 at e8x e8y
  have hwx:IntKind.i64.wrap x=x:=by rw [IntKind.wrap_i64]; omega
  have hwy:IntKind.i64.wrap y=y:=by rw [IntKind.wrap_i64]; omega
  have hAl9:A.length≤3:=hAl
  clear hn hNl hAl hs0 hs0l hnb hs2 hd hR x0 x1 hnt h0
  replace hok:=hZ hok
  replace hM:=hZ hM
  go_upto_region 4 with (fail)
  rw [← hW2,← hnbk]
  clear hW2
  replace hnbk:=hZ hnbk
  go_wp2_with fail
  refine hck.out.mono ?_
  rintro e w3 ⟨rfl,hf3⟩
  replace n1:=hf3.keep n1
  replace n2:=hf3.keep n2
  replace z0:=hf3.keep z0
  replace z1:=hf3.keep z1
  replace z2:=hf3.keep z2
  have hf23:=hfb.trans hf3
  clear hck
  go_wp2_with fail
  refine (hrn.out _ hf23).mono ?_
  rintro e w4 ⟨a4,c4,rfl,hf4⟩
  replace n1:=hf4.keep n1
  replace n2:=hf4.keep n2
  replace z0:=hf4.keep z0
  replace z1:=hf4.keep z1
  replace z2:=hf4.keep z2
  have hf24:=hf23.trans hf4
  clear hrn
  go_wp2_with fail
  refine (huq.out _ hf24).mono ?_
  rintro e w5 ⟨is,q,a1,a2,a3,k1,c1,k2,c2,k3,c3,i9,j9,rfl,hf5,hiu⟩
  clear huq
  replace n1:=hf5.keep n1
  replace n2:=hf5.keep n2
  replace z0:=hf5.keep z0
  replace z1:=hf5.keep z1
  replace z2:=hf5.keep z2
  go_upto_region 8 with (fail)
  obtain ⟨W6,hW6⟩:∃ W6,W6=w5.alloc (.cells #[.bool q,.slice a1 k1 c1,.int .i64 i9,.slice a2 k2 c2,.int .i64 j9,.slice a3 k3 c3] 57):=⟨_,rfl⟩
  have f56:Fr w5 W6:=by rw [hW6]; exact (Fr.refl _).alloc _
  rw [← hW6]
  clear hW6
  replace n1:=f56.keep n1
  replace n2:=f56.keep n2
  replace z0:=f56.keep z0
  replace z1:=f56.keep z1
  replace z2:=f56.keep z2
  have hf26:=(hf24.trans hf5).trans f56
  clear hf5 f56 hf24 hf23 hf3 hf4 hfb
  replace hf26:=hZ hf26
  replace hiu:=hZ hiu
  go_region_held3 (fun w'=>w'.cell? ⟨w.heap.size+1,0,none⟩=some (.int .i8 x)∧w'.cell? ⟨w.heap.size+1,1,none⟩=some (.int .i8 y)∧w'.cell? ⟨nbk,0,none⟩=some (.slice (some ⟨nb,no,none⟩) M cN)∧w'.cell? ⟨nb,no+1,none⟩=some (.slice s0.ra d s0.rc))
   (first | go_keep | (go_split_ands; refine ⟨?_, ?_, ?_, ?_⟩ <;> (refine Fr.keep (by assumption) ?_; assumption)))
   (fail)
  all_goals
   obtain ⟨W7,hW7⟩:∃ W7,W7=(W6.alloc (.cells #[.int .i64 x,.int .i64 y] 3)).drew:=⟨_,rfl⟩
   have hf67:Fr W6 W7:=by rw [hW7]; exact ((Fr.refl _).alloc _).drew
   have hxy:W7.heap[W6.heap.size]?=some (.cells #[.int .i64 x,.int .i64 y] 3 (0,0)):=by rw [hW7]; exact heap_alloc_new W6 _
   have hrow:El W7 iv (some ⟨W6.heap.size,0,none⟩) R:=hRel.out W7 _ (by rw [cells_of hxy]; rfl) (by rw [cells_of hxy]; rfl)
   replace n1:=hf67.keep n1
   replace n2:=hf67.keep n2
   have hf27:=hf26.out.trans hf67
   first | rw [← hW7] | (rw [hwx,hwy,← hW7])
   clear hW7 hxy hwx hwy z0 z1 z2 z3
   obtain ⟨rb,hrb⟩:∃ rb,rb=W6.heap.size:=⟨_,rfl⟩
   rw [← hrb] at hrow ⊢
   replace hrb:=hZ hrb
   have h8:=hZ (hall.out _ _ 2 hf27 hrow)
   clear hall
   go_wp2_with fail
   refine h8.out.mono ?_
   rintro e w8 ⟨a8,c8,xs,rfl,hown8,hxs,hf8⟩
   replace n1:=hf8.keep n1
   replace n2:=hf8.keep n2
   replace hrow:=hrow.fr hf8
   have hf28:=hf27.trans hf8
   have hbx:=hZ hown8.bxs
   replace hxs:xs.map stripX=allR (N.map Sy.row) (A.map Sy.row) R 2:=hxs
   clear h8 hown8 hf8 hf67 hf27
   cases is with
   | false=>
     clear hiu
     obtain ⟨xl,hxl⟩:∃ xl,xl=xs.length:=⟨_,rfl⟩
     rw [← hxl]
     replace hxl:=hZ hxl
     clear hxs
     go_wp2_with fail
     go_ret
     exact ⟨rfl,f2.trans hf28⟩
   | true=>
     obtain ⟨hno,rfl⟩:=hiu.out rfl
     obtain ⟨i,cs,hsp,hi,hcl,hcf,-⟩:=spell_row hNt hI hs rfl hRl hRb
     have hag:=agree_len hNt hI hno hsp
     rw [← hxs] at hag
     have hspw:=hZ (fun W (hW:Fr w2 W) (he:El W iv (some ⟨rb,0,none⟩) R)=>by
      have h9:=spellP hNt hI hRl hRf W _ 2 (hGf.out _ hW) (hNt.fr hW) he
      rw [hsp] at h9
      exact h9.mono fun e w' h=>by obtain ⟨a',c',h1,h2,-,h3,-⟩:=h.1 hcf; exact (⟨a',c',h1,h2,h3⟩:∃ a' c',e=.returned (.tuple #[.agg #[.int .i64 (i:Int),.slice a' d c'],.int .i64 0])∧El w' iv a' cs∧Fr W w'))
     obtain ⟨xl,hxl⟩:∃ xl,xl=xs.length:=⟨_,rfl⟩
     rw [← hxl]
     have hx01:(xl=0)∨(xl=1∧xs.map stripX=[(i,cs)]):=by
      rcases hag with h | h
      ·left; rw [hxl,← List.length_map (f:=stripX),h]; rfl
      ·right; exact ⟨by rw [hxl,← List.length_map (f:=stripX),h]; rfl,h⟩
     have hxle:¬ (0:Int) < (0:Int):=by omega
     replace hxl:=hZ hxl
     clear hsp hag hxs hs hI hno hNt hi hcf hiu hRel
     replace hcl:=hZ hcl
     have hd2k:=hZ hd1.2
     clear hx hy e8x e8y hd1 hd2 hd3 hd4 hn1 hn1n hRl hRf hRb hAl9 hAd hGf hok
     go_upto_region 14 with (fail)
     go_wp2_with fail
     refine (hspw.out _ hf28 hrow).mono ?_
     rintro e w9 ⟨a9,c9,rfl,he9,hf9⟩
     have hf29:=hf28.trans hf9
     replace hbx:=hZ (hbx.out.fr hf9)
     clear hspw hrow
     go_upto_region 15 with (fail)
     obtain ⟨sb,hsb⟩:∃ sb,sb=w9.heap.size:=⟨_,rfl⟩
     have s0c:=(new2a w9 (.int .i64 i) (.slice a9 d c9) 50).1
     have s1c:=(new2b w9 (.int .i64 i) (.slice a9 d c9) 50).1
     obtain ⟨WA,hWA⟩:∃ WA,WA=w9.alloc (.cells #[.int .i64 i,.slice a9 d c9] 50):=⟨_,rfl⟩
     have f9A:Fr w9 WA:=by rw [hWA]; exact (Fr.refl _).alloc _
     rw [← hWA] at s0c s1c ⊢
     rw [← hsb] at s0c s1c ⊢
     clear hWA
     replace hsb:=hZ hsb
     have hf2A:=hf29.trans f9A
     rcases hx01 with h01 | ⟨h01,hxm⟩
     ·rw [h01]
      clear hbx he9
      refine wp_region_held_drew (S:=fun W=>W.cell? ⟨sb,0,none⟩=some (.int .i64 i)∧W.cell? ⟨sb,1,none⟩=some (.slice a9 d c9)) (by kernel_rfl) ⟨(Fr.refl WA).drew.keep s0c,(Fr.refl WA).drew.keep s1c⟩ (fun hHeld=>?_)
      refine hK 0 ?_
      change wpAnyH _ _ _ _ _ _ _ (Act.put _ (some 77) _) _
      simp only [Act.put,lsT,ls0,lsS]
      refine hK 1 ?_
      change wpAnyH _ _ _ _ _ _ _ (Act.put _ (some 78) _) _
      simp only [Act.put,lsT,ls0,lsS]
      refine hK 2 ?_
      change wpAnyH _ _ _ _ _ _ _ (Act.put _ (some 79) _) _
      simp only [Act.put,lsT,ls0,lsS]
      refine hK 3 ?_
      change wpAnyH _ _ _ _ _ _ _ (Act.put _ (some 80) _) _
      simp only [Act.put,lsT,ls0,lsS]
      refine hK 4 ?_
      change wpAnyH _ _ _ _ _ _ _ (Act.put _ (some 81) _) _
      simp only [Act.put,lsT,ls0,lsS]
      refine hK 5 ?_
      change wpAnyH _ _ _ _ _ _ _ (Act.put _ (some 82) _) _
      simp only [Act.put,lsT,ls0,lsS]
      refine hK 6 ?_
      change wpAnyH _ _ _ _ _ _ _ (Act.put _ (some 83) _) _
      simp only [Act.put,lsT,ls0,lsS]
      refine hN 7 ?_
      change wpAnyH _ _ _ _ _ _ _ (Act.put _ (some 84) _) _
      simp only [Act.put,lsT,ls0,lsS]
      refine hN 8 ?_
      change wpAnyH _ _ _ _ _ _ _ (Act.put _ (some 85) _) _
      simp only [Act.put,lsT,ls0,lsS]
      refine hN 9 ?_
      change wpAnyH _ _ _ _ _ _ _ (Act.put _ (some 86) _) _
      simp only [Act.put,lsT,ls0,lsS]
      refine hN 10 ?_
      change wpAnyH _ _ _ _ _ _ _ (Act.put _ (some 87) _) _
      simp only [Act.put,lsT,ls0,lsS]
      refine hN 11 ?_
      change wpAnyH _ _ _ _ _ _ _ (Act.put _ (some 88) _) _
      simp only [Act.put,lsT,ls0,lsS]
      refine hN 12 ?_
      change wpAnyH _ _ _ _ _ _ _ (Act.put _ (some 89) _) _
      simp only [Act.put,lsT,ls0,lsS]
      refine hN 13 ?_
      change wpAnyH _ _ _ _ _ _ _ (Act.put _ (some 90) _) _
      simp only [Act.put,lsT,ls0,lsS]
      refine hN 14 ?_
      change wpAnyH _ _ _ _ _ _ _ (Act.put _ (some 91) _) _
      simp only [Act.put,lsT,ls0,lsS]
      refine hN 15 ?_
      change wpAnyH _ _ _ _ _ _ _ (Act.put _ (some 92) _) _
      simp only [Act.put,lsT,ls0,lsS]
      refine hN 16 ?_
      change wpAnyH _ _ _ _ _ _ _ (Act.put _ (some 93) _) _
      simp only [Act.put,lsT,ls0,lsS]
      refine hK 17 ?_
      change wpAnyH _ _ _ _ _ _ _ (Act.put _ (some 94) _) _
      simp only [Act.put,lsT,ls0,lsS]
      refine hK 18 ?_
      change wpAnyH _ _ _ _ _ _ _ (Act.put _ (some 95) _) _
      simp only [Act.put,lsT,ls0,lsS]
      refine hK 19 ?_
      change wpAnyH _ _ _ _ _ _ _ (Act.put _ (some 4) _) _
      simp only [Act.put,lsT,ls0,lsS]
      refine wpAnyH_done (by kernel_rfl) ?_ _
      go_wp2_with fail
      go_ret
      exact ⟨rfl,(f2.trans hf2A).drew⟩
     ·have hx9:0 < xs.length:=by rw [← hxl.out,h01]; decide
      obtain ⟨b8,o8,p,rfl,-,hp0,y0,y1,hye⟩:=hbx.out.at (i:=0) hx9
      simp only [Nat.zero_mul,Nat.add_zero] at y0 y1
      have hpL:stripX p=(i,cs):=by
       have h1:(xs.map stripX)[0]?=some (stripX p):=by rw [List.getElem?_map,hp0]; rfl
       rw [hxm] at h1
       exact (Option.some.inj h1).symm
      have hpi:p.i=i:=congrArg Prod.fst hpL
      have hpc:p.cs=cs:=congrArg Prod.snd hpL
      have heq:=fun W (hW:Fr w9 W)=>equalE_any p i cs a9 c9 W (hye.fr hW) (he9.fr hW) (by have:=hd2k.out; rw [hpc,hcl.out]; omega) (by have:=hd2k.out; rw [hcl.out]; omega)
      rw [decide_eq_true hpL,hpi,hpc,hcl.out] at heq
      rw [hpi] at y0
      rw [hpc,hcl.out] at y1
      obtain ⟨pg,hpg⟩:∃ pg,pg=p.g:=⟨_,rfl⟩
      obtain ⟨pc,hpc3⟩:∃ pc,pc=p.c:=⟨_,rfl⟩
      rw [← hpg,← hpc3] at y1 heq
      replace heq:=hZ heq
      replace y0:=f9A.keep y0
      replace y1:=f9A.keep y1
      clear hbx he9 hp0 hpL hpi hpc hpg hpc3 hye hxm
      rw [h01]
      refine wp_region_held_drew (S:=fun W=>W.cell? ⟨sb,0,none⟩=some (.int .i64 i)∧W.cell? ⟨sb,1,none⟩=some (.slice a9 d c9)∧W.cell? ⟨b8,o8,none⟩=some (.int .i64 i)∧W.cell? ⟨b8,o8+1,none⟩=some (.slice (some ⟨pg,0,none⟩) d pc)) (by kernel_rfl) ⟨(Fr.refl WA).drew.keep s0c,(Fr.refl WA).drew.keep s1c,(Fr.refl WA).drew.keep y0,(Fr.refl WA).drew.keep y1⟩ (fun hHeld=>?_)
      refine hK 0 ?_
      change wpAnyH _ _ _ _ _ _ _ (Act.put _ (some 77) _) _
      simp only [Act.put,lsT,ls0,lsS]
      refine hK 1 ?_
      change wpAnyH _ _ _ _ _ _ _ (Act.put _ (some 78) _) _
      simp only [Act.put,lsT,ls0,lsS]
      refine hK 2 ?_
      change wpAnyH _ _ _ _ _ _ _ (Act.put _ (some 79) _) _
      simp only [Act.put,lsT,ls0,lsS]
      refine hK 3 ?_
      change wpAnyH _ _ _ _ _ _ _ (Act.put _ (some 80) _) _
      simp only [Act.put,lsT,ls0,lsS]
      refine hK 4 ?_
      change wpAnyH _ _ _ _ _ _ _ (Act.put _ (some 81) _) _
      simp only [Act.put,lsT,ls0,lsS]
      refine hK 5 ?_
      change wpAnyH _ _ _ _ _ _ _ (Act.put _ (some 82) _) _
      simp only [Act.put,lsT,ls0,lsS]
      refine hK 6 ?_
      change wpAnyH _ _ _ _ _ _ _ (Act.put _ (some 83) _) _
      simp only [Act.put,lsT,ls0,lsS]
      refine hK 7 ?_
      change wpAnyH _ _ _ _ _ _ _ (Act.put _ (some 84) _) _
      simp only [Act.put,lsT,ls0,lsS]
      refine hK 8 ?_
      change wpAnyH _ _ _ _ _ _ _ (Act.put _ (some 85) _) _
      simp only [Act.put,lsT,ls0,lsS]
      refine hK 9 ?_
      change wpAnyH _ _ _ _ _ _ _ (Act.put _ (some 86) _) _
      simp only [Act.put,lsT,ls0,lsS]
      refine hK 10 ?_
      change wpAnyH _ _ _ _ _ _ _ (Act.put _ (some 87) _) _
      simp only [Act.put,lsT,ls0,lsS]
      refine hK 11 ?_
      change wpAnyH _ _ _ _ _ _ _ (Act.put _ (some 88) _) _
      simp only [Act.put,lsT,ls0,lsS]
      refine hK 12 ?_
      change wpAnyH _ _ _ _ _ _ _ (Act.put _ (some 89) _) _
      simp only [Act.put,lsT,ls0,lsS]
      refine hK 13 ?_
      change wpAnyH _ _ _ _ _ _ _ (Act.put _ (some 90) _) _
      simp only [Act.put,lsT,ls0,lsS]
      refine hK 14 ?_
      change wpAnyH _ _ _ _ _ _ _ (Act.put _ (some 91) _) _
      simp only [Act.put,lsT,ls0,lsS]
      refine hC 15 (fun K hK=>?_)
      go_simp
      (refine (heq.out _ (f9A.trans (Fr.refl WA).drew)).mono ?_; rintro e wB ⟨rfl,hfB⟩)
      go_wp2_with fail
      refine hK.out _ _ (⟨((Fr.refl WA).drew.trans hfB).keep s0c,((Fr.refl WA).drew.trans hfB).keep s1c,((Fr.refl WA).drew.trans hfB).keep y0,((Fr.refl WA).drew.trans hfB).keep y1⟩) (fun hHeld=>?_)
      clear hK K
      refine hK 16 ?_
      change wpAnyH _ _ _ _ _ _ _ (Act.put _ (some 93) _) _
      simp only [Act.put,lsT,ls0,lsS]
      refine hK 17 ?_
      change wpAnyH _ _ _ _ _ _ _ (Act.put _ (some 94) _) _
      simp only [Act.put,lsT,ls0,lsS]
      refine hK 18 ?_
      change wpAnyH _ _ _ _ _ _ _ (Act.put _ (some 95) _) _
      simp only [Act.put,lsT,ls0,lsS]
      refine hK 19 ?_
      change wpAnyH _ _ _ _ _ _ _ (Act.put _ (some 4) _) _
      simp only [Act.put,lsT,ls0,lsS]
      refine wpAnyH_done (by kernel_rfl) ?_ _
      have hfz:=hZ ((Fr.refl WA).drew.trans hfB)
      go_wp2_with fail
      go_ret
      exact ⟨rfl,(f2.trans hf2A).trans hfz.out⟩
 ·obtain ⟨E,hE⟩:∃ E,E=nchkE N A rk:=⟨_,rfl⟩
  rw [← hE] at hck h0
  have q1:(E != 0)=true:=bne_iff_ne.2 h0
  obtain ⟨la,hla⟩:∃ la,la=A.length:=⟨_,rfl⟩
  rw [← hM,← hla] at hck
  rw [← hM,← hla]
  have hfb:Fr w2 (w2.alloc (.cells #[.slice aN M cN,.slice aA la cA] 31)):=(Fr.refl w2).alloc _
  have hc:=hZ (hck _ (hGf.out _ hfb) hfb)
  replace hfb:=hZ hfb
  clear hck hnt hn hok hNl hAl hRel hRf hRb hRl hR hd hE
  replace hM:=hZ hM
  replace hla:=hZ hla
  go_wp2_with fail
  refine hc.out.mono ?_
  rintro e w3 ⟨rfl,hf3⟩
  go_wp2_with fail
  go_ret
  exact ⟨rfl,(f2.trans hfb.out).trans hf3⟩
end Go.Proofs.YtklpnlbmdknjeaaGreatDoor
