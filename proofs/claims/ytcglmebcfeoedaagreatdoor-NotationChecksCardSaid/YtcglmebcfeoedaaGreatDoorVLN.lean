/- Contracts and laws: VLN. -/
import Derived.Test.YtcglmebcfeoedaaGreatDoorVRd
import Derived.Test.YtcglmebcfeoedaaGreatDoorVUL
import Derived.Test.YtcglmebcfeoedaaGreatDoorVUD
import Derived.Test.YtcglmebcfeoedaaGreatDoorVNC
import Derived.Test.YtcglmebcfeoedaaGreatDoorVChk
import Derived.Test.YtcglmebcfeoedaaGreatDoorVKn

set_option maxRecDepth 100000
set_option maxHeartbeats 16000000
namespace Go.Proofs.YtcglmebcfeoedaaGreatDoor
open Go.RowKit Go.Lib
attribute [local go_sem ↓] AC AD
theorem JA (i:Int) (cs:List Int) (a b:Option Addr) (ca cb n m:Nat) (w:World) (hx:El w iv a cs) (hy:El w iv b cs) (hn:cs.length=n) (hm:cs.length=m) (h1:n≤1000000000) :
 Calls Tryz.prog 34 #[.agg #[.int .i64 i,.slice a n ca],.agg #[.int .i64 i,.slice b m cb]] w fun e w'=>e=.returned (.bool true)∧Fr w w':=by
 have hE:=fun W (hW:Fr w W)=>G6 cs cs a b ca cb n m W (hx.fr hW) (hy.fr hW) hn hm h1 (by omega)
 rw [Ab rfl] at hE
 replace hE:=hZ hE
 clear hx hy hn hm
 have q1:(i == i)=true:=Hc i
 have f2:Fr w ((w.alloc (.cells #[.int .i64 i,.slice a n ca] 50)).alloc (.cells #[.int .i64 i,.slice b m cb] 50)):=((Fr.refl w).alloc _).alloc _
 replace f2:=hZ f2
 go_enter Tryz.func34,Tryz.ntmps34
 go_wp2_with fail
 refine (hE.out _ f2.out).mono ?_
 rintro e w3 ⟨rfl,hf3⟩
 go_wp2_with fail
 go_ret
 exact ⟨rfl,f2.out.trans hf3⟩
theorem Pj (q:Bool) (i j:Int) (r1 r2 r3:List Int) (a1 a2 a3 b1 b2 b3:Option Addr) (n1 n2 n3 c1 c2 c3 d1 d2 d3:Nat) (w:World) (h1:El w iv a1 r1) (h2:El w iv a2 r2) (h3:El w iv a3 r3) (k1:El w iv b1 r1) (k2:El w iv b2 r2) (k3:El w iv b3 r3) (l1:r1.length=n1) (l2:r2.length=n2) (l3:r3.length=n3) (m1:n1≤1000) (m2:n2≤1000) (m3:n3≤1000) :
 Calls Tryz.prog 33 #[.agg #[.bool q,.slice a1 n1 c1,.int .i64 i,.slice a2 n2 c2,.int .i64 j,.slice a3 n3 c3],.agg #[.bool q,.slice b1 n1 d1,.int .i64 i,.slice b2 n2 d2,.int .i64 j,.slice b3 n3 d3]] w fun e w'=>e=.returned (.bool true)∧Fr w w':=by
 have hE:=fun W (hW:Fr w W)=>G6 r1 r1 a1 b1 c1 d1 n1 n1 W (h1.fr hW) (k1.fr hW) l1 l1 (by omega) (by omega)
 rw [Ab rfl] at hE
 replace hE:=hZ hE
 have hS:=hZ (fun W (hW:Fr w W)=>JA i r2 a2 b2 c2 d2 n2 n2 W (h2.fr hW) (k2.fr hW) l2 l2 (by omega))
 have hT:=hZ (fun W (hW:Fr w W)=>JA j r3 a3 b3 c3 d3 n3 n3 W (h3.fr hW) (k3.fr hW) l3 l3 (by omega))
 clear h1 h2 h3 k1 k2 k3 l1 l2 l3
 have hq:(q == q)=true:=Hc q
 obtain ⟨W1,hW1⟩:∃ W1,W1=(w.alloc (.cells #[.bool q,.slice a1 n1 c1,.int .i64 i,.slice a2 n2 c2,.int .i64 j,.slice a3 n3 c3] 64)).alloc (.cells #[.bool q,.slice b1 n1 d1,.int .i64 i,.slice b2 n2 d2,.int .i64 j,.slice b3 n3 d3] 64):=⟨_,rfl⟩
 obtain ⟨s,hs⟩:∃ s,s=w.heap.size:=⟨_,rfl⟩
 have f1:Fr w W1:=by rw [hW1]; exact ((Fr.refl _).alloc _).alloc _
 have hA:FM W1 s (.bool q) (.slice a1 n1 c1) (.int .i64 i) (.slice a2 n2 c2) (.int .i64 j) (.slice a3 n3 c3):=by
  rw [hW1,hs]; exact (FM.new w _ _ _ _ _ _ _).fr ((Fr.refl _).alloc _)
 have hB:FM W1 (s+1) (.bool q) (.slice b1 n1 d1) (.int .i64 i) (.slice b2 n2 d2) (.int .i64 j) (.slice b3 n3 d3):=by
  have:=FM.new (w.alloc (.cells #[.bool q,.slice a1 n1 c1,.int .i64 i,.slice a2 n2 c2,.int .i64 j,.slice a3 n3 c3] 64)) (.bool q) (.slice b1 n1 d1) (.int .i64 i) (.slice b2 n2 d2) (.int .i64 j) (.slice b3 n3 d3) 64
  rw [AF] at this
  rw [hW1,hs]; exact this
 go_enter Tryz.func33,Tryz.ntmps33
 go_upto_region 1 with (fail)
 rw [← hW1,← hs]
 clear hW1 hs
 obtain ⟨x0,x1,x2,x3,x4,x5,-⟩:=hA
 obtain ⟨y0,y1,y2,y3,y4,y5,-⟩:=hB
 go_wp2_with fail
 refine (hE.out _ f1).mono ?_
 rintro e w2 ⟨rfl,hf2⟩
 replace x2:=hf2.keep x2
 replace x3:=hf2.keep x3
 replace x4:=hf2.keep x4
 replace x5:=hf2.keep x5
 replace y2:=hf2.keep y2
 replace y3:=hf2.keep y3
 replace y4:=hf2.keep y4
 replace y5:=hf2.keep y5
 go_wp2_with fail
 refine (hS.out _ (f1.trans hf2)).mono ?_
 rintro e w3 ⟨rfl,hf3⟩
 replace x4:=hf3.keep x4
 replace x5:=hf3.keep x5
 replace y4:=hf3.keep y4
 replace y5:=hf3.keep y5
 go_wp2_with fail
 refine (hT.out _ ((f1.trans hf2).trans hf3)).mono ?_
 rintro e w4 ⟨rfl,hf4⟩
 go_wp2_with fail
 go_ret
 exact ⟨rfl,((f1.trans hf2).trans hf3).trans hf4⟩
section
variable {N A:List Sy} {d M:Nat} {aN aA:Option Addr} {cN cA:Nat} {C:List (List Int)} {D:Int} {res:Option (List Int)}
end
theorem OA {aN aA:Option Addr} {cN cA:Nat} {N A:List Sy} {w:World} (hG:G w) (hn:DB w aN aA cA N A) (hf:Gy N A=true) :
 ∃ (E D:Int),(∀ W,Fr w W→Calls Tryz.prog 18 #[.agg #[.slice aN N.length cN,.slice aA A.length cA]] W fun e w'=>e=.returned (.int .i64 E)∧Fr W w') ∧
   Jk w E aN aA N.length cN A.length cA∧(E=0→Xn A A.length D):=by
 obtain ⟨f1,f2,f3⟩:=My hf
 by_cases h0:Cs A.length (N ++ A) (N ++ A).length 0=0
 ·obtain ⟨r,D,hr⟩:=XN h0 (by omega)
  refine ⟨Cj N A r,D,fun W hW=>J6 aN aA cN cA r N A W (hG.fr hW) (hn.fr hW) f3 (by omega) (by omega) (fun _ a c W' hW' hm=>hr.rank a c W' ((hG.fr hW).fr hW') hm),
   fun W hW=>FO aN aA cN cA r N A W (hG.fr hW) (hn.fr hW) f3 (by omega) (by omega) (fun _ _ _ _=>hr.red),fun he=>?_⟩
  have hrl:=hr.le
  have:r=A.length:=by
   unfold Cj at he
   split at he
   ·simp at he
   ·split at he
    ·simp at he
    ·split at he
     ·rename_i h1 _ h3; exact absurd h0 h3
     ·split at he
      ·simp at he
      ·omega
  rw [this] at hr; exact hr
 ·refine ⟨Cj N A 0,0,fun W hW=>J6 aN aA cN cA 0 N A W (hG.fr hW) (hn.fr hW) f3 (by omega) (by omega) (fun h=>absurd h h0),
   fun W hW=>FO aN aA cN cA 0 N A W (hG.fr hW) (hn.fr hW) f3 (by omega) (by omega) (fun _ _ _ h=>absurd h h0),fun he=>?_⟩
  unfold Cj at he
  split at he
  ·simp at he
  ·split at he
   ·simp at he
   ·exact absurd he h0
theorem IA (aN aA:Option Addr) (cN cA:Nat) (N A:List Sy) (w:World) (hG:G w) (hEr:Er w) (hmx:∃ m,w.cell? ⟨3,0,none⟩=some (.int .i64 m)) (hn:DB w aN aA cA N A) (hNl:N.length≤maxLen) (hAl:A.length≤maxLen) :
 Calls Tryz.prog 5 #[.agg #[.slice aN N.length cN,.slice aA A.length cA]] w fun e w'=>e=.returned (.bool true)∧Fr w w':=by
 have hkn:=hZ (fun W (hW:Fr w W)=>Od W (hG.fr hW) (hEr.fr hW) (hmx.imp fun m h=>hW.keep h))
 have hfew:=fun W (hW:Fr w W)=>Rr aN aA cN cA N A W (hG.fr hW) (hn.fr hW) hNl hAl
 have hbc:=fun (h:Gy N A=true)=>OA (cN:=cN) hG hn h
 have hfit:=fun (h:Gy N A=true)=>(My h).2.1
 have hGf:=hZ (fun W (hW:Fr w W)=>hG.fr hW)
 have hacs:=hZ (fun W (hW:Fr w W)=>hn.accs.fr hW)
 obtain ⟨nN,hnn⟩:∃ nN,nN=N.length:=⟨_,rfl⟩
 obtain ⟨nA,han⟩:∃ nA,nA=A.length:=⟨_,rfl⟩
 rw [← hnn,← han] at hfew hbc
 rw [← han] at hfit
 rw [← hnn,← han]
 generalize Gy N A=bF at *
 replace han:=hZ han
 clear hn hnn hNl hAl hG hEr hmx
 replace hfew:=hZ hfew
 replace hbc:=hZ hbc
 replace hfit:=hZ hfit
 obtain ⟨wb,hwb⟩:∃ wb,wb=w.alloc (.cells #[.slice aN nN cN,.slice aA nA cA] 31):=⟨_,rfl⟩
 have hfb:Fr w wb:=by rw [hwb]; exact (Fr.refl _).alloc _
 have n0:wb.cell? ⟨w.heap.size,0,none⟩=some (.slice aN nN cN):=by rw [hwb]; exact (Cw _ _ _ _).1
 have n1:wb.cell? ⟨w.heap.size,1,none⟩=some (.slice aA nA cA):=by rw [hwb]; exact (Cv _ _ _ _).1
 go_enter Tryz.func5,Tryz.ntmps5
 go_upto_region 1 with (fail)
 rw [← hwb]
 clear hwb
 go_wp2_with fail
 refine (hkn.out _ hfb).mono ?_
 rintro e w2 ⟨rfl,hf2⟩
 replace hfb:=hfb.trans hf2
 replace n0:=hf2.keep n0
 replace n1:=hf2.keep n1
 clear hf2
 go_wp2_with fail
 refine (hfew.out _ hfb).mono ?_
 rintro e w3 ⟨rfl,hf3⟩
 replace hfb:=hfb.trans hf3
 replace n0:=hf3.keep n0
 replace n1:=hf3.keep n1
 clear hf3
 cases bF with
 | false=>
   go_wp2_with fail
   refine (hkn.out _ hfb).mono ?_
   rintro e w4 ⟨rfl,hf4⟩
   go_wp2_with fail
   go_ret
   exact ⟨rfl,hfb.trans hf4⟩
 | true=>
   obtain ⟨E,D,hchk,hNB,hacc⟩:=hbc.out rfl
   have hA8:=hfit.out rfl
   replace hchk:=hZ hchk
   replace hNB:=hZ hNB
   replace hacc:=hZ hacc
   clear hfew hbc hfit
   go_wp2_with fail
   refine (hchk.out _ hfb).mono ?_
   rintro e w4 ⟨rfl,hf4⟩
   replace hfb:=hfb.trans hf4
   replace n0:=hf4.keep n0
   replace n1:=hf4.keep n1
   clear hf4
   go_wp2_with fail
   refine (hNB.out _ hfb).mono ?_
   rintro e w5 ⟨rfl,hf5⟩
   replace hfb:=hfb.trans hf5
   replace n0:=hf5.keep n0
   replace n1:=hf5.keep n1
   clear hf5
   clear hchk
   have q0:(E != E)=false:=by simp
   by_cases hE:E=0
   ·subst hE
    have hAc:=hacc.out rfl
    have hro:=hZ (fun W (hW:Fr w W)=>KM aA cA A W (hGf.out W hW) (hacs.out W hW) (by rw [← han.out]; omega))
    have hd6:=hZ (hAc.detL han.out)
    have hcl:=hZ (fun W (hW:Fr w W)=>OZ (aN:=aN) (aA:=aA) (M:=nN) (cN:=cN) (cA:=cA) (d:=nA) (A:=A) (D:=D) (hGf.out W hW) (hNB.out.fr hW) (hacs.out W hW) han.out.symm (by omega) hAc.bd (by decide)
     (fun W2 a c hW2 hm=>by have:=hAc.detT han.out a c W2 ((hGf.out W hW).fr hW2) hm; rw [← han.out] at this; exact this))
    have habs:=hZ (fun W=>WA D W (by have:=hAc.bd.size2; omega))
    rw [← han.out] at hro hd6
    clear hacc hAc hacs
    go_wp2_with fail
    refine (T0 0 aN aA nN cN nA cA _ (hNB.out.fr hfb) rfl).mono ?_
    rintro e w6 ⟨rfl,hf6⟩
    replace hfb:=hfb.trans hf6
    replace n0:=hf6.keep n0
    replace n1:=hf6.keep n1
    clear hf6
    go_wp2_with fail
    refine (hcl.out _ hfb).mono ?_
    rintro e w7 ⟨rfl,hf7⟩
    replace hfb:=hfb.trans hf7
    replace n0:=hf7.keep n0
    replace n1:=hf7.keep n1
    clear hf7
    go_wp2_with fail
    refine (hro.out _ hfb).mono ?_
    rintro e w8 ⟨a8,c8,rfl,hm8,hf8⟩
    have hd6':=hZ (hd6.out a8 c8 w8 (hGf.out _ (hfb.trans hf8)) hm8)
    replace hfb:=hfb.trans hf8
    replace n0:=hf8.keep n0
    replace n1:=hf8.keep n1
    clear hf8
    clear hm8 hd6
    go_wp2_with fail
    refine hd6'.out.mono ?_
    rintro e w9 ⟨rfl,hf9⟩
    replace hfb:=hfb.trans hf9
    replace n0:=hf9.keep n0
    replace n1:=hf9.keep n1
    clear hf9
    go_wp2_with fail
    refine (habs.out _).mono ?_
    rintro e w10 ⟨rfl,rfl⟩
    go_wp2_with fail
    go_ret
    exact ⟨rfl,hfb⟩
   ·have q1:(E == 0)=false:=AB hE
    have ee:(E == E)=true:=by simp
    have hB:∀ W,Fr w W→Jk W E aN aA nN cN nA cA:=fun W hW=>hNB.out.fr hW
    replace hE:=hZ hE
    replace hB:=hZ hB
    have hsm:=hZ (fun W=>JA 0 [] none none 0 0 0 0 W (.inl rfl) (.inl rfl) rfl rfl (by decide))
    have hsw:=hZ (fun W=>Pj false 0 0 [] [] [] none none none none none none 0 0 0 0 0 0 0 0 0 W (.inl rfl) (.inl rfl) (.inl rfl) (.inl rfl) (.inl rfl) (.inl rfl) rfl rfl rfl (by decide) (by decide) (by decide))
    clear hacc hacs hkn hNB hGf
    go_wp2_with fail
    refine (RT E aN aA nN cN nA cA _ (hB.out _ hfb) hE.out).mono ?_
    rintro e w6 ⟨rfl,hf6⟩
    replace hfb:=hfb.trans hf6
    replace n0:=hf6.keep n0
    replace n1:=hf6.keep n1
    clear hf6
    go_wp2_with fail
    refine (Nm E aN aA nN cN nA cA _ (hB.out _ hfb) hE.out).mono ?_
    rintro e w7 ⟨rfl,hf7⟩
    replace hfb:=hfb.trans hf7
    replace n0:=hf7.keep n0
    replace n1:=hf7.keep n1
    clear hf7
    go_wp2_with fail
    refine (OL E aN aA nN cN nA cA _ (hB.out _ hfb) hE.out).mono ?_
    rintro e w8 ⟨rfl,hf8⟩
    replace hfb:=hfb.trans hf8
    replace n0:=hf8.keep n0
    replace n1:=hf8.keep n1
    clear hf8
    go_upto_region 11 with (fail)
    obtain ⟨W9,hW9⟩:∃ W9,W9=w8.alloc (.cells #[.bool false,.slice none 0 0,.int .i64 0,.slice none 0 0,.int .i64 0,.slice none 0 0] 64):=⟨_,rfl⟩
    have f9:Fr w8 W9:=by rw [hW9]; exact (Fr.refl _).alloc _
    have hWt:FM W9 w8.heap.size (.bool false) (.slice none 0 0) (.int .i64 0) (.slice none 0 0) (.int .i64 0) (.slice none 0 0):=by rw [hW9]; exact FM.new _ _ _ _ _ _ _ _
    rw [← hW9]
    clear hW9
    obtain ⟨t9,ht9⟩:∃ t9,t9=w8.heap.size:=⟨_,rfl⟩
    rw [← ht9] at hWt ⊢
    replace ht9:=hZ ht9
    replace hWt:=hZ hWt
    replace hfb:=hfb.trans f9
    replace n0:=f9.keep n0
    replace n1:=f9.keep n1
    clear f9
    go_wp2_with fail
    refine (PW E aN aA nN cN nA cA _ (hB.out _ hfb) hE.out 0 none 0 0).mono ?_
    rintro e w10 ⟨rfl,hf10⟩
    replace hWt:=hZ (hWt.out.fr hf10)
    replace hfb:=hfb.trans hf10
    replace n0:=hf10.keep n0
    replace n1:=hf10.keep n1
    clear hf10
    go_wp2_with fail
    refine (OM E aN aA nN cN nA cA _ (hB.out _ hfb) hE.out none 0 0).mono ?_
    rintro e w11 ⟨rfl,hf11⟩
    replace hWt:=hZ (hWt.out.fr hf11)
    replace hfb:=hfb.trans hf11
    replace n0:=hf11.keep n0
    replace n1:=hf11.keep n1
    clear hf11
    go_upto_region 13 with (fail)
    obtain ⟨W12,hW12⟩:∃ W12,W12=w11.alloc (.cells #[.int .i64 0,.slice none 0 0] 50):=⟨_,rfl⟩
    have f12:Fr w11 W12:=by rw [hW12]; exact (Fr.refl _).alloc _
    have hSt:Bl W12 w11.heap.size (.int .i64 0) (.slice none 0 0):=by rw [hW12]; exact Bl.new _ _ _ _
    rw [← hW12]
    clear hW12
    obtain ⟨t13,ht13⟩:∃ t13,t13=w11.heap.size:=⟨_,rfl⟩
    rw [← ht13] at hSt ⊢
    replace ht13:=hZ ht13
    replace hWt:=hZ (hWt.out.fr f12)
    replace hSt:=hZ hSt
    replace hfb:=hfb.trans f12
    replace n0:=f12.keep n0
    replace n1:=f12.keep n1
    clear f12
    go_wp2_with fail
    refine (PU E aN aA nN cN nA cA _ (hB.out _ hfb) hE.out 0 none 0 0).mono ?_
    rintro e w14 ⟨rfl,hf14⟩
    replace hWt:=hZ (hWt.out.fr hf14)
    replace hSt:=hZ (hSt.out.fr hf14)
    replace hfb:=hfb.trans hf14
    replace n0:=hf14.keep n0
    replace n1:=hf14.keep n1
    clear hf14
    go_wp2_with fail
    refine (ON E aN aA nN cN nA cA _ (hB.out _ hfb) hE.out ⟨#[65]⟩).mono ?_
    rintro e w15 ⟨rfl,hf15⟩
    have f15:=hf15.trans ((Fr.refl w15).alloc (.cells #[.int .i64 0,.slice none 0 0] 50))
    obtain ⟨c0,c1,c2,c3,c4,c5,-⟩:=hWt.out.fr f15
    obtain ⟨k0,k1,-⟩:=hSt.out.fr f15
    obtain ⟨j0,j1,-⟩:=Bl.new w15 (.int .i64 0) (.slice none 0 0) 50
    replace hfb:=hfb.trans f15
    clear f15 hf15 n0 n1
    go_wp2_with fail
    refine (hsw.out _).mono ?_
    rintro e w16 ⟨rfl,hf16⟩
    replace k0:=hf16.keep k0
    replace k1:=hf16.keep k1
    replace j0:=hf16.keep j0
    replace j1:=hf16.keep j1
    replace hfb:=hfb.trans hf16
    clear c0 c1 c2 c3 c4 c5
    go_wp2_with fail
    refine (hsm.out _).mono ?_
    rintro e w17 ⟨rfl,hf17⟩
    replace j0:=hf17.keep j0
    replace j1:=hf17.keep j1
    replace hfb:=hfb.trans hf17
    go_wp2_with fail
    refine (hsm.out _).mono ?_
    rintro e w18 ⟨rfl,hf18⟩
    replace hfb:=hfb.trans hf18
    go_wp2_with fail
    go_ret
    exact ⟨rfl,hfb⟩
end Go.Proofs.YtcglmebcfeoedaaGreatDoor
