/- Contracts and laws: GAZ. -/
import Derived.Test.YtiniigadkknboaaGreatDoorGAY
import Derived.Test.YtiniigadkknboaaGreatDoorGAQ
import Derived.Test.YtiniigadkknboaaGreatDoorGAH
import Derived.Test.YtiniigadkknboaaGreatDoorGAP

set_option maxRecDepth 100000
set_option maxHeartbeats 4000000
namespace Go.Proofs.YtiniigadkknboaaGreatDoor
open Go.RowKit Go.Lib
attribute [local go_sem ↓] Go.wp_at_zero Go.wp_at_succ
theorem R4 (a b:Int) (ha:0≤a) (ha2:a≤1000000000000000000) (hb:1≤b) (hb2:b≤1000000000000000000) (w:World) :
 Calls Tryz.prog 227 #[.int .i64 a,.int .i64 b] w fun e w'=>e=.returned (.int .i64 (a / b))∧Fr w w':=by
 have d1:decide (a < 0)=false:=Aa (by omega)
 go_enter Tryz.func227,Tryz.ntmps227
 go_wp2_with fail
 go_ret
 exact ⟨rfl,Fr.refl _⟩
structure PB (w:World) (pa fa:Option Addr) (L:List (Int×Int)):Prop where
 p:El w iv pa (L.map Prod.fst)
 f:El w sv fa (L.map Prod.snd)
 l6:L.length≤6
theorem PB.fr {w w':World} {pa fa:Option Addr} {L:List (Int×Int)} (h:PB w pa fa L) (k:Fr w w'):PB w' pa fa L:=⟨h.p.fr k,h.f.fr k,h.l6⟩
def N6 (fv:Int→Int) (most:Int) (L:List (Int×Int)):Prop:=∀ x,x ∈ L→-most≤x.2∧x.2≤most∧0≤fv x.1∧fv x.1≤1000000000∧∀ W,Calls Tryz.prog 250 #[.int .i64 x.1] W fun e w'=>e=.returned (.tuple #[.int .i64 (fv x.1),.bool true])∧Fr W w'
theorem Vk (fv:Int→Int) (L1 L2:List (Int×Int)) (p1 f1 p2 f2:Option Addr) (c1 g1 c2 g2:Nat) (q:Int) (w:World) (h1:PB w p1 f1 L1) (h2:PB w p2 f2 L2) (k1:N6 fv 100000 L1) (k2:N6 fv 100000 L2)
 (x0:0≤JI fv L1) (x1:0≤JJ fv L1) (y0:1≤JI fv L2) (y1:1≤JJ fv L2) (q1:JI fv L1 / JJ fv L2=q) (q2:JJ fv L1 / JI fv L2=q) :
 Calls Tryz.prog 198 #[.agg #[.slice p1 L1.length c1,.slice f1 L1.length g1,.string (tx 1)],.agg #[.slice p2 L2.length c2,.slice f2 L2.length g2,.string (tx 1)]] w fun e w'=>e=.returned (.tuple #[.int .i64 q,.bool true])∧Fr w w':=by
 have b1:=KI fv L1.length L1 rfl (fun y hy=>by obtain ⟨a1,a2,a3,a4,-⟩:=k1 y hy; exact ⟨by omega,by omega,a3,a4⟩)
 have b2:=KI fv L2.length L2 rfl (fun y hy=>by obtain ⟨a1,a2,a3,a4,-⟩:=k2 y hy; exact ⟨by omega,by omega,a3,a4⟩)
 have l1:=h1.l6
 have l2:=h2.l6
 have hn1:=fun W (hW:Fr w W)=>PF fv L1 p1 f1 c1 g1 (tx 1) 100000 W (h1.fr hW).p (h1.fr hW).f l1 (by decide) k1
 have hn2:=fun W (hW:Fr w W)=>PF fv L2 p2 f2 c2 g2 (tx 1) 100000 W (h2.fr hW).p (h2.fr hW).f l2 (by decide) k2
 have hsm:=fun W=>Eg 1 (by decide) (by decide) W
 obtain ⟨xl,hxl⟩:∃ xl,xl=JI fv L1:=⟨_,rfl⟩
 obtain ⟨xh,hxh⟩:∃ xh,xh=JJ fv L1:=⟨_,rfl⟩
 obtain ⟨yl,hyl⟩:∃ yl,yl=JI fv L2:=⟨_,rfl⟩
 obtain ⟨yh,hyh⟩:∃ yh,yh=JJ fv L2:=⟨_,rfl⟩
 obtain ⟨n1,hm1⟩:∃ n1,n1=L1.length:=⟨_,rfl⟩
 obtain ⟨n2,hm2⟩:∃ n2,n2=L2.length:=⟨_,rfl⟩
 rw [← hxl,← hxh,← hm1] at hn1 b1
 rw [← hyl,← hyh,← hm2] at hn2 b2
 rw [← hm1] at l1 ⊢
 rw [← hm2] at l2 ⊢
 rw [← hxl] at x0 q1
 rw [← hxh] at x1 q2
 rw [← hyl] at y0 q2
 rw [← hyh] at y1 q1
 have hd1:=fun W=>R4 xl yh x0 (by omega) y1 (by omega) W
 have hd2:=fun W=>R4 xh yl x1 (by omega) y0 (by omega) W
 rw [q1] at hd1
 rw [q2] at hd2
 have hB:xl≤1000000000000000000∧xh≤1000000000000000000∧yl≤1000000000000000000∧yh≤1000000000000000000:=by omega
 obtain ⟨hB1,hB2,hB3,hB4⟩:=hB
 obtain ⟨one,hone⟩:∃ one:ByteArray,one=tx 1:=⟨_,rfl⟩
 rw [← hone] at hn1 hn2 hsm ⊢
 replace hone:=hZ hone
 replace hxl:=hZ hxl
 replace hxh:=hZ hxh
 replace hyl:=hZ hyl
 replace hyh:=hZ hyh
 replace hm1:=hZ hm1
 replace hm2:=hZ hm2
 replace hn1:=hZ hn1
 replace hn2:=hZ hn2
 replace hsm:=hZ hsm
 replace hd1:=hZ hd1
 replace hd2:=hZ hd2
 clear b1 b2 l1 l2 h1 h2 k1 k2 q1 q2
 have d1:decide (yh≤0)=false:=Aa (by omega)
 have d2:decide (yl≤0)=false:=Aa (by omega)
 have d3:decide (xl < 0)=false:=Aa (by omega)
 have d4:decide (xh < 0)=false:=Aa (by omega)
 obtain ⟨wb,hwb⟩:∃ wb,wb=Ef w [(.cells #[.slice p1 n1 c1,.slice f1 n1 g1,.string one] 256),(.cells #[.slice p2 n2 c2,.slice f2 n2 g2,.string one] 256)]:=⟨_,rfl⟩
 have hfb:Fr w wb:=by rw [hwb]; exact EG _ w
 have g0:wb.heap[w.heap.size]?=some (.cells #[.slice p1 n1 c1,.slice f1 n1 g1,.string one] 256 (0,0)):=by rw [hwb]; exact Cu _ w 0 _ rfl
 have g3:wb.heap[w.heap.size+1]?=some (.cells #[.slice p2 n2 c2,.slice f2 n2 g2,.string one] 256 (0,0)):=by rw [hwb]; exact Cu _ w 1 _ rfl
 have a0:wb.cell? ⟨w.heap.size,0,none⟩=some (.slice p1 n1 c1):=A1 g0 0
 have a1:wb.cell? ⟨w.heap.size,1,none⟩=some (.slice f1 n1 g1):=A1 g0 1
 have a2:wb.cell? ⟨w.heap.size,2,none⟩=some (.string one):=A1 g0 2
 have b0:wb.cell? ⟨w.heap.size+1,0,none⟩=some (.slice p2 n2 c2):=A1 g3 0
 have b1:wb.cell? ⟨w.heap.size+1,1,none⟩=some (.slice f2 n2 g2):=A1 g3 1
 have b2:wb.cell? ⟨w.heap.size+1,2,none⟩=some (.string one):=A1 g3 2
 clear g0 g3
 go_enter Tryz.func198,Tryz.ntmps198
 go_upto_region 1 with (fail)
 change Code.wp _ _ _ _ (Ef w [(.cells #[.slice p1 n1 c1,.slice f1 n1 g1,.string one] 256),(.cells #[.slice p2 n2 c2,.slice f2 n2 g2,.string one] 256)])
 rw [← hwb]
 clear hwb
 obtain ⟨tb,htb⟩:∃ tb,tb=w.heap.size:=⟨_,rfl⟩
 rw [← htb] at a0 a1 a2 b0 b1 b2 ⊢
 replace htb:=hZ htb
 go_wp2_with fail
 refine (hn1.out _ hfb).mono ?_
 rintro e w1 ⟨rfl,hf1⟩
 replace a2:=hf1.keep a2
 replace b0:=hf1.keep b0
 replace b1:=hf1.keep b1
 replace b2:=hf1.keep b2
 have hfw:=hfb.trans hf1
 clear hfb hf1 a0 a1
 go_wp2_with fail
 refine (hn2.out _ hfw).mono ?_
 rintro e w2 ⟨rfl,hf2⟩
 replace a2:=hf2.keep a2
 replace b2:=hf2.keep b2
 replace hfw:=hfw.trans hf2
 clear hf2 b0 b1
 go_wp2_with fail
 refine (hsm.out _).mono ?_
 rintro e w3 ⟨rfl,hf3⟩
 replace b2:=hf3.keep b2
 replace hfw:=hfw.trans hf3
 clear hf3 a2
 go_wp2_with fail
 refine (hsm.out _).mono ?_
 rintro e w4 ⟨rfl,hf4⟩
 replace hfw:=hfw.trans hf4
 clear hf4 b2
 go_wp2_with fail
 refine (hd1.out _).mono ?_
 rintro e w5 ⟨rfl,hf5⟩
 go_wp2_with fail
 refine (hd2.out _).mono ?_
 rintro e w6 ⟨rfl,hf6⟩
 go_wp2_with fail
 go_ret2
 exact ⟨rfl,(hfw.trans hf5).trans hf6⟩
theorem YN (k:Nat) (hk:k≤40000) (a b:Int) (ha:Bn k a) (hb:Bn k b) (w:World) (hG:G w) :
 Calls Tryz.prog 259 #[.string (tx a),.string (tx b)] w fun e w'=>e=.returned (.string (tx (Nat.gcd a.natAbs b.natAbs:Nat)))∧Fr w w':=by
 have sa:=ha.size
 have sb:=hb.size
 have sa2:=ha.size2
 have sb2:=hb.size2
 have h1:=hZ (fun W=>H3 a W (by omega))
 have h2:=hZ (fun W=>H3 b W (by omega))
 obtain ⟨va,ba,hva,hba,hla⟩:=J6 (a.natAbs:Int) 18 (by omega) (by omega)
 obtain ⟨vb,bb,hvb,hbb,hlb⟩:=J6 (b.natAbs:Int) 18 (by omega) (by omega)
 by_cases hboth:ba=true∧bb=true
 ·obtain ⟨rfl,rfl⟩:=hboth
  obtain ⟨rfl,a1,a2,-⟩:=hva rfl
  obtain ⟨rfl,b1,b2,-⟩:=hvb rfl
  have h5:=hZ (fun W=>O9 a.natAbs b.natAbs (by omega) (by omega) W)
  have hgl:Nat.gcd a.natAbs b.natAbs≤a.natAbs∨Nat.gcd a.natAbs b.natAbs≤b.natAbs:=by
   rcases QX a.natAbs with h | h
   ·exact .inr (by rw [h,Nat.gcd_zero_left]; exact Ah _)
   ·exact .inl (Nat.gcd_le_left _ h)
  have h6:=hZ (fun W (hW:Fr w W)=>Cs (Nat.gcd a.natAbs b.natAbs:Nat) (by omega) (by omega) W (hG.fr hW))
  generalize Nat.gcd a.natAbs b.natAbs=g at *
  clear hva hvb hba hbb ha hb sa sb sa2 sb2 hgl
  go_enter Tryz.func259,Tryz.ntmps259
  go_wp2_with fail
  refine (h1.out _).mono ?_
  rintro e w1 ⟨rfl,hf1⟩
  go_wp2_with fail
  refine (h2.out _).mono ?_
  rintro e w2 ⟨rfl,hf2⟩
  go_wp2_with fail
  refine (hla.out _).mono ?_
  rintro e w3 ⟨rfl,hf3⟩
  go_wp2_with fail
  refine (hlb.out _).mono ?_
  rintro e w4 ⟨rfl,hf4⟩
  go_wp2_with fail
  refine (h5.out _).mono ?_
  rintro e w5 ⟨rfl,hf5⟩
  have hfr:=(((hf1.trans hf2).trans hf3).trans hf4).trans hf5
  go_wp2_with fail
  refine (h6.out _ hfr).mono ?_
  rintro e w6 ⟨rfl,hf6⟩
  go_wp2_with fail
  go_ret
  exact ⟨rfl,hfr.trans hf6⟩
 ·have hbb2:ba=false∨(ba=true∧bb=false):=by
   rcases hba with rfl | rfl
   ·rcases hbb with rfl | rfl
    ·exact absurd ⟨rfl,rfl⟩ hboth
    ·exact .inr ⟨rfl,rfl⟩
   ·exact .inl rfl
  clear hva hvb hba hbb hboth
  have hgd:=hZ (fun W (hW:Fr w W)=>Xr a.natAbs b.natAbs (by omega) (by omega) W (hG.fr hW))
  generalize Nat.gcd a.natAbs b.natAbs=g at *
  rcases hbb2 with rfl | ⟨rfl,rfl⟩
  all_goals
   go_enter Tryz.func259,Tryz.ntmps259
   go_wp2_with fail
   refine (h1.out _).mono ?_
   rintro e w1 ⟨rfl,hf1⟩
   go_wp2_with fail
   refine (h2.out _).mono ?_
   rintro e w2 ⟨rfl,hf2⟩
   go_wp2_with fail
   refine (hla.out _).mono ?_
   rintro e w3 ⟨rfl,hf3⟩
   have hf:=(hf1.trans hf2).trans hf3
   go_wp2_with fail
   first
    | (refine (hlb.out _).mono ?_
       rintro e w4 ⟨rfl,hf4⟩
       have h9:=hZ (hgd.out w4 (hf.trans hf4))
       go_wp2_with fail
       refine h9.out.mono ?_
       rintro e w5 ⟨rfl,hf5⟩
       go_wp2_with fail
       go_ret
       exact ⟨rfl,(hf.trans hf4).trans hf5⟩)
    | (refine (hgd.out w3 hf).mono ?_
       rintro e w5 ⟨rfl,hf5⟩
       go_wp2_with fail
       go_ret
       exact ⟨rfl,hf.trans hf5⟩)
theorem Rp (k:Nat) (hk:k≤40000) (n d:Int) (hn:Bn k n) (hd:Bn k d) (h0:d≠0) (w:World) (hG:G w) :
 Calls Tryz.prog 247 #[.string (tx n),.string (tx d)] w fun e w'=>e=.returned (qv (Rat.divInt n d))∧Fr w w':=by
 unfold qv
 rw [Wi n d h0,Wj n d h0]
 obtain ⟨n2,hn2⟩:∃ n2,n2=d.sign * n:=⟨_,rfl⟩
 obtain ⟨d2,hd2⟩:∃ d2:Int,d2=d.natAbs:=⟨_,rfl⟩
 have hs2:Bn k n2:=by
  rcases CX h0 with h | h
  ·rw [hn2,Int.sign_eq_neg_one_of_neg h]
   have e:(-1 * n:Int)=-n:=by omega
   rw [e]; exact hn.neg
  ·rw [hn2,Int.sign_eq_one_of_pos h,Int.one_mul]; exact hn
 have hsd2:Bn k d2:=by rw [hd2]; exact hd.abs
 have hd20:0 < d2:=by omega
 have hg2:=YN k hk n2 d2 hs2 hsd2
 have hna:d2.natAbs=d.natAbs:=by rw [hd2,AJ]
 rw [hna] at hg2
 rw [← hn2,← hd2]
 obtain ⟨g,hg⟩:∃ g,g=Nat.gcd n2.natAbs d.natAbs:=⟨_,rfl⟩
 rw [← hg] at hg2 ⊢
 have hgp:0 < g:=by rw [hg]; exact Y2 _ (by omega)
 have hgd:g≤d.natAbs:=by rw [hg]; exact Nat.gcd_le_right _ (by omega)
 have hgS:Bn k (g:Int):=by
  have h9:d.natAbs < 10 ^ k:=hd
  show ((g:Int)).natAbs < 10 ^ k
  rw [AJ]; exact A4 hgd h9
 have hdn:=hZ (fun W (hW:Fr w W)=>LQ k k (by omega) (by omega) n2 g hs2 hgS (by omega) W (hG.fr hW))
 have hdd:=hZ (fun W (hW:Fr w W)=>LQ k k (by omega) (by omega) d2 g hsd2 hgS (by omega) W (hG.fr hW))
 replace hg2:=hZ (fun W (hW:Fr w W)=>hg2 W (hG.fr hW))
 have hsn:=hn.size2
 have hsd:=hd.size2
 have hN1:=hZ (fun W=>KQ n W (by omega))
 have hN2:=hZ (fun W=>KQ d W (by omega))
 have hone:((tx (g:Int)).toList == [49])=decide ((g:Int)=1):=by rw [show [49]=itoa 1 from Xd.symm]; exact Nn _ _
 obtain ⟨wb,hwb⟩:∃ wb,wb=w.alloc (.cells #[.string ⟨#[]⟩,.string ⟨#[]⟩] 221):=⟨_,rfl⟩
 have hfb:Fr w wb:=by rw [hwb]; exact (Fr.refl _).alloc _
 have q4:wb.cell? ⟨w.heap.size,0,none⟩=some (.string ⟨#[]⟩):=by rw [hwb]; exact (CC _ _ _ _).1
 have q5:wb.cell? ⟨w.heap.size,1,none⟩=some (.string ⟨#[]⟩):=by rw [hwb]; exact (Ct _ _ _ _).1
 have q6:wb.frozen? ⟨w.heap.size,0,none⟩=false:=by rw [hwb]; exact (CC _ _ _ _).2
 have q7:wb.frozen? ⟨w.heap.size,1,none⟩=false:=by rw [hwb]; exact (Ct _ _ _ _).2
 replace hg:=hZ hg
 by_cases hneg:d < 0
 ·have e1:-n=n2:=by rw [hn2,Int.sign_eq_neg_one_of_neg hneg]; omega
  have e2:-d=d2:=by omega
  have hsg:decide (d.sign < 0)=true:=Ab (by rw [Int.sign_eq_neg_one_of_neg hneg]; omega)
  rw [e1] at hN1
  rw [e2] at hN2
  replace hn2:=hZ hn2
  replace hd2:=hZ hd2
  replace hna:=hZ hna
  replace e1:=hZ e1
  replace e2:=hZ e2
  go_enter Tryz.func247,Tryz.ntmps247
  go_upto_region 1 with (fail)
  rw [← hwb]
  clear hwb
  go_wp2_with fail
  refine (C7 _ _).mono ?_
  rintro e w1 ⟨rfl,rfl⟩
  go_wp2_with fail
  refine (hN1.out _).mono ?_
  rintro e w1 ⟨rfl,hf1⟩
  go_wp2_with fail
  refine (hN2.out _).mono ?_
  rintro e w2 ⟨rfl,hf2⟩
  have hfz:=hf1.trans hf2
  replace q6:=hfz.keepf q4 q6
  replace q7:=hfz.keepf q5 q7
  replace q4:=hfz.keep q4
  replace q5:=hfz.keep q5
  replace hfb:=hfb.trans hfz
  go_wp2_with fail
  refine (hg2.out _ hfb).mono ?_
  rintro e w3 ⟨rfl,hf3⟩
  replace q6:=hf3.keepf q4 q6
  replace q7:=hf3.keepf q5 q7
  replace q4:=hf3.keep q4
  replace q5:=hf3.keep q5
  replace hfb:=hfb.trans hf3
  by_cases hg1:g=1
  ·have hb1:decide ((g:Int)=1)=true:=Ab (by omega)
   rw [hb1] at hone
   have r1:=hZ (show sv (n2.fdiv (g:Int))=sv n2 by rw [hg1,show ((1:Nat):Int)=1 from rfl,L5])
   have r2:=hZ (show sv (d2.fdiv (g:Int))=sv d2 by rw [hg1,show ((1:Nat):Int)=1 from rfl,L5])
   have qs:=Cq w3 w.heap.size (sv n2) (sv d2) _ _ q4 q5
   have q8:=qs.2.2.1
   have u0:=hZ qs.1
   have u1:=hZ qs.2.1
   have hfx:=hZ qs.2.2.2
   clear qs
   replace hg1:=hZ hg1
   go_wp2_with fail
   have v0:=u0.out
   have v1:=u1.out
   rw [r1.out,r2.out]
   refine AP (v:=.agg #[sv n2,sv d2]) (by simp [results,Tryz.results247,go_sem,v0,v1]) rfl ⟨rfl, ?_⟩
   exact ((Fx.of_fr (p:=fun q=>q=w.heap.size) hfb).trans hfx.out).toFr (fun q hq e=>by have e:q=w.heap.size:=e; omega)
  ·have hb1:decide ((g:Int)=1)=false:=Aa (by omega)
   rw [hb1] at hone
   replace hg1:=hZ hg1
   go_wp2_with fail
   refine (hdn.out _ hfb).mono ?_
   rintro e w4 ⟨rfl,hf4⟩
   replace hfb:=hfb.trans hf4
   go_wp2_with fail
   refine (hdd.out _ hfb).mono ?_
   rintro e w5 ⟨rfl,hf5⟩
   replace hfb:=hfb.trans hf5
   have hf45:=hf4.trans hf5
   replace q6:=hf45.keepf q4 q6
   replace q7:=hf45.keepf q5 q7
   replace q4:=hf45.keep q4
   replace q5:=hf45.keep q5
   have qs:=Cq w5 w.heap.size (sv (n2.fdiv (g:Int))) (sv (d2.fdiv (g:Int))) _ _ q4 q5
   have q8:=qs.2.2.1
   have u0:=hZ qs.1
   have u1:=hZ qs.2.1
   have hfx:=hZ qs.2.2.2
   clear qs
   go_wp2_with fail
   have v0:=u0.out
   have v1:=u1.out
   refine AP (v:=.agg #[sv (n2.fdiv (g:Int)),sv (d2.fdiv (g:Int))]) (by simp [results,Tryz.results247,go_sem,v0,v1]) rfl ⟨rfl, ?_⟩
   exact ((Fx.of_fr (p:=fun q=>q=w.heap.size) hfb).trans hfx.out).toFr (fun q hq e=>by have e:q=w.heap.size:=e; omega)
 ·have hen:n=n2:=by rw [hn2,Int.sign_eq_one_of_pos (by omega),Int.one_mul]
  have hed:d=d2:=by omega
  have hsg:decide (d2.sign < 0)=false:=Aa (by rw [Int.sign_eq_one_of_pos (by omega)]; omega)
  rw [hen,hed]
  replace hen:=hZ hen
  replace hed:=hZ hed
  replace hn2:=hZ hn2
  replace hd2:=hZ hd2
  replace hna:=hZ hna
  go_enter Tryz.func247,Tryz.ntmps247
  go_upto_region 1 with (fail)
  rw [← hwb]
  clear hwb
  go_wp2_with fail
  refine (C7 _ _).mono ?_
  rintro e w1 ⟨rfl,rfl⟩
  have hfz:=Fr.refl wb
  replace q6:=hfz.keepf q4 q6
  replace q7:=hfz.keepf q5 q7
  replace q4:=hfz.keep q4
  replace q5:=hfz.keep q5
  replace hfb:=hfb.trans hfz
  go_wp2_with fail
  refine (hg2.out _ hfb).mono ?_
  rintro e w3 ⟨rfl,hf3⟩
  replace q6:=hf3.keepf q4 q6
  replace q7:=hf3.keepf q5 q7
  replace q4:=hf3.keep q4
  replace q5:=hf3.keep q5
  replace hfb:=hfb.trans hf3
  by_cases hg1:g=1
  ·have hb1:decide ((g:Int)=1)=true:=Ab (by omega)
   rw [hb1] at hone
   have r1:=hZ (show sv (n2.fdiv (g:Int))=sv n2 by rw [hg1,show ((1:Nat):Int)=1 from rfl,L5])
   have r2:=hZ (show sv (d2.fdiv (g:Int))=sv d2 by rw [hg1,show ((1:Nat):Int)=1 from rfl,L5])
   have qs:=Cq w3 w.heap.size (sv n2) (sv d2) _ _ q4 q5
   have q8:=qs.2.2.1
   have u0:=hZ qs.1
   have u1:=hZ qs.2.1
   have hfx:=hZ qs.2.2.2
   clear qs
   replace hg1:=hZ hg1
   go_wp2_with fail
   have v0:=u0.out
   have v1:=u1.out
   rw [r1.out,r2.out]
   refine AP (v:=.agg #[sv n2,sv d2]) (by simp [results,Tryz.results247,go_sem,v0,v1]) rfl ⟨rfl, ?_⟩
   exact ((Fx.of_fr (p:=fun q=>q=w.heap.size) hfb).trans hfx.out).toFr (fun q hq e=>by have e:q=w.heap.size:=e; omega)
  ·have hb1:decide ((g:Int)=1)=false:=Aa (by omega)
   rw [hb1] at hone
   replace hg1:=hZ hg1
   go_wp2_with fail
   refine (hdn.out _ hfb).mono ?_
   rintro e w4 ⟨rfl,hf4⟩
   replace hfb:=hfb.trans hf4
   go_wp2_with fail
   refine (hdd.out _ hfb).mono ?_
   rintro e w5 ⟨rfl,hf5⟩
   replace hfb:=hfb.trans hf5
   have hf45:=hf4.trans hf5
   replace q6:=hf45.keepf q4 q6
   replace q7:=hf45.keepf q5 q7
   replace q4:=hf45.keep q4
   replace q5:=hf45.keep q5
   have qs:=Cq w5 w.heap.size (sv (n2.fdiv (g:Int))) (sv (d2.fdiv (g:Int))) _ _ q4 q5
   have q8:=qs.2.2.1
   have u0:=hZ qs.1
   have u1:=hZ qs.2.1
   have hfx:=hZ qs.2.2.2
   clear qs
   go_wp2_with fail
   have v0:=u0.out
   have v1:=u1.out
   refine AP (v:=.agg #[sv (n2.fdiv (g:Int)),sv (d2.fdiv (g:Int))]) (by simp [results,Tryz.results247,go_sem,v0,v1]) rfl ⟨rfl, ?_⟩
   exact ((Fx.of_fr (p:=fun q=>q=w.heap.size) hfb).trans hfx.out).toFr (fun q hq e=>by have e:q=w.heap.size:=e; omega)
def Tq (x:Rat):Prop:=Bn 3000 x.num∧Bn 3000 (x.den:Int)
instance (k:Nat) (n:Int):Decidable (Bn k n):=inferInstanceAs (Decidable (_ < _))
@[irreducible] instance decTq (x:Rat):Decidable (Tq x):=inferInstanceAs (Decidable (_∧_))
theorem Zw {a b:Int} (ha:a.natAbs < 1000000000) (hb:b.natAbs < 1000000000):(a * b).natAbs < 1000000000000000000:=by
 rw [Be]
 exact Kw ha hb
theorem Kf (n:Int) (h:(tx n).size≤1000000000):∃ v b,(b=true→v=n∧n.natAbs < 1000000000)∧(b=true∨b=false)∧Hid (∀ W,Calls Tryz.prog 261 #[.string (tx n)] W fun e w'=>e=.returned (.tuple #[.int .i64 v,.bool b])∧Fr W w'):=by
 by_cases h9:(tx n).size≤9
 ·refine ⟨n,true,fun _=>⟨rfl,Hv h9⟩,.inl rfl,fun w=>?_⟩
  have d1:decide ((9:Int) < ((tx n).size:Int))=false:=Aa (by omega)
  have ha:=hZ (fun W=>Pw n (by have:=Hv h9; omega) (by have:=Hv h9; omega) W)
  clear h h9
  go_enter Tryz.func261,Tryz.ntmps261
  go_wp2_with fail
  refine (ha.out _).mono ?_
  rintro e w1 ⟨rfl,hf1⟩
  go_wp2_with fail
  go_quiet (fail)
  go_wp2_with fail
  go_ret2
  exact ⟨rfl,hf1.drewN _⟩
 ·refine ⟨0,false,(fun e=>by cases e),.inr rfl,fun w=>?_⟩
  have d1:decide ((9:Int) < ((tx n).size:Int))=true:=Ab (by omega)
  clear h h9
  go_enter Tryz.func261,Tryz.ntmps261
  go_wp2_with fail
  go_ret2
  exact ⟨rfl,Fr.refl _⟩
theorem Pv (n d:Int) (hn:(tx n).size≤1000000000) (hd:(tx d).size≤1000000000):∃ v u b,(b=true→v=n∧u=d∧n.natAbs < 1000000000∧d.natAbs < 1000000000)∧(b=true∨b=false) ∧
 Hid (∀ W,Calls Tryz.prog 248 #[.agg #[sv n,sv d]] W fun e w'=>e=.returned (.tuple #[.int .i64 v,.int .i64 u,.bool b])∧Fr W w'):=by
 obtain ⟨v,a,ha,ha2,h1⟩:=Kf n hn
 obtain ⟨u,b,hb,hb2,h2⟩:=Kf d hd
 refine ⟨v,u,a && b,fun h=>?_,by cases a <;> cases b <;> simp,fun w=>?_⟩
 ·rw [Bm] at h
  exact ⟨(ha h.1).1,(hb h.2).1,(ha h.1).2,(hb h.2).2⟩
 ·have hfA:Fr w (w.alloc (.cells #[sv n,sv d] 221)):=(Fr.refl w).alloc _
  have p1:=CC w (sv n) (sv d) 221
  have p2:=Ct w (sv n) (sv d) 221
  have c1:=p1.1
  have c2:=p2.1
  clear p1 p2 hn hd ha hb
  replace hfA:=hZ hfA
  rcases ha2 with rfl | rfl <;> rcases hb2 with rfl | rfl
  all_goals
   go_enter Tryz.func248,Tryz.ntmps248
   go_wp2_with fail
   refine (h1.out _).mono ?_
   rintro e w1 ⟨rfl,hf1⟩
   replace c2:=hf1.keep c2
   go_wp2_with fail
   refine (h2.out _).mono ?_
   rintro e w2 ⟨rfl,hf2⟩
   go_wp2_with fail
   go_ret3
   exact ⟨rfl,(hfA.out.trans hf1).trans hf2⟩
theorem PG (x y:Rat) (hx:Tq x) (hy:Tq y) (w:World) (hG:G w) :
 Calls Tryz.prog 225 #[qv x,qv y] w fun e w'=>e=.returned (qv (x * y))∧Fr w w':=by
 have hn9:=hx.1.mul hy.1
 have hd9:=hx.2.mul hy.2
 have hdx:=NW x
 have hdy:=NW y
 have hM1:=fun W (hW:Fr w W)=>Pz 3000 3000 (by decide) (by decide) x.num y.num hx.1 hy.1 W (hG.fr hW)
 have hM2:=fun W (hW:Fr w W)=>Pz 3000 3000 (by decide) (by decide) x.den y.den hx.2 hy.2 W (hG.fr hW)
 have hL:=fun W (hW:Fr w W)=>Rp (3000+3000) (by decide) (x.num * y.num) ((x.den:Int) * (y.den:Int)) hn9 hd9 (Int.mul_ne_zero (by omega) (by omega)) W (hG.fr hW)
 rw [Wg] at hL
 have hof:(x.num.natAbs < 1000000000∧(x.den:Int).natAbs < 1000000000∧y.num.natAbs < 1000000000∧(y.den:Int).natAbs < 1000000000)→(IntKind.i64.wrap (x.num * y.num)=x.num * y.num∧IntKind.i64.wrap ((x.den:Int) * (y.den:Int))=(x.den:Int) * (y.den:Int))∧∀ W,Fr w W→Calls Tryz.prog 249 #[.int .i64 (x.num * y.num),.int .i64 ((x.den:Int) * (y.den:Int))] W fun e w'=>e=.returned (qv (x * y))∧Fr W w':=fun ⟨c1,c2,c3,c4⟩=>by
  have p1:=Zw c1 c3
  have p2:=Zw c2 c4
  refine ⟨⟨Ak _ (by omega),Ak _ (by omega)⟩,fun W hW=>?_⟩
  have h:=XE (x.num * y.num) (x.den * y.den) (by unfold PU; omega) (ZL hdx hdy) (by unfold PU; rw [AM]; omega) W (hG.fr hW)
  rw [AM,← Rat.mul_def'] at h
  exact h
 obtain ⟨v1,u1,b1,hv1,hB1,h1⟩:=Pv x.num x.den (by have:=hx.1.size2; omega) (by have:=hx.2.size2; omega)
 obtain ⟨v2,u2,b2,hv2,hB2,h2⟩:=Pv y.num y.den (by have:=hy.1.size2; omega) (by have:=hy.2.size2; omega)
 clear hx hy
 unfold qv at hL hof ⊢
 generalize (x * y).num=rn at *
 generalize ((x * y).den:Int)=rd at *
 generalize x.num=n at *
 generalize y.num=m at *
 generalize (x.den:Int)=d at *
 generalize (y.den:Int)=c at *
 replace hM1:=hZ hM1
 replace hM2:=hZ hM2
 replace hL:=hZ hL
 replace hof:=hZ hof
 clear hdx hdy hn9 hd9
 obtain ⟨wb,hwb⟩:∃ wb,wb=Ef w [(.cells #[sv n,sv d] 221),(.cells #[sv m,sv c] 221),(.cells #[.string ⟨#[]⟩,.string ⟨#[]⟩] 221)]:=⟨_,rfl⟩
 have hfb:Fr w wb:=by rw [hwb]; exact EG _ w
 have g0:wb.heap[w.heap.size]?=some (.cells #[sv n,sv d] 221 (0,0)):=by rw [hwb]; exact Cu _ w 0 _ rfl
 have g1:wb.heap[w.heap.size+1]?=some (.cells #[sv m,sv c] 221 (0,0)):=by rw [hwb]; exact Cu _ w 1 _ rfl
 have g2:wb.heap[w.heap.size+2]?=some (.cells #[.string ⟨#[]⟩,.string ⟨#[]⟩] 221 (0,0)):=by rw [hwb]; exact Cu _ w 2 _ rfl
 have b0:wb.cell? ⟨w.heap.size,0,none⟩=some (sv n):=A1 g0 0
 have b1:wb.cell? ⟨w.heap.size,1,none⟩=some (sv d):=A1 g0 1
 have b2:wb.cell? ⟨w.heap.size+1,0,none⟩=some (sv m):=A1 g1 0
 have b3:wb.cell? ⟨w.heap.size+1,1,none⟩=some (sv c):=A1 g1 1
 have q4:wb.cell? ⟨w.heap.size+1+1,0,none⟩=some (.string ⟨#[]⟩):=A1 g2 0
 have q5:wb.cell? ⟨w.heap.size+1+1,1,none⟩=some (.string ⟨#[]⟩):=A1 g2 1
 have q6:wb.frozen? ⟨w.heap.size+1+1,0,none⟩=false:=by unfold World.frozen?; rw [g2]; rfl
 have q7:wb.frozen? ⟨w.heap.size+1+1,1,none⟩=false:=by unfold World.frozen?; rw [g2]; rfl
 clear g0 g1 g2
 rcases hB1 with rfl | rfl
 ·rw [(hv1 rfl).1,(hv1 rfl).2.1] at h1
  rcases hB2 with rfl | rfl
  ·rw [(hv2 rfl).1,(hv2 rfl).2.1] at h2
   obtain ⟨⟨z1,z2⟩,hof⟩:=hof.out ⟨(hv1 rfl).2.2.1,(hv1 rfl).2.2.2,(hv2 rfl).2.2.1,(hv2 rfl).2.2.2⟩
   replace hof:=hZ hof
   clear hv1 hv2
   go_enter Tryz.func225,Tryz.ntmps225
   go_upto_region 1 with (fail)
   change Code.wp _ _ _ _ (Ef w [(.cells #[sv n,sv d] 221),(.cells #[sv m,sv c] 221),(.cells #[.string ⟨#[]⟩,.string ⟨#[]⟩] 221)])
   rw [← hwb]
   clear hwb
   go_wp2_with fail
   refine (h1.out _).mono ?_
   rintro e w1 ⟨rfl,hf1⟩
   replace hfb:=hfb.trans hf1
   replace b0:=hf1.keep b0
   replace b1:=hf1.keep b1
   replace b2:=hf1.keep b2
   replace b3:=hf1.keep b3
   replace q6:=hf1.keepf q4 q6
   replace q7:=hf1.keepf q5 q7
   replace q4:=hf1.keep q4
   replace q5:=hf1.keep q5
   clear hf1
   go_wp2_with fail
   refine (h2.out _).mono ?_
   rintro e w2 ⟨rfl,hf2⟩
   replace hfb:=hfb.trans hf2
   replace b0:=hf2.keep b0
   replace b1:=hf2.keep b1
   replace b2:=hf2.keep b2
   replace b3:=hf2.keep b3
   replace q6:=hf2.keepf q4 q6
   replace q7:=hf2.keepf q5 q7
   replace q4:=hf2.keep q4
   replace q5:=hf2.keep q5
   clear hf2
   go_wp2_with fail
   refine (hof.out _ hfb).mono ?_
   rintro e w3 ⟨rfl,hf3⟩
   replace hfb:=hfb.trans hf3
   replace b0:=hf3.keep b0
   replace b1:=hf3.keep b1
   replace b2:=hf3.keep b2
   replace b3:=hf3.keep b3
   replace q6:=hf3.keepf q4 q6
   replace q7:=hf3.keepf q5 q7
   replace q4:=hf3.keep q4
   replace q5:=hf3.keep q5
   clear hf3
   have qs:=Cq w3 (w.heap.size+1+1) (sv rn) (sv rd) _ _ q4 q5
   have q8:=qs.2.2.1
   have u0:=hZ qs.1
   have u1:=hZ qs.2.1
   have hfx:=hZ qs.2.2.2
   clear qs
   go_wp2_with fail
   have v0:=u0.out
   have v1:=u1.out
   refine AP (v:=.agg #[sv rn,sv rd]) (by simp [results,Tryz.results225,go_sem,v0,v1]) rfl ⟨rfl, ?_⟩
   exact ((Fx.of_fr (p:=fun q=>q=w.heap.size+1+1) hfb).trans hfx.out).toFr (fun q hq e=>by have e:q=w.heap.size+1+1:=e; omega)
  ·clear hv1 hv2
   go_enter Tryz.func225,Tryz.ntmps225
   go_upto_region 1 with (fail)
   change Code.wp _ _ _ _ (Ef w [(.cells #[sv n,sv d] 221),(.cells #[sv m,sv c] 221),(.cells #[.string ⟨#[]⟩,.string ⟨#[]⟩] 221)])
   rw [← hwb]
   clear hwb
   go_wp2_with fail
   refine (h1.out _).mono ?_
   rintro e w1 ⟨rfl,hf1⟩
   replace hfb:=hfb.trans hf1
   replace b0:=hf1.keep b0
   replace b1:=hf1.keep b1
   replace b2:=hf1.keep b2
   replace b3:=hf1.keep b3
   replace q6:=hf1.keepf q4 q6
   replace q7:=hf1.keepf q5 q7
   replace q4:=hf1.keep q4
   replace q5:=hf1.keep q5
   clear hf1
   go_wp2_with fail
   refine (h2.out _).mono ?_
   rintro e w2 ⟨rfl,hf2⟩
   replace hfb:=hfb.trans hf2
   replace b0:=hf2.keep b0
   replace b1:=hf2.keep b1
   replace b2:=hf2.keep b2
   replace b3:=hf2.keep b3
   replace q6:=hf2.keepf q4 q6
   replace q7:=hf2.keepf q5 q7
   replace q4:=hf2.keep q4
   replace q5:=hf2.keep q5
   clear hf2
   go_wp2_with fail
   replace q4:=hZ q4
   replace q5:=hZ q5
   replace q6:=hZ q6
   replace q7:=hZ q7
   go_region_held3 (fun w'=>w'.cell? ⟨w.heap.size,0,none⟩=some (sv n)∧w'.cell? ⟨w.heap.size,1,none⟩=some (sv d)∧w'.cell? ⟨w.heap.size+1,0,none⟩=some (sv m)∧w'.cell? ⟨w.heap.size+1,1,none⟩=some (sv c))
    (first | exact ⟨b0,b1,b2,b3⟩ | (go_split_ands; refine ⟨?_, ?_, ?_, ?_⟩ <;> (refine Fr.keep (by assumption) ?_; assumption)) | (go_split_ands; (try dsimp only); (repeat' apply And.intro) <;> (rw [Ad _ _ _ _ (by intro e; injection e with e; omega),Ad _ _ _ _ (by intro e; injection e with e; omega)]; assumption)) | go_keep)
    (first
     | (go_at_call 95; (with_reducible refine (hM1.out _ ?_).mono ?_); (exact B9); rintro e w3 ⟨rfl,hf3⟩)
     | (go_at_call 95; (with_reducible refine (hM2.out _ ?_).mono ?_); (exact B9); rintro e w4 ⟨rfl,hf4⟩)
     | (go_at_call 247; (with_reducible refine (hL.out _ ?_).mono ?_); (exact B9); rintro e w5 ⟨rfl,hf5⟩; have hfz:Fr w2 w5:=(by exact B9); have t4:=hfz.keep q4.out; have t5:=hfz.keep q5.out; have t6:=hfz.keepf q4.out q6.out; have t7:=hfz.keepf q5.out q7.out; have qs:=Cq w5 (w.heap.size+1+1) (sv rn) (sv rd) _ _ t4 t5; have q8:=qs.2.2.1; have u0:=hZ qs.1; have u1:=hZ qs.2.1; have hfx:=hZ qs.2.2.2; clear qs))
   clear q8 t4 t5 t6 t7
   replace hfb:=hfb.trans hfz
   go_wp2_with fail
   have v0:=u0.out
   have v1:=u1.out
   refine AP (v:=.agg #[sv rn,sv rd]) (by simp [results,Tryz.results225,go_sem,v0,v1]) rfl ⟨rfl, ?_⟩
   exact ((Fx.of_fr (p:=fun q=>q=w.heap.size+1+1) hfb).trans hfx.out).toFr (fun q hq e=>by have e:q=w.heap.size+1+1:=e; omega)
 ·clear hv1 hv2
  go_enter Tryz.func225,Tryz.ntmps225
  go_upto_region 1 with (fail)
  change Code.wp _ _ _ _ (Ef w [(.cells #[sv n,sv d] 221),(.cells #[sv m,sv c] 221),(.cells #[.string ⟨#[]⟩,.string ⟨#[]⟩] 221)])
  rw [← hwb]
  clear hwb
  go_wp2_with fail
  refine (h1.out _).mono ?_
  rintro e w1 ⟨rfl,hf1⟩
  replace hfb:=hfb.trans hf1
  replace b0:=hf1.keep b0
  replace b1:=hf1.keep b1
  replace b2:=hf1.keep b2
  replace b3:=hf1.keep b3
  replace q6:=hf1.keepf q4 q6
  replace q7:=hf1.keepf q5 q7
  replace q4:=hf1.keep q4
  replace q5:=hf1.keep q5
  clear hf1
  go_wp2_with fail
  replace q4:=hZ q4
  replace q5:=hZ q5
  replace q6:=hZ q6
  replace q7:=hZ q7
  go_region_held3 (fun w'=>w'.cell? ⟨w.heap.size,0,none⟩=some (sv n)∧w'.cell? ⟨w.heap.size,1,none⟩=some (sv d)∧w'.cell? ⟨w.heap.size+1,0,none⟩=some (sv m)∧w'.cell? ⟨w.heap.size+1,1,none⟩=some (sv c))
   (first | exact ⟨b0,b1,b2,b3⟩ | (go_split_ands; refine ⟨?_, ?_, ?_, ?_⟩ <;> (refine Fr.keep (by assumption) ?_; assumption)) | (go_split_ands; (try dsimp only); (repeat' apply And.intro) <;> (rw [Ad _ _ _ _ (by intro e; injection e with e; omega),Ad _ _ _ _ (by intro e; injection e with e; omega)]; assumption)) | go_keep)
   (first
    | (go_at_call 95; (with_reducible refine (hM1.out _ ?_).mono ?_); (exact B9); rintro e w3 ⟨rfl,hf3⟩)
    | (go_at_call 95; (with_reducible refine (hM2.out _ ?_).mono ?_); (exact B9); rintro e w4 ⟨rfl,hf4⟩)
    | (go_at_call 247; (with_reducible refine (hL.out _ ?_).mono ?_); (exact B9); rintro e w5 ⟨rfl,hf5⟩; have hfz:Fr w1 w5:=(by exact B9); have t4:=hfz.keep q4.out; have t5:=hfz.keep q5.out; have t6:=hfz.keepf q4.out q6.out; have t7:=hfz.keepf q5.out q7.out; have qs:=Cq w5 (w.heap.size+1+1) (sv rn) (sv rd) _ _ t4 t5; have q8:=qs.2.2.1; have u0:=hZ qs.1; have u1:=hZ qs.2.1; have hfx:=hZ qs.2.2.2; clear qs))
  clear q8 t4 t5 t6 t7
  replace hfb:=hfb.trans hfz
  go_wp2_with fail
  have v0:=u0.out
  have v1:=u1.out
  refine AP (v:=.agg #[sv rn,sv rd]) (by simp [results,Tryz.results225,go_sem,v0,v1]) rfl ⟨rfl, ?_⟩
  exact ((Fx.of_fr (p:=fun q=>q=w.heap.size+1+1) hfb).trans hfx.out).toFr (fun q hq e=>by have e:q=w.heap.size+1+1:=e; omega)
theorem VA (x y:Rat) (hx:Tq x) (hy:Tq y) (h0:y≠0) (w:World) (hG:G w) :
 Calls Tryz.prog 224 #[qv x,qv y] w fun e w'=>e=.returned (.tuple #[qv (x / y),.int .i64 0])∧Fr w w':=by
 have hyn:y.num≠0:=fun h=>h0 ((Ub y).1 h)
 have hdx:=NW x
 have hS:=fun W=>SU y W
 have hM1:=fun W (hW:Fr w W)=>Pz 3000 3000 (by decide) (by decide) x.num y.den hx.1 hy.2 W (hG.fr hW)
 have hM2:=fun W (hW:Fr w W)=>Pz 3000 3000 (by decide) (by decide) x.den y.num hx.2 hy.1 W (hG.fr hW)
 have hb1:=hx.1.mul hy.2
 have hb2:=hx.2.mul hy.1
 have hL:=fun W (hW:Fr w W)=>Rp (3000+3000) (by decide) (x.num * y.den) (x.den * y.num) hb1 hb2 (Int.mul_ne_zero (by omega) hyn) W (hG.fr hW)
 rw [Wv] at hL
 unfold qv at hS hL ⊢
 have hsg:(y.num.sign == 0)=false:=A2 (fun h=>hyn (Int.sign_eq_zero_iff_zero.1 h))
 generalize (x / y).num=rn at *
 generalize ((x / y).den:Int)=rd at *
 generalize x.num=n at *
 generalize y.num=m at *
 generalize (x.den:Int)=d at *
 generalize (y.den:Int)=c at *
 replace hS:=hZ hS
 replace hM1:=hZ hM1
 replace hM2:=hZ hM2
 replace hL:=hZ hL
 replace hyn:=hZ hyn
 clear h0 hdx hb1 hb2 hx hy
 obtain ⟨wb,hwb⟩:∃ wb,wb=Ef w [(.cells #[sv n,sv d] 221),(.cells #[sv m,sv c] 221),(.cells #[.string ⟨#[]⟩,.string ⟨#[]⟩] 221)]:=⟨_,rfl⟩
 have hfb:Fr w wb:=by rw [hwb]; exact EG _ w
 have g0:wb.heap[w.heap.size]?=some (.cells #[sv n,sv d] 221 (0,0)):=by rw [hwb]; exact Cu _ w 0 _ rfl
 have g1:wb.heap[w.heap.size+1]?=some (.cells #[sv m,sv c] 221 (0,0)):=by rw [hwb]; exact Cu _ w 1 _ rfl
 have g2:wb.heap[w.heap.size+2]?=some (.cells #[.string ⟨#[]⟩,.string ⟨#[]⟩] 221 (0,0)):=by rw [hwb]; exact Cu _ w 2 _ rfl
 have b0:wb.cell? ⟨w.heap.size,0,none⟩=some (sv n):=A1 g0 0
 have b1:wb.cell? ⟨w.heap.size,1,none⟩=some (sv d):=A1 g0 1
 have b2:wb.cell? ⟨w.heap.size+1,0,none⟩=some (sv m):=A1 g1 0
 have b3:wb.cell? ⟨w.heap.size+1,1,none⟩=some (sv c):=A1 g1 1
 have q4:wb.cell? ⟨w.heap.size+1+1,0,none⟩=some (.string ⟨#[]⟩):=A1 g2 0
 have q5:wb.cell? ⟨w.heap.size+1+1,1,none⟩=some (.string ⟨#[]⟩):=A1 g2 1
 have q6:wb.frozen? ⟨w.heap.size+1+1,0,none⟩=false:=by unfold World.frozen?; rw [g2]; rfl
 have q7:wb.frozen? ⟨w.heap.size+1+1,1,none⟩=false:=by unfold World.frozen?; rw [g2]; rfl
 clear g0 g1 g2
 go_enter Tryz.func224,Tryz.ntmps224
 go_upto_region 1 with (fail)
 change Code.wp _ _ _ _ (Ef w [(.cells #[sv n,sv d] 221),(.cells #[sv m,sv c] 221),(.cells #[.string ⟨#[]⟩,.string ⟨#[]⟩] 221)])
 rw [← hwb]
 clear hwb
 go_wp2_with fail
 refine (hS.out _).mono ?_
 rintro e w1 ⟨rfl,hf1⟩
 replace hfb:=hfb.trans hf1
 replace b0:=hf1.keep b0
 replace b1:=hf1.keep b1
 replace b2:=hf1.keep b2
 replace b3:=hf1.keep b3
 replace q6:=hf1.keepf q4 q6
 replace q7:=hf1.keepf q5 q7
 replace q4:=hf1.keep q4
 replace q5:=hf1.keep q5
 clear hf1
 go_wp2_with fail
 replace q4:=hZ q4
 replace q5:=hZ q5
 replace q6:=hZ q6
 replace q7:=hZ q7
 go_region_held3 (fun w'=>w'.cell? ⟨w.heap.size,0,none⟩=some (sv n)∧w'.cell? ⟨w.heap.size,1,none⟩=some (sv d)∧w'.cell? ⟨w.heap.size+1,0,none⟩=some (sv m)∧w'.cell? ⟨w.heap.size+1,1,none⟩=some (sv c))
  (first | exact ⟨b0,b1,b2,b3⟩ | (go_split_ands; refine ⟨?_, ?_, ?_, ?_⟩ <;> (refine Fr.keep (by assumption) ?_; assumption)) | (go_split_ands; (try dsimp only); (repeat' apply And.intro) <;> (rw [Ad _ _ _ _ (by intro e; injection e with e; omega),Ad _ _ _ _ (by intro e; injection e with e; omega)]; assumption)) | go_keep)
  (first
   | (go_at_call 95; (with_reducible refine (hM1.out _ ?_).mono ?_); (exact B9); rintro e w3 ⟨rfl,hf3⟩)
   | (go_at_call 95; (with_reducible refine (hM2.out _ ?_).mono ?_); (exact B9); rintro e w4 ⟨rfl,hf4⟩)
   | (go_at_call 247; (with_reducible refine (hL.out _ ?_).mono ?_); (exact B9); rintro e w5 ⟨rfl,hf5⟩; have hfz:Fr w1 w5:=(by exact B9); have t4:=hfz.keep q4.out; have t5:=hfz.keep q5.out; have t6:=hfz.keepf q4.out q6.out; have t7:=hfz.keepf q5.out q7.out; have qs:=Cq w5 (w.heap.size+1+1) (sv rn) (sv rd) _ _ t4 t5; have q8:=qs.2.2.1; have u0:=hZ qs.1; have u1:=hZ qs.2.1; have hfx:=hZ qs.2.2.2; clear qs))
 clear q8 t4 t5 t6 t7
 replace hfb:=hfb.trans hfz
 go_wp2_with fail
 have v0:=u0.out
 have v1:=u1.out
 refine AP (v:=.tuple #[.agg #[sv rn,sv rd],.int .i64 0]) (by simp [results,Tryz.results224,go_sem,v0,v1]) rfl ⟨rfl, ?_⟩
 exact ((Fx.of_fr (p:=fun q=>q=w.heap.size+1+1) hfb).trans hfx.out).toFr (fun q hq e=>by have e:q=w.heap.size+1+1:=e; omega)
theorem SL {u:Nat} (h:0 < u) (h0:0 < (decDigits u).length):((decDigits u)[0]'h0).toNat≠48:=fun e=>by
 obtain ⟨b,r,hbr⟩:=Ye (EY u)
 have key:∀ (l:List UInt8) (h:0 < l.length),l=b :: r→l[0]'h=b:=by
  rintro _ _ rfl; rfl
 have hb:b.toNat=48:=by
  rw [key _ h0 hbr] at e; exact e
 have hr:∀ c ∈ r,48≤c.toNat∧c.toNat≤57:=fun c hc=>B6 u c (by rw [hbr]; exact BI _ hc)
 have hv:Bh 0 r=u:=by
  have:=B5 u
  rw [hbr] at this
  have e3:Bh 0 (b :: r)=Bh (0 * 10+(b.toNat - 48)) r:=rfl
  rw [e3,hb] at this
  exact this
 have hlt:=(Cr r 0 hr).2
 rw [hv] at hlt
 by_cases hl:r=[]
 ·have hv0:(0:Nat)=u:=by rw [hl] at hv; exact hv
  exact (Nat.ne_of_gt h) hv0.symm
 ·have h2:2≤nDigits u:=by
   rw [← ZQ,hbr,Aw]
   have:=Cy.2 hl
   omega
  have h3:=F6 u h2
  have h4:nDigits u - 1=r.length:=by rw [← ZQ,hbr,Aw]; omega
  rw [h4] at h3
  rw [AN,E8] at hlt
  exact absurd h3 (Nat.not_le_of_lt hlt)
theorem VJ (u:Nat) (w:World) (hs:(tx (u:Int)).size≤1000000000) :
 Calls Tryz.prog 268 #[.string (tx (u:Int))] w fun e w'=>e=.returned (.bool true)∧Fr w w':=by
 have h0:tx (u:Int)=tb (decDigits u):=by rw [Id,BV (by omega),AR]
 rw [h0,DU] at hs
 rw [h0]
 obtain ⟨L,hL⟩:∃ L,L=decDigits u:=⟨_,rfl⟩
 have hd:∀ c ∈ L,48≤c.toNat∧c.toNat≤57:=by rw [hL]; exact B6 u
 have hne:L≠[]:=by rw [hL]; exact EY u
 have hhd:1 < L.length→∀ h:0 < L.length,(L[0]'h).toNat≠48:=fun h1 h=>by
  subst hL
  refine SL ?_ h
  by_cases hu:u=0
  ·subst hu; exact absurd h1 (by decide +kernel)
  ·omega
 rw [← hL] at hs ⊢
 clear hL h0
 have hpos:0 < L.length:=Cy.2 hne
 obtain ⟨cap5,W5,hcv,hf5,hz5,hc5⟩:=RN w L
 obtain ⟨N,hN⟩:∃ N,N=L.length:=⟨_,rfl⟩
 have hSz:(tb L).size=N:=by rw [DU,hN]
 have hget:∀ h:0 < (tb L).size,((tb L)[0]'h)=L[0]'hpos:=fun h=>by simp [tb]; rfl
 rw [← hN] at hs hcv hpos
 have hhd2:1 < N→∀ h:0 < (tb L).size,((((tb L)[0]'h).toNat:Int) != 48)=true:=fun h1 h=>by
  rw [hget h,Bs]
  have:=hhd (by omega) (by omega)
  omega
 have hdg:Hid (∀ j (h:j < N),∃ c:UInt8,48≤c.toNat∧c.toNat≤57∧W5.cell? ⟨w.heap.size,j,none⟩=some (.int .u8 (c.toNat:Int))):=fun j h=>by
  have h2:j < L.length:=by omega
  exact ⟨L[j],(hd _ (AG h2)).1,(hd _ (AG h2)).2,hc5 j h2⟩
 replace hN:=hZ hN
 clear hd hne hhd hget hc5
 obtain ⟨S,hS⟩:∃ S,S=tb L:=⟨_,rfl⟩
 rw [← hS] at hSz hhd2 hcv
 rw [← hS]
 replace hS:=hZ hS
 have hp2:0 < S.size:=by omega
 go_enter Tryz.func268,Tryz.ntmps268
 go_wp2_with fail
 go_loopg [8] N (fun k s8 wr=>∃ j:Nat,s8=.int .i64 j∧j+k=N∧wr=W5)
 case atStart=>exact ⟨0,rfl,by omega,rfl⟩
 case round=>
  obtain ⟨j,rfl,hjk,rfl⟩:=hrel
  by_cases hj:j < N
  ·obtain ⟨c,hc1,hc2,cj⟩:=hdg.out j hj
   have dj:decide ((j:Int) < (N:Int))=true:=Ab (by omega)
   have y0:(0:Int)≤(j:Int):=by omega
   have y1:(j:Int) < (N:Int):=by omega
   have e1:decide ((c.toNat:Int) < 48)=false:=Aa (by omega)
   have e2:decide ((57:Int) < (c.toNat:Int))=false:=Aa (by omega)
   clear hhd2
   go_wp2_with fail
   go_roundg (gk - 1)
   case measure=>omega
   case rel=>exact ⟨j+1,by go_num,by omega,rfl⟩
  ·obtain rfl:j=N:=by omega
   have dj:decide ((j:Int) < (j:Int))=false:=Aa (by omega)
   by_cases h1:j=1
   ·have b1:((S.size:Int) == 1)=true:=by rw [hSz,h1]; rfl
    clear hhd2
    go_wp2_with fail
    go_ret
    exact ⟨rfl,hf5⟩
   ·have b1:((S.size:Int) == 1)=false:=A2 (by omega)
    have b2:decide ((1:Int) < (S.size:Int))=true:=Ab (by omega)
    have b3:=hhd2 (by omega) hp2
    have b4:(0:Int) < (S.size:Int):=by omega
    clear hhd2
    go_wp2_with fail
    go_ret
    exact ⟨rfl,hf5⟩
theorem Ta (u:Nat) (w:World) (hs:(tx (u:Int)).size≤400) :
 Calls Tryz.prog 264 #[.string (tx (u:Int))] w fun e w'=>e=.returned (.int .i64 0)∧Fr w w':=by
 have hc:=hZ (VJ u w (by omega))
 have d1:decide ((400:Int) < ((tx (u:Int)).size:Int))=false:=Aa (by omega)
 generalize tx (u:Int)=S at *
 go_enter Tryz.func264,Tryz.ntmps264
 go_wp2_with fail
 refine hc.out.mono ?_
 rintro e w1 ⟨rfl,hf1⟩
 go_wp2_with fail
 go_ret
 exact ⟨rfl,hf1⟩
theorem Nb (n:Int) (w:World) (hs:(tx n).size≤400) (hs2:(tx (n.natAbs:Int)).size≤400) :
 Calls Tryz.prog 258 #[.string (tx n)] w fun e w'=>e=.returned (.int .i64 0)∧Fr w w':=by
 have hsp:=hZ (EN n w (by omega))
 have hc:=hZ (fun W=>Ta n.natAbs W hs2)
 by_cases h:n < 0
 ·have hb0:=Cn (n.natAbs:Int)
  rw [Aa (show ¬ (n.natAbs:Int)=0 by omega)] at hb0
  have dn:decide (n < 0)=true:=Ab h
  rw [dn] at hsp
  generalize tx (n.natAbs:Int)=M at *
  generalize tx n=S at *
  clear h dn
  go_enter Tryz.func258,Tryz.ntmps258
  go_wp2_with fail
  refine hsp.out.mono ?_
  rintro e w1 ⟨rfl,hf1⟩
  go_wp2_with fail
  refine (hc.out _).mono ?_
  rintro e w2 ⟨rfl,hf2⟩
  go_wp2_with fail
  go_ret
  exact ⟨rfl,hf1.trans hf2⟩
 ·have dn:decide (n < 0)=false:=Aa h
  rw [dn] at hsp
  generalize tx (n.natAbs:Int)=M at *
  generalize tx n=S at *
  clear h dn
  go_enter Tryz.func258,Tryz.ntmps258
  go_wp2_with fail
  refine hsp.out.mono ?_
  rintro e w1 ⟨rfl,hf1⟩
  go_wp2_with fail
  refine (hc.out _).mono ?_
  rintro e w2 ⟨rfl,hf2⟩
  go_wp2_with fail
  go_ret
  exact ⟨rfl,hf1.trans hf2⟩
theorem VG (w:World) (hG:G w) :
 Calls Tryz.prog 245 #[.string (tx 1),.string (tx 1)] w fun e w'=>e=.returned (.string (tx 1))∧Fr w w':=by
 have hg:=hZ (Xr 1 1 (by decide +kernel) (by decide +kernel) w hG)
 have hd:=hZ (fun W (hW:Fr w W)=>VH 1 1 (by decide) (by decide +kernel) (by decide +kernel) W (hG.fr hW))
 have hm:=hZ (fun W (hW:Fr w W)=>Xq 1 1 (by decide +kernel) (by decide +kernel) (by decide +kernel) W (hG.fr hW))
 have hb0:=Cn 1
 rw [Aa (show ¬ (1:Int)=0 by decide)] at hb0
 have e1:(((1:Nat):Int))=1:=rfl
 have e2:((((Nat.gcd 1 1:Nat)):Int))=1:=by decide
 have e3:(((1 / 1:Nat):Int))=1:=by decide
 have e4:(((1 * 1:Nat):Int))=1:=by decide
 rw [e2,e1] at hg
 rw [e3] at hd
 rw [e4] at hm
 generalize tx (((1 % 1:Nat)):Int)=R at *
 generalize tx 1=S at *
 clear e1 e2 e3 e4 hG
 go_enter Tryz.func245,Tryz.ntmps245
 go_wp2_with fail
 refine hg.out.mono ?_
 rintro e w1 ⟨rfl,hf1⟩
 go_wp2_with fail
 refine (hd.out _ hf1).mono ?_
 rintro e w2 ⟨rfl,hf2⟩
 go_wp2_with fail
 refine (hm.out _ (hf1.trans hf2)).mono ?_
 rintro e w3 ⟨rfl,hf3⟩
 go_wp2_with fail
 go_ret
 exact ⟨rfl,(hf1.trans hf2).trans hf3⟩
theorem U9 (w:World) (hG:G w) :
 Calls Tryz.prog 222 #[.string (tx 1),.string (tx 1)] w fun e w'=>e=.returned (.string (tx 1))∧Fr w w':=by
 have ha:=hZ (fun W=>H3 1 W (by decide +kernel))
 have hl:=hZ (fun W (hW:Fr w W)=>VG W (hG.fr hW))
 have e1:(((1:Int).natAbs:Nat):Int)=1:=by decide
 rw [e1] at ha
 generalize tx 1=S at *
 clear e1 hG
 go_enter Tryz.func222,Tryz.ntmps222
 go_wp2_with fail
 refine (ha.out _).mono ?_
 rintro e w1 ⟨rfl,hf1⟩
 go_wp2_with fail
 refine (ha.out _).mono ?_
 rintro e w2 ⟨rfl,hf2⟩
 go_wp2_with fail
 refine (hl.out _ (hf1.trans hf2)).mono ?_
 rintro e w3 ⟨rfl,hf3⟩
 go_wp2_with fail
 go_ret
 exact ⟨rfl,(hf1.trans hf2).trans hf3⟩
theorem Jw (wr:World) (r o:Nat) (u v u0 v0:Value) (h0:wr.cell? ⟨r,o,none⟩=some u0) (h1:wr.cell? ⟨r,o+1,none⟩=some v0) :
 ((wr.setCell ⟨r,o,none⟩ u).setCell ⟨r,o+1,none⟩ v).cell? ⟨r,o,none⟩=some u∧((wr.setCell ⟨r,o,none⟩ u).setCell ⟨r,o+1,none⟩ v).cell? ⟨r,o+1,none⟩=some v ∧
   (wr.setCell ⟨r,o,none⟩ u).cell? ⟨r,o+1,none⟩=some v0∧Fx (·=r) wr ((wr.setCell ⟨r,o,none⟩ u).setCell ⟨r,o+1,none⟩ v):=by
 have ne:∀ (i j:Nat),i≠j→(⟨r,i,none⟩:Addr)≠⟨r,j,none⟩:=fun i j h e=>by injection e with _ e; exact h e
 have e1:(wr.setCell ⟨r,o,none⟩ u).cell? ⟨r,o+1,none⟩=some v0:=by rw [Ad _ _ _ _ (ne o (o+1) (by omega))]; exact h1
 refine ⟨?_, ?_,e1,Fx.setCell (p:=(·=r)) (q:=⟨r,o+1,none⟩) (Fx.setCell (p:=(·=r)) (q:=⟨r,o,none⟩) (Fx.refl _ _) (.inl rfl) u) (.inl rfl) v⟩
 ·rw [Ad _ _ _ _ (ne (o+1) o (by omega))]; exact Al _ _ _ (by rw [h0]; rfl)
 ·exact Al _ _ _ (by rw [e1]; rfl)
theorem Ql (n:Int) (h0:-9223372036854775808≤n) (h1:n≤9223372036854775807) (w:World) (hG:G w) :
 Calls Tryz.prog 223 #[.int .i64 n] w fun e w'=>e=.returned (.agg #[.string (tx n),.string (tx 1)])∧Fr w w':=by
 have ho:=hZ (fun W (hW:Fr w W)=>Cs n h0 h1 W (hG.fr hW))
 have hfa:Fr w (w.alloc (.cells #[.string ⟨#[]⟩,.string ⟨#[]⟩] 221)):=(Fr.refl w).alloc _
 have n0:=(CC w (.string ⟨#[]⟩) (.string ⟨#[]⟩) 221)
 have n1:=(Ct w (.string ⟨#[]⟩) (.string ⟨#[]⟩) 221)
 obtain ⟨n2,n4⟩:=n0
 obtain ⟨n3,n5⟩:=n1
 have e1:=Fo
 generalize tx n=S at *
 obtain ⟨wb,hwb⟩:∃ wb,wb=w.alloc (.cells #[.string ⟨#[]⟩,.string ⟨#[]⟩] 221):=⟨_,rfl⟩
 rw [← hwb] at n2 n3 n4 n5 hfa
 go_enter Tryz.func223,Tryz.ntmps223
 go_upto_region 1 with (fail)
 rw [← hwb]
 clear hwb
 go_wp2_with fail
 refine (ho.out _ hfa).mono ?_
 rintro e w1 ⟨rfl,hf1⟩
 have m2:=hf1.keep n2
 have m3:=hf1.keep n3
 have m4:=hf1.keepf n2 n4
 have m5:=hf1.keepf n3 n5
 have hfw:=hfa.trans hf1
 obtain ⟨q0,q1,q2,hfx⟩:=Jw w1 w.heap.size 0 (.string S) (.string ⟨#[49]⟩) _ _ m2 m3
 replace q0:=hZ q0
 replace q1:=hZ q1
 replace hfx:=hZ hfx
 replace e1:=hZ e1
 clear n2 n3 n4 n5
 go_wp2_with fail
 have v0:=q0.out
 have v1:=q1.out
 rw [e1.out]
 refine AP (v:=.agg #[.string S,.string ⟨#[49]⟩]) (by simp [results,Tryz.results223,go_sem,v0,v1]) rfl ⟨rfl, ?_⟩
 exact ((Fx.of_fr (p:=fun q=>q=w.heap.size) hfw).trans hfx.out).toFr (fun q hq e=>by have e:q=w.heap.size:=e; omega)
theorem QR (n:Int) (hn:Sm n) (w:World) (hG:G w) :
 Calls Tryz.prog 243 #[.agg #[.string (tx n),.string (tx 1)]] w fun e w'=>e=.returned (.int .i64 0)∧Fr w w':=by
 have hsz:=hn.size
 have hsz2:(tx (n.natAbs:Int)).size≤18:=Cl 17 _ (by omega) (by unfold Sm at hn; omega)
 have hk:=hZ (fun W=>Nb n W (by omega) (by omega))
 have hk1:=hZ (fun W=>Nb 1 W (by decide +kernel) (by decide +kernel))
 have hsg:=hZ (fun W=>C7 1 W)
 have hg:=hZ (fun W (hW:Fr w W)=>X5 n 1 hn (by unfold Sm; decide) W (hG.fr hW))
 have e1:((Nat.gcd n.natAbs (1:Int).natAbs:Nat):Int)=1:=by rw [show (1:Int).natAbs=1 from rfl,Nat.gcd_one_right]; rfl
 have b1:=VX 1
 rw [Ab rfl] at b1
 rw [e1] at hg
 have hfa:Fr w (w.alloc (.cells #[.string (tx n),.string (tx 1)] 221)):=(Fr.refl w).alloc _
 have n2:=(CC w (.string (tx n)) (.string (tx 1)) 221).1
 have n3:=(Ct w (.string (tx n)) (.string (tx 1)) 221).1
 obtain ⟨wb,hwb⟩:∃ wb,wb=w.alloc (.cells #[.string (tx n),.string (tx 1)] 221):=⟨_,rfl⟩
 rw [← hwb] at n2 n3 hfa
 have hsg1:(1:Int).sign=1:=rfl
 rw [hsg1] at hsg
 generalize tx n=S at *
 generalize tx 1=O at *
 clear e1 hn hsz hsz2 hG hsg1
 go_enter Tryz.func243,Tryz.ntmps243
 go_upto_region 1 with (fail)
 rw [← hwb]
 clear hwb
 go_wp2_with fail
 refine (hk.out _).mono ?_
 rintro e w1 ⟨rfl,hf1⟩
 replace n2:=hf1.keep n2
 replace n3:=hf1.keep n3
 replace hfa:=hfa.trans hf1
 clear hf1
 go_wp2_with fail
 refine (hk1.out _).mono ?_
 rintro e w2 ⟨rfl,hf2⟩
 replace n2:=hf2.keep n2
 replace n3:=hf2.keep n3
 replace hfa:=hfa.trans hf2
 clear hf2
 go_wp2_with fail
 refine (hsg.out _).mono ?_
 rintro e w3 ⟨rfl,rfl⟩
 go_wp2_with fail
 refine (hg.out _ hfa).mono ?_
 rintro e w4 ⟨rfl,hf4⟩
 go_wp2_with fail
 go_ret
 exact ⟨rfl,hfa.trans hf4⟩
theorem Sh (n:Int) (hn:Sm n) (w:World) :
 Calls Tryz.prog 244 #[.agg #[.string (tx n),.string (tx 1)]] w fun e w'=>e=.returned (.bool true)∧Fr w w':=by
 have hsz:=hn.size
 have hsz2:(tx (n.natAbs:Int)).size≤18:=Cl 17 _ (by omega) (by unfold Sm at hn; omega)
 have ha:=hZ (fun W=>H3 n W (by omega))
 have d1:decide (((tx (n.natAbs:Int)).size:Int)≤30)=true:=Ab (by omega)
 have d2:decide (((tx 1).size:Int)≤30)=true:=by decide +kernel
 have hfa:Fr w (w.alloc (.cells #[.string (tx n),.string (tx 1)] 221)):=(Fr.refl w).alloc _
 have n2:=(CC w (.string (tx n)) (.string (tx 1)) 221).1
 have n3:=(Ct w (.string (tx n)) (.string (tx 1)) 221).1
 obtain ⟨wb,hwb⟩:∃ wb,wb=w.alloc (.cells #[.string (tx n),.string (tx 1)] 221):=⟨_,rfl⟩
 rw [← hwb] at n2 n3 hfa
 generalize tx (n.natAbs:Int)=M at *
 generalize tx n=S at *
 generalize tx 1=O at *
 clear hn hsz hsz2
 go_enter Tryz.func244,Tryz.ntmps244
 go_upto_region 1 with (fail)
 rw [← hwb]
 clear hwb
 go_wp2_with fail
 refine (ha.out _).mono ?_
 rintro e w1 ⟨rfl,hf1⟩
 replace n2:=hf1.keep n2
 replace n3:=hf1.keep n3
 replace hfa:=hfa.trans hf1
 clear hf1
 go_wp2_with fail
 go_ret
 exact ⟨rfl,hfa⟩
end Go.Proofs.YtiniigadkknboaaGreatDoor
