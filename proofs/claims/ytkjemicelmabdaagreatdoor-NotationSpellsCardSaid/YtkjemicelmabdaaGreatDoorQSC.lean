/-
  Contracts and laws for the statements of the seat, QSC.
-/
import Derived.Test.YtkjemicelmabdaaGreatDoorQSW
import Derived.Test.YtkjemicelmabdaaGreatDoorQSB
import Derived.Test.YtkjemicelmabdaaGreatDoorQSA
import Derived.Test.YtkjemicelmabdaaGreatDoorQK
import Derived.Test.YtkjemicelmabdaaGreatDoorQH
import Derived.Test.YtkjemicelmabdaaGreatDoorQRd
import Derived.Test.YtkjemicelmabdaaGreatDoorQTx2

set_option maxRecDepth 100000
set_option maxHeartbeats 16000000
namespace Go.Proofs.YtkjemicelmabdaaGreatDoor
open Go.RowKit Go.Lib
attribute [local go_sem ↓] Go.wp_at_zero Go.wp_at_succ
theorem rows_nil (a:Option Addr) (cap:Nat) (f:Value) (w:World) :
 Calls Tryz.prog 109 #[.slice a 0 cap,f] w fun e w'=>e=.returned (.slice none 0 0)∧w=w':=by
 go_enter Tryz.func109,Tryz.ntmps109
 go_wp2_with fail
 refine wp_loop_rounds 1 ?_
 rw [rounds_succ]
 go_wp2_with fail
 go_ret
 exact ⟨rfl,rfl⟩
theorem Inverse_nil (a:Option Addr) (cap:Nat) (w:World) (hG:G w) :
 Calls Tryz.prog 70 #[.slice a 0 cap] w fun e w'=>e=.returned (.tuple #[.slice none 0 0,.int .i64 0])∧Fr w w':=by
 have hck:=hZ (tabCheck_ok [] a cap 0 w (.inl rfl) ⟨by simp,by omega,(fun r hr=>by cases hr),(fun r hr=>by cases hr)⟩)
 have hro:=hZ (fun f W=>rows_nil a cap f W)
 have hre:=hZ (fun W=>reduce_nil W)
 have hGf:=hZ (fun W (hW:Fr w W)=>hG.fr hW)
 clear hG
 go_enter Tryz.func70,Tryz.ntmps70
 go_wp2_with fail
 refine hck.out.mono ?_
 rintro e w1 ⟨rfl,hf1⟩
 go_upto_region 5 with (fail)
 obtain ⟨pb,hpb⟩:∃ pb,pb=w1.heap.size:=⟨_,rfl⟩
 obtain ⟨w2,hw2⟩:∃ w2,w2=w1.alloc (.cells #[.int .i64 0] 3):=⟨_,rfl⟩
 have c0:w2.cell? ⟨pb,0,none⟩=some (.int .i64 0):=by rw [hw2,hpb]; exact new_cell _ _ _
 have hf2:Fr w w2:=by rw [hw2]; exact hf1.alloc _
 change Code.wp _ _ _ _ (w1.alloc (.cells #[.int .i64 0] 3))
 rw [← hw2,← hpb]
 clear hw2 hpb
 refine wp_region_held_drew (S:=fun W=>W.cell? ⟨pb,0,none⟩=some (.int .i64 0)) (by kernel_rfl) ((Fr.refl w2).drew.keep c0) (fun hHeld=>?_)
 refine hK 0 ?_
 change wpAnyH _ _ _ _ _ _ _ (Act.put _ (some 19) _) _
 simp only [Act.put,lsT,ls0,lsS]
 refine hK 1 ?_
 change wpAnyH _ _ _ _ _ _ _ (Act.put _ (some 20) _) _
 simp only [Act.put,lsT,ls0,lsS]
 refine hK 2 ?_
 change wpAnyH _ _ _ _ _ _ _ (Act.put _ (some 21) _) _
 simp only [Act.put,lsT,ls0,lsS]
 refine hN 3 ?_
 change wpAnyH _ _ _ _ _ _ _ (Act.put _ (some 22) _) _
 simp only [Act.put,lsT,ls0,lsS]
 refine hN 4 ?_
 change wpAnyH _ _ _ _ _ _ _ (Act.put _ (some 23) _) _
 simp only [Act.put,lsT,ls0,lsS]
 refine hN 5 ?_
 change wpAnyH _ _ _ _ _ _ _ (Act.put _ (some 24) _) _
 simp only [Act.put,lsT,ls0,lsS]
 refine hN 6 ?_
 change wpAnyH _ _ _ _ _ _ _ (Act.put _ (some 25) _) _
 simp only [Act.put,lsT,ls0,lsS]
 refine hK 7 ?_
 change wpAnyH _ _ _ _ _ _ _ (Act.put _ (some 26) _) _
 simp only [Act.put,lsT,ls0,lsS]
 refine wpAnyH_done (by kernel_rfl) ?_ _
 have hd:Fr w2 w2.drew:=(Fr.refl w2).drew
 have c1:=hd.keep c0
 clear hHeld c0
 go_wp2_with fail
 refine (hro.out _ _).mono ?_
 rintro e w3 ⟨rfl,rfl⟩
 go_wp2_with fail
 refine (hre.out _).mono ?_
 rintro e w4 ⟨rfl,hf4⟩
 have c4:=hf4.keep c1
 go_upto_region 9 with (fail)
 obtain ⟨w6,hw6⟩:∃ w6,w6=w4.alloc (.cells #[sv (1:Rat).num,sv ((1:Rat).den:Int)] 134):=⟨_,rfl⟩
 have hf46:Fr w4 w6:=by rw [hw6]; exact (Fr.refl w4).alloc _
 change Code.wp _ _ _ _ (w4.alloc (.cells #[sv (1:Rat).num,sv ((1:Rat).den:Int)] 134))
 rw [← hw6]
 clear hw6
 have c6:=hf46.keep c4
 go_wp2_with fail
 refine wp_loop_rounds 1 ?_
 rw [rounds_succ]
 go_wp2_with fail
 exact bodyPost_ret (v:=.tuple #[_,.int .i64 0]) (by simp [results,Tryz.results70,go_sem]) rfl ⟨rfl,((hf2.trans hd).trans hf4).trans hf46⟩
theorem Solve_nil (aN aA:Option Addr) (nN cN cA:Nat) (f t:Value) (w:World) (hG:G w) :
 Calls Tryz.prog 28 #[.agg #[.slice aN nN cN,.slice aA 0 cA],f,t] w fun e w'=>e=.returned (.tuple #[.slice none 0 0,.bool true])∧Fr w w':=by
 have hacc:=hZ (fun W (hW:Fr w W)=>Accs_any aN aA nN cN cA [] W (hG.fr hW) ⟨.inl rfl,fun x hx=>by cases hx⟩ (by simp))
 have hinv:=hZ (fun a c W (hW:Fr w W)=>Inverse_nil a c W (hG.fr hW))
 clear hG
 have hC:=Cel2.new w (.slice aN nN cN) (.slice aA 0 cA) 32
 have f1:Fr w (w.alloc (.cells #[.slice aN nN cN,.slice aA 0 cA] 32)):=(Fr.refl _).alloc _
 have n0:=hC.a
 have n1:=hC.b
 clear hC
 go_enter Tryz.func28,Tryz.ntmps28
 go_wp2_with fail
 refine (hacc.out _ f1).mono ?_
 rintro e w2 ⟨a2,c2,rfl,-,hf2⟩
 go_wp2_with fail
 refine (hinv.out _ _ _ (f1.trans hf2)).mono ?_
 rintro e w3 ⟨rfl,hf3⟩
 go_wp2_with fail
 refine wp_loop_rounds 1 ?_
 rw [rounds_succ]
 go_wp2_with fail
 go_ret2
 exact ⟨rfl,(f1.trans hf2).trans hf3⟩
theorem NInts_nil (a:Option Addr) (c:Nat) (w:World) :
 Calls Tryz.prog 29 #[.slice a 0 c] w fun e w'=>e=.returned (.slice none 0 0)∧w=w':=by
 go_enter Tryz.func29,Tryz.ntmps29
 go_wp2_with fail
 refine wp_loop_rounds 1 ?_
 rw [rounds_succ]
 go_wp2_with fail
 go_ret
 exact ⟨rfl,rfl⟩
theorem NSpell_zero (N:List Sy) (M:Nat) (ra aN aA:Option Addr) (rc cN cA:Nat) (w:World) (hG:G w) (hn:Syms w aN N) (hM:N.length=M) (hM1:1≤M) (hM6:M≤60) (hr:∀ x,x ∈ N→x.row.length=0)
 (hck:∀ W,Fr w W→Calls Tryz.prog 27 #[.agg #[.slice aN M cN,.slice aA 0 cA]] W fun e w'=>e=.returned (.int .i64 0)∧Fr W w') :
 Calls Tryz.prog 9 #[.agg #[.slice aN M cN,.slice aA 0 cA],.slice ra 0 rc] w (SpO w (some (0,[])) 0):=by
 have hkr:Hid (∀ W,Fr w W→Calls Tryz.prog 10 #[.slice ra 0 rc] W fun e w'=>e=.returned (.int .i64 0)∧Fr W w'):=fun W _=>Check_row [] ra rc W (.inl rfl) (by decide)
 have hin:=hZ (fun a c W=>NInts_nil a c W)
 have hst:=hZ (fun f t W (hW:Fr w W)=>Solve_nil aN aA M cN cA f t W (hG.fr hW))
 have hbk:Hid (∀ W,Fr w W→Calls Tryz.prog 30 #[.slice none 0 0] W (BackRetA W [])):=fun W hW=>NBack_any [] none 0 W (hG.fr hW) (.inl rfl) (by decide) (fun x hx=>by cases hx)
 have hsy:=hZ hn
 replace hck:=hZ hck
 replace hM:=hZ hM
 replace hr:=hZ hr
 clear hG hn
 obtain ⟨nb,hnb⟩:∃ nb,nb=w.heap.size:=⟨_,rfl⟩
 obtain ⟨W1,hW1⟩:∃ W1,W1=(w.alloc (.cells #[.slice aN M cN,.slice aA 0 cA] 32)).alloc (.cells #[.int .i64 0,.slice none 0 0] 37):=⟨_,rfl⟩
 have f1:Fr w W1:=by rw [hW1]; exact ((Fr.refl _).alloc _).alloc _
 have hN1:Cel2 W1 nb (.slice aN M cN) (.slice aA 0 cA):=by rw [hW1,hnb]; exact (Cel2.new w _ _ _).fr ((Fr.refl _).alloc _)
 have hS1:Cel2 W1 (nb+1) (.int .i64 0) (.slice none 0 0):=by
  have:=Cel2.new (w.alloc (.cells #[.slice aN M cN,.slice aA 0 cA] 32)) (.int .i64 0) (.slice none 0 0) 37
  rw [World.size_alloc] at this
  rw [hW1,hnb]; exact this
 go_enter Tryz.func9,Tryz.ntmps9
 go_upto_region 1 with (fail)
 rw [← hW1,← hnb]
 clear hW1
 replace hnb:=hZ hnb
 have n0:=hN1.a
 have n1':=hN1.b
 replace hN1:=hZ hN1
 replace hS1:=hZ hS1
 go_wp2_with fail
 refine (hck.out _ f1).mono ?_
 rintro e w2 ⟨rfl,hf2⟩
 replace n0:=hf2.keep n0
 replace n1':=hf2.keep n1'
 have f2:=f1.trans hf2
 go_wp2_with fail
 refine (hkr.out _ f2).mono ?_
 rintro e w3 ⟨rfl,hf3⟩
 replace n0:=hf3.keep n0
 replace n1':=hf3.keep n1'
 have f3:=f2.trans hf3
 have f13:=hf2.trans hf3
 go_wp2_with fail
 clear n1'
 go_loopg [36] 1 (fun k s36 wr=>s36=.int .i64 0∧k=1∧wr=w3)
 case atStart=>exact ⟨rfl,rfl,rfl⟩
 case round=>
  clear n0
  obtain ⟨rfl,rfl,rfl⟩:=hrel
  have hdI:decide ((0:Int) < (M:Int))=true:=decide_eq_true (by omega)
  have hdI2:decide (0 < M)=true:=decide_eq_true (by omega)
  obtain ⟨ab,ao,x,rfl,hbl,hxi,hc1,hc2,-⟩:=(hsy.out.fr f3).at (i:=0) (by rw [hM.out]; omega)
  rw [hr.out x (List.mem_of_getElem? hxi)] at hc2
  rw [Nat.zero_mul,Nat.add_zero] at hc1 hc2
  have z1:(0:Int) < (M:Int):=by omega
  obtain ⟨W6,hW6⟩:∃ W6,W6=wr.alloc (.cells #[.string x.nm,.slice x.ra 0 x.rc] 65):=⟨_,rfl⟩
  have f6:Fr wr W6:=by rw [hW6]; exact (Fr.refl _).alloc _
  obtain ⟨xb,hxb⟩:∃ xb,xb=wr.heap.size:=⟨_,rfl⟩
  have hX6:Cel2 W6 xb (.string x.nm) (.slice x.ra 0 x.rc):=by rw [hW6,hxb]; exact Cel2.new _ _ _ _
  have hs1:=hZ (fun f t W (hW:Fr W6 W)=>hst.out f t W ((f3.trans f6).trans hW))
  have hb1:=hZ (fun W (hW:Fr W6 W)=>hbk.out W ((f3.trans f6).trans hW))
  replace hxi:=hZ hxi
  go_upto_region 12 with (fail)
  rw [← hW6,← hxb]
  clear hW6 hc1 hc2
  replace hxb:=hZ hxb
  have m0:=(f13.trans f6).keep hN1.out.a
  have m1:=(f13.trans f6).keep hN1.out.b
  have m2:=hX6.b
  generalize x.ra=xa at *
  generalize x.rc=xc at *
  replace hX6:=hZ hX6
  have hS0:=hZ (fun W' (hW':Fr W6 W')=>(⟨hW'.keep m0,hW'.keep m1,hW'.keep m2⟩:W'.cell? ⟨nb,0,none⟩=some (.slice (some ⟨ab,ao,none⟩) M cN)∧W'.cell? ⟨nb,1,none⟩=some (.slice aA 0 cA)∧W'.cell? ⟨xb,1,none⟩=some (.slice xa 0 xc)))
  have hd8:Fr W6 W6.drew:=(Fr.refl W6).drew
  refine wp_region_held_drew (S:=fun W'=>W'.cell? ⟨nb,0,none⟩=some (.slice (some ⟨ab,ao,none⟩) M cN)∧W'.cell? ⟨nb,1,none⟩=some (.slice aA 0 cA)∧W'.cell? ⟨xb,1,none⟩=some (.slice xa 0 xc)) (by kernel_rfl) (hS0.out _ hd8) (fun hHeld=>?_)
  refine hK 0 ?_
  refine hK 1 ?_
  refine hK 2 ?_
  refine hK 4 ?_
  refine hC 3 (fun K hK=>?_)
  go_simp
  (refine (hin.out _ _ _).mono ?_; rintro e wA ⟨rfl,rfl⟩)
  go_wp2_with fail
  refine hK.out _ _ (hS0.out _ hd8) (fun hHeld=>?_)
  clear hK K
  refine hC 5 (fun K hK=>?_)
  go_simp
  (refine (hin.out _ _ _).mono ?_; rintro e wB ⟨rfl,rfl⟩)
  go_wp2_with fail
  refine hK.out _ _ (hS0.out _ hd8) (fun hHeld=>?_)
  clear hK K
  refine hC 6 (fun K hK=>?_)
  go_simp
  (refine (hs1.out _ _ _ hd8).mono ?_; rintro e wC ⟨rfl,hfC⟩)
  go_wp2_with fail
  refine hK.out _ _ (hS0.out _ (hd8.trans hfC)) (fun hHeld=>?_)
  clear hK K
  refine hK 7 ?_
  refine hK 8 ?_
  refine hK 9 ?_
  refine hK 10 ?_
  refine hK 11 ?_
  refine wpAnyH_done (by kernel_rfl) ?_ _
  have hf9:Fr W6 wC:=hd8.trans hfC
  have hb2:=hb1.out _ hf9
  have hlt9:nb+1 < wr.heap.size:=(hS1.out.fr f13).lt
  replace hb2:=hZ hb2
  clear hHeld m0 m1 m2 hd8 hb1
  go_wp2_with fail
  refine hb2.out.mono ?_
  rintro e wD ⟨k1,-⟩
  obtain ⟨vD,rfl,hownD,-,hfD⟩:=k1 rfl
  obtain ⟨aD,cD,rfl,-⟩:=ownsRow_slice hownD
  have hS9:=(hS1.out.fr ((f13.trans f6).trans (hf9.trans hfD)))
  have hfr9:=((f3.trans f6).trans hf9).trans hfD
  have hS10:=hZ ((hS9.set0 (.int .i64 0)).set1 (.slice aD 0 cD))
  have hfx10:Hid (Fx (·=nb+1) wD ((wD.setCell ⟨nb+1,0,none⟩ (.int .i64 0)).setCell ⟨nb+1,1,none⟩ (.slice aD 0 cD))):=Fx.setCell (p:=(·=nb+1)) (q:=⟨nb+1,1,none⟩) (Fx.setCell (p:=(·=nb+1)) (q:=⟨nb+1,0,none⟩) (Fx.refl _ wD) (.inl rfl) _) (.inl rfl) _
  have x1:=(hS9.set0 (.int .i64 0)).b
  have x2:=(hS9.set0 (.int .i64 0)).fb
  obtain ⟨a0,a1,e0,e1⟩:=hS9
  clear hownD k1
  go_wp2_with fail
  have q0:=hS10.out.a
  have q1:=hS10.out.b
  refine bodyPost_ret (v:=.tuple #[.agg #[.int .i64 0,.slice aD 0 cD],.int .i64 0]) (by simp [results,Tryz.results9,go_sem,q0,q1]) rfl ?_
  exact ⟨fun _=>⟨_,cD,rfl,.inl rfl,rfl,((Fx.of_fr hfr9).trans hfx10.out).toFr (fun k hk e=>by have e:k=nb+1:=e; have:=hnb.out; omega),.inl rfl⟩,fun h=>(by cases h)⟩
theorem Transpose_nil (a:Option Addr) (cap:Nat) (w:World) :
 Calls Tryz.prog 76 #[.slice a 0 cap] w fun e w'=>e=.returned (.slice none 0 0)∧w=w':=by
 have hcol:∀ W:World,Calls Tryz.prog 114 #[.slice a 0 cap] W fun e w'=>e=.returned (.int .i64 0)∧W=w':=fun W=>by
  go_enter Tryz.func114,Tryz.ntmps114
  go_wp2_with fail
  go_ret
  exact ⟨rfl,rfl⟩
 replace hcol:=hZ hcol
 go_enter Tryz.func76,Tryz.ntmps76
 go_wp2_with fail
 refine wp_loop_rounds 1 ?_
 rw [rounds_succ]
 go_wp2_with fail
 refine (hcol.out _).mono ?_
 rintro e w2 ⟨rfl,rfl⟩
 go_wp2_with fail
 go_ret
 exact ⟨rfl,rfl⟩
theorem R6Inverse_nil (a:Option Addr) (cap:Nat) (w:World) (hG:G w) :
 Calls Tryz.prog 77 #[.slice a 0 cap] w fun e w'=>e=.returned (.tuple #[.slice none 0 0,.bool true])∧Fr w w':=by
 have hbig:=hZ (big6_any [] a cap 1 w hG (.inl rfl) (fun r hr=>by cases hr) (by decide) (by decide) (by simp) (fun r hr=>by cases hr))
 have hel:∀ (b:Option Addr) (c:Nat) (W:World),Calls Tryz.prog 112 #[.slice b 0 c,.int .i64 0] W fun e w'=>e=.returned (.tuple #[.slice none 0 0,.string ⟨#[49]⟩,.bool false])∧W=w':=fun b c W=>by
  go_enter Tryz.func112,Tryz.ntmps112
  go_wp2_with fail
  refine wp_loop_rounds 1 ?_
  rw [rounds_succ]
  go_wp2_with fail
  go_ret3
  exact ⟨rfl,rfl⟩
 replace hel:=hZ hel
 clear hG
 go_enter Tryz.func77,Tryz.ntmps77
 go_wp2_with fail
 refine hbig.out.mono ?_
 rintro e w1 ⟨v,hs,rfl,hgg,hrw,hnew,hf1⟩
 obtain ⟨b,c,rfl⟩:=hgg.slice
 go_wp2_with fail
 refine wp_loop_rounds 1 ?_
 rw [rounds_succ]
 go_wp2_with fail
 refine (hel.out _ _ _).mono ?_
 rintro e w3 ⟨rfl,rfl⟩
 go_wp2_with fail
 refine wp_loop_rounds 1 ?_
 rw [rounds_succ]
 go_wp2_with fail
 go_ret2
 exact ⟨rfl,hf1⟩
theorem counts42_zero (aN aA:Option Addr) (M cN cA:Nat) (r:Value) (w:World) (hG:G w) :
 Calls Tryz.prog 34 #[.agg #[.slice aN M cN,.slice aA 0 cA],r] w (CntRet w (some []) 0):=by
 have hrow:=hZ (fun W (hW:Fr w W)=>rows42_any aA cA [] W (hG.fr hW) ⟨.inl rfl,fun x hx=>by cases hx⟩ (by simp))
 have htr:=hZ (fun a c W=>Transpose_nil a c W)
 have hin:=hZ (fun a c W (hW:Fr w W)=>R6Inverse_nil a c W (hG.fr hW))
 clear hG
 have hC:=Cel2.new w (.slice aN M cN) (.slice aA 0 cA) 32
 have f1:Fr w (w.alloc (.cells #[.slice aN M cN,.slice aA 0 cA] 32)):=(Fr.refl _).alloc _
 have n1:=hC.b
 clear hC
 go_enter Tryz.func34,Tryz.ntmps34
 go_wp2_with fail
 refine (hrow.out _ f1).mono ?_
 rintro e w2 ⟨a2,c2,rfl,-,hf2⟩
 go_wp2_with fail
 refine (htr.out _ _ _).mono ?_
 rintro e w3 ⟨rfl,rfl⟩
 go_wp2_with fail
 refine (hin.out _ _ _ (f1.trans hf2)).mono ?_
 rintro e w4 ⟨rfl,hf4⟩
 go_wp2_with fail
 refine wp_loop_rounds 1 ?_
 rw [rounds_succ]
 go_wp2_with fail
 go_ret2
 exact ⟨none,0,rfl,.inl rfl,rfl,(f1.trans hf2).trans hf4⟩
theorem solve_back {m C:List (List Int)} {n:Nat} {D:Int} (h:InvIs m n C D) {d cs:List Int} (hs:solveS (divC C D) d n=some cs) {c:Nat} (hc:c < n):dotZ (fun j=>(cs[j]?).getD 0) (fun j=>entZ m j c) n=(d[c]?).getD 0:=by
 have hall:(∀ j,j < n→(sumQ (divC C D) d j n).den=1)∧cs=numsQ (divC C D) d n:=by
  unfold solveS at hs
  split at hs
  ·rename_i h9
   injection hs with hs
   exact ⟨fun j hj=>of_decide_eq_true (List.all_eq_true.1 h9 j (List.mem_range.2 hj)),hs.symm⟩
  ·cases hs
 have hD:(D:Rat)≠0:=intQ_ne h.d0
 have key:∀ j,j < n→D * (cs[j]?).getD 0=dotZ (fun k=>(d[k]?).getD 0) (fun k=>entZ C k j) n:=fun j hj=>by
  have h1:=hall.1 j hj
  have h2:=sumQ_dot h d hj n (Nat.le_refl _)
  rw [hall.2,numsQ_get hj]
  show D * (sumQ (divC C D) d j n).num=_
  generalize sumQ (divC C D) d j n=q at *
  have h3:q=(q.num:Rat):=by
   have:=Rat.num_divInt_den q
   rw [h1,Rat.divInt_eq_div,show (((1:Nat):Int):Rat)=1 from rfl] at this
   grind
  refine Rat.intCast_inj.1 ?_
  rw [Rat.intCast_mul,← h3,h2]
  generalize ((dotZ (fun k=>(d[k]?).getD 0) (fun k=>entZ C k j) n:Int):Rat)=z at *
  grind
 have e1:D * dotZ (fun j=>(cs[j]?).getD 0) (fun j=>entZ m j c) n=D * (d[c]?).getD 0:=by
  rw [← dotZ_mulL]
  have e2:dotZ (fun j=>D * (cs[j]?).getD 0) (fun j=>entZ m j c) n=dotZ (fun j=>dotZ (fun k=>(d[k]?).getD 0) (fun k=>entZ C k j) n) (fun j=>entZ m j c) n:=dotZ_congr fun j hj=>⟨key j hj,rfl⟩
  rw [e2,dotZ_swap (fun k=>(d[k]?).getD 0) (fun k j=>entZ C k j)]
  have e3:dotZ (fun k=>(d[k]?).getD 0) (fun k=>dotZ (fun j=>entZ C k j) (fun j=>entZ m j c) n) n=dotZ (fun k=>(d[k]?).getD 0) (fun k=>if c=k then D else 0) n:=dotZ_congr fun k hk=>⟨rfl,by
   show dotZ (fun j=>entZ C k j) (fun j=>entZ m j c) n=if c=k then D else 0
   rw [h.one k c hk hc]
   by_cases e:k=c
   ·rw [if_pos e,if_pos e.symm]
   ·rw [if_neg e,if_neg (fun h=>e h.symm)]⟩
  rw [e3,dotZ_comm]
  have:=dotZ_delta D c (fun k=>(d[k]?).getD 0) n
  rw [if_pos hc] at this
  exact this
 exact Int.eq_of_mul_eq_mul_left h.d0 e1
theorem rdT_get {RA:List (List Int)} {cs s0:List Int} {d:Nat} (hs:s0.length=d) (hr:∀ i,i < d→(rowAt RA i).length=d) {c:Nat} (hc:c < d):∀ i,i≤d→((rdT RA cs s0 i)[c]?).getD 0=(s0[c]?).getD 0+dotZ (fun j=>(cs[j]?).getD 0) (fun j=>((rowAt RA j)[c]?).getD 0) i
 | 0,_=>by show (s0[c]?).getD 0=(s0[c]?).getD 0+0; omega
 | i+1,hi=>by
   have h1:=rdT_len (cs:=cs) hs hr i (by omega)
   have h2:=hr i (by omega)
   show ((List.zipWith (fun a x=>a+(cs[i]?).getD 0 * x) (rdT RA cs s0 i) (rowAt RA i))[c]?).getD 0=(s0[c]?).getD 0+(dotZ _ _ i+(cs[i]?).getD 0 * ((rowAt RA i)[c]?).getD 0)
   rw [← Int.add_assoc,← rdT_get hs hr hc i (by omega),List.getElem?_zipWith,List.getElem?_eq_getElem (show c < (rdT RA cs s0 i).length by omega),List.getElem?_eq_getElem (show c < (rowAt RA i).length by omega)]
   rfl
theorem rd_back {m C:List (List Int)} {n:Nat} {D:Int} (h:InvIs m n C D) (hm:∀ i,i < n→(rowAt m i).length=n) {r s0 cs:List Int} (hr:r.length=n) (hs:s0.length=n) (hc:solveS (divC C D) (List.zipWith (· - ·) r s0) n=some cs):rdT m cs s0 n=r:=by
 refine List.ext_getElem? fun c=>?_
 by_cases h9:c < n
 ·have h1:=rdT_get (cs:=cs) hs hm h9 n (Nat.le_refl _)
  have h2:=solve_back h hc h9
  have h3:dotZ (fun j=>(cs[j]?).getD 0) (fun j=>((rowAt m j)[c]?).getD 0) n=dotZ (fun j=>(cs[j]?).getD 0) (fun j=>entZ m j c) n:=dotZ_congr fun j _=>⟨rfl,rfl⟩
  have h4:=rdT_len (cs:=cs) hs hm n (Nat.le_refl _)
  rw [h3,h2,List.getElem?_zipWith,List.getElem?_eq_getElem (show c < r.length by omega),List.getElem?_eq_getElem (show c < s0.length by omega),List.getElem?_eq_getElem (show c < (rdT m cs s0 n).length by omega)] at h1
  rw [List.getElem?_eq_getElem (show c < r.length by omega),List.getElem?_eq_getElem (show c < (rdT m cs s0 n).length by omega)]
  have h1:(rdT m cs s0 n)[c]=s0[c]+(r[c] - s0[c]):=h1
  rw [h1]; congr 1; omega
 ·rw [List.getElem?_eq_none (by rw [rdT_len hs hm n (Nat.le_refl _)]; omega),List.getElem?_eq_none (by omega)]
theorem spell_two {N A:List Sy} {d M:Nat} {aN aA:Option Addr} {cN cA:Nat} {w:World} (hn:Nt42 w aN aA cN cA M d N A) {r:List Int} (hrl:r.length=d) (hrf:∀ x,x ∈ r→fitB x=true) :
 ∃ o:Option (Nat×List Int),(∀ i cs,o=some (i,cs)→i < M∧cs.length=d∧rdT (A.map Sy.row) cs (rowAt (N.map Sy.row) i) d=r) ∧
   ∀ (W:World) (ra:Option Addr) (rc:Nat),G W→Nt42 W aN aA cN cA M d N A→El W iv ra r→Calls Tryz.prog 9 #[.agg #[.slice aN M cN,.slice aA d cA],.slice ra d rc] W (SpO W o d)∧Calls Tryz.prog 11 #[.agg #[.slice aN M cN,.slice aA d cA],.slice ra d rc] W (SpO W o d):=by
 have hM:=hn.hM
 have hd:=hn.hd
 have d3:=hn.d3
 have m1:=hn.m1
 have m8:=hn.m8
 have hAl:(A.map Sy.row).length=d:=by rw [List.length_map]; exact hd
 have hrN:∀ x,x ∈ N→x.row.length=d:=fun x hx=>(hn.rN x hx).2.1
 have hrA:∀ q,q ∈ A.map Sy.row→q.length=d:=fun q hq=>by obtain ⟨x,hx,rfl⟩:=List.mem_map.1 hq; exact (hn.rA x hx).2.1
 have hbA:BdM 9 (A.map Sy.row):=fun q hq y hy=>by obtain ⟨x,hx,rfl⟩:=List.mem_map.1 hq; exact (hn.rA x hx).2.2 y hy
 have hNat:∀ (i:Nat) (x:Sy),N[i]?=some x→rowAt (N.map Sy.row) i=x.row:=fun i x hx=>by
  have h1:(N.map Sy.row)[i]?=some x.row:=by rw [List.getElem?_map,hx]; rfl
  have h2:=List.getElem?_eq_some_iff.1 h1
  rw [rowAt_eq h2.1]; exact h2.2
 by_cases hd0:d=0
 ·subst hd0
  obtain rfl:=List.eq_nil_of_length_eq_zero hd
  obtain rfl:=List.eq_nil_of_length_eq_zero hrl
  refine ⟨some (0,[]),fun i cs h=>?_,fun W ra rc hG hW hr=>⟨?_, ?_⟩⟩
  ·injection h with h; injection h with h1 h2; subst h1; subst h2
   refine ⟨by omega,rfl, ?_⟩
   have hx:N[0]?=some N[0]:=List.getElem?_eq_getElem (by omega)
   show rowAt (N.map Sy.row) 0=[]
   rw [hNat 0 _ hx]
   exact List.eq_nil_of_length_eq_zero (hrN _ (List.mem_of_getElem? hx))
  ·exact NSpell_zero N M ra aN aA rc cN cA W hG hW.hn.noms hM m1 (by omega) hrN (fun W' hW'=>(hW.fr hW').check (hG.fr hW'))
  ·have hspf:spF (fun _=>some []) M=some (0,[]):=spF_some (i:=0) (by omega) (fun j hj=>absurd hj (Nat.not_lt_zero _)) rfl
   have:=spell42_any N [] 0 M (fun _=>[]) (fun _=>some []) ra aN aA rc cN cA W hG hW.hn hM (by omega) (by omega) hrN
    (fun i x hx W' hW'=>(minus42_any [] x.row 0 ra x.ra rc x.rc W' (hG.fr hW') (.inl rfl) ((hW.hn.noms.2 x (List.mem_of_getElem? hx)).fr hW') rfl (hrN x (List.mem_of_getElem? hx)) (by decide) (fun y hy=>by cases hy) (fun y hy=>by rw [List.eq_nil_of_length_eq_zero (hrN x (List.mem_of_getElem? hx))] at hy; cases hy)).mono (by rintro e w' ⟨a',c',h1,-,h3⟩; exact ⟨a',c',h1,.inl rfl,h3⟩))
    (fun i _ W' a c hW' _=>counts42_zero aN aA M cN cA _ W' (hG.fr hW')) (fun i cs _ h x hx=>by injection h with h; subst h; cases hx)
   rw [hspf] at this
   exact this
 ·have hd1:1≤d:=by omega
  obtain ⟨C,D,⟨hF,hz⟩,hI⟩:=inv_any d3 hd1 hAl hrA hbA hn.det
  have hTl:(trM d (A.map Sy.row)).length=d:=trM_len d _
  have hTr:∀ q,q ∈ trM d (A.map Sy.row)→q.length=d:=fun q hq=>by
   obtain ⟨k,-,rfl⟩:=List.mem_map.1 hq
   rw [colZ_len]; exact hAl
  obtain ⟨C',D',hI2,hI'⟩:=inv_any d3 hd1 hTl hTr (bdM_tr hbA) (by rw [detM_tr d3 hAl hrA]; exact hn.det)
  have hok:SpOk (A.map Sy.row) C C' d D D':=⟨hI,hI'⟩
  have hDb:∀ (x:Sy),x ∈ N→∀ y,y ∈ List.zipWith (fun a b:Int=>a - b) r x.row→y.natAbs≤2000000000:=fun x hx y hy=>by
   obtain ⟨u,v,hu,hv,rfl⟩:=mem_zipWithZ hy
   have h1:=of_decide_eq_true (hrf u hu)
   have h2:=(hn.rN x hx).2.2 v hv
   omega
  have hDl:∀ (x:Sy),x ∈ N→(List.zipWith (fun a b:Int=>a - b) r x.row).length=d:=fun x hx=>by rw [List.length_zipWith,hrl,hrN x hx]; exact Nat.min_self _
  obtain ⟨f,hf⟩:∃ f:Nat→Option (List Int),f=fun i=>solveS (divC C D) (List.zipWith (· - ·) r (rowAt (N.map Sy.row) i)) d:=⟨_,rfl⟩
  have hfx:∀ (i:Nat) (x:Sy),N[i]?=some x→f i=solveS (divC C D) (List.zipWith (· - ·) r x.row) d:=fun i x hx=>by rw [hf]; show solveS _ (List.zipWith _ r (rowAt _ i)) d=_; rw [hNat i x hx]
  have hget:∀ i,i < M→∃ x,N[i]?=some x:=fun i hi=>⟨_,List.getElem?_eq_getElem (by omega)⟩
  have hsm:∀ i cs,i < M→f i=some cs→∀ x,x ∈ cs→x.natAbs < 1000000000000:=fun i cs hi h=>by
   obtain ⟨x,hx⟩:=hget i hi
   rw [hfx i x hx] at h
   exact hok.small d3 (hDb x (List.mem_of_getElem? hx)) h
  refine ⟨spF f M,fun i cs h=>?_,fun W ra rc hG hW hr=>⟨?_, ?_⟩⟩
  ·unfold spF at h
   obtain ⟨j,hj,h2⟩:=List.exists_of_findSome?_eq_some h
   cases hfj:f j with
   | none=>rw [hfj] at h2; cases h2
   | some cs'=>
     rw [hfj] at h2
     injection h2 with h2; injection h2 with h3 h4; subst h3; subst h4
     have hjM:=List.mem_range.1 hj
     obtain ⟨x,hx⟩:=hget j hjM
     have hxm:=List.mem_of_getElem? hx
     rw [hfx j x hx] at hfj
     refine ⟨hjM, ?_, ?_⟩
     ·unfold solveS at hfj
      split at hfj
      ·injection hfj with hfj; rw [← hfj]; exact numsQ_len _ _ _
      ·cases hfj
     ·rw [hNat j x hx]
      exact rd_back hI (fun i hi=>(hn.rowA i hi).1) hrl (hrN x hxm) hfj
  ·have hU:NtOk (N.map Sy.row) (A.map Sy.row) d (divC C D):=⟨hd1,by omega,hAl,by rw [List.length_map]; omega,by rw [List.length_map]; omega,fun q hq=>⟨hrA q hq,fun x hx=>fit9 (hbA q hq x hx)⟩,
    fun q hq=>by obtain ⟨x,hx,rfl⟩:=List.mem_map.1 hq; exact ⟨hrN x hx,fun y hy=>fit9 ((hn.rN x hx).2.2 y hy)⟩,hF,fun q hq=>by unfold divC at hq; obtain ⟨y,hy,rfl⟩:=List.mem_map.1 hq; rw [List.length_map]; exact hI.rect y hy,by unfold divC; rw [List.length_map]; exact hI.len⟩
   exact NSpell_any N A d M (divC C D) f r ra aN aA rc cN cA W hG hW.hn hU hM hr hrl hrf
    (fun i x hx=>⟨hok.sumOk d3 (hDb x (List.mem_of_getElem? hx)),(hfx i x hx).symm⟩) (fun i cs hi h x hx=>by have:=hsm i cs hi h x hx; omega) (fun W' hW'=>(hW.fr hW').check (hG.fr hW'))
  ·have hbz:BdM 9 (trM d (A.map Sy.row)):=bdM_tr hbA
   exact spell42_any N A d M (fun i=>List.zipWith (· - ·) r (rowAt (N.map Sy.row) i)) f ra aN aA rc cN cA W hG hW.hn hM (by omega) d3 hrN
    (fun i x hx W' hW'=>by
     have hxm:=List.mem_of_getElem? hx
     rw [hNat i x hx]
     exact minus42_any r x.row d ra x.ra rc x.rc W' (hG.fr hW') (hr.fr hW') ((hW.hn.noms.2 x hxm).fr hW') hrl (hrN x hxm) (by omega) hrf (fun y hy=>fit9 ((hn.rN x hxm).2.2 y hy)))
    (fun i hi W' a c hW' he=>by
     obtain ⟨x,hx⟩:=hget i hi
     have hxm:=List.mem_of_getElem? hx
     rw [hNat i x hx] at he
     rw [hfx i x hx,← hok.same]
     have:=counts42_any N A d C' D' _ aN aA a cN cA c W' (hG.fr hW') (hW.hn.fr hW') hd hd1 d3 hrA hbz hI2 hI' he (hDl x hxm) (fun y hy=>by have:=hDb x hxm y hy; show y.natAbs < 10 ^ 10; omega)
      (fun i k hi hk=>hok.bds d3 (hDb x hxm) hi hk) (fun i k hi hk=>by obtain ⟨h1,h2⟩:=hok.ent hi hk; exact ⟨h1.mono (by decide),h2.mono (by decide)⟩)
     rw [hM] at this
     exact this)
    (fun i cs hi h x hx=>by have:=hsm i cs hi h x hx; unfold Sm; omega)
theorem El.fxl9 {w0 W W':World} {a:Option Addr} {xs:List Int} {g:Nat} (h:El w0 iv a xs) (hf:Fr w0 W) (k:Fx (·=g) W W') (hg:w0.heap.size≤g):El W' iv a xs:=by
 rcases h with h | ⟨b,o,ha,hb,hc⟩
 ·exact .inl h
 ·exact .inr ⟨b,o,ha,Nat.lt_of_lt_of_le hb (Nat.le_trans hf.size k.size),fun i x hx=>k.keep (hf.keep (hc i x hx)) (show b≠g by omega)⟩
theorem rowE_zero {r:List Int} (h:rowE r=0):∀ x,x ∈ r→fitB x=true:=fun x hx=>by
 unfold rowE at h
 split at h
 ·cases h
 ·split at h
  ·cases h
  ·rename_i h9
   cases hb:fitB x with
   | true=>rfl
   | false=>exact absurd (List.any_eq_true.2 ⟨x,hx,by rw [hb]; rfl⟩) h9
theorem all_fit {cs:List Int} (h:cs.all fitB=true):∀ x,x ∈ cs→fitB x=true:=fun x hx=>List.all_eq_true.1 h x hx
theorem rdE_zero {w:World} {N A:List Sy} {d M:Nat} {aN aA:Option Addr} {cN cA:Nat} (hn:Nt42 w aN aA cN cA M d N A) {i:Nat} {cs r:List Int} (hi:i < M) (hl:cs.length=d) (hc:cs.all fitB=true) (hr:rdT (A.map Sy.row) cs (rowAt (N.map Sy.row) i) d=r) (hf:∀ x,x ∈ r→fitB x=true):rdE N A (i:Int) cs=0:=by
 have h0:spE N A (i:Int) cs=0:=by
  unfold spE
  rw [if_neg (by rw [hn.hM]; omega),if_neg (by rw [hn.hd]; omega),rowE_ok (by have:=hn.d3; omega) (List.any_eq_false.2 fun x hx=>by rw [all_fit hc x hx]; simp)]
 unfold rdE
 rw [if_neg (by rw [h0]; simp),hn.hd,show ((i:Int)).toNat=i from Int.toNat_natCast i,hr,if_pos (List.all_eq_true.2 hf)]
theorem NotationSpells_any (R:Int) (hR0:0≤R) (hR1:R≤255) (L:List (List Int)) (a:Option Addr) (c:Nat) (b0 b1 b2 b3 b4 b5 b6 b7 b8:Int) (r:List Int) (ra:Option Addr) (rc:Nat) (w:World) (hG:G w) (hEr:Er w) (hmx:∃ m,w.cell? ⟨2,0,none⟩=some (.int .i64 m)) (hL:TriIs w a L) (hL8:Tri8 L) (hB8:Tri8 [[b0,b1,b2],[b3,b4,b5],[b6,b7,b8]]) (hr:El w iv ra r) :
 Calls Tryz.prog 3 #[.agg #[.int .u8 R,.slice a L.length c,.int .i8 b0,.int .i8 b1,.int .i8 b2,.int .i8 b3,.int .i8 b4,.int .i8 b5,.int .i8 b6,.int .i8 b7,.int .i8 b8],.slice ra r.length rc] w fun e w'=>e=.returned (.bool true)∧Fr w w':=by
 have hk:=hZ (fun W (hW:Fr w W)=>known42_any W (hG.fr hW) (hEr.fr hW) (hmx.imp fun m h=>hW.keep h))
 obtain ⟨d,hd⟩:∃ d:Nat,(d:Int)=R % 4:=⟨(R % 4).toNat,by omega⟩
 have hd3:d≤3:=by omega
 have hmk:=hZ (fun W (hW:Fr w W)=>Make42_any R hR0 hR1 d hd L a c b0 b1 b2 b3 b4 b5 b6 b7 b8 W (hG.fr hW) (hL.fr hW) hL8 hB8)
 have hGf:=hZ (fun W (hW:Fr w W)=>hG.fr hW)
 obtain ⟨m,hm⟩:∃ m,m=r.length:=⟨_,rfl⟩
 obtain ⟨l,hl⟩:∃ l,l=L.length:=⟨_,rfl⟩
 rw [← hl] at hmk ⊢
 rw [← hm]
 replace hm:=hZ hm
 replace hl:=hZ hl
 replace hd:=hZ hd
 replace hL8:=hZ hL8
 replace hB8:=hZ hB8
 replace hr:=hZ hr
 clear hG hmx hL hEr
 have f1:Fr w (w.alloc (.cells #[.int .u8 R,.slice a l c,.int .i8 b0,.int .i8 b1,.int .i8 b2,.int .i8 b3,.int .i8 b4,.int .i8 b5,.int .i8 b6,.int .i8 b7,.int .i8 b8] 27)):=(Fr.refl _).alloc _
 go_enter Tryz.func3,Tryz.ntmps3
 go_wp2_with fail
 refine (hmk.out _ f1).mono ?_
 rintro e w1 ⟨N,A,aN,cN,aA,cA,rk,fine,hN,hA,hn,hf1,hfine,hr1,hr2,rfl⟩
 have f2:=f1.trans hf1
 clear f1 hf1
 obtain ⟨M,hM⟩:∃ M,M=N.length:=⟨_,rfl⟩
 have hAd:A.length=d:=by rw [← bare_len,hA]; unfold accsD; rw [List.length_map,List.length_range]
 have hnt:=fun (hf:nchkE N A rk=0)=>nt42_of (cN:=cN) hn hN hA hd3 hL8.out hB8.out rfl hf hr1 hr2
 rw [← hM] at hnt ⊢
 rw [hAd]
 replace hM:=hZ hM
 replace hAd:=hZ hAd
 obtain ⟨nb,hnb⟩:∃ nb,nb=w1.heap.size:=⟨_,rfl⟩
 obtain ⟨W3,hW3⟩:∃ W3,W3=w1.alloc (.cells #[.slice aN M cN,.slice aA d cA] 32):=⟨_,rfl⟩
 have f13:Fr w1 W3:=by rw [hW3]; exact (Fr.refl _).alloc _
 have hC3:Cel2 W3 nb (.slice aN M cN) (.slice aA d cA):=by rw [hW3,hnb]; exact Cel2.new _ _ _ _
 have f3:=f2.trans f13
 cases fine with
 | false=>
   clear hnt hfine hN hA hn hr1 hr2
   go_upto_region 2 with (fail)
   rw [← hW3,← hnb]
   clear hW3
   replace hnb:=hZ hnb
   go_wp2_with fail
   refine (hk.out _ f3).mono ?_
   rintro e w4 ⟨rfl,hf4⟩
   go_wp2_with fail
   refine (hk.out _ (f3.trans hf4)).mono ?_
   rintro e w5 ⟨rfl,hf5⟩
   go_wp2_with fail
   go_ret
   exact ⟨rfl,(f3.trans hf4).trans hf5⟩
 | true=>
   have hN3:=(hnt (of_decide_eq_true hfine.symm)).fr f13
   clear hnt hfine hN hA hn hr1 hr2
   go_upto_region 2 with (fail)
   rw [← hW3,← hnb]
   clear hW3
   replace hnb:=hZ hnb
   have n0:=hC3.a
   have n1:=hC3.b
   replace hC3:=hZ hC3
   by_cases h5:5 < m
   ·have d5:decide ((5:Int) < (m:Int))=true:=decide_eq_true (by omega)
    clear hN3
    go_wp2_with fail
    refine (hk.out _ f3).mono ?_
    rintro e w4 ⟨rfl,hf4⟩
    go_wp2_with fail
    refine (hk.out _ (f3.trans hf4)).mono ?_
    rintro e w5 ⟨rfl,hf5⟩
    go_wp2_with fail
    go_ret
    exact ⟨rfl,(f3.trans hf4).trans hf5⟩
   ·have d5:decide ((5:Int) < (m:Int))=false:=decide_eq_false (by omega)
    have hck:=hZ (fun W (hW:Fr W3 W)=>(hN3.fr hW).check (hGf.out _ (f3.trans hW)))
    have hrc:=hZ (fun W (hW:Fr W3 W)=>Check_row r ra rc W (hr.out.fr (f3.trans hW)) (by rw [← hm.out]; omega))
    rw [← hm.out] at hrc
    have hsz:Hid (∀ W,Fr W3 W→Calls Tryz.prog 12 #[.agg #[.int .i64 0,.slice none 0 0],.agg #[.int .i64 0,.slice none 0 0]] W fun e w'=>e=.returned (.bool true)∧Fr W w'):=fun W _=>same42_eq 0 [] none none 0 0 0 0 W (.inl rfl) (.inl rfl) rfl rfl (by decide)
    by_cases hgood:rowE r=0∧m=d
    ·obtain ⟨h0,rfl⟩:=hgood
     have hrf:=rowE_zero h0
     obtain ⟨o,ho,hsp⟩:=spell_two hN3 hm.out.symm hrf
     rw [h0] at hrc
     have hs1:=hZ (fun W (hW:Fr W3 W)=>(hsp W ra rc (hGf.out _ (f3.trans hW)) (hN3.fr hW) (hr.out.fr (f3.trans hW))).1)
     have hs2:=hZ (fun W (hW:Fr W3 W)=>(hsp W ra rc (hGf.out _ (f3.trans hW)) (hN3.fr hW) (hr.out.fr (f3.trans hW))).2)
     have hbk:=hZ (fun i cs (h:o=some (i,cs)) (hc:cs.all fitB=true) W (hW:Fr W3 W) ca cc (he:El W iv ca cs)=>by
      obtain ⟨g1,g2,g3⟩:=ho i cs h
      have:=NRead42 N A M m m i cs ca aN aA cc cN cA W (hGf.out _ (f3.trans hW)) (hN3.fr hW) he g2 (by omega)
      have hz:=rdE_zero hN3 g1 g2 hc g3 hrf
      exact this.mono fun e w' h9=>(h9.1 hz))
     have hbr:Hid (∀ i cs,o=some (i,cs)→rdT (A.map Sy.row) cs (rowAt (N.map Sy.row) ((i:Int)).toNat) m=r∧cs.length=m):=fun i cs h=>⟨(ho i cs h).2.2,(ho i cs h).2.1⟩
     clear hN3 ho hsp hrf h0
     replace h5:=hZ h5
     have dd:((m:Int) != (m:Int))=false:=by simp
     go_wp2_with fail
     refine (hk.out _ f3).mono ?_
     rintro e w4 ⟨rfl,hf4⟩
     replace n0:=hf4.keep n0
     replace n1:=hf4.keep n1
     go_wp2_with fail
     refine (hs1.out _ hf4).mono ?_
     intro e w5 hp5
     have key:∃ (i5:Int) (a5:Option Addr) (l5 c5:Nat) (E5:Int),e=.returned (.tuple #[.agg #[.int .i64 i5,.slice a5 l5 c5],.int .i64 E5])∧Fr w4 w5∧Hid ((E5≠0∧i5=0∧a5=none∧l5=0∧c5=0∧∀ W e' w',SpO W o m e' w'→e'=.returned (.tuple #[.agg #[.int .i64 0,.slice none 0 0],.int .i64 E5])∧Fr W w') ∨
      (E5=0∧∃ (i:Nat) (cs:List Int),o=some (i,cs)∧cs.all fitB=true∧i5=i∧El w5 iv a5 cs∧l5=m∧cs.length=m∧∀ W e' w',SpO W o m e' w'→∃ a' c',e'=.returned (.tuple #[.agg #[.int .i64 (i:Int),.slice a' m c'],.int .i64 0])∧El w' iv a' cs∧Fr W w'∧(m=0∨∃ b,a'=some b∧W.heap.size≤b.block))):=by
      cases o with
      | none=>
        obtain ⟨rfl,h⟩:=hp5
        exact ⟨0,none,0,0,19,rfl,h,.inl ⟨by decide,rfl,rfl,rfl,rfl,fun W e' w' h9=>h9⟩⟩
      | some p=>
        obtain ⟨i,cs⟩:=p
        cases hfit:cs.all fitB with
        | false=>
          obtain ⟨rfl,h⟩:=hp5.2 hfit
          exact ⟨0,none,0,0,4,rfl,h,.inl ⟨by decide,rfl,rfl,rfl,rfl,fun W e' w' h9=>h9.2 hfit⟩⟩
        | true=>
          obtain ⟨a5,c5,rfl,h2,h3,h4,-⟩:=hp5.1 hfit
          exact ⟨i,a5,m,c5,0,rfl,h4,.inr ⟨rfl,i,cs,rfl,hfit,rfl,h2,rfl,h3,fun W e' w' h9=>by
           obtain ⟨a',c',k1,k2,-,k4,k5⟩:=h9.1 hfit
           exact ⟨a',c',k1,k2,k4,k5⟩⟩⟩
     clear hp5
     obtain ⟨i5,a5,l5,c5,E5,rfl,hf5,hcase⟩:=key
     obtain ⟨sb,hsb⟩:∃ sb,sb=w5.heap.size:=⟨_,rfl⟩
     obtain ⟨W6,hW6⟩:∃ W6,W6=w5.alloc (.cells #[.int .i64 i5,.slice a5 l5 c5] 37):=⟨_,rfl⟩
     have f56:Fr w5 W6:=by rw [hW6]; exact (Fr.refl _).alloc _
     have hS6:Cel2 W6 sb (.int .i64 i5) (.slice a5 l5 c5):=by rw [hW6,hsb]; exact Cel2.new _ _ _ _
     have hf36:=(hf4.trans hf5).trans f56
     replace n0:=(hf5.trans f56).keep n0
     replace n1:=(hf5.trans f56).keep n1
     go_upto_region 5 with (fail)
     rw [← hW6,← hsb]
     clear hW6
     replace hsb:=hZ hsb
     go_wp2_with fail
     refine (hrc.out _ hf36).mono ?_
     rintro e w7 ⟨rfl,hf7⟩
     replace n0:=hf7.keep n0
     replace n1:=hf7.keep n1
     have hS7:=hZ (hS6.fr hf7)
     obtain ⟨db,hdb⟩:∃ db,db=w7.heap.size:=⟨_,rfl⟩
     obtain ⟨W8,hW8⟩:∃ W8,W8=w7.alloc (.cells #[.int .i64 0,.slice none 0 0] 37):=⟨_,rfl⟩
     have f78:Fr w7 W8:=by rw [hW8]; exact (Fr.refl _).alloc _
     have hD8:Cel2 W8 db (.int .i64 0) (.slice none 0 0):=by rw [hW8,hdb]; exact Cel2.new _ _ _ _
     have hf38:=(hf36.trans hf7).trans f78
     have hsdb:sb < db:=by rw [hdb]; exact hS7.out.lt
     have hdbz:W3.heap.size≤db:=by rw [hdb]; exact (hf36.trans hf7).size
     go_upto_region 9 with (fail)
     rw [← hW8,← hdb]
     replace n0:=f78.keep n0
     replace n1:=f78.keep n1
     clear hW8 hS6
     replace hdb:=hZ hdb
     replace hD8:=hZ hD8
     go_wp2_with fail
     refine (hs2.out _ hf38).mono ?_
     intro e w9 hp9
     rcases hcase.out with ⟨hE,rfl,rfl,rfl,rfl,hlaw⟩ | ⟨rfl,i,cs,hoe,hfit,rfl,he5,rfl,hcl,hlaw⟩
     ·obtain ⟨rfl,hf9⟩:=hlaw _ _ _ hp9
      have q1:(E5 == 0)=false:=beq_false_of_ne hE
      have q2:(E5 != 0)=true:=by rw [bne_iff_ne]; exact hE
      have q3:(E5 == E5)=true:=beq_self_eq_true E5
      clear hp9 hcase hlaw
      replace hE:=hZ hE
      have hD9:=hD8.out.fr hf9
      have hD10:=hZ ((hD9.set0 (.int .i64 0)).set1 (.slice none 0 0))
      have x1:=(hD9.set0 (.int .i64 0)).b
      have x2:=(hD9.set0 (.int .i64 0)).fb
      have hfxD:Fx (·=db) w9 ((w9.setCell ⟨db,0,none⟩ (.int .i64 0)).setCell ⟨db,1,none⟩ (.slice none 0 0)):=Fx.setCell (p:=(·=db)) (q:=⟨db,1,none⟩) (Fx.setCell (p:=(·=db)) (q:=⟨db,0,none⟩) (Fx.refl _ w9) (.inl rfl) _) (.inl rfl) _
      obtain ⟨wA,hwA⟩:∃ wA,wA=(w9.setCell ⟨db,0,none⟩ (.int .i64 0)).setCell ⟨db,1,none⟩ (.slice none 0 0):=⟨_,rfl⟩
      rw [← hwA] at hfxD hD10
      have hf3A:Fr W3 wA:=((Fx.of_fr (hf38.trans hf9)).trans hfxD).toFr (fun k hk e=>by have e:k=db:=e; omega)
      have hS10:=hZ (((hS7.out.fr f78).fr hf9).fx hfxD (fun e=>by have e:sb=db:=e; omega))
      obtain ⟨q4,q5,q6,q7⟩:=hD9
      go_upto_region 11 with (fail)
      rw [← hwA]
      clear hwA x1 x2 q4 q5 q6 q7 n0 n1
      have s0:=hS10.out.a
      have s1:=hS10.out.b
      go_wp2_with fail
      refine (hsz.out _ hf3A).mono ?_
      rintro e w12 ⟨rfl,hf12⟩
      go_wp2_with fail
      go_ret
      exact ⟨rfl,(f3.trans hf3A).trans hf12⟩
     ·obtain ⟨a9,c9,rfl,he9,hf9,hnw9⟩:=hlaw _ _ _ hp9
      have hD9:=hD8.out.fr hf9
      have hD10:=hZ ((hD9.set0 (.int .i64 (i:Int))).set1 (.slice a9 l5 c9))
      have x1:=(hD9.set0 (.int .i64 (i:Int))).b
      have x2:=(hD9.set0 (.int .i64 (i:Int))).fb
      have hfxD:Fx (·=db) w9 ((w9.setCell ⟨db,0,none⟩ (.int .i64 (i:Int))).setCell ⟨db,1,none⟩ (.slice a9 l5 c9)):=Fx.setCell (p:=(·=db)) (q:=⟨db,1,none⟩) (Fx.setCell (p:=(·=db)) (q:=⟨db,0,none⟩) (Fx.refl _ w9) (.inl rfl) _) (.inl rfl) _
      obtain ⟨wA,hwA⟩:∃ wA,wA=(w9.setCell ⟨db,0,none⟩ (.int .i64 (i:Int))).setCell ⟨db,1,none⟩ (.slice a9 l5 c9):=⟨_,rfl⟩
      rw [← hwA] at hfxD hD10
      have hf3A:Fr W3 wA:=((Fx.of_fr (hf38.trans hf9)).trans hfxD).toFr (fun k hk e=>by have e:k=db:=e; omega)
      have hS10:=hZ (((hS7.out.fr f78).fr hf9).fx hfxD (fun e=>by have e:sb=db:=e; omega))
      have n0A:=(hf9.keep n0)
      have n1A:=(hf9.keep n1)
      replace n0A:=hfxD.keep n0A (fun e=>by have e:nb=db:=e; have:=hC3.out.lt; omega)
      replace n1A:=hfxD.keep n1A (fun e=>by have e:nb=db:=e; have:=hC3.out.lt; omega)
      obtain ⟨q4,q5,q6,q7⟩:=hD9
      obtain ⟨hrr,hcl5⟩:=hbr.out i cs hoe
      have hel5:Hid (El wA iv a5 cs):=he5.fxl9 (((f56.trans hf7).trans f78).trans hf9) hfxD (by have h1:=(f56.trans hf7).size; have h2:=hdb.out; omega)
      have hel9:Hid (El wA iv a9 cs):=by
       rcases hnw9 with h | ⟨b9,rfl,hb9⟩
       ·exact .inl (List.eq_nil_of_length_eq_zero (by omega))
       ·exact he9.fxr hfxD (fun ad e=>by injection e with e; subst e; have h1:=hD8.out.lt; omega)
      have hrd:=hZ (hbk.out i cs hoe hfit wA hf3A a5 c5 hel5.out)
      have hsm:=hZ (fun W (hW:Fr wA W)=>same42_eq (i:Int) cs a5 a9 c5 c9 l5 l5 W (hel5.out.fr hW) (hel9.out.fr hW) hcl hcl (by have:=hd3; omega))
      clear hp9 hlaw hcase he5 he9 hnw9 hbk hs1 hs2
      replace hfit:=hZ hfit
      replace hoe:=hZ hoe
      replace hrr:=hZ hrr
      replace hcl:=hZ hcl
      replace hcl5:=hZ hcl5
      go_upto_region 11 with (fail)
      rw [← hwA]
      clear hwA x1 x2 q4 q5 q6 q7 n0 n1
      obtain ⟨s0,s1⟩:wA.cell? ⟨sb,0,none⟩=some (.int .i64 (i:Int))∧wA.cell? ⟨sb,1,none⟩=some (.slice a5 l5 c5):=⟨hS10.out.a,hS10.out.b⟩
      obtain ⟨t0,t1⟩:wA.cell? ⟨db,0,none⟩=some (.int .i64 (i:Int))∧wA.cell? ⟨db,1,none⟩=some (.slice a9 l5 c9):=⟨hD10.out.a,hD10.out.b⟩
      go_wp2_with fail
      refine hrd.out.mono ?_
      rintro e w12 ⟨ar,cr,rfl,her,-,hf12⟩
      rw [hrr.out] at her
      replace s0:=hf12.keep s0
      replace s1:=hf12.keep s1
      replace t0:=hf12.keep t0
      replace t1:=hf12.keep t1
      have hre:=hZ (fun W (hW:Fr w12 W)=>REqual_any r r ar ra cr rc l5 l5 W (her.fr hW) (hr.out.fr (((f3.trans hf3A).trans hf12).trans hW)) hm.out.symm hm.out.symm (by omega) (by omega))
      rw [decide_eq_true rfl] at hre
      replace her:=hZ her
      go_wp2_with fail
      refine (hsm.out _ hf12).mono ?_
      rintro e w13 ⟨rfl,hf13⟩
      go_wp2_with fail
      refine (hre.out _ hf13).mono ?_
      rintro e w14 ⟨rfl,hf14⟩
      go_wp2_with fail
      go_ret
      exact ⟨rfl,(((f3.trans hf3A).trans hf12).trans hf13).trans hf14⟩
    ·have hbad:∃ E0 E5:Int,rowE r=E0∧((E0≠0∧E0=E5)∨(E0=0∧m≠d∧E5=5)):=by
      by_cases h0:rowE r=0
      ·exact ⟨0,5,h0,.inr ⟨rfl,fun e=>hgood ⟨h0,e⟩,rfl⟩⟩
      ·exact ⟨rowE r,rowE r,rfl,.inl ⟨h0,rfl⟩⟩
     obtain ⟨E0,E5,hE0,hE⟩:=hbad
     rw [hE0] at hrc
     have hs1:=hZ (fun W (hW:Fr W3 W)=>NSpell_err d M m r ra aN aA rc cN cA W (hr.out.fr (f3.trans hW)) hm.out.symm (by omega) E5 ⟨E0,hE0,hE⟩ (fun W' hW'=>hck.out W' (hW.trans hW')))
     have hE59:E5≠0:=by rcases hE with ⟨h1,h2⟩ | ⟨-,-,h2⟩ <;> omega
     clear hN3 hgood
     replace hE0:=hZ hE0
     replace h5:=hZ h5
     have q1:(E5 == 0)=false:=beq_false_of_ne hE59
     have q2:(E5 != 0)=true:=by rw [bne_iff_ne]; exact hE59
     have q3:(E5 == E5)=true:=beq_self_eq_true E5
     replace hE59:=hZ hE59
     obtain ⟨i5,a5,l5,c5,hi5⟩:∃ (i5:Int) (a5:Option Addr) (l5 c5:Nat),Hid (i5=0∧a5=none∧l5=0∧c5=0):=⟨0,none,0,0,rfl,rfl,rfl,rfl⟩
     have hs1':Hid (∀ W,Fr W3 W→Calls Tryz.prog 9 #[.agg #[.slice aN M cN,.slice aA d cA],.slice ra m rc] W fun e w'=>e=.returned (.tuple #[.agg #[.int .i64 i5,.slice a5 l5 c5],.int .i64 E5])∧Fr W w'):=fun W hW=>by
      obtain ⟨rfl,rfl,rfl,rfl⟩:=hi5.out
      exact hs1.out W hW
     have hsz':Hid (∀ W,Fr W3 W→Calls Tryz.prog 12 #[.agg #[.int .i64 i5,.slice a5 l5 c5],.agg #[.int .i64 0,.slice none 0 0]] W fun e w'=>e=.returned (.bool true)∧Fr W w'):=fun W hW=>by
      obtain ⟨rfl,rfl,rfl,rfl⟩:=hi5.out
      exact hsz.out W hW
     clear hs1 hsz
     rcases hE with ⟨h1,h2⟩ | ⟨h1,h2,h3⟩
     ·subst h2
      replace h1:=hZ h1
      go_wp2_with fail
      refine (hk.out _ f3).mono ?_
      rintro e w4 ⟨rfl,hf4⟩
      replace n0:=hf4.keep n0
      replace n1:=hf4.keep n1
      go_wp2_with fail
      refine (hs1'.out _ hf4).mono ?_
      rintro e w5 ⟨rfl,hf5⟩
      obtain ⟨sb,hsb⟩:∃ sb,sb=w5.heap.size:=⟨_,rfl⟩
      obtain ⟨W6,hW6⟩:∃ W6,W6=w5.alloc (.cells #[.int .i64 i5,.slice a5 l5 c5] 37):=⟨_,rfl⟩
      have f56:Fr w5 W6:=by rw [hW6]; exact (Fr.refl _).alloc _
      have hS6:Cel2 W6 sb (.int .i64 i5) (.slice a5 l5 c5):=by rw [hW6,hsb]; exact Cel2.new _ _ _ _
      have hf36:=(hf4.trans hf5).trans f56
      replace n0:=(hf5.trans f56).keep n0
      replace n1:=(hf5.trans f56).keep n1
      go_upto_region 5 with (fail)
      rw [← hW6,← hsb]
      clear hW6
      replace hsb:=hZ hsb
      go_wp2_with fail
      refine (hrc.out _ hf36).mono ?_
      rintro e w7 ⟨rfl,hf7⟩
      replace n0:=hf7.keep n0
      replace n1:=hf7.keep n1
      have hS7:=hZ (hS6.fr hf7)
      obtain ⟨db,hdb⟩:∃ db,db=w7.heap.size:=⟨_,rfl⟩
      obtain ⟨W8,hW8⟩:∃ W8,W8=w7.alloc (.cells #[.int .i64 0,.slice none 0 0] 37):=⟨_,rfl⟩
      have f78:Fr w7 W8:=by rw [hW8]; exact (Fr.refl _).alloc _
      have hD8:Cel2 W8 db (.int .i64 0) (.slice none 0 0):=by rw [hW8,hdb]; exact Cel2.new _ _ _ _
      have hf38:=(hf36.trans hf7).trans f78
      have hsdb:sb < db:=by rw [hdb]; exact hS7.out.lt
      have hdbz:W3.heap.size≤db:=by rw [hdb]; exact (hf36.trans hf7).size
      go_upto_region 9 with (fail)
      rw [← hW8,← hdb]
      replace n0:=f78.keep n0
      replace n1:=f78.keep n1
      clear hW8 hS6
      replace hdb:=hZ hdb
      replace hD8:=hZ hD8
      have s0:=(hS7.out.fr f78).a
      have s1:=(hS7.out.fr f78).b
      clear n0 n1
      go_wp2_with fail
      refine (hsz'.out _ hf38).mono ?_
      rintro e w12 ⟨rfl,hf12⟩
      go_wp2_with fail
      go_ret
      exact ⟨rfl,(f3.trans hf38).trans hf12⟩
     ·subst h1
      subst h3
      have dd:((m:Int) != (d:Int))=true:=by rw [bne_iff_ne]; omega
      replace h2:=hZ h2
      go_wp2_with fail
      refine (hk.out _ f3).mono ?_
      rintro e w4 ⟨rfl,hf4⟩
      replace n0:=hf4.keep n0
      replace n1:=hf4.keep n1
      go_wp2_with fail
      refine (hs1'.out _ hf4).mono ?_
      rintro e w5 ⟨rfl,hf5⟩
      obtain ⟨sb,hsb⟩:∃ sb,sb=w5.heap.size:=⟨_,rfl⟩
      obtain ⟨W6,hW6⟩:∃ W6,W6=w5.alloc (.cells #[.int .i64 i5,.slice a5 l5 c5] 37):=⟨_,rfl⟩
      have f56:Fr w5 W6:=by rw [hW6]; exact (Fr.refl _).alloc _
      have hS6:Cel2 W6 sb (.int .i64 i5) (.slice a5 l5 c5):=by rw [hW6,hsb]; exact Cel2.new _ _ _ _
      have hf36:=(hf4.trans hf5).trans f56
      replace n0:=(hf5.trans f56).keep n0
      replace n1:=(hf5.trans f56).keep n1
      go_upto_region 5 with (fail)
      rw [← hW6,← hsb]
      clear hW6
      replace hsb:=hZ hsb
      go_wp2_with fail
      refine (hrc.out _ hf36).mono ?_
      rintro e w7 ⟨rfl,hf7⟩
      replace n0:=hf7.keep n0
      replace n1:=hf7.keep n1
      have hS7:=hZ (hS6.fr hf7)
      obtain ⟨db,hdb⟩:∃ db,db=w7.heap.size:=⟨_,rfl⟩
      obtain ⟨W8,hW8⟩:∃ W8,W8=w7.alloc (.cells #[.int .i64 0,.slice none 0 0] 37):=⟨_,rfl⟩
      have f78:Fr w7 W8:=by rw [hW8]; exact (Fr.refl _).alloc _
      have hD8:Cel2 W8 db (.int .i64 0) (.slice none 0 0):=by rw [hW8,hdb]; exact Cel2.new _ _ _ _
      have hf38:=(hf36.trans hf7).trans f78
      have hsdb:sb < db:=by rw [hdb]; exact hS7.out.lt
      have hdbz:W3.heap.size≤db:=by rw [hdb]; exact (hf36.trans hf7).size
      go_upto_region 9 with (fail)
      rw [← hW8,← hdb]
      replace n0:=f78.keep n0
      replace n1:=f78.keep n1
      clear hW8 hS6
      replace hdb:=hZ hdb
      replace hD8:=hZ hD8
      have s0:=(hS7.out.fr f78).a
      have s1:=(hS7.out.fr f78).b
      clear n0 n1
      go_wp2_with fail
      refine (hsz'.out _ hf38).mono ?_
      rintro e w12 ⟨rfl,hf12⟩
      go_wp2_with fail
      go_ret
      exact ⟨rfl,(f3.trans hf38).trans hf12⟩
end Go.Proofs.YtkjemicelmabdaaGreatDoor
