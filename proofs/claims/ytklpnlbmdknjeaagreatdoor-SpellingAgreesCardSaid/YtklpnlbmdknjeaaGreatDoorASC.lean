/- Contracts and laws: ASC. -/
import Derived.Test.YtklpnlbmdknjeaaGreatDoorASW
import Derived.Test.YtklpnlbmdknjeaaGreatDoorASB
import Derived.Test.YtklpnlbmdknjeaaGreatDoorASA
import Derived.Test.YtklpnlbmdknjeaaGreatDoorAK
import Derived.Test.YtklpnlbmdknjeaaGreatDoorAH
import Derived.Test.YtklpnlbmdknjeaaGreatDoorARd

set_option maxRecDepth 100000
set_option maxHeartbeats 8000000
namespace Go.Proofs.YtklpnlbmdknjeaaGreatDoor
open Go.RowKit Go.Lib
attribute [local go_sem ↓] Go.wp_at_zero Go.wp_at_succ
theorem rows_nil (a:Option Addr) (cap:Nat) (f:Value) (w:World) :
 Calls Tryz.prog 85 #[.slice a 0 cap,f] w fun e w'=>e=.returned (.slice none 0 0)∧w=w':=by
 go_enter Tryz.func85,Tryz.ntmps85
 go_wp2_with fail
 refine wp_loop_rounds 1 ?_
 rw [rounds_succ]
 go_wp2_with fail
 go_ret
 exact ⟨rfl,rfl⟩
theorem Inverse_nil (a:Option Addr) (cap:Nat) (w:World) (hG:G w) :
 Calls Tryz.prog 88 #[.slice a 0 cap] w fun e w'=>e=.returned (.tuple #[.slice none 0 0,.int .i64 0])∧Fr w w':=by
 have hck:=hZ (tabCheck_ok [] a cap 0 w (.inl rfl) ⟨by simp,by omega,(fun r hr=>by cases hr),(fun r hr=>by cases hr)⟩)
 have hro:=hZ (fun f W=>rows_nil a cap f W)
 have hre:=hZ (fun W=>reduce_nil W)
 have hGf:=hZ (fun W (hW:Fr w W)=>hG.fr hW)
 clear hG
 go_enter Tryz.func88,Tryz.ntmps88
 go_wp2_with fail
 refine hck.out.mono ?_
 rintro e w1 ⟨rfl,hf1⟩
 go_upto_region 5 with (fail)
 obtain ⟨pb,hpb⟩:∃ pb,pb=w1.heap.size:=⟨_,rfl⟩
 obtain ⟨w2,hw2⟩:∃ w2,w2=w1.alloc (.cells #[.int .i64 0] 3):=⟨_,rfl⟩
 have c0:w2.cell? ⟨pb,0,none⟩=some (.int .i64 0):=by rw [hw2,hpb]; exact new_cell _ _ _
 have hf2:Fr w w2:=by rw [hw2]; exact hf1.alloc _
 change Code.wp _ _ _ _ (w1.alloc (.cells #[.int .i64 0] 3))
 rw [← hw2,← hpb]
 clear hw2 hpb
 refine wp_region_held_drew (S:=fun W=>W.cell? ⟨pb,0,none⟩=some (.int .i64 0)) (by kernel_rfl) ((Fr.refl w2).drew.keep c0) (fun hHeld=>?_)
 refine hK 0 ?_
 change wpAnyH _ _ _ _ _ _ _ (Act.put _ (some 19) _) _
 simp only [Act.put,lsT,ls0,lsS]
 refine hK 1 ?_
 change wpAnyH _ _ _ _ _ _ _ (Act.put _ (some 20) _) _
 simp only [Act.put,lsT,ls0,lsS]
 refine hK 2 ?_
 change wpAnyH _ _ _ _ _ _ _ (Act.put _ (some 21) _) _
 simp only [Act.put,lsT,ls0,lsS]
 refine hN 3 ?_
 change wpAnyH _ _ _ _ _ _ _ (Act.put _ (some 22) _) _
 simp only [Act.put,lsT,ls0,lsS]
 refine hN 4 ?_
 change wpAnyH _ _ _ _ _ _ _ (Act.put _ (some 23) _) _
 simp only [Act.put,lsT,ls0,lsS]
 refine hN 5 ?_
 change wpAnyH _ _ _ _ _ _ _ (Act.put _ (some 24) _) _
 simp only [Act.put,lsT,ls0,lsS]
 refine hN 6 ?_
 change wpAnyH _ _ _ _ _ _ _ (Act.put _ (some 25) _) _
 simp only [Act.put,lsT,ls0,lsS]
 refine hK 7 ?_
 change wpAnyH _ _ _ _ _ _ _ (Act.put _ (some 26) _) _
 simp only [Act.put,lsT,ls0,lsS]
 refine wpAnyH_done (by kernel_rfl) ?_ _
 have hd:Fr w2 w2.drew:=(Fr.refl w2).drew
 have c1:=hd.keep c0
 clear hHeld c0
 go_wp2_with fail
 refine (hro.out _ _).mono ?_
 rintro e w3 ⟨rfl,rfl⟩
 go_wp2_with fail
 refine (hre.out _).mono ?_
 rintro e w4 ⟨rfl,hf4⟩
 have c4:=hf4.keep c1
 go_upto_region 9 with (fail)
 obtain ⟨w6,hw6⟩:∃ w6,w6=w4.alloc (.cells #[sv (1:Rat).num,sv ((1:Rat).den:Int)] 150):=⟨_,rfl⟩
 have hf46:Fr w4 w6:=by rw [hw6]; exact (Fr.refl w4).alloc _
 change Code.wp _ _ _ _ (w4.alloc (.cells #[sv (1:Rat).num,sv ((1:Rat).den:Int)] 150))
 rw [← hw6]
 clear hw6
 have c6:=hf46.keep c4
 go_wp2_with fail
 refine wp_loop_rounds 1 ?_
 rw [rounds_succ]
 go_wp2_with fail
 exact bodyPost_ret (v:=.tuple #[_,.int .i64 0]) (by simp [results,Tryz.results88,go_sem]) rfl ⟨rfl,((hf2.trans hd).trans hf4).trans hf46⟩
theorem Solve_nil (aN aA:Option Addr) (nN cN cA:Nat) (f t:Value) (w:World) (hG:G w) :
 Calls Tryz.prog 41 #[.agg #[.slice aN nN cN,.slice aA 0 cA],f,t] w fun e w'=>e=.returned (.tuple #[.slice none 0 0,.bool true])∧Fr w w':=by
 have hacc:=hZ (fun W (hW:Fr w W)=>Accs_any aN aA nN cN cA [] W (hG.fr hW) ⟨.inl rfl,fun x hx=>by cases hx⟩ (by simp))
 have hinv:=hZ (fun a c W (hW:Fr w W)=>Inverse_nil a c W (hG.fr hW))
 clear hG
 have hC:=Cel2.new w (.slice aN nN cN) (.slice aA 0 cA) 31
 have f1:Fr w (w.alloc (.cells #[.slice aN nN cN,.slice aA 0 cA] 31)):=(Fr.refl _).alloc _
 have n0:=hC.a
 have n1:=hC.b
 clear hC
 go_enter Tryz.func41,Tryz.ntmps41
 go_wp2_with fail
 refine (hacc.out _ f1).mono ?_
 rintro e w2 ⟨a2,c2,rfl,-,hf2⟩
 go_wp2_with fail
 refine (hinv.out _ _ _ (f1.trans hf2)).mono ?_
 rintro e w3 ⟨rfl,hf3⟩
 go_wp2_with fail
 refine wp_loop_rounds 1 ?_
 rw [rounds_succ]
 go_wp2_with fail
 go_ret2
 exact ⟨rfl,(f1.trans hf2).trans hf3⟩
theorem NInts_nil (a:Option Addr) (c:Nat) (w:World) :
 Calls Tryz.prog 42 #[.slice a 0 c] w fun e w'=>e=.returned (.slice none 0 0)∧w=w':=by
 go_enter Tryz.func42,Tryz.ntmps42
 go_wp2_with fail
 refine wp_loop_rounds 1 ?_
 rw [rounds_succ]
 go_wp2_with fail
 go_ret
 exact ⟨rfl,rfl⟩
theorem NSpell_zero (N:List Sy) (M:Nat) (ra aN aA:Option Addr) (rc cN cA:Nat) (w:World) (hG:G w) (hn:Syms w aN N) (hM:N.length=M) (hM1:1≤M) (hM6:M≤60) (hr:∀ x,x ∈ N→x.row.length=0)
 (hck:∀ W,Fr w W→Calls Tryz.prog 15 #[.agg #[.slice aN M cN,.slice aA 0 cA]] W fun e w'=>e=.returned (.int .i64 0)∧Fr W w') :
 Calls Tryz.prog 18 #[.agg #[.slice aN M cN,.slice aA 0 cA],.slice ra 0 rc] w (SpO w (some (0,[])) 0):=by
 have hkr:Hid (∀ W,Fr w W→Calls Tryz.prog 38 #[.slice ra 0 rc] W fun e w'=>e=.returned (.int .i64 0)∧Fr W w'):=fun W _=>Check_row [] ra rc W (.inl rfl) (by decide)
 have hin:=hZ (fun a c W=>NInts_nil a c W)
 have hst:=hZ (fun f t W (hW:Fr w W)=>Solve_nil aN aA M cN cA f t W (hG.fr hW))
 have hbk:Hid (∀ W,Fr w W→Calls Tryz.prog 43 #[.slice none 0 0] W (BackRetA W [])):=fun W hW=>NBack_any [] none 0 W (hG.fr hW) (.inl rfl) (by decide) (fun x hx=>by cases hx)
 have hsy:=hZ hn
 replace hck:=hZ hck
 replace hM:=hZ hM
 replace hr:=hZ hr
 clear hG hn
 obtain ⟨nb,hnb⟩:∃ nb,nb=w.heap.size:=⟨_,rfl⟩
 obtain ⟨W1,hW1⟩:∃ W1,W1=(w.alloc (.cells #[.slice aN M cN,.slice aA 0 cA] 31)).alloc (.cells #[.int .i64 0,.slice none 0 0] 50):=⟨_,rfl⟩
 have f1:Fr w W1:=by rw [hW1]; exact ((Fr.refl _).alloc _).alloc _
 have hN1:Cel2 W1 nb (.slice aN M cN) (.slice aA 0 cA):=by rw [hW1,hnb]; exact (Cel2.new w _ _ _).fr ((Fr.refl _).alloc _)
 have hS1:Cel2 W1 (nb+1) (.int .i64 0) (.slice none 0 0):=by
  have:=Cel2.new (w.alloc (.cells #[.slice aN M cN,.slice aA 0 cA] 31)) (.int .i64 0) (.slice none 0 0) 50
  rw [World.size_alloc] at this
  rw [hW1,hnb]; exact this
 go_enter Tryz.func18,Tryz.ntmps18
 go_upto_region 1 with (fail)
 rw [← hW1,← hnb]
 clear hW1
 replace hnb:=hZ hnb
 have n0:=hN1.a
 have n1':=hN1.b
 replace hN1:=hZ hN1
 replace hS1:=hZ hS1
 go_wp2_with fail
 refine (hck.out _ f1).mono ?_
 rintro e w2 ⟨rfl,hf2⟩
 replace n0:=hf2.keep n0
 replace n1':=hf2.keep n1'
 have f2:=f1.trans hf2
 go_wp2_with fail
 refine (hkr.out _ f2).mono ?_
 rintro e w3 ⟨rfl,hf3⟩
 replace n0:=hf3.keep n0
 replace n1':=hf3.keep n1'
 have f3:=f2.trans hf3
 have f13:=hf2.trans hf3
 go_wp2_with fail
 clear n1'
 go_loopg [36] 1 (fun k s36 wr=>s36=.int .i64 0∧k=1∧wr=w3)
 case atStart=>exact ⟨rfl,rfl,rfl⟩
 case round=>
  clear n0
  obtain ⟨rfl,rfl,rfl⟩:=hrel
  have hdI:decide ((0:Int) < (M:Int))=true:=decide_eq_true (by omega)
  have hdI2:decide (0 < M)=true:=decide_eq_true (by omega)
  obtain ⟨ab,ao,x,rfl,hbl,hxi,hc1,hc2,-⟩:=(hsy.out.fr f3).at (i:=0) (by rw [hM.out]; omega)
  rw [hr.out x (List.mem_of_getElem? hxi)] at hc2
  rw [Nat.zero_mul,Nat.add_zero] at hc1 hc2
  have z1:(0:Int) < (M:Int):=by omega
  obtain ⟨W6,hW6⟩:∃ W6,W6=wr.alloc (.cells #[.string x.nm,.slice x.ra 0 x.rc] 46):=⟨_,rfl⟩
  have f6:Fr wr W6:=by rw [hW6]; exact (Fr.refl _).alloc _
  obtain ⟨xb,hxb⟩:∃ xb,xb=wr.heap.size:=⟨_,rfl⟩
  have hX6:Cel2 W6 xb (.string x.nm) (.slice x.ra 0 x.rc):=by rw [hW6,hxb]; exact Cel2.new _ _ _ _
  have hs1:=hZ (fun f t W (hW:Fr W6 W)=>hst.out f t W ((f3.trans f6).trans hW))
  have hb1:=hZ (fun W (hW:Fr W6 W)=>hbk.out W ((f3.trans f6).trans hW))
  replace hxi:=hZ hxi
  go_upto_region 12 with (fail)
  rw [← hW6,← hxb]
  clear hW6 hc1 hc2
  replace hxb:=hZ hxb
  have m0:=(f13.trans f6).keep hN1.out.a
  have m1:=(f13.trans f6).keep hN1.out.b
  have m2:=hX6.b
  generalize x.ra=xa at *
  generalize x.rc=xc at *
  replace hX6:=hZ hX6
  have hS0:=hZ (fun W' (hW':Fr W6 W')=>(⟨hW'.keep m0,hW'.keep m1,hW'.keep m2⟩:W'.cell? ⟨nb,0,none⟩=some (.slice (some ⟨ab,ao,none⟩) M cN)∧W'.cell? ⟨nb,1,none⟩=some (.slice aA 0 cA)∧W'.cell? ⟨xb,1,none⟩=some (.slice xa 0 xc)))
  have hd8:Fr W6 W6.drew:=(Fr.refl W6).drew
  refine wp_region_held_drew (S:=fun W'=>W'.cell? ⟨nb,0,none⟩=some (.slice (some ⟨ab,ao,none⟩) M cN)∧W'.cell? ⟨nb,1,none⟩=some (.slice aA 0 cA)∧W'.cell? ⟨xb,1,none⟩=some (.slice xa 0 xc)) (by kernel_rfl) (hS0.out _ hd8) (fun hHeld=>?_)
  refine hK 0 ?_
  refine hK 1 ?_
  refine hK 2 ?_
  refine hK 4 ?_
  refine hC 3 (fun K hK=>?_)
  go_simp
  (refine (hin.out _ _ _).mono ?_; rintro e wA ⟨rfl,rfl⟩)
  go_wp2_with fail
  refine hK.out _ _ (hS0.out _ hd8) (fun hHeld=>?_)
  clear hK K
  refine hC 5 (fun K hK=>?_)
  go_simp
  (refine (hin.out _ _ _).mono ?_; rintro e wB ⟨rfl,rfl⟩)
  go_wp2_with fail
  refine hK.out _ _ (hS0.out _ hd8) (fun hHeld=>?_)
  clear hK K
  refine hC 6 (fun K hK=>?_)
  go_simp
  (refine (hs1.out _ _ _ hd8).mono ?_; rintro e wC ⟨rfl,hfC⟩)
  go_wp2_with fail
  refine hK.out _ _ (hS0.out _ (hd8.trans hfC)) (fun hHeld=>?_)
  clear hK K
  refine hK 7 ?_
  refine hK 8 ?_
  refine hK 9 ?_
  refine hK 10 ?_
  refine hK 11 ?_
  refine wpAnyH_done (by kernel_rfl) ?_ _
  have hf9:Fr W6 wC:=hd8.trans hfC
  have hb2:=hb1.out _ hf9
  have hlt9:nb+1 < wr.heap.size:=(hS1.out.fr f13).lt
  replace hb2:=hZ hb2
  clear hHeld m0 m1 m2 hd8 hb1
  go_wp2_with fail
  refine hb2.out.mono ?_
  rintro e wD ⟨k1,-⟩
  obtain ⟨vD,rfl,hownD,-,hfD⟩:=k1 rfl
  obtain ⟨aD,cD,rfl,-⟩:=ownsRow_slice hownD
  have hS9:=(hS1.out.fr ((f13.trans f6).trans (hf9.trans hfD)))
  have hfr9:=((f3.trans f6).trans hf9).trans hfD
  have hS10:=hZ ((hS9.set0 (.int .i64 0)).set1 (.slice aD 0 cD))
  have hfx10:Hid (Fx (·=nb+1) wD ((wD.setCell ⟨nb+1,0,none⟩ (.int .i64 0)).setCell ⟨nb+1,1,none⟩ (.slice aD 0 cD))):=Fx.setCell (p:=(·=nb+1)) (q:=⟨nb+1,1,none⟩) (Fx.setCell (p:=(·=nb+1)) (q:=⟨nb+1,0,none⟩) (Fx.refl _ wD) (.inl rfl) _) (.inl rfl) _
  have x1:=(hS9.set0 (.int .i64 0)).b
  have x2:=(hS9.set0 (.int .i64 0)).fb
  obtain ⟨a0,a1,e0,e1⟩:=hS9
  clear hownD k1
  go_wp2_with fail
  have q0:=hS10.out.a
  have q1:=hS10.out.b
  refine bodyPost_ret (v:=.tuple #[.agg #[.int .i64 0,.slice aD 0 cD],.int .i64 0]) (by simp [results,Tryz.results18,go_sem,q0,q1]) rfl ?_
  exact ⟨fun _=>⟨_,cD,rfl,.inl rfl,rfl,((Fx.of_fr hfr9).trans hfx10.out).toFr (fun k hk e=>by have e:k=nb+1:=e; have:=hnb.out; omega),.inl rfl⟩,fun h=>(by cases h)⟩

theorem solve_back {m C:List (List Int)} {n:Nat} {D:Int} (h:InvIs m n C D) {d cs:List Int} (hs:solveS (divC C D) d n=some cs) {c:Nat} (hc:c < n):dotZ (fun j=>(cs[j]?).getD 0) (fun j=>entZ m j c) n=(d[c]?).getD 0:=by
 have hall:(∀ j,j < n→(sumQ (divC C D) d j n).den=1)∧cs=numsQ (divC C D) d n:=by
  unfold solveS at hs
  split at hs
  ·rename_i h9
   injection hs with hs
   exact ⟨fun j hj=>of_decide_eq_true (List.all_eq_true.1 h9 j (List.mem_range.2 hj)),hs.symm⟩
  ·cases hs
 have hD:(D:Rat)≠0:=intQ_ne h.d0
 have key:∀ j,j < n→D * (cs[j]?).getD 0=dotZ (fun k=>(d[k]?).getD 0) (fun k=>entZ C k j) n:=fun j hj=>by
  have h1:=hall.1 j hj
  have h2:=sumQ_dot h d hj n (Nat.le_refl _)
  rw [hall.2,numsQ_get hj]
  show D * (sumQ (divC C D) d j n).num=_
  generalize sumQ (divC C D) d j n=q at *
  have h3:q=(q.num:Rat):=by
   have:=Rat.num_divInt_den q
   rw [h1,Rat.divInt_eq_div,show (((1:Nat):Int):Rat)=1 from rfl] at this
   grind
  refine Rat.intCast_inj.1 ?_
  rw [Rat.intCast_mul,← h3,h2]
  generalize ((dotZ (fun k=>(d[k]?).getD 0) (fun k=>entZ C k j) n:Int):Rat)=z at *
  grind
 have e1:D * dotZ (fun j=>(cs[j]?).getD 0) (fun j=>entZ m j c) n=D * (d[c]?).getD 0:=by
  rw [← dotZ_mulL]
  have e2:dotZ (fun j=>D * (cs[j]?).getD 0) (fun j=>entZ m j c) n=dotZ (fun j=>dotZ (fun k=>(d[k]?).getD 0) (fun k=>entZ C k j) n) (fun j=>entZ m j c) n:=dotZ_congr fun j hj=>⟨key j hj,rfl⟩
  rw [e2,dotZ_swap (fun k=>(d[k]?).getD 0) (fun k j=>entZ C k j)]
  have e3:dotZ (fun k=>(d[k]?).getD 0) (fun k=>dotZ (fun j=>entZ C k j) (fun j=>entZ m j c) n) n=dotZ (fun k=>(d[k]?).getD 0) (fun k=>if c=k then D else 0) n:=dotZ_congr fun k hk=>⟨rfl,by
   show dotZ (fun j=>entZ C k j) (fun j=>entZ m j c) n=if c=k then D else 0
   rw [h.one k c hk hc]
   by_cases e:k=c
   ·rw [if_pos e,if_pos e.symm]
   ·rw [if_neg e,if_neg (fun h=>e h.symm)]⟩
  rw [e3,dotZ_comm]
  have:=dotZ_delta D c (fun k=>(d[k]?).getD 0) n
  rw [if_pos hc] at this
  exact this
 exact Int.eq_of_mul_eq_mul_left h.d0 e1
theorem rdT_get {RA:List (List Int)} {cs s0:List Int} {d:Nat} (hs:s0.length=d) (hr:∀ i,i < d→(rowAt RA i).length=d) {c:Nat} (hc:c < d):∀ i,i≤d→((rdT RA cs s0 i)[c]?).getD 0=(s0[c]?).getD 0+dotZ (fun j=>(cs[j]?).getD 0) (fun j=>((rowAt RA j)[c]?).getD 0) i
 | 0,_=>by show (s0[c]?).getD 0=(s0[c]?).getD 0+0; omega
 | i+1,hi=>by
   have h1:=rdT_len (cs:=cs) hs hr i (by omega)
   have h2:=hr i (by omega)
   show ((List.zipWith (fun a x=>a+(cs[i]?).getD 0 * x) (rdT RA cs s0 i) (rowAt RA i))[c]?).getD 0=(s0[c]?).getD 0+(dotZ _ _ i+(cs[i]?).getD 0 * ((rowAt RA i)[c]?).getD 0)
   rw [← Int.add_assoc,← rdT_get hs hr hc i (by omega),List.getElem?_zipWith,List.getElem?_eq_getElem (show c < (rdT RA cs s0 i).length by omega),List.getElem?_eq_getElem (show c < (rowAt RA i).length by omega)]
   rfl
theorem rd_back {m C:List (List Int)} {n:Nat} {D:Int} (h:InvIs m n C D) (hm:∀ i,i < n→(rowAt m i).length=n) {r s0 cs:List Int} (hr:r.length=n) (hs:s0.length=n) (hc:solveS (divC C D) (List.zipWith (· - ·) r s0) n=some cs):rdT m cs s0 n=r:=by
 refine List.ext_getElem? fun c=>?_
 by_cases h9:c < n
 ·have h1:=rdT_get (cs:=cs) hs hm h9 n (Nat.le_refl _)
  have h2:=solve_back h hc h9
  have h3:dotZ (fun j=>(cs[j]?).getD 0) (fun j=>((rowAt m j)[c]?).getD 0) n=dotZ (fun j=>(cs[j]?).getD 0) (fun j=>entZ m j c) n:=dotZ_congr fun j _=>⟨rfl,rfl⟩
  have h4:=rdT_len (cs:=cs) hs hm n (Nat.le_refl _)
  rw [h3,h2,List.getElem?_zipWith,List.getElem?_eq_getElem (show c < r.length by omega),List.getElem?_eq_getElem (show c < s0.length by omega),List.getElem?_eq_getElem (show c < (rdT m cs s0 n).length by omega)] at h1
  rw [List.getElem?_eq_getElem (show c < r.length by omega),List.getElem?_eq_getElem (show c < (rdT m cs s0 n).length by omega)]
  have h1:(rdT m cs s0 n)[c]=s0[c]+(r[c] - s0[c]):=h1
  rw [h1]; congr 1; omega
 ·rw [List.getElem?_eq_none (by rw [rdT_len hs hm n (Nat.le_refl _)]; omega),List.getElem?_eq_none (by omega)]
def toF (C:List (List Int)) (D:Int) (RN:List (List Int)) (d:Nat) (r:List Int) (i:Nat):Option (List Int):=solveS (divC C D) (List.zipWith (· - ·) r (rowAt RN i)) d
def Inv42 (RA:List (List Int)) (d:Nat) (C:List (List Int)) (D:Int) (C':List (List Int)) (D':Int):Prop:=1≤d→(InvBoth RA d C D∧InvIs RA d C D)∧InvBoth (trM d RA) d C' D'∧InvIs (trM d RA) d C' D'
theorem Inv42.ok {RA C C':List (List Int)} {d:Nat} {D D':Int} (h:Inv42 RA d C D C' D') (hd:1≤d):SpOk RA C C' d D D':=⟨(h hd).1.2,(h hd).2.2⟩
section
variable {N A:List Sy} {d M:Nat} {aN aA:Option Addr} {cN cA:Nat} {w:World}
theorem Nt42.lA (hn:Nt42 w aN aA cN cA M d N A):(A.map Sy.row).length=d:=by rw [List.length_map]; exact hn.hd
theorem Nt42.lRA (hn:Nt42 w aN aA cN cA M d N A):∀ q,q ∈ A.map Sy.row→q.length=d:=fun q hq=>by obtain ⟨x,hx,rfl⟩:=List.mem_map.1 hq; exact (hn.rA x hx).2.1
theorem Nt42.bA (hn:Nt42 w aN aA cN cA M d N A):BdM 9 (A.map Sy.row):=fun q hq y hy=>by obtain ⟨x,hx,rfl⟩:=List.mem_map.1 hq; exact (hn.rA x hx).2.2 y hy
theorem Nt42.at (_:Nt42 w aN aA cN cA M d N A) {i:Nat} {x:Sy} (hx:N[i]?=some x):rowAt (N.map Sy.row) i=x.row:=by
 have h1:(N.map Sy.row)[i]?=some x.row:=by rw [List.getElem?_map,hx]; rfl
 have h2:=List.getElem?_eq_some_iff.1 h1
 rw [rowAt_eq h2.1]; exact h2.2
theorem Nt42.get (hn:Nt42 w aN aA cN cA M d N A) {i:Nat} (hi:i < M):∃ x,N[i]?=some x∧x ∈ N:=⟨_,List.getElem?_eq_getElem (by rw [hn.hM]; exact hi),List.getElem_mem _⟩
theorem Nt42.inv (hn:Nt42 w aN aA cN cA M d N A):∃ C D C' D',Inv42 (A.map Sy.row) d C D C' D':=by
 by_cases hd1:1≤d
 ·obtain ⟨C,D,h1⟩:=inv_any hn.d3 hd1 hn.lA hn.lRA hn.bA hn.det
  obtain ⟨C',D',h2⟩:=inv_any hn.d3 hd1 (trM_len d _) (fun q hq=>by
   obtain ⟨k,-,rfl⟩:=List.mem_map.1 hq
   rw [colZ_len]; exact hn.lA) (bdM_tr hn.bA) (by rw [detM_tr hn.d3 hn.lA hn.lRA]; exact hn.det)
  exact ⟨C,D,C',D',fun _=>⟨h1,h2⟩⟩
 ·exact ⟨[],0,[],0,fun h=>absurd h hd1⟩
theorem Nt42.dif (hn:Nt42 w aN aA cN cA M d N A) {r:List Int} (hrf:∀ x,x ∈ r→fitB x=true) {x:Sy} (hx:x ∈ N):∀ y,y ∈ List.zipWith (fun a b:Int=>a - b) r x.row→y.natAbs≤2000000000:=fun y hy=>by
 obtain ⟨u,v,hu,hv,rfl⟩:=mem_zipWithZ hy
 have h1:=of_decide_eq_true (hrf u hu)
 have h2:=(hn.rN x hx).2.2 v hv
 omega
variable {C C':List (List Int)} {D D':Int}
theorem toF_at (hn:Nt42 w aN aA cN cA M d N A) {r:List Int} {i:Nat} {x:Sy} (hx:N[i]?=some x):toF C D (N.map Sy.row) d r i=solveS (divC C D) (List.zipWith (· - ·) r x.row) d:=by unfold toF; rw [hn.at hx]
theorem toF_len {RN:List (List Int)} {r:List Int} {i:Nat} {cs:List Int} (h:toF C D RN d r i=some cs):cs.length=d:=by
 unfold toF solveS at h
 split at h
 ·injection h with h; rw [← h]; exact numsQ_len _ _ _
 ·cases h
theorem toF_small (hn:Nt42 w aN aA cN cA M d N A) (hI:Inv42 (A.map Sy.row) d C D C' D') {r:List Int} (hrf:∀ x,x ∈ r→fitB x=true) {i:Nat} {cs:List Int} (hi:i < M) (h:toF C D (N.map Sy.row) d r i=some cs):∀ x,x ∈ cs→x.natAbs < 1000000000000:=by
 by_cases hd1:1≤d
 ·obtain ⟨x,hx,hxm⟩:=hn.get hi
  rw [toF_at hn hx] at h
  exact (hI.ok hd1).small hn.d3 (hn.dif hrf hxm) h
 ·have:=toF_len h
  rw [List.eq_nil_of_length_eq_zero (show cs.length=0 by omega)]
  exact fun x hx=>by cases hx
theorem spF_inv {f:Nat→Option (List Int)} {i:Nat} {cs:List Int} (h:spF f M=some (i,cs)):i < M∧f i=some cs:=by
 unfold spF at h
 obtain ⟨j,hj,h2⟩:=List.exists_of_findSome?_eq_some h
 cases hfj:f j with
 | none=>rw [hfj] at h2; cases h2
 | some cs'=>
   rw [hfj] at h2
   injection h2 with h2; injection h2 with h3 h4; subst h3; subst h4
   exact ⟨List.mem_range.1 hj,hfj⟩
theorem toF_back (hn:Nt42 w aN aA cN cA M d N A) (hI:Inv42 (A.map Sy.row) d C D C' D') {r:List Int} (hrl:r.length=d) {i:Nat} {cs:List Int} (hi:i < M) (h:toF C D (N.map Sy.row) d r i=some cs):rdT (A.map Sy.row) cs (rowAt (N.map Sy.row) i) d=r:=by
 obtain ⟨x,hx,hxm⟩:=hn.get hi
 have hxl:=(hn.rN x hxm).2.1
 rw [hn.at hx]
 by_cases hd1:1≤d
 ·rw [toF_at hn hx] at h
  exact rd_back (hI hd1).1.2 (fun i hi=>(hn.rowA i hi).1) hrl hxl h
 ·obtain rfl:d=0:=by omega
  show x.row=r
  rw [List.eq_nil_of_length_eq_zero hxl,List.eq_nil_of_length_eq_zero hrl]
theorem spellP (hn:Nt42 w aN aA cN cA M d N A) (hI:Inv42 (A.map Sy.row) d C D C' D') {r:List Int} (hrl:r.length=d) (hrf:∀ x,x ∈ r→fitB x=true) (W:World) (ra:Option Addr) (rc:Nat) (hG:G W) (hW:Nt42 W aN aA cN cA M d N A) (hr:El W iv ra r) :
 Calls Tryz.prog 18 #[.agg #[.slice aN M cN,.slice aA d cA],.slice ra d rc] W (SpO W (spF (toF C D (N.map Sy.row) d r) M) d):=by
 have hM:=hn.hM
 have d3:=hn.d3
 have m1:=hn.m1
 have m8:=hn.m8
 have hrN:∀ x,x ∈ N→x.row.length=d:=fun x hx=>(hn.rN x hx).2.1
 by_cases hd0:d=0
 ·subst hd0
  obtain rfl:=List.eq_nil_of_length_eq_zero hn.hd
  obtain rfl:=List.eq_nil_of_length_eq_zero hrl
  have hspf:spF (toF C D (N.map Sy.row) 0 []) M=some (0,[]):=spF_some (i:=0) (by omega) (fun j hj=>absurd hj (Nat.not_lt_zero _)) rfl
  rw [hspf]
  exact NSpell_zero N M ra aN aA rc cN cA W hG hW.hn.noms hM m1 (by omega) hrN (fun W' hW'=>(hW.fr hW').check (hG.fr hW'))
 ·have hd1:1≤d:=by omega
  have hok:=hI.ok hd1
  obtain ⟨⟨⟨hF,hz⟩,hI0⟩,-⟩:=hI hd1
  have hU:NtOk (N.map Sy.row) (A.map Sy.row) d (divC C D):=⟨hd1,by omega,hn.lA,by rw [List.length_map]; omega,by rw [List.length_map]; omega,fun q hq=>⟨hn.lRA q hq,fun x hx=>fit9 (hn.bA q hq x hx)⟩,
   fun q hq=>by obtain ⟨x,hx,rfl⟩:=List.mem_map.1 hq; exact ⟨hrN x hx,fun y hy=>fit9 ((hn.rN x hx).2.2 y hy)⟩,hF,fun q hq=>by unfold divC at hq; obtain ⟨y,hy,rfl⟩:=List.mem_map.1 hq; rw [List.length_map]; exact hI0.rect y hy,by unfold divC; rw [List.length_map]; exact hI0.len⟩
  exact NSpell_any N A d M (divC C D) (toF C D (N.map Sy.row) d r) r ra aN aA rc cN cA W hG hW.hn hU hM hr hrl hrf
   (fun i x hx=>⟨hok.sumOk d3 (hn.dif hrf (List.mem_of_getElem? hx)),(toF_at hn hx).symm⟩) (fun i cs hi h x hx=>by have:=toF_small hn hI hrf hi h x hx; omega) (fun W' hW'=>(hW.fr hW').check (hG.fr hW'))
end
end Go.Proofs.YtklpnlbmdknjeaaGreatDoor
