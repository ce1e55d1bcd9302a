/-
  Contracts and laws for the statements of the seat, QRd.
-/
import Derived.Test.YtkjemicelmabdaaGreatDoorQNA
import Derived.Test.YtkjemicelmabdaaGreatDoorQEl
import Derived.Test.YtkjemicelmabdaaGreatDoorQMk

set_option maxRecDepth 100000
set_option maxHeartbeats 2000000
namespace Go.Proofs.YtkjemicelmabdaaGreatDoor
open Go.RowKit Go.Lib
attribute [local go_sem ↓] Go.wp_at_zero Go.wp_at_succ

theorem NRead_err (N A:List Sy) (M d m:Nat) (i:Int) (cs:List Int) (ca aN aA:Option Addr) (cc cN cA:Nat) (w:World) (hc:El w iv ca cs) (hm:cs.length=m) (hM:N.length=M) (hd:A.length=d) (hl:m≤1000000000) (hN:M≤1000000000) (hA:d≤1000000000) (E:Int) (hE:E=spE N A i cs) (h0:E≠0)
 (hck:∀ W,Fr w W→Calls Tryz.prog 27 #[.agg #[.slice aN M cN,.slice aA d cA]] W fun e w'=>e=.returned (.int .i64 0)∧Fr W w') :
 Calls Tryz.prog 13 #[.agg #[.slice aN M cN,.slice aA d cA],.agg #[.int .i64 i,.slice ca m cc]] w fun e w'=>e=.returned (.tuple #[.slice none 0 0,.int .i64 E])∧Fr w w':=by
 have hcs9:=fun W (hW:Fr w W)=>NcheckSp_any aN aA cN cA N A i cs ca cc W (hc.fr hW) (by omega) (by omega) (by omega)
 rw [← hE,hM,hd,hm] at hcs9
 have q1:(E != 0)=true:=by rw [bne_iff_ne]; exact h0
 replace hcs9:=hZ hcs9
 replace hck:=hZ hck
 replace h0:=hZ h0
 clear hE hc
 obtain ⟨nb,hnb⟩:∃ nb,nb=w.heap.size:=⟨_,rfl⟩
 obtain ⟨W1,hW1⟩:∃ W1,W1=(w.alloc (.cells #[.slice aN M cN,.slice aA d cA] 32)).alloc (.cells #[.int .i64 i,.slice ca m cc] 37):=⟨_,rfl⟩
 have f1:Fr w W1:=by rw [hW1]; exact ((Fr.refl _).alloc _).alloc _
 have hN1:Cel2 W1 nb (.slice aN M cN) (.slice aA d cA):=by rw [hW1,hnb]; exact (Cel2.new w _ _ _).fr ((Fr.refl _).alloc _)
 have hS1:Cel2 W1 (nb+1) (.int .i64 i) (.slice ca m cc):=by
  have:=Cel2.new (w.alloc (.cells #[.slice aN M cN,.slice aA d cA] 32)) (.int .i64 i) (.slice ca m cc) 37
  rw [World.size_alloc] at this
  rw [hW1,hnb]; exact this
 go_enter Tryz.func13,Tryz.ntmps13
 go_upto_region 1 with (fail)
 rw [← hW1,← hnb]
 clear hW1 hnb
 have n0:=hN1.a
 have n1':=hN1.b
 have s0':=hS1.a
 have s1':=hS1.b
 replace hN1:=hZ hN1
 replace hS1:=hZ hS1
 go_wp2_with fail
 refine (hck.out _ f1).mono ?_
 rintro e w2 ⟨rfl,hf2⟩
 replace n0:=hf2.keep n0
 replace n1':=hf2.keep n1'
 replace s0':=hf2.keep s0'
 replace s1':=hf2.keep s1'
 have f2:=f1.trans hf2
 go_wp2_with fail
 refine (hcs9.out _ f2).mono ?_
 rintro e w3 ⟨rfl,hf3⟩
 go_wp2_with fail
 go_ret2
 exact ⟨rfl,f2.trans hf3⟩
def RdOk (w:World) (xs:List Int) (d:Nat) (e:Ending) (w':World):Prop:=∃ a c,e=.returned (.tuple #[.slice a d c,.int .i64 0])∧El w' iv a xs∧xs.length=d∧Fr w w'
theorem NRead_zero (N:List Sy) (M i0:Nat) (ca aN aA:Option Addr) (cc cN cA:Nat) (w:World) (hG:G w) (hn:Syms w aN N) (hM:N.length=M) (hN:M≤60) (hi:i0 < M) (hr:∀ x,x ∈ N→x.row=[])
 (hck:∀ W,Fr w W→Calls Tryz.prog 27 #[.agg #[.slice aN M cN,.slice aA 0 cA]] W fun e w'=>e=.returned (.int .i64 0)∧Fr W w') :
 Calls Tryz.prog 13 #[.agg #[.slice aN M cN,.slice aA 0 cA],.agg #[.int .i64 i0,.slice ca 0 cc]] w (RdOk w [] 0):=by
 have hcs9:=fun W (_:Fr w W)=>NcheckSp_any aN aA cN cA N [] (i0:Int) [] ca cc W (.inl rfl) (by simp) (by omega) (by simp)
 rw [show spE N [] (i0:Int) []=0 by
  unfold spE
  rw [if_neg (by omega),if_neg (by simp)]
  rfl,hM,List.length_nil] at hcs9
 obtain ⟨x,hx⟩:∃ x,N[i0]?=some x:=⟨_,List.getElem?_eq_getElem (by omega)⟩
 have hx0:=hr x (List.mem_of_getElem? hx)
 have hin:=hZ (fun (W:World) (hW:Fr w W)=>NInts_sm [] x.ra x.rc W (hG.fr hW) (.inl rfl) (by simp) (fun y hy=>by cases hy))
 have hbk:=hZ (fun (W:World) (hW:Fr w W) (a:Option Addr) (c:Nat)=>NBack_any [] a c W (hG.fr hW) (.inl rfl) (by simp) (fun y hy=>by cases hy))
 have hnm:=hZ hn
 replace hcs9:=hZ hcs9
 replace hck:=hZ hck
 replace hM:=hZ hM
 replace hx:=hZ hx
 clear hn hr hG
 obtain ⟨nb,hnb⟩:∃ nb,nb=w.heap.size:=⟨_,rfl⟩
 obtain ⟨W1,hW1⟩:∃ W1,W1=(w.alloc (.cells #[.slice aN M cN,.slice aA 0 cA] 32)).alloc (.cells #[.int .i64 i0,.slice ca 0 cc] 37):=⟨_,rfl⟩
 have f1:Fr w W1:=by rw [hW1]; exact ((Fr.refl _).alloc _).alloc _
 have hN1:Cel2 W1 nb (.slice aN M cN) (.slice aA 0 cA):=by rw [hW1,hnb]; exact (Cel2.new w _ _ _).fr ((Fr.refl _).alloc _)
 have hS1:Cel2 W1 (nb+1) (.int .i64 i0) (.slice ca 0 cc):=by
  have:=Cel2.new (w.alloc (.cells #[.slice aN M cN,.slice aA 0 cA] 32)) (.int .i64 i0) (.slice ca 0 cc) 37
  rw [World.size_alloc] at this
  rw [hW1,hnb]; exact this
 go_enter Tryz.func13,Tryz.ntmps13
 go_upto_region 1 with (fail)
 rw [← hW1,← hnb]
 clear hW1 hnb
 have n0:=hN1.a
 have n1':=hN1.b
 have s0':=hS1.a
 have s1':=hS1.b
 replace hN1:=hZ hN1
 replace hS1:=hZ hS1
 go_wp2_with fail
 refine (hck.out _ f1).mono ?_
 rintro e w2 ⟨rfl,hf2⟩
 replace n0:=hf2.keep n0
 replace n1':=hf2.keep n1'
 replace s0':=hf2.keep s0'
 replace s1':=hf2.keep s1'
 have f2:=f1.trans hf2
 go_wp2_with fail
 refine (hcs9.out _ f2).mono ?_
 rintro e w3 ⟨rfl,hf3⟩
 replace n0:=hf3.keep n0
 replace n1':=hf3.keep n1'
 replace s0':=hf3.keep s0'
 replace s1':=hf3.keep s1'
 have f3:=f2.trans hf3
 obtain ⟨ab,ao,y0,rfl,hbl,hy0,hc1,hc2,-⟩:=(hnm.out.fr f3).at (i:=i0) (by rw [hM.out]; exact hi)
 obtain rfl:x=y0:=by rw [hx.out] at hy0; injection hy0
 rw [hx0,List.length_nil] at hc2
 rw [List.length_nil] at hin hbk
 replace hy0:=hZ hy0
 replace hx0:=hZ hx0
 have z0:(0:Int)≤(i0:Int):=Int.natCast_nonneg _
 have z1:(i0:Int) < (M:Int):=by omega
 generalize x.ra=ra0 at *
 generalize x.rc=rc0 at *
 generalize x.nm=nm0 at *
 go_wp2_with fail
 refine (hin.out _ f3).mono ?_
 rintro e w4 ⟨v,rfl,hown,hf4⟩
 obtain ⟨av,cv,rfl⟩:∃ av cv,v=.slice av 0 cv:=by
  rcases hown.2 with ⟨h1,h2⟩ | ⟨g',cap',cur',hv,_⟩
  ·exact ⟨none,0,h1⟩
  ·exact ⟨_,_,hv⟩
 have f4:=f3.trans hf4
 replace n1':=hf4.keep n1'
 clear hown n0 s0' s1' hc1 hc2 hin hck hcs9
 go_wp2_with fail
 refine wp_loop_rounds 1 ?_
 rw [rounds_succ]
 go_wp2_with fail
 refine (hbk.out _ f4 _ _).mono ?_
 intro e wD hD
 obtain ⟨vD,rfl,hownD,-,hfD⟩:=hD.1 rfl
 obtain ⟨aD,cD,rfl,helD⟩:=own_readI hownD
 replace helD:=hZ helD
 clear hownD hD
 go_wp2_with fail
 go_ret2
 exact ⟨aD,cD,rfl,helD.out,rfl,f4.trans hfD⟩
def Row9 (d:Nat) (q:List Int):Prop:=q.length=d∧∀ x,x ∈ q→x.natAbs≤9
theorem ti9 {x:Int} (h:x.natAbs≤9):Ti x:=⟨by omega,by omega⟩
theorem get_lt {l:List Int} {c:Nat} (h:c < l.length):∃ x,l[c]?=some x∧x ∈ l:=⟨_,List.getElem?_eq_getElem h,List.getElem_mem h⟩
theorem rdT_bd {RA:List (List Int)} {cs s0:List Int} {d:Nat} (hA:∀ i,i < d→Row9 d (rowAt RA i)) (hs:Row9 d s0) (hc:∀ x,x ∈ cs→fitB x=true) (hl:cs.length=d):∀ i,i≤d→∀ c,c < d→(((rdT RA cs s0 i)[c]?).getD 0).natAbs≤9+i * 9000000000
 | 0,_,c,hcd=>by
   obtain ⟨x,hx,hm⟩:=get_lt (show c < s0.length by rw [hs.1]; exact hcd)
   show ((s0[c]?).getD 0).natAbs≤_
   rw [hx]
   have h1:=hs.2 _ hm
   show x.natAbs≤_
   omega
 | i+1,hi,c,hcd=>by
   have ih:=rdT_bd hA hs hc hl i (by omega) c hcd
   have hr:=hA i (by omega)
   obtain ⟨x,h1,m1⟩:=get_lt (show c < (rowAt RA i).length by rw [hr.1]; exact hcd)
   obtain ⟨y,h2,m2⟩:=get_lt (show c < (rdT RA cs s0 i).length by rw [rdT_len hs.1 (fun j hj=>(hA j hj).1) i (by omega)]; exact hcd)
   obtain ⟨z,h3,m3⟩:=get_lt (show i < cs.length by omega)
   rw [h2] at ih
   rw [rdT,List.getElem?_zipWith,h1,h2,h3]
   have b1:=hr.2 _ m1
   have b2:-1000000000≤z∧z≤1000000000:=of_decide_eq_true (hc _ m3)
   have b3:(z * x).natAbs≤1000000000 * 9:=by rw [Int.natAbs_mul]; exact Nat.mul_le_mul (by omega) b1
   have b4:=Int.natAbs_add_le y (z * x)
   have ih:y.natAbs≤9+i * 9000000000:=ih
   show (y+z * x).natAbs≤_
   omega
structure Nt42 (w:World) (aN aA:Option Addr) (cN cA M d:Nat) (N A:List Sy):Prop where
 hn:NotIs w aN aA cA N A
 hM:N.length=M
 hd:A.length=d
 d3:d≤3
 m1:1≤M
 m8:M≤8
 rN:∀ x,x ∈ N→x.nm.size=1∧Row9 d x.row
 rA:∀ x,x ∈ A→x.nm.size=1∧Row9 d x.row
 fine:nchkE N A d=0
 red:∃ Fq,redTo ((A.map Sy.row).map qrow) d=some Fq∧Fq.lead.length=d
 det:detM (A.map Sy.row)≠0
 nmN:N.map Sy.nm=(List.range M).map nmD
 nmA:A.map Sy.nm=(List.range d).map anD
theorem Nt42.fr {w w':World} {aN aA:Option Addr} {cN cA M d:Nat} {N A:List Sy} (h:Nt42 w aN aA cN cA M d N A) (k:Fr w w'):Nt42 w' aN aA cN cA M d N A:=⟨h.hn.fr k,h.hM,h.hd,h.d3,h.m1,h.m8,h.rN,h.rA,h.fine,h.red,h.det,h.nmN,h.nmA⟩
theorem Nt42.check {w:World} {aN aA:Option Addr} {cN cA M d:Nat} {N A:List Sy} (h:Nt42 w aN aA cN cA M d N A) (hG:G w):Calls Tryz.prog 27 #[.agg #[.slice aN M cN,.slice aA d cA]] w fun e w'=>e=.returned (.int .i64 0)∧Fr w w':=by
 have hc:=NCheck_any aN aA cN cA d N A w hG h.hn (fun x hx=>by
  rcases List.mem_append.1 hx with h9 | h9
  ·have h1:=(h.rN x h9).1
   have h2:=(h.rN x h9).2.1
   have:=h.d3
   exact ⟨by omega,by omega⟩
  ·have h1:=(h.rA x h9).1
   have h2:=(h.rA x h9).2.1
   have:=h.d3
   exact ⟨by omega,by omega⟩) (by have:=h.hM; have:=h.m8; omega) (by have:=h.hd; have:=h.d3; omega) (fun _ _ _ _=>by
  have e:colsN (A.map Sy.row)=d:=by
   have hd:=h.hd
   match A,hd,h.rA with
   | [],hd,_=>exact hd
   | x :: A',_,hr=>exact (hr x List.mem_cons_self).2.1
  rw [e]
  exact h.red)
 rw [h.fine,h.hM,h.hd] at hc
 exact hc
theorem Nt42.rowA {w:World} {aN aA:Option Addr} {cN cA M d:Nat} {N A:List Sy} (h:Nt42 w aN aA cN cA M d N A):∀ i,i < d→Row9 d (rowAt (A.map Sy.row) i):=fun i hi=>by
 rw [rowAt_eq (by rw [List.length_map,h.hd]; exact hi),List.getElem_map]
 exact (h.rA _ (List.getElem_mem _)).2
theorem fit9 {x:Int} (h:x.natAbs≤9):fitB x=true:=decide_eq_true ⟨by omega,by omega⟩
def rdE (N A:List Sy) (i:Int) (cs:List Int):Int:=if spE N A i cs≠0 then spE N A i cs else if (rdT (A.map Sy.row) cs (rowAt (N.map Sy.row) i.toNat) A.length).all fitB=true then 0 else 4
theorem spE_inv {N A:List Sy} {i:Int} {cs:List Int} (h:spE N A i cs=0):0≤i∧i.toNat < N.length∧cs.length=A.length∧∀ x,x ∈ cs→fitB x=true:=by
 unfold spE at h
 split at h
 ·cases h
 ·split at h
  ·cases h
  ·rename_i h1 h2
   exact ⟨by omega,by omega,Decidable.of_not_not h2,(nrowE_inv h).2⟩
def RdAll (w:World) (N A:List Sy) (d:Nat) (i:Int) (cs:List Int) (e:Ending) (w':World):Prop :=
 (rdE N A i cs=0→RdOk w (rdT (A.map Sy.row) cs (rowAt (N.map Sy.row) i.toNat) d) d e w')∧(rdE N A i cs≠0→e=.returned (.tuple #[.slice none 0 0,.int .i64 (rdE N A i cs)])∧Fr w w')
theorem NRead42 (N A:List Sy) (M d m:Nat) (i:Int) (cs:List Int) (ca aN aA:Option Addr) (cc cN cA:Nat) (w:World) (hG:G w) (hn:Nt42 w aN aA cN cA M d N A) (hc:El w iv ca cs) (hm:cs.length=m) (hl:m≤1000000000) :
 Calls Tryz.prog 13 #[.agg #[.slice aN M cN,.slice aA d cA],.agg #[.int .i64 i,.slice ca m cc]] w (RdAll w N A d i cs):=by
 have hck:=fun W (hW:Fr w W)=>(hn.fr hW).check (hG.fr hW)
 have hM:=hn.hM
 have hd:=hn.hd
 have d3:=hn.d3
 have m8:=hn.m8
 by_cases h0:spE N A i cs=0
 ·obtain ⟨i1,i2,i3,i4⟩:=spE_inv h0
  obtain ⟨i0,rfl⟩:=Int.eq_ofNat_of_zero_le i1
  have i2:i0 < N.length:=i2
  obtain ⟨s0,hs0⟩:∃ s0,s0=rowAt (N.map Sy.row) i0:=⟨_,rfl⟩
  have hs1:(N.map Sy.row)[i0]?=some s0:=by rw [hs0,rowAt_eq (by rw [List.length_map]; exact i2)]; exact List.getElem?_eq_getElem _
  have hx:=List.getElem?_eq_getElem i2
  have hs2:Row9 d s0:=by
   rw [hs0,rowAt_eq (by rw [List.length_map]; exact i2),List.getElem_map]
   exact (hn.rN _ (List.getElem_mem _)).2
  have hE:rdE N A (i0:Int) cs=if (rdT (A.map Sy.row) cs s0 d).all fitB=true then 0 else 4:=by
   unfold rdE; rw [if_neg (by rw [h0]; simp),hd]; show (if (rdT _ _ (rowAt _ i0) _).all fitB=true then _ else _)=_; rw [hs0]
  unfold RdAll
  rw [hE]
  show Calls _ _ _ _ (fun e w'=>(_→RdOk w (rdT (A.map Sy.row) cs (rowAt (N.map Sy.row) i0) d) d e w')∧_)
  rw [← hs0]
  have hbd:=rdT_bd hn.rowA hs2 i4 (by omega)
  by_cases hdz:d=0
  ·have hA0:A=[]:=List.eq_nil_of_length_eq_zero (by omega)
   have hs9:s0=[]:=List.eq_nil_of_length_eq_zero (by rw [hs2.1]; exact hdz)
   have hm0:m=0:=by omega
   rw [hdz] at hck hE ⊢
   subst hm0
   have h:=NRead_zero N M i0 ca aN aA cc cN cA w hG hn.hn.noms hM (by omega) (by omega) (fun x hx=>List.eq_nil_of_length_eq_zero (by rw [(hn.rN x hx).2.1]; exact hdz)) hck
   refine h.mono fun e w' hr=>⟨fun _=>?_,fun hne=>?_⟩
   ·rw [show rdT (A.map Sy.row) cs s0 0=[] from hs9]; exact hr
   ·rw [show rdT (A.map Sy.row) cs s0 0=[] from hs9] at hne
    exact absurd rfl hne
  ·have h:=NRead_any N A d i0 cs s0 ca aN aA cc cN cA w hG hn.hn (by omega) (by omega) hd (by omega) (fun q hq=>by
    obtain ⟨x,hx,rfl⟩:=List.mem_map.1 hq
    exact ⟨(hn.rA x hx).2.1,fun y hy=>fit9 ((hn.rA x hx).2.2 y hy)⟩) ⟨hs2.1,fun y hy=>fit9 (hs2.2 y hy)⟩ hc (by omega) i4 i2 hs1 (fun j c hj hcd=>by
    have h1:=hbd j (by omega) c hcd
    have h2:=hn.rowA j hj
    obtain ⟨x,h3,h4⟩:=get_lt (show c < (rowAt (A.map Sy.row) j).length by rw [h2.1]; exact hcd)
    rw [h3]
    have h5:j * 9000000000≤3 * 9000000000:=Nat.mul_le_mul_right _ (by omega)
    exact ⟨⟨by omega,by omega⟩,ti9 (h2.2 x h4)⟩) (fun x hx=>by
    obtain ⟨c,hc9,e⟩:=List.getElem_of_mem hx
    have hlen:=rdT_len (cs:=cs) hs2.1 (fun j hj=>(hn.rowA j hj).1) d (Nat.le_refl _)
    have h1:=hbd d (Nat.le_refl _) c (by omega)
    rw [List.getElem?_eq_getElem hc9,e] at h1
    have h1:x.natAbs≤9+d * 9000000000:=h1
    have h5:d * 9000000000≤3 * 9000000000:=Nat.mul_le_mul_right _ d3
    exact ⟨by omega,by omega⟩) (by rw [hM,hd]; exact hck)
   rw [hM,hd,show d=m by omega] at h
   rw [show d=m by omega]
   refine h.mono fun e w' hr=>⟨fun hz=>?_,fun hne=>?_⟩
   ·have hall:(rdT (A.map Sy.row) cs s0 m).all fitB=true:=by
     cases hq:(rdT (A.map Sy.row) cs s0 m).all fitB with
     | true=>rfl
     | false=>rw [hq] at hz; cases hz
    obtain ⟨g,c,e1,e2,e3,e4⟩:=hr.1 hall
    exact ⟨_,c,e1,e2,e3,e4⟩
   ·cases hq:(rdT (A.map Sy.row) cs s0 m).all fitB with
    | true=>rw [hq] at hne; exact absurd rfl hne
    | false=>exact hr.2 hq
 ·have hE:rdE N A i cs=spE N A i cs:=by unfold rdE; rw [if_pos h0]
  have h:=NRead_err N A M d m i cs ca aN aA cc cN cA w hc hm hM hd hl (by omega) (by omega) _ rfl h0 hck
  unfold RdAll
  rw [hE]
  exact h.mono fun e w' hr=>⟨fun hz=>absurd hz h0,fun _=>hr⟩
theorem nomsD_nms (d:Nat) (L:List (List Int)):(nomsD d L).map Prod.fst=(List.range (nomsD d L).length).map nmD:=by
 unfold nomsD
 split
 ·rfl
 ·refine List.ext_getElem? (fun i=>?_)
  rw [List.getElem?_map,List.getElem?_mapIdx,List.getElem?_map,List.length_mapIdx]
  by_cases hi:i < (L.take 8).length
  ·rw [List.getElem?_eq_getElem hi,List.getElem?_range hi]; rfl
  ·rw [List.getElem?_eq_none (by omega),List.getElem?_eq_none (by rw [List.length_range]; omega)]; rfl
theorem nt42_of {w:World} {aN aA:Option Addr} {cN cA d r:Nat} {N A:List Sy} {L B:List (List Int)} (hn:NotIs w aN aA cA N A) (hN:bare N=nomsD d L) (hA:bare A=accsD d B) (d3:d≤3) (hL:Tri8 L) (hB:Tri8 B) (hBl:B.length=3) (hf:nchkE N A r=0) (hr:r≤d) (hred:r=d→(∃ Fq,redTo (((accsD d B).map Prod.snd).map qrow) d=some Fq∧Fq.lead.length=d)∧detM ((accsD d B).map Prod.snd)≠0):Nt42 w aN aA cN cA N.length d N A:=by
 have hd:A.length=d:=by rw [← bare_len,hA]; unfold accsD; rw [List.length_map,List.length_range]
 have hpA:=accsD_ok d3 hB hBl
 have hpN:=nomsD_ok (d:=d) d3 hL
 have hrd:r=d:=by
  have h:=hf
  unfold nchkE at h
  split at h
  ·cases h
  ·split at h
   ·cases h
   ·split at h
    ·rename_i h1 h2 h3; exact absurd h h3
    ·split at h
     ·cases h
     ·omega
 have hm:1≤N.length∧N.length≤8:=by
  rw [← bare_len,hN]
  unfold nomsD
  split
  ·exact ⟨Nat.le_refl _,by simp⟩
  ·rename_i h
   rw [List.length_mapIdx,List.length_take]
   have:=List.length_pos_iff.2 h
   omega
 refine ⟨hn,rfl,hd,d3,hm.1,hm.2,fun x hx=>?_,fun x hx=>?_,by rw [← hrd]; exact hf, ?_, ?_, ?_, ?_⟩
 ·obtain ⟨h1,h2,h3⟩:=hpN _ (by rw [← hN]; exact bare_mem rfl hx)
  exact ⟨h1,h2,h3⟩
 ·obtain ⟨h1,h2,h3⟩:=hpA _ (by rw [← hA]; exact bare_mem rfl hx)
  exact ⟨h1,h2,h3⟩
 ·have:=(hred hrd).1
  rw [← hA,bare_rows] at this
  exact this
 ·have:=(hred hrd).2
  rw [← hA,bare_rows] at this
  exact this
 ·rw [← bare_nms,hN,← bare_len,hN]; exact nomsD_nms d L
 ·rw [← bare_nms,hA]; unfold accsD; rw [List.map_map]; rfl
end Go.Proofs.YtkjemicelmabdaaGreatDoor
