/- Contracts and laws: VLR. -/
import Derived.Test.YtmalpgbbddkdcaaGreatDoorVLA
import Derived.Test.YtmalpgbbddkdcaaGreatDoorVD
import Derived.Test.YtmalpgbbddkdcaaGreatDoorVSG

set_option maxRecDepth 100000
set_option maxHeartbeats 4000000
namespace Go.Proofs.YtmalpgbbddkdcaaGreatDoor
open Go.RowKit Go.Lib
attribute [local go_sem ↓] Go.wp_at_zero Go.wp_at_succ
theorem two_heap {W:World} {b:Nat} {x y:Value} {t:TypeId} (h:W.heap[b]?=some (.cells #[x,y] t (0,0))) (u v:Value):((W.setCell ⟨b,0,none⟩ u).setCell ⟨b,1,none⟩ v).heap[b]?=some (.cells #[u,v] t (0,0)):=by
 have e1:(W.setCell ⟨b,0,none⟩ u).heap[b]?=some (.cells #[u,y] t (0,0)):=by
  unfold World.setCell
  rw [Array.getElem?_modify,if_pos rfl,h]; rfl
 unfold World.setCell at e1 ⊢
 rw [Array.getElem?_modify,if_pos rfl,e1]; rfl
def partS (N A:List Sy) (s:Nat×List Int) (c j:Nat):Int:=((sumL (rowOf N s.1) (s.2.take j) ((A.map Sy.row).take j))[c]?).getD 0
theorem partS_zero {N A:List Sy} {i c:Nat} {x:Sy} {cs:List Int} {v:Int} (hx:N[i]?=some x) (hv:x.row[c]?=some v):partS N A (i,cs) c 0=v:=by
 unfold partS
 rw [List.take_zero]
 show ((sumL (rowOf N i) [] _)[c]?).getD 0=v
 rw [show sumL (rowOf N i) [] ((A.map Sy.row).take 0)=rowOf N i by rw [List.take_zero]; rfl,rowOf_eq hx,hv]; rfl
theorem partS_step {N A:List Sy} {i c j d:Nat} {x s:Sy} {cs:List Int} {k y:Int} (hx:N[i]?=some x) (hxd:x.row.length=d) (hA:∀ s,s ∈ A→s.row.length=d) (hc:c < d) (hk:cs[j]?=some k) (hs:A[j]?=some s) (hy:s.row[c]?=some y) :
 partS N A (i,cs) c (j+1)=partS N A (i,cs) c j+k * y:=by
 unfold partS
 have hsr:(A.map Sy.row)[j]?=some s.row:=by rw [List.getElem?_map,hs]; rfl
 have hl:=sumL_length d (cs.take j) ((A.map Sy.row).take j) (rowOf N i) (by rw [rowOf_eq hx]; exact hxd) (fun r hr=>by obtain ⟨t,ht,rfl⟩:=List.mem_map.1 (List.mem_of_mem_take hr); exact hA t ht)
 show ((sumL (rowOf N i) (cs.take (j+1)) ((A.map Sy.row).take (j+1)))[c]?).getD 0=((sumL (rowOf N i) (cs.take j) ((A.map Sy.row).take j))[c]?).getD 0+k * y
 rw [sumL_step (rowOf N i) cs (A.map Sy.row) j k s.row hk hsr]
 generalize sumL (rowOf N i) (cs.take j) ((A.map Sy.row).take j)=R at *
 have hR:=List.getElem?_eq_getElem (l:=R) (i:=c) (by omega)
 rw [addK_get hR hy,hR]; rfl
theorem partS_end {N A:List Sy} {i c:Nat} {cs:List Int} {L:List Int} (hL:L=sumS N A (i,cs)) (hl:cs.length=A.length) (hc:c < L.length):L[c]?=some (partS N A (i,cs) c cs.length):=by
 unfold partS
 rw [List.take_length,List.take_of_length_le (by rw [List.length_map]; omega)]
 show L[c]?=some (((sumL (rowOf N i) cs (A.map Sy.row))[c]?).getD 0)
 have e:sumL (rowOf N i) cs (A.map Sy.row)=L:=hL.symm
 rw [e,List.getElem?_eq_getElem hc]; rfl
theorem partS_bd {N A:List Sy} {i c:Nat} {x:Sy} {cs:List Int} (hx:N[i]?=some x) (hf:∀ y,y ∈ x.row→fitB y=true) (hA:∀ s,s ∈ A→∀ y,y ∈ s.row→fitB y=true) (hcs:∀ k,k ∈ cs→fitB k=true) (hl:cs.length≤6) (j:Nat):-10000000000000000000≤partS N A (i,cs) c j∧partS N A (i,cs) c j≤10000000000000000000:=by
 unfold partS
 have h:=sumL_bd (cs.take j) ((A.map Sy.row).take j) (rowOf N i) 1000000000 (fun y hy=>by rw [rowOf_eq hx] at hy; exact fitB_bd (hf y hy)) (fun k hk=>hcs k (List.mem_of_mem_take hk)) (fun r hr=>by obtain ⟨t,ht,rfl⟩:=List.mem_map.1 (List.mem_of_mem_take hr); exact hA t ht)
 show -10000000000000000000≤((sumL (rowOf N i) (cs.take j) ((A.map Sy.row).take j))[c]?).getD 0∧((sumL (rowOf N i) (cs.take j) ((A.map Sy.row).take j))[c]?).getD 0≤10000000000000000000
 cases e:(sumL (rowOf N i) (cs.take j) ((A.map Sy.row).take j))[c]? with
 | none=>show (-10000000000000000000:Int)≤0∧(0:Int)≤10000000000000000000; omega
 | some v=>
   have h1:=h v (List.mem_of_getElem? e)
   have h2:(cs.take j).length≤6:=by rw [List.length_take]; omega
   show -10000000000000000000≤v∧v≤10000000000000000000
   omega
theorem read_law (d:Nat) (aN aA:Option Addr) (cN cA:Nat) (N A:List Sy) (i:Nat) (cs:List Int) (ca:Option Addr) (cc:Nat) (w:World) (hG:G w) (hn:NotIs w aN aA cA N A) (hok:NotOk d N A) (hi:i < N.length) (hcs:El w iv ca cs) (hl:cs.length=A.length) (hfit:∀ x,x ∈ cs→fitB x=true) :
 Calls Tryz.prog 74 #[.agg #[.slice aN N.length cN,.slice aA A.length cA],.agg #[.int .i64 i,.slice ca cs.length cc]] w (IntsRet w (sumS N A (i,cs))):=by
 obtain ⟨i0,hi9,hz0,hz1,hz2⟩:=info_parts info65
 obtain ⟨x,hx⟩:∃ x,N[i]?=some x:=⟨_,List.getElem?_eq_getElem hi⟩
 obtain ⟨x0,hx0⟩:∃ x0,N[0]?=some x0:=⟨_,List.getElem?_eq_getElem (by omega)⟩
 have hxd:=hok.row x (List.mem_append_left _ (List.mem_of_getElem? hx))
 have hx0d:=hok.row x0 (List.mem_append_left _ (List.mem_of_getElem? hx0))
 obtain ⟨nn,hnn⟩:∃ nn,nn=N.length:=⟨_,rfl⟩
 obtain ⟨na,hna⟩:∃ na,na=A.length:=⟨_,rfl⟩
 have hnn60:=hok.n60
 have hna6:=hok.a6
 have hd12:=hok.d12
 rw [← hnn] at hi hnn60
 rw [← hna] at hna6 hl
 rw [hl,← hnn,← hna]
 obtain ⟨wb,hwb⟩:∃ wb,wb=alls w [(.cells #[.slice aN nn cN,.slice aA na cA] 72),(.cells #[.int .i64 i,.slice ca na cc] 76)]:=⟨_,rfl⟩
 have g0:wb.heap[w.heap.size]?=some (.cells #[.slice aN nn cN,.slice aA na cA] 72 (0,0)):=by rw [hwb]; exact alls_get _ w 0 _ rfl
 have g1:wb.heap[w.heap.size+1]?=some (.cells #[.int .i64 i,.slice ca na cc] 76 (0,0)):=by rw [hwb]; exact alls_get _ w 1 _ rfl
 have hfb:Fr w wb:=by rw [hwb]; exact alls_fr _ w
 have hsb:=hZ (show wb.heap.size=w.heap.size+1+1 by rw [hwb]; simp [alls])
 have b0:wb.cell? ⟨w.heap.size,0,none⟩=some (.slice aN nn cN):=cells_of g0 0
 have b1:wb.cell? ⟨w.heap.size,1,none⟩=some (.slice aA na cA):=cells_of g0 1
 have b2:wb.cell? ⟨w.heap.size+1,0,none⟩=some (.int .i64 i):=cells_of g1 0
 have b3:wb.cell? ⟨w.heap.size+1,1,none⟩=some (.slice ca na cc):=cells_of g1 1
 clear g0 g1
 obtain ⟨nb,no,y,hae,-,hy,n0,n1,hye⟩:=hn.noms.at (i:=i) (by rw [← hnn]; exact hi)
 rw [hx] at hy; injection hy with hy; subst hy
 obtain ⟨nb',no',y,hae',-,hy,m0,m1,-⟩:=hn.noms.at (i:=0) (by rw [← hnn]; omega)
 rw [hx0] at hy; injection hy with hy; subst hy
 rw [hae] at hae'; injection hae' with hae'; injection hae' with e1 e2
 subst e1; subst e2
 subst hae
 rw [hxd] at n1
 rw [hx0d] at m1
 replace n1:=hfb.keep n1
 replace m1:=hfb.keep m1
 rw [show no+0 * 2+1=no+1 by omega] at m1
 have hsumd:=sumL_length d cs (A.map Sy.row) (rowOf N i) (by rw [rowOf_eq hx]; exact hxd) (fun r hr=>by obtain ⟨s,hs,rfl⟩:=List.mem_map.1 hr; exact hok.row s (List.mem_append_right _ hs))
 obtain ⟨L,hL⟩:∃ L,L=sumS N A (i,cs):=⟨_,rfl⟩
 have hLd:L.length=d:=by rw [hL]; exact hsumd
 rw [← hL]
 replace hL:=hZ hL
 replace hLd:=hZ hLd
 replace hn:=hZ hn
 replace hok:=hZ hok
 replace hx:=hZ hx
 replace hx0:=hZ hx0
 replace hl:=hZ hl
 replace hnn:=hZ hnn
 replace hna:=hZ hna
 replace hfit:=hZ hfit
 replace hcs:=hZ hcs
 clear hsumd hxd hx0d n0 m0
 have hb1:=hZ b1
 have hb3:=hZ b3
 have z0:(0:Int)≤(i:Int):=by omega
 have z1:(i:Int) < (nn:Int):=by omega
 have z2:0 < nn:=by omega
 go_enter Tryz.func74,Tryz.ntmps74
 go_upto_region 1 with (fail)
 change Code.wp _ _ _ _ (alls w [(.cells #[.slice _ nn cN,.slice aA na cA] 72),(.cells #[.int .i64 i,.slice ca na cc] 76)])
 rw [← hwb]
 clear hwb
 go_wp2_with fail
 go_loopg [5,16] d (fun gk s5 s16 wr=>∃ c:Nat,s16=.int .i64 c∧c+gk=d∧Fr wb wr∧Hid (wr.ownsRow wb.heap.size 114 1 s5 c ((L.take c).map sv)))
 case atStart=>exact ⟨0,rfl,by omega,Fr.refl _,World.ownsRow_nil _ _ _ _⟩
 case round=>
  obtain ⟨c,rfl,hck,hf,hown⟩:=hrel
  replace b0:=hf.keep b0
  replace b1:=hf.keep b1
  replace b2:=hf.keep b2
  replace b3:=hf.keep b3
  replace n1:=hf.keep n1
  by_cases hc:c < d
  ·have d1:decide (c < d)=true:=decide_eq_true hc
   have hxd:=hok.out.row x (List.mem_append_left _ (List.mem_of_getElem? hx.out))
   obtain ⟨rb,ro,v,hra,-,hxv,hrc⟩:=(hye.fr (hfb.trans hf)).at (i:=c) (by rw [hxd]; exact hc)
   rw [hra] at n1
   have hv:=fitB_bd (hok.out.fit x (List.mem_append_left _ (List.mem_of_getElem? hx.out)) v (List.mem_of_getElem? hxv))
   have hof:=hZ (OfRL_any v (by omega) (by omega) wr (hG.fr (hfb.trans hf)))
   have hp0:=hZ (partS_zero (A:=A) (cs:=cs) hx.out hxv)
   have y0:(0:Int)≤(c:Int):=by omega
   have y1:(c:Int) < (d:Int):=by omega
   clear hxd hv
   replace hxv:=hZ hxv
   go_wp2_with fail
   refine hof.out.mono ?_
   rintro e w2 ⟨r,rfl,hr,hf2⟩
   have hr2:=hr
   obtain ⟨sa,sc,rfl,-,-⟩:=hr2
   have b1':=hf2.keep b1
   replace hr:=hZ hr
   obtain ⟨w3,hw3⟩:∃ w3,w3=w2.alloc (.cells #[.bool (decide (v < 0)),.slice sa (digs v.natAbs).length sc] 194):=⟨_,rfl⟩
   have hf3:Fr w2 w3:=by rw [hw3]; exact (Fr.refl _).alloc _
   have g3:w3.heap[w2.heap.size]?=some (.cells #[.bool (decide (v < 0)),.slice sa (digs v.natAbs).length sc] 194 (0,0)):=by rw [hw3]; exact heap_alloc_new _ _
   have hfB:Fr wb w3:=(hf.trans hf2).trans hf3
   have hsz2:wb.heap.size≤w2.heap.size:=(hf.trans hf2).size
   rw [hsb.out] at hsz2
   replace g3:=hZ g3
   have hr3:=hZ (hr.out.fr hf3)
   go_upto_region 6 with (fail)
   change Code.wp _ _ _ _ (w2.alloc (.cells #[.bool (decide (v < 0)),.slice sa (digs v.natAbs).length sc] 194))
   rw [← hw3]
   clear hw3
   have b1'':=hf3.keep b1'
   obtain ⟨ko,rfl⟩:∃ ko:Nat,ko=gk:=⟨_,rfl⟩
   obtain ⟨wo,rfl⟩:∃ wo:World,wo=wr:=⟨_,rfl⟩
   go_wp2_with fail
   go_loopg [33] na (fun gk s33 wr2=>∃ (j:Nat) (bv:Bool) (sa:Option Addr) (sn sc:Nat),s33=.int .i64 j∧j+gk=na∧Fx (·=w2.heap.size) w3 wr2∧Hid (wr2.heap[w2.heap.size]?=some (.cells #[.bool bv,.slice sa sn sc] 194 (0,0)))∧Hid (WI wr2 (partS N A (i,cs) c j) (.agg #[.bool bv,.slice sa sn sc])))
   case atStart=>exact ⟨0,_,_,_,_,rfl,by omega,Fx.refl _ _,g3,by rw [hp0.out]; exact hr3⟩
   case round=>
    clear g3 hr3 b0 b1 b2 b3 b1' b1''
    obtain ⟨j,bv,sa,sn,sc,rfl,hjk,hfx,g3,hr3⟩:=hrel
    have hfW:Fr wb wr:=((Fx.of_fr hfB).trans hfx).toFr (fun k hk e=>by have e:k=w2.heap.size:=e; have:=hsb.out; omega)
    have c1:=hfW.keep hb1.out
    have c3:=hfW.keep hb3.out
    by_cases hj:j < na
    ·have dj:decide (j < na)=true:=decide_eq_true hj
     obtain ⟨ab,ao,s,rfl,-,hs,s0,s1,hse⟩:=(hn.out.accs.fr (hfb.trans hfW)).at (i:=j) (by rw [← hna.out]; exact hj)
     have hsd:=hok.out.row s (List.mem_append_right _ (List.mem_of_getElem? hs))
     rw [hsd] at s1
     obtain ⟨cb,co,k,rfl,-,hk,hkc⟩:=(hcs.out.fr (hfb.trans hfW)).at (i:=j) (by rw [hl.out]; exact hj)
     obtain ⟨qb,qo,y,hsra,-,hy,hyc⟩:=hse.at (i:=c) (by rw [hsd]; exact hc)
     rw [hsra] at s1
     have hkb:=fitB_bd (hfit.out k (List.mem_of_getElem? hk))
     have hyb:=fitB_bd (hok.out.fit s (List.mem_append_right _ (List.mem_of_getElem? hs)) y (List.mem_of_getElem? hy))
     have hps:=hZ (partS_step (c:=c) hx.out (hok.out.row x (List.mem_append_left _ (List.mem_of_getElem? hx.out))) (fun s hs=>hok.out.row s (List.mem_append_right _ hs)) hc hk hs hy)
     have hpb:=hZ (partS_bd (c:=c) hx.out (hok.out.fit x (List.mem_append_left _ (List.mem_of_getElem? hx.out))) (fun s hs=>hok.out.fit s (List.mem_append_right _ hs)) hfit.out (by have:=hl.out; omega) j)
     generalize partS N A (i,cs) c j=z at *
     have t0:(0:Int)≤(j:Int):=by omega
     have t1:(j:Int) < (na:Int):=by omega
     replace hs:=hZ hs
     replace hk:=hZ hk
     replace hy:=hZ hy
     replace hsra:=hZ hsra
     clear hsd
     obtain ⟨nm,hnm⟩:∃ nm,nm=s.nm:=⟨_,rfl⟩
     rw [← hnm] at s0
     replace hnm:=hZ hnm
     go_upto_region 9 with (fail)
     obtain ⟨w4,hw4⟩:∃ w4,w4=wr.alloc (Obj.cells #[Value.string nm,Value.slice (some { block:=qb,off:=qo }) d s.rc] 80):=⟨_,rfl⟩
     have hf4:Fr wr w4:=by rw [hw4]; exact (Fr.refl _).alloc _
     have x1:w4.cell? ⟨wr.heap.size,1,none⟩=some (.slice (some ⟨qb,qo,none⟩) d s.rc):=by rw [hw4]; exact (new2b _ _ _ _).1
     rw [← hw4]
     replace hw4:=hZ hw4
     replace c3:=hf4.keep c3
     replace hkc:=hf4.keep hkc
     replace hyc:=hf4.keep hyc
     have q0:w4.cell? ⟨w2.heap.size,0,none⟩=some (.bool bv):=hf4.keep (cells_of g3.out 0)
     have q1:w4.cell? ⟨w2.heap.size,1,none⟩=some (.slice sa sn sc):=hf4.keep (cells_of g3.out 1)
     have hS0:=hZ (fun W (hW:Fr w4 W)=>(⟨hW.keep q0,hW.keep q1,hW.keep c3,hW.keep hkc,hW.keep x1,hW.keep hyc⟩:W.cell? ⟨w2.heap.size,0,none⟩=some (.bool bv)∧W.cell? ⟨w2.heap.size,1,none⟩=some (.slice sa sn sc)∧W.cell? ⟨w.heap.size+1,1,none⟩=some (.slice (some ⟨cb,co,none⟩) na cc)∧W.cell? ⟨cb,co+j,none⟩=some (iv k)∧W.cell? ⟨wr.heap.size,1,none⟩=some (.slice (some ⟨qb,qo,none⟩) d s.rc)∧W.cell? ⟨qb,qo+c,none⟩=some (iv y)))
     refine wp_region_T (S:=fun W=>W.cell? ⟨w2.heap.size,0,none⟩=some (.bool bv)∧W.cell? ⟨w2.heap.size,1,none⟩=some (.slice sa sn sc)∧W.cell? ⟨w.heap.size+1,1,none⟩=some (.slice (some ⟨cb,co,none⟩) na cc)∧W.cell? ⟨cb,co+j,none⟩=some (iv k)∧W.cell? ⟨wr.heap.size,1,none⟩=some (.slice (some ⟨qb,qo,none⟩) d s.rc)∧W.cell? ⟨qb,qo+c,none⟩=some (iv y)) 15 (by kernel_rfl) (hS0.out _ ((Fr.refl _).drew)) (fun hHeld=>?_)
     refine wpAnyT_take (i:=0) (v:=?_) rfl (by kernel_rfl) (by decide) (by kernel_rfl) (by kernel_rfl) (by kernel_rfl) (fun _ _ _ h=>h) (Or.inl ⟨by rfl, ?_⟩) (by assumption) ?_
     rotate_left
     ·(intro w hSw; (try dsimp only at hSw); go_simp; try (with_reducible rfl))
     change wpAnyT _ _ _ _ _ _ _ _ (Act.put _ (some 38) _) _
     simp only [Act.put,List.setIfInBounds_toArray,List.set_cons_zero,List.set_cons_succ]
     refine wpAnyT_take (i:=1) (v:=?_) rfl (by kernel_rfl) (by decide) (by kernel_rfl) (by kernel_rfl) (by kernel_rfl) (fun _ _ _ h=>h) (Or.inl ⟨by rfl, ?_⟩) (by assumption) ?_
     rotate_left
     ·(intro w hSw; (try dsimp only at hSw); go_simp; try (with_reducible rfl))
     change wpAnyT _ _ _ _ _ _ _ _ (Act.put _ (some 39) _) _
     simp only [Act.put,List.setIfInBounds_toArray,List.set_cons_zero,List.set_cons_succ]
     refine wpAnyT_take (i:=2) (v:=?_) rfl (by kernel_rfl) (by decide) (by kernel_rfl) (by kernel_rfl) (by kernel_rfl) (fun _ _ _ h=>h) (Or.inl ⟨by rfl, ?_⟩) (by assumption) ?_
     rotate_left
     ·(intro w hSw; (try dsimp only at hSw); go_simp; try (with_reducible rfl))
     change wpAnyT _ _ _ _ _ _ _ _ (Act.put _ (some 40) _) _
     simp only [Act.put,List.setIfInBounds_toArray,List.set_cons_zero,List.set_cons_succ]
     refine wpAnyT_take (i:=3) (v:=?_) rfl (by kernel_rfl) (by decide) (by kernel_rfl) (by kernel_rfl) (by kernel_rfl) (fun _ _ _ h=>h) (Or.inl ⟨by rfl, ?_⟩) (by assumption) ?_
     rotate_left
     ·(intro w hSw; (try dsimp only at hSw); go_simp; try (with_reducible rfl))
     change wpAnyT _ _ _ _ _ _ _ _ (Act.put _ (some 41) _) _
     simp only [Act.put,List.setIfInBounds_toArray,List.set_cons_zero,List.set_cons_succ]
     refine wpAnyT_take (i:=4) (v:=?_) rfl (by kernel_rfl) (by decide) (by kernel_rfl) (by kernel_rfl) (by kernel_rfl) (fun _ _ _ h=>h) (Or.inl ⟨by rfl, ?_⟩) (by assumption) ?_
     rotate_left
     ·(intro w hSw; (try dsimp only at hSw); go_simp; try (with_reducible rfl))
     change wpAnyT _ _ _ _ _ _ _ _ (Act.put _ (some 42) _) _
     simp only [Act.put,List.setIfInBounds_toArray,List.set_cons_zero,List.set_cons_succ]
     refine wpAnyT_take (i:=5) (v:=?_) rfl (by kernel_rfl) (by decide) (by kernel_rfl) (by kernel_rfl) (by kernel_rfl) (fun _ _ _ h=>h) (Or.inl ⟨by rfl, ?_⟩) (by assumption) ?_
     rotate_left
     ·(intro w hSw; (try dsimp only at hSw); go_simp; try (with_reducible rfl))
     change wpAnyT _ _ _ _ _ _ _ _ (Act.put _ (some 43) _) _
     simp only [Act.put,List.setIfInBounds_toArray,List.set_cons_zero,List.set_cons_succ]
     refine wpAnyT_take (i:=7) (v:=?_) rfl (by kernel_rfl) (by decide) (by kernel_rfl) (by kernel_rfl) (by kernel_rfl) (fun _ _ _ h=>h) (Or.inl ⟨by rfl, ?_⟩) (by assumption) ?_
     rotate_left
     ·(intro w hSw; (try dsimp only at hSw); go_simp; try (with_reducible rfl))
     change wpAnyT _ _ _ _ _ _ _ _ (Act.put _ (some 45) _) _
     simp only [Act.put,List.setIfInBounds_toArray,List.set_cons_zero,List.set_cons_succ]
     refine wpAnyT_take (i:=8) (v:=?_) rfl (by kernel_rfl) (by decide) (by kernel_rfl) (by kernel_rfl) (by kernel_rfl) (fun _ _ _ h=>h) (Or.inl ⟨by rfl, ?_⟩) (by assumption) ?_
     rotate_left
     ·(intro w hSw; (try dsimp only at hSw); go_simp; try (with_reducible rfl))
     change wpAnyT _ _ _ _ _ _ _ _ (Act.put _ (some 46) _) _
     simp only [Act.put,List.setIfInBounds_toArray,List.set_cons_zero,List.set_cons_succ]
     refine wpAnyT_take (i:=9) (v:=?_) rfl (by kernel_rfl) (by decide) (by kernel_rfl) (by kernel_rfl) (by kernel_rfl) (fun _ _ _ h=>h) (Or.inl ⟨by rfl, ?_⟩) (by assumption) ?_
     rotate_left
     ·(intro w hSw; (try dsimp only at hSw); go_simp; try (with_reducible rfl))
     change wpAnyT _ _ _ _ _ _ _ _ (Act.put _ (some 47) _) _
     simp only [Act.put,List.setIfInBounds_toArray,List.set_cons_zero,List.set_cons_succ]
     refine wpAnyT_take (i:=10) (v:=?_) rfl (by kernel_rfl) (by decide) (by kernel_rfl) (by kernel_rfl) (by kernel_rfl) (fun _ _ _ h=>h) (Or.inl ⟨by rfl, ?_⟩) (by assumption) ?_
     rotate_left
     ·(intro w hSw; (try dsimp only at hSw); go_simp; try (with_reducible rfl))
     change wpAnyT _ _ _ _ _ _ _ _ (Act.put _ (some 48) _) _
     simp only [Act.put,List.setIfInBounds_toArray,List.set_cons_zero,List.set_cons_succ]
     refine wpAnyT_take (i:=11) (v:=?_) rfl (by kernel_rfl) (by decide) (by kernel_rfl) (by kernel_rfl) (by kernel_rfl) (fun _ _ _ h=>h) (Or.inl ⟨by rfl, ?_⟩) (by assumption) ?_
     rotate_left
     ·(intro w hSw; (try dsimp only at hSw); go_simp; try (with_reducible rfl))
     change wpAnyT _ _ _ _ _ _ _ _ (Act.put _ (some 49) _) _
     simp only [Act.put,List.setIfInBounds_toArray,List.set_cons_zero,List.set_cons_succ]
     have hk9:=hZ (fun W (hW:Fr w4 W)=>OfRL_any k (by omega) (by omega) W (hG.fr (((hfb.trans hfW).trans hf4).trans hW)))
     have hy9:=hZ (fun W (hW:Fr w4 W)=>OfRL_any y (by omega) (by omega) W (hG.fr (((hfb.trans hfW).trans hf4).trans hW)))
     have hkd:=digs_len 2 k.natAbs (by omega)
     have hyd:=digs_len 2 y.natAbs (by omega)
     have hkyd:=mul_e18 hkb hyb
     have hkyd2:=digs_len 3 (k * y).natAbs (by omega)
     have hzd:=digs_len 3 z.natAbs (by have:=hpb.out; omega)
     have hzd2:=digs_len 3 (z.natAbs+(k * y).natAbs) (by have:=hpb.out; omega)
     have hm9:=hZ (fun W u v (h1:WI W k u) (h2:WI W y v)=>MulW_any k y u v W h1 h2 (by omega) (by omega))
     have ha9:=hZ (fun W u (hW:Fr w4 W) (h1:WI W (k * y) u)=>AddW_any z (k * y) _ u W (hr3.out.fr (hf4.trans hW)) h1 (by omega) (by omega) (by omega))
     clear hkd hyd hkyd hkyd2 hzd hzd2
     refine wpAnyT_ready (rs:=[6]) (by kernel_rfl) (by simp) ?_
     refine AllReadyT.cons rfl (by decide) (fun K hK=>?_) AllReadyT.nil
     go_simp
     (refine (hk9.out _ (by exact fr9)).mono ?_; rintro e w5 ⟨r1,rfl,hr1,hf5⟩; replace hr1:=hZ hr1)
     go_wp2_with fail
     refine hK.out _ _ (hS0.out _ (by exact fr9)) (fun hHeld=>?_)
     clear hK K
     try simp only [Act.put,List.setIfInBounds_toArray,List.set_cons_zero,List.set_cons_succ]
     refine wpAnyT_ready (rs:=[12]) (by kernel_rfl) (by simp) ?_
     refine AllReadyT.cons rfl (by decide) (fun K hK=>?_) AllReadyT.nil
     go_simp
     (refine (hy9.out _ (by exact fr9)).mono ?_; rintro e w6 ⟨r2,rfl,hr2,hf6⟩; replace hr2:=hZ hr2)
     go_wp2_with fail
     refine hK.out _ _ (hS0.out _ (by exact fr9)) (fun hHeld=>?_)
     clear hK K
     try simp only [Act.put,List.setIfInBounds_toArray,List.set_cons_zero,List.set_cons_succ]
     refine wpAnyT_ready (rs:=[13]) (by kernel_rfl) (by simp) ?_
     refine AllReadyT.cons rfl (by decide) (fun K hK=>?_) AllReadyT.nil
     go_simp
     (refine (hm9.out _ _ _ (hr1.out.fr hf6) hr2.out).mono ?_; rintro e w7 ⟨r3,rfl,hr5,hf7⟩; replace hr5:=hZ hr5)
     go_wp2_with fail
     refine hK.out _ _ (hS0.out _ (by exact fr9)) (fun hHeld=>?_)
     clear hK K
     try simp only [Act.put,List.setIfInBounds_toArray,List.set_cons_zero,List.set_cons_succ]
     refine wpAnyT_ready (rs:=[14]) (by kernel_rfl) (by simp) ?_
     refine AllReadyT.cons rfl (by decide) (fun K hK=>?_) AllReadyT.nil
     go_simp
     (refine (ha9.out _ _ (by exact fr9) hr5.out).mono ?_; rintro e w8 ⟨r4,rfl,hr6,hf8⟩)
     go_wp2_with fail
     refine hK.out _ _ (hS0.out _ (by exact fr9)) (fun hHeld=>?_)
     clear hK K
     try simp only [Act.put,List.setIfInBounds_toArray,List.set_cons_zero,List.set_cons_succ]
     have hf48:Fr w4 w8:=by exact fr9
     have hfr8:Fr wr w8:=hf4.trans hf48
     have hr6':=hr6
     obtain ⟨sa6,sc6,rfl,-,-⟩:=hr6'
     have g8:=(Below.block hfr8 _ (lt_of_heap g3.out)).trans g3.out
     have u0:w8.cell? ⟨w2.heap.size,0,none⟩=some (.bool bv):=cells_of g8 0
     have u1:w8.cell? ⟨w2.heap.size,1,none⟩=some (.slice sa sn sc):=cells_of g8 1
     have u2:w8.frozen? ⟨w2.heap.size,0,none⟩=false:=by unfold World.frozen?; rw [g8]; rfl
     have u3:w8.frozen? ⟨w2.heap.size,1,none⟩=false:=by unfold World.frozen?; rw [g8]; rfl
     replace hr6:=hZ hr6
     replace g8:=hZ g8
     have qs:=two_store w8 w2.heap.size (.bool (decide (z+k * y < 0))) (.slice sa6 (digs (z+k * y).natAbs).length sc6) _ _ u0 u1
     have q8:=qs.2.2.1
     have qs:=hZ qs
     refine wpAnyT_ready (rs:=[15]) (by kernel_rfl) (by simp) ?_
     refine AllReadyT.last rfl (by kernel_rfl) (fun K hK=>?_)
     go_simp
     refine hK.out _ _ ?_
     clear hK K
     have g9:=hZ (two_heap g8.out (.bool (decide (z+k * y < 0))) (.slice sa6 (digs (z+k * y).natAbs).length sc6))
     have hw9:=WI.storedc (hfb.trans hfW) hfr8 qs.out.2.2.2 (by omega) hr6.out g8.out
     have hfx9:Fx (·=w2.heap.size) w3 _:=(hfx.fr hfr8).trans qs.out.2.2.2
     replace hw9:=hZ hw9.1
     clear qs u0 u1 u2 u3 q8 hHeld
     go_wp2_with fail
     go_roundg (gk - 1)
     case measure=>omega
     case rel=>exact ⟨j+1,_,_,_,_,by go_num,by omega,hfx9,g9,by rw [hps.out]; exact hw9⟩
    ·obtain rfl:j=na:=by omega
     have dj:decide (j < j)=false:=decide_eq_false hj
     have hend:=hZ (partS_end hL.out (by rw [hl.out]; exact hna.out) (by rw [hLd.out]; exact hc))
     rw [hl.out] at hend
     have hpb:=hZ (partS_bd (c:=c) hx.out (hok.out.fit x (List.mem_append_left _ (List.mem_of_getElem? hx.out))) (fun s hs=>hok.out.fit s (List.mem_append_right _ hs)) hfit.out (by have:=hl.out; omega) j)
     generalize partS N A (i,cs) c j=z at *
     have hzd:=digs_len 3 z.natAbs (by have:=hpb.out; omega)
     have hfr9:=hZ (From_any z _ wr (hG.fr (hfb.trans hfW)) hr3.out (by omega))
     have hown2:=ownsRow_fr hown.out (hf2.trans hf3)
     have hne:∀ g,u5.ownBlock=some g→g≠w2.heap.size:=fun g hg e=>by have h9:=((ownsRow_fr hown.out hf2).lt g hg).2; omega
     have hown3:=ownsRow_fx hown2 hfx (fun g hg e=>hne g hg e)
     replace hown3:=hZ hown3
     have u0:wr.cell? ⟨w2.heap.size,0,none⟩=some (.bool bv):=cells_of g3.out 0
     have u1:wr.cell? ⟨w2.heap.size,1,none⟩=some (.slice sa sn sc):=cells_of g3.out 1
     have hsn:=hZ (take_snoc hend.out)
     have hwsz:=hfW.size
     clear hown2 hne hzd
     go_wp2_with fail
     refine hfr9.out.mono ?_
     rintro e w8 ⟨rfl,hf8⟩
     go_wp2_with (at_builtin; refine wpList_append_lies _ rfl _ _ 85 (by rfl) _ 114 _ _ 1 16 Tryz.underlying85 hi9 hz0 hz1 hz2 rfl (by decide) _ c _ (by rfl) (World.ownsRow.alloc (ownsRow_fr hown3.out hf8) _) ⟨w8.heap.size,0,none⟩ 1 1 [sv z] (by rfl) rfl (cell_one_newN _ _ _ _ (by simp)) (by simp [Value.oneCell']) (by decide) (by unfold maxLen; omega) (by omega) (by have:=hf8.size; simp; omega) (w8.heap.size+1) (by simp) ?_; intro gA capA wA hownA hgrowA hatA hltA)
     have hfA:=((hfW.trans hf8).alloc _).grown hgrowA (fun k e=>(hown3.out.lt k e).1)
     go_roundg (ko - 1)
     case measure=>omega
     case rel=>exact ⟨c+1,by go_num,by omega,hfA,by show _; rw [hsn.out,List.map_append]; exact hownA⟩
  ·obtain rfl:c=d:=by omega
   have d1:decide (c < c)=false:=decide_eq_false hc
   have hown9:=hown.out
   rw [List.take_of_length_le (by rw [hLd.out]; exact Nat.le_refl _),← hLd.out] at hown9
   obtain ⟨a9,c9,rfl,he9,hc9,-⟩:=own_readS hown9
   clear hown9
   go_wp2_with fail
   go_ret
   exact ⟨a9,c9,rfl,he9,hc9,hfb.trans hf⟩
end Go.Proofs.YtmalpgbbddkdcaaGreatDoor
namespace Go.Proofs.YtmalpgbbddkdcaaGreatDoor
open Go.RowKit Go.Lib Go.Sort
attribute [local go_sem ↓] Go.wp_at_zero Go.wp_at_succ
theorem Equal_txs (xs ys:List Int) (a b:Option Addr) (ca cb:Nat) (w:World) (hx:El w sv a xs) (hy:El w sv b ys) (_hl:xs.length≤1000000000) (_hm:ys.length≤1000000000) :
 Calls Tryz.prog 73 #[.slice a xs.length ca,.slice b ys.length cb] w fun e w'=>e=.returned (.bool (decide (xs=ys)))∧Fr w w':=by
 by_cases hlen:xs.length=ys.length
 ·have hne:((xs.length:Int) != ys.length)=false:=by rw [hlen]; simp
  have hlen:=hZ hlen
  rename_i hlen0
  clear hlen0
  go_enter Tryz.func73,Tryz.ntmps73
  go_wp2_with fail
  go_loopw [5,13] (fun _ s13 wr=>∃ k:Nat,s13=.int .i64 k∧k≤xs.length∧Fr w wr∧Hid (xs.take k=ys.take k)) (fun _ s13 _=>xs.length - (RowKit.intOf s13).toNat)
  case atStart=>exact ⟨0,rfl,Nat.zero_le _,Fr.refl _,show _=_ by simp⟩
  case round=>
   obtain ⟨k,rfl,hk,hf,hb⟩:=hrel
   by_cases hlt:k < xs.length
   ·have hlt2:k < ys.length:=by rw [← hlen.out]; exact hlt
    obtain ⟨b1,o1,x,rfl,hbl1,hxk,hcell1⟩:=(hx.fr hf).at hlt
    obtain ⟨b2,o2,y,rfl,hbl2,hyk,hcell2⟩:=(hy.fr hf).at hlt2
    have hxk:=hZ hxk
    have hyk:=hZ hyk
    by_cases hxy:x=y
    ·have hq:(!((tx x).toList == (tx y).toList))=false:=by rw [hxy]; simp
     have hxy:=hZ hxy
     rename_i hxy0; clear hxy0
     go_wp2_with fail
     go_quiet (fail)
     go_wp2_with fail
     go_roundw
     case rel=>exact ⟨k+1,by go_num,by omega,hf.drewN _,take_step hb.out hxk.out (by rw [hxy.out]; exact hyk.out)⟩
     case measure=>simp [RowKit.intOf]; omega
    ·have hq:(!((tx x).toList == (tx y).toList))=true:=by rw [tx_beqs,decide_eq_false hxy]; rfl
     have hfin:=hZ (show decide (xs=ys)=false from decide_eq_false (fun e=>hxy (by have h1:=hxk.out; have h2:=hyk.out; rw [e,h2] at h1; injection h1 with h1; exact h1.symm)))
     clear hxy
     go_wp2_with fail
     go_quiet (fail)
     go_wp2_with fail
     go_ret
     exact ⟨ret_bool hfin.out.symm,hf.drewN _⟩
   ·have hfin:=hZ (show decide (xs=ys)=true from decide_eq_true (by have h:=hb.out; rw [List.take_of_length_le (by omega),List.take_of_length_le (by have:=hlen.out; omega)] at h; exact h))
    go_wp2_with fail
    go_ret
    exact ⟨ret_bool hfin.out.symm,hf⟩
 ·have hne:((xs.length:Int) != ys.length)=true:=by rw [bne_iff_ne]; omega
  have hfin:=hZ (show decide (xs=ys)=false from decide_eq_false (fun e=>hlen (by rw [e])))
  clear hlen
  go_enter Tryz.func73,Tryz.ntmps73
  go_wp2_with fail
  go_ret
  exact ⟨ret_bool hfin.out.symm,Fr.refl _⟩
theorem orderR_any (s t:Int×List Int) (a b:Option Addr) (ca cb:Nat) (w:World) (hx:El w iv a s.2) (hy:El w iv b t.2) (hl:s.2.length≤64) (hl2:t.2.length≤64) (hb:∀ x,x ∈ s.2→fitB x=true) (hb2:∀ x,x ∈ t.2→fitB x=true) :
 Calls Tryz.prog 76 #[.agg #[.int .i64 s.1,.slice a s.2.length ca],.agg #[.int .i64 t.1,.slice b t.2.length cb]] w fun e w'=>e=.returned (.int .i64 (ordS s t))∧Gd w w':=by
 obtain ⟨i,xs⟩:=s
 obtain ⟨j,ys⟩:=t
 simp only at hx hy hl hl2 hb hb2 ⊢
 unfold ordS
 have k1:=fun W (hW:Fr w W)=>cxR_any xs a ca W (hx.fr hW) hl hb
 have k2:=fun W (hW:Fr w W)=>cxR_any ys b cb W (hy.fr hW) hl2 hb2
 have k3:=fun W (hW:Fr w W)=>(slCompare_any xs ys a b ca cb W (hx.fr hW) (hy.fr hW) (by omega) (by omega)).mono fun e w' (h:e=.returned (.int .i64 (cmpR xs ys))∧w'=W)=>(⟨h.1,h.2.symm⟩:e=.returned (.int .i64 (cmpR xs ys))∧W=w')
 generalize cx xs=cxs at *
 generalize cx ys=cys at *
 generalize cmpR xs ys=c3 at *
 generalize xs.length=n at *
 generalize ys.length=m at *
 replace k1:=hZ k1
 replace k2:=hZ k2
 replace k3:=hZ k3
 clear hx hy hb hb2
 go_enter Tryz.func76,Tryz.ntmps76
 go_wp2_with fail
 have g0:Gd w ((w.alloc (.cells #[.int .i64 i,.slice a n ca] 76)).alloc (.cells #[.int .i64 j,.slice b m cb] 76)):=((Gd.refl w).alloc _).alloc _
 have f0:Fr w ((w.alloc (.cells #[.int .i64 i,.slice a n ca] 76)).alloc (.cells #[.int .i64 j,.slice b m cb] 76)):=((Fr.refl w).alloc _).alloc _
 have p1:=new2a w (.int .i64 i) (.slice a n ca) 76
 have p2:=new2b w (.int .i64 i) (.slice a n ca) 76
 have p3:=new2a (w.alloc (.cells #[.int .i64 i,.slice a n ca] 76)) (.int .i64 j) (.slice b m cb) 76
 have p4:=new2b (w.alloc (.cells #[.int .i64 i,.slice a n ca] 76)) (.int .i64 j) (.slice b m cb) 76
 rw [show (w.alloc (.cells #[.int .i64 i,.slice a n ca] 76)).heap.size=w.heap.size+1 by simp] at p3 p4
 have q1:=(Fr.refl (w.alloc (.cells #[.int .i64 i,.slice a n ca] 76))).alloc (.cells #[.int .i64 j,.slice b m cb] 76) |>.keep p1.1
 have q2:=(Fr.refl (w.alloc (.cells #[.int .i64 i,.slice a n ca] 76))).alloc (.cells #[.int .i64 j,.slice b m cb] 76) |>.keep p2.1
 have q3:=p3.1
 have q4:=p4.1
 clear p1 p2 p3 p4
 generalize ((w.alloc (.cells #[.int .i64 i,.slice a n ca] 76)).alloc (.cells #[.int .i64 j,.slice b m cb] 76))=W at *
 have g0:Gd w W:=by assumption
 have hbs:w.heap.size+1 < W.heap.size:=World.block_lt_of_cell? W _ q3
 clear f0
 go_region_held3 (fun w'=>w'.cell? ⟨w.heap.size,0,none⟩=some (.int .i64 i)∧w'.cell? ⟨w.heap.size,1,none⟩=some (.slice a n ca)∧w'.cell? ⟨w.heap.size+1,0,none⟩=some (.int .i64 j)∧w'.cell? ⟨w.heap.size+1,1,none⟩=some (.slice b m cb))
  (first | go_keep | (go_split_ands; refine ⟨?_, ?_, ?_, ?_⟩ <;> (refine Fr.keep (Gd.fr (by assumption)) ?_; assumption)))
  (first
   | (go_at_call 79; first | ((with_reducible refine (k1.out _ ?_).mono ?_); (refine Gd.fr ?_; repeat (with_reducible first | assumption | exact Gd.refl _ | refine Gd.drew ?_ | refine Gd.drewN ?_ _ | refine Gd.alloc ?_ _ | refine Gd.trans ?_ (by assumption))); rintro e w1 ⟨rfl,hf1⟩) | ((with_reducible refine (k2.out _ ?_).mono ?_); (refine Gd.fr ?_; repeat (with_reducible first | assumption | exact Gd.refl _ | refine Gd.drew ?_ | refine Gd.drewN ?_ _ | refine Gd.alloc ?_ _ | refine Gd.trans ?_ (by assumption))); rintro e w1 ⟨rfl,hf1⟩))
   | (go_at_call 80; (with_reducible refine (k3.out _ ?_).mono ?_); (refine Gd.fr ?_; repeat (with_reducible first | assumption | exact Gd.refl _ | refine Gd.drew ?_ | refine Gd.drewN ?_ _ | refine Gd.alloc ?_ _ | refine Gd.trans ?_ (by assumption))); rintro e w1 ⟨rfl,rfl⟩)
   | (go_at_call 78; (with_reducible refine (Compare_int _ _ _).mono ?_); rintro e w1 ⟨rfl,rfl⟩)
   | (go_at_call 77; (with_reducible refine (Or3 _ _ _ _).mono ?_); rintro e w1 ⟨rfl,rfl⟩))
 all_goals
  go_wp2_with fail
  go_ret
  exact ⟨rfl,by repeat (with_reducible first | assumption | exact Gd.refl _ | refine Gd.drew ?_ | refine Gd.drewN ?_ _ | refine Gd.alloc ?_ _ | refine Gd.trans ?_ (by assumption))⟩
theorem enters_orderR:∀ args w,(callFunc 76 args).run Tryz.prog w=.ok (.enter 76 args) w:=enters_of Tryz.func76 (by kernel_rfl) rfl
theorem SortFunc_lw (base g cap:Nat) (K:List BX) (W:World) (hown:W.ownsRow base 76 2 (.slice (some ⟨g,0,none⟩) K.length cap) K.length (flat2 (K.map BX.enc2))) (hrow:∀ x,x ∈ K→RowAt W x) (hnd:(K.map stripX).Nodup)
 (hl:∀ x,x ∈ K→x.cs.length≤64) (hf:∀ x,x ∈ K→∀ c,c ∈ x.cs→fitB c=true) (hK:K≠[]) (hK2:K.length≤1000001) :
 Calls Tryz.prog 75 #[.slice (some ⟨g,0,none⟩) K.length cap,.func (.func 76) #[] #[]] W fun e W'=>e=.returned (.tuple #[]) ∧
  ∃ K':List BX,K'.map stripX=sortS (K.map stripX)∧K'.Perm K∧Fx (·=g) W W'∧W'.ownsRow base 76 2 (.slice (some ⟨g,0,none⟩) K.length cap) K.length (flat2 (K'.map BX.enc2)):=by
 obtain ⟨x0,hx0⟩:∃ x0,x0 ∈ K:=by
  cases K with
  | nil=>exact absurd rfl hK
  | cons x l=>exact ⟨x,List.mem_cons_self ..⟩
 haveI:Inhabited { x:BX // x ∈ K }:=⟨⟨x0,hx0⟩⟩
 obtain ⟨-,-,hgl,-,hcells⟩:=ownsRow_some hown
 have hfl:∀ (d:Array { x:BX // x ∈ K }),(flatK (fun x:{ x:BX // x ∈ K }=>[x.1.enc2.1,x.1.enc2.2]) 2 d).toList=flat2 (d.toList.map fun x=>x.1.enc2):=fun d=>flatK_flat2 (fun x:{ x:BX // x ∈ K }=>x.1.enc2) d
 have hat:(K.attach.toArray.toList.map fun x=>x.1.enc2)=K.map BX.enc2:=by
  have:(fun x:{ x:BX // x ∈ K }=>x.1.enc2)=BX.enc2 ∘ Subtype.val:=rfl
  rw [this,← List.map_map,List.attach_map_subtype_val]
 have hH:HoldsK (fun x:{ x:BX // x ∈ K }=>[x.1.enc2.1,x.1.enc2.2]) 2 W g 0 K.attach.toArray:=by
  intro j hj
  have h1:=hfl K.attach.toArray
  rw [hat] at h1
  have h2:(flat2 (K.map BX.enc2))[j]?=some (flatK (fun x:{ x:BX // x ∈ K }=>[x.1.enc2.1,x.1.enc2.2]) 2 K.attach.toArray)[j]!:=by
   rw [← h1,Array.getElem?_toList,Array.getElem?_eq_getElem hj,getElem!_pos _ j hj]
  have h3:=hcells j _ h2
  rw [Nat.zero_add]
  exact h3
 have hcmp:CmpLays Tryz.prog 76 #[] (fun x:{ x:BX // x ∈ K }=>[x.1.enc2.1,x.1.enc2.2]) 2 (fun x y=>cfB x.1 y.1) g 0 K.attach.toArray.size W:=fun m os dk hs x y=>by
  have hfx:Fx (·=g) W (sortWorldK (fun x:{ x:BX // x ∈ K }=>[x.1.enc2.1,x.1.enc2.2]) 2 W g 0 m dk os):=fx_put _
  have hel:∀ z:BX,z ∈ K→El (sortWorldK (fun x:{ x:BX // x ∈ K }=>[x.1.enc2.1,x.1.enc2.2]) 2 W g 0 m dk os) iv (some ⟨z.g,0,none⟩) z.cs:=fun z hz=>(hrow z hz).2.fx hfx (fun e=>by
   have:=(hrow z hz).ne hown
   exact this (by simp [Value.ownBlock,show z.g=g from e]))
  exact orderR_any (stI (stripX x.1)) (stI (stripX y.1)) (some ⟨x.1.g,0,none⟩) (some ⟨y.1.g,0,none⟩) x.1.c y.1.c _ (hel x.1 x.2) (hel y.1 y.2) (hl x.1 x.2) (hl y.1 y.2) (hf x.1 x.2) (hf y.1 y.2)
 have hO:SWO (ltOf fun x y:{ x:BX // x ∈ K }=>cfB x.1 y.1):=⟨fun x=>swoS.irrefl _,fun x y z=>swoS.trans _ _ _,fun x y z=>swoS.ntrans _ _ _⟩
 have hinj:∀ x y:{ x:BX // x ∈ K },stripX x.1=stripX y.1→x=y:=fun x y e=>by
  obtain ⟨x,hx⟩:=x; obtain ⟨y,hy⟩:=y
  obtain ⟨i,hi⟩:=List.getElem?_of_mem hx
  obtain ⟨j,hj⟩:=List.getElem?_of_mem hy
  have e2:(K.map stripX)[i]?=(K.map stripX)[j]?:=by rw [List.getElem?_map,List.getElem?_map,hi,hj]; simp only [Option.map_some]; rw [e]
  have hij:=(List.getElem?_inj (by rw [List.length_map]; exact (List.getElem?_eq_some_iff.1 hi).1) hnd).1 e2
  subst hij
  rw [hi] at hj
  injection hj with hj
  subst hj; rfl
 have hT:∀ x y:{ x:BX // x ∈ K },(ltOf fun x y:{ x:BX // x ∈ K }=>cfB x.1 y.1) x y=false→(ltOf fun x y:{ x:BX // x ∈ K }=>cfB x.1 y.1) y x=false→x=y:=fun x y h1 h2=>by
  unfold ltOf cfB at *
  have a:¬ ordS (stI (stripX x.1)) (stI (stripX y.1)) < 0:=of_decide_eq_false h1
  have b:¬ ordS (stI (stripX y.1)) (stI (stripX x.1)) < 0:=of_decide_eq_false h2
  have c:=ordS_neg (stI (stripX x.1)) (stI (stripX y.1))
  exact hinj x y (stI_inj (ordS_eq (by omega)))
 have hcon:=AnyQ.slices_SortFunc_total Tryz.sortSp 2 Tryz.isAgg76 Tryz.sizeOf76 (fun x:{ x:BX // x ∈ K }=>[x.1.enc2.1,x.1.enc2.2]) (fun _=>rfl) (fun x v hv=>by
  simp at hv; rcases hv with rfl | rfl <;> rfl) (fun x y=>cfB x.1 y.1) hO 76 #[] g 0 cap K.attach.toArray W enters_orderR hcmp hH hgl (by rw [List.size_toArray,List.length_attach]; omega) hT
 rw [show K.attach.toArray.size=K.length by simp] at hcon
 refine hcon.mono ?_
 rintro e W' ⟨rfl,n,os,rfl⟩
 obtain ⟨D,hD⟩:∃ D,D=(K.attach.mergeSort fun x y=>!(ltOf fun x y:{ x:BX // x ∈ K }=>cfB x.1 y.1) y x):=⟨_,rfl⟩
 have hDp:D.Perm K.attach:=by rw [hD]; exact List.mergeSort_perm _ _
 refine ⟨rfl,D.map Subtype.val, ?_, ?_,fx_put _, ?_⟩
 ·refine sortS_eq ?_ ?_
  ·rw [List.map_map,List.pairwise_map,hD]
   exact List.pairwise_mergeSort (le:=fun x y=>!(ltOf fun x y:{ x:BX // x ∈ K }=>cfB x.1 y.1) y x) (fun a b c h k=>leS_trans (stripX a.1) (stripX b.1) (stripX c.1) h k) (fun a b=>leS_total (stripX a.1) (stripX b.1)) _
  ·have:=(hDp.map Subtype.val).map stripX
   rwa [List.attach_map_subtype_val] at this
 ·have:=hDp.map Subtype.val
  rwa [List.attach_map_subtype_val] at this
 ·have h1:=hfl D.toArray
  have h2:D.toArray.toList.map (fun x=>x.1.enc2)=(D.map Subtype.val).map BX.enc2:=by rw [List.map_map]; rfl
  rw [h2] at h1
  have h3:=ownsRow_put (n:=n) (os:=os) (ys:=flat2 ((D.map Subtype.val).map BX.enc2)) hown (by rw [flat2_length,flat2_length,List.length_map,List.length_map,List.length_map,hDp.length_eq,List.length_attach])
  rw [← h1] at h3
  simp only [Array.toArray_toList] at h3
  rw [hfl] at h3
  rw [h2] at h3
  rw [hD] at h3 ⊢
  exact h3
end Go.Proofs.YtmalpgbbddkdcaaGreatDoor
