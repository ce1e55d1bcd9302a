/-
  Contracts and laws for the statements of the seat, QL.
-/
import Derived.Test.YtkjemicelmabdaaGreatDoorQD
import Derived.Test.YtkjemicelmabdaaGreatDoorQI
import Derived.Test.YtkjemicelmabdaaGreatDoorQJ
import Derived.Test.YtkjemicelmabdaaGreatDoorQK
import Derived.Test.YtkjemicelmabdaaGreatDoorQB

set_option maxRecDepth 100000
set_option maxHeartbeats 16000000
namespace Go.Proofs.YtkjemicelmabdaaGreatDoor
open Go.RowKit Go.Lib
attribute [local go_sem ↓] Go.wp_at_zero Go.wp_at_succ
def restU (B:List (List Int)) (x:List Int):List Int:=((redT B x B.length).map Prod.fst).getD []
structure UqOk (RN RA:List (List Int)) (d:Nat) (B:List (List Int)) (I:List (List Rat)) (res:Option (List Int)):Prop where
 d1:1≤d
 d6:d≤6
 lenA:RA.length=d
 n1:1≤RN.length
 n60:RN.length≤60
 rowA:∀ q,q ∈ RA→q.length=d∧∀ x,x ∈ q→fitB x=true
 rowN:∀ q,q ∈ RN→q.length=d∧∀ x,x ∈ q→fitB x=true
 form:∃ F gF tF,formS F d 0 RA 0=some (gF,tF)∧gF.take tF=B
 lenB:B.length=d
 rowB:∀ q,q ∈ B→q.length=d∧∀ x,x ∈ q→fitB x=true
 isF:formOk B=true
 inv:∃ Fq,redTo (augM RA) d=some Fq∧Fq.lead.length=d∧Fq.g.map (List.drop d)=I
 rowI:∀ q,q ∈ I→q.length=d
 lenI:I.length=d
 pairs:∀ (i j:Nat) (x y:List Int),RN[i]?=some x→RN[j]?=some y→i < j→sumOk I (List.zipWith (· - ·) y x) d=true∧solveS I (List.zipWith (· - ·) y x) d=none
 red:∀ q,q ∈ RN→∃ s,redT B q d=some s∧(∀ x,x ∈ s.1→fitB x=true)∧∀ x,x ∈ s.2→fitB x=true
 abs:∃ F,absT B (RN.map fun q=>rowTx (restU B q)) d F (List.replicate d 0)=some res
theorem fits_sm {x:Int} (h:fitB x=true):Sm x:=by unfold fitB at h; have h:=of_decide_eq_true h; exact ⟨by omega,by omega⟩
theorem NInts_el (xs:List Int) (a:Option Addr) (cap d:Nat) (w:World) (hG:G w) (hx:El w iv a xs) (hd:xs.length=d) (hd1:1≤d) (hd6:d≤1000) (hb:∀ x,x ∈ xs→fitB x=true) :
 Calls Tryz.prog 29 #[.slice a d cap] w fun e w'=>∃ g c,e=.returned (.slice (some ⟨g,0,none⟩) d c)∧El w' sv (some ⟨g,0,none⟩) xs∧Fr w w':=by
 have h:=NInts_sm xs a cap w hG hx (by omega) (fun x hx=>fits_sm (hb x hx))
 rw [hd] at h
 refine h.mono ?_
 rintro e w' ⟨v,rfl,hown,hf⟩
 rw [hd] at hown
 obtain ⟨g,cp,rfl,-⟩:=World.ownsRow.form hown (by omega)
 exact ⟨g,cp,rfl,(ownsRow_own (gN_le hG) hown).1.el,hf⟩
structure Wit6 (w:World) (r:Nat) (v0 v1 v2 v3 v4 v5:Value):Prop where
 c0:w.cell? ⟨r,0,none⟩=some v0
 c1:w.cell? ⟨r,1,none⟩=some v1
 c2:w.cell? ⟨r,2,none⟩=some v2
 c3:w.cell? ⟨r,3,none⟩=some v3
 c4:w.cell? ⟨r,4,none⟩=some v4
 c5:w.cell? ⟨r,5,none⟩=some v5
 f0:w.frozen? ⟨r,0,none⟩=false
 f1:w.frozen? ⟨r,1,none⟩=false
 f2:w.frozen? ⟨r,2,none⟩=false
 f3:w.frozen? ⟨r,3,none⟩=false
 f4:w.frozen? ⟨r,4,none⟩=false
 f5:w.frozen? ⟨r,5,none⟩=false
theorem Wit6.fx {p:Nat→Prop} {w w':World} {r:Nat} {v0 v1 v2 v3 v4 v5:Value} (h:Wit6 w r v0 v1 v2 v3 v4 v5) (k:Fx p w w') (hp:¬ p r):Wit6 w' r v0 v1 v2 v3 v4 v5 :=
 ⟨k.keep h.c0 hp,k.keep h.c1 hp,k.keep h.c2 hp,k.keep h.c3 hp,k.keep h.c4 hp,k.keep h.c5 hp,k.keepf h.c0 h.f0 hp,k.keepf h.c1 h.f1 hp,k.keepf h.c2 h.f2 hp,k.keepf h.c3 h.f3 hp,k.keepf h.c4 h.f4 hp,k.keepf h.c5 h.f5 hp⟩
theorem Wit6.fr {w w':World} {r:Nat} {v0 v1 v2 v3 v4 v5:Value} (h:Wit6 w r v0 v1 v2 v3 v4 v5) (k:Fr w w'):Wit6 w' r v0 v1 v2 v3 v4 v5:=h.fx (p:=fun _=>False) (Fx.of_fr k) (fun e=>e)
theorem Wit6.new (w:World) (v0 v1 v2 v3 v4 v5:Value) (t:TypeId):Wit6 (w.alloc (.cells #[v0,v1,v2,v3,v4,v5] t)) w.heap.size v0 v1 v2 v3 v4 v5:=by
 have h:(w.alloc (.cells #[v0,v1,v2,v3,v4,v5] t)).heap[w.heap.size]?=some (.cells #[v0,v1,v2,v3,v4,v5] t (0,0)):=heap_alloc_new w _
 refine ⟨?_, ?_, ?_, ?_, ?_, ?_, ?_, ?_, ?_, ?_, ?_, ?_⟩ <;> (first | (unfold World.cell?; rw [h]; rfl) | (unfold World.frozen?; rw [h]; rfl))
theorem Wit6.stored {w:World} {r:Nat} {v0 v1 v2 v3 v4 v5:Value} (h:Wit6 w r v0 v1 v2 v3 v4 v5) (u0 u1 u2 u3 u4 u5:Value) :
 Wit6 ((((((w.setCell ⟨r,0,none⟩ u0).setCell ⟨r,1,none⟩ u1).setCell ⟨r,2,none⟩ u2).setCell ⟨r,3,none⟩ u3).setCell ⟨r,4,none⟩ u4).setCell ⟨r,5,none⟩ u5) r u0 u1 u2 u3 u4 u5:=by
 obtain ⟨c0,c1,c2,c3,c4,c5,f0,f1,f2,f3,f4,f5⟩:=h
 have ne:∀ i j:Nat,i≠j→(⟨r,i,none⟩:Addr)≠⟨r,j,none⟩:=fun i j hij e=>by injection e with _ e; exact hij e
 refine ⟨?_, ?_, ?_, ?_, ?_, ?_, ?_, ?_, ?_, ?_, ?_, ?_⟩
 ·rw [World.cell?_setCell_other _ _ _ _ (ne 5 0 (by decide)),World.cell?_setCell_other _ _ _ _ (ne 4 0 (by decide)),World.cell?_setCell_other _ _ _ _ (ne 3 0 (by decide)),World.cell?_setCell_other _ _ _ _ (ne 2 0 (by decide)),World.cell?_setCell_other _ _ _ _ (ne 1 0 (by decide))]
  exact World.cell?_setCell_same' _ _ _ (by rw [c0]; rfl)
 ·rw [World.cell?_setCell_other _ _ _ _ (ne 5 1 (by decide)),World.cell?_setCell_other _ _ _ _ (ne 4 1 (by decide)),World.cell?_setCell_other _ _ _ _ (ne 3 1 (by decide)),World.cell?_setCell_other _ _ _ _ (ne 2 1 (by decide))]
  exact World.cell?_setCell_same' _ _ _ (by rw [World.cell?_setCell_other _ _ _ _ (ne 0 1 (by decide)),c1]; rfl)
 ·rw [World.cell?_setCell_other _ _ _ _ (ne 5 2 (by decide)),World.cell?_setCell_other _ _ _ _ (ne 4 2 (by decide)),World.cell?_setCell_other _ _ _ _ (ne 3 2 (by decide))]
  exact World.cell?_setCell_same' _ _ _ (by rw [World.cell?_setCell_other _ _ _ _ (ne 1 2 (by decide)),World.cell?_setCell_other _ _ _ _ (ne 0 2 (by decide)),c2]; rfl)
 ·rw [World.cell?_setCell_other _ _ _ _ (ne 5 3 (by decide)),World.cell?_setCell_other _ _ _ _ (ne 4 3 (by decide))]
  exact World.cell?_setCell_same' _ _ _ (by rw [World.cell?_setCell_other _ _ _ _ (ne 2 3 (by decide)),World.cell?_setCell_other _ _ _ _ (ne 1 3 (by decide)),World.cell?_setCell_other _ _ _ _ (ne 0 3 (by decide)),c3]; rfl)
 ·rw [World.cell?_setCell_other _ _ _ _ (ne 5 4 (by decide))]
  exact World.cell?_setCell_same' _ _ _ (by rw [World.cell?_setCell_other _ _ _ _ (ne 3 4 (by decide)),World.cell?_setCell_other _ _ _ _ (ne 2 4 (by decide)),World.cell?_setCell_other _ _ _ _ (ne 1 4 (by decide)),World.cell?_setCell_other _ _ _ _ (ne 0 4 (by decide)),c4]; rfl)
 ·exact World.cell?_setCell_same' _ _ _ (by rw [World.cell?_setCell_other _ _ _ _ (ne 4 5 (by decide)),World.cell?_setCell_other _ _ _ _ (ne 3 5 (by decide)),World.cell?_setCell_other _ _ _ _ (ne 2 5 (by decide)),World.cell?_setCell_other _ _ _ _ (ne 1 5 (by decide)),World.cell?_setCell_other _ _ _ _ (ne 0 5 (by decide)),c5]; rfl)
 all_goals (simp only [World.frozen?_setCell]; assumption)
theorem wit_fx (w:World) (r:Nat) (u0 u1 u2 u3 u4 u5:Value):Fx (·=r) w ((((((w.setCell ⟨r,0,none⟩ u0).setCell ⟨r,1,none⟩ u1).setCell ⟨r,2,none⟩ u2).setCell ⟨r,3,none⟩ u3).setCell ⟨r,4,none⟩ u4).setCell ⟨r,5,none⟩ u5) :=
 (((((Fx.setCell (p:=(·=r)) (q:=⟨r,0,none⟩) (Fx.refl _ w) (.inl rfl) u0).setCell (q:=⟨r,1,none⟩) (.inl rfl) u1).setCell (q:=⟨r,2,none⟩) (.inl rfl) u2).setCell (q:=⟨r,3,none⟩) (.inl rfl) u3).setCell (q:=⟨r,4,none⟩) (.inl rfl) u4).setCell (q:=⟨r,5,none⟩) (.inl rfl) u5
def noWit:Value:=.agg #[.bool false,.slice none 0 0,.int .i64 0,.slice none 0 0,.int .i64 0,.slice none 0 0]
def UqRet (w:World) (d:Nat) (res:Option (List Int)) (e:Ending) (w':World):Prop:=match res with
 | none=>e=.returned (.tuple #[.bool true,noWit,.int .i64 0])∧Fr w w'
 | some x=>∃ g c,e=.returned (.tuple #[.bool false,.agg #[.bool true,.slice (some ⟨g,0,none⟩) d c,.int .i64 0,.slice none 0 0,.int .i64 0,.slice none 0 0],.int .i64 0])∧El w' iv (some ⟨g,0,none⟩) x∧x.length=d∧Fr w w'
theorem Unique_ok (N A:List Sy) (d:Nat) (B:List (List Int)) (I:List (List Rat)) (res:Option (List Int)) (aN aA:Option Addr) (cN cA:Nat) (w:World) (hG:G w) (hn:NotIs w aN aA cA N A)
 (hU:UqOk (N.map Sy.row) (A.map Sy.row) d B I res)
 (hck:∀ W,Fr w W→Calls Tryz.prog 27 #[.agg #[.slice aN N.length cN,.slice aA A.length cA]] W fun e w'=>e=.returned (.int .i64 0)∧Fr W w') :
 Calls Tryz.prog 17 #[.agg #[.slice aN N.length cN,.slice aA A.length cA]] w (UqRet w d res):=by
 obtain ⟨d1,d6,lenA,n1,n60,rowA,rowN,⟨F,gF,tF,hF,rfl⟩,lenB,rowB,isF,⟨Fq,hq1,hq2,rfl⟩,rowI,lenI,pairs,red,⟨Fa,habs⟩⟩:=hU
 have hgn:=gN_le hG
 rw [List.length_map] at lenA n1 n60
 rw [lenA] at hck ⊢
 obtain ⟨M,hM⟩:∃ M,M=N.length:=⟨_,rfl⟩
 rw [← hM] at n1 n60 hck ⊢
 have hTA:TabOk d (A.map Sy.row):=⟨by rw [List.length_map]; omega,by omega,fun r hr=>(rowA r hr).1,fun r hr=>(rowA r hr).2⟩
 have hTB:TabOk d (gF.take tF):=⟨by omega,by omega,fun r hr=>(rowB r hr).1,fun r hr=>(rowB r hr).2⟩
 have hacc:=hZ (fun W (hW:Fr w W)=>Accs_any aN aA M cN cA A W (hG.fr hW) (hn.accs.fr hW) (by omega))
 have hof:=hZ (fun W (hW:Fr w W) a c (hm:MatIs W a (A.map Sy.row))=>OfC_any (A.map Sy.row) gF F tF a c d W (hG.fr hW) hm hTA (by rw [List.length_map]; omega) d1 hF (fun r hr=>(rowB r hr).2))
 have hinv:∀ a c W,Fr w W→MatIs W a (A.map Sy.row)→Calls Tryz.prog 70 #[.slice a d c] W (InvRet W (Fq.g.map (List.drop d))):=fun a c W hW hm=>by
  have h:=Inverse_any (A.map Sy.row) a c d Fq W (hG.fr hW) hm hTA d1 (by rw [List.length_map]; exact lenA) hq1 hq2
  rw [List.length_map,lenA] at h
  exact h
 rw [List.length_map,lenA] at hof
 rw [lenA] at hacc
 have hst:=hZ (fun (x y:Sy) (W:World) (hW:Fr w W) (g c g2 c2:Nat) (hx:x ∈ N) (hy:y ∈ N) (hp:sumOk (Fq.g.map (List.drop d)) (List.zipWith (· - ·) y.row x.row) d=true∧solveS (Fq.g.map (List.drop d)) (List.zipWith (· - ·) y.row x.row) d=none) (h1:El W sv (some ⟨g,0,none⟩) x.row) (h2:El W sv (some ⟨g2,0,none⟩) y.row)=>by
  have rx:=rowN x.row (List.mem_map_of_mem hx)
  have ry:=rowN y.row (List.mem_map_of_mem hy)
  have h:=Solve_any aN aA M cN cA d A (Fq.g.map (List.drop d)) x.row y.row (some ⟨g,0,none⟩) (some ⟨g2,0,none⟩) c c2 W (hG.fr hW) (hn.accs.fr hW) lenA.symm d1 d6 (fun a c W' hW'=>hinv a c W' (hW.trans hW')) rowI lenI h1 h2 rx.1 ry.1 (fun z hz=>fits_sm (rx.2 z hz)) (fun z hz=>fits_sm (ry.2 z hz)) hp.1
  rw [hp.2] at h
  exact h)
 have hin:=hZ (fun (x:Sy) (hx:x ∈ N) (W:World) (hW:Fr w W)=>by
  have rx:=rowN x.row (List.mem_map_of_mem hx)
  exact NInts_el x.row x.ra x.rc d W (hG.fr hW) ((hn.noms.2 x hx).fr hW) rx.1 d1 (by omega) rx.2)
 obtain ⟨B,hB⟩:∃ B,B=gF.take tF:=⟨_,rfl⟩
 rw [← hB] at hTB lenB rowB isF red habs hof
 have hrd:=hZ (fun (x:Sy) (hx:x ∈ N) (W:World) (hW:Fr w W) (a:Option Addr) (c:Nat) (hm:MatIs W a B) (hc:d≤c)=>
  show Calls Tryz.prog 57 #[.slice a d c,.slice x.ra d x.rc] W (fun e w'=>∃ b c b2 c2,e=.returned (.tuple #[.slice (some ⟨b,0,none⟩) d c,.slice (some ⟨b2,0,none⟩) d c2,.int .i64 0])∧El w' iv (some ⟨b,0,none⟩) (restU B x.row)∧Fr W w') from by
  have rx:=rowN x.row (List.mem_map_of_mem hx)
  obtain ⟨s,hs1,hs2,hs3⟩:=red x.row (List.mem_map_of_mem hx)
  have hsl:=redT_len _ s hs1
  have h:=HReduce_ok B x.row s a x.ra c x.rc d W (hG.fr hW) hm hTB (by omega) isF d1 (by omega) ((hn.noms.2 x hx).fr hW) rx.1 rx.2 (by rw [lenB]; exact hs1) hs2 hs3
  rw [lenB] at h
  refine h.mono ?_
  rintro e w' ⟨b,c',b2,c2,rfl,h1,h2,h3⟩
  have e1:restU B x.row=s.1:=by unfold restU; rw [lenB,hs1]; rfl
  refine ⟨b,c',b2,c2,by rw [hsl.1,hsl.2,rx.1],by rw [e1]; exact h1,h3⟩)
 have hrf:∀ x,x ∈ N→(restU B x.row).length=d∧∀ z,z ∈ restU B x.row→fitB z=true:=fun x hx=>by
  obtain ⟨s,hs1,hs2,hs3⟩:=red x.row (List.mem_map_of_mem hx)
  have e1:restU B x.row=s.1:=by unfold restU; rw [lenB,hs1]; rfl
  rw [e1]
  exact ⟨(redT_len _ s hs1).1.trans (rowN x.row (List.mem_map_of_mem hx)).1,hs2⟩
 have hky:=hZ (fun (x:Sy) (hx:x ∈ N) (W:World) (hW:Fr w W) (g c:Nat) (h:El W iv (some ⟨g,0,none⟩) (restU B x.row))=>Key_ok (restU B x.row) (some ⟨g,0,none⟩) c d W (hG.fr hW) h (hrf x hx).1 (by omega) d1 (hrf x hx).2)
 have hks:∀ x,x ∈ N→(rowTx (restU B x.row)).size≤1000:=fun x hx=>rowTx_size _ (by rw [(hrf x hx).1]; omega) (by rw [(hrf x hx).1]; omega) (hrf x hx).2
 have hab:=hZ (fun (W:World) (hW:Fr w W) (a:Option Addr) (c mb:Nat) (hm:MatIs W a B) (hs:SeenIs W mb (N.map fun x=>rowTx (restU B x.row)))=>absent_any B a c d mb Fa _ res W (hG.fr hW) hm (fun r hr=>(rowB r hr).1) lenB d1 (by omega) (fun r hr=>(rowB r hr).2) hs (by rw [List.map_map] at habs; exact habs))
 have hprs:=hZ (fun (i j:Nat) (x y:Sy) (hx:N[i]?=some x) (hy:N[j]?=some y) (hij:i < j)=>pairs i j x.row y.row (by rw [List.getElem?_map,hx]; rfl) (by rw [List.getElem?_map,hy]; rfl) hij)
 have hrow:=hZ (fun (x:Sy) (hx:x ∈ N)=>(rowN x.row (List.mem_map_of_mem hx)).1)
 have hsy:=hZ hn.noms
 replace hrf:=hZ hrf
 replace hks:=hZ hks
 replace hck:=hZ hck
 replace hM:=hZ hM
 generalize Fq.g.map (List.drop d)=I at *
 clear hTB hTA hinv hG hn pairs red habs rowA rowN rowB isF hq1 hq2 rowI lenI hF hB lenA
 replace lenB:=hZ lenB
 have hmm:=@run_makeMap Tryz.prog
 go_enter Tryz.func17,Tryz.ntmps17
 go_upto_region 1 with (fail)
 obtain ⟨nb,hnb⟩:∃ nb,nb=w.heap.size:=⟨_,rfl⟩
 obtain ⟨W1,hW1⟩:∃ W1,W1=(w.alloc (.cells #[.slice aN M cN,.slice aA d cA] 32)).alloc (.cells #[.bool false,.slice none 0 0,.int .i64 0,.slice none 0 0,.int .i64 0,.slice none 0 0] 52):=⟨_,rfl⟩
 have f1:Fr w W1:=by rw [hW1]; exact ((Fr.refl _).alloc _).alloc _
 have hN1:Cel2 W1 nb (.slice aN M cN) (.slice aA d cA):=by rw [hW1,hnb]; exact (Cel2.new w _ _ _).fr ((Fr.refl _).alloc _)
 have hW6:Wit6 W1 (nb+1) (.bool false) (.slice none 0 0) (.int .i64 0) (.slice none 0 0) (.int .i64 0) (.slice none 0 0):=by
  have:=Wit6.new (w.alloc (.cells #[.slice aN M cN,.slice aA d cA] 32)) (.bool false) (.slice none 0 0) (.int .i64 0) (.slice none 0 0) (.int .i64 0) (.slice none 0 0) 52
  rw [World.size_alloc] at this
  rw [hW1,hnb]; exact this
 rw [← hW1,← hnb]
 clear hW1
 replace hnb:=hZ hnb
 have n0:=hN1.a
 have n1':=hN1.b
 replace hW6:=hZ hW6
 replace hN1:=hZ hN1
 go_wp2_with fail
 refine (hck.out _ f1).mono ?_
 rintro e w2 ⟨rfl,hf2⟩
 replace n0:=hf2.keep n0
 replace n1':=hf2.keep n1'
 have f2:=f1.trans hf2
 go_wp2_with fail
 refine (hacc.out _ f2).mono ?_
 rintro e w3 ⟨a3,c3,rfl,hm3,hf3⟩
 have f3:=f2.trans hf3
 have hof3:=hZ (hof.out _ f3 a3 c3 hm3)
 clear hm3 hof hacc hck
 go_wp2_with fail
 refine hof3.out.mono ?_
 rintro e w4 ⟨bA,bc,rfl,hcp,hmB,hf4⟩
 rw [lenB.out] at hcp ⊢
 obtain ⟨W5,hW5⟩:∃ W5,W5=w4.alloc (.cells #[.int .i64 d,.slice bA d bc] 109):=⟨_,rfl⟩
 have f45:Fr w4 W5:=by rw [hW5]; exact (Fr.refl _).alloc _
 obtain ⟨lb,hlb⟩:∃ lb,lb=w4.heap.size:=⟨_,rfl⟩
 have hL5:Cel2 W5 lb (.int .i64 d) (.slice bA d bc):=by rw [hW5,hlb]; exact Cel2.new _ _ _ _
 have hmB5:=hmB W5 (Fx.of_fr f45)
 have f35:=(hf3.trans hf4).trans f45
 have f5:=f2.trans f35
 have f15:=hf2.trans f35
 go_upto_region 6 with (fail)
 rw [← hW5,← hlb]
 clear hW5 hmB n0 n1' hof3
 have n0:=hN1.out.a
 replace n0:=f15.keep n0
 replace hmB5:=hZ hmB5
 replace hL5:=hZ hL5
 have hW65:=hZ (hW6.out.fr f15)
 have hN5:=hZ (hN1.out.fr f15)
 clear hN1 hW6 f1 f2 f3 f15 f35 f45 hf2 hf3 hf4
 replace hlb:=hZ hlb
 go_wp2_with fail
 go_loopg [47] M (fun k s47 wr=>∃ i:Nat,s47=.int .i64 i∧i+k=M∧Fr W5 wr)
 case atStart=>exact ⟨0,rfl,by omega,Fr.refl _⟩
 case round=>
  clear n0
  obtain ⟨i,rfl,hik,hf⟩:=hrel
  have hFr:=f5.trans hf
  obtain ⟨wo,rfl⟩:∃ wo:World,wo=wr:=⟨_,rfl⟩
  obtain ⟨ko,rfl⟩:∃ ko:Nat,ko=gk:=⟨_,rfl⟩
  by_cases hi:i < M
  ·have hdI:decide (i < M)=true:=decide_eq_true hi
   obtain ⟨ab,ao,x,rfl,hbl,hxi,hc1,hc2,-⟩:=(hsy.out.fr hFr).at (i:=i) (by rw [← hM.out]; exact hi)
   have hxm:=List.mem_of_getElem? hxi
   rw [hrow.out x hxm] at hc2
   have z0:(0:Int)≤(i:Int):=Int.natCast_nonneg _
   have z1:(i:Int) < (M:Int):=by omega
   obtain ⟨W6,hW6⟩:∃ W6,W6=wo.alloc (.cells #[.string x.nm,.slice x.ra d x.rc] 65):=⟨_,rfl⟩
   have f6:Fr wo W6:=by rw [hW6]; exact (Fr.refl _).alloc _
   obtain ⟨xb,hxb⟩:∃ xb,xb=wo.heap.size:=⟨_,rfl⟩
   have hX6:Cel2 W6 xb (.string x.nm) (.slice x.ra d x.rc):=by rw [hW6,hxb]; exact Cel2.new _ _ _ _
   go_upto_region 11 with (fail)
   rw [← hW6,← hxb]
   clear hW6 hc1 hc2
   have hF6:=hf.trans f6
   replace hX6:=hZ hX6
   replace hxb:=hZ hxb
   replace hxi:=hZ hxi
   go_wp2_with fail
   go_loopg [10] (M - (i+1)) (fun k s10 wr=>∃ j:Nat,s10=.int .i64 j∧i < j∧j+k=M∧Fr W6 wr)
   case atStart=>exact ⟨i+1,by go_num,by omega,by omega,Fr.refl _⟩
   case round=>
    obtain ⟨j,rfl,hij,hjk,hf7⟩:=hrel
    have hF7:=hF6.trans hf7
    have hFr7:=f5.trans hF7
    obtain ⟨wv,rfl⟩:∃ wv:World,wv=wr:=⟨_,rfl⟩
    obtain ⟨kv,rfl⟩:∃ kv:Nat,kv=gk:=⟨_,rfl⟩
    have n0:=hF7.keep hN5.out.a
    by_cases hj:j < M
    ·have hdJ:decide (j < M)=true:=decide_eq_true hj
     obtain ⟨ab',ao',y,hae,hbl',hyj,hc1,hc2,-⟩:=(hsy.out.fr hFr7).at (i:=j) (by rw [← hM.out]; exact hj)
     injection hae with hae; injection hae with e1 e2
     subst e1; subst e2
     have hym:=List.mem_of_getElem? hyj
     rw [hrow.out y hym] at hc2
     have hp:=hprs.out i j x y hxi.out hyj hij
     have y0:(0:Int)≤(j:Int):=Int.natCast_nonneg _
     have y1:(j:Int) < (M:Int):=by omega
     obtain ⟨W8,hW8⟩:∃ W8,W8=wv.alloc (.cells #[.string y.nm,.slice y.ra d y.rc] 65):=⟨_,rfl⟩
     have f8:Fr wv W8:=by rw [hW8]; exact (Fr.refl _).alloc _
     obtain ⟨yb,hyb⟩:∃ yb,yb=wv.heap.size:=⟨_,rfl⟩
     have hY8:Cel2 W8 yb (.string y.nm) (.slice y.ra d y.rc):=by rw [hW8,hyb]; exact Cel2.new _ _ _ _
     have hi1:=hZ (fun W (hW:Fr W8 W)=>hin.out x hxm W ((hFr7.trans f8).trans hW))
     have hi2:=hZ (fun W (hW:Fr W8 W)=>hin.out y hym W ((hFr7.trans f8).trans hW))
     have hs1:=hZ (fun W (hW:Fr W8 W) g c g2 c2 h1 h2=>hst.out x y W ((hFr7.trans f8).trans hW) g c g2 c2 hxm hym hp h1 h2)
     replace hyj:=hZ hyj
     replace hp:=hZ hp
     go_upto_region 15 with (fail)
     rw [← hW8,← hyb]
     clear hW8 hc1 hc2 n0
     replace hyb:=hZ hyb
     have m0:=(hF7.trans f8).keep hN5.out.a
     have m1:=(hF7.trans f8).keep hN5.out.b
     have m2:=(hf7.trans f8).keep hX6.out.b
     have m3:=hY8.b
     generalize y.ra=ya at *
     generalize y.rc=yc at *
     generalize x.ra=xa at *
     generalize x.rc=xc at *
     replace hY8:=hZ hY8
     have hS0:=hZ (fun W' (hW':Fr W8 W')=>(⟨hW'.keep m0,hW'.keep m1,hW'.keep m2,hW'.keep m3⟩:W'.cell? ⟨nb,0,none⟩=some (.slice (some ⟨ab,ao,none⟩) M cN)∧W'.cell? ⟨nb,1,none⟩=some (.slice aA d cA)∧W'.cell? ⟨xb,1,none⟩=some (.slice xa d xc)∧W'.cell? ⟨yb,1,none⟩=some (.slice ya d yc)))
     have hd8:Fr W8 W8.drew:=(Fr.refl W8).drew
     refine wp_region_held_drew (S:=fun W'=>W'.cell? ⟨nb,0,none⟩=some (.slice (some ⟨ab,ao,none⟩) M cN)∧W'.cell? ⟨nb,1,none⟩=some (.slice aA d cA)∧W'.cell? ⟨xb,1,none⟩=some (.slice xa d xc)∧W'.cell? ⟨yb,1,none⟩=some (.slice ya d yc)) (by kernel_rfl) (hS0.out _ hd8) (fun hHeld=>?_)
     refine hK 0 ?_
     refine hK 1 ?_
     refine hK 2 ?_
     refine hK 4 ?_
     refine hK 5 ?_
     refine hC 3 (fun K hK=>?_)
     go_simp
     (refine (hi1.out _ hd8).mono ?_; rintro e wA ⟨gx,cx,rfl,hex,hfA⟩)
     go_wp2_with fail
     refine hK.out _ _ (hS0.out _ (hd8.trans hfA)) (fun hHeld=>?_)
     clear hK K
     refine hC 6 (fun K hK=>?_)
     go_simp
     (refine (hi2.out _ (hd8.trans hfA)).mono ?_; rintro e wB ⟨gy,cy,rfl,hey,hfB⟩)
     go_wp2_with fail
     refine hK.out _ _ (hS0.out _ ((hd8.trans hfA).trans hfB)) (fun hHeld=>?_)
     clear hK K
     refine hC 7 (fun K hK=>?_)
     go_simp
     (refine (hs1.out _ ((hd8.trans hfA).trans hfB) gx cx gy cy (hex.fr hfB) hey).mono ?_; rintro e wC ⟨rfl,hfC⟩)
     go_wp2_with fail
     refine hK.out _ _ (hS0.out _ (((hd8.trans hfA).trans hfB).trans hfC)) (fun hHeld=>?_)
     clear hK K
     refine hK 8 ?_
     refine hK 9 ?_
     refine hK 10 ?_
     refine hK 11 ?_
     refine hK 12 ?_
     refine wpAnyH_done (by kernel_rfl) ?_ _
     have hf9:Fr wv wC:=f8.trans (((hd8.trans hfA).trans hfB).trans hfC)
     have n0:=hf9.keep (hF7.keep hN5.out.a)
     clear hHeld m0 m1 m2 m3 hd8
     go_wp2_with fail
     go_roundg (kv - 1)
     case measure=>omega
     case rel=>exact ⟨j+1,by go_num,by omega,by omega,hf7.trans hf9⟩
    ·have hdJ:decide (j < M)=false:=decide_eq_false hj
     obtain rfl:M=j:=by omega
     go_wp2_with fail
     go_roundg (ko - 1)
     case measure=>omega
     case rel=>exact ⟨i+1,by go_num,by omega,hF7⟩
  ·have hdI:decide (i < M)=false:=decide_eq_false hi
   obtain rfl:M=i:=by omega
   have n0:=hf.keep hN5.out.a
   clear hst hin hprs
   have hW8:=hZ (hW65.out.fr hf)
   have hN8:=hZ (hN5.out.fr hf)
   have hL8:=hZ (hL5.out.fr hf)
   have hmB8:=hZ (hmB5.out.fr hf)
   clear hW65 hN5 hL5 hmB5
   go_upto_region 23 with (fail)
   obtain ⟨W7,hW7⟩:∃ W7,W7=wo.alloc (.map #[] 0):=⟨_,rfl⟩
   have f7:Fr wo W7:=by rw [hW7]; exact (Fr.refl _).alloc _
   obtain ⟨mb,hmb⟩:∃ mb,mb=wo.heap.size:=⟨_,rfl⟩
   have hsn7:SeenIs W7 mb []:=by rw [hW7,hmb]; exact SeenIs.nil wo
   rw [← hW7,← hmb]
   clear hW7
   have hnm:nb≠mb:=by have:=hN8.out.lt; omega
   have hlm:lb≠mb:=by have:=hL8.out.lt; omega
   have hwm:nb+1≠mb:=by have:=World.block_lt_of_cell? _ ⟨nb+1,0,none⟩ hW8.out.c0; have h9:(⟨nb+1,0,none⟩:Addr).block=nb+1:=rfl; rw [h9] at this; omega
   have hF7:=(f5.trans hf).trans f7
   have hFW:Hid (∀ W,Fx (·=mb) W7 W→Fr wo W):=fun W h=>((Fx.of_fr f7).trans h).toFr (fun k hk e=>by have e:k=mb:=e; omega)
   have hfwo:=f5.trans hf
   replace n0:=f7.keep n0
   replace hmb:=hZ hmb
   replace hsn7:=hZ hsn7
   clear hmm
   go_wp2_with fail
   go_loopg [103] M (fun k s103 wr=>∃ i:Nat,s103=.int .i64 i∧i+k=M∧Fx (·=mb) W7 wr∧Hid (SeenIs wr mb ((N.take i).map fun x=>rowTx (restU B x.row))))
   case atStart=>exact ⟨0,rfl,by omega,Fx.refl _ _,hsn7.out⟩
   case round=>
    clear hsn7 n0
    obtain ⟨i,rfl,hik,hfx,hsn⟩:=hrel
    have hFo:=hFW.out _ hfx
    have hFr:=hfwo.trans hFo
    obtain ⟨wv,rfl⟩:∃ wv:World,wv=wr:=⟨_,rfl⟩
    obtain ⟨kv,rfl⟩:∃ kv:Nat,kv=gk:=⟨_,rfl⟩
    by_cases hi:i < M
    ·have hdI:decide (i < M)=true:=decide_eq_true hi
     obtain ⟨ab,ao,x,rfl,hbl,hxi,hc1,hc2,-⟩:=(hsy.out.fr hFr).at (i:=i) (by rw [← hM.out]; exact hi)
     have hxm:=List.mem_of_getElem? hxi
     rw [hrow.out x hxm] at hc2
     have z0:(0:Int)≤(i:Int):=Int.natCast_nonneg _
     have z1:(i:Int) < (M:Int):=by omega
     obtain ⟨W6,hW6⟩:∃ W6,W6=wv.alloc (.cells #[.string x.nm,.slice x.ra d x.rc] 65):=⟨_,rfl⟩
     have f6:Fr wv W6:=by rw [hW6]; exact (Fr.refl _).alloc _
     obtain ⟨xb,hxb⟩:∃ xb,xb=wv.heap.size:=⟨_,rfl⟩
     have hX6:Cel2 W6 xb (.string x.nm) (.slice x.ra d x.rc):=by rw [hW6,hxb]; exact Cel2.new _ _ _ _
     have hfr6:=hFr.trans f6
     have hr1:=hZ (fun W (hW:Fr W6 W)=>hrd.out x hxm W (hfr6.trans hW) bA bc ((hmB8.out.fr hFo).fr (f6.trans hW)) hcp)
     have hk1:=hZ (fun W (hW:Fr W6 W) g c h=>hky.out x hxm W (hfr6.trans hW) g c h)
     have hks1:=hks.out x hxm
     have hsn9:(N.take (i+1)).map (fun x=>rowTx (restU B x.row))=(N.take i).map (fun x=>rowTx (restU B x.row)) ++ [rowTx (restU B x.row)]:=by rw [take_snoc hxi,List.map_append]; rfl
     obtain ⟨K,hK⟩:∃ K,K=rowTx (restU B x.row):=⟨_,rfl⟩
     rw [← hK] at hk1 hks1 hsn9
     have hlk:((N.take i).map (fun x=>rowTx (restU B x.row))).length≤1000000:=by rw [List.length_map,List.length_take]; omega
     replace hK:=hZ hK
     replace hsn9:=hZ hsn9
     replace hxi:=hZ hxi
     go_upto_region 26 with (fail)
     rw [← hW6,← hxb]
     clear hW6 hc1 hc2
     replace hxb:=hZ hxb
     have m1:=(hFo.trans f6).keep hL8.out.b
     have m2:=hX6.b
     generalize x.ra=xa at *
     generalize x.rc=xc at *
     generalize x.nm=xn at *
     replace hX6:=hZ hX6
     go_wp2_with fail
     refine (hr1.out _ (Fr.refl _)).mono ?_
     rintro e wA ⟨gr,cr,g2,c2,rfl,hel,hfA⟩
     have hk2:=hZ (hk1.out _ hfA gr cr hel)
     clear hel m1 m2 hr1 hk1
     go_wp2_with fail
     refine hk2.out.mono ?_
     rintro e wB ⟨rfl,hfB⟩
     have hsnB:=hZ (hsn.out.fr ((f6.trans hfA).trans hfB))
     have hfxB:=hfx.fr ((f6.trans hfA).trans hfB)
     clear hsn
     go_wp2_with (at_mapUpdate; refine wpList_see _ mb _ K rfl _ _ _ rfl (by rfl) (by rfl) (by rfl) hsnB.out hlk (by unfold maxLen; omega) ?_; intro w4 hsn4 hfx4; replace hsn4:=hZ hsn4)
     have hfx5:=hfxB.trans hfx4
     have n0:=(hFW.out _ hfx5).keep hN8.out.a
     go_wp2_with fail
     go_roundg (kv - 1)
     case measure=>omega
     case rel=>exact ⟨i+1,by go_num,by omega,hfx5,by show SeenIs _ _ _; rw [hsn9.out]; exact hsn4.out⟩
    ·have hdI:decide (i < M)=false:=decide_eq_false hi
     obtain rfl:M=i:=by omega
     have hsn9:=hsn.out
     rw [List.take_of_length_le (by rw [← hM.out]; exact Nat.le_refl _)] at hsn9
     have hab1:=hZ (hab.out _ hFr bA bc mb (hmB8.out.fr hFo) hsn9)
     have m1:=hFo.keep hL8.out.b
     have hW9:=hW8.out.fr hFo
     clear hsn9 hsn
     replace hW9:=hZ hW9
     go_wp2_with fail
     refine hab1.out.mono ?_
     clear hab1
     intro e w9 hres
     unfold AbsRet at hres
     cases res with
     | none=>
       obtain ⟨rfl,hf9⟩:=hres
       have hW10:=hZ ((hW9.out.fr hf9).stored (.bool false) (.slice none 0 0) (.int .i64 0) (.slice none 0 0) (.int .i64 0) (.slice none 0 0))
       have hfx10:=hZ (wit_fx w9 (nb+1) (.bool false) (.slice none 0 0) (.int .i64 0) (.slice none 0 0) (.int .i64 0) (.slice none 0 0))
       obtain ⟨c0,c1,c2,c3,c4,c5,e0,e1,e2,e3,e4,e5⟩:=hW9.out.fr hf9
       go_wp2_with fail
       obtain ⟨q0,q1,q2,q3,q4,q5,-⟩:=hW10.out
       refine bodyPost_ret (v:=.tuple #[.bool true,noWit,.int .i64 0]) (by unfold noWit; simp [results,Tryz.results17,go_sem,q0,q1,q2,q3,q4,q5]) rfl ?_
       exact ⟨rfl,((Fx.of_fr (hFr.trans hf9)).trans hfx10.out).toFr (fun k hk e=>by have e:k=nb+1:=e; have:=hnb.out; omega)⟩
     | some x=>
       obtain ⟨gx,cx,rfl,hel,hgx,hxl,hf9⟩:=hres
       have hW10:=hZ ((hW9.out.fr hf9).stored (.bool true) (.slice (some ⟨gx,0,none⟩) d cx) (.int .i64 0) (.slice none 0 0) (.int .i64 0) (.slice none 0 0))
       have hfx10:=hZ (wit_fx w9 (nb+1) (.bool true) (.slice (some ⟨gx,0,none⟩) d cx) (.int .i64 0) (.slice none 0 0) (.int .i64 0) (.slice none 0 0))
       have hwl:=World.block_lt_of_cell? _ ⟨nb+1,0,none⟩ hW9.out.c0
       obtain ⟨c0,c1,c2,c3,c4,c5,e0,e1,e2,e3,e4,e5⟩:=hW9.out.fr hf9
       replace hel:=hZ hel
       replace hwl:=hZ hwl
       go_wp2_with fail
       obtain ⟨q0,q1,q2,q3,q4,q5,-⟩:=hW10.out
       refine bodyPost_ret (v:=.tuple #[.bool false,.agg #[.bool true,.slice (some ⟨gx,0,none⟩) d cx,.int .i64 0,.slice none 0 0,.int .i64 0,.slice none 0 0],.int .i64 0]) (by simp [results,Tryz.results17,go_sem,q0,q1,q2,q3,q4,q5]) rfl ?_
       exact ⟨gx,cx,rfl,hel.out.fx hfx10.out (fun e=>by have e:gx=nb+1:=e; have h9:nb+1 < wv.heap.size:=hwl.out; omega),hxl,((Fx.of_fr (hFr.trans hf9)).trans hfx10.out).toFr (fun k hk e=>by have e:k=nb+1:=e; have:=hnb.out; omega)⟩
theorem NcheckSp_any (aN aA:Option Addr) (cN cA:Nat) (N A:List Sy) (i:Int) (cs:List Int) (ca:Option Addr) (cc:Nat) (w:World) (hcs:El w iv ca cs) (hl:cs.length≤1000000000) (_hN:N.length≤1000000000) (_hA:A.length≤1000000000) :
 Calls Tryz.prog 37 #[.agg #[.slice aN N.length cN,.slice aA A.length cA],.agg #[.int .i64 i,.slice ca cs.length cc]] w fun e w'=>e=.returned (.int .i64 (spE N A i cs))∧Fr w w':=by
 have hck:=fun W (hW:Fr w W)=>Check_row cs ca cc W (hcs.fr hW) hl
 replace hck:=hZ hck
 clear hcs
 have hf2:Fr w ((w.alloc (.cells #[.slice aN N.length cN,.slice aA A.length cA] 32)).alloc (.cells #[.int .i64 i,.slice ca cs.length cc] 37)):=((Fr.refl w).alloc _).alloc _
 replace hf2:=hZ hf2
 by_cases h1:i < 0
 ·have hfin:=hZ (show spE N A i cs=10 by unfold spE; rw [if_pos (.inl h1)])
  have d1:decide (i < 0)=true:=decide_eq_true h1
  go_enter Tryz.func37,Tryz.ntmps37
  go_wp2_with fail
  go_ret
  exact ⟨ret_int hfin.out.symm,hf2.out⟩
 ·by_cases h2:(N.length:Int)≤i
  ·have hfin:=hZ (show spE N A i cs=10 by unfold spE; rw [if_pos (.inr h2)])
   have d1:decide (i < 0)=false:=decide_eq_false h1
   have d2:decide ((N.length:Int)≤i)=true:=decide_eq_true h2
   go_enter Tryz.func37,Tryz.ntmps37
   go_wp2_with fail
   go_ret
   exact ⟨ret_int hfin.out.symm,hf2.out⟩
  ·have d1:decide (i < 0)=false:=decide_eq_false h1
   have d2:decide ((N.length:Int)≤i)=false:=decide_eq_false h2
   by_cases h3:cs.length=A.length
   ·have hfin:=hZ (show spE N A i cs=rowE cs by unfold spE; rw [if_neg (by omega),if_neg (by rw [h3]; simp)])
    have q3:((cs.length:Int) != A.length)=false:=by rw [h3]; simp
    replace h3:=hZ h3
    go_enter Tryz.func37,Tryz.ntmps37
    go_wp2_with fail
    refine (hck.out _ hf2.out).mono ?_
    rintro e w3 ⟨rfl,hf3⟩
    go_wp2_with fail
    go_ret
    exact ⟨ret_int hfin.out.symm,hf2.out.trans hf3⟩
   ·have hfin:=hZ (show spE N A i cs=5 by unfold spE; rw [if_neg (by omega),if_pos h3])
    have q3:((cs.length:Int) != A.length)=true:=by rw [bne_iff_ne]; omega
    replace h3:=hZ h3
    go_enter Tryz.func37,Tryz.ntmps37
    go_wp2_with fail
    go_ret
    exact ⟨ret_int hfin.out.symm,hf2.out⟩
structure NtOk (RN RA:List (List Int)) (d:Nat) (I:List (List Rat)):Prop where
 d1:1≤d
 d6:d≤6
 lenA:RA.length=d
 n1:1≤RN.length
 n60:RN.length≤60
 rowA:∀ q,q ∈ RA→q.length=d∧∀ x,x ∈ q→fitB x=true
 rowN:∀ q,q ∈ RN→q.length=d∧∀ x,x ∈ q→fitB x=true
 inv:∃ Fq,redTo (augM RA) d=some Fq∧Fq.lead.length=d∧Fq.g.map (List.drop d)=I
 rowI:∀ q,q ∈ I→q.length=d
 lenI:I.length=d
theorem UqOk.nt {RN RA:List (List Int)} {d:Nat} {B:List (List Int)} {I:List (List Rat)} {res:Option (List Int)} (h:UqOk RN RA d B I res):NtOk RN RA d I :=
 ⟨h.d1,h.d6,h.lenA,h.n1,h.n60,h.rowA,h.rowN,h.inv,h.rowI,h.lenI⟩
def toS (I:List (List Rat)) (d:Nat) (x r:List Int):Option (List Int):=solveS I (List.zipWith (· - ·) r x) d
def SpRet (w:World) (i:Int) (cs:List Int) (d:Nat) (e:Ending) (w':World):Prop:=∃ g c,e=.returned (.tuple #[.agg #[.int .i64 i,.slice (some ⟨g,0,none⟩) d c],.int .i64 0])∧El w' iv (some ⟨g,0,none⟩) cs∧cs.length=d∧Fr w w'
end Go.Proofs.YtkjemicelmabdaaGreatDoor
