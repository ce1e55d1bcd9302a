/-
  Contracts and laws for the statements of the seat, QUG.
-/
import Derived.Test.YtkjemicelmabdaaGreatDoorQL
import Derived.Test.YtkjemicelmabdaaGreatDoorQP
import Derived.Test.YtkjemicelmabdaaGreatDoorQNA
import Derived.Test.YtkjemicelmabdaaGreatDoorQF
import Derived.Lib.SliceRun
import Derived.Test.YtkjemicelmabdaaGreatDoorQPM

set_option maxRecDepth 100000
set_option maxHeartbeats 16000000
namespace Go.Proofs.YtkjemicelmabdaaGreatDoor
open Go.RowKit Go.Lib
attribute [local go_sem ↓] Go.wp_at_zero Go.wp_at_succ
theorem own_el {w:World} {b:Nat} {t:TypeId} {v:Value} {n:Nat} {xs:List Int} (h:w.ownsRow b t 1 v n (xs.map sv)) (hn:n=xs.length) (hb:gN≤b):∃ a c,v=.slice a n c∧El w sv a xs:=by
 obtain ⟨a9,c9,rfl,h9⟩:=ownsRow_slice h
 refine ⟨a9,c9,rfl, ?_⟩
 rcases h9 with h9 | ⟨g,rfl⟩
 ·exact .inl (List.eq_nil_of_length_eq_zero (by omega))
 ·exact (ownsRow_own hb h).1.el
def ElS (s:Nat) (w:World) (a:Option Addr) (xs:List Int):Prop:=xs=[]∨∃ g,a=some ⟨g,0,none⟩∧s≤g∧El w iv a xs
theorem ElS.el {s:Nat} {w:World} {a:Option Addr} {xs:List Int} (h:ElS s w a xs):El w iv a xs:=by
 rcases h with h | ⟨g,-,-,h⟩
 ·exact .inl h
 ·exact h
theorem ElS.fr {s:Nat} {w w':World} {a:Option Addr} {xs:List Int} (h:ElS s w a xs) (k:Fr w w'):ElS s w' a xs:=by
 rcases h with h | ⟨g,h1,h2,h⟩
 ·exact .inl h
 ·exact .inr ⟨g,h1,h2,h.fr k⟩
theorem ElS.le {s s':Nat} {w:World} {a:Option Addr} {xs:List Int} (h:ElS s w a xs) (k:s'≤s):ElS s' w a xs:=by
 rcases h with h | ⟨g,h1,h2,h⟩
 ·exact .inl h
 ·exact .inr ⟨g,h1,by omega,h⟩
theorem ElS.fx {s r:Nat} {w w':World} {a:Option Addr} {xs:List Int} (h:ElS s w a xs) (k:Fx (·=r) w w') (hr:r < s):El w' iv a xs:=by
 rcases h with h | ⟨g,rfl,h2,h⟩
 ·exact .inl h
 ·exact h.fx k (fun e=>by have e:g=r:=e; omega)
theorem own_eli {w:World} {b:Nat} {t:TypeId} {v:Value} {n:Nat} {xs:List Int} (h:w.ownsRow b t 1 v n (xs.map iv)) (hn:n=xs.length) (hb:gN≤b):∃ a c,v=.slice a n c∧ElS b w a xs:=by
 obtain ⟨a9,c9,rfl,h9⟩:=ownsRow_slice h
 refine ⟨a9,c9,rfl, ?_⟩
 rcases h9 with h9 | ⟨g,rfl⟩
 ·exact .inl (List.eq_nil_of_length_eq_zero (by omega))
 ·have:=ownsRow_ownI hb h
  exact .inr ⟨g,rfl,this.2.2.2.1,this.1.el⟩
def NoPr (pr:Nat→Nat→Option (List Int)) (M i j:Nat):Prop:=∀ i' j',(i' < i∨(i'=i∧j' < j))→i' < j'→j' < M→pr i' j'=none
theorem NoPr.next {pr:Nat→Nat→Option (List Int)} {M i j:Nat} (h:NoPr pr M i j) (h0:pr i j=none):NoPr pr M i (j+1):=fun i' j' a b c=>by
 by_cases e:i'=i∧j'=j
 ·rw [e.1,e.2]; exact h0
 ·exact h i' j' (by omega) b c
theorem NoPr.row {pr:Nat→Nat→Option (List Int)} {M i:Nat} (h:NoPr pr M i M):NoPr pr M (i+1) (i+2):=fun i' j' a b c=>h i' j' (by omega) b c
def UqPost (w:World) (N:List Sy) (M d:Nat) (pr:Nat→Nat→Option (List Int)) (res:Option (List Int)) (e:Ending) (w':World):Prop :=
 (∃ i j cs y a1 c1 a2 c2 a3 c3,i < j∧j < M∧pr i j=some cs∧NoPr pr M i j∧N[j]?=some y∧e=.returned (.tuple #[.bool false,.agg #[.bool false,.slice a1 d c1,.int .i64 (i:Nat),.slice a2 d c2,.int .i64 (j:Nat),.slice a3 d c3],.int .i64 0])∧El w' iv a1 y.row∧El w' iv a2 cs∧El w' iv a3 (List.replicate d 0)∧Fr w w') ∨
 ((∀ i j,i < j→j < M→pr i j=none)∧UqRet w d res e w')
theorem Unique_gen (N A:List Sy) (d M:Nat) (B:List (List Int)) (R:List Int→List Int) (PI:World→Value→List Int→Prop) (pr:Nat→Nat→Option (List Int)) (res:Option (List Int)) (aN aA:Option Addr) (cN cA:Nat) (w:World) (hG:G w) (hn:NotIs w aN aA cA N A)
 (hM:M=N.length) (n1:1≤M) (n60:M≤60) (d6:d≤6) (lenA:A.length=d) (lenB:B.length=d) (hrow:∀ x,x ∈ N→x.row.length=d) (hPI:∀ W W' v xs,PI W v xs→Fr W W'→PI W' v xs)
 (hck:∀ W,Fr w W→Calls Tryz.prog 27 #[.agg #[.slice aN M cN,.slice aA d cA]] W fun e w'=>e=.returned (.int .i64 0)∧Fr W w')
 (hof:∀ W (_:Fr w W) a c (_:MatIs W a (A.map Sy.row)),Calls Tryz.prog 54 #[.int .i64 d,.slice a d c] W (LatRetC W d B))
 (hin:∀ (x:Sy) (_:x ∈ N) (W:World) (_:Fr w W),Calls Tryz.prog 29 #[.slice x.ra d x.rc] W fun e w'=>∃ v,e=.returned v∧PI w' v x.row∧Fr W w')
 (hst:∀ (i j:Nat) (x y:Sy) (_:N[i]?=some x) (_:N[j]?=some y) (_:i < j) (W:World) (_:Fr w W) v1 v2 (_:PI W v1 x.row) (_:PI W v2 y.row),Calls Tryz.prog 28 #[.agg #[.slice aN M cN,.slice aA d cA],v1,v2] W (SolveRet W (pr i j)))
 (hpr:∀ i j cs,i < j→j < M→pr i j=some cs→cs.length=d∧cs.all fitB=true)
 (hcl:∀ (x:Sy) (_:x ∈ N) (W:World) (_:Fr w W),Calls Tryz.prog 56 #[.slice x.ra d x.rc] W fun e w'=>∃ a c,e=.returned (.slice a d c)∧ElS W.heap.size w' a x.row∧Fr W w')
 (hrd:∀ (x:Sy) (_:x ∈ N) (W:World) (_:Fr w W) (a:Option Addr) (c:Nat) (_:MatIs W a B) (_:d≤c),Calls Tryz.prog 57 #[.slice a d c,.slice x.ra d x.rc] W (fun e w'=>∃ a1 c1 a2 c2,e=.returned (.tuple #[.slice a1 d c1,.slice a2 d c2,.int .i64 0])∧El w' iv a1 (R x.row)∧Fr W w'))
 (hky:∀ (x:Sy) (_:x ∈ N) (W:World) (_:Fr w W) (a:Option Addr) (c:Nat) (_:El W iv a (R x.row)),Calls Tryz.prog 58 #[.slice a d c] W (fun e w'=>e=.returned (.string (rowTx (R x.row)))∧Fr W w'))
 (hks:∀ x,x ∈ N→(rowTx (R x.row)).size≤1000)
 (hab:∀ (W:World) (_:Fr w W) (a:Option Addr) (c mb:Nat) (_:MatIs W a B) (_:SeenIs W mb (N.map fun x=>rowTx (R x.row))),Calls Tryz.prog 59 #[.slice a d c,.int .i64 d,.map (some mb)] W (AbsRet W d res)) :
 Calls Tryz.prog 17 #[.agg #[.slice aN M cN,.slice aA d cA]] w (UqPost w N M d pr res):=by
 have hgn:=gN_le hG
 have hacc:=hZ (fun W (hW:Fr w W)=>Accs_any aN aA M cN cA A W (hG.fr hW) (hn.accs.fr hW) (by omega))
 rw [lenA] at hacc
 have hbk:=hZ (fun (cs:List Int) (hc:cs.all fitB=true) (hl:cs.length=d) (W:World) (hW:Fr w W) (a:Option Addr) (c:Nat) (h:El W sv a cs)=>by
  have h9:=(NBack_any cs a c W (hG.fr hW) h (by omega) (fun x hx=>by have:=fits_sm (List.all_eq_true.1 hc x hx); exact ⟨by have:=this.1; omega,by have:=this.2; omega⟩))
  rw [hl] at h9
  exact h9.mono fun e w' h=>(h.1 hc))
 have hgw:∀ W,Fr w W→gN≤W.heap.size:=fun W hW=>gN_le (hG.fr hW)
 replace hof:=hZ hof
 replace hst:=hZ hst
 replace hin:=hZ hin
 replace hrd:=hZ hrd
 replace hky:=hZ hky
 replace hks:=hZ hks
 replace hab:=hZ hab
 replace hcl:=hZ hcl
 replace hpr:=hZ hpr
 replace hPI:=hZ hPI
 replace hrow:=hZ hrow
 replace hgw:=hZ hgw
 have hsy:=hZ hn.noms
 replace hck:=hZ hck
 replace hM:=hZ hM
 clear hG hn lenA
 replace lenB:=hZ lenB
 have hmm:=@run_makeMap Tryz.prog
 go_enter Tryz.func17,Tryz.ntmps17
 go_upto_region 1 with (fail)
 obtain ⟨nb,hnb⟩:∃ nb,nb=w.heap.size:=⟨_,rfl⟩
 obtain ⟨W1,hW1⟩:∃ W1,W1=(w.alloc (.cells #[.slice aN M cN,.slice aA d cA] 32)).alloc (.cells #[.bool false,.slice none 0 0,.int .i64 0,.slice none 0 0,.int .i64 0,.slice none 0 0] 52):=⟨_,rfl⟩
 have f1:Fr w W1:=by rw [hW1]; exact ((Fr.refl _).alloc _).alloc _
 have hN1:Cel2 W1 nb (.slice aN M cN) (.slice aA d cA):=by rw [hW1,hnb]; exact (Cel2.new w _ _ _).fr ((Fr.refl _).alloc _)
 have hW6:Wit6 W1 (nb+1) (.bool false) (.slice none 0 0) (.int .i64 0) (.slice none 0 0) (.int .i64 0) (.slice none 0 0):=by
  have:=Wit6.new (w.alloc (.cells #[.slice aN M cN,.slice aA d cA] 32)) (.bool false) (.slice none 0 0) (.int .i64 0) (.slice none 0 0) (.int .i64 0) (.slice none 0 0) 52
  rw [World.size_alloc] at this
  rw [hW1,hnb]; exact this
 rw [← hW1,← hnb]
 clear hW1
 replace hnb:=hZ hnb
 have n0:=hN1.a
 have n1':=hN1.b
 replace hW6:=hZ hW6
 replace hN1:=hZ hN1
 go_wp2_with fail
 refine (hck.out _ f1).mono ?_
 rintro e w2 ⟨rfl,hf2⟩
 replace n0:=hf2.keep n0
 replace n1':=hf2.keep n1'
 have f2:=f1.trans hf2
 go_wp2_with fail
 refine (hacc.out _ f2).mono ?_
 rintro e w3 ⟨a3,c3,rfl,hm3,hf3⟩
 have f3:=f2.trans hf3
 have hof3:=hZ (hof.out _ f3 a3 c3 hm3)
 clear hm3 hof hacc hck
 go_wp2_with fail
 refine hof3.out.mono ?_
 rintro e w4 ⟨bA,bc,rfl,hcp,hmB,hf4⟩
 rw [lenB.out] at hcp ⊢
 obtain ⟨W5,hW5⟩:∃ W5,W5=w4.alloc (.cells #[.int .i64 d,.slice bA d bc] 109):=⟨_,rfl⟩
 have f45:Fr w4 W5:=by rw [hW5]; exact (Fr.refl _).alloc _
 obtain ⟨lb,hlb⟩:∃ lb,lb=w4.heap.size:=⟨_,rfl⟩
 have hL5:Cel2 W5 lb (.int .i64 d) (.slice bA d bc):=by rw [hW5,hlb]; exact Cel2.new _ _ _ _
 have hmB5:=hmB W5 (Fx.of_fr f45)
 have f35:=(hf3.trans hf4).trans f45
 have f5:=f2.trans f35
 have f15:=hf2.trans f35
 go_upto_region 6 with (fail)
 rw [← hW5,← hlb]
 clear hW5 hmB n0 n1' hof3
 have n0:=hN1.out.a
 replace n0:=f15.keep n0
 replace hmB5:=hZ hmB5
 replace hL5:=hZ hL5
 have hW65:=hZ (hW6.out.fr f15)
 have hN5:=hZ (hN1.out.fr f15)
 clear hN1 hW6 f1 f2 f3 f15 f35 f45 hf2 hf3 hf4
 replace hlb:=hZ hlb
 go_wp2_with fail
 go_loopg [47] M (fun k s47 wr=>∃ i:Nat,s47=.int .i64 i∧i+k=M∧Fr W5 wr∧Hid (NoPr pr M i (i+1)))
 case atStart=>exact ⟨0,rfl,by omega,Fr.refl _,hZ (fun i' j' a b c=>by omega)⟩
 case round=>
  clear n0
  obtain ⟨i,rfl,hik,hf,hno⟩:=hrel
  have hFr:=f5.trans hf
  obtain ⟨wo,rfl⟩:∃ wo:World,wo=wr:=⟨_,rfl⟩
  obtain ⟨ko,rfl⟩:∃ ko:Nat,ko=gk:=⟨_,rfl⟩
  by_cases hi:i < M
  ·have hdI:decide (i < M)=true:=decide_eq_true hi
   obtain ⟨ab,ao,x,rfl,hbl,hxi,hc1,hc2,-⟩:=(hsy.out.fr hFr).at (i:=i) (by rw [← hM.out]; exact hi)
   have hxm:=List.mem_of_getElem? hxi
   rw [hrow.out x hxm] at hc2
   have z0:(0:Int)≤(i:Int):=Int.natCast_nonneg _
   have z1:(i:Int) < (M:Int):=by omega
   obtain ⟨W6,hW6⟩:∃ W6,W6=wo.alloc (.cells #[.string x.nm,.slice x.ra d x.rc] 65):=⟨_,rfl⟩
   have f6:Fr wo W6:=by rw [hW6]; exact (Fr.refl _).alloc _
   obtain ⟨xb,hxb⟩:∃ xb,xb=wo.heap.size:=⟨_,rfl⟩
   have hX6:Cel2 W6 xb (.string x.nm) (.slice x.ra d x.rc):=by rw [hW6,hxb]; exact Cel2.new _ _ _ _
   go_upto_region 11 with (fail)
   rw [← hW6,← hxb]
   clear hW6 hc1 hc2
   have hF6:=hf.trans f6
   replace hX6:=hZ hX6
   replace hxb:=hZ hxb
   replace hxi:=hZ hxi
   go_wp2_with fail
   go_loopg [10] (M - (i+1)) (fun k s10 wr=>∃ j:Nat,s10=.int .i64 j∧i < j∧j+k=M∧Fr W6 wr∧Hid (NoPr pr M i j))
   case atStart=>exact ⟨i+1,by go_num,by omega,by omega,Fr.refl _,hno⟩
   case round=>
    clear hno
    obtain ⟨j,rfl,hij,hjk,hf7,hno⟩:=hrel
    have hF7:=hF6.trans hf7
    have hFr7:=f5.trans hF7
    obtain ⟨wv,rfl⟩:∃ wv:World,wv=wr:=⟨_,rfl⟩
    obtain ⟨kv,rfl⟩:∃ kv:Nat,kv=gk:=⟨_,rfl⟩
    have n0:=hF7.keep hN5.out.a
    by_cases hj:j < M
    ·have hdJ:decide (j < M)=true:=decide_eq_true hj
     obtain ⟨ab',ao',y,hae,hbl',hyj,hc1,hc2,-⟩:=(hsy.out.fr hFr7).at (i:=j) (by rw [← hM.out]; exact hj)
     injection hae with hae; injection hae with e1 e2
     subst e1; subst e2
     have hym:=List.mem_of_getElem? hyj
     rw [hrow.out y hym] at hc2
     have y0:(0:Int)≤(j:Int):=Int.natCast_nonneg _
     have y1:(j:Int) < (M:Int):=by omega
     obtain ⟨W8,hW8⟩:∃ W8,W8=wv.alloc (.cells #[.string y.nm,.slice y.ra d y.rc] 65):=⟨_,rfl⟩
     have f8:Fr wv W8:=by rw [hW8]; exact (Fr.refl _).alloc _
     obtain ⟨yb,hyb⟩:∃ yb,yb=wv.heap.size:=⟨_,rfl⟩
     have hY8:Cel2 W8 yb (.string y.nm) (.slice y.ra d y.rc):=by rw [hW8,hyb]; exact Cel2.new _ _ _ _
     have hi1:=hZ (fun W (hW:Fr W8 W)=>hin.out x hxm W ((hFr7.trans f8).trans hW))
     have hi2:=hZ (fun W (hW:Fr W8 W)=>hin.out y hym W ((hFr7.trans f8).trans hW))
     have hs1:=hZ (fun W (hW:Fr W8 W) v1 v2 h1 h2=>hst.out i j x y hxi.out hyj hij W ((hFr7.trans f8).trans hW) v1 v2 h1 h2)
     have hcl1:=hZ (fun W (hW:Fr W8 W)=>hcl.out y hym W ((hFr7.trans f8).trans hW))
     have hcf:=hZ (fun cs (h:pr i j=some cs)=>hpr.out i j cs hij hj h)
     replace hyj:=hZ hyj
     go_upto_region 15 with (fail)
     rw [← hW8,← hyb]
     clear hW8 hc1 hc2 n0
     replace hyb:=hZ hyb
     have m0:=(hF7.trans f8).keep hN5.out.a
     have m1:=(hF7.trans f8).keep hN5.out.b
     have m2:=(hf7.trans f8).keep hX6.out.b
     have m3:=hY8.b
     generalize y.ra=ya at *
     generalize y.rc=yc at *
     generalize x.ra=xa at *
     generalize x.rc=xc at *
     replace hY8:=hZ hY8
     have hS0:=hZ (fun W' (hW':Fr W8 W')=>(⟨hW'.keep m0,hW'.keep m1,hW'.keep m2,hW'.keep m3⟩:W'.cell? ⟨nb,0,none⟩=some (.slice (some ⟨ab,ao,none⟩) M cN)∧W'.cell? ⟨nb,1,none⟩=some (.slice aA d cA)∧W'.cell? ⟨xb,1,none⟩=some (.slice xa d xc)∧W'.cell? ⟨yb,1,none⟩=some (.slice ya d yc)))
     have hd8:Fr W8 W8.drew:=(Fr.refl W8).drew
     cases hpij:pr i j with
     | none=>
       replace hpij:=hZ hpij
       refine wp_region_held_drew (S:=fun W'=>W'.cell? ⟨nb,0,none⟩=some (.slice (some ⟨ab,ao,none⟩) M cN)∧W'.cell? ⟨nb,1,none⟩=some (.slice aA d cA)∧W'.cell? ⟨xb,1,none⟩=some (.slice xa d xc)∧W'.cell? ⟨yb,1,none⟩=some (.slice ya d yc)) (by kernel_rfl) (hS0.out _ hd8) (fun hHeld=>?_)
       refine hK 0 ?_
       refine hK 1 ?_
       refine hK 2 ?_
       refine hK 4 ?_
       refine hK 5 ?_
       refine hC 3 (fun K hK=>?_)
       go_simp
       (refine (hi1.out _ hd8).mono ?_; rintro e wA ⟨vx,rfl,hex,hfA⟩)
       go_wp2_with fail
       refine hK.out _ _ (hS0.out _ (hd8.trans hfA)) (fun hHeld=>?_)
       clear hK K
       refine hC 6 (fun K hK=>?_)
       go_simp
       (refine (hi2.out _ (hd8.trans hfA)).mono ?_; rintro e wB ⟨vy,rfl,hey,hfB⟩)
       go_wp2_with fail
       refine hK.out _ _ (hS0.out _ ((hd8.trans hfA).trans hfB)) (fun hHeld=>?_)
       clear hK K
       refine hC 7 (fun K hK=>?_)
       go_simp
       (refine (hs1.out _ ((hd8.trans hfA).trans hfB) vx vy (hPI.out _ _ _ _ hex hfB) hey).mono ?_; intro e wC hsr; rw [hpij.out] at hsr; obtain ⟨rfl,hfC⟩:=hsr)
       go_wp2_with fail
       refine hK.out _ _ (hS0.out _ (((hd8.trans hfA).trans hfB).trans hfC)) (fun hHeld=>?_)
       clear hK K
       refine hK 8 ?_
       refine hK 9 ?_
       refine hK 10 ?_
       refine hK 11 ?_
       refine hK 12 ?_
       refine wpAnyH_done (by kernel_rfl) ?_ _
       have hf9:Fr wv wC:=f8.trans (((hd8.trans hfA).trans hfB).trans hfC)
       have n0:=hf9.keep (hF7.keep hN5.out.a)
       clear hHeld m0 m1 m2 m3 hd8
       go_wp2_with fail
       go_roundg (kv - 1)
       case measure=>omega
       case rel=>exact ⟨j+1,by go_num,by omega,by omega,hf7.trans hf9,hno.out.next hpij.out⟩
     | some cs=>
       have hcf2:=hcf.out cs hpij
       replace hpij:=hZ hpij
       replace hcf2:=hZ hcf2
       refine wp_region_held_drew (S:=fun W'=>W'.cell? ⟨nb,0,none⟩=some (.slice (some ⟨ab,ao,none⟩) M cN)∧W'.cell? ⟨nb,1,none⟩=some (.slice aA d cA)∧W'.cell? ⟨xb,1,none⟩=some (.slice xa d xc)∧W'.cell? ⟨yb,1,none⟩=some (.slice ya d yc)) (by kernel_rfl) (hS0.out _ hd8) (fun hHeld=>?_)
       refine hK 0 ?_
       refine hK 1 ?_
       refine hK 2 ?_
       refine hK 4 ?_
       refine hK 5 ?_
       refine hC 3 (fun K hK=>?_)
       go_simp
       (refine (hi1.out _ hd8).mono ?_; rintro e wA ⟨vx,rfl,hex,hfA⟩)
       go_wp2_with fail
       refine hK.out _ _ (hS0.out _ (hd8.trans hfA)) (fun hHeld=>?_)
       clear hK K
       refine hC 6 (fun K hK=>?_)
       go_simp
       (refine (hi2.out _ (hd8.trans hfA)).mono ?_; rintro e wB ⟨vy,rfl,hey,hfB⟩)
       go_wp2_with fail
       refine hK.out _ _ (hS0.out _ ((hd8.trans hfA).trans hfB)) (fun hHeld=>?_)
       clear hK K
       refine hC 7 (fun K hK=>?_)
       go_simp
       (refine (hs1.out _ ((hd8.trans hfA).trans hfB) vx vy (hPI.out _ _ _ _ hex hfB) hey).mono ?_; intro e wC hsr; rw [hpij.out] at hsr; obtain ⟨cv,rfl,hownC,hfC⟩:=hsr; rw [hcf2.out.1] at hownC; obtain ⟨ca,cc,rfl,hcel⟩:=own_el hownC hcf2.out.1.symm (hgw.out _ (hFr7.trans (f8.trans ((hd8.trans hfA).trans hfB)))); replace hcel:=hZ hcel; clear hownC)
       go_wp2_with fail
       refine hK.out _ _ (hS0.out _ (((hd8.trans hfA).trans hfB).trans hfC)) (fun hHeld=>?_)
       clear hK K
       refine hK 8 ?_
       refine hK 9 ?_
       refine hK 10 ?_
       refine hK 11 ?_
       refine hK 12 ?_
       refine wpAnyH_done (by kernel_rfl) ?_ _
       have hf9:Fr W8 wC:=((hd8.trans hfA).trans hfB).trans hfC
       have hFC:=hFr7.trans (f8.trans hf9)
       have hbk1:=hZ (hbk.out cs hcf2.out.2 hcf2.out.1 _ hFC ca cc hcel.out)
       replace m3:=hf9.keep m3
       clear hHeld m0 m1 m2 hd8
       go_wp2_with fail
       refine hbk1.out.mono ?_
       rintro e wD ⟨bv,rfl,hownD,-,hfD⟩
       rw [hcf2.out.1] at hownD
       obtain ⟨ba,bc,rfl,hbel⟩:=own_eli hownD hcf2.out.1.symm (hgw.out _ hFC)
       clear hownD hbk1
       replace m3:=hfD.keep m3
       replace hbel:=hZ hbel
       go_wp2_with fail
       obtain ⟨i4,li,lz0,lz1,lz2⟩:=info_parts infoInt
       have hnw:Hid (nb+1 < wv.heap.size∧wv.heap.size≤wC.heap.size∧wC.heap.size≤wD.heap.size):=hZ ⟨World.block_lt_of_cell? _ ⟨nb+1,0,none⟩ (hW65.out.fr hF7).c0,(f8.trans hf9).size,hfD.size⟩
       have hS1:=hZ (fun W' (hW':Fr wD W')=>(hW'.keep m3:W'.cell? ⟨yb,1,none⟩=some (.slice ya d yc)))
       have hdD:Fr wD wD.drew:=(Fr.refl wD).drew
       clear hi1 hi2 hs1 hst hin hrd hky hab
       refine wp_region_held_drew (S:=fun W'=>W'.cell? ⟨yb,1,none⟩=some (.slice ya d yc)) (by kernel_rfl) (hS1.out _ hdD) (fun hHeld=>?_)
       refine hK 0 ?_
       change wpAnyH _ _ _ _ _ _ _ (Act.put _ (some 87) _) _
       simp only [Act.put,lsT,ls0,lsS]
       refine hK 1 ?_
       change wpAnyH _ _ _ _ _ _ _ (Act.put _ (some 88) _) _
       simp only [Act.put,lsT,ls0,lsS]
       refine hK 3 ?_
       change wpAnyH _ _ _ _ _ _ _ (Act.put _ (some 90) _) _
       simp only [Act.put,lsT,ls0,lsS]
       refine hK 4 ?_
       change wpAnyH _ _ _ _ _ _ _ (Act.put _ (some 91) _) _
       simp only [Act.put,lsT,ls0,lsS]
       refine hK 5 ?_
       change wpAnyH _ _ _ _ _ _ _ (Act.put _ (some 92) _) _
       simp only [Act.put,lsT,ls0,lsS]
       refine hK 6 ?_
       change wpAnyH _ _ _ _ _ _ _ (Act.put _ (some 93) _) _
       simp only [Act.put,lsT,ls0,lsS]
       refine hK 7 ?_
       change wpAnyH _ _ _ _ _ _ _ (Act.put _ (some 94) _) _
       simp only [Act.put,lsT,ls0,lsS]
       refine wpAnyH_ready (rs:=[2,8]) (by kernel_rfl) (by simp) ?_
       refine AllReadyH.cons rfl (fun K hK=>?_) (AllReadyH.cons rfl (fun K hK=>?_) AllReadyH.nil)
       ·
        go_simp
        refine (hcl1.out _ (hf9.trans (hfD.trans (by exact fr9)))).mono ?_
        rintro e wE ⟨ea,ec,rfl,helE,hfE⟩
        replace helE:=hZ (helE.le (show wC.heap.size≤_ from Fr.size (hfD.trans (by exact fr9))))
        go_wp2_with fail
        refine hK.out _ _ (hS1.out _ (by exact fr9)) (fun hHeld=>?_)
        clear hK K
        try simp only [Act.put,lsT]
        refine hK 11 ?_
        change wpAnyH _ _ _ _ _ _ _ (Act.put _ (some 2) _) _
        simp only [Act.put,lsT,ls0,lsS]
        refine hC 8 (fun K hK=>?_)
        refine step_make_full _ rfl _ _ 29 rfl wE.heap.size 3 i4 _ 1 Tryz.underlying29 li lz0 lz1 .i64 .i64 (d:Int) (d:Int) d (by simp [Act.eval]) (by simp [Act.eval]) rfl rfl (by rw [lz2]; omega) (by unfold maxLen; omega) (Nat.le_refl _) ?_
        intro wM hownM hgrM
        have hfM:Fr wE wM:=(Fr.refl _).grown hgrM (fun k e=>by cases e)
        rw [made_zero d rfl] at hownM
        obtain ⟨gO,hgO⟩:∃ gO,gO=wE.heap.size:=⟨_,rfl⟩
        have hszD:wD.heap.size≤gO:=by rw [hgO]; exact Fr.size (by exact fr9)
        rw [← hgO] at hownM ⊢
        replace hgO:=hZ hgO
        have hMk:ElS wD.heap.size wM (some ⟨gO,0,none⟩) (List.replicate d 0):=.inr ⟨_,rfl,hszD,(ownsRow_ownI (by rw [hgO.out]; exact hgw.out _ (hFC.trans (hfD.trans (by exact fr9)))) hownM).1.el⟩
        clear hownM hgrM
        replace hMk:=hZ hMk
        refine hK.out _ _ (hS1.out _ (by exact fr9)) (fun hHeld=>?_)
        clear hK K
        change wpAnyH _ _ _ _ _ _ _ (Act.put _ (some 95) _) _
        simp only [Act.put,lsT,ls0,lsS]
        refine hK 9 ?_
        change wpAnyH _ _ _ _ _ _ _ (Act.put _ (some 96) _) _
        simp only [Act.put,lsT,ls0,lsS]
        refine hK 10 ?_
        change wpAnyH _ _ _ _ _ _ _ (Act.put _ (some 97) _) _
        simp only [Act.put,lsT,ls0,lsS]
        have hFM:=hZ (hFC.trans (hfD.trans (hdD.trans (hfE.trans hfM))))
        have hWM:=hZ (hW65.out.fr (hF7.trans ((f8.trans hf9).trans (hfD.trans (hdD.trans (hfE.trans hfM))))))
        obtain ⟨c0,c1,c2,c3',c4,c5,e0,e1,e2,e3,e4,e5⟩:=hWM.out
        refine hC 12 (fun K hK=>?_)
        go_simp
        have hfx10:=hZ (wit_fx wM (nb+1) (.bool false) (.slice ea d ec) (.int .i64 i) (.slice ba d bc) (.int .i64 j) (.slice (some ⟨gO,0,none⟩) d d))
        have hW10:=hZ (hWM.out.stored (.bool false) (.slice ea d ec) (.int .i64 i) (.slice ba d bc) (.int .i64 j) (.slice (some ⟨gO,0,none⟩) d d))
        refine hK.out _ _ (hfx10.out.keep hHeld (fun e=>by have e:yb=nb+1:=e; have:=hyb.out; have:=hnw.out; omega)) (fun hHeld=>?_)
        clear hK K c0 c1 c2 c3' c4 c5 e0 e1 e2 e3 e4 e5
        refine hK 13 ?_
        change wpAnyH _ _ _ _ _ _ _ (Act.put _ (some 4) _) _
        simp only [Act.put,lsT,ls0,lsS]
        refine wpAnyH_done (by kernel_rfl) ?_ _
        go_wp2_with fail
        obtain ⟨q0,q1,q2,q3,q4,q5,-⟩:=hW10.out
        refine bodyPost_ret (v:=.tuple #[.bool false,.agg #[.bool false,.slice ea d ec,.int .i64 i,.slice ba d bc,.int .i64 j,.slice (some ⟨gO,0,none⟩) d d],.int .i64 0]) (by simp [results,Tryz.results17,go_sem,q0,q1,q2,q3,q4,q5]) rfl ?_
        refine .inl ⟨i,j,cs,y,ea,ec,ba,bc,_,_,hij,hj,hpij.out,hno.out,hyj.out,rfl,(helE.out.fr (by exact fr9)).fx hfx10.out (by have:=hnw.out; omega),(hbel.out.fr (by exact fr9)).fx hfx10.out (by have:=hnw.out; omega),hMk.out.fx hfx10.out (by have:=hnw.out; omega), ?_⟩
        exact ((Fx.of_fr hFM.out).trans hfx10.out).toFr (fun k hk e=>by have e:k=nb+1:=e; have:=hnb.out; omega)
       ·
        refine step_make_full _ rfl _ _ 29 rfl wD.drew.heap.size 3 i4 _ 1 Tryz.underlying29 li lz0 lz1 .i64 .i64 (d:Int) (d:Int) d (by simp [Act.eval]) (by simp [Act.eval]) rfl rfl (by rw [lz2]; omega) (by unfold maxLen; omega) (Nat.le_refl _) ?_
        intro wE hownM hgrM
        have hfM:Fr wD.drew wE:=(Fr.refl _).grown hgrM (fun k e=>by cases e)
        rw [made_zero d rfl] at hownM
        obtain ⟨gO,hgO⟩:∃ gO,gO=wD.drew.heap.size:=⟨_,rfl⟩
        have hszD:wD.heap.size≤gO:=by rw [hgO]; exact Fr.size (by exact fr9)
        rw [← hgO] at hownM ⊢
        replace hgO:=hZ hgO
        have hMk:ElS wD.heap.size wE (some ⟨gO,0,none⟩) (List.replicate d 0):=.inr ⟨_,rfl,hszD,(ownsRow_ownI (by rw [hgO.out]; exact hgw.out _ (hFC.trans (hfD.trans (by exact fr9)))) hownM).1.el⟩
        clear hownM hgrM
        replace hMk:=hZ hMk
        refine hK.out _ _ (hS1.out _ (by exact fr9)) (fun hHeld=>?_)
        clear hK K
        change wpAnyH _ _ _ _ _ _ _ (Act.put _ (some 95) _) _
        simp only [Act.put,lsT,ls0,lsS]
        refine hK 9 ?_
        change wpAnyH _ _ _ _ _ _ _ (Act.put _ (some 96) _) _
        simp only [Act.put,lsT,ls0,lsS]
        refine hC 2 (fun K hK=>?_)
        go_simp
        refine (hcl1.out _ (hf9.trans (hfD.trans (by exact fr9)))).mono ?_
        rintro e wM ⟨ea,ec,rfl,helE,hfE⟩
        replace helE:=hZ (helE.le (show wC.heap.size≤_ from Fr.size (hfD.trans (by exact fr9))))
        go_wp2_with fail
        refine hK.out _ _ (hS1.out _ (by exact fr9)) (fun hHeld=>?_)
        clear hK K
        try simp only [Act.put,lsT]
        replace hMk:=hZ (hMk.out.fr hfE)
        refine hK 11 ?_
        change wpAnyH _ _ _ _ _ _ _ (Act.put _ (some 2) _) _
        simp only [Act.put,lsT,ls0,lsS]
        refine hK 10 ?_
        change wpAnyH _ _ _ _ _ _ _ (Act.put _ (some 97) _) _
        simp only [Act.put,lsT,ls0,lsS]
        have hFM:=hZ (hFC.trans (hfD.trans (hdD.trans (hfM.trans hfE))))
        have hWM:=hZ (hW65.out.fr (hF7.trans ((f8.trans hf9).trans (hfD.trans (hdD.trans (hfM.trans hfE))))))
        obtain ⟨c0,c1,c2,c3',c4,c5,e0,e1,e2,e3,e4,e5⟩:=hWM.out
        refine hC 12 (fun K hK=>?_)
        go_simp
        have hfx10:=hZ (wit_fx wM (nb+1) (.bool false) (.slice ea d ec) (.int .i64 i) (.slice ba d bc) (.int .i64 j) (.slice (some ⟨gO,0,none⟩) d d))
        have hW10:=hZ (hWM.out.stored (.bool false) (.slice ea d ec) (.int .i64 i) (.slice ba d bc) (.int .i64 j) (.slice (some ⟨gO,0,none⟩) d d))
        refine hK.out _ _ (hfx10.out.keep hHeld (fun e=>by have e:yb=nb+1:=e; have:=hyb.out; have:=hnw.out; omega)) (fun hHeld=>?_)
        clear hK K c0 c1 c2 c3' c4 c5 e0 e1 e2 e3 e4 e5
        refine hK 13 ?_
        change wpAnyH _ _ _ _ _ _ _ (Act.put _ (some 4) _) _
        simp only [Act.put,lsT,ls0,lsS]
        refine wpAnyH_done (by kernel_rfl) ?_ _
        go_wp2_with fail
        obtain ⟨q0,q1,q2,q3,q4,q5,-⟩:=hW10.out
        refine bodyPost_ret (v:=.tuple #[.bool false,.agg #[.bool false,.slice ea d ec,.int .i64 i,.slice ba d bc,.int .i64 j,.slice (some ⟨gO,0,none⟩) d d],.int .i64 0]) (by simp [results,Tryz.results17,go_sem,q0,q1,q2,q3,q4,q5]) rfl ?_
        refine .inl ⟨i,j,cs,y,ea,ec,ba,bc,_,_,hij,hj,hpij.out,hno.out,hyj.out,rfl,(helE.out.fr (by exact fr9)).fx hfx10.out (by have:=hnw.out; omega),(hbel.out.fr (by exact fr9)).fx hfx10.out (by have:=hnw.out; omega),hMk.out.fx hfx10.out (by have:=hnw.out; omega), ?_⟩
        exact ((Fx.of_fr hFM.out).trans hfx10.out).toFr (fun k hk e=>by have e:k=nb+1:=e; have:=hnb.out; omega)
    ·have hdJ:decide (j < M)=false:=decide_eq_false hj
     obtain rfl:M=j:=by omega
     go_wp2_with fail
     go_roundg (ko - 1)
     case measure=>omega
     case rel=>exact ⟨i+1,by go_num,by omega,hF7,hno.out.row⟩
  ·have hdI:decide (i < M)=false:=decide_eq_false hi
   obtain rfl:M=i:=by omega
   have hnoA:=hZ (fun i j (a:i < j) (b:j < M)=>hno.out i j (.inl (by omega)) a b)
   have n0:=hf.keep hN5.out.a
   clear hno
   clear hst hin hcl hbk hpr
   have hW8:=hZ (hW65.out.fr hf)
   have hN8:=hZ (hN5.out.fr hf)
   have hL8:=hZ (hL5.out.fr hf)
   have hmB8:=hZ (hmB5.out.fr hf)
   clear hW65 hN5 hL5 hmB5
   go_upto_region 23 with (fail)
   obtain ⟨W7,hW7⟩:∃ W7,W7=wo.alloc (.map #[] 0):=⟨_,rfl⟩
   have f7:Fr wo W7:=by rw [hW7]; exact (Fr.refl _).alloc _
   obtain ⟨mb,hmb⟩:∃ mb,mb=wo.heap.size:=⟨_,rfl⟩
   have hsn7:SeenIs W7 mb []:=by rw [hW7,hmb]; exact SeenIs.nil wo
   rw [← hW7,← hmb]
   clear hW7
   have hnm:nb≠mb:=by have:=hN8.out.lt; omega
   have hlm:lb≠mb:=by have:=hL8.out.lt; omega
   have hwm:nb+1≠mb:=by have:=World.block_lt_of_cell? _ ⟨nb+1,0,none⟩ hW8.out.c0; have h9:(⟨nb+1,0,none⟩:Addr).block=nb+1:=rfl; rw [h9] at this; omega
   have hF7:=(f5.trans hf).trans f7
   have hFW:Hid (∀ W,Fx (·=mb) W7 W→Fr wo W):=fun W h=>((Fx.of_fr f7).trans h).toFr (fun k hk e=>by have e:k=mb:=e; omega)
   have hfwo:=f5.trans hf
   replace n0:=f7.keep n0
   replace hmb:=hZ hmb
   replace hsn7:=hZ hsn7
   clear hmm
   go_wp2_with fail
   go_loopg [103] M (fun k s103 wr=>∃ i:Nat,s103=.int .i64 i∧i+k=M∧Fx (·=mb) W7 wr∧Hid (SeenIs wr mb ((N.take i).map fun x=>rowTx (R x.row))))
   case atStart=>exact ⟨0,rfl,by omega,Fx.refl _ _,hsn7.out⟩
   case round=>
    clear hsn7 n0
    obtain ⟨i,rfl,hik,hfx,hsn⟩:=hrel
    have hFo:=hFW.out _ hfx
    have hFr:=hfwo.trans hFo
    obtain ⟨wv,rfl⟩:∃ wv:World,wv=wr:=⟨_,rfl⟩
    obtain ⟨kv,rfl⟩:∃ kv:Nat,kv=gk:=⟨_,rfl⟩
    by_cases hi:i < M
    ·have hdI:decide (i < M)=true:=decide_eq_true hi
     obtain ⟨ab,ao,x,rfl,hbl,hxi,hc1,hc2,-⟩:=(hsy.out.fr hFr).at (i:=i) (by rw [← hM.out]; exact hi)
     have hxm:=List.mem_of_getElem? hxi
     rw [hrow.out x hxm] at hc2
     have z0:(0:Int)≤(i:Int):=Int.natCast_nonneg _
     have z1:(i:Int) < (M:Int):=by omega
     obtain ⟨W6,hW6⟩:∃ W6,W6=wv.alloc (.cells #[.string x.nm,.slice x.ra d x.rc] 65):=⟨_,rfl⟩
     have f6:Fr wv W6:=by rw [hW6]; exact (Fr.refl _).alloc _
     obtain ⟨xb,hxb⟩:∃ xb,xb=wv.heap.size:=⟨_,rfl⟩
     have hX6:Cel2 W6 xb (.string x.nm) (.slice x.ra d x.rc):=by rw [hW6,hxb]; exact Cel2.new _ _ _ _
     have hfr6:=hFr.trans f6
     have hr1:=hZ (fun W (hW:Fr W6 W)=>hrd.out x hxm W (hfr6.trans hW) bA bc ((hmB8.out.fr hFo).fr (f6.trans hW)) hcp)
     have hk1:=hZ (fun W (hW:Fr W6 W) g c h=>hky.out x hxm W (hfr6.trans hW) g c h)
     have hks1:=hks.out x hxm
     have hsn9:(N.take (i+1)).map (fun x=>rowTx (R x.row))=(N.take i).map (fun x=>rowTx (R x.row)) ++ [rowTx (R x.row)]:=by rw [take_snoc hxi,List.map_append]; rfl
     obtain ⟨K,hK⟩:∃ K,K=rowTx (R x.row):=⟨_,rfl⟩
     rw [← hK] at hk1 hks1 hsn9
     have hlk:((N.take i).map (fun x=>rowTx (R x.row))).length≤1000000:=by rw [List.length_map,List.length_take]; omega
     replace hK:=hZ hK
     replace hsn9:=hZ hsn9
     replace hxi:=hZ hxi
     go_upto_region 26 with (fail)
     rw [← hW6,← hxb]
     clear hW6 hc1 hc2
     replace hxb:=hZ hxb
     have m1:=(hFo.trans f6).keep hL8.out.b
     have m2:=hX6.b
     generalize x.ra=xa at *
     generalize x.rc=xc at *
     generalize x.nm=xn at *
     replace hX6:=hZ hX6
     go_wp2_with fail
     refine (hr1.out _ (Fr.refl _)).mono ?_
     rintro e wA ⟨gr,cr,g2,c2,rfl,hel,hfA⟩
     have hk2:=hZ (hk1.out _ hfA gr cr hel)
     clear hel m1 m2 hr1 hk1
     go_wp2_with fail
     refine hk2.out.mono ?_
     rintro e wB ⟨rfl,hfB⟩
     have hsnB:=hZ (hsn.out.fr ((f6.trans hfA).trans hfB))
     have hfxB:=hfx.fr ((f6.trans hfA).trans hfB)
     clear hsn
     go_wp2_with (at_mapUpdate; refine wpList_see _ mb _ K rfl _ _ _ rfl (by rfl) (by rfl) (by rfl) hsnB.out hlk (by unfold maxLen; omega) ?_; intro w4 hsn4 hfx4; replace hsn4:=hZ hsn4)
     have hfx5:=hfxB.trans hfx4
     have n0:=(hFW.out _ hfx5).keep hN8.out.a
     go_wp2_with fail
     go_roundg (kv - 1)
     case measure=>omega
     case rel=>exact ⟨i+1,by go_num,by omega,hfx5,by show SeenIs _ _ _; rw [hsn9.out]; exact hsn4.out⟩
    ·have hdI:decide (i < M)=false:=decide_eq_false hi
     obtain rfl:M=i:=by omega
     have hsn9:=hsn.out
     rw [List.take_of_length_le (by rw [← hM.out]; exact Nat.le_refl _)] at hsn9
     have hab1:=hZ (hab.out _ hFr bA bc mb (hmB8.out.fr hFo) hsn9)
     have m1:=hFo.keep hL8.out.b
     have hW9:=hW8.out.fr hFo
     clear hsn9 hsn
     replace hW9:=hZ hW9
     go_wp2_with fail
     refine hab1.out.mono ?_
     clear hab1
     intro e w9 hres
     unfold AbsRet at hres
     cases res with
     | none=>
       obtain ⟨rfl,hf9⟩:=hres
       have hW10:=hZ ((hW9.out.fr hf9).stored (.bool false) (.slice none 0 0) (.int .i64 0) (.slice none 0 0) (.int .i64 0) (.slice none 0 0))
       have hfx10:=hZ (wit_fx w9 (nb+1) (.bool false) (.slice none 0 0) (.int .i64 0) (.slice none 0 0) (.int .i64 0) (.slice none 0 0))
       obtain ⟨c0,c1,c2,c3,c4,c5,e0,e1,e2,e3,e4,e5⟩:=hW9.out.fr hf9
       go_wp2_with fail
       obtain ⟨q0,q1,q2,q3,q4,q5,-⟩:=hW10.out
       refine bodyPost_ret (v:=.tuple #[.bool true,noWit,.int .i64 0]) (by unfold noWit; simp [results,Tryz.results17,go_sem,q0,q1,q2,q3,q4,q5]) rfl ?_
       exact .inr ⟨hnoA.out,rfl,((Fx.of_fr (hFr.trans hf9)).trans hfx10.out).toFr (fun k hk e=>by have e:k=nb+1:=e; have:=hnb.out; omega)⟩
     | some x=>
       obtain ⟨gx,cx,rfl,hel,hgx,hxl,hf9⟩:=hres
       have hW10:=hZ ((hW9.out.fr hf9).stored (.bool true) (.slice (some ⟨gx,0,none⟩) d cx) (.int .i64 0) (.slice none 0 0) (.int .i64 0) (.slice none 0 0))
       have hfx10:=hZ (wit_fx w9 (nb+1) (.bool true) (.slice (some ⟨gx,0,none⟩) d cx) (.int .i64 0) (.slice none 0 0) (.int .i64 0) (.slice none 0 0))
       have hwl:=World.block_lt_of_cell? _ ⟨nb+1,0,none⟩ hW9.out.c0
       obtain ⟨c0,c1,c2,c3,c4,c5,e0,e1,e2,e3,e4,e5⟩:=hW9.out.fr hf9
       replace hel:=hZ hel
       replace hwl:=hZ hwl
       go_wp2_with fail
       obtain ⟨q0,q1,q2,q3,q4,q5,-⟩:=hW10.out
       refine bodyPost_ret (v:=.tuple #[.bool false,.agg #[.bool true,.slice (some ⟨gx,0,none⟩) d cx,.int .i64 0,.slice none 0 0,.int .i64 0,.slice none 0 0],.int .i64 0]) (by simp [results,Tryz.results17,go_sem,q0,q1,q2,q3,q4,q5]) rfl ?_
       exact .inr ⟨hnoA.out,gx,cx,rfl,hel.out.fx hfx10.out (fun e=>by have e:gx=nb+1:=e; have h9:nb+1 < wv.heap.size:=hwl.out; omega),hxl,((Fx.of_fr (hFr.trans hf9)).trans hfx10.out).toFr (fun k hk e=>by have e:k=nb+1:=e; have:=hnb.out; omega)⟩
theorem longsOf_z (a:Option Addr) (c:Nat) (w:World):Calls Tryz.prog 99 #[.slice a 0 c] w fun e w'=>e=.returned (.slice none 0 0)∧Fr w w':=by
 go_enter Tryz.func99,Tryz.ntmps99
 go_wp2_with fail
 refine wp_loop_rounds 1 ?_
 rw [rounds_succ]
 go_wp2_with fail
 go_ret
 exact ⟨rfl,Fr.refl _⟩
theorem form_z (w:World):Calls Tryz.prog 100 #[.slice none 0 0,.int .i64 0] w fun e w'=>e=.returned (.slice none 0 0)∧Fr w w':=by
 go_enter Tryz.func100,Tryz.ntmps100
 go_wp2_with fail
 refine wp_loop_rounds 1 ?_
 rw [rounds_succ]
 go_wp2_with fail
 go_ret
 exact ⟨rfl,Fr.refl _⟩
theorem Of_z (a:Option Addr) (c:Nat) (w:World):Calls Tryz.prog 54 #[.int .i64 0,.slice a 0 c] w (LatRetC w 0 []):=by
 have hchk:=fun W=>latCheck_ok [] a c 0 W (.inl rfl) (fun r hr=>by simp at hr) (by simp) (fun r hr=>by simp at hr) (by omega)
 simp only [List.length_nil] at hchk
 have hl:=fun W=>longsOf_z a c W
 have hf:=fun W=>form_z W
 have hs:=fun W=>short_nil 0 W
 replace hchk:=hZ hchk
 replace hl:=hZ hl
 replace hf:=hZ hf
 replace hs:=hZ hs
 have hfA:Fr w (w.alloc (.cells #[.int .i64 0,.slice none 0 0] 109)):=(Fr.refl w).alloc _
 replace hfA:=hZ hfA
 go_enter Tryz.func54,Tryz.ntmps54
 go_wp2_with fail
 refine (hchk.out _).mono ?_
 rintro e w1 ⟨rfl,hf1⟩
 go_wp2_with fail
 refine (hl.out _).mono ?_
 rintro e w2 ⟨rfl,hf2⟩
 go_wp2_with fail
 refine (hf.out _).mono ?_
 rintro e w3 ⟨rfl,hf3⟩
 go_wp2_with fail
 refine (hs.out _).mono ?_
 rintro e w4 ⟨rfl,hf4⟩
 have hfr3:=((hf1.trans hf2).trans hf3).trans hf4
 have hfw:=hZ (hfA.out.trans hfr3)
 have p1:=new2a w (.int .i64 0) (.slice none 0 0) 109
 have p2:=new2b w (.int .i64 0) (.slice none 0 0) 109
 have c1:=hfr3.keep p1.1
 have c2:=hfr3.keep p2.1
 have c3:=hfr3.keepf p1.1 p1.2
 have c5:=hfr3.keepf p2.1 p2.2
 clear p1 p2
 have c1h:=hZ c1
 have c2h:=hZ c2
 go_wp2_with fail
 have e1:(⟨w.heap.size,0,none⟩:Addr)≠⟨w.heap.size,1,none⟩:=fun e=>by injection e with _ e; omega
 have q0:(w4.setCell ⟨w.heap.size,0,none⟩ (.int .i64 0)).cell? ⟨w.heap.size,0,none⟩=some (.int .i64 0):=World.cell?_setCell_same' _ _ _ (by rw [c1h.out]; rfl)
 have q1:((w4.setCell ⟨w.heap.size,0,none⟩ (.int .i64 0)).setCell ⟨w.heap.size,1,none⟩ (.slice none 0 0)).cell? ⟨w.heap.size,1,none⟩=some (.slice none 0 0):=World.cell?_setCell_same' _ _ _ (by rw [World.cell?_setCell_other _ _ _ _ e1,c2h.out]; rfl)
 exact bodyPost_ret (v:=.tuple #[.agg #[.int .i64 0,.slice none 0 0],.int .i64 0]) (by simp [results,Tryz.results54,go_sem,q0,q1]) rfl ⟨none,0,rfl,Nat.le_refl _,fun W hW=>.inl rfl,(hfw.out.setCell (p:=⟨w.heap.size,0,none⟩) (by simp) _).setCell (p:=⟨w.heap.size,1,none⟩) (by simp) _⟩
theorem lines_z (a:Option Addr) (c:Nat) (w:World):Calls Tryz.prog 170 #[.slice a 0 c] w fun e w'=>e=.returned (.slice none 0 0)∧Fr w w':=by
 go_enter Tryz.func170,Tryz.ntmps170
 go_wp2_with fail
 refine wp_loop_rounds 1 ?_
 rw [rounds_succ]
 go_wp2_with fail
 go_ret
 exact ⟨rfl,Fr.refl _⟩
theorem hsmall_z (a:Option Addr) (c:Nat) (w:World) (hG:G w):Calls Tryz.prog 104 #[.slice a 0 c] w fun e w'=>∃ b c2,e=.returned (.tuple #[.slice b 0 c2,.int .i64 0])∧Fr w w':=by
 have hgn:=gN_le hG
 obtain ⟨i1,ji,jz0,jz1,jz2⟩:=info_parts infoInt
 go_enter Tryz.func104,Tryz.ntmps104
 go_wp2_with (at_make; refine wpList_make_own _ rfl _ _ 29 rfl w.heap.size 3 i1 _ 1 Tryz.underlying29 ji jz0 jz1 _ _ _ 0 (by rfl) (by rfl) (by omega) (by rw [jz2]; omega) (by unfold maxLen; omega) (Nat.le_refl _) ?_; intro w2 hown2 hgr2)
 have hf2:Fr w w2:=(Fr.refl w).grown hgr2 (fun k e=>by cases e)
 refine wp_loop_rounds 1 ?_
 rw [rounds_succ]
 go_wp2_with fail
 go_ret2
 exact ⟨_,_,rfl,hf2⟩
theorem hopen_z (a b:Option Addr) (c cb:Nat) (w:World):Calls Tryz.prog 102 #[.slice a 0 c,.slice b 0 cb] w fun e w'=>e=.returned (.int .i64 0)∧Fr w w':=by
 have h1:=hZ (IsForm_ok [] a c 0 w (.inl rfl) ⟨by simp,by omega,(fun r hr=>by cases hr),(fun r hr=>by cases hr)⟩ (Nat.zero_le _) rfl)
 have h2:=hZ (fun W=>Check_row [] b cb W (.inl rfl) (by simp))
 have h0:rowE []=0:=rfl
 rw [h0] at h2
 go_enter Tryz.func102,Tryz.ntmps102
 go_wp2_with fail
 refine h1.out.mono ?_
 rintro e w1 ⟨rfl,hf1⟩
 go_wp2_with fail
 refine (h2.out _).mono ?_
 rintro e w2 ⟨rfl,hf2⟩
 go_wp2_with fail
 go_ret
 exact ⟨rfl,hf1.trans hf2⟩
theorem lines_one (P c:Nat) (a:Option Addr) (ca:Nat) (w:World) (hG:G w) (hP:w.cell? ⟨P,0,none⟩=some (.slice a 0 ca)):Calls Tryz.prog 170 #[.slice (some ⟨P,0,none⟩) 1 c] w fun e w'=>∃ g c2 g2 cg,e=.returned (.slice (some ⟨g,0,none⟩) 1 c2)∧w'.cell? ⟨g,0,none⟩=some (.slice none 0 0)∧w'.cell? ⟨g,1,none⟩=some (.slice (some ⟨g2,0,none⟩) 1 cg)∧Fr w w':=by
 have hgn:=gN_le hG
 obtain ⟨i1,ji,jz0,jz1,jz2⟩:=info_parts infoLine
 have hrep:=hZ (fun (W:World) (h:W.cell? ⟨w.heap.size,0,none⟩=some (sv 0))=>Repeat_one w.heap.size 0 1 1 0 W (by omega) (by omega) h)
 have hs0:(sv 0)=.string ⟨#[48]⟩:=by unfold sv; rw [tx_zero]
 have c0:(w.alloc (.cells #[.string ⟨#[48]⟩] 56)).cell? ⟨w.heap.size,0,none⟩=some (sv 0):=by rw [hs0]; exact new_cell _ _ _
 have f0:Fr w (w.alloc (.cells #[.string ⟨#[48]⟩] 56)):=(Fr.refl _).alloc _
 go_enter Tryz.func170,Tryz.ntmps170
 go_wp2_with fail
 refine wp_loop_rounds 2 ?_
 rw [rounds_succ]
 go_wp2_with fail
 refine (hrep.out _ c0).mono ?_
 rintro e w2 ⟨g,cg,rfl,hf2,hown2⟩
 have f2:=f0.trans hf2
 rw [World.size_alloc] at hown2
 clear c0 f0 hrep
 obtain ⟨W3,hW3⟩:∃ W3,W3=w2.alloc (.cells #[.slice none 0 0,.slice (some ⟨g,0,none⟩) 1 cg] 233):=⟨_,rfl⟩
 have f3':Fr w2 W3:=by rw [hW3]; exact (Fr.refl _).alloc _
 obtain ⟨lb,hlb⟩:∃ lb,lb=w2.heap.size:=⟨_,rfl⟩
 have hC3:Cel2 W3 lb (.slice none 0 0) (.slice (some ⟨g,0,none⟩) 1 cg):=by rw [hW3,hlb]; exact Cel2.new _ _ _ _
 have hown3:=ownsRow_fr hown2 f3'
 have f3:=f2.trans f3'
 have hgl:g < lb:=by rw [hlb]; exact (hown2.lt g rfl).2
 have hgw:w.heap.size≤g:=by have:=(hown2.lt g rfl).1; omega
 have n1:=hC3.b
 have n2:W3.cell? ⟨g,0,none⟩=some (sv 0):=by
  rw [hown3.cellAt 0 (by omega)]; rfl
 have n3:=hown3.frozenAt 0
 go_upto_region 6 with (fail)
 rw [← hW3,← hlb]
 clear hW3 hown2 hown3 f2 f3' hf2
 replace hlb:=hZ hlb
 obtain ⟨W4,hW4⟩:∃ W4,W4=W3.setCell ⟨g,0,none⟩ (.string ⟨#[49]⟩):=⟨_,rfl⟩
 have fx4:Fx (·=g) W3 W4:=by rw [hW4]; exact Fx.setCell (p:=(·=g)) (q:=⟨g,0,none⟩) (Fx.refl _ _) (.inl rfl) _
 have f4:Fr w W4:=by rw [hW4]; exact f3.setCell (p:=⟨g,0,none⟩) (by show _≤g; omega) _
 have hC4:=hZ (hC3.fx fx4 (fun e=>by have e:lb=g:=e; omega))
 go_upto_region 7 with (fail)
 rw [← hW4]
 clear hW4 n1 n2 n3 fx4 hC3
 go_wp2_with fail
 refine wp_loop_rounds 1 ?_
 rw [rounds_succ]
 have m0:=hC4.out.a
 have m1:=hC4.out.b
 obtain ⟨W5,hW5⟩:∃ W5,W5=W4:=⟨_,rfl⟩
 rw [← hW5] at f4 m0 m1
 rw [← hW5]
 clear hW5 hC4
 have hownG:=World.ownsRow_nil (W5.alloc (.cells #[.slice none 0 0,.slice (some ⟨g,0,none⟩) 1 cg] 233)) (W5.heap.size) 233 2
 have hcs:=cell_twoQ W5 (.slice none 0 0) (.slice (some ⟨g,0,none⟩) 1 cg) 233 W5.heap.size rfl
 have hfa:Fr W5 (W5.alloc (.cells #[.slice none 0 0,.slice (some ⟨g,0,none⟩) 1 cg] 233)):=(Fr.refl _).alloc _
 replace hcs:=hZ hcs
 go_wp2_with (at_builtin; refine wpList_append_lies _ rfl _ _ 234 (by rfl) _ 233 _ _ 2 48 Tryz.underlying234 ji jz0 jz1 jz2 rfl (by decide) _ 0 _ (by rfl) hownG ⟨W5.heap.size,0,none⟩ 1 1 [.slice none 0 0,.slice (some ⟨g,0,none⟩) 1 cg] (by rfl) rfl hcs.out (by simp [Value.oneCell']) (by decide) (by unfold maxLen; omega) (by omega) (by simp) (W5.heap.size+1) (by simp) ?_; intro gA capA wA hownA hgrowA hatA hltA)
 have hfrA:Fr w wA:=(f4.trans hfa).grown hgrowA (fun k e=>by cases e)
 have r0:=hownA.cellAt 0 (by decide)
 have r1:=hownA.cellAt 1 (by decide)
 clear hownA hgrowA hatA hltA hownG m0 m1
 rw [rounds_succ]
 go_wp2_with fail
 go_ret
 exact ⟨gA,capA,_,_,rfl,r0,r1,hfrA⟩
theorem hreduce_z (a b:Option Addr) (c cb:Nat) (w:World) (hG:G w):Calls Tryz.prog 103 #[.slice a 0 c,.slice b 0 cb] w fun e w'=>e=.returned (.tuple #[.slice none 0 0,.slice none 0 0])∧Fr w w':=by
 have c0:(w.alloc (.cells #[.slice b 0 cb] 29)).cell? ⟨w.heap.size,0,none⟩=some (.slice b 0 cb):=new_cell _ _ _
 have f0:Fr w (w.alloc (.cells #[.slice b 0 cb] 29)):=(Fr.refl _).alloc _
 have h1:=hZ (lines_one w.heap.size 1 b cb _ (hG.fr f0) c0)
 have h2:=hZ (fun W=>lines_z a c W)
 clear hG
 go_enter Tryz.func103,Tryz.ntmps103
 go_wp2_with fail
 refine h1.out.mono ?_
 rintro e w1 ⟨g,c2,g2,cg,rfl,d0,d1,hf1⟩
 go_wp2_with fail
 have f2:Fr w1 (w1.alloc (.cells #[.slice none 0 0,.slice (some ⟨g2,0,none⟩) 1 cg] 233)):=(Fr.refl _).alloc _
 have hC:=Cel2.new w1 (.slice none 0 0) (.slice (some ⟨g2,0,none⟩) 1 cg) 233
 refine (h2.out _).mono ?_
 rintro e w3 ⟨rfl,hf3⟩
 have m0:=hf3.keep hC.a
 go_wp2_with fail
 refine wp_loop_rounds 1 ?_
 rw [rounds_succ]
 go_wp2_with fail
 go_ret2
 exact ⟨rfl,(f0.trans hf1).trans (f2.trans hf3)⟩
theorem HReduce_z (a b:Option Addr) (c cb:Nat) (w:World) (hG:G w):Calls Tryz.prog 57 #[.slice a 0 c,.slice b 0 cb] w fun e w'=>∃ a1 c1 a2 c2,e=.returned (.tuple #[.slice a1 0 c1,.slice a2 0 c2,.int .i64 0])∧Fr w w':=by
 have h1:=hZ (hopen_z a b c cb w)
 have h2:=hZ (fun W (hW:Fr w W)=>hreduce_z a b c cb W (hG.fr hW))
 have h3:=hZ (fun W (hW:Fr w W)=>hsmall_z none 0 W (hG.fr hW))
 clear hG
 go_enter Tryz.func57,Tryz.ntmps57
 go_wp2_with fail
 refine h1.out.mono ?_
 rintro e w1 ⟨rfl,hf1⟩
 go_wp2_with fail
 refine (h2.out _ hf1).mono ?_
 rintro e w2 ⟨rfl,hf2⟩
 go_wp2_with fail
 refine (h3.out _ (hf1.trans hf2)).mono ?_
 rintro e w3 ⟨b3,c3,rfl,hf3⟩
 go_wp2_with fail
 refine (h3.out _ ((hf1.trans hf2).trans hf3)).mono ?_
 rintro e w4 ⟨b4,c4,rfl,hf4⟩
 go_wp2_with fail
 go_ret3
 exact ⟨_,_,_,_,rfl,((hf1.trans hf2).trans hf3).trans hf4⟩
theorem join_z (w:World):Calls Tryz.prog 67 #[.slice none 0 0,.string ⟨#[32]⟩] w fun e w'=>e=.returned (.string ⟨#[]⟩)∧Fr w w':=by
 go_enter Tryz.func67,Tryz.ntmps67
 go_wp2_with fail
 go_ret
 exact ⟨rfl,Fr.refl _⟩
theorem Key_z (a:Option Addr) (c:Nat) (w:World):Calls Tryz.prog 58 #[.slice a 0 c] w fun e w'=>e=.returned (.string (rowTx []))∧Fr w w':=by
 have h2:=hZ (Check_row [] a c w (.inl rfl) (by simp))
 have h3:=hZ (fun W=>join_z W)
 have h0:rowE []=0:=rfl
 rw [h0] at h2
 have h1:Calls Tryz.prog 105 #[.slice a 0 c,.bool true] w fun e w'=>e=.returned (.tuple #[.string (rowTx []),.int .i64 0])∧Fr w w':=by
  go_enter Tryz.func105,Tryz.ntmps105
  go_wp2_with fail
  refine h2.out.mono ?_
  rintro e w1 ⟨rfl,hf1⟩
  go_wp2_with fail
  refine wp_loop_rounds 1 ?_
  rw [rounds_succ]
  go_wp2_with fail
  refine (h3.out _).mono ?_
  rintro e w2 ⟨rfl,hf2⟩
  go_wp2_with fail
  go_ret2
  exact ⟨rfl,hf1.trans hf2⟩
 replace h1:=hZ h1
 go_enter Tryz.func58,Tryz.ntmps58
 go_wp2_with fail
 refine h1.out.mono ?_
 rintro e w1 ⟨rfl,hf1⟩
 go_wp2_with fail
 go_ret
 exact ⟨rfl,hf1⟩
theorem absent_z (a:Option Addr) (c mb:Nat) (l:List ByteArray) (hl:(l.any fun y=>y.toList == (rowTx []).toList)=true) (w:World) (hs:SeenIs w mb l):Calls Tryz.prog 59 #[.slice a 0 c,.int .i64 0,.map (some mb)] w (AbsRet w 0 none):=by
 obtain ⟨i0,hi,hz0,hz1,hz2⟩:=info_parts infoInt
 have h1:=hZ (fun b c W=>Key_z b c W)
 have hks:(rowTx []).size≤1000:=by decide +kernel
 obtain ⟨K,hK⟩:∃ K,K=rowTx []:=⟨_,rfl⟩
 rw [← hK] at h1 hks hl
 replace hK:=hZ hK
 replace hl:=hZ hl
 replace hs:=hZ hs
 have d0:decide ((0:Int) - 1 ≥ 0)=false:=rfl
 go_enter Tryz.func59,Tryz.ntmps59
 go_wp2_with (at_make; refine wpList_make_full _ rfl _ _ 29 rfl w.heap.size 3 i0 _ 1 Tryz.underlying29 hi hz0 hz1 _ _ _ _ 0 (by rfl) (by rfl) (by omega) (by omega) (by rw [hz2]; omega) (by unfold maxLen; omega) (Nat.le_refl _) ?_; intro w2 hown2 hgr2)
 have hf2:Fr w w2:=(Fr.refl w).grown hgr2 (fun k e=>by cases e)
 clear hown2 hgr2
 refine wp_loop_rounds 1 ?_
 rw [rounds_succ]
 go_wp2_with fail
 refine (h1.out _ _ _).mono ?_
 rintro e w3 ⟨rfl,hf3⟩
 have hsn3:=hZ (hs.out.fr (hf2.trans hf3))
 go_wp2_with (at_lookup; refine wpList_seen _ mb l K true rfl _ _ rfl (by rfl) (by rfl) hsn3.out (by unfold maxLen; omega) hl.out ?_)
 refine wp_loop_rounds 1 ?_
 rw [rounds_succ]
 go_wp2_with fail
 go_quiet (fail)
 go_wp2_with fail
 go_ret2
 exact ⟨rfl,(hf2.trans hf3).trans ((Fr.refl _).drewN _)⟩
theorem Clone_z (a:Option Addr) (c:Nat) (w:World):Calls Tryz.prog 56 #[.slice a 0 c] w fun e w'=>∃ a' c',e=.returned (.slice a' 0 c')∧Fr w w':=by
 obtain ⟨i0,hi,hz0,hz1,hz2⟩:=info_parts infoInt
 have q22:∀ (w:World) (a:Option Addr) (n c n' c':Nat),(binOp .eql 29 (.slice a n c) (.slice none n' c')).run Tryz.prog w=.ok (.bool a.isNone) w:=fun w a n c n' c'=>Lib.run_eql_slice_nil w _ 3 a n c n' c' Tryz.underlying29
 cases a with
 | none=>
   go_enter Tryz.func56,Tryz.ntmps56
   go_wp2_with fail
   go_ret
   exact ⟨_,_,rfl,Fr.refl _⟩
 | some a=>
   go_enter Tryz.func56,Tryz.ntmps56
   go_wp2_with (at_builtin; refine wpList_append_own _ rfl _ _ 29 (by rfl) w.heap.size 3 i0 _ 1 8 Tryz.underlying29 hi hz0 hz1 hz2 rfl (by decide) _ 0 [] (by rfl) (World.ownsRow_made w #[] 0 (Nat.le_refl _) (Nat.zero_le _) (by simp)) a 0 c [] (by rfl) rfl (fun j u h=>by simp at h) (fun u h=>by simp at h) (by unfold maxLen; omega) (by omega) (by simp) ?_; intro v2 w2 hown2 hgr2 hv2)
   obtain ⟨a9,c9,rfl,-⟩:=ownsRow_slice hown2
   go_ret
   exact ⟨⟨_,_,rfl⟩,((Fr.refl w).alloc _).grown hgr2 (fun k e=>by simp [Value.ownBlock] at e; omega)⟩
structure USearch (RN RA:List (List Int)) (d M:Nat) (C:List (List Int)) (D:Int) (B:List (List Int)) (F:Nat) (res:Option (List Int)):Prop where
 pos:1≤d→formS 200000 d 0 RA 0=some (B,d)∧SqForm d 176418 RA B∧absT B (RN.map fun q=>rowTx (restU B q)) d F (List.replicate d 0)=some res
 abs:absP B (fun x=>(spF (toF C D RN d x) M).isSome) d F (List.replicate d 0)=some res
 zero:d=0→B=[]∧res=none
 full:res=none→∀ r:List Int,r.length=d→(spF (toF C D RN d r) M).isSome=true
 count:NoTwo C D RN d M→res=none→(M:Int)=((detM RA).natAbs:Int)
def prU (RN:List (List Int)) (C:List (List Int)) (D:Int) (d i j:Nat):Option (List Int):=toF C D RN d (rowAt RN j) i
section
variable {N A:List Sy} {d M:Nat} {aN aA:Option Addr} {cN cA:Nat} {w:World} {C C':List (List Int)} {D D':Int}
theorem Nt42.rows (hn:Nt42 w aN aA cN cA M d N A) (hI:Inv42 (A.map Sy.row) d C D C' D') (hd:1≤d):Rows42 (N.map Sy.row) (A.map Sy.row) d M C D C' D' :=
 ⟨hd,hn.d3,hn.lA,fun q hq=>⟨hn.lRA q hq,hn.bA q hq⟩,hn.det,by rw [List.length_map]; exact hn.hM,fun q hq=>by obtain ⟨x,hx,rfl⟩:=List.mem_map.1 hq; exact (hn.rN x hx).2,hI.ok hd⟩
theorem Nt42.srch (hn:Nt42 w aN aA cN cA M d N A) (hI:Inv42 (A.map Sy.row) d C D C' D'):∃ B F res,USearch (N.map Sy.row) (A.map Sy.row) d M C D B F res:=by
 by_cases hd:1≤d
 ·have h:=hn.rows hI hd
  obtain ⟨B,h1,hB⟩:=h.form
  obtain ⟨F,res,h2,h3,h4⟩:=h.search hB
  exact ⟨B,F,res,fun _=>⟨h1,hB,h3⟩,h2,fun h9=>absurd h9 (by omega),fun hr r hrl=>h.full hB (h4 hr) hrl,fun hno hr=>h.count hB hno (h4 hr)⟩
 ·obtain rfl:d=0:=by omega
  have m1:=hn.m1
  have hs:∀ r,(spF (toF C D (N.map Sy.row) 0 r) M).isSome=true:=fun r=>spF_isSome.2 ⟨0,by omega,rfl⟩
  refine ⟨[],1,none,fun h=>absurd h hd, ?_,fun _=>⟨rfl,rfl⟩,fun _ r _=>hs r,fun hno _=>?_⟩
  ·rw [absP,if_pos (hs _)]; rfl
  ·have hM1:M=1:=Classical.byContradiction fun h9=>by
    have:=hno 0 1 (by omega) (by omega)
    cases this
   have hA0:A=[]:=List.eq_nil_of_length_eq_zero hn.hd
   rw [hM1,hA0]; rfl
theorem prU_ok (hn:Nt42 w aN aA cN cA M d N A) (hI:Inv42 (A.map Sy.row) d C D C' D') (i j:Nat) (cs:List Int) (hij:i < j) (hj:j < M) (h:prU (N.map Sy.row) C D d i j=some cs):cs.length=d∧cs.all fitB=true:=by
 refine ⟨toF_len h,List.all_eq_true.2 fun x hx=>?_⟩
 by_cases hd:1≤d
 ·have hr:=hn.rows hI hd
  unfold prU toF at h
  have h1:=solve_bd hr.ok.inv hn.d3 h (B:=18) (fun z hz=>by
   obtain ⟨u,v,hu,hv,rfl⟩:=mem_zipWithZ hz
   have h1:=(hr.row hj).2 u hu
   have h2:=(hr.row (show i < M by omega)).2 v hv
   omega) x hx
  exact decide_eq_true ⟨by omega,by omega⟩
 ·have:=toF_len h
  rw [List.eq_nil_of_length_eq_zero (show cs.length=0 by omega)] at hx
  cases hx
theorem prU_at (hn:Nt42 w aN aA cN cA M d N A) {i j:Nat} {x y:Sy} (hx:N[i]?=some x) (hy:N[j]?=some y):prU (N.map Sy.row) C D d i j=solveS (divC C D) (List.zipWith (· - ·) y.row x.row) d:=by
 unfold prU; rw [toF_at hn hx,hn.at hy]
variable {B:List (List Int)} {F:Nat} {res:Option (List Int)}
theorem NUnique42 (hn:Nt42 w aN aA cN cA M d N A) (hI:Inv42 (A.map Sy.row) d C D C' D') (hs:USearch (N.map Sy.row) (A.map Sy.row) d M C D B F res) (W:World) (hG:G W) (hW:Nt42 W aN aA cN cA M d N A) :
 Calls Tryz.prog 17 #[.agg #[.slice aN M cN,.slice aA d cA]] W (UqPost W N M d (prU (N.map Sy.row) C D d) res):=by
 have d3:=hn.d3
 have m1:=hn.m1
 have m8:=hn.m8
 have hrN:∀ x,x ∈ N→x.row.length=d:=fun x hx=>(hn.rN x hx).2.1
 have hck:=fun W' (hW':Fr W W')=>(hW.fr hW').check (hG.fr hW')
 by_cases hd:1≤d
 ·obtain ⟨h1,hB,h2⟩:=hs.pos hd
  have hr:=hn.rows hI hd
  obtain ⟨⟨⟨hF,-⟩,hI0⟩,-⟩:=hI hd
  obtain ⟨Fq,hq1,hq2,hq3⟩:=hF
  have hfB:∀ q,q ∈ B→∀ x,x ∈ q→fitB x=true:=fun q hq x hx=>by
   obtain ⟨i,hi⟩:=List.getElem?_of_mem hq
   obtain ⟨k,hk⟩:=List.getElem?_of_mem hx
   have:=hB.bd i k
   unfold ent rowAt at this
   rw [hi,Option.getD_some,hk,Option.getD_some] at this
   exact decide_eq_true ⟨by omega,by omega⟩
  have hTA:TabOk d (A.map Sy.row):=⟨by rw [hn.lA]; omega,by omega,hn.lRA,fun q hq x hx=>fit9 (hn.bA q hq x hx)⟩
  have hTB:TabOk d B:=⟨by rw [hB.len]; omega,by omega,hB.rect,hfB⟩
  have hBt:B.take d=B:=List.take_of_length_le (by rw [hB.len]; exact Nat.le_refl _)
  have hrest:=fun (x:Sy) (hx:x ∈ N)=>rest_rep hB d3 (by decide) (hrN x hx) (hn.rN x hx).2.2
  have hrf:∀ x,x ∈ N→(restU B x.row).length=d∧∀ z,z ∈ restU B x.row→fitB z=true:=fun x hx=>by
   obtain ⟨h3,s,h4,h5,h6,h7⟩:=hrest x hx
   rw [← h5]
   exact ⟨by rw [h5]; exact h3.len,fun z hz=>by have:=h6 z hz; exact decide_eq_true ⟨by omega,by omega⟩⟩
  refine Unique_gen N A d M B (restU B) (fun W v xs=>∃ g c,v=.slice (some ⟨g,0,none⟩) d c∧El W sv (some ⟨g,0,none⟩) xs) _ res aN aA cN cA W hG hW.hn hn.hM.symm m1 (by omega) (by omega) hn.hd hB.len hrN
   (fun W' W'' v xs ⟨g,c,e,h⟩ hf=>⟨g,c,e,h.fr hf⟩) hck ?_ ?_ ?_ (prU_ok hn hI) ?_ ?_ ?_ ?_ ?_
  ·intro W' hW' a c hm
   have:=OfC_any (A.map Sy.row) B 200000 d a c d W' (hG.fr hW') hm hTA (by rw [hn.lA]; omega) hd h1 (by rw [hBt]; exact hfB)
   rw [hn.lA,hBt] at this
   exact this
  ·intro x hx W' hW'
   refine (NInts_el x.row x.ra x.rc d W' (hG.fr hW') ((hW.hn.noms.2 x hx).fr hW') (hrN x hx) hd (by omega) (fun y hy=>fit9 ((hn.rN x hx).2.2 y hy))).mono ?_
   rintro e w' ⟨g,c,rfl,h3,h4⟩
   exact ⟨_,rfl,⟨g,c,rfl,h3⟩,h4⟩
  ·rintro i j x y hx hy hij W' hW' v1 v2 ⟨g,c,rfl,e1⟩ ⟨g2,c2,rfl,e2⟩
   have hxm:=List.mem_of_getElem? hx
   have hym:=List.mem_of_getElem? hy
   have hinv:∀ a c W2,Fr W' W2→MatIs W2 a (A.map Sy.row)→Calls Tryz.prog 70 #[.slice a d c] W2 (InvRet W2 (Fq.g.map (List.drop d))):=fun a c W2 hW2 hm=>by
    have h:=Inverse_any (A.map Sy.row) a c d Fq W2 ((hG.fr hW').fr hW2) hm hTA hd hn.lA hq1 hq2
    rw [hn.lA] at h
    exact h
   rw [hq3] at hinv
   have:=Solve_any aN aA M cN cA d A (divC C D) x.row y.row (some ⟨g,0,none⟩) (some ⟨g2,0,none⟩) c c2 W' (hG.fr hW') (hW.hn.accs.fr hW') hn.hd.symm hd (by omega) hinv (fun q hq=>by unfold divC at hq; obtain ⟨z,hz,rfl⟩:=List.mem_map.1 hq; rw [List.length_map]; exact hI0.rect z hz) (by unfold divC; rw [List.length_map]; exact hI0.len) e1 e2 (hrN x hxm) (hrN y hym)
    (fun z hz=>by have:=(hn.rN x hxm).2.2 z hz; exact ⟨by omega,by omega⟩) (fun z hz=>by have:=(hn.rN y hym).2.2 z hz; exact ⟨by omega,by omega⟩) (hr.ok.sumOk d3 (hn.dif (fun z hz=>fit9 ((hn.rN y hym).2.2 z hz)) hxm))
   rw [← prU_at hn hx hy] at this
   exact this
  ·intro x hx W' hW'
   have hl:=hrN x hx
   rcases ((hW.hn.noms.2 x hx).fr hW') with h9 | ⟨b,o,hra,hb,hc⟩
   ·rw [h9] at hl; exact absurd hl (by show ¬ (0=d); omega)
   ·have:=Clone_row b o x.rc x.row W' (by omega) hc
    rw [hl] at this
    rw [hra]
    refine this.mono ?_
    rintro e w' ⟨g,c,rfl,hf,ho⟩
    rw [hl] at ho ⊢
    have h8:=ownsRow_ownI (gN_le (hG.fr hW')) ho
    exact ⟨_,_,rfl,.inr ⟨g,rfl,h8.2.2.2.1,h8.1.el⟩,hf⟩
  ·intro x hx W' hW' a c hm hc
   obtain ⟨h3,s,h4,h5,h6,h7⟩:=hrest x hx
   have hsl:=redT_len _ s h4
   have:=HReduce_ok B x.row s a x.ra c x.rc d W' (hG.fr hW') hm hTB (by rw [hB.len]; exact hc) hB.ok hd (by rw [hB.len]; omega) ((hW.hn.noms.2 x hx).fr hW') (hrN x hx) (fun y hy=>fit9 ((hn.rN x hx).2.2 y hy)) (by rw [hB.len]; exact h4) (fun z hz=>by rw [h5] at hz; exact (hrf x hx).2 z hz) (fun z hz=>by have:=h7 z hz; exact decide_eq_true ⟨by omega,by omega⟩)
   rw [hB.len] at this
   refine this.mono ?_
   rintro e w' ⟨b,c',b2,c2,rfl,h8,-,h9⟩
   exact ⟨_,_,_,_,by rw [hsl.1,hsl.2,hrN x hx],by rw [← h5]; exact h8,h9⟩
  ·intro x hx W' hW' a c he
   exact Key_ok (restU B x.row) a c d W' (hG.fr hW') he (hrf x hx).1 (by omega) hd (hrf x hx).2
  ·exact fun x hx=>rowTx_size _ (by rw [(hrf x hx).1]; omega) (by rw [(hrf x hx).1]; omega) (hrf x hx).2
  ·intro W' hW' a c mb hm hsn
   exact absent_any B a c d mb F _ res W' (hG.fr hW') hm hB.rect hB.len hd (by omega) hfB hsn (by rw [List.map_map] at h2; exact h2)
 ·obtain rfl:d=0:=by omega
  obtain ⟨rfl,rfl⟩:=hs.zero rfl
  have hr0:∀ x,x ∈ N→x.row=[]:=fun x hx=>List.eq_nil_of_length_eq_zero (hrN x hx)
  have hpr:∀ i j,prU (N.map Sy.row) C D 0 i j=some []:=fun i j=>rfl
  refine Unique_gen N A 0 M [] (fun x=>x) (fun _ _ _=>True) _ none aN aA cN cA W hG hW.hn hn.hM.symm m1 (by omega) (by omega) hn.hd rfl hrN
   (fun _ _ _ _ _ _=>trivial) hck ?_ ?_ ?_ (prU_ok hn hI) ?_ ?_ ?_ ?_ ?_
  ·intro W' hW' a c _
   exact Of_z a c W'
  ·intro x hx W' hW'
   refine (NInts_nil x.ra x.rc W').mono ?_
   rintro e w' ⟨rfl,rfl⟩
   exact ⟨_,rfl,trivial,Fr.refl _⟩
  ·rintro i j x y hx hy hij W' hW' v1 v2 - -
   rw [hpr]
   refine (Solve_nil aN aA M cN cA v1 v2 W' (hG.fr hW')).mono ?_
   rintro e w' ⟨rfl,hf⟩
   exact ⟨_,rfl,World.ownsRow_nil _ _ _ _,hf⟩
  ·intro x hx W' hW'
   refine (Clone_z x.ra x.rc W').mono ?_
   rintro e w' ⟨a',c',rfl,hf⟩
   exact ⟨_,_,rfl,.inl (hr0 x hx),hf⟩
  ·intro x hx W' hW' a c _ _
   refine (HReduce_z a x.ra c x.rc W' (hG.fr hW')).mono ?_
   rintro e w' ⟨a1,c1,a2,c2,rfl,hf⟩
   exact ⟨_,_,_,_,rfl,.inl (hr0 x hx),hf⟩
  ·intro x hx W' hW' a c _
   rw [hr0 x hx]
   exact Key_z a c W'
  ·intro x hx
   rw [hr0 x hx]
   decide +kernel
  ·intro W' hW' a c mb _ hsn
   refine absent_z a c mb _ ?_ W' hsn
   obtain ⟨x,hx,hxm⟩:=hn.get (show 0 < M by omega)
   exact List.any_eq_true.2 ⟨_,List.mem_map.2 ⟨x,hxm,rfl⟩,by rw [hr0 x hxm]; exact beq_self_eq_true _⟩
end
end Go.Proofs.YtkjemicelmabdaaGreatDoor
