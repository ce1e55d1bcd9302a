/- Contracts and laws: VUG0. -/
import Derived.Test.YtcglmebcfeoedaaGreatDoorVL
import Derived.Test.YtcglmebcfeoedaaGreatDoorVP
import Derived.Test.YtcglmebcfeoedaaGreatDoorVNA

set_option maxRecDepth 100000
set_option maxHeartbeats 16000000
namespace Go.Proofs.YtcglmebcfeoedaaGreatDoor
open Go.RowKit Go.Lib
attribute [local go_sem ↓] AA AB
theorem Xq {w:World} {b:Nat} {t:TypeId} {v:Value} {n:Nat} {xs:List Int} (h:w.ownsRow b t 1 v n (xs.map sv)) (hn:n=xs.length) (hb:gN≤b):∃ a c,v=.slice a n c∧El w sv a xs:=by
 obtain ⟨a9,c9,rfl,h9⟩:=Ft h
 refine ⟨a9,c9,rfl, ?_⟩
 rcases h9 with h9 | ⟨g,rfl⟩
 ·exact .inl (AD (by omega))
 ·exact (DA hb h).1.el
def S3 (s:Nat) (w:World) (a:Option Addr) (xs:List Int):Prop:=xs=[]∨∃ g,a=some ⟨g,0,none⟩∧s≤g∧El w iv a xs
theorem S3.fr {s:Nat} {w w':World} {a:Option Addr} {xs:List Int} (h:S3 s w a xs) (k:Fr w w'):S3 s w' a xs:=by
 rcases h with h | ⟨g,h1,h2,h⟩
 ·exact .inl h
 ·exact .inr ⟨g,h1,h2,h.fr k⟩
theorem S3.le {s s':Nat} {w:World} {a:Option Addr} {xs:List Int} (h:S3 s w a xs) (k:s'≤s):S3 s' w a xs:=by
 rcases h with h | ⟨g,h1,h2,h⟩
 ·exact .inl h
 ·exact .inr ⟨g,h1,by omega,h⟩
theorem S3.fx {s r:Nat} {w w':World} {a:Option Addr} {xs:List Int} (h:S3 s w a xs) (k:Fx (·=r) w w') (hr:r < s):El w' iv a xs:=by
 rcases h with h | ⟨g,rfl,h2,h⟩
 ·exact .inl h
 ·exact h.fx k (fun e=>by have e:g=r:=e; omega)
theorem VQ {w:World} {b:Nat} {t:TypeId} {v:Value} {n:Nat} {xs:List Int} (h:w.ownsRow b t 1 v n (xs.map iv)) (hn:n=xs.length) (hb:gN≤b):∃ a c,v=.slice a n c∧S3 b w a xs:=by
 obtain ⟨a9,c9,rfl,h9⟩:=Ft h
 refine ⟨a9,c9,rfl, ?_⟩
 rcases h9 with h9 | ⟨g,rfl⟩
 ·exact .inl (AD (by omega))
 ·have:=Cr hb h
  exact .inr ⟨g,rfl,this.2.2.2.1,this.1.el⟩
def Oc (pr:Nat→Nat→Option (List Int)) (M i j:Nat):Prop:=∀ i' j',(i' < i∨(i'=i∧j' < j))→i' < j'→j' < M→pr i' j'=none
theorem Oc.next {pr:Nat→Nat→Option (List Int)} {M i j:Nat} (h:Oc pr M i j) (h0:pr i j=none):Oc pr M i (j+1):=fun i' j' a b c=>by
 by_cases e:i'=i∧j'=j
 ·rw [e.1,e.2]; exact h0
 ·exact h i' j' (by omega) b c
theorem Oc.row {pr:Nat→Nat→Option (List Int)} {M i:Nat} (h:Oc pr M i M):Oc pr M (i+1) (i+2):=fun i' j' a b c=>h i' j' (by omega) b c
def UQ (w:World) (N:List Sy) (M d:Nat) (pr:Nat→Nat→Option (List Int)) (res:Option (List Int)) (e:Ending) (w':World):Prop :=
 (∃ i j cs y a1 c1 a2 c2 a3 c3,i < j∧j < M∧pr i j=some cs∧Oc pr M i j∧N[j]?=some y∧e=.returned (.tuple #[.bool false,.agg #[.bool false,.slice a1 d c1,.int .i64 (i:Nat),.slice a2 d c2,.int .i64 (j:Nat),.slice a3 d c3],.int .i64 0])∧El w' iv a1 y.row∧El w' iv a2 cs∧El w' iv a3 (List.replicate d 0)∧Fr w w') ∨
 ((∀ i j,i < j→j < M→pr i j=none)∧RM w d res e w')
def Yx (L:Prop) (W:World) (d:Nat) (ys:List Int) (e:Ending) (w':World):Prop:=(∃ a1 c1 a2 c2,e=.returned (.tuple #[.slice a1 d c1,.slice a2 d c2,.int .i64 0])∧El w' iv a1 ys∧Fr W w')∨(L∧e=.returned (.tuple #[.slice none 0 0,.slice none 0 0,.int .i64 4])∧Fr W w')
def Yv (L:Prop) (w:World) (N:List Sy) (M d:Nat) (pr:Nat→Nat→Option (List Int)) (res:Option (List Int)) (e:Ending) (w':World):Prop:=UQ w N M d pr res e w'∨(L∧e=.returned (.tuple #[.bool false,IX,.int .i64 4])∧Fr w w')
theorem Mm (L:Prop) (N A:List Sy) (d M:Nat) (B:List (List Int)) (R:List Int→List Int) (PI:World→Value→List Int→Prop) (pr:Nat→Nat→Option (List Int)) (res:Option (List Int)) (aN aA:Option Addr) (cN cA:Nat) (w:World) (hG:G w) (hn:DS w aN aA cA N A)
 (hM:M=N.length) (n1:1≤M) (n60:M≤60) (d6:d≤6) (lenA:A.length=d) (lenB:B.length=d) (hrow:∀ x,x ∈ N→x.row.length=d) (hPI:∀ W W' v xs,PI W v xs→Fr W W'→PI W' v xs)
 (hck:∀ W,Fr w W→Calls Tryz.prog 25 #[.agg #[.slice aN M cN,.slice aA d cA]] W fun e w'=>e=.returned (.int .i64 0)∧Fr W w')
 (hof:∀ W (_:Fr w W) a c (_:BT W a (A.map Sy.row)),Calls Tryz.prog 41 #[.int .i64 d,.slice a d c] W (Lf W d B))
 (hin:∀ (x:Sy) (_:x ∈ N) (W:World) (_:Fr w W),Calls Tryz.prog 64 #[.slice x.ra d x.rc] W fun e w'=>∃ v,e=.returned v∧PI w' v x.row∧Fr W w')
 (hst:∀ (i j:Nat) (x y:Sy) (_:N[i]?=some x) (_:N[j]?=some y) (_:i < j) (W:World) (_:Fr w W) v1 v2 (_:PI W v1 x.row) (_:PI W v2 y.row),Calls Tryz.prog 63 #[.agg #[.slice aN M cN,.slice aA d cA],v1,v2] W (Mo W (pr i j)))
 (hpr:∀ i j cs,i < j→j < M→pr i j=some cs→cs.length=d∧cs.all Bi=true)
 (hcl:∀ (x:Sy) (_:x ∈ N) (W:World) (_:Fr w W),Calls Tryz.prog 61 #[.slice x.ra d x.rc] W fun e w'=>∃ a c,e=.returned (.slice a d c)∧S3 W.heap.size w' a x.row∧Fr W w')
 (hrd:∀ (x:Sy) (_:x ∈ N) (W:World) (_:Fr w W) (a:Option Addr) (c:Nat) (_:BT W a B) (_:d≤c),Calls Tryz.prog 66 #[.slice a d c,.slice x.ra d x.rc] W (Yx L W d (R x.row)))
 (hky:∀ (x:Sy) (_:x ∈ N) (W:World) (_:Fr w W) (a:Option Addr) (c:Nat) (_:El W iv a (R x.row)),Calls Tryz.prog 67 #[.slice a d c] W (fun e w'=>e=.returned (.string (Dk (R x.row)))∧Fr W w'))
 (hks:∀ x,x ∈ N→(Dk (R x.row)).size≤1000)
 (hab:∀ (W:World) (_:Fr w W) (a:Option Addr) (c mb:Nat) (_:BT W a B) (_:C7 W mb (N.map fun x=>Dk (R x.row))),Calls Tryz.prog 68 #[.slice a d c,.int .i64 d,.map (some mb)] W (Oh W d res)) :
 Calls Tryz.prog 21 #[.agg #[.slice aN M cN,.slice aA d cA]] w (Yv L w N M d pr res):=by
 have hgn:=CS hG
 have hacc:=hZ (fun W (hW:Fr w W)=>J4 aN aA M cN cA A W (hG.fr hW) (hn.accs.fr hW) (by omega))
 rw [lenA] at hacc
 have hbk:=hZ (fun (cs:List Int) (hc:cs.all Bi=true) (hl:cs.length=d) (W:World) (hW:Fr w W) (a:Option Addr) (c:Nat) (h:El W sv a cs)=>by
  have h9:=(KB cs a c W (hG.fr hW) h (by omega) (fun x hx=>by have:=Gz (As.1 hc x hx); exact ⟨by have:=this.1; omega,by have:=this.2; omega⟩))
  rw [hl] at h9
  exact h9.mono fun e w' h=>(h.1 hc))
 have hgw:∀ W,Fr w W→gN≤W.heap.size:=fun W hW=>CS (hG.fr hW)
 replace hof:=hZ hof
 replace hst:=hZ hst
 replace hin:=hZ hin
 replace hrd:=hZ hrd
 replace hky:=hZ hky
 replace hks:=hZ hks
 replace hab:=hZ hab
 replace hcl:=hZ hcl
 replace hpr:=hZ hpr
 replace hPI:=hZ hPI
 replace hrow:=hZ hrow
 replace hgw:=hZ hgw
 have hsy:=hZ hn.noms
 replace hck:=hZ hck
 replace hM:=hZ hM
 clear hG hn lenA
 replace lenB:=hZ lenB
 have hmm:=@run_makeMap Tryz.prog
 go_enter Tryz.func21,Tryz.ntmps21
 go_upto_region 1 with (fail)
 obtain ⟨nb,hnb⟩:∃ nb,nb=w.heap.size:=⟨_,rfl⟩
 obtain ⟨W1,hW1⟩:∃ W1,W1=(w.alloc (.cells #[.slice aN M cN,.slice aA d cA] 31)).alloc (.cells #[.bool false,.slice none 0 0,.int .i64 0,.slice none 0 0,.int .i64 0,.slice none 0 0] 64):=⟨_,rfl⟩
 have f1:Fr w W1:=by rw [hW1]; exact ((Fr.refl _).alloc _).alloc _
 have hN1:Br W1 nb (.slice aN M cN) (.slice aA d cA):=by rw [hW1,hnb]; exact (Br.new w _ _ _).fr ((Fr.refl _).alloc _)
 have hW6:Io W1 (nb+1) (.bool false) (.slice none 0 0) (.int .i64 0) (.slice none 0 0) (.int .i64 0) (.slice none 0 0):=by
  have:=Io.new (w.alloc (.cells #[.slice aN M cN,.slice aA d cA] 31)) (.bool false) (.slice none 0 0) (.int .i64 0) (.slice none 0 0) (.int .i64 0) (.slice none 0 0) 64
  rw [AK] at this
  rw [hW1,hnb]; exact this
 rw [← hW1,← hnb]
 clear hW1
 replace hnb:=hZ hnb
 have n0:=hN1.a
 have n1':=hN1.b
 replace hW6:=hZ hW6
 replace hN1:=hZ hN1
 go_wp2_with fail
 refine (hck.out _ f1).mono ?_
 rintro e w2 ⟨rfl,hf2⟩
 replace n0:=hf2.keep n0
 replace n1':=hf2.keep n1'
 have f2:=f1.trans hf2
 go_wp2_with fail
 refine (hacc.out _ f2).mono ?_
 rintro e w3 ⟨a3,c3,rfl,hm3,hf3⟩
 have f3:=f2.trans hf3
 have hof3:=hZ (hof.out _ f3 a3 c3 hm3)
 clear hm3 hof hacc hck
 go_wp2_with fail
 refine hof3.out.mono ?_
 rintro e w4 ⟨bA,bc,rfl,hcp,hmB,hf4⟩
 rw [lenB.out] at hcp ⊢
 obtain ⟨W5,hW5⟩:∃ W5,W5=w4.alloc (.cells #[.int .i64 d,.slice bA d bc] 93):=⟨_,rfl⟩
 have f45:Fr w4 W5:=by rw [hW5]; exact (Fr.refl _).alloc _
 obtain ⟨lb,hlb⟩:∃ lb,lb=w4.heap.size:=⟨_,rfl⟩
 have hL5:Br W5 lb (.int .i64 d) (.slice bA d bc):=by rw [hW5,hlb]; exact Br.new _ _ _ _
 have hmB5:=hmB W5 (Fx.of_fr f45)
 have f35:=(hf3.trans hf4).trans f45
 have f5:=f2.trans f35
 have f15:=hf2.trans f35
 go_upto_region 6 with (fail)
 rw [← hW5,← hlb]
 clear hW5 hmB n0 n1' hof3
 have n0:=hN1.out.a
 replace n0:=f15.keep n0
 replace hmB5:=hZ hmB5
 replace hL5:=hZ hL5
 have hW65:=hZ (hW6.out.fr f15)
 have hN5:=hZ (hN1.out.fr f15)
 clear hN1 hW6 f1 f2 f3 f15 f35 f45 hf2 hf3 hf4
 replace hlb:=hZ hlb
 go_wp2_with fail
 go_loopg [47] M (fun k s47 wr=>∃ i:Nat,s47=.int .i64 i∧i+k=M∧Fr W5 wr∧Hid (Oc pr M i (i+1)))
 case atStart=>exact ⟨0,rfl,by omega,Fr.refl _,hZ (fun i' j' a b c=>by omega)⟩
 case round=>
  clear n0
  obtain ⟨i,rfl,hik,hf,hno⟩:=hrel
  have hFr:=f5.trans hf
  obtain ⟨wo,rfl⟩:∃ wo:World,wo=wr:=⟨_,rfl⟩
  obtain ⟨ko,rfl⟩:∃ ko:Nat,ko=gk:=⟨_,rfl⟩
  by_cases hi:i < M
  ·have hdI:decide (i < M)=true:=Ac hi
   obtain ⟨ab,ao,x,rfl,hbl,hxi,hc1,hc2,-⟩:=(hsy.out.fr hFr).at (i:=i) (by rw [← hM.out]; exact hi)
   have hxm:=Ae hxi
   rw [hrow.out x hxm] at hc2
   have z0:(0:Int)≤(i:Int):=Af _
   have z1:(i:Int) < (M:Int):=by omega
   obtain ⟨W6,hW6⟩:∃ W6,W6=wo.alloc (.cells #[.string x.nm,.slice x.ra d x.rc] 46):=⟨_,rfl⟩
   have f6:Fr wo W6:=by rw [hW6]; exact (Fr.refl _).alloc _
   obtain ⟨xb,hxb⟩:∃ xb,xb=wo.heap.size:=⟨_,rfl⟩
   have hX6:Br W6 xb (.string x.nm) (.slice x.ra d x.rc):=by rw [hW6,hxb]; exact Br.new _ _ _ _
   go_upto_region 11 with (fail)
   rw [← hW6,← hxb]
   clear hW6 hc1 hc2
   have hF6:=hf.trans f6
   replace hX6:=hZ hX6
   replace hxb:=hZ hxb
   replace hxi:=hZ hxi
   go_wp2_with fail
   go_loopg [10] (M - (i+1)) (fun k s10 wr=>∃ j:Nat,s10=.int .i64 j∧i < j∧j+k=M∧Fr W6 wr∧Hid (Oc pr M i j))
   case atStart=>exact ⟨i+1,by go_num,by omega,by omega,Fr.refl _,hno⟩
   case round=>
    clear hno
    obtain ⟨j,rfl,hij,hjk,hf7,hno⟩:=hrel
    have hF7:=hF6.trans hf7
    have hFr7:=f5.trans hF7
    obtain ⟨wv,rfl⟩:∃ wv:World,wv=wr:=⟨_,rfl⟩
    obtain ⟨kv,rfl⟩:∃ kv:Nat,kv=gk:=⟨_,rfl⟩
    have n0:=hF7.keep hN5.out.a
    by_cases hj:j < M
    ·have hdJ:decide (j < M)=true:=Ac hj
     obtain ⟨ab',ao',y,hae,hbl',hyj,hc1,hc2,-⟩:=(hsy.out.fr hFr7).at (i:=j) (by rw [← hM.out]; exact hj)
     injection hae with hae; injection hae with e1 e2
     subst e1; subst e2
     have hym:=Ae hyj
     rw [hrow.out y hym] at hc2
     have y0:(0:Int)≤(j:Int):=Af _
     have y1:(j:Int) < (M:Int):=by omega
     obtain ⟨W8,hW8⟩:∃ W8,W8=wv.alloc (.cells #[.string y.nm,.slice y.ra d y.rc] 46):=⟨_,rfl⟩
     have f8:Fr wv W8:=by rw [hW8]; exact (Fr.refl _).alloc _
     obtain ⟨yb,hyb⟩:∃ yb,yb=wv.heap.size:=⟨_,rfl⟩
     have hY8:Br W8 yb (.string y.nm) (.slice y.ra d y.rc):=by rw [hW8,hyb]; exact Br.new _ _ _ _
     have hi1:=hZ (fun W (hW:Fr W8 W)=>hin.out x hxm W ((hFr7.trans f8).trans hW))
     have hi2:=hZ (fun W (hW:Fr W8 W)=>hin.out y hym W ((hFr7.trans f8).trans hW))
     have hs1:=hZ (fun W (hW:Fr W8 W) v1 v2 h1 h2=>hst.out i j x y hxi.out hyj hij W ((hFr7.trans f8).trans hW) v1 v2 h1 h2)
     have hcl1:=hZ (fun W (hW:Fr W8 W)=>hcl.out y hym W ((hFr7.trans f8).trans hW))
     have hcf:=hZ (fun cs (h:pr i j=some cs)=>hpr.out i j cs hij hj h)
     replace hyj:=hZ hyj
     go_upto_region 15 with (fail)
     rw [← hW8,← hyb]
     clear hW8 hc1 hc2 n0
     replace hyb:=hZ hyb
     have m0:=(hF7.trans f8).keep hN5.out.a
     have m1:=(hF7.trans f8).keep hN5.out.b
     have m2:=(hf7.trans f8).keep hX6.out.b
     have m3:=hY8.b
     generalize y.ra=ya at *
     generalize y.rc=yc at *
     generalize x.ra=xa at *
     generalize x.rc=xc at *
     replace hY8:=hZ hY8
     have hS0:=hZ (fun W' (hW':Fr W8 W')=>(⟨hW'.keep m0,hW'.keep m1,hW'.keep m2,hW'.keep m3⟩:W'.cell? ⟨nb,0,none⟩=some (.slice (some ⟨ab,ao,none⟩) M cN)∧W'.cell? ⟨nb,1,none⟩=some (.slice aA d cA)∧W'.cell? ⟨xb,1,none⟩=some (.slice xa d xc)∧W'.cell? ⟨yb,1,none⟩=some (.slice ya d yc)))
     have hd8:Fr W8 W8.drew:=(Fr.refl W8).drew
     cases hpij:pr i j with
     | none=>
       replace hpij:=hZ hpij
       refine Dm (S:=fun W'=>W'.cell? ⟨nb,0,none⟩=some (.slice (some ⟨ab,ao,none⟩) M cN)∧W'.cell? ⟨nb,1,none⟩=some (.slice aA d cA)∧W'.cell? ⟨xb,1,none⟩=some (.slice xa d xc)∧W'.cell? ⟨yb,1,none⟩=some (.slice ya d yc)) (by kernel_rfl) (hS0.out _ hd8) (fun hHeld=>?_)
       refine hK 0 ?_
       refine hK 1 ?_
       refine hK 2 ?_
       refine hK 4 ?_
       refine hK 5 ?_
       refine hC 3 (fun K hK=>?_)
       go_simp
       (refine (hi1.out _ hd8).mono ?_; rintro e wA ⟨vx,rfl,hex,hfA⟩)
       go_wp2_with fail
       refine hK.out _ _ (hS0.out _ (hd8.trans hfA)) (fun hHeld=>?_)
       clear hK K
       refine hC 6 (fun K hK=>?_)
       go_simp
       (refine (hi2.out _ (hd8.trans hfA)).mono ?_; rintro e wB ⟨vy,rfl,hey,hfB⟩)
       go_wp2_with fail
       refine hK.out _ _ (hS0.out _ ((hd8.trans hfA).trans hfB)) (fun hHeld=>?_)
       clear hK K
       refine hC 7 (fun K hK=>?_)
       go_simp
       (refine (hs1.out _ ((hd8.trans hfA).trans hfB) vx vy (hPI.out _ _ _ _ hex hfB) hey).mono ?_; intro e wC hsr; rw [hpij.out] at hsr; obtain ⟨rfl,hfC⟩:=hsr)
       go_wp2_with fail
       refine hK.out _ _ (hS0.out _ (((hd8.trans hfA).trans hfB).trans hfC)) (fun hHeld=>?_)
       clear hK K
       refine hK 8 ?_
       refine hK 9 ?_
       refine hK 10 ?_
       refine hK 11 ?_
       refine hK 12 ?_
       refine Fg (by kernel_rfl) ?_ _
       have hf9:Fr wv wC:=f8.trans (((hd8.trans hfA).trans hfB).trans hfC)
       have n0:=hf9.keep (hF7.keep hN5.out.a)
       clear hHeld m0 m1 m2 m3 hd8
       go_wp2_with fail
       go_roundg (kv - 1)
       case measure=>omega
       case rel=>exact ⟨j+1,by go_num,by omega,by omega,hf7.trans hf9,hno.out.next hpij.out⟩
     | some cs=>
       have hcf2:=hcf.out cs hpij
       replace hpij:=hZ hpij
       replace hcf2:=hZ hcf2
       refine Dm (S:=fun W'=>W'.cell? ⟨nb,0,none⟩=some (.slice (some ⟨ab,ao,none⟩) M cN)∧W'.cell? ⟨nb,1,none⟩=some (.slice aA d cA)∧W'.cell? ⟨xb,1,none⟩=some (.slice xa d xc)∧W'.cell? ⟨yb,1,none⟩=some (.slice ya d yc)) (by kernel_rfl) (hS0.out _ hd8) (fun hHeld=>?_)
       refine hK 0 ?_
       refine hK 1 ?_
       refine hK 2 ?_
       refine hK 4 ?_
       refine hK 5 ?_
       refine hC 3 (fun K hK=>?_)
       go_simp
       (refine (hi1.out _ hd8).mono ?_; rintro e wA ⟨vx,rfl,hex,hfA⟩)
       go_wp2_with fail
       refine hK.out _ _ (hS0.out _ (hd8.trans hfA)) (fun hHeld=>?_)
       clear hK K
       refine hC 6 (fun K hK=>?_)
       go_simp
       (refine (hi2.out _ (hd8.trans hfA)).mono ?_; rintro e wB ⟨vy,rfl,hey,hfB⟩)
       go_wp2_with fail
       refine hK.out _ _ (hS0.out _ ((hd8.trans hfA).trans hfB)) (fun hHeld=>?_)
       clear hK K
       refine hC 7 (fun K hK=>?_)
       go_simp
       (refine (hs1.out _ ((hd8.trans hfA).trans hfB) vx vy (hPI.out _ _ _ _ hex hfB) hey).mono ?_; intro e wC hsr; rw [hpij.out] at hsr; obtain ⟨cv,rfl,hownC,hfC⟩:=hsr; rw [hcf2.out.1] at hownC; obtain ⟨ca,cc,rfl,hcel⟩:=Xq hownC hcf2.out.1.symm (hgw.out _ (hFr7.trans (f8.trans ((hd8.trans hfA).trans hfB)))); replace hcel:=hZ hcel; clear hownC)
       go_wp2_with fail
       refine hK.out _ _ (hS0.out _ (((hd8.trans hfA).trans hfB).trans hfC)) (fun hHeld=>?_)
       clear hK K
       refine hK 8 ?_
       refine hK 9 ?_
       refine hK 10 ?_
       refine hK 11 ?_
       refine hK 12 ?_
       refine Fg (by kernel_rfl) ?_ _
       have hf9:Fr W8 wC:=((hd8.trans hfA).trans hfB).trans hfC
       have hFC:=hFr7.trans (f8.trans hf9)
       have hbk1:=hZ (hbk.out cs hcf2.out.2 hcf2.out.1 _ hFC ca cc hcel.out)
       replace m3:=hf9.keep m3
       clear hHeld m0 m1 m2 hd8
       go_wp2_with fail
       refine hbk1.out.mono ?_
       rintro e wD ⟨bv,rfl,hownD,-,hfD⟩
       rw [hcf2.out.1] at hownD
       obtain ⟨ba,bc,rfl,hbel⟩:=VQ hownD hcf2.out.1.symm (hgw.out _ hFC)
       clear hownD hbk1
       replace m3:=hfD.keep m3
       replace hbel:=hZ hbel
       go_wp2_with fail
       obtain ⟨i4,li,lz0,lz1,lz2⟩:=AQ DQ
       have hnw:Hid (nb+1 < wv.heap.size∧wv.heap.size≤wC.heap.size∧wC.heap.size≤wD.heap.size):=hZ ⟨AX _ ⟨nb+1,0,none⟩ (hW65.out.fr hF7).c0,(f8.trans hf9).size,hfD.size⟩
       have hS1:=hZ (fun W' (hW':Fr wD W')=>(hW'.keep m3:W'.cell? ⟨yb,1,none⟩=some (.slice ya d yc)))
       have hdD:Fr wD wD.drew:=(Fr.refl wD).drew
       clear hi1 hi2 hs1 hst hin hrd hky hab
       refine Dm (S:=fun W'=>W'.cell? ⟨yb,1,none⟩=some (.slice ya d yc)) (by kernel_rfl) (hS1.out _ hdD) (fun hHeld=>?_)
       refine hK 0 ?_
       change wpAnyH _ _ _ _ _ _ _ (Act.put _ (some 87) _) _
       simp only [Act.put,BL,BV,BU]
       refine hK 1 ?_
       change wpAnyH _ _ _ _ _ _ _ (Act.put _ (some 88) _) _
       simp only [Act.put,BL,BV,BU]
       refine hK 3 ?_
       change wpAnyH _ _ _ _ _ _ _ (Act.put _ (some 90) _) _
       simp only [Act.put,BL,BV,BU]
       refine hK 4 ?_
       change wpAnyH _ _ _ _ _ _ _ (Act.put _ (some 91) _) _
       simp only [Act.put,BL,BV,BU]
       refine hK 5 ?_
       change wpAnyH _ _ _ _ _ _ _ (Act.put _ (some 92) _) _
       simp only [Act.put,BL,BV,BU]
       refine hK 6 ?_
       change wpAnyH _ _ _ _ _ _ _ (Act.put _ (some 93) _) _
       simp only [Act.put,BL,BV,BU]
       refine hK 7 ?_
       change wpAnyH _ _ _ _ _ _ _ (Act.put _ (some 94) _) _
       simp only [Act.put,BL,BV,BU]
       refine wpAnyH_ready (rs:=[2,8]) (by kernel_rfl) (by simp) ?_
       refine X5 rfl (fun K hK=>?_) (X5 rfl (fun K hK=>?_) AllReadyH.nil)
       ·
        go_simp
        refine (hcl1.out _ (hf9.trans (hfD.trans (by exact BR)))).mono ?_
        rintro e wE ⟨ea,ec,rfl,helE,hfE⟩
        replace helE:=hZ (helE.le (show wC.heap.size≤_ from Fr.size (hfD.trans (by exact BR))))
        go_wp2_with fail
        refine hK.out _ _ (hS1.out _ (by exact BR)) (fun hHeld=>?_)
        clear hK K
        try simp only [Act.put,BL]
        refine hK 11 ?_
        change wpAnyH _ _ _ _ _ _ _ (Act.put _ (some 2) _) _
        simp only [Act.put,BL,BV,BU]
        refine hC 8 (fun K hK=>?_)
        refine C4 _ rfl _ _ 44 rfl wE.heap.size 3 i4 _ 1 Tryz.underlying44 li lz0 lz1 .i64 .i64 (d:Int) (d:Int) d (by simp [Act.eval]) (by simp [Act.eval]) rfl rfl (by rw [lz2]; omega) (by unfold maxLen; omega) (Ag _) ?_
        intro wM hownM hgrM
        have hfM:Fr wE wM:=(Fr.refl _).grown hgrM (fun k e=>by cases e)
        rw [EJ d rfl] at hownM
        obtain ⟨gO,hgO⟩:∃ gO,gO=wE.heap.size:=⟨_,rfl⟩
        have hszD:wD.heap.size≤gO:=by rw [hgO]; exact Fr.size (by exact BR)
        rw [← hgO] at hownM ⊢
        replace hgO:=hZ hgO
        have hMk:S3 wD.heap.size wM (some ⟨gO,0,none⟩) (List.replicate d 0):=.inr ⟨_,rfl,hszD,(Cr (by rw [hgO.out]; exact hgw.out _ (hFC.trans (hfD.trans (by exact BR)))) hownM).1.el⟩
        clear hownM hgrM
        replace hMk:=hZ hMk
        refine hK.out _ _ (hS1.out _ (by exact BR)) (fun hHeld=>?_)
        clear hK K
        change wpAnyH _ _ _ _ _ _ _ (Act.put _ (some 95) _) _
        simp only [Act.put,BL,BV,BU]
        refine hK 9 ?_
        change wpAnyH _ _ _ _ _ _ _ (Act.put _ (some 96) _) _
        simp only [Act.put,BL,BV,BU]
        refine hK 10 ?_
        change wpAnyH _ _ _ _ _ _ _ (Act.put _ (some 97) _) _
        simp only [Act.put,BL,BV,BU]
        have hFM:=hZ (hFC.trans (hfD.trans (hdD.trans (hfE.trans hfM))))
        have hWM:=hZ (hW65.out.fr (hF7.trans ((f8.trans hf9).trans (hfD.trans (hdD.trans (hfE.trans hfM))))))
        obtain ⟨c0,c1,c2,c3',c4,c5,e0,e1,e2,e3,e4,e5⟩:=hWM.out
        refine hC 12 (fun K hK=>?_)
        go_simp
        have hfx10:=hZ (Kb wM (nb+1) (.bool false) (.slice ea d ec) (.int .i64 i) (.slice ba d bc) (.int .i64 j) (.slice (some ⟨gO,0,none⟩) d d))
        have hW10:=hZ (hWM.out.stored (.bool false) (.slice ea d ec) (.int .i64 i) (.slice ba d bc) (.int .i64 j) (.slice (some ⟨gO,0,none⟩) d d))
        refine hK.out _ _ (hfx10.out.keep hHeld (fun e=>by have e:yb=nb+1:=e; have:=hyb.out; have:=hnw.out; omega)) (fun hHeld=>?_)
        clear hK K c0 c1 c2 c3' c4 c5 e0 e1 e2 e3 e4 e5
        refine hK 13 ?_
        change wpAnyH _ _ _ _ _ _ _ (Act.put _ (some 4) _) _
        simp only [Act.put,BL,BV,BU]
        refine Fg (by kernel_rfl) ?_ _
        go_wp2_with fail
        obtain ⟨q0,q1,q2,q3,q4,q5,-⟩:=hW10.out
        refine Ax (v:=.tuple #[.bool false,.agg #[.bool false,.slice ea d ec,.int .i64 i,.slice ba d bc,.int .i64 j,.slice (some ⟨gO,0,none⟩) d d],.int .i64 0]) (by simp [results,Tryz.results21,go_sem,q0,q1,q2,q3,q4,q5]) rfl ?_
        refine .inl (.inl ⟨i,j,cs,y,ea,ec,ba,bc,_,_,hij,hj,hpij.out,hno.out,hyj.out,rfl,(helE.out.fr (by exact BR)).fx hfx10.out (by have:=hnw.out; omega),(hbel.out.fr (by exact BR)).fx hfx10.out (by have:=hnw.out; omega),hMk.out.fx hfx10.out (by have:=hnw.out; omega), ?_⟩)
        exact ((Fx.of_fr hFM.out).trans hfx10.out).toFr (fun k hk e=>by have e:k=nb+1:=e; have:=hnb.out; omega)
       ·
        refine C4 _ rfl _ _ 44 rfl wD.drew.heap.size 3 i4 _ 1 Tryz.underlying44 li lz0 lz1 .i64 .i64 (d:Int) (d:Int) d (by simp [Act.eval]) (by simp [Act.eval]) rfl rfl (by rw [lz2]; omega) (by unfold maxLen; omega) (Ag _) ?_
        intro wE hownM hgrM
        have hfM:Fr wD.drew wE:=(Fr.refl _).grown hgrM (fun k e=>by cases e)
        rw [EJ d rfl] at hownM
        obtain ⟨gO,hgO⟩:∃ gO,gO=wD.drew.heap.size:=⟨_,rfl⟩
        have hszD:wD.heap.size≤gO:=by rw [hgO]; exact Fr.size (by exact BR)
        rw [← hgO] at hownM ⊢
        replace hgO:=hZ hgO
        have hMk:S3 wD.heap.size wE (some ⟨gO,0,none⟩) (List.replicate d 0):=.inr ⟨_,rfl,hszD,(Cr (by rw [hgO.out]; exact hgw.out _ (hFC.trans (hfD.trans (by exact BR)))) hownM).1.el⟩
        clear hownM hgrM
        replace hMk:=hZ hMk
        refine hK.out _ _ (hS1.out _ (by exact BR)) (fun hHeld=>?_)
        clear hK K
        change wpAnyH _ _ _ _ _ _ _ (Act.put _ (some 95) _) _
        simp only [Act.put,BL,BV,BU]
        refine hK 9 ?_
        change wpAnyH _ _ _ _ _ _ _ (Act.put _ (some 96) _) _
        simp only [Act.put,BL,BV,BU]
        refine hC 2 (fun K hK=>?_)
        go_simp
        refine (hcl1.out _ (hf9.trans (hfD.trans (by exact BR)))).mono ?_
        rintro e wM ⟨ea,ec,rfl,helE,hfE⟩
        replace helE:=hZ (helE.le (show wC.heap.size≤_ from Fr.size (hfD.trans (by exact BR))))
        go_wp2_with fail
        refine hK.out _ _ (hS1.out _ (by exact BR)) (fun hHeld=>?_)
        clear hK K
        try simp only [Act.put,BL]
        replace hMk:=hZ (hMk.out.fr hfE)
        refine hK 11 ?_
        change wpAnyH _ _ _ _ _ _ _ (Act.put _ (some 2) _) _
        simp only [Act.put,BL,BV,BU]
        refine hK 10 ?_
        change wpAnyH _ _ _ _ _ _ _ (Act.put _ (some 97) _) _
        simp only [Act.put,BL,BV,BU]
        have hFM:=hZ (hFC.trans (hfD.trans (hdD.trans (hfM.trans hfE))))
        have hWM:=hZ (hW65.out.fr (hF7.trans ((f8.trans hf9).trans (hfD.trans (hdD.trans (hfM.trans hfE))))))
        obtain ⟨c0,c1,c2,c3',c4,c5,e0,e1,e2,e3,e4,e5⟩:=hWM.out
        refine hC 12 (fun K hK=>?_)
        go_simp
        have hfx10:=hZ (Kb wM (nb+1) (.bool false) (.slice ea d ec) (.int .i64 i) (.slice ba d bc) (.int .i64 j) (.slice (some ⟨gO,0,none⟩) d d))
        have hW10:=hZ (hWM.out.stored (.bool false) (.slice ea d ec) (.int .i64 i) (.slice ba d bc) (.int .i64 j) (.slice (some ⟨gO,0,none⟩) d d))
        refine hK.out _ _ (hfx10.out.keep hHeld (fun e=>by have e:yb=nb+1:=e; have:=hyb.out; have:=hnw.out; omega)) (fun hHeld=>?_)
        clear hK K c0 c1 c2 c3' c4 c5 e0 e1 e2 e3 e4 e5
        refine hK 13 ?_
        change wpAnyH _ _ _ _ _ _ _ (Act.put _ (some 4) _) _
        simp only [Act.put,BL,BV,BU]
        refine Fg (by kernel_rfl) ?_ _
        go_wp2_with fail
        obtain ⟨q0,q1,q2,q3,q4,q5,-⟩:=hW10.out
        refine Ax (v:=.tuple #[.bool false,.agg #[.bool false,.slice ea d ec,.int .i64 i,.slice ba d bc,.int .i64 j,.slice (some ⟨gO,0,none⟩) d d],.int .i64 0]) (by simp [results,Tryz.results21,go_sem,q0,q1,q2,q3,q4,q5]) rfl ?_
        refine .inl (.inl ⟨i,j,cs,y,ea,ec,ba,bc,_,_,hij,hj,hpij.out,hno.out,hyj.out,rfl,(helE.out.fr (by exact BR)).fx hfx10.out (by have:=hnw.out; omega),(hbel.out.fr (by exact BR)).fx hfx10.out (by have:=hnw.out; omega),hMk.out.fx hfx10.out (by have:=hnw.out; omega), ?_⟩)
        exact ((Fx.of_fr hFM.out).trans hfx10.out).toFr (fun k hk e=>by have e:k=nb+1:=e; have:=hnb.out; omega)
    ·have hdJ:decide (j < M)=false:=Aa hj
     obtain rfl:M=j:=by omega
     go_wp2_with fail
     go_roundg (ko - 1)
     case measure=>omega
     case rel=>exact ⟨i+1,by go_num,by omega,hF7,hno.out.row⟩
  ·have hdI:decide (i < M)=false:=Aa hi
   obtain rfl:M=i:=by omega
   have hnoA:=hZ (fun i j (a:i < j) (b:j < M)=>hno.out i j (.inl (by omega)) a b)
   have n0:=hf.keep hN5.out.a
   clear hno
   clear hst hin hcl hbk hpr
   have hW8:=hZ (hW65.out.fr hf)
   have hN8:=hZ (hN5.out.fr hf)
   have hL8:=hZ (hL5.out.fr hf)
   have hmB8:=hZ (hmB5.out.fr hf)
   clear hW65 hN5 hL5 hmB5
   go_upto_region 23 with (fail)
   obtain ⟨W7,hW7⟩:∃ W7,W7=wo.alloc (.map #[] 0):=⟨_,rfl⟩
   have f7:Fr wo W7:=by rw [hW7]; exact (Fr.refl _).alloc _
   obtain ⟨mb,hmb⟩:∃ mb,mb=wo.heap.size:=⟨_,rfl⟩
   have hsn7:C7 W7 mb []:=by rw [hW7,hmb]; exact C7.nil wo
   rw [← hW7,← hmb]
   clear hW7
   have hnm:nb≠mb:=by have:=hN8.out.lt; omega
   have hlm:lb≠mb:=by have:=hL8.out.lt; omega
   have hwm:nb+1≠mb:=by have:=AX _ ⟨nb+1,0,none⟩ hW8.out.c0; have h9:(⟨nb+1,0,none⟩:Addr).block=nb+1:=rfl; rw [h9] at this; omega
   have hF7:=(f5.trans hf).trans f7
   have hFW:Hid (∀ W,Fx (·=mb) W7 W→Fr wo W):=fun W h=>((Fx.of_fr f7).trans h).toFr (fun k hk e=>by have e:k=mb:=e; omega)
   have hfwo:=f5.trans hf
   replace n0:=f7.keep n0
   replace hmb:=hZ hmb
   replace hsn7:=hZ hsn7
   clear hmm
   go_wp2_with fail
   go_loopg [103] M (fun k s103 wr=>∃ i:Nat,s103=.int .i64 i∧i+k=M∧Fx (·=mb) W7 wr∧Hid (C7 wr mb ((N.take i).map fun x=>Dk (R x.row))))
   case atStart=>exact ⟨0,rfl,by omega,Fx.refl _ _,hsn7.out⟩
   case round=>
    clear hsn7 n0
    obtain ⟨i,rfl,hik,hfx,hsn⟩:=hrel
    have hFo:=hFW.out _ hfx
    have hFr:=hfwo.trans hFo
    obtain ⟨wv,rfl⟩:∃ wv:World,wv=wr:=⟨_,rfl⟩
    obtain ⟨kv,rfl⟩:∃ kv:Nat,kv=gk:=⟨_,rfl⟩
    by_cases hi:i < M
    ·have hdI:decide (i < M)=true:=Ac hi
     obtain ⟨ab,ao,x,rfl,hbl,hxi,hc1,hc2,-⟩:=(hsy.out.fr hFr).at (i:=i) (by rw [← hM.out]; exact hi)
     have hxm:=Ae hxi
     rw [hrow.out x hxm] at hc2
     have z0:(0:Int)≤(i:Int):=Af _
     have z1:(i:Int) < (M:Int):=by omega
     obtain ⟨W6,hW6⟩:∃ W6,W6=wv.alloc (.cells #[.string x.nm,.slice x.ra d x.rc] 46):=⟨_,rfl⟩
     have f6:Fr wv W6:=by rw [hW6]; exact (Fr.refl _).alloc _
     obtain ⟨xb,hxb⟩:∃ xb,xb=wv.heap.size:=⟨_,rfl⟩
     have hX6:Br W6 xb (.string x.nm) (.slice x.ra d x.rc):=by rw [hW6,hxb]; exact Br.new _ _ _ _
     have hfr6:=hFr.trans f6
     have hr1:=hZ (fun W (hW:Fr W6 W)=>hrd.out x hxm W (hfr6.trans hW) bA bc ((hmB8.out.fr hFo).fr (f6.trans hW)) hcp)
     have hk1:=hZ (fun W (hW:Fr W6 W) g c h=>hky.out x hxm W (hfr6.trans hW) g c h)
     have hks1:=hks.out x hxm
     have hsn9:(N.take (i+1)).map (fun x=>Dk (R x.row))=(N.take i).map (fun x=>Dk (R x.row)) ++ [Dk (R x.row)]:=by rw [Bx hxi,Aw]; rfl
     obtain ⟨K,hK⟩:∃ K,K=Dk (R x.row):=⟨_,rfl⟩
     rw [← hK] at hk1 hks1 hsn9
     have hlk:((N.take i).map (fun x=>Dk (R x.row))).length≤1000000:=by rw [Am,AG]; omega
     replace hK:=hZ hK
     replace hsn9:=hZ hsn9
     replace hxi:=hZ hxi
     go_upto_region 26 with (fail)
     rw [← hW6,← hxb]
     clear hW6 hc1 hc2
     replace hxb:=hZ hxb
     have m1:=(hFo.trans f6).keep hL8.out.b
     have m2:=hX6.b
     generalize x.ra=xa at *
     generalize x.rc=xc at *
     generalize x.nm=xn at *
     replace hX6:=hZ hX6
     go_wp2_with fail
     refine (hr1.out _ (Fr.refl _)).mono ?_
     intro e wA hor
     rcases hor with ⟨gr,cr,g2,c2,rfl,hel,hfA⟩ | ⟨hL,rfl,hfA⟩
     case inr=>
      have fA:=f6.trans hfA
      have hW8A:=hW8.out.fr (hFo.trans fA)
      have hFrA:=hFr.trans fA
      have hfx10:=hZ (Kb wA (nb+1) (.bool false) (.slice none 0 0) (.int .i64 0) (.slice none 0 0) (.int .i64 0) (.slice none 0 0))
      have hW10:=hZ (hW8A.stored (.bool false) (.slice none 0 0) (.int .i64 0) (.slice none 0 0) (.int .i64 0) (.slice none 0 0))
      obtain ⟨c0,c1,c2,c3,c4,c5,e0,e1,e2,e3,e4,e5⟩:=hW8A
      replace hL:=hZ hL
      clear m1 m2 hr1 hk1
      go_wp2_with fail
      obtain ⟨q0,q1,q2,q3,q4,q5,-⟩:=hW10.out
      refine Ax (v:=.tuple #[.bool false,IX,.int .i64 4]) (by unfold IX; simp [results,Tryz.results21,go_sem,q0,q1,q2,q3,q4,q5]) rfl ?_
      exact .inr ⟨hL.out,rfl,((Fx.of_fr hFrA).trans hfx10.out).toFr (fun k hk e=>by have e:k=nb+1:=e; have:=hnb.out; omega)⟩
     have hk2:=hZ (hk1.out _ hfA gr cr hel)
     clear hel m1 m2 hr1 hk1
     go_wp2_with fail
     refine hk2.out.mono ?_
     rintro e wB ⟨rfl,hfB⟩
     have hsnB:=hZ (hsn.out.fr ((f6.trans hfA).trans hfB))
     have hfxB:=hfx.fr ((f6.trans hfA).trans hfB)
     clear hsn
     go_wp2_with (at_mapUpdate; refine Lg _ mb _ K rfl _ _ _ rfl (by rfl) (by rfl) (by rfl) hsnB.out hlk (by unfold maxLen; omega) ?_; intro w4 hsn4 hfx4; replace hsn4:=hZ hsn4)
     have hfx5:=hfxB.trans hfx4
     have n0:=(hFW.out _ hfx5).keep hN8.out.a
     go_wp2_with fail
     go_roundg (kv - 1)
     case measure=>omega
     case rel=>exact ⟨i+1,by go_num,by omega,hfx5,by show C7 _ _ _; rw [hsn9.out]; exact hsn4.out⟩
    ·have hdI:decide (i < M)=false:=Aa hi
     obtain rfl:M=i:=by omega
     have hsn9:=hsn.out
     rw [Ak (by rw [← hM.out]; exact Ag _)] at hsn9
     have hab1:=hZ (hab.out _ hFr bA bc mb (hmB8.out.fr hFo) hsn9)
     have m1:=hFo.keep hL8.out.b
     have hW9:=hW8.out.fr hFo
     clear hsn9 hsn
     replace hW9:=hZ hW9
     go_wp2_with fail
     refine hab1.out.mono ?_
     clear hab1
     intro e w9 hres
     unfold Oh at hres
     cases res with
     | none=>
       obtain ⟨rfl,hf9⟩:=hres
       have hW10:=hZ ((hW9.out.fr hf9).stored (.bool false) (.slice none 0 0) (.int .i64 0) (.slice none 0 0) (.int .i64 0) (.slice none 0 0))
       have hfx10:=hZ (Kb w9 (nb+1) (.bool false) (.slice none 0 0) (.int .i64 0) (.slice none 0 0) (.int .i64 0) (.slice none 0 0))
       obtain ⟨c0,c1,c2,c3,c4,c5,e0,e1,e2,e3,e4,e5⟩:=hW9.out.fr hf9
       go_wp2_with fail
       obtain ⟨q0,q1,q2,q3,q4,q5,-⟩:=hW10.out
       refine Ax (v:=.tuple #[.bool true,IX,.int .i64 0]) (by unfold IX; simp [results,Tryz.results21,go_sem,q0,q1,q2,q3,q4,q5]) rfl ?_
       exact .inl (.inr ⟨hnoA.out,rfl,((Fx.of_fr (hFr.trans hf9)).trans hfx10.out).toFr (fun k hk e=>by have e:k=nb+1:=e; have:=hnb.out; omega)⟩)
     | some x=>
       obtain ⟨gx,cx,rfl,hel,hgx,hxl,hf9⟩:=hres
       have hW10:=hZ ((hW9.out.fr hf9).stored (.bool true) (.slice (some ⟨gx,0,none⟩) d cx) (.int .i64 0) (.slice none 0 0) (.int .i64 0) (.slice none 0 0))
       have hfx10:=hZ (Kb w9 (nb+1) (.bool true) (.slice (some ⟨gx,0,none⟩) d cx) (.int .i64 0) (.slice none 0 0) (.int .i64 0) (.slice none 0 0))
       have hwl:=AX _ ⟨nb+1,0,none⟩ hW9.out.c0
       obtain ⟨c0,c1,c2,c3,c4,c5,e0,e1,e2,e3,e4,e5⟩:=hW9.out.fr hf9
       replace hel:=hZ hel
       replace hwl:=hZ hwl
       go_wp2_with fail
       obtain ⟨q0,q1,q2,q3,q4,q5,-⟩:=hW10.out
       refine Ax (v:=.tuple #[.bool false,.agg #[.bool true,.slice (some ⟨gx,0,none⟩) d cx,.int .i64 0,.slice none 0 0,.int .i64 0,.slice none 0 0],.int .i64 0]) (by simp [results,Tryz.results21,go_sem,q0,q1,q2,q3,q4,q5]) rfl ?_
       exact .inl (.inr ⟨hnoA.out,gx,cx,rfl,hel.out.fx hfx10.out (fun e=>by have e:gx=nb+1:=e; have h9:nb+1 < wv.heap.size:=hwl.out; omega),hxl,((Fx.of_fr (hFr.trans hf9)).trans hfx10.out).toFr (fun k hk e=>by have e:k=nb+1:=e; have:=hnb.out; omega)⟩)
theorem QG (N A:List Sy) (d M:Nat) (B:List (List Int)) (R:List Int→List Int) (PI:World→Value→List Int→Prop) (pr:Nat→Nat→Option (List Int)) (res:Option (List Int)) (aN aA:Option Addr) (cN cA:Nat) (w:World) (hG:G w) (hn:DS w aN aA cA N A)
 (hM:M=N.length) (n1:1≤M) (n60:M≤60) (d6:d≤6) (lenA:A.length=d) (lenB:B.length=d) (hrow:∀ x,x ∈ N→x.row.length=d) (hPI:∀ W W' v xs,PI W v xs→Fr W W'→PI W' v xs)
 (hck:∀ W,Fr w W→Calls Tryz.prog 25 #[.agg #[.slice aN M cN,.slice aA d cA]] W fun e w'=>e=.returned (.int .i64 0)∧Fr W w')
 (hof:∀ W (_:Fr w W) a c (_:BT W a (A.map Sy.row)),Calls Tryz.prog 41 #[.int .i64 d,.slice a d c] W (Lf W d B))
 (hin:∀ (x:Sy) (_:x ∈ N) (W:World) (_:Fr w W),Calls Tryz.prog 64 #[.slice x.ra d x.rc] W fun e w'=>∃ v,e=.returned v∧PI w' v x.row∧Fr W w')
 (hst:∀ (i j:Nat) (x y:Sy) (_:N[i]?=some x) (_:N[j]?=some y) (_:i < j) (W:World) (_:Fr w W) v1 v2 (_:PI W v1 x.row) (_:PI W v2 y.row),Calls Tryz.prog 63 #[.agg #[.slice aN M cN,.slice aA d cA],v1,v2] W (Mo W (pr i j)))
 (hpr:∀ i j cs,i < j→j < M→pr i j=some cs→cs.length=d∧cs.all Bi=true)
 (hcl:∀ (x:Sy) (_:x ∈ N) (W:World) (_:Fr w W),Calls Tryz.prog 61 #[.slice x.ra d x.rc] W fun e w'=>∃ a c,e=.returned (.slice a d c)∧S3 W.heap.size w' a x.row∧Fr W w')
 (hrd:∀ (x:Sy) (_:x ∈ N) (W:World) (_:Fr w W) (a:Option Addr) (c:Nat) (_:BT W a B) (_:d≤c),Calls Tryz.prog 66 #[.slice a d c,.slice x.ra d x.rc] W (fun e w'=>∃ a1 c1 a2 c2,e=.returned (.tuple #[.slice a1 d c1,.slice a2 d c2,.int .i64 0])∧El w' iv a1 (R x.row)∧Fr W w'))
 (hky:∀ (x:Sy) (_:x ∈ N) (W:World) (_:Fr w W) (a:Option Addr) (c:Nat) (_:El W iv a (R x.row)),Calls Tryz.prog 67 #[.slice a d c] W (fun e w'=>e=.returned (.string (Dk (R x.row)))∧Fr W w'))
 (hks:∀ x,x ∈ N→(Dk (R x.row)).size≤1000)
 (hab:∀ (W:World) (_:Fr w W) (a:Option Addr) (c mb:Nat) (_:BT W a B) (_:C7 W mb (N.map fun x=>Dk (R x.row))),Calls Tryz.prog 68 #[.slice a d c,.int .i64 d,.map (some mb)] W (Oh W d res)) :
 Calls Tryz.prog 21 #[.agg #[.slice aN M cN,.slice aA d cA]] w (UQ w N M d pr res) :=
 (Mm False N A d M B R PI pr res aN aA cN cA w hG hn hM n1 n60 d6 lenA lenB hrow hPI hck hof hin hst hpr hcl (fun x hx W hW a c h1 h2=>(hrd x hx W hW a c h1 h2).mono fun _ _ h=>.inl h) hky hks hab).mono fun _ _ h=>h.elim id fun h=>h.1.elim
theorem QF (aN aA:Option Addr) (cN cA M d:Nat) (A:List Sy) (w:World) (hG:G w) (hA:Gn w aA A) (lenA:A.length=d) (d6:d≤6)
 (hck:∀ W,Fr w W→Calls Tryz.prog 25 #[.agg #[.slice aN M cN,.slice aA d cA]] W fun e w'=>e=.returned (.int .i64 0)∧Fr W w')
 (hof:∀ W (_:Fr w W) a c (_:BT W a (A.map Sy.row)),Calls Tryz.prog 41 #[.int .i64 d,.slice a d c] W fun e w'=>e=.returned (.tuple #[.agg #[.int .i64 0,.slice none 0 0],.int .i64 4])∧Fr W w') :
 Calls Tryz.prog 21 #[.agg #[.slice aN M cN,.slice aA d cA]] w fun e w'=>e=.returned (.tuple #[.bool false,IX,.int .i64 4])∧Fr w w':=by
 have hacc:=hZ (fun W (hW:Fr w W)=>J4 aN aA M cN cA A W (hG.fr hW) (hA.fr hW) (by omega))
 rw [lenA] at hacc
 replace hof:=hZ hof
 replace hck:=hZ hck
 clear hG hA lenA
 obtain ⟨nb,hnb⟩:∃ nb,nb=w.heap.size:=⟨_,rfl⟩
 obtain ⟨W1,hW1⟩:∃ W1,W1=(w.alloc (.cells #[.slice aN M cN,.slice aA d cA] 31)).alloc (.cells #[.bool false,.slice none 0 0,.int .i64 0,.slice none 0 0,.int .i64 0,.slice none 0 0] 64):=⟨_,rfl⟩
 have f1:Fr w W1:=by rw [hW1]; exact ((Fr.refl _).alloc _).alloc _
 have hN1:Br W1 nb (.slice aN M cN) (.slice aA d cA):=by rw [hW1,hnb]; exact (Br.new w _ _ _).fr ((Fr.refl _).alloc _)
 have hS1:Io W1 (nb+1) (.bool false) (.slice none 0 0) (.int .i64 0) (.slice none 0 0) (.int .i64 0) (.slice none 0 0):=by
  have:=Io.new (w.alloc (.cells #[.slice aN M cN,.slice aA d cA] 31)) (.bool false) (.slice none 0 0) (.int .i64 0) (.slice none 0 0) (.int .i64 0) (.slice none 0 0) 64
  rw [AK] at this
  rw [hW1,hnb]; exact this
 go_enter Tryz.func21,Tryz.ntmps21
 go_upto_region 1 with (fail)
 rw [← hW1,← hnb]
 clear hW1
 replace hnb:=hZ hnb
 have n0:=hN1.a
 have n1':=hN1.b
 replace hN1:=hZ hN1
 replace hS1:=hZ hS1
 go_wp2_with fail
 refine (hck.out _ f1).mono ?_
 rintro e w2 ⟨rfl,hf2⟩
 replace n0:=hf2.keep n0
 replace n1':=hf2.keep n1'
 have f2:=f1.trans hf2
 go_wp2_with fail
 refine (hacc.out _ f2).mono ?_
 rintro e w3 ⟨a3,c3,rfl,hm3,hf3⟩
 have f3:=f2.trans hf3
 have hof3:=hZ (hof.out _ f3 a3 c3 hm3)
 clear hm3 hof hacc hck n0 n1'
 go_wp2_with fail
 refine hof3.out.mono ?_
 rintro e w4 ⟨rfl,hf4⟩
 obtain ⟨W5,hW5⟩:∃ W5,W5=w4.alloc (.cells #[.int .i64 0,.slice none 0 0] 93):=⟨_,rfl⟩
 have f45:Fr w4 W5:=by rw [hW5]; exact (Fr.refl _).alloc _
 have f15:=hf2.trans ((hf3.trans hf4).trans f45)
 have hS9:=hS1.out.fr f15
 have hFr:=f1.trans f15
 have hfx10:=hZ (Kb W5 (nb+1) (.bool false) (.slice none 0 0) (.int .i64 0) (.slice none 0 0) (.int .i64 0) (.slice none 0 0))
 have hW10:=hZ (hS9.stored (.bool false) (.slice none 0 0) (.int .i64 0) (.slice none 0 0) (.int .i64 0) (.slice none 0 0))
 obtain ⟨c0,c1,c2,c3,c4,c5,e0,e1,e2,e3,e4,e5⟩:=hS9
 go_upto_region 6 with (fail)
 rw [← hW5]
 clear hW5 hof3
 go_wp2_with fail
 obtain ⟨q0,q1,q2,q3,q4,q5,-⟩:=hW10.out
 refine Ax (v:=.tuple #[.bool false,IX,.int .i64 4]) (by unfold IX; simp [results,Tryz.results21,go_sem,q0,q1,q2,q3,q4,q5]) rfl ?_
 exact ⟨rfl,((Fx.of_fr hFr).trans hfx10.out).toFr (fun k hk e=>by have e:k=nb+1:=e; have:=hnb.out; omega)⟩
theorem SQ (N A:List Sy) (d:Nat) (B:List (List Int)) (I:List (List Rat)) (res:Option (List Int)) (aN aA:Option Addr) (cN cA:Nat) (w:World) (hG:G w) (hn:DS w aN aA cA N A)
 (hU:MO (N.map Sy.row) (A.map Sy.row) d B I res)
 (hck:∀ W,Fr w W→Calls Tryz.prog 25 #[.agg #[.slice aN N.length cN,.slice aA A.length cA]] W fun e w'=>e=.returned (.int .i64 0)∧Fr W w') :
 Calls Tryz.prog 21 #[.agg #[.slice aN N.length cN,.slice aA A.length cA]] w (RM w d res):=by
 obtain ⟨d1,d6,lenA,n1,n60,rowA,rowN,⟨F,gF,tF,hF,rfl⟩,lenB,rowB,isF,⟨Fq,hq1,hq2,rfl⟩,rowI,lenI,pairs,red,⟨Fa,habs⟩⟩:=hU
 rw [Am] at lenA n1 n60
 rw [lenA] at hck ⊢
 have hTA:Ge d (A.map Sy.row):=⟨by rw [Am]; omega,by omega,fun r hr=>(rowA r hr).1,fun r hr=>(rowA r hr).2⟩
 have hTB:Ge d (gF.take tF):=⟨by omega,by omega,fun r hr=>(rowB r hr).1,fun r hr=>(rowB r hr).2⟩
 have hrN:∀ x,x ∈ N→x.row.length=d∧∀ y,y ∈ x.row→Bi y=true:=fun x hx=>rowN x.row (Ek hx)
 have hrd:=fun (x:Sy) (hx:x ∈ N)=>red x.row (Ek hx)
 have hrf:∀ x,x ∈ N→(Db (gF.take tF) x.row).length=d∧∀ z,z ∈ Db (gF.take tF) x.row→Bi z=true:=fun x hx=>by
  obtain ⟨s,hs1,hs2,hs3⟩:=hrd x hx
  have e1:Db (gF.take tF) x.row=s.1:=by unfold Db; rw [lenB,hs1]; rfl
  rw [e1]
  exact ⟨(EM _ s hs1).1.trans (hrN x hx).1,hs2⟩
 refine (QG N A d N.length (gF.take tF) (Db (gF.take tF)) (fun W v xs=>∃ g c,v=.slice (some ⟨g,0,none⟩) d c∧El W sv (some ⟨g,0,none⟩) xs) (fun _ _=>none) res aN aA cN cA w hG hn rfl n1 n60 d6 lenA lenB (fun x hx=>(hrN x hx).1)
  (fun W' W'' v xs ⟨g,c,e,h⟩ hf=>⟨g,c,e,h.fr hf⟩) hck ?_ ?_ ?_ (fun _ _ _ _ _ h=>by cases h) ?_ ?_ ?_ ?_ ?_).mono ?_
 ·intro W' hW' a c hm
  have:=Ww (A.map Sy.row) gF F tF a c d W' (hG.fr hW') hm hTA (by rw [Am]; omega) d1 hF (fun r hr=>(rowB r hr).2)
  rw [Am,lenA] at this
  exact this
 ·intro x hx W' hW'
  refine (J0 x.row x.ra x.rc d W' (hG.fr hW') ((hn.noms.2 x hx).fr hW') (hrN x hx).1 d1 (by omega) (hrN x hx).2).mono ?_
  rintro e w' ⟨g,c,rfl,h3,h4⟩
  exact ⟨_,rfl,⟨g,c,rfl,h3⟩,h4⟩
 ·rintro i j x y hx hy hij W' hW' v1 v2 ⟨g,c,rfl,e1⟩ ⟨g2,c2,rfl,e2⟩
  have hp:=pairs i j x.row y.row (by rw [Ao,hx]; rfl) (by rw [Ao,hy]; rfl) hij
  have rx:=hrN x (Ae hx)
  have ry:=hrN y (Ae hy)
  have hinv:∀ a c W2,Fr W' W2→BT W2 a (A.map Sy.row)→Calls Tryz.prog 122 #[.slice a d c] W2 (Od W2 (Fq.g.map (List.drop d))):=fun a c W2 hW2 hm=>by
   have h:=Iq (A.map Sy.row) a c d Fq W2 ((hG.fr hW').fr hW2) hm hTA d1 (by rw [Am]; exact lenA) hq1 hq2
   rw [Am,lenA] at h
   exact h
  have h:=Kx aN aA N.length cN cA d A (Fq.g.map (List.drop d)) x.row y.row (some ⟨g,0,none⟩) (some ⟨g2,0,none⟩) c c2 W' (hG.fr hW') (hn.accs.fr hW') lenA.symm d1 d6 hinv rowI lenI e1 e2 rx.1 ry.1 (fun z hz=>Gz (rx.2 z hz)) (fun z hz=>Gz (ry.2 z hz)) hp.1
  rw [hp.2] at h
  exact h
 ·intro x hx W' hW'
  have hl:=(hrN x hx).1
  rcases ((hn.noms.2 x hx).fr hW') with h9 | ⟨b,o,hra,hb,hc⟩
  ·rw [h9] at hl; exact absurd hl (by show ¬ (0=d); omega)
  ·have:=KD b o x.rc x.row W' (by omega) hc
   rw [hl] at this
   rw [hra]
   refine this.mono ?_
   rintro e w' ⟨g,c,rfl,hf,ho⟩
   rw [hl] at ho ⊢
   have h8:=Cr (CS (hG.fr hW')) ho
   exact ⟨_,_,rfl,.inr ⟨g,rfl,h8.2.2.2.1,h8.1.el⟩,hf⟩
 ·intro x hx W' hW' a c hm hc
  obtain ⟨s,hs1,hs2,hs3⟩:=hrd x hx
  have hsl:=EM _ s hs1
  have e1:Db (gF.take tF) x.row=s.1:=by unfold Db; rw [lenB,hs1]; rfl
  have h:=QM (gF.take tF) x.row s a x.ra c x.rc d W' (hG.fr hW') hm hTB (by omega) isF d1 (by omega) ((hn.noms.2 x hx).fr hW') (hrN x hx).1 (hrN x hx).2 (by rw [lenB]; exact hs1) hs2 hs3
  rw [lenB] at h
  refine h.mono ?_
  rintro e w' ⟨b,c',b2,c2,rfl,h1,h2,h3⟩
  exact ⟨_,_,_,_,by rw [hsl.1,hsl.2,(hrN x hx).1],by rw [e1]; exact h1,h3⟩
 ·intro x hx W' hW' a c he
  exact QL (Db (gF.take tF) x.row) a c d W' (hG.fr hW') he (hrf x hx).1 (by omega) d1 (hrf x hx).2
 ·exact fun x hx=>I8 _ (by rw [(hrf x hx).1]; omega) (by rw [(hrf x hx).1]; omega) (hrf x hx).2
 ·intro W' hW' a c mb hm hsn
  exact Mj (gF.take tF) a c d mb Fa _ res W' (hG.fr hW') hm (fun r hr=>(rowB r hr).1) lenB d1 (by omega) (fun r hr=>(rowB r hr).2) hsn (by rw [Da] at habs; exact habs)
 ·rintro e w' (⟨i,j,cs,y,a1,c1,a2,c2,a3,c3,-,-,h,-⟩ | ⟨-,h⟩)
  ·cases h
  ·exact h
end Go.Proofs.YtcglmebcfeoedaaGreatDoor
