/- Contracts and laws: GBS. -/
import Derived.Test.YtiniigadkknboaaGreatDoorGBQ
import Derived.Test.YtiniigadkknboaaGreatDoorGBF
import Derived.Test.YtiniigadkknboaaGreatDoorGBM

set_option maxRecDepth 100000
set_option maxHeartbeats 8000000
namespace Go.Proofs.YtiniigadkknboaaGreatDoor
open Go.RowKit Go.Lib
attribute [local go_sem ↓] Go.wp_at_zero Go.wp_at_succ
def X4 (w:World) (err:Int) (aP:Option Addr) (n cP:Nat) (A S:List (List Int)) (e:Ending) (w':World):Prop:=Fr w w'∧(err=0→∃ (ca:Option Addr) (cc:Nat) (ma:Option Addr) (mc:Nat),e=.returned (.tuple #[.agg #[.slice aP n cP,.slice ca A.length cc,.slice ma S.length mc],.int .i64 0])∧(∀ W,Fx (· < w.heap.size) w' W→A5 W ca A)∧∀ W,Fx (· < w.heap.size) w' W→A5 W ma S) ∧
 (err≠0→e=.returned (.tuple #[.agg #[.slice none 0 0,.slice none 0 0,.slice none 0 0],.int .i64 err]))
theorem QO (P v u:List Int) (s:EZ) (aP va ua:Option Addr) (cP vc uc:Nat) (w:World) (hG:G w) (hE:LW w) (hP1:1≤P.length) (hP4:P.length≤4) (hv:El w iv va v) (hu:El w iv ua u) (hvl:v.length=P.length) (hul:u.length=P.length) (hvf:∀ x,x ∈ v→Bq x=true) (huf:∀ x,x ∈ u→Bq x=true) (hs:JO [v,u] P.length=some s) :
 Calls Tryz.prog 16 #[.slice aP P.length cP,.slice va P.length vc,.slice ua P.length uc] w (X4 w (Ui P v u s.piv.length) aP P.length cP (jA P v u) (jS P v u)):=by
 have a0:=Df
 have hr:=Gp hvl hul
 have hbf:∀ r,r ∈ [v,u]→∀ x,x ∈ r→Bq x=true:=fun r hr x hx=>by
  rcases Bu.1 hr with rfl | hr
  ·exact hvf x hx
  ·rw [AX.1 hr] at hx; exact huf x hx
 have hbn:=Jc hvf huf
 have fs:∀ x,Bq x=true→Sm x:=fun x h=>by unfold Bq at h; have h:=AL h; exact ⟨by omega,by omega⟩
 obtain ⟨oS,oR,oL,oF⟩:=Ua (n:=P.length) (m:=[v,u]) (B:=1000000000) hP4 (by simp) hr (by decide) (by omega) hbn
 have htab:EI P.length [v,u]:=⟨by simp,by omega,hr,hbf⟩
 have hrk:∀ W a c,Fr w W→A5 W a [v,u]→Calls Tryz.prog 47 #[.slice a 2 c] W fun e w'=>e=.returned (.int .i64 s.piv.length)∧Fr W w':=fun W a c hW hm=>
  WF [v,u] P.length s a c W (hG.fr hW) hm hr hP1 (by omega) (by simp) (by simp) (fun r hr x hx=>fs x (hbf r hr x hx)) hs
 have hof:∀ W a c,Fr w W→A5 W a [v,u]→Calls Tryz.prog 48 #[.int .i64 (P.length:Nat),.slice a 2 c] W (GM W P.length (jL P v u)):=fun W a c hW hm=>by
  obtain ⟨gF,tF,p,k1,k2,-⟩:=MJ (n:=P.length) (m:=[v,u]) (B:=1000000000) (by simp) hr (by decide) (by omega) hbn
  unfold jL
  rw [k2] at oS ⊢
  exact YS [v,u] gF FX tF a c P.length W (hG.fr hW) hm htab (by simp) hP1 k1 oS (hE.fr hW)
 have hmt:∀ W,Fr w W→A5 (W.alloc (.cells #[.slice va P.length vc,.slice ua P.length uc] 33)) (some ⟨W.heap.size,0,none⟩) [v,u]:=fun W hW=>by
  have h9:=N3 W va ua v u vc uc (hv.fr hW) (hu.fr hW)
  rw [hvl,hul] at h9
  exact h9
 have hje:Ui P v u s.piv.length=if s.piv.length < 2 then 18 else if (BG (jL P v u) && (BG (jS P v u) && BG (jA P v u)))=false then 4 else 0:=rfl
 generalize Ui P v u s.piv.length=JE at *
 have hS:Dj P.length (Dj P.length (H7 P.length [v,u]))=jS P v u:=rfl
 have hA:Dj P.length (H7 P.length [v,u])=jA P v u:=rfl
 have hL:H7 P.length [v,u]=jL P v u:=rfl
 rw [hL] at oS oR oL oF hS hA
 generalize jL P v u=L at *
 have hlat:BG L=true→Hid (∀ W la lc,Fr w W→A5 W la L→L.length≤lc →
  Calls Tryz.prog 50 #[.agg #[.int .i64 (P.length:Nat),.slice la L.length lc]] W (GM W P.length (jS P v u)) ∧
  Calls Tryz.prog 49 #[.agg #[.int .i64 (P.length:Nat),.slice la L.length lc]] W (GM W P.length (jA P v u))):=fun hL W la lc hW hMt hlc=>by
  obtain ⟨j1,j2,j3,j4,j5,j6,j7,j8⟩:=Un (n:=P.length) hP4 hL
  have hT:EI P.length L:=⟨by omega,by omega,oR,KM hL⟩
  have hfine:Hb W P.length la L.length lc:=fun W' hW'=>HM L la lc P.length W' (hMt.fr hW') hT hlc oF
  rw [← hS,← hA]
  exact ⟨RT L (Dj P.length L) _ la lc P.length FX W (hG.fr hW) hMt hfine oR hP1 (by omega) (by omega) (H0 hT) j1 j2 j3 (by omega) (by omega) (Fc j5 (by omega)) j8 (hE.fr hW),
   R6 L _ la lc P.length FX W (hG.fr hW) hMt hfine oR hP1 (by omega) (by omega) (H0 hT) j1 (by omega) (Fc j3 (by omega)) j7 (hE.fr hW)⟩
 generalize jS P v u=S at *
 generalize jA P v u=A at *
 obtain ⟨rk,hrk0⟩:∃ rk,rk=s.piv.length:=⟨_,rfl⟩
 rw [← hrk0] at hrk hje
 generalize P.length=n at *
 replace hrk:=hZ hrk
 replace hof:=hZ hof
 replace hmt:=hZ hmt
 replace hje:=hZ hje
 have hT:=C3.new w (.slice none 0 0) (.slice none 0 0) (.slice none 0 0) 29
 obtain ⟨wb,hwb⟩:∃ wb,wb=w.alloc (.cells #[.slice none 0 0,.slice none 0 0,.slice none 0 0] 29):=⟨_,rfl⟩
 have hfb:Fr w wb:=by rw [hwb]; exact (Fr.refl _).alloc _
 have hszb:w.heap.size < wb.heap.size:=by rw [hwb,AF]; omega
 rw [← hwb] at hT
 have hmt1:=hmt.out wb hfb
 obtain ⟨W2,hW2⟩:∃ W2,W2=wb.alloc (.cells #[.slice va n vc,.slice ua n uc] 33):=⟨_,rfl⟩
 have hf2:Fr wb W2:=by rw [hW2]; exact (Fr.refl _).alloc _
 rw [← hW2] at hmt1
 have hrk2:=hZ (hrk.out W2 _ 2 (hfb.trans hf2) hmt1)
 have hfw2:=hfb.trans hf2
 clear hG hE hv hu hvl hul hvf huf hs hr hbf hbn fs oS oR oL oF htab hS hA hL hrk hmt1 hrk0
 go_enter Tryz.func16,Tryz.ntmps16
 go_upto_region 1 with (fail)
 rw [← hwb]
 clear hwb
 go_wp2_with fail
 rw [← hW2]
 clear hW2
 obtain ⟨rb,hrb⟩:∃ rb,rb=w.heap.size:=⟨_,rfl⟩
 rw [← hrb] at hT ⊢
 replace hrb:=hZ hrb
 refine hrk2.out.mono ?_
 rintro e w3 ⟨rfl,hf3⟩
 have hT3:=(hT.fr hf2).fr hf3
 have hfw3:=hfw2.trans hf3
 clear hrk2 hT
 by_cases hr2:rk < 2
 case pos=>
  have d1:decide ((rk:Int) < 2)=true:=Ab (by omega)
  obtain rfl:JE=18:=by rw [hje.out,Ai hr2]
  clear hlat hof hmt hr2
  go_upto_region 2 with (fail)
  have q0:=hT3.a
  have q1:=hT3.fa
  have q2:=hT3.b
  have q3:=hT3.fb
  have q4:=hT3.c
  have q5:=hT3.fc
  have hU:=hT3.set0 (.slice none 0 0)
  have p0:=hU.b
  have p1:=hU.fb
  have hU1:=hU.set1 (.slice none 0 0)
  have p2:=hU1.c
  have p3:=hU1.fc
  have hU2:=hU1.set2 (.slice none 0 0)
  have y0:=hZ hU2.a
  have y1:=hZ hU2.b
  have y2:=hZ hU2.c
  have hfxT:Fx (·=rb) w3 (((w3.setCell ⟨rb,0,none⟩ (.slice none 0 0)).setCell ⟨rb,1,none⟩ (.slice none 0 0)).setCell ⟨rb,2,none⟩ (.slice none 0 0)):=Fx.setCell (p:=(·=rb)) (q:=⟨rb,2,none⟩) (Fx.setCell (p:=(·=rb)) (q:=⟨rb,1,none⟩) (Fx.setCell (p:=(·=rb)) (q:=⟨rb,0,none⟩) (Fx.refl _ _) (.inl rfl) _) (.inl rfl) _) (.inl rfl) _
  have hfin:=hZ (((Fx.of_fr (hfw3)).trans hfxT).toFr (fun k hk e=>by have e:k=rb:=e; have:=hrb.out; omega))
  replace hfxT:=hZ hfxT
  clear hU hU1 hU2
  go_wp2_with fail
  have v0:=y0.out
  have v1:=y1.out
  have v2:=y2.out
  refine AP (v:=.tuple #[.agg #[.slice none 0 0,.slice none 0 0,.slice none 0 0],.int .i64 18]) (by simp [results,Tryz.results16,go_sem,v0,v1,v2]) rfl ?_
  exact ⟨hfin.out,fun h=>(by cases h),fun _=>rfl⟩
 have d1:decide ((rk:Int) < 2)=false:=Aa (by omega)
 have hje2:Hid (JE=if (BG L && (BG S && BG A))=false then 4 else 0):=by show _=_; rw [hje.out,Ag hr2]
 have hmt4:=hmt.out w3 hfw3
 obtain ⟨W4,hW4⟩:∃ W,W=w3.alloc (.cells #[.slice va n vc,.slice ua n uc] 33):=⟨_,rfl⟩
 have hf4:Fr w3 W4:=by rw [hW4]; exact (Fr.refl _).alloc _
 rw [← hW4] at hmt4
 have hfw4:=hfw3.trans hf4
 have hof4:=hZ (hof.out W4 _ 2 hfw4 hmt4)
 have hT4:=hT3.fr hf4
 clear hmt hof hje hr2 hmt4 hT3
 go_wp2_with fail
 rw [← hW4]
 clear hW4
 refine hof4.out.mono ?_
 rintro e w5 hret
 obtain ⟨n1,la,k1,c1,e1,rfl,hf5,hok,hno⟩:=hret.any
 clear hret hof4
 obtain ⟨w6,hw6⟩:∃ W,W=w5.alloc (.cells #[.int .i64 n1,.slice la k1 c1] 76):=⟨_,rfl⟩
 have hf6:Fr w5 w6:=by rw [hw6]; exact (Fr.refl _).alloc _
 have l0:w6.cell? ⟨w5.heap.size,0,none⟩=some (.int .i64 n1):=by rw [hw6]; exact (CC _ _ _ _).1
 have l1:w6.cell? ⟨w5.heap.size,1,none⟩=some (.slice la k1 c1):=by rw [hw6]; exact (Ct _ _ _ _).1
 have hT6:=(hT4.fr hf5).fr hf6
 have hlt6:w.heap.size < w6.heap.size:=by have:=((((hf2.trans hf3).trans hf4).trans hf5).trans hf6).size; omega
 have hfw6:=(hfw4.trans hf5).trans hf6
 obtain ⟨lb,hlb⟩:∃ q,q=w5.heap.size:=⟨_,rfl⟩
 rw [← hlb] at l0 l1
 go_upto_region 4 with (fail)
 rw [← hw6,← hlb]
 clear hw6 hT4
 replace hlb:=hZ hlb
 cases hbL:BG L with
 | false=>
   obtain rfl:=hno hbL
   obtain rfl:JE=4:=by rw [hje2.out,hbL]; rfl
   clear hok hno hlat
   go_upto_region 5 with (fail)
   have q0:=hT6.a
   have q1:=hT6.fa
   have q2:=hT6.b
   have q3:=hT6.fb
   have q4:=hT6.c
   have q5:=hT6.fc
   have hU:=hT6.set0 (.slice none 0 0)
   have p0:=hU.b
   have p1:=hU.fb
   have hU1:=hU.set1 (.slice none 0 0)
   have p2:=hU1.c
   have p3:=hU1.fc
   have hU2:=hU1.set2 (.slice none 0 0)
   have y0:=hZ hU2.a
   have y1:=hZ hU2.b
   have y2:=hZ hU2.c
   have hfxT:Fx (·=rb) w6 (((w6.setCell ⟨rb,0,none⟩ (.slice none 0 0)).setCell ⟨rb,1,none⟩ (.slice none 0 0)).setCell ⟨rb,2,none⟩ (.slice none 0 0)):=Fx.setCell (p:=(·=rb)) (q:=⟨rb,2,none⟩) (Fx.setCell (p:=(·=rb)) (q:=⟨rb,1,none⟩) (Fx.setCell (p:=(·=rb)) (q:=⟨rb,0,none⟩) (Fx.refl _ _) (.inl rfl) _) (.inl rfl) _) (.inl rfl) _
   have hfin:=hZ (((Fx.of_fr (hfw6)).trans hfxT).toFr (fun k hk e=>by have e:k=rb:=e; have:=hrb.out; omega))
   replace hfxT:=hZ hfxT
   clear hU hU1 hU2
   go_wp2_with fail
   have v0:=y0.out
   have v1:=y1.out
   have v2:=y2.out
   refine AP (v:=.tuple #[.agg #[.slice none 0 0,.slice none 0 0,.slice none 0 0],.int .i64 4]) (by simp [results,Tryz.results16,go_sem,v0,v1,v2]) rfl ?_
   exact ⟨hfin.out,fun h=>(by cases h),fun _=>rfl⟩
 | true=>
   obtain ⟨rfl,rfl,rfl,hc1,hm5⟩:=hok hbL
   clear hok hno
   have hm6:=hm5 w6 (Fx.of_fr hf6)
   have hlat2:=(hlat hbL).out
   have hlat3:=hZ (fun W (hW:Fr w6 W)=>hlat2 W la c1 (hfw6.trans hW) (hm6.fr hW) hc1)
   rw [hbL,Bool.true_and] at hje2
   clear hlat hlat2 hm5 hm6
   generalize L.length=nL at *
   go_wp2_with fail
   refine (hlat3.out _ (Fr.refl _)).2.mono ?_
   rintro e w7 hret
   obtain ⟨n7,xa,k7,c7,e7,rfl,hf7,hok7,hno7⟩:=hret.any
   clear hret
   replace l0:=hf7.keep l0
   replace l1:=hf7.keep l1
   obtain ⟨w8,hw8⟩:∃ W,W=w7.alloc (.cells #[.int .i64 n7,.slice xa k7 c7] 76):=⟨_,rfl⟩
   have hf8:Fr w7 w8:=by rw [hw8]; exact (Fr.refl _).alloc _
   have x1:w8.cell? ⟨w7.heap.size,1,none⟩=some (.slice xa k7 c7):=by rw [hw8]; exact (Ct _ _ _ _).1
   replace l0:=hf8.keep l0
   replace l1:=hf8.keep l1
   have hf68:=hf7.trans hf8
   have hT8:=hT6.fr hf68
   obtain ⟨xb,hxb⟩:∃ q,q=w7.heap.size:=⟨_,rfl⟩
   rw [← hxb] at x1
   go_upto_region 7 with (fail)
   rw [← hw8,← hxb]
   clear hw8 hT6
   replace hxb:=hZ hxb
   go_wp2_with fail
   refine (hlat3.out _ hf68).1.mono ?_
   rintro e w9 hret
   obtain ⟨n9,sa,k9,c9,e9,rfl,hf9,hok9,hno9⟩:=hret.any
   clear hret l0 l1 hlat3
   obtain ⟨w10,hw10⟩:∃ W,W=w9.alloc (.cells #[.int .i64 n9,.slice sa k9 c9] 76):=⟨_,rfl⟩
   have hf10:Fr w9 w10:=by rw [hw10]; exact (Fr.refl _).alloc _
   have s1:w10.cell? ⟨w9.heap.size,1,none⟩=some (.slice sa k9 c9):=by rw [hw10]; exact (Ct _ _ _ _).1
   have hf810:=hf9.trans hf10
   have hT10:=hT8.fr hf810
   replace x1:=hf810.keep x1
   obtain ⟨sb,hsb⟩:∃ q,q=w9.heap.size:=⟨_,rfl⟩
   rw [← hsb] at s1
   have hfw10:=(hfw6.trans hf68).trans hf810
   go_upto_region 8 with (fail)
   rw [← hw10,← hsb]
   clear hw10 hT8
   replace hsb:=hZ hsb
   cases hbA:BG A with
   | false=>
     obtain rfl:=hno7 hbA
     obtain rfl:JE=4:=by rw [hje2.out,hbA,Bool.and_false]; rfl
     clear hok7 hno7 hok9 hno9
     go_upto_region 9 with (fail)
     have q0:=hT10.a
     have q1:=hT10.fa
     have q2:=hT10.b
     have q3:=hT10.fb
     have q4:=hT10.c
     have q5:=hT10.fc
     have hU:=hT10.set0 (.slice none 0 0)
     have p0:=hU.b
     have p1:=hU.fb
     have hU1:=hU.set1 (.slice none 0 0)
     have p2:=hU1.c
     have p3:=hU1.fc
     have hU2:=hU1.set2 (.slice none 0 0)
     have y0:=hZ hU2.a
     have y1:=hZ hU2.b
     have y2:=hZ hU2.c
     have hfxT:Fx (·=rb) w10 (((w10.setCell ⟨rb,0,none⟩ (.slice none 0 0)).setCell ⟨rb,1,none⟩ (.slice none 0 0)).setCell ⟨rb,2,none⟩ (.slice none 0 0)):=Fx.setCell (p:=(·=rb)) (q:=⟨rb,2,none⟩) (Fx.setCell (p:=(·=rb)) (q:=⟨rb,1,none⟩) (Fx.setCell (p:=(·=rb)) (q:=⟨rb,0,none⟩) (Fx.refl _ _) (.inl rfl) _) (.inl rfl) _) (.inl rfl) _
     have hfin:=hZ (((Fx.of_fr (hfw10)).trans hfxT).toFr (fun k hk e=>by have e:k=rb:=e; have:=hrb.out; omega))
     replace hfxT:=hZ hfxT
     clear hU hU1 hU2
     go_wp2_with fail
     have v0:=y0.out
     have v1:=y1.out
     have v2:=y2.out
     refine AP (v:=.tuple #[.agg #[.slice none 0 0,.slice none 0 0,.slice none 0 0],.int .i64 4]) (by simp [results,Tryz.results16,go_sem,v0,v1,v2]) rfl ?_
     exact ⟨hfin.out,fun h=>(by cases h),fun _=>rfl⟩
   | true=>
     obtain ⟨rfl,rfl,rfl,hc7,hm7⟩:=hok7 hbA
     clear hok7 hno7
     cases hbS:BG S with
     | false=>
       obtain rfl:=hno9 hbS
       obtain rfl:JE=4:=by rw [hje2.out,hbA,hbS]; rfl
       clear hok9 hno9 hm7
       go_upto_region 9 with (fail)
       have q0:=hT10.a
       have q1:=hT10.fa
       have q2:=hT10.b
       have q3:=hT10.fb
       have q4:=hT10.c
       have q5:=hT10.fc
       have hU:=hT10.set0 (.slice none 0 0)
       have p0:=hU.b
       have p1:=hU.fb
       have hU1:=hU.set1 (.slice none 0 0)
       have p2:=hU1.c
       have p3:=hU1.fc
       have hU2:=hU1.set2 (.slice none 0 0)
       have y0:=hZ hU2.a
       have y1:=hZ hU2.b
       have y2:=hZ hU2.c
       have hfxT:Fx (·=rb) w10 (((w10.setCell ⟨rb,0,none⟩ (.slice none 0 0)).setCell ⟨rb,1,none⟩ (.slice none 0 0)).setCell ⟨rb,2,none⟩ (.slice none 0 0)):=Fx.setCell (p:=(·=rb)) (q:=⟨rb,2,none⟩) (Fx.setCell (p:=(·=rb)) (q:=⟨rb,1,none⟩) (Fx.setCell (p:=(·=rb)) (q:=⟨rb,0,none⟩) (Fx.refl _ _) (.inl rfl) _) (.inl rfl) _) (.inl rfl) _
       have hfin:=hZ (((Fx.of_fr (hfw10)).trans hfxT).toFr (fun k hk e=>by have e:k=rb:=e; have:=hrb.out; omega))
       replace hfxT:=hZ hfxT
       clear hU hU1 hU2
       go_wp2_with fail
       have v0:=y0.out
       have v1:=y1.out
       have v2:=y2.out
       refine AP (v:=.tuple #[.agg #[.slice none 0 0,.slice none 0 0,.slice none 0 0],.int .i64 4]) (by simp [results,Tryz.results16,go_sem,v0,v1,v2]) rfl ?_
       exact ⟨hfin.out,fun h=>(by cases h),fun _=>rfl⟩
     | true=>
       obtain ⟨rfl,rfl,rfl,hc9,hm9⟩:=hok9 hbS
       clear hok9 hno9
       obtain rfl:JE=0:=by rw [hje2.out,hbA,hbS]; rfl
       have hmA:=hZ (fun Wf (hf:Fx (·=rb) w10 Wf) W (hW:Fx (· < w.heap.size) Wf W)=>hm7 W (((Fx.of_fr (hf8.trans hf810)).trans (hf.mono fun k e=>by have e:k=rb:=e; have:=hrb.out; show k < w6.heap.size; omega)).trans (hW.mono fun k e=>by have e:k < w.heap.size:=e; show k < w6.heap.size; omega)))
       have hmS:=hZ (fun Wf (hf:Fx (·=rb) w10 Wf) W (hW:Fx (· < w.heap.size) Wf W)=>hm9 W (((Fx.of_fr hf10).trans (hf.mono fun k e=>by have e:k=rb:=e; have:=hrb.out; have:=hf68.size; show k < w8.heap.size; omega)).trans (hW.mono fun k e=>by have e:k < w.heap.size:=e; have:=hf68.size; show k < w8.heap.size; omega)))
       clear hm7 hm9
       go_upto_region 10 with (fail)
       have q0:=hT10.a
       have q1:=hT10.fa
       have q2:=hT10.b
       have q3:=hT10.fb
       have q4:=hT10.c
       have q5:=hT10.fc
       have hU:=hT10.set0 (.slice aP n cP)
       have p0:=hU.b
       have p1:=hU.fb
       have hU1:=hU.set1 (.slice xa A.length c7)
       have p2:=hU1.c
       have p3:=hU1.fc
       have hU2:=hU1.set2 (.slice sa S.length c9)
       have y0:=hZ hU2.a
       have y1:=hZ hU2.b
       have y2:=hZ hU2.c
       have hfxT:Fx (·=rb) w10 (((w10.setCell ⟨rb,0,none⟩ (.slice aP n cP)).setCell ⟨rb,1,none⟩ (.slice xa A.length c7)).setCell ⟨rb,2,none⟩ (.slice sa S.length c9)):=Fx.setCell (p:=(·=rb)) (q:=⟨rb,2,none⟩) (Fx.setCell (p:=(·=rb)) (q:=⟨rb,1,none⟩) (Fx.setCell (p:=(·=rb)) (q:=⟨rb,0,none⟩) (Fx.refl _ _) (.inl rfl) _) (.inl rfl) _) (.inl rfl) _
       have hfin:=hZ (((Fx.of_fr (hfw10)).trans hfxT).toFr (fun k hk e=>by have e:k=rb:=e; have:=hrb.out; omega))
       replace hfxT:=hZ hfxT
       clear hU hU1 hU2
       go_wp2_with fail
       have v0:=y0.out
       have v1:=y1.out
       have v2:=y2.out
       refine AP (v:=.tuple #[.agg #[.slice aP n cP,.slice xa A.length c7,.slice sa S.length c9],.int .i64 0]) (by simp [results,Tryz.results16,go_sem,v0,v1,v2]) rfl ?_
       exact ⟨hfin.out,fun _=>⟨xa,c7,sa,c9,rfl,hmA.out _ hfxT.out,hmS.out _ hfxT.out⟩,fun h=>absurd rfl h⟩
theorem Qx {a b:List (List Int)} (h:a.length=b.length) (k:∀ (i:Nat) (hi:i < a.length) (hj:i < b.length),a[i]=b[i]):a=b:=VK h fun i h1 h2=>k i h1 h2
theorem R2 (a b:List (List Int)) (aa ba:Option Addr) (ac bc:Nat) (w:World) (ha:A5 w aa a) (hb:A5 w ba b) (hl:a.length≤1000) (hl2:b.length≤1000) (hr:∀ r,r ∈ a→r.length≤1000000) (hr2:∀ r,r ∈ b→r.length≤1000000) :
 Calls Tryz.prog 43 #[.slice aa a.length ac,.slice ba b.length bc] w fun e w'=>e=.returned (.bool (decide (a=b)))∧Fr w w':=by
 obtain ⟨n,hn⟩:∃ n,n=a.length:=⟨_,rfl⟩
 obtain ⟨m,hm⟩:∃ m,m=b.length:=⟨_,rfl⟩
 rw [← hn] at hl ⊢
 rw [← hm] at hl2 ⊢
 by_cases hlen:n=m
 ·subst hlen
  have q0:((n:Int) != (n:Int))=false:=by simp
  have hyes:Hid ((∀ (i:Nat) (hi:i < a.length) (hj:i < b.length),i < n→a[i]=b[i])→decide (a=b)=true):=fun h=>Ab (Qx (by rw [← hn,← hm]) (fun i h1 h2=>h i h1 h2 (by rw [hn]; exact h1)))
  have hno:Hid (∀ (i:Nat) (hi:i < a.length) (hj:i < b.length),a[i]≠b[i]→decide (a=b)=false):=fun i h1 h2 h3=>Aa (fun e=>by subst e; exact h3 rfl)
  obtain ⟨res,hres⟩:∃ res,res=decide (a=b):=⟨_,rfl⟩
  rw [← hres] at hyes hno ⊢
  replace hres:=hZ hres
  replace ha:=hZ ha
  replace hb:=hZ hb
  replace hn:=hZ hn
  replace hm:=hZ hm
  replace hr:=hZ hr
  replace hr2:=hZ hr2
  go_enter Tryz.func43,Tryz.ntmps43
  go_wp2_with fail
  go_loopg [5] n (fun k s5 wr=>∃ i:Nat,s5=.int .i64 i∧i+k=n∧Fr w wr∧Hid (∀ (j:Nat) (hi:j < a.length) (hj:j < b.length),j < i→a[j]=b[j]))
  case atStart=>exact ⟨0,rfl,by omega,Fr.refl _,fun j h1 h2 h=>absurd h (Bj _)⟩
  case round=>
   obtain ⟨i,rfl,hik,hf,hz⟩:=hrel
   by_cases hi:i < n
   ·have hd:decide (i < n)=true:=Ab hi
    have hd2:decide ((i:Int) < (n:Int))=true:=Ab (by omega)
    have hi2:i < a.length:=by rw [← hn.out]; exact hi
    have hi3:i < b.length:=by rw [← hm.out]; exact hi
    obtain ⟨xb,xo,xa,xc,rfl,hxc,hxe⟩:=(ha.out.fr hf).at hi2
    obtain ⟨yb,yo,ya,yc,rfl,hyc,hye⟩:=(hb.out.fr hf).at hi3
    have hl9:=hr.out _ (AG hi2)
    have hl8:=hr2.out _ (AG hi3)
    have hz2:Hid (a[i]=b[i]→∀ (j:Nat) (hi:j < a.length) (hj:j < b.length),j < i+1→a[j]=b[j]):=fun e j h1 h2 h=>by
     by_cases e9:j=i
     ·subst e9; exact e
     ·exact hz.out j h1 h2 (by omega)
    have hno2:Hid (a[i]≠b[i]→res=false):=hno.out i hi2 hi3
    generalize a[i]=r at *
    generalize b[i]=s at *
    have heq:=E6 r s xa ya xc yc
    replace heq:=hZ (fun W (hW:Fr wr W)=>heq W (hxe.fr hW) (hye.fr hW) hl9 hl8)
    obtain ⟨q,hq⟩:∃ q,q=decide (r=s):=⟨_,rfl⟩
    rw [← hq] at heq
    replace hq:=hZ hq
    generalize r.length=d at *
    generalize s.length=d2 at *
    have z0:(0:Int)≤(i:Int):=Aj _
    have z1:(i:Int) < (n:Int):=by omega
    obtain ⟨wo,rfl⟩:∃ wo:World,wo=wr:=⟨_,rfl⟩
    replace hxe:=hZ hxe
    replace hye:=hZ hye
    go_wp2_with fail
    go_region_held3 (fun w'=>w'.cell? ⟨xb,xo+i,none⟩=some (.slice xa d xc)∧w'.cell? ⟨yb,yo+i,none⟩=some (.slice ya d2 yc))
     (first | go_keep | (go_split_ands; refine ⟨?_, ?_⟩ <;> (refine Fr.keep (by assumption) ?_; assumption)) | trivial)
     ((go_at_call 27; (with_reducible refine (heq.out _ ?_).mono ?_); (exact B9); rintro e w6 ⟨rfl,hf6⟩))
    have hf9:Fr wo w6:=by exact B9
    cases q with
    | true=>
      have e9:r=s:=AL hq.out.symm
      have hz3:=hZ (hz2.out e9)
      replace e9:=hZ e9
      go_wp2_with fail
      go_roundg (gk - 1)
      case measure=>omega
      case rel=>exact ⟨i+1,by go_num,by omega,hf.trans hf9,hz3⟩
    | false=>
      have hfin:=hZ (hno2.out (QS hq.out.symm))
      go_wp2_with fail
      go_ret
      exact ⟨by rw [hfin.out]; rfl,hf.trans hf9⟩
   ·obtain rfl:i=n:=by omega
    have hd:decide (i < i)=false:=Aa (by omega)
    have hd2:decide ((i:Int) < (i:Int))=false:=Aa (by omega)
    have hfin:=hZ (hyes.out (fun j h1 h2 hj=>hz.out j h1 h2 hj))
    go_wp2_with fail
    go_ret
    exact ⟨by rw [hfin.out]; rfl,hf⟩
 ·have q0:((n:Int) != (m:Int))=true:=Bs.2 (by omega)
  have hfin:=hZ (show decide (a=b)=false from Aa (fun e=>hlen (by rw [hn,hm,e])))
  clear ha hb hn hm
  replace hlen:=hZ hlen
  go_enter Tryz.func43,Tryz.ntmps43
  go_wp2_with fail
  go_ret
  exact ⟨by rw [hfin.out]; rfl,Fr.refl _⟩
theorem Qc (P:List Int) (C M C2 M2:List (List Int)) (aP bP aC bC aM bM:Option Addr) (cP dP cC dC cM dM:Nat) (w:World) (hP:El w iv aP P) (hP2:El w iv bP P) (hC:A5 w aC C) (hC2:A5 w bC C2) (hM:A5 w aM M) (hM2:A5 w bM M2) (hPl:P.length≤1000000) (hl:C.length≤1000∧M.length≤1000∧C2.length≤1000∧M2.length≤1000) (hr:(∀ r,r ∈ C→r.length≤1000000)∧(∀ r,r ∈ M→r.length≤1000000)∧(∀ r,r ∈ C2→r.length≤1000000)∧(∀ r,r ∈ M2→r.length≤1000000)) :
 Calls Tryz.prog 51 #[.agg #[.slice aP P.length cP,.slice aC C.length cC,.slice aM M.length cM],.agg #[.slice bP P.length dP,.slice bC C2.length dC,.slice bM M2.length dM]] w fun e w'=>e=.returned (.bool (decide (C=C2) && decide (M=M2)))∧Fr w w':=by
 have h1:=fun W (hW:Fr w W)=>E6 P P aP bP cP dP W (hP.fr hW) (hP2.fr hW) hPl hPl
 have h2:=hZ (fun W (hW:Fr w W)=>R2 C C2 aC bC cC dC W (hC.fr hW) (hC2.fr hW) hl.1 hl.2.2.1 hr.1 hr.2.2.1)
 have h3:=hZ (fun W (hW:Fr w W)=>R2 M M2 aM bM cM dM W (hM.fr hW) (hM2.fr hW) hl.2.1 hl.2.2.2 hr.2.1 hr.2.2.2)
 rw [Ab rfl] at h1
 replace h1:=hZ h1
 clear hP hP2 hC hC2 hM hM2
 generalize decide (C=C2)=q1 at *
 generalize decide (M=M2)=q2 at *
 generalize P.length=n at *
 generalize C.length=k at *
 generalize M.length=m at *
 generalize C2.length=k2 at *
 generalize M2.length=m2 at *
 obtain ⟨wa,hwa⟩:∃ W,W=w.alloc (.cells #[.slice aP n cP,.slice aC k cC,.slice aM m cM] 29):=⟨_,rfl⟩
 have hB:=C3.new w (.slice aP n cP) (.slice aC k cC) (.slice aM m cM) 29
 rw [← hwa] at hB
 have hfa:Fr w wa:=by rw [hwa]; exact (Fr.refl _).alloc _
 have hsa:wa.heap.size=w.heap.size+1:=by rw [hwa,AF]
 obtain ⟨wb,hwb⟩:∃ W,W=wa.alloc (.cells #[.slice bP n dP,.slice bC k2 dC,.slice bM m2 dM] 29):=⟨_,rfl⟩
 have hD:=C3.new wa (.slice bP n dP) (.slice bC k2 dC) (.slice bM m2 dM) 29
 rw [← hwb] at hD
 rw [hsa] at hD
 have hfb:Fr wa wb:=by rw [hwb]; exact (Fr.refl _).alloc _
 have hB2:=hB.fr hfb
 have hfw:=hfa.trans hfb
 have x0:=hB2.a
 have x1:=hB2.b
 have x2:=hB2.c
 have y0:=hD.a
 have y1:=hD.b
 have y2:=hD.c
 clear hB hB2 hD hfa hfb hPl hl hr
 go_enter Tryz.func51,Tryz.ntmps51
 go_upto_region 1 with (fail)
 rw [← hwa,← hwb]
 clear hwa hwb
 replace hsa:=hZ hsa
 go_wp2_with fail
 refine (h1.out _ hfw).mono ?_
 rintro e w1 ⟨rfl,hf1⟩
 replace x1:=hf1.keep x1
 replace x2:=hf1.keep x2
 replace y1:=hf1.keep y1
 replace y2:=hf1.keep y2
 go_wp2_with fail
 refine (h2.out _ (hfw.trans hf1)).mono ?_
 rintro e w2 ⟨rfl,hf2⟩
 replace x2:=hf2.keep x2
 replace y2:=hf2.keep y2
 cases q1 with
 | false=>
   go_wp2_with fail
   go_ret
   exact ⟨rfl,(hfw.trans hf1).trans hf2⟩
 | true=>
   go_wp2_with fail
   refine (h3.out _ ((hfw.trans hf1).trans hf2)).mono ?_
   rintro e w3 ⟨rfl,hf3⟩
   go_wp2_with fail
   go_ret
   exact ⟨rfl,((hfw.trans hf1).trans hf2).trans hf3⟩
theorem QF (P:List Int) (C M C2 M2:List (List Int)) (aP bP aC bC aM bM:Option Addr) (cP dP cC dC cM dM:Nat) (w:World) (hP:El w iv aP P) (hP2:El w iv bP P) (hC:A5 w aC C) (hC2:A5 w bC C2) (hM:A5 w aM M) (hM2:A5 w bM M2) (hPl:P.length≤1000000) (hl:C.length≤1000∧M.length≤1000∧C2.length≤1000∧M2.length≤1000) (hr:(∀ r,r ∈ C→r.length≤1000000)∧(∀ r,r ∈ M→r.length≤1000000)∧(∀ r,r ∈ C2→r.length≤1000000)∧(∀ r,r ∈ M2→r.length≤1000000)) :
 Calls Tryz.prog 17 #[.agg #[.slice aP P.length cP,.slice aC C.length cC,.slice aM M.length cM],.agg #[.slice bP P.length dP,.slice bC C2.length dC,.slice bM M2.length dM]] w fun e w'=>e=.returned (.bool (decide (C=C2) && decide (M=M2)))∧Fr w w':=by
 have h1:=hZ (fun W (hW:Fr w W)=>Qc P C M C2 M2 aP bP aC bC aM bM cP dP cC dC cM dM W (hP.fr hW) (hP2.fr hW) (hC.fr hW) (hC2.fr hW) (hM.fr hW) (hM2.fr hW) hPl hl hr)
 clear hP hP2 hC hC2 hM hM2
 generalize (decide (C=C2) && decide (M=M2))=q at *
 generalize P.length=n at *
 generalize C.length=k at *
 generalize M.length=m at *
 generalize C2.length=k2 at *
 generalize M2.length=m2 at *
 obtain ⟨wa,hwa⟩:∃ W,W=w.alloc (.cells #[.slice aP n cP,.slice aC k cC,.slice aM m cM] 29):=⟨_,rfl⟩
 have hB:=C3.new w (.slice aP n cP) (.slice aC k cC) (.slice aM m cM) 29
 rw [← hwa] at hB
 have hfa:Fr w wa:=by rw [hwa]; exact (Fr.refl _).alloc _
 have hsa:wa.heap.size=w.heap.size+1:=by rw [hwa,AF]
 obtain ⟨wb,hwb⟩:∃ W,W=wa.alloc (.cells #[.slice bP n dP,.slice bC k2 dC,.slice bM m2 dM] 29):=⟨_,rfl⟩
 have hD:=C3.new wa (.slice bP n dP) (.slice bC k2 dC) (.slice bM m2 dM) 29
 rw [← hwb] at hD
 rw [hsa] at hD
 have hfb:Fr wa wb:=by rw [hwb]; exact (Fr.refl _).alloc _
 have hB2:=hB.fr hfb
 have hfw:=hfa.trans hfb
 have x0:=hB2.a
 have x1:=hB2.b
 have x2:=hB2.c
 have y0:=hD.a
 have y1:=hD.b
 have y2:=hD.c
 clear hB hB2 hD hfa hfb hPl hl hr
 go_enter Tryz.func17,Tryz.ntmps17
 go_upto_region 1 with (fail)
 rw [← hwa,← hwb]
 clear hwa hwb
 replace hsa:=hZ hsa
 go_wp2_with fail
 refine (h1.out _ hfw).mono ?_
 rintro e w1 ⟨rfl,hf1⟩
 go_wp2_with fail
 go_ret
 exact ⟨rfl,hfw.trans hf1⟩
end Go.Proofs.YtiniigadkknboaaGreatDoor
