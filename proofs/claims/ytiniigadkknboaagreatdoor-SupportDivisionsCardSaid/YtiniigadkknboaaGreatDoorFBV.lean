/- Contracts and laws: FBV. -/
import Derived.Test.YtiniigadkknboaaGreatDoorFBU
import Derived.Test.YtiniigadkknboaaGreatDoorFBF
import Derived.Test.YtiniigadkknboaaGreatDoorFBJ
import Derived.Test.YtiniigadkknboaaGreatDoorFBL
import Derived.Test.YtiniigadkknboaaGreatDoorFBN
import Derived.Deep.CutRange

set_option maxRecDepth 100000
set_option maxHeartbeats 8000000
namespace Go.Proofs.YtiniigadkknboaaGreatDoor
open Go.RowKit Go.Lib
attribute [local go_sem ↓] Go.wp_at_zero Go.wp_at_succ
def Y9 (w:World) (err:Int) (aP:Option Addr) (n cP:Nat) (A S:List (List Int)) (e:Ending) (w':World):Prop:=Fr w w'∧(err=0→∃ (ca:Option Addr) (cc:Nat) (ma:Option Addr) (mc:Nat),e=.returned (.tuple #[.agg #[.slice aP n cP,.slice ca A.length cc,.slice ma S.length mc],.int .i64 0])∧A2 w' ca A∧A2 w' ma S) ∧
 (err≠0→e=.returned (.tuple #[.agg #[.slice none 0 0,.slice none 0 0,.slice none 0 0],.int .i64 err]))
theorem R2 (P v u:List Int) (s:EZ) (aP va ua:Option Addr) (cP vc uc:Nat) (w:World) (hG:G w) (hE:Jd w) (hP1:1≤P.length) (hP4:P.length≤4) (hv:El w iv va v) (hu:El w iv ua u) (hvl:v.length=P.length) (hul:u.length=P.length) (hvf:∀ x,x ∈ v→Bk x=true) (huf:∀ x,x ∈ u→Bk x=true) (hs:Kx [v,u] P.length=some s) :
 Calls Tryz.prog 16 #[.slice aP P.length cP,.slice va P.length vc,.slice ua P.length uc] w (Y9 w (Vz P v u s.piv.length) aP P.length cP (jA P v u) (jS P v u)):=by
 have a0:=C1
 have hr:=GV hvl hul
 have hbf:∀ r,r ∈ [v,u]→∀ x,x ∈ r→Bk x=true:=fun r hr x hx=>by
  rcases Bv.1 hr with rfl | hr
  ·exact hvf x hx
  ·rw [AY.1 hr] at hx; exact huf x hx
 have hbn:=JR hvf huf
 have fs:∀ x,Bk x=true→Sm x:=fun x h=>by unfold Bk at h; have h:=AV h; exact ⟨by omega,by omega⟩
 obtain ⟨oS,oR,oL,oF⟩:=Rp (n:=P.length) (m:=[v,u]) (B:=1000000000) hP4 (by simp) hr (by decide) (by omega) hbn
 have htab:DR P.length [v,u]:=⟨by simp,by omega,hr,hbf⟩
 have hrk:∀ W a c,Fr w W→A2 W a [v,u]→Calls Tryz.prog 47 #[.slice a 2 c] W fun e w'=>e=.returned (.int .i64 s.piv.length)∧Fr W w':=fun W a c hW hm=>
  XM [v,u] P.length s a c W (hG.fr hW) hm hr hP1 (by omega) (by simp) (by simp) (fun r hr x hx=>fs x (hbf r hr x hx)) hs
 have hof:∀ W a c,Fr w W→A2 W a [v,u]→Calls Tryz.prog 48 #[.int .i64 (P.length:Nat),.slice a 2 c] W (FW W P.length (jL P v u)):=fun W a c hW hm=>by
  obtain ⟨gF,tF,p,k1,k2,-⟩:=KY (n:=P.length) (m:=[v,u]) (B:=1000000000) (by simp) hr (by decide) (by omega) hbn
  unfold jL
  rw [k2] at oS ⊢
  exact Y8 [v,u] gF FX tF a c P.length W (hG.fr hW) hm htab (by simp) hP1 k1 oS (hE.fr hW)
 have hmt:∀ W,Fr w W→A2 (W.alloc (.cells #[.slice va P.length vc,.slice ua P.length uc] 33)) (some ⟨W.heap.size,0,none⟩) [v,u]:=fun W hW=>by
  have h9:=OW W va ua v u vc uc (hv.fr hW) (hu.fr hW)
  rw [hvl,hul] at h9
  exact h9
 have hje:Vz P v u s.piv.length=if s.piv.length < 2 then 18 else if (Bp (jL P v u) && (Bp (jS P v u) && Bp (jA P v u)))=false then 4 else 0:=rfl
 generalize Vz P v u s.piv.length=JE at *
 have hS:CI P.length (CI P.length (Hx P.length [v,u]))=jS P v u:=rfl
 have hA:CI P.length (Hx P.length [v,u])=jA P v u:=rfl
 have hL:Hx P.length [v,u]=jL P v u:=rfl
 rw [hL] at oS oR oL oF hS hA
 generalize jL P v u=L at *
 have hlat:Bp L=true→Hid (∀ W la lc,Fr w W→A2 W la L→L.length≤lc →
  Calls Tryz.prog 50 #[.agg #[.int .i64 (P.length:Nat),.slice la L.length lc]] W (FW W P.length (jS P v u)) ∧
  Calls Tryz.prog 49 #[.agg #[.int .i64 (P.length:Nat),.slice la L.length lc]] W (FW W P.length (jA P v u))):=fun hL W la lc hW hMt hlc=>by
  obtain ⟨j1,j2,j3,j4,j5,j6,j7,j8⟩:=Rv (n:=P.length) hP4 hL
  have hT:DR P.length L:=⟨by omega,by omega,oR,JS hL⟩
  have hfine:GE W P.length la L.length lc:=fun W' hW'=>FK L la lc P.length W' (hMt.fr hW') hT hlc oF
  rw [← hS,← hA]
  exact ⟨OU L (CI P.length L) _ la lc P.length FX W (hG.fr hW) hMt hfine oR hP1 (by omega) (by omega) (GD hT) j1 j2 j3 (by omega) (by omega) (EI j5 (by omega)) j8 (hE.fr hW),
   O4 L _ la lc P.length FX W (hG.fr hW) hMt hfine oR hP1 (by omega) (by omega) (GD hT) j1 (by omega) (EI j3 (by omega)) j7 (hE.fr hW)⟩
 generalize jS P v u=S at *
 generalize jA P v u=A at *
 obtain ⟨rk,hrk0⟩:∃ rk,rk=s.piv.length:=⟨_,rfl⟩
 rw [← hrk0] at hrk hje
 generalize P.length=n at *
 replace hrk:=hZ hrk
 replace hof:=hZ hof
 replace hmt:=hZ hmt
 replace hje:=hZ hje
 have hT:=C3.new w (.slice none 0 0) (.slice none 0 0) (.slice none 0 0) 29
 obtain ⟨wb,hwb⟩:∃ wb,wb=w.alloc (.cells #[.slice none 0 0,.slice none 0 0,.slice none 0 0] 29):=⟨_,rfl⟩
 have hfb:Fr w wb:=by rw [hwb]; exact (Fr.refl _).alloc _
 have hszb:w.heap.size < wb.heap.size:=by rw [hwb,AC]; omega
 rw [← hwb] at hT
 have hmt1:=hmt.out wb hfb
 obtain ⟨W2,hW2⟩:∃ W2,W2=wb.alloc (.cells #[.slice va n vc,.slice ua n uc] 33):=⟨_,rfl⟩
 have hf2:Fr wb W2:=by rw [hW2]; exact (Fr.refl _).alloc _
 rw [← hW2] at hmt1
 have hrk2:=hZ (hrk.out W2 _ 2 (hfb.trans hf2) hmt1)
 have hfw2:=hfb.trans hf2
 clear hG hE hv hu hvl hul hvf huf hs hr hbf hbn fs oS oR oL oF htab hS hA hL hrk hmt1 hrk0
 go_enter Tryz.func16,Tryz.ntmps16
 go_upto_region 1 with (fail)
 rw [← hwb]
 clear hwb
 go_wp2_with fail
 rw [← hW2]
 clear hW2
 obtain ⟨rb,hrb⟩:∃ rb,rb=w.heap.size:=⟨_,rfl⟩
 rw [← hrb] at hT ⊢
 replace hrb:=hZ hrb
 refine hrk2.out.mono ?_
 rintro e w3 ⟨rfl,hf3⟩
 have hT3:=(hT.fr hf2).fr hf3
 have hfw3:=hfw2.trans hf3
 clear hrk2 hT
 by_cases hr2:rk < 2
 case pos=>
  have d1:decide ((rk:Int) < 2)=true:=Ab (by omega)
  obtain rfl:JE=18:=by rw [hje.out,Ai hr2]
  clear hlat hof hmt hr2
  go_upto_region 2 with (fail)
  have q0:=hT3.a
  have q1:=hT3.fa
  have q2:=hT3.b
  have q3:=hT3.fb
  have q4:=hT3.c
  have q5:=hT3.fc
  have hU:=hT3.set0 (.slice none 0 0)
  have p0:=hU.b
  have p1:=hU.fb
  have hU1:=hU.set1 (.slice none 0 0)
  have p2:=hU1.c
  have p3:=hU1.fc
  have hU2:=hU1.set2 (.slice none 0 0)
  have y0:=hZ hU2.a
  have y1:=hZ hU2.b
  have y2:=hZ hU2.c
  have hfxT:Fx (·=rb) w3 (((w3.setCell ⟨rb,0,none⟩ (.slice none 0 0)).setCell ⟨rb,1,none⟩ (.slice none 0 0)).setCell ⟨rb,2,none⟩ (.slice none 0 0)):=Fx.setCell (p:=(·=rb)) (q:=⟨rb,2,none⟩) (Fx.setCell (p:=(·=rb)) (q:=⟨rb,1,none⟩) (Fx.setCell (p:=(·=rb)) (q:=⟨rb,0,none⟩) (Fx.refl _ _) (.inl rfl) _) (.inl rfl) _) (.inl rfl) _
  have hfin:=hZ (((Fx.of_fr (hfw3)).trans hfxT).toFr (fun k hk e=>by have e:k=rb:=e; have:=hrb.out; omega))
  replace hfxT:=hZ hfxT
  clear hU hU1 hU2
  go_wp2_with fail
  have v0:=y0.out
  have v1:=y1.out
  have v2:=y2.out
  refine AK (v:=.tuple #[.agg #[.slice none 0 0,.slice none 0 0,.slice none 0 0],.int .i64 18]) (by simp [results,Tryz.results16,go_sem,v0,v1,v2]) rfl ?_
  exact ⟨hfin.out,fun h=>(by cases h),fun _=>rfl⟩
 have d1:decide ((rk:Int) < 2)=false:=Aa (by omega)
 have hje2:Hid (JE=if (Bp L && (Bp S && Bp A))=false then 4 else 0):=by show _=_; rw [hje.out,Ae hr2]
 have hmt4:=hmt.out w3 hfw3
 obtain ⟨W4,hW4⟩:∃ W,W=w3.alloc (.cells #[.slice va n vc,.slice ua n uc] 33):=⟨_,rfl⟩
 have hf4:Fr w3 W4:=by rw [hW4]; exact (Fr.refl _).alloc _
 rw [← hW4] at hmt4
 have hfw4:=hfw3.trans hf4
 have hof4:=hZ (hof.out W4 _ 2 hfw4 hmt4)
 have hT4:=hT3.fr hf4
 clear hmt hof hje hr2 hmt4 hT3
 go_wp2_with fail
 rw [← hW4]
 clear hW4
 refine hof4.out.mono ?_
 rintro e w5 hret
 obtain ⟨n1,la,k1,c1,e1,rfl,hf5,hok,hno⟩:=hret.any
 clear hret hof4
 obtain ⟨w6,hw6⟩:∃ W,W=w5.alloc (.cells #[.int .i64 n1,.slice la k1 c1] 76):=⟨_,rfl⟩
 have hf6:Fr w5 w6:=by rw [hw6]; exact (Fr.refl _).alloc _
 have l0:w6.cell? ⟨w5.heap.size,0,none⟩=some (.int .i64 n1):=by rw [hw6]; exact (Ct _ _ _ _).1
 have l1:w6.cell? ⟨w5.heap.size,1,none⟩=some (.slice la k1 c1):=by rw [hw6]; exact (Ce _ _ _ _).1
 have hT6:=(hT4.fr hf5).fr hf6
 have hlt6:w.heap.size < w6.heap.size:=by have:=((((hf2.trans hf3).trans hf4).trans hf5).trans hf6).size; omega
 have hfw6:=(hfw4.trans hf5).trans hf6
 obtain ⟨lb,hlb⟩:∃ q,q=w5.heap.size:=⟨_,rfl⟩
 rw [← hlb] at l0 l1
 go_upto_region 4 with (fail)
 rw [← hw6,← hlb]
 clear hw6 hT4
 replace hlb:=hZ hlb
 cases hbL:Bp L with
 | false=>
   obtain rfl:=hno hbL
   obtain rfl:JE=4:=by rw [hje2.out,hbL]; rfl
   clear hok hno hlat
   go_upto_region 5 with (fail)
   have q0:=hT6.a
   have q1:=hT6.fa
   have q2:=hT6.b
   have q3:=hT6.fb
   have q4:=hT6.c
   have q5:=hT6.fc
   have hU:=hT6.set0 (.slice none 0 0)
   have p0:=hU.b
   have p1:=hU.fb
   have hU1:=hU.set1 (.slice none 0 0)
   have p2:=hU1.c
   have p3:=hU1.fc
   have hU2:=hU1.set2 (.slice none 0 0)
   have y0:=hZ hU2.a
   have y1:=hZ hU2.b
   have y2:=hZ hU2.c
   have hfxT:Fx (·=rb) w6 (((w6.setCell ⟨rb,0,none⟩ (.slice none 0 0)).setCell ⟨rb,1,none⟩ (.slice none 0 0)).setCell ⟨rb,2,none⟩ (.slice none 0 0)):=Fx.setCell (p:=(·=rb)) (q:=⟨rb,2,none⟩) (Fx.setCell (p:=(·=rb)) (q:=⟨rb,1,none⟩) (Fx.setCell (p:=(·=rb)) (q:=⟨rb,0,none⟩) (Fx.refl _ _) (.inl rfl) _) (.inl rfl) _) (.inl rfl) _
   have hfin:=hZ (((Fx.of_fr (hfw6)).trans hfxT).toFr (fun k hk e=>by have e:k=rb:=e; have:=hrb.out; omega))
   replace hfxT:=hZ hfxT
   clear hU hU1 hU2
   go_wp2_with fail
   have v0:=y0.out
   have v1:=y1.out
   have v2:=y2.out
   refine AK (v:=.tuple #[.agg #[.slice none 0 0,.slice none 0 0,.slice none 0 0],.int .i64 4]) (by simp [results,Tryz.results16,go_sem,v0,v1,v2]) rfl ?_
   exact ⟨hfin.out,fun h=>(by cases h),fun _=>rfl⟩
 | true=>
   obtain ⟨rfl,rfl,rfl,hc1,hm5⟩:=hok hbL
   clear hok hno
   have hm6:=hm5 w6 (Fx.of_fr hf6)
   have hlat2:=(hlat hbL).out
   have hlat3:=hZ (fun W (hW:Fr w6 W)=>hlat2 W la c1 (hfw6.trans hW) (hm6.fr hW) hc1)
   rw [hbL,Z4] at hje2
   clear hlat hlat2 hm5 hm6
   generalize L.length=nL at *
   go_wp2_with fail
   refine (hlat3.out _ (Fr.refl _)).2.mono ?_
   rintro e w7 hret
   obtain ⟨n7,xa,k7,c7,e7,rfl,hf7,hok7,hno7⟩:=hret.any
   clear hret
   replace l0:=hf7.keep l0
   replace l1:=hf7.keep l1
   obtain ⟨w8,hw8⟩:∃ W,W=w7.alloc (.cells #[.int .i64 n7,.slice xa k7 c7] 76):=⟨_,rfl⟩
   have hf8:Fr w7 w8:=by rw [hw8]; exact (Fr.refl _).alloc _
   have x1:w8.cell? ⟨w7.heap.size,1,none⟩=some (.slice xa k7 c7):=by rw [hw8]; exact (Ce _ _ _ _).1
   replace l0:=hf8.keep l0
   replace l1:=hf8.keep l1
   have hf68:=hf7.trans hf8
   have hT8:=hT6.fr hf68
   obtain ⟨xb,hxb⟩:∃ q,q=w7.heap.size:=⟨_,rfl⟩
   rw [← hxb] at x1
   go_upto_region 7 with (fail)
   rw [← hw8,← hxb]
   clear hw8 hT6
   replace hxb:=hZ hxb
   go_wp2_with fail
   refine (hlat3.out _ hf68).1.mono ?_
   rintro e w9 hret
   obtain ⟨n9,sa,k9,c9,e9,rfl,hf9,hok9,hno9⟩:=hret.any
   clear hret l0 l1 hlat3
   obtain ⟨w10,hw10⟩:∃ W,W=w9.alloc (.cells #[.int .i64 n9,.slice sa k9 c9] 76):=⟨_,rfl⟩
   have hf10:Fr w9 w10:=by rw [hw10]; exact (Fr.refl _).alloc _
   have s1:w10.cell? ⟨w9.heap.size,1,none⟩=some (.slice sa k9 c9):=by rw [hw10]; exact (Ce _ _ _ _).1
   have hf810:=hf9.trans hf10
   have hT10:=hT8.fr hf810
   replace x1:=hf810.keep x1
   obtain ⟨sb,hsb⟩:∃ q,q=w9.heap.size:=⟨_,rfl⟩
   rw [← hsb] at s1
   have hfw10:=(hfw6.trans hf68).trans hf810
   go_upto_region 8 with (fail)
   rw [← hw10,← hsb]
   clear hw10 hT8
   replace hsb:=hZ hsb
   cases hbA:Bp A with
   | false=>
     obtain rfl:=hno7 hbA
     obtain rfl:JE=4:=by rw [hje2.out,hbA,Bool.and_false]; rfl
     clear hok7 hno7 hok9 hno9
     go_upto_region 9 with (fail)
     have q0:=hT10.a
     have q1:=hT10.fa
     have q2:=hT10.b
     have q3:=hT10.fb
     have q4:=hT10.c
     have q5:=hT10.fc
     have hU:=hT10.set0 (.slice none 0 0)
     have p0:=hU.b
     have p1:=hU.fb
     have hU1:=hU.set1 (.slice none 0 0)
     have p2:=hU1.c
     have p3:=hU1.fc
     have hU2:=hU1.set2 (.slice none 0 0)
     have y0:=hZ hU2.a
     have y1:=hZ hU2.b
     have y2:=hZ hU2.c
     have hfxT:Fx (·=rb) w10 (((w10.setCell ⟨rb,0,none⟩ (.slice none 0 0)).setCell ⟨rb,1,none⟩ (.slice none 0 0)).setCell ⟨rb,2,none⟩ (.slice none 0 0)):=Fx.setCell (p:=(·=rb)) (q:=⟨rb,2,none⟩) (Fx.setCell (p:=(·=rb)) (q:=⟨rb,1,none⟩) (Fx.setCell (p:=(·=rb)) (q:=⟨rb,0,none⟩) (Fx.refl _ _) (.inl rfl) _) (.inl rfl) _) (.inl rfl) _
     have hfin:=hZ (((Fx.of_fr (hfw10)).trans hfxT).toFr (fun k hk e=>by have e:k=rb:=e; have:=hrb.out; omega))
     replace hfxT:=hZ hfxT
     clear hU hU1 hU2
     go_wp2_with fail
     have v0:=y0.out
     have v1:=y1.out
     have v2:=y2.out
     refine AK (v:=.tuple #[.agg #[.slice none 0 0,.slice none 0 0,.slice none 0 0],.int .i64 4]) (by simp [results,Tryz.results16,go_sem,v0,v1,v2]) rfl ?_
     exact ⟨hfin.out,fun h=>(by cases h),fun _=>rfl⟩
   | true=>
     obtain ⟨rfl,rfl,rfl,hc7,hm7⟩:=hok7 hbA
     clear hok7 hno7
     cases hbS:Bp S with
     | false=>
       obtain rfl:=hno9 hbS
       obtain rfl:JE=4:=by rw [hje2.out,hbA,hbS]; rfl
       clear hok9 hno9 hm7
       go_upto_region 9 with (fail)
       have q0:=hT10.a
       have q1:=hT10.fa
       have q2:=hT10.b
       have q3:=hT10.fb
       have q4:=hT10.c
       have q5:=hT10.fc
       have hU:=hT10.set0 (.slice none 0 0)
       have p0:=hU.b
       have p1:=hU.fb
       have hU1:=hU.set1 (.slice none 0 0)
       have p2:=hU1.c
       have p3:=hU1.fc
       have hU2:=hU1.set2 (.slice none 0 0)
       have y0:=hZ hU2.a
       have y1:=hZ hU2.b
       have y2:=hZ hU2.c
       have hfxT:Fx (·=rb) w10 (((w10.setCell ⟨rb,0,none⟩ (.slice none 0 0)).setCell ⟨rb,1,none⟩ (.slice none 0 0)).setCell ⟨rb,2,none⟩ (.slice none 0 0)):=Fx.setCell (p:=(·=rb)) (q:=⟨rb,2,none⟩) (Fx.setCell (p:=(·=rb)) (q:=⟨rb,1,none⟩) (Fx.setCell (p:=(·=rb)) (q:=⟨rb,0,none⟩) (Fx.refl _ _) (.inl rfl) _) (.inl rfl) _) (.inl rfl) _
       have hfin:=hZ (((Fx.of_fr (hfw10)).trans hfxT).toFr (fun k hk e=>by have e:k=rb:=e; have:=hrb.out; omega))
       replace hfxT:=hZ hfxT
       clear hU hU1 hU2
       go_wp2_with fail
       have v0:=y0.out
       have v1:=y1.out
       have v2:=y2.out
       refine AK (v:=.tuple #[.agg #[.slice none 0 0,.slice none 0 0,.slice none 0 0],.int .i64 4]) (by simp [results,Tryz.results16,go_sem,v0,v1,v2]) rfl ?_
       exact ⟨hfin.out,fun h=>(by cases h),fun _=>rfl⟩
     | true=>
       obtain ⟨rfl,rfl,rfl,hc9,hm9⟩:=hok9 hbS
       clear hok9 hno9
       obtain rfl:JE=0:=by rw [hje2.out,hbA,hbS]; rfl
       have hmA:=hZ (fun W (hW:Fx (·=rb) w10 W)=>hm7 W ((Fx.of_fr (hf8.trans hf810)).trans (hW.mono fun k e=>by have e:k=rb:=e; have:=hrb.out; show k < w6.heap.size; omega)))
       have hmS:=hZ (fun W (hW:Fx (·=rb) w10 W)=>hm9 W ((Fx.of_fr hf10).trans (hW.mono fun k e=>by have e:k=rb:=e; have:=hrb.out; show k < w8.heap.size; have:=hf68.size; omega)))
       clear hm7 hm9
       go_upto_region 10 with (fail)
       have q0:=hT10.a
       have q1:=hT10.fa
       have q2:=hT10.b
       have q3:=hT10.fb
       have q4:=hT10.c
       have q5:=hT10.fc
       have hU:=hT10.set0 (.slice aP n cP)
       have p0:=hU.b
       have p1:=hU.fb
       have hU1:=hU.set1 (.slice xa A.length c7)
       have p2:=hU1.c
       have p3:=hU1.fc
       have hU2:=hU1.set2 (.slice sa S.length c9)
       have y0:=hZ hU2.a
       have y1:=hZ hU2.b
       have y2:=hZ hU2.c
       have hfxT:Fx (·=rb) w10 (((w10.setCell ⟨rb,0,none⟩ (.slice aP n cP)).setCell ⟨rb,1,none⟩ (.slice xa A.length c7)).setCell ⟨rb,2,none⟩ (.slice sa S.length c9)):=Fx.setCell (p:=(·=rb)) (q:=⟨rb,2,none⟩) (Fx.setCell (p:=(·=rb)) (q:=⟨rb,1,none⟩) (Fx.setCell (p:=(·=rb)) (q:=⟨rb,0,none⟩) (Fx.refl _ _) (.inl rfl) _) (.inl rfl) _) (.inl rfl) _
       have hfin:=hZ (((Fx.of_fr (hfw10)).trans hfxT).toFr (fun k hk e=>by have e:k=rb:=e; have:=hrb.out; omega))
       replace hfxT:=hZ hfxT
       clear hU hU1 hU2
       go_wp2_with fail
       have v0:=y0.out
       have v1:=y1.out
       have v2:=y2.out
       refine AK (v:=.tuple #[.agg #[.slice aP n cP,.slice xa A.length c7,.slice sa S.length c9],.int .i64 0]) (by simp [results,Tryz.results16,go_sem,v0,v1,v2]) rfl ?_
       exact ⟨hfin.out,fun _=>⟨xa,c7,sa,c9,rfl,hmA.out _ hfxT.out,hmS.out _ hfxT.out⟩,fun h=>absurd rfl h⟩
theorem S3 {f g:Nat→Int} {B:Nat}:∀ m,(∀ k,k < m→(f k).natAbs≤B∧(g k).natAbs≤B)→(Cd f g m).natAbs≤m * (B * B)
 | 0,_=>by simp [Cd]
 | m+1,h=>by
   have ih:=S3 m fun k hk=>h k (by omega)
   have h1:=Az (h m (by omega)).1 (h m (by omega)).2
   rw [← AZ] at h1
   rw [Cd,EK,D7]
   omega
def M0 (i j:Nat) (a b:Int) (k:Nat):Int:=(if i=k then a else 0)+(if j=k then b else 0)
theorem Mt {i j n:Nat} {a b:Int} (hi:i < n) (hj:j < n) (g:Nat→Int):Cd (M0 i j a b) g n=a * g i+b * g j:=by
 unfold M0
 rw [CZ,DS,DS,Ai hi,Ai hj]
theorem XJ {n:Nat} {v:List Int} (hv:v.length=n) {x:Int} (hx:x ∈ v):∃ k,k < n∧CH v k=x:=by
 obtain ⟨k,hk⟩:=BF.1 hx
 exact ⟨k,by rw [← hv]; exact (Ag.1 hk).1,by unfold CH; rw [hk]; rfl⟩
theorem Zv {n:Nat} {v:List Int} (hv:v.length=n) (hp:∀ k,k < n→0 < CH v k∧CH v k≤10000):∀ r,r ∈ [v]→∀ x,x ∈ r→x.natAbs≤1000000000:=fun r hr x hx=>by
 rw [AY.1 hr] at hx
 obtain ⟨k,h1,rfl⟩:=XJ hv hx
 have:=hp k h1
 omega
section
variable {n:Nat} {v:List Int} (hn4:n≤4) (hn1:1≤n) (hv:v.length=n) (hp:∀ k,k < n→0 < CH v k∧CH v k≤10000)
include hn4 hv hp
include hn1
theorem PZ:Bp (CI n [v])=true:=by
 obtain ⟨gW,p,t,r,k⟩:=Dz (n:=n) (m:=[v]) (B:=1000000000) hn4 (by decide) C1 (Zv hv hp)
 have hE:=k.kech
 have hsp:=k.spans
 have hR:=k.krect
 generalize CI n [v]=K at *
 obtain ⟨q,hq⟩:∃ q:Nat→Nat,q=fun i=>p (r+i) - ([v]:List (List Int)).length:=⟨_,rfl⟩
 rw [← hq] at hE
 obtain ⟨m,rfl⟩:∃ m,n=m+1:=⟨n - 1,by omega⟩
 have hrow:∀ i,i < K.length→Cd (CH v) (Aw K i) (m+1)=0:=fun i hi=>((G0 _).1 ((hsp _).1 (DF.row hi))).2
 have hpiv:∀ c,c < m→∃ j,j < K.length∧q j=c∧Aw K j c≤10000:=fun c hc=>by
  obtain ⟨z,hz⟩:∃ z,z=(List.range (m+1)).map (M0 c m (CH v m) (-(CH v c))):=⟨_,rfl⟩
  have hzl:z.length=m+1:=by rw [hz,AE,BX]
  have hze:∀ k,k < m+1→Aw [z] 0 k=M0 c m (CH v m) (-(CH v c)) k:=fun k hk=>by
   show (z[k]?).getD 0=_
   rw [hz,Au,List.getElem?_range hk]; rfl
  have hpc:=hp c (by omega)
  have hpm:=hp m (by omega)
  have e1:FL (fun _=>c) (m+1) [z].length [z]:=⟨by simp,fun i a b=>absurd b (by simp at a ⊢; omega),fun i hi=>by omega,fun i j h1 h2=>by simp at h2; omega,fun i hi=>by
   obtain rfl:i=0:=by simpa using hi
   rw [hze c (by omega)]
   unfold M0
   rw [Ai rfl,Ae (by omega)]
   omega,fun i hi k hk=>by
   obtain rfl:i=0:=by simpa using hi
   rw [hze k (by omega)]
   unfold M0
   rw [Ae (by omega),Ae (by omega)]; rfl,fun i j h1 h2=>by simp at h2; omega⟩
  obtain ⟨j,h1,h2,b,h3⟩:=e1.pivot_in hE (fun x hx=>(hsp x).2 ((G0 x).2 (by
   obtain ⟨d,hd⟩:=Di hx
   have hd1:∀ k,x k=d 0 * Aw [z] 0 k:=fun k=>by rw [hd k]; show 0+d 0 * Aw [z] 0 k=_; omega
   refine ⟨fun k hk=>?_, ?_⟩
   ·rw [hd1 k]
    have:Aw [z] 0 k=0:=by show (z[k]?).getD 0=0; rw [AG (by omega)]; rfl
    rw [this,BJ]
   ·rw [BP,Cv (f':=fun k=>d 0 * M0 c m (CH v m) (-(CH v c)) k) (g':=CH v) (fun k hk=>⟨by rw [hd1 k,hze k hk],rfl⟩),Co,Mt (by omega) (by omega)]
    grind))) (i:=0) (by simp)
  refine ⟨j,h1,h2, ?_⟩
  replace h2:q j=c:=h2
  replace h3:Aw [z] 0 c=b * Aw K j c:=h3
  rw [hze c (by omega)] at h3
  unfold M0 at h3
  rw [Ai rfl,Ae (by omega)] at h3
  have h4:=hE.pos j h1
  rw [h2] at h4
  have h5:0 < b:=by
   refine AX fun h=>?_
   have h6:b * Aw K j c≤0:=Se (by omega) (by omega)
   omega
  have h6:1 * Aw K j c≤b * Aw K j c:=Be (by omega) (by omega)
  omega
 have hcol:∀ i c,i < K.length→c < m→(Aw K i c).natAbs≤10000:=fun i c hi hc=>by
  obtain ⟨j,h1,h2,h3⟩:=hpiv c hc
  have hj:=hE.pos j h1
  rw [h2] at hj
  rcases UH j i with h | h | h
  ·have h4:=hE.inc j i h hi
   rw [hE.low i hi c (by omega)]; decide
  ·subst h; omega
  ·have h4:=hE.up i j h h1
   rw [h2] at h4
   omega
 have hlast:∀ i,i < K.length→(Aw K i m).natAbs≤1000000000:=fun i hi=>by
  have h1:=hrow i hi
  rw [Cd] at h1
  have h2:=S3 (f:=CH v) (g:=Aw K i) (B:=10000) m fun k hk=>⟨by have:=hp k (by omega); omega,hcol i k hi hk⟩
  have h3:=hp m (by omega)
  have h4:(CH v m * Aw K i m).natAbs≤m * (10000 * 10000):=by omega
  rw [AZ] at h4
  have h5:(Aw K i m).natAbs≤(CH v m).natAbs * (Aw K i m).natAbs:=EQ _ (by omega)
  have h6:m * (10000 * 10000)≤3 * (10000 * 10000):=A6 _ (by omega)
  omega
 refine KD fun r hr x hx=>?_
 obtain ⟨i,hi⟩:=BF.1 hr
 obtain ⟨c,hc⟩:=BF.1 hx
 have hil:=(Ag.1 hi).1
 have hcl:=(Ag.1 hc).1
 rw [hR r hr] at hcl
 have e9:Aw K i c=x:=by
  unfold Aw BB
  rw [hi,Bm,hc]; rfl
 have h9:(Aw K i c).natAbs≤1000000000:=by
  by_cases h:c < m
  ·have:=hcol i c hil h; omega
  ·obtain rfl:c=m:=by omega
   exact hlast i hil
 rw [e9] at h9
 unfold Bk
 exact Ab (by omega)
theorem TT:Bp (CI n (CI n [v]))=true:=by
 have hA:=PZ hn4 hn1 hv hp
 obtain ⟨gW,p,t,r,k⟩:=Dz (n:=n) (m:=[v]) (B:=1000000000) hn4 (by decide) C1 (Zv hv hp)
 have hsp:=k.spans
 generalize CI n [v]=K at *
 obtain ⟨gW2,p2,t2,r2,k2⟩:=Dz (n:=n) (m:=K) (B:=1000000000) hn4 (by decide) C1 (GL hA)
 have hE:=k2.kech
 have hsp2:=k2.spans
 have hR:=k2.krect
 generalize CI n K=S at *
 obtain ⟨q,hq⟩:∃ q:Nat→Nat,q=fun i=>p2 (r2+i) - K.length:=⟨_,rfl⟩
 rw [← hq] at hE
 have h0:=hp 0 (by omega)
 have hrow:∀ i,i < S.length→∀ c,c < n→CH v 0 * Aw S i c=CH v c * Aw S i 0:=fun i hi c hc=>by
  have h1:=((hsp2 _).1 (DF.row hi)).2
  have h2:=(hsp (M0 c 0 (CH v 0) (-(CH v c)))).2 ((G0 _).2 ⟨fun k hk=>by unfold M0; rw [Ae (by omega),Ae (by omega)]; rfl,by rw [BP,Mt hc (by omega)]; grind⟩)
  have h3:=Jy h2 h1
  rw [Mt hc (by omega)] at h3
  grind
 have hq0:∀ i,i < S.length→q i=0:=fun i hi=>by
  refine AX fun hne=>?_
  have h1:=hrow i hi (q i) (hE.lt i hi)
  rw [hE.low i hi 0 (by omega),BJ] at h1
  have h2:=hE.pos i hi
  rcases CB.1 h1 with h | h <;> omega
 have hS1:S.length≤1:=by
  refine AX fun hne=>?_
  have h1:=hE.inc 0 1 (by omega) (by omega)
  rw [hq0 0 (by omega),hq0 1 (by omega)] at h1
  omega
 have hvS:DF S.length (Aw S) (CH v):=(hsp2 _).2 ⟨fun k hk=>by unfold CH; rw [AG (by omega)]; rfl,fun i hi=>by
  have:=((G0 _).1 ((hsp _).1 (DF.row hi))).2
  rw [BP]; exact this⟩
 obtain ⟨c,hc⟩:=Di hvS
 have hc1:S.length=1∧∀ k,CH v k=c 0 * Aw S 0 k:=by
  by_cases e:S.length=0
  ·exfalso
   have:=hc 0
   rw [e] at this
   have h9:CH v 0=0:=this
   omega
  ·have e1:S.length=1:=by omega
   refine ⟨e1,fun k=>?_⟩
   rw [hc k,e1]
   show 0+c 0 * Aw S 0 k=_
   omega
 have hcz:c 0≠0:=fun h=>by have:=hc1.2 0; rw [h,Dk] at this; omega
 refine KD fun r hr x hx=>?_
 obtain ⟨i,hi⟩:=BF.1 hr
 obtain ⟨j,hj⟩:=BF.1 hx
 have hil:=(Ag.1 hi).1
 obtain rfl:i=0:=by omega
 have hjl:=(Ag.1 hj).1
 rw [hR r hr] at hjl
 have e9:Aw S 0 j=x:=by
  unfold Aw BB
  rw [hi,Bm,hj]; rfl
 have h1:=hp j hjl
 have h2:=hc1.2 j
 have h3:(CH v j).natAbs=(c 0).natAbs * (Aw S 0 j).natAbs:=by rw [h2,AZ]
 have h5:(Aw S 0 j).natAbs≤(c 0).natAbs * (Aw S 0 j).natAbs:=EQ _ (by omega)
 rw [e9] at h3 h5
 unfold Bk
 exact Ab (by omega)
end
def ZB (v:List Int):Bool:=v.all fun x=>decide (0 < x∧x≤10000)
theorem Yz:((List.range 10).all fun j=>(List.range 400).all fun k=>ZB (BI (H7 j) ((k:Int)+1)))=true:=by decide +kernel
theorem ZC (j:Nat) {k:Nat} (h1:1≤k) (h2:k≤400):ZB (BI (H7 j) k)=true:=by
 have key:∀ j,j < 10→ZB (BI (H7 j) k)=true:=fun j hj=>by
  have h8:=AF.1 (AF.1 Yz j (Cn.2 hj)) (k - 1) (Cn.2 (by omega))
  rw [show ((k - 1:Nat):Int)+1=(k:Int) by omega] at h8
  exact h8
 by_cases hj:j < 10
 ·exact key j hj
 ·rw [SJ j (by omega)]; exact key 9 (by decide)
theorem Xh {v:List Int} {n:Nat} (hn4:n≤4) (hn1:1≤n) (hv:v.length=n) (h:ZB v=true):Bp (CI n [v])=true∧Bp (CI n (CI n [v]))=true:=by
 have hp:∀ k,k < n→0 < CH v k∧CH v k≤10000:=fun k hk=>by
  have h1:=AF.1 h v[k] (AJ (by omega))
  unfold CH
  rw [Ac (by omega),Bm]
  exact AV h1
 exact ⟨PZ hn4 hn1 hv hp,TT hn4 hn1 hv hp⟩
def I4 (a:Int):Bool:=decide (400 < a) && decide (a≤100000)
theorem SL {a:Int} (h:I4 a=false):FJ a∨(1≤a∧a≤400):=by
 unfold I4 at h
 rw [Bool.and_eq_false_iff] at h
 unfold FJ
 rcases h with h | h
 ·have:=Jf h; omega
 ·have:=Jf h; omega
theorem Ik (n a b:Int) (w:World) (hG:G w) (hE:Jd w) (hn:0≤n∧n≤255) (ha:-9223372036854775808≤a∧a≤9223372036854775807) (hb:-9223372036854775808≤b∧b≤9223372036854775807) :
 Calls Tryz.prog 3 #[.int .u8 n,.int .i64 a,.int .i64 b] w fun e w'=>e=.returned (.bool true)∧Fr w w':=by
 have hkn:=hZ (fun W (hW:Fr w W)=>Io W (hG.fr hW) (hE.fr hW))
 have hpm:=hZ (fun W=>J0 n hn.1 hn.2 W)
 obtain ⟨hp,hp1,hp4⟩:BM (PB n)=0∧1≤(PB n).length∧(PB n).length≤4:=SI _
 have hpk:∀ s:Int,1≤s∧s≤400→FD (PB n) s=true:=fun s hs=>by
  have h9:=Vm (n.tmod 10).toNat (k:=s.toNat) (by omega) (by omega)
  rw [show ((s.toNat:Nat):Int)=s by omega] at h9
  exact h9
 have hkf:∀ s:Int,1≤s∧s≤400→ZB (BI (PB n) s)=true:=fun s hs=>by
  have h9:=ZC (n.tmod 10).toNat (k:=s.toNat) (by omega) (by omega)
  rw [show ((s.toNat:Nat):Int)=s by omega] at h9
  exact h9
 generalize PB n=P at *
 obtain ⟨p0,r,rfl⟩:∃ p0 r,P=p0 :: r:=by
  cases P with
  | nil=>simp at hp1
  | cons p0 r=>exact ⟨p0,r,rfl⟩
 have hG1:=hZ (fun W (hW:Fr w W)=>hG.fr hW)
 have hE1:=hZ (fun W (hW:Fr w W)=>hE.fr hW)
 have hok:∀ s,(FJ s∨(1≤s∧s≤400))→FJ s∨(1≤s∧s≤50000)∧FD (p0 :: r) s=true:=fun s h=>h.imp id fun h=>⟨by omega,hpk s h⟩
 have hdv:=hZ (fun (h1:FJ a∨(1≤a∧a≤400)) (h2:FJ b∨(1≤b∧b≤400)) (aP:Option Addr) (cP:Nat) W (hW:Fr w W) (hP:El W iv aP (p0 :: r))=>IY p0 r aP cP a b W (hG.fr hW) (hE.fr hW) hp hp4 hP (hok a h1) (hok b h2))
 have hpt:=hZ (fun (s:Int) (hs:1≤s∧s≤400) (aP:Option Addr) (cP:Nat) W (hW:Fr w W) (hP:El W iv aP (p0 :: r))=>KF p0 r aP cP s W (by omega) hp (hpk s hs) hP (hG.fr hW))
 have hpb:=fun (s:Int) (hs:FJ s) (aP:Option Addr) (cP:Nat) W (hP:El W iv aP (p0 :: r))=>NY (p0 :: r) aP cP s W hp hs hP (by omega)
 rw [Ay] at hpb
 replace hpb:=hZ hpb
 have hvl:∀ s,(BI (p0 :: r) s).length=r.length+1:=fun s=>by rw [GW]; rfl
 have hvf:∀ s:Int,1≤s∧s≤400→∀ y,y ∈ BI (p0 :: r) s→Bk y=true:=fun s hs=>JF (hpk s hs) (by omega)
 have hjn:Hid ((1≤a∧a≤400)→(1≤b∧b≤400)→∀ (W:World) (aP va ua:Option Addr) (cP vc uc:Nat),Fr w W→El W iv va (BI (p0 :: r) a)→El W iv ua (BI (p0 :: r) b)→Calls Tryz.prog 16 #[.slice aP (r.length+1) cP,.slice va (r.length+1) vc,.slice ua (r.length+1) uc] W (Y9 W (S2 (p0 :: r) a b) aP (r.length+1) cP (jA (p0 :: r) (BI (p0 :: r) a) (BI (p0 :: r) b)) (jS (p0 :: r) (BI (p0 :: r) a) (BI (p0 :: r) b)))):=fun h1 h2 W aP va ua cP vc uc hW hv hu=>by
  have hk:=Xh hp4 hp1 (hvl a) (hkf a h1)
  obtain ⟨s,e1,-,e3⟩:=Xs (P:=p0 :: r) (v:=BI (p0 :: r) a) (u:=BI (p0 :: r) b) hp1 hp4 hp (hvl a) (hvl b) (hvf a h1) (hvf b h2) (Vl (by omega)) hk.1 hk.2
  have h9:=R2 (p0 :: r) (BI (p0 :: r) a) (BI (p0 :: r) b) s aP va ua cP vc uc W (hG.fr hW) (hE.fr hW) hp1 hp4 hv hu (hvl a) (hvl b) (hvf a h1) (hvf b h2) e1
  rw [← e3] at h9
  rw [show S2 (p0 :: r) a b=NG (p0 :: r) (BI (p0 :: r) a) (BI (p0 :: r) b) from by unfold S2; rw [Ae (fun h=>by unfold FJ at h; omega)]]
  exact h9
 have hde:Hid ((FJ a∨FJ b)→S2 (p0 :: r) a b=3):=fun h=>by unfold S2; rw [Ai h]
 have hre:Hid (∀ (C M:List (List Int)) (aP bP aC bC aM bM:Option Addr) (cP dP cC dC cM dM:Nat) W,C.length≤4→M.length≤4→Bq (r.length+1) C→Bq (r.length+1) M→El W iv aP (p0 :: r)→El W iv bP (p0 :: r)→A2 W aC C→A2 W bC C→A2 W aM M→A2 W bM M→Calls Tryz.prog 17 #[.agg #[.slice aP (r.length+1) cP,.slice aC C.length cC,.slice aM M.length cM],.agg #[.slice bP (r.length+1) dP,.slice bC C.length dC,.slice bM M.length dM]] W fun e w'=>e=.returned (.bool true)∧Fr W w'):=fun C M aP bP aC bC aM bM cP dP cC dC cM dM W h1 h2 h3 h4 k1 k2 k3 k4 k5 k6=>
  HI (p0 :: r) C M aP bP aC bC aM bM cP dP cC dC cM dM W k1 k2 k3 k4 k5 k6 (by rw [Ay] at hp4 ⊢; omega) (by omega) (by omega) (fun x hx=>by rw [h3 x hx]; rw [Ay] at hp4; omega) (fun x hx=>by rw [h4 x hx]; rw [Ay] at hp4; omega)
 have hbnd:Hid ((1≤a∧a≤400)→(1≤b∧b≤400)→S2 (p0 :: r) a b=0→(jA (p0 :: r) (BI (p0 :: r) a) (BI (p0 :: r) b)).length≤4∧(jS (p0 :: r) (BI (p0 :: r) a) (BI (p0 :: r) b)).length≤4∧Bq (r.length+1) (jA (p0 :: r) (BI (p0 :: r) a) (BI (p0 :: r) b))∧Bq (r.length+1) (jS (p0 :: r) (BI (p0 :: r) a) (BI (p0 :: r) b))):=fun h1 h2 h3=>by
  unfold S2 at h3
  rw [Ae (fun h=>by unfold FJ at h; omega)] at h3
  have hT:=Iy hp1 hp4 hp (hvl a) (hvl b) (hvf a h1) (hvf b h2) (P4 h3).1
  obtain ⟨gW,p,t,q,k⟩:=Dz (n:=(p0 :: r).length) (m:=jA (p0 :: r) (BI (p0 :: r) a) (BI (p0 :: r) b)) hp4 (by decide) C1 (B:=1000000000) (fun r hr x hx=>C9 (hT.tabC.2.2.2 r hr x hx))
  obtain ⟨gW2,p2,t2,q2,k2⟩:=Dz (n:=(p0 :: r).length) (m:=jS (p0 :: r) (BI (p0 :: r) a) (BI (p0 :: r) b)) hp4 (by decide) C1 (B:=1000000000) (fun r hr x hx=>C9 (hT.tabM.2.2.2 r hr x hx))
  have e2:CI (p0 :: r).length (jS (p0 :: r) (BI (p0 :: r) a) (BI (p0 :: r) b))=jA (p0 :: r) (BI (p0 :: r) a) (BI (p0 :: r) b):=by
   have:=hT.sat
   unfold CI; rw [this]; rfl
  have l1:=HB k
  have l2:=HB k2
  rw [e2] at l2
  exact ⟨Ar l2 hp4,Ar l1 hp4,hT.tabC.2.2.1,hT.tabM.2.2.1⟩
 unfold OT at hdv
 unfold Y9 at hjn
 unfold Wv at hpt
 unfold Ww at hpb
 rw [Ay] at hpm hdv
 replace hvl:=hZ hvl
 generalize S2 (p0 :: r) a b=DE at *
 obtain ⟨va,hva⟩:∃ l,l=BI (p0 :: r) a:=⟨_,rfl⟩
 obtain ⟨vb,hvb⟩:∃ l,l=BI (p0 :: r) b:=⟨_,rfl⟩
 have hla:Hid (va.length=r.length+1):=by rw [hva]; exact hvl.out a
 have hlb:Hid (vb.length=r.length+1):=by rw [hvb]; exact hvl.out b
 have hpa:=hZ (hpt.out a)
 have hpc:=hZ (hpt.out b)
 rw [← hva,← hvb] at hdv hjn hbnd
 rw [← hva,hla.out] at hpa
 rw [← hvb,hlb.out] at hpc
 generalize jA (p0 :: r) va vb=A at *
 generalize jS (p0 :: r) va vb=S at *
 obtain ⟨P,hP⟩:∃ P,P=p0 :: r:=⟨_,rfl⟩
 rw [← hP] at hdv hpa hpc hpb hpm hre
 generalize r.length+1=m at *
 clear hP hG hE hn hp hp1 hp4 hpk hkf hok hpt hvl hvf hva hvb
 obtain ⟨xd,hxd⟩:∃ x,x=(I4 a || I4 b):=⟨_,rfl⟩
 replace hxd:=hZ hxd
 go_enter Tryz.func3,Tryz.ntmps3
 go_upto_region 1 with (fail)
 go_cut [32] from 15 to 32 (fun s32 wc=>s32=.bool xd∧Fr w wc)
 case first=>
  have hk0:=hZ (hkn.out w (Fr.refl _))
  clear hdv hjn hde hre hbnd hpa hpc hpb hpm hkn
  by_cases a1:400 < a
  ·have d1:decide (400 < a)=true:=Ab a1
   by_cases a2:a≤100000
   ·have d2:decide (a≤100000)=true:=Ab a2
    obtain rfl:xd=true:=by rw [hxd.out]; unfold I4; rw [d1,d2]; rfl
    go_wp2_with fail
    refine hk0.out.mono ?_
    rintro e w1 ⟨rfl,hf1⟩
    go_wp2_with fail
    go_meet
    case rel=>exact ⟨rfl,hf1⟩
   ·have d2:decide (a≤100000)=false:=Aa a2
    have hx2:Hid (xd=I4 b):=by show _=_; rw [hxd.out]; unfold I4; rw [d1,d2]; rfl
    by_cases b1:400 < b
    ·have d3:decide (400 < b)=true:=Ab b1
     by_cases b2:b≤100000
     ·have d4:decide (b≤100000)=true:=Ab b2
      obtain rfl:xd=true:=by rw [hx2.out]; unfold I4; rw [d3,d4]; rfl
      go_wp2_with fail
      refine hk0.out.mono ?_
      rintro e w1 ⟨rfl,hf1⟩
      go_wp2_with fail
      go_meet
      case rel=>exact ⟨rfl,hf1⟩
     ·have d4:decide (b≤100000)=false:=Aa b2
      obtain rfl:xd=false:=by rw [hx2.out]; unfold I4; rw [d3,d4]; rfl
      go_wp2_with fail
      refine hk0.out.mono ?_
      rintro e w1 ⟨rfl,hf1⟩
      go_wp2_with fail
      go_meet
      case rel=>exact ⟨rfl,hf1⟩
    ·have d3:decide (400 < b)=false:=Aa b1
     obtain rfl:xd=false:=by rw [hx2.out]; unfold I4; rw [d3]; rfl
     go_wp2_with fail
     refine hk0.out.mono ?_
     rintro e w1 ⟨rfl,hf1⟩
     go_wp2_with fail
     go_meet
     case rel=>exact ⟨rfl,hf1⟩
  ·have d1:decide (400 < a)=false:=Aa a1
   have hx2:Hid (xd=I4 b):=by show _=_; rw [hxd.out]; unfold I4; rw [d1]; rfl
   by_cases b1:400 < b
   ·have d3:decide (400 < b)=true:=Ab b1
    by_cases b2:b≤100000
    ·have d4:decide (b≤100000)=true:=Ab b2
     obtain rfl:xd=true:=by rw [hx2.out]; unfold I4; rw [d3,d4]; rfl
     go_wp2_with fail
     refine hk0.out.mono ?_
     rintro e w1 ⟨rfl,hf1⟩
     go_wp2_with fail
     go_meet
     case rel=>exact ⟨rfl,hf1⟩
    ·have d4:decide (b≤100000)=false:=Aa b2
     obtain rfl:xd=false:=by rw [hx2.out]; unfold I4; rw [d3,d4]; rfl
     go_wp2_with fail
     refine hk0.out.mono ?_
     rintro e w1 ⟨rfl,hf1⟩
     go_wp2_with fail
     go_meet
     case rel=>exact ⟨rfl,hf1⟩
   ·have d3:decide (400 < b)=false:=Aa b1
    obtain rfl:xd=false:=by rw [hx2.out]; unfold I4; rw [d3]; rfl
    go_wp2_with fail
    refine hk0.out.mono ?_
    rintro e w1 ⟨rfl,hf1⟩
    go_wp2_with fail
    go_meet
    case rel=>exact ⟨rfl,hf1⟩
 case rest=>
  obtain ⟨rfl,hf1⟩:=hcut
  obtain ⟨w1,rfl⟩:∃ W:World,W=wc:=⟨_,rfl⟩
  cases xd with
  | true=>
    clear hdv hjn hde hre hbnd hpa hpc hpb hpm
    go_wp2_with fail
    refine (hkn.out _ hf1).mono ?_
    rintro e w2 ⟨rfl,hf2⟩
    go_wp2_with fail
    go_ret
    exact ⟨rfl,hf1.trans hf2⟩
  | false=>
    have hx2:=hxd.out.symm
    rw [Bool.or_eq_false_iff] at hx2
    have hda:=SL hx2.1
    have hdb:=SL hx2.2
    have hdv2:=hZ (hdv.out hda hdb)
    clear hx2 hxd hkn hdv
    go_wp2_with fail
    refine (hpm.out w1).mono ?_
    rintro e w2 ⟨pb,rfl,hpe,-,hf2⟩
    have hfw2:=hf1.trans hf2
    have hdw:=hZ (hdv2.out _ m w2 hfw2 hpe)
    replace hda:=hZ hda
    replace hdb:=hZ hdb
    replace hpe:=hZ hpe
    clear hpm hdv2
    go_wp2_with fail
    refine hdw.out.mono ?_
    rintro e w3 ⟨hf3,hok,hno⟩
    have hfw3:=hfw2.trans hf3
    have hpe3:=hZ (hpe.out.fr hf3)
    clear hdw hpe
    by_cases hba:FJ a∨FJ b
    case pos=>
     obtain rfl:DE=3:=hde.out hba
     obtain rfl:=hno (by decide)
     clear hok hno hjn hre hbnd hpc hde
     have hnz:=hZ (fun W=>PL W)
     obtain ⟨w4,hw4⟩:∃ W,W=w3.alloc (.cells #[.slice none 0 0,.slice none 0 0,.slice none 0 0] 29):=⟨_,rfl⟩
     have hf4:Fr w3 w4:=by rw [hw4]; exact (Fr.refl _).alloc _
     have hB4:=C3.new w3 (.slice none 0 0) (.slice none 0 0) (.slice none 0 0) 29
     rw [← hw4] at hB4
     obtain ⟨tb,htb⟩:∃ q,q=w3.heap.size:=⟨_,rfl⟩
     rw [← htb] at hB4
     have t0:=hB4.a
     have t1:=hB4.b
     have t2:=hB4.c
     go_upto_region 5 with (fail)
     rw [← hw4,← htb]
     clear hw4 hB4
     replace htb:=hZ htb
     have hfw4:=hfw3.trans hf4
     have hpe4:=hpe3.out.fr hf4
     by_cases ba:FJ a
     ·have h9:=hZ (hpb.out a ba _ m w4 hpe4)
      clear hpa hpb hda hdb hba ba hpe3 hpe4
      go_wp2_with fail
      refine h9.out.mono ?_
      rintro e w5 ⟨rfl,hf5⟩
      replace t0:=hf5.keep t0
      replace t1:=hf5.keep t1
      replace t2:=hf5.keep t2
      go_wp2_with fail
      refine (hnz.out w5).mono ?_
      rintro e w6 ⟨rfl,hf6⟩
      go_wp2_with fail
      go_ret
      exact ⟨rfl,(hfw4.trans hf5).trans hf6⟩
     ·have bb:FJ b:=hba.resolve_left ba
      have h9:=hZ (hpa.out (hda.out.resolve_left ba) _ m w4 hfw4 hpe4)
      have h8:=hZ (fun W (hW:Fr w4 W)=>hpb.out b bb _ m W (hpe4.fr hW))
      clear hpa hpb hda hdb hba ba bb hpe3 hpe4
      go_wp2_with fail
      refine h9.out.mono ?_
      rintro e w5 ⟨xa,xc,rfl,-,-,-,hf5⟩
      replace t0:=hf5.keep t0
      replace t1:=hf5.keep t1
      replace t2:=hf5.keep t2
      go_wp2_with fail
      refine (h8.out w5 hf5).mono ?_
      rintro e w6 ⟨rfl,hf6⟩
      replace t0:=hf6.keep t0
      replace t1:=hf6.keep t1
      replace t2:=hf6.keep t2
      go_wp2_with fail
      refine (hnz.out w6).mono ?_
      rintro e w7 ⟨rfl,hf7⟩
      go_wp2_with fail
      go_ret
      exact ⟨rfl,((hfw4.trans hf5).trans hf6).trans hf7⟩
    have aok:=hda.out.resolve_left (fun h=>hba (.inl h))
    have bok:=hdb.out.resolve_left (fun h=>hba (.inr h))
    have hjn2:=hZ (hjn.out aok bok)
    have hpa2:=hZ (hpa.out aok)
    have hpc2:=hZ (hpc.out bok)
    have hbn2:=hZ (hbnd.out aok bok)
    clear hjn hpa hpc hbnd hpb hda hdb aok bok hba hde
    by_cases hd0:DE=0
    case neg=>
     obtain rfl:=hno hd0
     have q0:(DE == DE)=true:=Lh DE
     have hre0:=hZ (fun W=>HI [] [] [] none none none none none none 0 0 0 0 0 0 W (.inl rfl) (.inl rfl) (.inl rfl) (.inl rfl) (.inl rfl) (.inl rfl) (by decide) (by decide) (by decide) (fun r h=>by cases h) (fun r h=>by cases h))
     rw [CM] at hre0
     replace hd0:=hZ hd0
     clear hok hno hre hbn2
     obtain ⟨w4,hw4⟩:∃ W,W=w3.alloc (.cells #[.slice none 0 0,.slice none 0 0,.slice none 0 0] 29):=⟨_,rfl⟩
     have hf4:Fr w3 w4:=by rw [hw4]; exact (Fr.refl _).alloc _
     have hB4:=C3.new w3 (.slice none 0 0) (.slice none 0 0) (.slice none 0 0) 29
     rw [← hw4] at hB4
     obtain ⟨tb,htb⟩:∃ q,q=w3.heap.size:=⟨_,rfl⟩
     rw [← htb] at hB4
     have t0:=hB4.a
     have t1:=hB4.b
     have t2:=hB4.c
     go_upto_region 5 with (fail)
     rw [← hw4,← htb]
     clear hw4 hB4
     replace htb:=hZ htb
     have hfw4:=hfw3.trans hf4
     have hpe4:=hZ (hpe3.out.fr hf4)
     have h9:=hZ (hpa2.out _ m w4 hfw4 hpe4.out)
     clear hpa2 hpe3
     go_wp2_with fail
     refine h9.out.mono ?_
     rintro e w5 ⟨xa,xc,rfl,hx1,-,-,hf5⟩
     replace t0:=hf5.keep t0
     replace t1:=hf5.keep t1
     replace t2:=hf5.keep t2
     have h8:=hZ (hpc2.out _ m w5 (hfw4.trans hf5) (hpe4.out.fr hf5))
     replace hx1:=hZ hx1
     clear hpc2 h9
     go_wp2_with fail
     refine h8.out.mono ?_
     rintro e w6 ⟨ya,yc,rfl,hx2,-,-,hf6⟩
     replace t0:=hf6.keep t0
     replace t1:=hf6.keep t1
     replace t2:=hf6.keep t2
     have hf46:=hf5.trans hf6
     have h7:=hZ (hjn2.out w6 (some ⟨pb,0,none⟩) xa ya m xc yc (hfw4.trans hf46) (hx1.out.fr hf6) hx2)
     clear hjn2 h8 hx2 hx1
     go_wp2_with fail
     refine h7.out.mono ?_
     rintro e w7 ⟨hf7,-,hno⟩
     obtain rfl:=hno hd0.out
     replace t0:=hf7.keep t0
     replace t1:=hf7.keep t1
     replace t2:=hf7.keep t2
     clear hno h7
     obtain ⟨w8,hw8⟩:∃ W,W=w7.alloc (.cells #[.slice none 0 0,.slice none 0 0,.slice none 0 0] 29):=⟨_,rfl⟩
     have hf8:Fr w7 w8:=by rw [hw8]; exact (Fr.refl _).alloc _
     have hB8:=C3.new w7 (.slice none 0 0) (.slice none 0 0) (.slice none 0 0) 29
     rw [← hw8] at hB8
     obtain ⟨db,hdb⟩:∃ q,q=w7.heap.size:=⟨_,rfl⟩
     rw [← hdb] at hB8
     have d0:=hB8.a
     have d1:=hB8.b
     have d2:=hB8.c
     go_upto_region 12 with (fail)
     rw [← hw8,← hdb]
     clear hw8 hB8
     replace hdb:=hZ hdb
     replace t0:=hf8.keep t0
     replace t1:=hf8.keep t1
     replace t2:=hf8.keep t2
     go_wp2_with fail
     refine (hre0.out w8).mono ?_
     rintro e w9 ⟨rfl,hf9⟩
     go_wp2_with fail
     go_ret
     exact ⟨rfl,((((hfw4.trans hf46).trans hf7).trans hf8)).trans hf9⟩
    subst hd0
    obtain ⟨pa,pc,ca,cc,ma,mc,rfl,hel,hmc,hmm,-,-⟩:=hok (by trivial)
    obtain ⟨hb1,hb2,hb3,hb4⟩:=hbn2.out rfl
    replace hel:=hZ (hel w3 (Fx.refl _ _))
    replace hmc:=hZ (hmc w3 (Fx.refl _ _))
    replace hmm:=hZ (hmm w3 (Fx.refl _ _))
    have hre2:=hZ (fun (a1 b1 a2 b2 a3 b3:Option Addr) (c1 d1 c2 d2 c3 d3:Nat) W=>hre.out A S a1 b1 a2 b2 a3 b3 c1 d1 c2 d2 c3 d3 W hb1 hb2 hb3 hb4)
    clear hok hno hbn2 hre hb1 hb2 hb3 hb4
    obtain ⟨w4,hw4⟩:∃ W,W=w3.alloc (.cells #[.slice pa m pc,.slice ca A.length cc,.slice ma S.length mc] 29):=⟨_,rfl⟩
    have hf4:Fr w3 w4:=by rw [hw4]; exact (Fr.refl _).alloc _
    have hB4:=C3.new w3 (.slice pa m pc) (.slice ca A.length cc) (.slice ma S.length mc) 29
    rw [← hw4] at hB4
    obtain ⟨tb,htb⟩:∃ q,q=w3.heap.size:=⟨_,rfl⟩
    rw [← htb] at hB4
    have t0:=hB4.a
    have t1:=hB4.b
    have t2:=hB4.c
    go_upto_region 5 with (fail)
    rw [← hw4,← htb]
    clear hw4 hB4
    replace htb:=hZ htb
    have hfw4:=hfw3.trans hf4
    have hpe4:=hZ (hpe3.out.fr hf4)
    have h9:=hZ (hpa2.out _ m w4 hfw4 hpe4.out)
    clear hpa2 hpe3
    go_wp2_with fail
    refine h9.out.mono ?_
    rintro e w5 ⟨xa,xc,rfl,hx1,-,-,hf5⟩
    replace t0:=hf5.keep t0
    replace t1:=hf5.keep t1
    replace t2:=hf5.keep t2
    have h8:=hZ (hpc2.out _ m w5 (hfw4.trans hf5) (hpe4.out.fr hf5))
    replace hx1:=hZ hx1
    clear hpc2 h9
    go_wp2_with fail
    refine h8.out.mono ?_
    rintro e w6 ⟨ya,yc,rfl,hx2,-,-,hf6⟩
    replace t0:=hf6.keep t0
    replace t1:=hf6.keep t1
    replace t2:=hf6.keep t2
    have hf46:=hf5.trans hf6
    have h7:=hZ (hjn2.out w6 (some ⟨pb,0,none⟩) xa ya m xc yc (hfw4.trans hf46) (hx1.out.fr hf6) hx2)
    clear hjn2 h8 hx2 hx1
    go_wp2_with fail
    refine h7.out.mono ?_
    rintro e w7 ⟨hf7,hok,-⟩
    obtain ⟨da,dc,sa,sc,rfl,hA7,hS7⟩:=hok (by trivial)
    replace t0:=hf7.keep t0
    replace t1:=hf7.keep t1
    replace t2:=hf7.keep t2
    replace hA7:=hZ hA7
    replace hS7:=hZ hS7
    clear hok h7
    obtain ⟨w8,hw8⟩:∃ W,W=w7.alloc (.cells #[.slice (some ⟨pb,0,none⟩) m m,.slice da A.length dc,.slice sa S.length sc] 29):=⟨_,rfl⟩
    have hf8:Fr w7 w8:=by rw [hw8]; exact (Fr.refl _).alloc _
    have hB8:=C3.new w7 (.slice (some ⟨pb,0,none⟩) m m) (.slice da A.length dc) (.slice sa S.length sc) 29
    rw [← hw8] at hB8
    obtain ⟨db,hdb⟩:∃ q,q=w7.heap.size:=⟨_,rfl⟩
    rw [← hdb] at hB8
    have d0:=hB8.a
    have d1:=hB8.b
    have d2:=hB8.c
    go_upto_region 12 with (fail)
    rw [← hw8,← hdb]
    clear hw8 hB8
    replace hdb:=hZ hdb
    replace t0:=hf8.keep t0
    replace t1:=hf8.keep t1
    replace t2:=hf8.keep t2
    have hf38:=((hf4.trans hf46).trans hf7).trans hf8
    have hsm:=hZ (hre2.out pa (some ⟨pb,0,none⟩) ca da ma sa pc m cc dc mc sc w8 (hel.out.fr hf38) (hpe4.out.fr ((hf46.trans hf7).trans hf8)) (hmc.out.fr hf38) (hA7.out.fr hf8) (hmm.out.fr hf38) (hS7.out.fr hf8))
    clear hre2 hel hmc hmm hA7 hS7 hpe4
    go_wp2_with fail
    refine hsm.out.mono ?_
    rintro e w9 ⟨rfl,hf9⟩
    go_wp2_with fail
    go_ret
    exact ⟨rfl,(hfw3.trans hf38).trans hf9⟩
end Go.Proofs.YtiniigadkknboaaGreatDoor
