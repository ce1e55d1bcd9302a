/- Contracts and laws: GBE. -/
import Derived.Test.YtiniigadkknboaaGreatDoorGBC
import Derived.Test.YtiniigadkknboaaGreatDoorGBD
import Derived.Test.YtiniigadkknboaaGreatDoorGAE
import Derived.Deep.RegionHeld3
import Derived.RangeFuncFrom
import Derived.RangeFuncBox
import Derived.Maps.AppendAt
import Derived.Maps.OwnIn
import Derived.Sort.LoopGhostIn

set_option maxRecDepth 100000
set_option maxHeartbeats 4000000
namespace Go.Proofs.YtiniigadkknboaaGreatDoor
open Go.RowKit Go.Lib Go.Shelf
attribute [local go_sem ↓] Go.wp_at_zero Go.wp_at_succ
def H8:Go.Shelf.Ren:=⟨fun | 41=>109 | n=>n,fun | 22=>24 | 23=>3 | 4=>4 | n=>n,fun | n=>n⟩
theorem Kn:Go.Proofs.SlLaysE0.n41 Tryz.prog H8:={
 mixed:=by kernel_rfl
 f41:=⟨Tryz.f109.name,by decide,Tryz.func109.trans (congrArg some (by kernel_rfl))⟩
 t4:=Tryz.underlying4
 a4:=Tryz.isAgg4
 z4:=Tryz.sizeOf4
 v4:=Tryz.zeroValue4
 t22:=Tryz.underlying24
 a22:=Tryz.isAgg24
 z22:=Tryz.sizeOf24
 v22:=Tryz.zeroValue24 }
theorem N7 (b o c:Nat) (xs:List Int) (w:World) (hl:xs.length≤1000000) (hc:∀ (j:Nat) (x:Int),xs[j]?=some x→w.cell? ⟨b,o+j,none⟩=some (iv x)) :
 Calls Tryz.prog 109 #[.slice (some ⟨b,o,none⟩) xs.length c] w (RV w xs):=by
 obtain ⟨i0,hi,hz0,hz1,hz2⟩:=AZ C6
 refine (AnyE.slices_Clone Kn i0 _ 1 8 hi hz0 hz1 hz2 rfl (by decide) Tryz.sizeOf3 b o xs.length c (xs.map iv) w (by simp) (by unfold maxLen; omega) (by omega) (fun j u h=>?_) (fun u h=>?_)).mono ?_
 ·rw [At] at h
  cases hx:xs[j]? with
  | none=>rw [hx] at h; simp at h
  | some x=>rw [hx] at h; injection h with h; rw [← h]; exact hc j x hx
 ·obtain ⟨x,-,rfl⟩:=Bc.1 h; rfl
 ·rintro e w' ⟨v',rfl,hown,hne,hb⟩
  have h2:=hown.2
  rcases h2 with ⟨h0,-⟩ | ⟨g,cap,_,hv,_⟩
  ·exact absurd h0 hne
  ·subst hv
   exact ⟨g,cap,rfl,hb,hown⟩
def Xo (w:World) (ok:Bool) (S A:List (List Int)) (e:Ending) (w':World):Prop:=∃ (sa aa:Option Addr) (sl sc al ac:Nat) (err:Int),e=.returned (.tuple #[.slice sa sl sc,.slice aa al ac,.int .i64 err])∧Fr w w'∧(ok=true→err=0∧sl=S.length∧al=A.length∧sl≤sc∧al≤ac∧(∀ W,Fx (· < w.heap.size) w' W→A5 W sa S)∧(∀ W,Fx (· < w.heap.size) w' W→A5 W aa A))∧(ok=false→err=4)
def Fq (n:Nat) (L:List (List Int)):Bool:=BG L && (BG (Dj n (Dj n L)) && BG (Dj n L))
theorem Vr (P:List Int) (m:List (List Int)) (aP am:Option Addr) (cP cm:Nat) (w:World) (hG:G w) (hE:LW w) (hp:BQ P=0) (hP4:P.length≤4) (hP:El w iv aP P) (hm:A5 w am m) (hr:Bx P.length m) (hm4:m.length≤4) (hb:∀ r,r ∈ m→∀ x,x ∈ r→Bq x=true) (hz:m=[]→am=none∧cm=0) :
 Calls Tryz.prog 108 #[.slice aP P.length cP,.slice am m.length cm] w (Xo w (Fq P.length (H7 P.length m)) (Dj P.length (Dj P.length (H7 P.length m))) (Dj P.length (H7 P.length m))):=by
 have a0:=Df
 have hP1:=(CV hp).1
 have hbn:∀ r,r ∈ m→∀ x,x ∈ r→x.natAbs≤1000000000:=fun r hr x hx=>FD (hb r hr x hx)
 obtain ⟨oS,oR,oL,oF⟩:=Ua (n:=P.length) (m:=m) (B:=1000000000) hP4 (by omega) hr (by decide) (by omega) hbn
 have hpc:∀ W,Fr w W→Calls Tryz.prog 44 #[.slice aP P.length cP] W fun e w'=>e=.returned (.int .i64 0)∧Fr W w':=fun W hW=>(Ha P aP cP W (hP.fr hW) (by omega)).mono fun e w' ⟨h1,h2⟩=>⟨by rw [h1,hp],by rw [h2]; exact Fr.refl _⟩
 have htab:EI P.length m:=⟨by omega,by omega,hr,hb⟩
 have hof:∀ W,Fr w W→Calls Tryz.prog 48 #[.int .i64 (P.length:Nat),.slice am m.length cm] W (GM W P.length (H7 P.length m)):=fun W hW=>by
  by_cases h0:m=[]
  ·obtain ⟨rfl,rfl⟩:=hz h0
   subst h0
   rw [We]
   exact (X3 P.length W hP1 (by omega)).mono fun e w' ⟨h1,h2⟩=>⟨fun _=>⟨none,0,h1,Ah _,fun W _=>.inl rfl,h2⟩,fun h=>by cases h⟩
  ·obtain ⟨gF,tF,p,k1,k2,-⟩:=MJ (n:=P.length) (m:=m) (B:=1000000000) (by omega) hr (by decide) (by omega) hbn
   rw [k2] at oS ⊢
   have hm0:0 < m.length:=Cy.2 h0
   exact YS m gF FX tF am cm P.length W (hG.fr hW) (hm.fr hW) htab hm0 hP1 k1 oS (hE.fr hW)
 generalize H7 P.length m=L at *
 have hlat:BG L=true→Hid (∀ W la lc,Fr w W→A5 W la L→L.length≤lc →
  Calls Tryz.prog 50 #[.agg #[.int .i64 (P.length:Nat),.slice la L.length lc]] W (GM W P.length (Dj P.length (Dj P.length L))) ∧
  Calls Tryz.prog 49 #[.agg #[.int .i64 (P.length:Nat),.slice la L.length lc]] W (GM W P.length (Dj P.length L))):=fun hL W la lc hW hMt hlc=>by
  obtain ⟨j1,j2,j3,j4,j5,j6,j7,j8⟩:=Un (n:=P.length) hP4 hL
  have hT:EI P.length L:=⟨by omega,by omega,oR,KM hL⟩
  have hfine:Hb W P.length la L.length lc:=fun W' hW'=>HM L la lc P.length W' (hMt.fr hW') hT hlc oF
  exact ⟨RT L (Dj P.length L) _ la lc P.length FX W (hG.fr hW) hMt hfine oR hP1 (by omega) (by omega) (H0 hT) j1 j2 j3 (by omega) (by omega) (Fc j5 (by omega)) j8 (hE.fr hW),
   R6 L _ la lc P.length FX W (hG.fr hW) hMt hfine oR hP1 (by omega) (by omega) (H0 hT) j1 (by omega) (Fc j3 (by omega)) j7 (hE.fr hW)⟩
 unfold Fq
 generalize Dj P.length (Dj P.length L)=S at *
 generalize Dj P.length L=A at *
 generalize P.length=n at *
 generalize m.length=nm at *
 replace hpc:=hZ hpc
 replace hof:=hZ hof
 clear hm hr hb hbn hz hp htab oS oR oL oF hG hE hP
 unfold Xo
 go_enter Tryz.func108,Tryz.ntmps108
 go_wp2_with fail
 refine (hpc.out _ (Fr.refl _)).mono ?_
 rintro e w1 ⟨rfl,hf1⟩
 go_wp2_with fail
 refine (hof.out _ hf1).mono ?_
 rintro e w2 hret
 obtain ⟨n1,la,k1,c1,e1,rfl,hf2,hok,hno⟩:=hret.any
 clear hret
 have hfw:=hf1.trans hf2
 obtain ⟨w3,hw3⟩:∃ w3,w3=w2.alloc (.cells #[.int .i64 n1,.slice la k1 c1] 76):=⟨_,rfl⟩
 have hf3:Fr w2 w3:=by rw [hw3]; exact (Fr.refl _).alloc _
 have l0:w3.cell? ⟨w2.heap.size,0,none⟩=some (.int .i64 n1):=by rw [hw3]; exact (CC _ _ _ _).1
 have l1:w3.cell? ⟨w2.heap.size,1,none⟩=some (.slice la k1 c1):=by rw [hw3]; exact (Ct _ _ _ _).1
 go_upto_region 5 with (fail)
 rw [← hw3]
 clear hw3
 obtain ⟨lb,hlb⟩:∃ lb,lb=w2.heap.size:=⟨_,rfl⟩
 rw [← hlb] at l0 l1 ⊢
 replace hlb:=hZ hlb
 replace hfw:=hfw.trans hf3
 cases hbL:BG L with
 | false=>
   obtain rfl:=hno hbL
   clear hok hno hlat
   go_wp2_with fail
   go_ret3
   exact ⟨_,_,_,_,_,_,_,rfl,hfw,fun h=>(by rw [hbL] at h; cases h),fun _=>rfl⟩
 | true=>
   obtain ⟨rfl,rfl,rfl,hc1,hmt⟩:=hok hbL
   clear hok hno
   have hmt3:=hmt w3 (Fx.of_fr hf3)
   have hlat2:=(hlat hbL).out
   have hlat3:=hZ (fun W (hW:Fr w3 W)=>hlat2 W la c1 (hfw.trans hW) (hmt3.fr hW) hc1)
   clear hlat hlat2 hmt hmt3
   generalize L.length=nL at *
   go_wp2_with fail
   refine (hlat3.out _ (Fr.refl _)).1.mono ?_
   rintro e w4 hret
   obtain ⟨n4,sa,k4,c4,e4,rfl,hf4,hok4,hno4⟩:=hret.any
   clear hret
   replace l0:=hf4.keep l0
   replace l1:=hf4.keep l1
   obtain ⟨w5,hw5⟩:∃ w5,w5=w4.alloc (.cells #[.int .i64 n4,.slice sa k4 c4] 76):=⟨_,rfl⟩
   have hf5:Fr w4 w5:=by rw [hw5]; exact (Fr.refl _).alloc _
   have s0:w5.cell? ⟨w4.heap.size,0,none⟩=some (.int .i64 n4):=by rw [hw5]; exact (CC _ _ _ _).1
   have s1:w5.cell? ⟨w4.heap.size,1,none⟩=some (.slice sa k4 c4):=by rw [hw5]; exact (Ct _ _ _ _).1
   go_upto_region 8 with (fail)
   rw [← hw5]
   clear hw5
   obtain ⟨sb,hsb⟩:∃ sb,sb=w4.heap.size:=⟨_,rfl⟩
   rw [← hsb] at s0 s1 ⊢
   replace hsb:=hZ hsb
   replace l0:=hf5.keep l0
   replace l1:=hf5.keep l1
   have hf35:=hf4.trans hf5
   cases hbS:BG S with
   | false=>
     obtain rfl:=hno4 hbS
     clear hok4 hno4 hlat3
     go_wp2_with fail
     go_ret3
     exact ⟨_,_,_,_,_,_,_,rfl,hfw.trans hf35,fun h=>(by rw [hbL,hbS] at h; cases h),fun _=>rfl⟩
   | true=>
     obtain ⟨rfl,rfl,rfl,hc4,hm4⟩:=hok4 hbS
     have hmS:=hZ hm4
     clear hok4 hno4 hm4
     go_wp2_with fail
     refine (hlat3.out _ hf35).2.mono ?_
     rintro e w6 hret
     obtain ⟨n6,xa,k6,c6,e6,rfl,hf6,hok6,hno6⟩:=hret.any
     clear hret l0 l1 hlat3
     replace s0:=hf6.keep s0
     replace s1:=hf6.keep s1
     obtain ⟨w7,hw7⟩:∃ w7,w7=w6.alloc (.cells #[.int .i64 n6,.slice xa k6 c6] 76):=⟨_,rfl⟩
     have hf7:Fr w6 w7:=by rw [hw7]; exact (Fr.refl _).alloc _
     have x1:w7.cell? ⟨w6.heap.size,1,none⟩=some (.slice xa k6 c6):=by rw [hw7]; exact (Ct _ _ _ _).1
     replace s1:=hf7.keep s1
     go_upto_region 11 with (fail)
     rw [← hw7]
     clear hw7
     have hf57:=hf6.trans hf7
     have hfw7:=hfw.trans (hf35.trans hf57)
     have hmS7:=hZ (fun W (hW:Fx (· < w.heap.size) w7 W)=>hmS.out W ((Fx.of_fr (hf5.trans hf57)).trans (hW.mono (fun k hk=>Aq hk hfw.size))))
     clear s0 hmS
     cases hbA:BG A with
     | false=>
       obtain rfl:=hno6 hbA
       clear hok6 hno6
       go_wp2_with fail
       go_quiet (fail)
       go_wp2_with fail
       go_ret3
       exact ⟨_,_,_,_,_,_,_,rfl,hfw7.drewN _,fun h=>(by rw [hbL,hbS,hbA] at h; cases h),fun _=>rfl⟩
     | true=>
       obtain ⟨rfl,rfl,rfl,hc6,hm6⟩:=hok6 hbA
       have hmA:=hZ (fun W (hW:Fx (· < w.heap.size) w7 W)=>hm6 W ((Fx.of_fr hf7).trans (hW.mono (fun k hk=>Aq hk (hfw.trans hf35).size))))
       clear hok6 hno6 hm6
       go_wp2_with fail
       go_quiet (fail)
       go_wp2_with fail
       go_ret3
       exact ⟨_,_,_,_,_,_,_,rfl,hfw7.drewN _,fun _=>⟨rfl,rfl,rfl,hc4,hc6,fun W hW=>hmS7.out W ((Fx.of_fr ((Fr.refl _).drewN _)).trans hW),fun W hW=>hmA.out W ((Fx.of_fr ((Fr.refl _).drewN _)).trans hW)⟩,fun h=>(by rw [hbL,hbS,hbA] at h; cases h)⟩
theorem Tc (P:List Int) (a:Option Addr) (c:Nat) (w:World) (hP:El w iv a P) (h1:1≤P.length) (h2:P.length≤1000) :
 Calls Tryz.prog 109 #[.slice a P.length c] w fun e w'=>∃ a' c',e=.returned (.slice a' P.length c')∧El w' iv a' P∧(∀ ad,a'=some ad→w.heap.size≤ad.block)∧Fr w w':=by
 rcases hP with h | ⟨b,o,rfl,-,hc⟩
 ·rw [h] at h1; simp at h1
 ·refine (N7 b o c P w (by omega) hc).mono ?_
  rintro e w' ⟨g,cp,rfl,hf,hown⟩
  obtain ⟨a9,c9,h6,h7,h7b⟩:=HT hown
  injection h6 with h8 h9 h10
  subst h8
  exact ⟨_,_,rfl,h7,h7b,hf⟩
def Vt (w:World) (ok:Bool) (P:List Int) (C M:List (List Int)) (e:Ending) (w':World):Prop:=Fr w w'∧(ok=true→∃ (pa:Option Addr) (pc:Nat) (ca:Option Addr) (cc:Nat) (ma:Option Addr) (mc:Nat),e=.returned (.tuple #[.agg #[.slice pa P.length pc,.slice ca C.length cc,.slice ma M.length mc],.int .i64 0])∧(∀ W,Fx (· < w.heap.size) w' W→El W iv pa P)∧(∀ W,Fx (· < w.heap.size) w' W→A5 W ca C)∧(∀ W,Fx (· < w.heap.size) w' W→A5 W ma M)∧C.length≤cc∧M.length≤mc) ∧
 (ok=false→e=.returned (.tuple #[.agg #[.slice none 0 0,.slice none 0 0,.slice none 0 0],.int .i64 4]))
theorem Ks (P:List Int) (m:List (List Int)) (aP am:Option Addr) (cP cm:Nat) (w:World) (hG:G w) (hE:LW w) (hp:BQ P=0) (hP4:P.length≤4) (hP:El w iv aP P) (hm:A5 w am m) (hr:Bx P.length m) (hm4:m.length≤4) (hb:∀ r,r ∈ m→∀ x,x ∈ r→Bq x=true) (hz:m=[]→am=none∧cm=0) :
 Calls Tryz.prog 70 #[.slice aP P.length cP,.slice am m.length cm] w (Vt w (Fq P.length (H7 P.length m)) P (Dj P.length (H7 P.length m)) (Dj P.length (Dj P.length (H7 P.length m)))):=by
 have hP1:=(CV hp).1
 have hfr:=hZ (fun W (hW:Fr w W)=>Vr P m aP am cP cm W (hG.fr hW) (hE.fr hW) hp hP4 (hP.fr hW) (hm.fr hW) hr hm4 hb hz)
 have hcl:=hZ (fun W (hW:Fr w W)=>Tc P aP cP W (hP.fr hW) (by omega) (by omega))
 have hT:=C3.new w (.slice none 0 0) (.slice none 0 0) (.slice none 0 0) 29
 obtain ⟨wb,hwb⟩:∃ wb,wb=w.alloc (.cells #[.slice none 0 0,.slice none 0 0,.slice none 0 0] 29):=⟨_,rfl⟩
 have hfb:Fr w wb:=by rw [hwb]; exact (Fr.refl _).alloc _
 have hszb:Hid (wb.heap.size=w.heap.size+1):=by show _=_; rw [hwb]; simp
 rw [← hwb] at hT
 generalize Fq P.length (H7 P.length m)=ok at *
 generalize Dj P.length (Dj P.length (H7 P.length m))=S at *
 generalize Dj P.length (H7 P.length m)=A at *
 obtain ⟨n,hn⟩:∃ n,n=P.length:=⟨_,rfl⟩
 rw [← hn] at hfr hcl ⊢
 replace hn:=hZ hn
 generalize m.length=nm at *
 replace hT:=hZ hT
 clear hG hE hp hP hm hr hb hz
 unfold Vt
 rw [← hn.out]
 go_enter Tryz.func70,Tryz.ntmps70
 go_upto_region 1 with (fail)
 rw [← hwb]
 clear hwb
 obtain ⟨rb,hrb⟩:∃ rb,rb=w.heap.size:=⟨_,rfl⟩
 rw [← hrb] at hT ⊢
 replace hrb:=hZ hrb
 go_wp2_with fail
 refine (hfr.out _ hfb).mono ?_
 rintro e w1 ⟨sa,aa,sl,sc,al,ac,err,rfl,hf1,hok,hno⟩
 have hT1:=hT.out.fr hf1
 cases hb:ok with
 | false=>
   obtain rfl:=hno hb
   clear hok hno
   have q0:=hT1.a
   have q1:=hT1.fa
   have q2:=hT1.b
   have q3:=hT1.fb
   have q4:=hT1.c
   have q5:=hT1.fc
   have hU:=hT1.set0 (.slice none 0 0)
   have p0:=hU.b
   have p1:=hU.fb
   have hU1:=hU.set1 (.slice none 0 0)
   have p2:=hU1.c
   have p3:=hU1.fc
   have hU2:=hU1.set2 (.slice none 0 0)
   have y0:=hZ hU2.a
   have y1:=hZ hU2.b
   have y2:=hZ hU2.c
   have hfx:Fx (·=rb) w1 (((w1.setCell ⟨rb,0,none⟩ (.slice none 0 0)).setCell ⟨rb,1,none⟩ (.slice none 0 0)).setCell ⟨rb,2,none⟩ (.slice none 0 0)):=Fx.setCell (p:=(·=rb)) (q:=⟨rb,2,none⟩) (Fx.setCell (p:=(·=rb)) (q:=⟨rb,1,none⟩) (Fx.setCell (p:=(·=rb)) (q:=⟨rb,0,none⟩) (Fx.refl _ _) (.inl rfl) _) (.inl rfl) _) (.inl rfl) _
   have hfin:=hZ (((Fx.of_fr (hfb.trans hf1)).trans hfx).toFr (fun k hk e=>by have e:k=rb:=e; have:=hrb.out; omega))
   clear hU hU1 hU2 hfx
   go_wp2_with fail
   have v0:=y0.out
   have v1:=y1.out
   have v2:=y2.out
   exact AP (v:=.tuple #[.agg #[.slice none 0 0,.slice none 0 0,.slice none 0 0],.int .i64 4]) (by simp [results,Tryz.results70,go_sem,v0,v1,v2]) rfl ⟨hfin.out,fun h=>(by rw [hb] at h; cases h),fun _=>rfl⟩
 | true=>
   obtain ⟨rfl,rfl,rfl,hc1,hc2,hmS,hmA⟩:=hok hb
   replace hmS:=hZ hmS
   replace hmA:=hZ hmA
   clear hok hno
   go_wp2_with fail
   refine (hcl.out _ (hfb.trans hf1)).mono ?_
   rintro e w2 ⟨pa,pc,rfl,hep,hep2,hf2⟩
   have hT2:=hT1.fr hf2
   have hfw:=(hfb.trans hf1).trans hf2
   have q0:=hT2.a
   have q1:=hT2.fa
   have q2:=hT2.b
   have q3:=hT2.fb
   have q4:=hT2.c
   have q5:=hT2.fc
   have hU:=hT2.set0 (.slice pa n pc)
   have p0:=hU.b
   have p1:=hU.fb
   have hU1:=hU.set1 (.slice aa A.length ac)
   have p2:=hU1.c
   have p3:=hU1.fc
   have hU2:=hU1.set2 (.slice sa S.length sc)
   have y0:=hZ hU2.a
   have y1:=hZ hU2.b
   have y2:=hZ hU2.c
   have hfx:Fx (·=rb) w2 (((w2.setCell ⟨rb,0,none⟩ (.slice pa n pc)).setCell ⟨rb,1,none⟩ (.slice aa A.length ac)).setCell ⟨rb,2,none⟩ (.slice sa S.length sc)):=Fx.setCell (p:=(·=rb)) (q:=⟨rb,2,none⟩) (Fx.setCell (p:=(·=rb)) (q:=⟨rb,1,none⟩) (Fx.setCell (p:=(·=rb)) (q:=⟨rb,0,none⟩) (Fx.refl _ _) (.inl rfl) _) (.inl rfl) _) (.inl rfl) _
   have hfin:=hZ (((Fx.of_fr hfw).trans hfx).toFr (fun k hk e=>by have e:k=rb:=e; have:=hrb.out; omega))
   replace hep:=hZ hep
   replace hep2:=hZ hep2
   have hzb:wb.heap.size=w.heap.size+1:=hszb.out
   have hch1:=fun W (hW:Fx (· < w.heap.size) (((w2.setCell ⟨rb,0,none⟩ (.slice pa n pc)).setCell ⟨rb,1,none⟩ (.slice aa A.length ac)).setCell ⟨rb,2,none⟩ (.slice sa S.length sc)) W)=>(hfx.mono (q:=(· < wb.heap.size)) (fun k e=>by have e:k=rb:=e; have:=hrb.out; show k < _; omega)).trans (hW.mono (q:=(· < wb.heap.size)) (fun k e=>by have e:k < w.heap.size:=e; show k < _; omega))
   have hch:=fun W hW=>(Fx.of_fr hf2).trans (hch1 W hW)
   replace hch:=hZ hch
   replace hch1:=hZ hch1
   replace hfx:=hZ hfx
   clear hU hU1 hU2 hT2 hT1
   go_wp2_with fail
   have v0:=y0.out
   have v1:=y1.out
   have v2:=y2.out
   refine AP (v:=.tuple #[.agg #[.slice pa n pc,.slice aa A.length ac,.slice sa S.length sc],.int .i64 0]) (by simp [results,Tryz.results70,go_sem,v0,v1,v2]) rfl ⟨hfin.out,fun _=>⟨pa,pc,_,_,_,_,rfl, ?_, ?_, ?_,hc2,hc1⟩,fun h=>(by rw [hb] at h; cases h)⟩
   ·intro W hW
    have h9:=hch1.out W hW
    exact hep.out.fxp h9 (fun ad had hk=>by have:=hep2.out ad had; have hk:ad.block < wb.heap.size:=hk; have:=hf1.size; omega)
   ·intro W hW
    exact hmA.out W (hch.out W hW)
   ·intro W hW
    exact hmS.out W (hch.out W hW)
end Go.Proofs.YtiniigadkknboaaGreatDoor
namespace Go.Proofs.YtiniigadkknboaaGreatDoor
open Go.RowKit Go.Lib
attribute [local go_sem ↓] Go.wp_at_zero Go.wp_at_succ
def Ei (C:List (List Int)) (v:List Int):Bool:=C.all fun c=>FF c v c.length == 0
theorem V2 {C:List (List Int)} {v c:List Int} {j:Nat} (h:C[j]?=some c) (h0:FF c v c.length≠0):Ei C v=false:=by
 unfold Ei
 rw [Jt]
 exact ⟨c,Af h,by simpa using h0⟩
theorem TC {C:List (List Int)} {v:List Int} (h:∀ (j:Nat) (c:List Int),C[j]?=some c→FF c v c.length=0):Ei C v=true:=by
 unfold Ei
 rw [AE]
 intro c hc
 obtain ⟨j,hj,e⟩:=H6 hc
 have:=h j c (by rw [Ac hj,e])
 simpa using this
theorem Fz (C:List (List Int)) (v:List Int) (n:Nat) (va aM aP aC:Option Addr) (vc cM nP cP nM cC:Nat) (w:World) (hG:G w) (hC:A5 w aC C) (hr:Bx n C) (hv:El w iv va v) (hvn:v.length=n) (hvl:n≤12) (hCl:C.length≤1000) (hvf:∀ y,y ∈ v→Bq y=true) (hCf:∀ r,r ∈ C→∀ y,y ∈ r→Bq y=true) :
 Calls Tryz.prog 57 #[.agg #[.slice aP nP cP,.slice aC C.length cC,.slice aM nM cM],.slice va n vc] w fun e w'=>e=.returned (.bool (Ei C v))∧Fr w w':=by
 obtain ⟨N,hN⟩:∃ N,N=C.length:=⟨_,rfl⟩
 rw [← hN] at hCl ⊢
 have hno:Hid (∀ (j:Nat) (c:List Int),C[j]?=some c→FF c v c.length≠0→Ei C v=false):=fun j c h h0=>V2 h h0
 have hyes:Hid ((∀ (j:Nat) (c:List Int),C[j]?=some c→FF c v c.length=0)→Ei C v=true):=TC
 obtain ⟨res,hres⟩:∃ res,res=Ei C v:=⟨_,rfl⟩
 rw [← hres] at hno hyes ⊢
 replace hres:=hZ hres
 replace hvn:=hZ hvn
 replace hN:=hZ hN
 replace hC:=hZ hC
 replace hr:=hZ hr
 replace hv:=hZ hv
 replace hvf:=hZ hvf
 replace hCf:=hZ hCf
 obtain ⟨wb,hwb⟩:∃ wb,wb=w.alloc (.cells #[.slice aP nP cP,.slice aC N cC,.slice aM nM cM] 29):=⟨_,rfl⟩
 have hfb:Fr w wb:=by rw [hwb]; exact (Fr.refl _).alloc _
 have b1:=(C3.new w (.slice aP nP cP) (.slice aC N cC) (.slice aM nM cM) 29).b
 rw [← hwb] at b1
 go_enter Tryz.func57,Tryz.ntmps57
 go_upto_region 1 with (fail)
 rw [← hwb]
 clear hwb
 go_wp2_with fail
 go_loopg [13] N (fun k s13 wr=>∃ j:Nat,s13=.int .i64 j∧j+k=N∧Fr wb wr∧Hid (∀ (t:Nat) (c:List Int),t < j→C[t]?=some c→FF c v c.length=0))
 case atStart=>exact ⟨0,rfl,by omega,Fr.refl _,fun t c h=>absurd h (Bj _)⟩
 case round=>
  obtain ⟨j,rfl,hjk,hf,hz⟩:=hrel
  by_cases hj:j < N
  ·have hdJ:decide (j < N)=true:=Ab hj
   have hdJ2:decide ((j:Int) < (N:Int))=true:=Ab (by omega)
   obtain ⟨wo,rfl⟩:∃ wo:World,wo=wr:=⟨_,rfl⟩
   obtain ⟨ko,rfl⟩:∃ ko:Nat,ko=gk:=⟨_,rfl⟩
   have hfo:=hfb.trans hf
   have hj2:j < C.length:=by rw [← hN.out]; exact hj
   obtain ⟨mb,mo,ca,cc,rfl,hcm,hev⟩:=(hC.out.fr hfo).at hj2
   have hcl:=hr.out _ (AG hj2)
   have hcf:=hCf.out _ (AG hj2)
   have hget:=Ac hj2
   generalize C[j]=c at *
   rw [hcl] at hcm
   have hGo:=hG.fr hfo
   have hdb:=RJ hcf hvf.out
   replace hget:=hZ hget
   replace hev:=hZ hev
   replace hcl:=hZ hcl
   replace hcf:=hZ hcf
   replace hdb:=hZ hdb
   have zj0:(0:Int)≤(j:Int):=Aj _
   have zj1:(j:Int) < (N:Int):=by omega
   go_wp2_with fail
   go_loopg [7,19] n (fun k s7 s19 wr=>∃ i:Nat,s19=.int .i64 i∧i+k=n∧Fr wo wr∧s7=.string (tx (FF c v i)))
   case atStart=>exact ⟨0,rfl,by omega,Fr.refl _,by rw [FF,HP]⟩
   case round=>
    obtain ⟨i,rfl,hik,hf2,rfl⟩:=hrel
    by_cases hi:i < n
    ·have hdI:decide (i < n)=true:=Ab hi
     have hdI2:decide ((i:Int) < (n:Int))=true:=Ab (by omega)
     obtain ⟨wi,rfl⟩:∃ wi:World,wi=wr:=⟨_,rfl⟩
     have hfi:=hfo.trans hf2
     obtain ⟨xb,xo,y,rfl,hxb,hy,cy⟩:=(hev.out.fr hf2).at (i:=i) (by rw [hcl.out]; exact hi)
     obtain ⟨vb,vo,z,rfl,hvb,hz9,cz⟩:=(hv.out.fr hfi).at (i:=i) (by rw [hvn.out]; exact hi)
     have hyb:=FD (hcf.out y (Af hy))
     have hzb:=FD (hvf.out z (Af hz9))
     have hyz:=Qz hyb hzb
     have hS:=hdb.out i
     have hstep:FF c v (i+1)=FF c v i+y * z:=by rw [FF,hy,hz9]; rfl
     have hGi:=hGo.fr hf2
     have hofy:=hZ (fun W (hW:Fr wi W)=>Cs y (by omega) (by omega) W (hGi.fr hW))
     have hofz:=hZ (fun W (hW:Fr wi W)=>Cs z (by omega) (by omega) W (hGi.fr hW))
     have hmul:=hZ (fun W (hW:Fr wi W)=>RZ y z (Wd.of40 (by omega)) (Wd.of40 (by omega)) W (hGi.fr hW))
     have hadd:=hZ (fun W (hW:Fr wi W)=>YY (FF c v i) (y * z) (Wd.of40 (by omega)) (Wd.of40 (by omega)) W (hGi.fr hW))
     generalize FF c v i=S at *
     generalize y * z=yz at *
     rw [← hstep] at hadd
     have zi0:(0:Int)≤(i:Int):=Aj _
     have zi1:(i:Int) < (n:Int):=by omega
     replace hy:=hZ hy
     replace hz9:=hZ hz9
     replace hstep:=hZ hstep
     clear hyb hzb hyz hS
     go_wp2_with fail
     go_region_held3 (fun w'=>w'.cell? ⟨vb,vo+i,none⟩=some (.int .i64 z))
      (first | assumption | (refine Fr.keep (by assumption) ?_; assumption) | go_keep)
      (first
       | (go_at_call 96; (with_reducible refine (hofy.out _ ?_).mono ?_); (exact B9); rintro e w3 ⟨rfl,hf3⟩)
       | (go_at_call 96; (with_reducible refine (hofz.out _ ?_).mono ?_); (exact B9); rintro e w4 ⟨rfl,hf4⟩)
       | (go_at_call 95; (with_reducible refine (hmul.out _ ?_).mono ?_); (exact B9); rintro e w5 ⟨rfl,hf5⟩)
       | (go_at_call 94; (with_reducible refine (hadd.out _ ?_).mono ?_); (exact B9); rintro e w6 ⟨rfl,hf6⟩))
     have hf9:Fr wi w6:=by exact B9
     go_wp2_with fail
     go_roundg (gk - 1)
     case measure=>omega
     case rel=>exact ⟨i+1,by go_num,by omega,hf2.trans hf9,rfl⟩
    ·obtain rfl:i=n:=by omega
     have hdI:decide (i < i)=false:=Aa (by omega)
     have hdI2:decide ((i:Int) < (i:Int))=false:=Aa (by omega)
     have hb0:=Cn (FF c v i)
     by_cases h0:FF c v i=0
     ·rw [Ab h0] at hb0
      have hz2:Hid (∀ (t:Nat) (c:List Int),t < j+1→C[t]?=some c→FF c v c.length=0):=fun t c' ht hc'=>by
       by_cases e:t=j
       ·subst e; rw [hget.out] at hc'; injection hc' with hc'; rw [← hc',hcl.out]; exact h0
       ·exact hz.out t c' (by omega) hc'
      replace h0:=hZ h0
      go_wp2_with fail
      go_roundg (ko - 1)
      case measure=>omega
      case rel=>exact ⟨j+1,by go_num,by omega,hf.trans hf2,hz2⟩
     ·rw [Aa h0] at hb0
      have hfin:=hZ (hno.out j c hget.out (by rw [hcl.out]; exact h0))
      replace h0:=hZ h0
      go_wp2_with fail
      go_ret
      exact ⟨by rw [hfin.out]; rfl,hfo.trans hf2⟩
  ·have hdJ:decide (j < N)=false:=Aa hj
   have hdJ2:decide ((j:Int) < (N:Int))=false:=Aa (by omega)
   have hfin:=hZ (hyes.out (fun t c hc=>hz.out t c (by have:=(Ae.1 hc).1; have:=hN.out; omega) hc))
   clear hz
   go_wp2_with fail
   go_ret
   exact ⟨by rw [hfin.out]; rfl,hfb.trans hf⟩
theorem HO {P v:List Int} (h:EL P v=0):BQ P=0∧CA v=0∧v.length=P.length:=by
 unfold EL at h
 by_cases h1:BQ P=0
 ·rw [Ag (by rw [h1]; simp)] at h
  by_cases h2:CA v=0
  ·rw [Ag (by rw [h2]; simp)] at h
   by_cases h3:v.length=P.length
   ·exact ⟨h1,h2,h3⟩
   ·rw [Ai h3] at h; cases h
  ·rw [Ai h2] at h; exact absurd h h2
 ·rw [Ai h1] at h; exact absurd h h1
def sE (E:Int) (P v:List Int):Int:=if E≠0 then E else EL P v
theorem Sk (E:Int) (P v:List Int):Hf E P [v]=sE E P v:=by
 unfold Hf sE
 by_cases h:E=0
 ·rw [Ag (by rw [h]; simp),Ag (by rw [h]; simp)]
  show (if EL P v≠0 then EL P v else EU [])=_
  by_cases h2:EL P v=0
  ·rw [Ag (by rw [h2]; simp),h2]; rfl
  ·rw [Ai h2]
 ·rw [Ai h,Ai h]
theorem Rd {E:Int} {P v:List Int} (h:sE E P v=0):E=0∧EL P v=0:=by
 unfold sE at h
 by_cases h1:E=0
 ·rw [Ag (by rw [h1]; simp)] at h; exact ⟨h1,h⟩
 ·rw [Ai h1] at h; exact absurd h h1
theorem R0 (w:World) (va:Option Addr) (v:List Int) (vc:Nat) (hv:El w iv va v):A5 (w.alloc (.cells #[.slice va v.length vc] 33)) (some ⟨w.heap.size,0,none⟩) [v] :=
 .inr ⟨w.heap.size,0,rfl,by simp,fun i xs hx=>by
  match i,hx with
  | 0,hx=>
    have hx:v=xs:=by simpa using hx
    subst hx
    exact ⟨va,vc,Dt _ _ _,hv.fr ((Fr.refl _).alloc _)⟩⟩
def PC (w:World) (err:Int) (P:List Int) (C M:List (List Int)) (e:Ending) (w':World):Prop:=Fr w w'∧(err=0→∃ (pa:Option Addr) (pc:Nat) (ca:Option Addr) (cc:Nat) (ma:Option Addr) (mc:Nat),e=.returned (.tuple #[.agg #[.slice pa P.length pc,.slice ca C.length cc,.slice ma M.length mc],.int .i64 0])∧(∀ W,Fx (· < w.heap.size) w' W→El W iv pa P)∧(∀ W,Fx (· < w.heap.size) w' W→A5 W ca C)∧(∀ W,Fx (· < w.heap.size) w' W→A5 W ma M)∧C.length≤cc∧M.length≤mc) ∧
 (err≠0→e=.returned (.tuple #[.agg #[.slice none 0 0,.slice none 0 0,.slice none 0 0],.int .i64 err]))
theorem N3 (w:World) (va ua:Option Addr) (v u:List Int) (vc uc:Nat) (hv:El w iv va v) (hu:El w iv ua u):A5 (w.alloc (.cells #[.slice va v.length vc,.slice ua u.length uc] 33)) (some ⟨w.heap.size,0,none⟩) [v,u] :=
 .inr ⟨w.heap.size,0,rfl,by simp,fun i xs hx=>by
  match i,hx with
  | 0,hx=>
    have hx:v=xs:=by simpa using hx
    subst hx
    exact ⟨va,vc,(CC w _ _ _).1,hv.fr ((Fr.refl _).alloc _)⟩
  | 1,hx=>
    have hx:u=xs:=by simpa using hx
    subst hx
    exact ⟨ua,uc,(Ct w _ _ _).1,hu.fr ((Fr.refl _).alloc _)⟩⟩
def jL (P v u:List Int):List (List Int):=H7 P.length [v,u]
def jA (P v u:List Int):List (List Int):=Dj P.length (jL P v u)
def jS (P v u:List Int):List (List Int):=Dj P.length (jA P v u)
def Rz (P v u:List Int):Int:=if Fq P.length (jL P v u)=false then 4 else if (jS P v u).length < 2 then 18 else 0
theorem Sg (P v u:List Int) (aP va ua:Option Addr) (cP vc uc:Nat) (w:World) (hG:G w) (hE:LW w) (hp:BQ P=0) (hP4:P.length≤4) (hP:El w iv aP P) (hv:El w iv va v) (hu:El w iv ua u) (hvl:v.length=P.length) (hul:u.length=P.length) (hvf:∀ x,x ∈ v→Bq x=true) (huf:∀ x,x ∈ u→Bq x=true) :
 Calls Tryz.prog 45 #[.slice aP P.length cP,.slice va P.length vc,.slice ua P.length uc] w (PC w (Rz P v u) P (jA P v u) (jS P v u)):=by
 have hT:=C3.new w (.slice none 0 0) (.slice none 0 0) (.slice none 0 0) 29
 obtain ⟨wb,hwb⟩:∃ wb,wb=w.alloc (.cells #[.slice none 0 0,.slice none 0 0,.slice none 0 0] 29):=⟨_,rfl⟩
 have hfb:Fr w wb:=by rw [hwb]; exact (Fr.refl _).alloc _
 have hszb:wb.heap.size=w.heap.size+1:=by rw [hwb]; simp
 rw [← hwb] at hT
 have hmt:=N3 wb va ua v u vc uc (hv.fr hfb) (hu.fr hfb)
 rw [hszb,hvl,hul] at hmt
 obtain ⟨W2,hW2⟩:∃ W2,W2=wb.alloc (.cells #[.slice va P.length vc,.slice ua P.length uc] 33):=⟨_,rfl⟩
 have hf2:Fr wb W2:=by rw [hW2]; exact (Fr.refl _).alloc _
 have hsz2:W2.heap.size=w.heap.size+2:=by rw [hW2,AF,hszb]
 rw [← hW2] at hmt
 have hfm:=Ks P [v,u] aP (some ⟨w.heap.size+1,0,none⟩) cP 2 W2 (hG.fr (hfb.trans hf2)) (hE.fr (hfb.trans hf2)) hp hP4 (hP.fr (hfb.trans hf2)) hmt (fun r hr=>by
  rcases Bu.1 hr with rfl | hr
  ·exact hvl
  ·rw [AX.1 hr]; exact hul) (by simp) (fun r hr=>by
  rcases Bu.1 hr with rfl | hr
  ·exact hvf
  ·rw [AX.1 hr]; exact huf) (fun h=>by cases h)
 have e2:([v,u]:List (List Int)).length=2:=rfl
 rw [e2] at hfm
 have hje:Rz P v u=if Fq P.length (jL P v u)=false then 4 else if (jS P v u).length < 2 then 18 else 0:=rfl
 generalize Rz P v u=JE at *
 have hS:Dj P.length (Dj P.length (H7 P.length [v,u]))=jS P v u:=rfl
 have hA:Dj P.length (H7 P.length [v,u])=jA P v u:=rfl
 have hL:H7 P.length [v,u]=jL P v u:=rfl
 rw [hS,hA,hL] at hfm
 generalize Fq P.length (jL P v u)=ok at *
 generalize jS P v u=S at *
 generalize jA P v u=A at *
 unfold Vt at hfm
 obtain ⟨n,hn⟩:∃ n,n=P.length:=⟨_,rfl⟩
 rw [← hn] at hfm hW2 ⊢
 replace hn:=hZ hn
 replace hje:=hZ hje
 replace hfm:=hZ hfm
 replace hT:=hZ hT
 replace hszb:=hZ hszb
 replace hsz2:=hZ hsz2
 have hfw2:=hfb.trans hf2
 clear hS hA hL e2 hmt hG hE hp hP hv hu hvl hul hvf huf
 have hz0:=hszb.out
 go_enter Tryz.func45,Tryz.ntmps45
 go_upto_region 1 with (fail)
 rw [← hwb]
 clear hwb
 go_wp2_with fail
 rw [← hW2]
 clear hW2
 obtain ⟨rb,hrb⟩:∃ rb,rb=w.heap.size:=⟨_,rfl⟩
 replace hfm:=hfm.out
 rw [← hrb] at hT hfm ⊢
 replace hrb:=hZ hrb
 refine hfm.mono ?_
 rintro e w3 ⟨hf3,hok,hno⟩
 have hT3:=(hT.out.fr hf2).fr hf3
 have hfw:=hfw2.trans hf3
 cases hb:ok with
 | false=>
   obtain rfl:=hno hb
   clear hok hno
   obtain rfl:JE=4:=by rw [hje.out,Ai hb]
   obtain ⟨w4,hw4⟩:∃ w4,w4=w3.alloc (.cells #[.slice none 0 0,.slice none 0 0,.slice none 0 0] 29):=⟨_,rfl⟩
   have hf4:Fr w3 w4:=by rw [hw4]; exact (Fr.refl _).alloc _
   have hT4:=hT3.fr hf4
   go_upto_region 2 with (fail)
   rw [← hw4]
   clear hw4
   have q0:=hT4.a
   have q1:=hT4.fa
   have q2:=hT4.b
   have q3:=hT4.fb
   have q4:=hT4.c
   have q5:=hT4.fc
   have hU:=hT4.set0 (.slice none 0 0)
   have p0:=hU.b
   have p1:=hU.fb
   have hU1:=hU.set1 (.slice none 0 0)
   have p2:=hU1.c
   have p3:=hU1.fc
   have hU2:=hU1.set2 (.slice none 0 0)
   have y0:=hZ hU2.a
   have y1:=hZ hU2.b
   have y2:=hZ hU2.c
   have hfxT:Fx (·=rb) w4 (((w4.setCell ⟨rb,0,none⟩ (.slice none 0 0)).setCell ⟨rb,1,none⟩ (.slice none 0 0)).setCell ⟨rb,2,none⟩ (.slice none 0 0)):=Fx.setCell (p:=(·=rb)) (q:=⟨rb,2,none⟩) (Fx.setCell (p:=(·=rb)) (q:=⟨rb,1,none⟩) (Fx.setCell (p:=(·=rb)) (q:=⟨rb,0,none⟩) (Fx.refl _ _) (.inl rfl) _) (.inl rfl) _) (.inl rfl) _
   have hfin:=hZ (((Fx.of_fr ((hfw.trans hf4))).trans hfxT).toFr (fun k hk e=>by have e:k=rb:=e; have:=hrb.out; omega))
   replace hfxT:=hZ hfxT
   clear hU hU1 hU2
   go_wp2_with fail
   have v0:=y0.out
   have v1:=y1.out
   have v2:=y2.out
   refine AP (v:=.tuple #[.agg #[.slice none 0 0,.slice none 0 0,.slice none 0 0],.int .i64 4]) (by simp [results,Tryz.results45,go_sem,v0,v1,v2]) rfl ?_
   exact ⟨hfin.out,fun h=>(by cases h),fun _=>rfl⟩
 | true=>
   obtain ⟨pa,pc,ca,cc,ma,mc,rfl,hel,hmc,hmm,hcc,hcm⟩:=hok hb
   clear hok hno
   obtain ⟨w4,hw4⟩:∃ w4,w4=w3.alloc (.cells #[.slice pa n pc,.slice ca A.length cc,.slice ma S.length mc] 29):=⟨_,rfl⟩
   have hf4:Fr w3 w4:=by rw [hw4]; exact (Fr.refl _).alloc _
   have hB:=C3.new w3 (.slice pa n pc) (.slice ca A.length cc) (.slice ma S.length mc) 29
   rw [← hw4] at hB
   have hT4:=hT3.fr hf4
   have b0:=hB.a
   have b1:=hB.b
   have b2:=hB.c
   replace hel:=hZ hel
   replace hmc:=hZ hmc
   replace hmm:=hZ hmm
   have hchp:=hZ (fun Wf (hfT:Fx (·=rb) w4 Wf) W (hW:Fx (· < w.heap.size) Wf W)=>((Fx.of_fr (p:=(· < W2.heap.size)) hf4).trans (hfT.mono (fun k e=>by have e:k=rb:=e; have:=hrb.out; have:=hsz2.out; show k < _; omega))).trans (hW.mono (fun k e=>by have e:k < w.heap.size:=e; have:=hsz2.out; show k < W2.heap.size; omega)))
   go_upto_region 2 with (fail)
   rw [← hw4]
   clear hw4 hB
   by_cases hl2:S.length < 2
   ·obtain rfl:JE=18:=by rw [hje.out,Ag (by rw [hb]; decide),Ai hl2]
    have d1:decide ((S.length:Int) < 2)=true:=Ab (by omega)
    have q0:=hT4.a
    have q1:=hT4.fa
    have q2:=hT4.b
    have q3:=hT4.fb
    have q4:=hT4.c
    have q5:=hT4.fc
    have hU:=hT4.set0 (.slice none 0 0)
    have p0:=hU.b
    have p1:=hU.fb
    have hU1:=hU.set1 (.slice none 0 0)
    have p2:=hU1.c
    have p3:=hU1.fc
    have hU2:=hU1.set2 (.slice none 0 0)
    have y0:=hZ hU2.a
    have y1:=hZ hU2.b
    have y2:=hZ hU2.c
    have hfxT:Fx (·=rb) w4 (((w4.setCell ⟨rb,0,none⟩ (.slice none 0 0)).setCell ⟨rb,1,none⟩ (.slice none 0 0)).setCell ⟨rb,2,none⟩ (.slice none 0 0)):=Fx.setCell (p:=(·=rb)) (q:=⟨rb,2,none⟩) (Fx.setCell (p:=(·=rb)) (q:=⟨rb,1,none⟩) (Fx.setCell (p:=(·=rb)) (q:=⟨rb,0,none⟩) (Fx.refl _ _) (.inl rfl) _) (.inl rfl) _) (.inl rfl) _
    have hfin:=hZ (((Fx.of_fr ((hfw.trans hf4))).trans hfxT).toFr (fun k hk e=>by have e:k=rb:=e; have:=hrb.out; omega))
    replace hfxT:=hZ hfxT
    clear hU hU1 hU2
    go_wp2_with fail
    have v0:=y0.out
    have v1:=y1.out
    have v2:=y2.out
    refine AP (v:=.tuple #[.agg #[.slice none 0 0,.slice none 0 0,.slice none 0 0],.int .i64 18]) (by simp [results,Tryz.results45,go_sem,v0,v1,v2]) rfl ?_
    exact ⟨hfin.out,fun h=>(by cases h),fun _=>rfl⟩
   ·obtain rfl:JE=0:=by rw [hje.out,Ag (by rw [hb]; decide),Ag hl2]
    have d1:decide ((S.length:Int) < 2)=false:=Aa (by omega)
    have q0:=hT4.a
    have q1:=hT4.fa
    have q2:=hT4.b
    have q3:=hT4.fb
    have q4:=hT4.c
    have q5:=hT4.fc
    have hU:=hT4.set0 (.slice pa n pc)
    have p0:=hU.b
    have p1:=hU.fb
    have hU1:=hU.set1 (.slice ca A.length cc)
    have p2:=hU1.c
    have p3:=hU1.fc
    have hU2:=hU1.set2 (.slice ma S.length mc)
    have y0:=hZ hU2.a
    have y1:=hZ hU2.b
    have y2:=hZ hU2.c
    have hfxT:Fx (·=rb) w4 (((w4.setCell ⟨rb,0,none⟩ (.slice pa n pc)).setCell ⟨rb,1,none⟩ (.slice ca A.length cc)).setCell ⟨rb,2,none⟩ (.slice ma S.length mc)):=Fx.setCell (p:=(·=rb)) (q:=⟨rb,2,none⟩) (Fx.setCell (p:=(·=rb)) (q:=⟨rb,1,none⟩) (Fx.setCell (p:=(·=rb)) (q:=⟨rb,0,none⟩) (Fx.refl _ _) (.inl rfl) _) (.inl rfl) _) (.inl rfl) _
    have hfin:=hZ (((Fx.of_fr ((hfw.trans hf4))).trans hfxT).toFr (fun k hk e=>by have e:k=rb:=e; have:=hrb.out; omega))
    replace hfxT:=hZ hfxT
    clear hU hU1 hU2
    go_wp2_with fail
    have v0:=y0.out
    have v1:=y1.out
    have v2:=y2.out
    refine AP (v:=.tuple #[.agg #[.slice pa n pc,.slice ca A.length cc,.slice ma S.length mc],.int .i64 0]) (by simp [results,Tryz.results45,go_sem,v0,v1,v2]) rfl ?_
    exact ⟨hfin.out,fun _=>⟨pa,pc,ca,cc,ma,mc,by rw [← hn.out],fun W hW=>hel.out W (hchp.out _ hfxT.out W hW),fun W hW=>hmc.out W (hchp.out _ hfxT.out W hW),fun W hW=>hmm.out W (hchp.out _ hfxT.out W hW),hcc,hcm⟩,fun h=>absurd rfl h⟩
theorem Fr.grownBy {w w':World} (h:Fr w w'):w.grownBy w' none :=
 have h:Below w.heap.size w w':=h
 ⟨h.os,h.tape,h.output,h.size,fun k hk _=>h.block k hk⟩
def Kj (C:List (List Int)) (P:List Int) (i:Nat):List Int:=((List.range i).map fun k=>((k+1:Nat):Int)).filter fun n=>Ei C (BM P n)
theorem Ph (C:List (List Int)) (P:List Int) (i:Nat):Kj C P (i+1)=if Ei C (BM P ((i+1:Nat):Int))=true then Kj C P i ++ [((i+1:Nat):Int)] else Kj C P i:=by
 unfold Kj
 rw [Me,Ay,QZ]
 by_cases h:Ei C (BM P ((i+1:Nat):Int))=true
 ·rw [Ai h]
  congr 1
  rw [J0,L4,D8 (by exact h),List.filter_nil]
 ·rw [Ag h,J0,L4,FY (by exact h),List.filter_nil,BE]
theorem Wt (C:List (List Int)) (P:List Int) (i:Nat):(Kj C P i).length≤i:=by
 unfold Kj
 have:=Mu (fun n=>Ei C (BM P n)) ((List.range i).map fun k=>((k+1:Nat):Int))
 rw [An,Co] at this
 exact this
theorem RH (C:List (List Int)) (P:List Int):∀ (j i:Nat),i≤j→Kj C P i <+: Kj C P j
 | 0,i,h=>by
   obtain rfl:i=0:=by omega
   exact WS
 | j+1,i,h=>by
   by_cases e:i=j+1
   ·subst e; exact WS
   ·refine (RH C P j i (by omega)).trans ?_
    rw [Ph]
    split
    ·exact List.prefix_append _ _
    ·exact WS
theorem Gq {P:List Int} {s:Int} (h:FP P s=true) (hs:0≤s∧s≤1000000000):∀ y,y ∈ BM P s→Bq y=true:=by
 cases P with
 | nil=>intro y hy; cases hy
 | cons p0 r=>
   intro y hy
   unfold BM at hy
   rcases Bu.1 hy with rfl | hy
   ·exact Ab (by omega)
   ·obtain ⟨p,hp,rfl⟩:=Bc.1 hy
    have hq:=AE.1 h p hp
    obtain ⟨-,-,-,-,-,q6,q7⟩:=AL hq
    exact Ab (by omega)
theorem UN (p0:Int) (r:List Int) (C:List (List Int)) (aP aC aM:Option Addr) (cP cC cM nM:Nat) (tb lb lm:Nat) (w0:World) (hG:G w0) (hE:BQ (p0 :: r)=0) (hP:El w0 iv aP (p0 :: r)) (hC:A5 w0 aC C) (hr:Bx (r.length+1) C) (hCl:C.length≤12) (hCf:∀ r,r ∈ C→∀ y,y ∈ r→Bq y=true)
 (hc0:w0.cell? ⟨tb,0,none⟩=some (.slice aP (r.length+1) cP)) (hc1:w0.cell? ⟨tb,1,none⟩=some (.slice aC C.length cC)) (hc2:w0.cell? ⟨tb,2,none⟩=some (.slice aM nM cM)) (hcl:w0.cell? ⟨lb,0,none⟩=some (.int .i64 lm)) (hlm:lm≤1000)
 (hpo:∀ k:Nat,1≤k→k≤lm→FP (p0 :: r) k=true) :
 SeqStopsK Fence.wide 3 Tryz.prog 99 #[.pointer (some ⟨lb,0,none⟩),.pointer (some ⟨tb,0,none⟩)] (fun x:Int=>#[.int .i64 x]) (Below w0.heap.size) (fun xs=>xs=Kj C (p0 :: r) lm) (fun pre=>pre≠[]∧pre <+: Kj C (p0 :: r) lm) 100000 w0:=by
 intro l J Jx W hW hJ hJx hY h0
 have hW:Fr w0 W:=hW
 have h6:=(CV hE).2.1
 rw [Aw] at h6
 have hpat:=hZ (fun (k:Nat) (h1:1≤k) (h2:k≤lm) W' (hW':Fr w0 W')=>JW p0 r aP cP (k:Int) W' (by omega) hE (hpo k h1 h2) (hP.fr hW') (hG.fr hW'))
 have hsup:=hZ (fun (k:Nat) (h1:1≤k) (h2:k≤lm) W' (va:Option Addr) (vc:Nat) (hW':Fr w0 W') (hv:El W' iv va (BM (p0 :: r) (k:Int)))=>Fz C (BM (p0 :: r) (k:Int)) (r.length+1) va aM aP aC vc cM (r.length+1) cP nM cC W' (hG.fr hW') (hC.fr hW') hr hv (by rw [Fg]; rfl) (by omega) (by omega) (Gq (hpo k h1 h2) (by omega)) hCf)
 have hvl:∀ k:Nat,(BM (p0 :: r) (k:Int)).length=r.length+1:=fun k=>by rw [Fg]; rfl
 generalize r.length+1=n at *
 replace hY:=hZ hY
 replace hJ:=hZ hJ
 replace hJx:=hZ hJx
 have hst:Hid (∀ i,Kj C (p0 :: r) (i+1)=if Ei C (BM (p0 :: r) ((i+1:Nat):Int))=true then Kj C (p0 :: r) i ++ [((i+1:Nat):Int)] else Kj C (p0 :: r) i):=fun i=>Ph C (p0 :: r) i
 have hle:Hid (∀ i,(Kj C (p0 :: r) i).length≤i):=fun i=>Wt C (p0 :: r) i
 have hpr:Hid (∀ i j,i≤j→Kj C (p0 :: r) i <+: Kj C (p0 :: r) j):=fun i j h=>RH C (p0 :: r) j i h
 have h0':J (Kj C (p0 :: r) 0) W:=h0
 generalize Kj C (p0 :: r)=T at *
 generalize BM (p0 :: r)=V at *
 replace hvl:=hZ hvl
 replace hW:=hZ hW
 clear hE hpo hP hG hC hr hCf h0
 refine Y0 Tryz.func99 rfl trivial ?_ rfl
 simp only [Tryz.ntmps99,BL,Aw,DC,Nat.reduceAdd,Nat.reduceSub,DK,DJ,EK,D4,Ex,Fm]
 gi_wp2
 gi_loopg [4] lm (fun k s4 wr=>∃ i:Nat,s4=.int .i64 ((i+1:Nat):Int)∧i+k=lm∧J (T i) wr∧Fr w0 wr)
 case atStart=>exact ⟨0,rfl,by omega,h0',hW.out⟩
 case round=>
  obtain ⟨i,rfl,hik,hj,hf⟩:=hrel
  have c0:=hf.keep hc0
  have c1:=hf.keep hc1
  have c2:=hf.keep hc2
  have cl:=hf.keep hcl
  by_cases hi:i < lm
  ·have hd:decide (((i+1:Nat):Int)≤(lm:Int))=true:=Ab (by omega)
   have hpi:=hZ (hpat.out (i+1) (by omega) (by omega) wr hf)
   have hsi:=hZ (hst.out i)
   have hsu2:=hZ (hsup.out (i+1) (by omega) (by omega))
   obtain ⟨wo,rfl⟩:∃ wo:World,wo=wr:=⟨_,rfl⟩
   gi_wp2
   refine ⟨trivial,(CY.2 hpi.out).mono ?_⟩
   rintro e w1 ⟨va,vc,rfl,hel,-,-,hf1⟩
   rw [hvl.out (i+1)]
   have hsu3:=hZ (hsu2.out w1 va vc (hf.trans hf1) hel)
   replace c0:=hf1.keep c0
   replace c1:=hf1.keep c1
   replace c2:=hf1.keep c2
   replace cl:=hf1.keep cl
   clear hel
   cases hb:Ei C (V ((i+1:Nat):Int)) with
   | false=>
     rw [hb] at hsu3 hsi
     rw [Ag (by decide)] at hsi
     gi_wp2
     refine ⟨trivial,(CY.2 hsu3.out).mono ?_⟩
     rintro e w2 ⟨rfl,hf2⟩
     gi_wp2
     try (refine ⟨fun _ h=>(by cases h), ?_⟩; gi_wp2)
     gi_roundg (gk - 1)
     case measure=>omega
     case rel=>exact ⟨i+1,by go_num,by omega,by rw [hsi.out]; exact hJ.out _ _ _ none hj (hf1.trans hf2).grownBy (fun r e=>by cases e),(hf.trans hf1).trans hf2⟩
   | true=>
     rw [hb] at hsu3 hsi
     rw [Ai rfl] at hsi
     gi_wp2
     refine ⟨trivial,(CY.2 hsu3.out).mono ?_⟩
     rintro e w2 ⟨rfl,hf2⟩
     replace c0:=hf2.keep c0
     replace cl:=hf2.keep cl
     have hj2:J (T i) w2:=hJ.out _ _ _ none hj (hf1.trans hf2).grownBy (fun r e=>by cases e)
     obtain ⟨fn,tmps,assign,body,hy,hR⟩:=hY.out (T i) ((i+1:Nat):Int) w2 hj2 (by have:=hle.out i; omega)
     rw [show (((i+1:Nat):Int))=(i:Int)+1 by omega] at hy
     gi_wp2
     refine hR.mono ?_
     rintro e w5 (⟨rfl,hj5,hk5⟩ | ⟨rfl,hjx⟩)
     ·have hf5:Fr w0 w5:=Below.trans ((hf.trans hf1).trans hf2) hk5
      gi_wp2
      gi_roundg (gk - 1)
      case measure=>omega
      case rel=>exact ⟨i+1,by go_num,by omega,by rw [hsi.out]; exact hj5,hf5⟩
     ·gi_wp2
      refine AP (Ia rfl _ _ _) rfl ?_
      exact ⟨⟨_,rfl⟩,.inr ⟨_,⟨by simp,by have:=hpr.out (i+1) lm (by omega); rw [hsi.out] at this; exact this⟩,hjx⟩⟩
  ·obtain rfl:i=lm:=by omega
   have hd:decide (((i+1:Nat):Int)≤(i:Int))=false:=Aa (by omega)
   gi_wp2
   go_end0
   exact ⟨⟨_,rfl⟩,.inl ⟨_,rfl,hj⟩⟩
end Go.Proofs.YtiniigadkknboaaGreatDoor
