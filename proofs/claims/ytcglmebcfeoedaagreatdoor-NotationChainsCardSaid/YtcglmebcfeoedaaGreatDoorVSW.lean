/- Contracts and laws: VSW. -/
import Derived.Test.YtcglmebcfeoedaaGreatDoorVL
import Derived.Test.YtcglmebcfeoedaaGreatDoorVNA

set_option maxRecDepth 100000
set_option maxHeartbeats 16000000
namespace Go.Proofs.YtcglmebcfeoedaaGreatDoor
open Go.RowKit Go.Lib
def Xh (f:Nat→Option (List Int)) (M:Nat):Option (Nat×List Int):=(List.range M).findSome? fun i=>(f i).map fun c=>(i,c)
theorem Oy {f:Nat→Option (List Int)} {M:Nat} (h:∀ i,i < M→f i=none):Xh f M=none:=by
 unfold Xh
 rw [List.findSome?_eq_none_iff]
 intro i hi
 rw [h i (AZ.1 hi)]; rfl
theorem TI {f:Nat→Option (List Int)} {M i:Nat} {cs:List Int} (hi:i < M) (h:∀ j,j < i→f j=none) (hc:f i=some cs):Xh f M=some (i,cs):=by
 unfold Xh
 have e:List.range M=List.range i ++ i :: (List.range (M - i - 1)).map (·+(i+1)):=by
  have h1:M=i+(1+(M - i - 1)):=by omega
  have h2:List.range (i+(1+(M - i - 1)))=List.range i ++ (List.range (1+(M - i - 1))).map (i+·):=List.range_add ..
  rw [h1,h2]
  congr 1
  rw [EG 1,List.range_succ_eq_map,BQ,Da,C9,show i+(M - i - 1+1) - i - 1=M - i - 1 by omega]
  congr 1
  exact Em fun x _=>by show i+(x+1)=x+(i+1); omega
 rw [e,List.findSome?_append]
 have h0:(List.range i).findSome? (fun i=>(f i).map fun c=>(i,c))=none:=Oy h
 rw [h0,List.findSome?_cons,hc]; rfl
def Zo (w:World) (o:Option (Nat×List Int)) (d:Nat) (e:Ending) (w':World):Prop:=match o with
 | none=>e=.returned (.tuple #[.agg #[.int .i64 0,.slice none 0 0],.int .i64 19])∧Fr w w'
 | some (i,cs)=>(cs.all Bi=true→∃ a c,e=.returned (.tuple #[.agg #[.int .i64 (i:Int),.slice a d c],.int .i64 0])∧El w' iv a cs∧cs.length=d∧Fr w w'∧(d=0∨∃ b,a=some b∧w.heap.size≤b.block)) ∧
    (cs.all Bi=false→e=.returned (.tuple #[.agg #[.int .i64 0,.slice none 0 0],.int .i64 4])∧Fr w w')
attribute [local go_sem ↓] AA AB
theorem QK (N A:List Sy) (d M:Nat) (I:List (List Rat)) (f:Nat→Option (List Int)) (r:List Int) (ra aN aA:Option Addr) (rc cN cA:Nat) (w:World) (hG:G w) (hn:DS w aN aA cA N A) (hU:XU (N.map Sy.row) (A.map Sy.row) d I) (hM9:N.length=M) (hr:El w iv ra r) (hrl:r.length=d) (hrf:∀ x,x ∈ r→Bi x=true)
 (hall:∀ (i:Nat) (x:Sy),N[i]?=some x→Lt I (List.zipWith (· - ·) r x.row) d=true∧X7 I d x.row r=f i) (hcs:∀ i cs,i < M→f i=some cs→∀ x,x ∈ cs→-9223372036854775808≤x∧x≤9223372036854775807)
 (hck:∀ W,Fr w W→Calls Tryz.prog 25 #[.agg #[.slice aN M cN,.slice aA d cA]] W fun e w'=>e=.returned (.int .i64 0)∧Fr W w') :
 Calls Tryz.prog 30 #[.agg #[.slice aN M cN,.slice aA d cA],.slice ra d rc] w (Zo w (Xh f M) d):=by
 have hnone:=hZ (Oy (f:=f) (M:=M))
 have hsome:=hZ (fun i cs (hi:i < M) (h:∀ j,j < i→f j=none) (hc:f i=some cs)=>TI hi h hc)
 have hcl9:Hid (∀ i cs,i < M→f i=some cs→cs.length=d):=fun i cs hi h=>by
  rw [← (hall i _ (Ab (by rw [hM9]; exact hi))).2] at h
  unfold X7 E4 at h
  split at h
  ·injection h with h; rw [← h]; exact Nf _ _ _
  ·cases h
 obtain ⟨d1,d6,lenA,n1,n60,rowA,rowN,⟨Fq,hq1,hq2,rfl⟩,rowI,lenI⟩:=hU
 have hgn:=CS hG
 rw [Am] at lenA n1 n60
 have hM:M=N.length:=hM9.symm
 rw [← hM] at n1 n60
 clear hM9
 have hTA:Ge d (A.map Sy.row):=⟨by rw [Am]; omega,by omega,fun r hr=>(rowA r hr).1,fun r hr=>(rowA r hr).2⟩
 have hinv:∀ a c W,Fr w W→BT W a (A.map Sy.row)→Calls Tryz.prog 122 #[.slice a d c] W (Od W (Fq.g.map (List.drop d))):=fun a c W hW hm=>by
  have h:=Iq (A.map Sy.row) a c d Fq W (hG.fr hW) hm hTA d1 (by rw [Am]; exact lenA) hq1 hq2
  rw [Am,lenA] at h
  exact h
 have hst:=hZ (fun (i:Nat) (x:Sy) (hx:N[i]?=some x) (W:World) (hW:Fr w W) (g c g2 c2:Nat) (h1:El W sv (some ⟨g,0,none⟩) x.row) (h2:El W sv (some ⟨g2,0,none⟩) r)=>by
  have rx:=rowN x.row (Ek (Ae hx))
  have hp:=hall i x hx
  unfold X7 at hp
  have h:=Kx aN aA M cN cA d A (Fq.g.map (List.drop d)) x.row r (some ⟨g,0,none⟩) (some ⟨g2,0,none⟩) c c2 W (hG.fr hW) (hn.accs.fr hW) lenA.symm d1 d6 (fun a c W' hW'=>hinv a c W' (hW.trans hW')) rowI lenI h1 h2 rx.1 hrl (fun z hz=>Gz (rx.2 z hz)) (fun z hz=>Gz (hrf z hz)) hp.1
  rw [hp.2] at h
  exact h)
 have hin:=hZ (fun (x:Sy) (hx:x ∈ N) (W:World) (hW:Fr w W)=>by
  have rx:=rowN x.row (Ek hx)
  exact J0 x.row x.ra x.rc d W (hG.fr hW) ((hn.noms.2 x hx).fr hW) rx.1 d1 (by omega) rx.2)
 have hir:=hZ (fun (W:World) (hW:Fr w W)=>J0 r ra rc d W (hG.fr hW) (hr.fr hW) hrl d1 (by omega) hrf)
 have hrow:=hZ (fun (x:Sy) (hx:x ∈ N)=>(rowN x.row (Ek hx)).1)
 have hbk:=hZ (fun (cs:List Int) (hc:∀ x,x ∈ cs→-9223372036854775808≤x∧x≤9223372036854775807) (hl:cs.length=d) (W:World) (hW:Fr w W) (g c:Nat) (h:El W sv (some ⟨g,0,none⟩) cs)=>KB cs (some ⟨g,0,none⟩) c W (hG.fr hW) h (by omega) hc)
 replace hcs:=hZ hcs
 generalize Xh f M=res at *
 have hkr:Hid (∀ W,Fr w W→Calls Tryz.prog 17 #[.slice ra d rc] W fun e w'=>e=.returned (.int .i64 0)∧Fr W w'):=fun W hW=>by
  have h:=Df r ra rc W (hr.fr hW) (by omega)
  rw [Hm (by omega) (CE.2 (fun x hx=>by rw [hrf x hx]; simp)),hrl] at h
  exact h
 have hsy:=hZ hn.noms
 replace hck:=hZ hck
 replace hM:=hZ hM
 generalize Fq.g.map (List.drop d)=I at *
 clear hTA hinv hG hn hall rowA rowN hq1 hq2 rowI lenI lenA hr hrf
 replace hrl:=hZ hrl
 obtain ⟨nb,hnb⟩:∃ nb,nb=w.heap.size:=⟨_,rfl⟩
 obtain ⟨W1,hW1⟩:∃ W1,W1=(w.alloc (.cells #[.slice aN M cN,.slice aA d cA] 31)).alloc (.cells #[.int .i64 0,.slice none 0 0] 50):=⟨_,rfl⟩
 have f1:Fr w W1:=by rw [hW1]; exact ((Fr.refl _).alloc _).alloc _
 have hN1:Br W1 nb (.slice aN M cN) (.slice aA d cA):=by rw [hW1,hnb]; exact (Br.new w _ _ _).fr ((Fr.refl _).alloc _)
 have hS1:Br W1 (nb+1) (.int .i64 0) (.slice none 0 0):=by
  have:=Br.new (w.alloc (.cells #[.slice aN M cN,.slice aA d cA] 31)) (.int .i64 0) (.slice none 0 0) 50
  rw [AK] at this
  rw [hW1,hnb]; exact this
 go_enter Tryz.func30,Tryz.ntmps30
 go_upto_region 1 with (fail)
 rw [← hW1,← hnb]
 clear hW1
 replace hnb:=hZ hnb
 have n0:=hN1.a
 have n1':=hN1.b
 replace hN1:=hZ hN1
 replace hS1:=hZ hS1
 go_wp2_with fail
 refine (hck.out _ f1).mono ?_
 rintro e w2 ⟨rfl,hf2⟩
 replace n0:=hf2.keep n0
 replace n1':=hf2.keep n1'
 have f2:=f1.trans hf2
 go_wp2_with fail
 refine (hkr.out _ f2).mono ?_
 rintro e w3 ⟨rfl,hf3⟩
 replace n0:=hf3.keep n0
 replace n1':=hf3.keep n1'
 have f3:=f2.trans hf3
 have f13:=hf2.trans hf3
 have dd:((d:Int) != (d:Int))=false:=by simp
 go_wp2_with fail
 clear n1'
 go_loopg [36] M (fun k s36 wr=>∃ i:Nat,s36=.int .i64 i∧i+k=M∧Hid (∀ j,j < i→f j=none)∧Fr w3 wr)
 case atStart=>exact ⟨0,rfl,by omega,fun j h=>absurd h (Bs _),Fr.refl _⟩
 case round=>
  clear n0
  obtain ⟨i,rfl,hik,hpre,hf⟩:=hrel
  have hFr:=f3.trans hf
  obtain ⟨wo,rfl⟩:∃ wo:World,wo=wr:=⟨_,rfl⟩
  obtain ⟨ko,rfl⟩:∃ ko:Nat,ko=gk:=⟨_,rfl⟩
  have hlt9:nb+1 < w3.heap.size:=(hS1.out.fr f13).lt
  by_cases hi:i < M
  ·have hdI:decide (i < M)=true:=Ac hi
   obtain ⟨ab,ao,x,rfl,hbl,hxi,hc1,hc2,-⟩:=(hsy.out.fr hFr).at (i:=i) (by rw [← hM.out]; exact hi)
   have hxm:=Ae hxi
   rw [hrow.out x hxm] at hc2
   have z0:(0:Int)≤(i:Int):=Af _
   have z1:(i:Int) < (M:Int):=by omega
   obtain ⟨W6,hW6⟩:∃ W6,W6=wo.alloc (.cells #[.string x.nm,.slice x.ra d x.rc] 46):=⟨_,rfl⟩
   have f6:Fr wo W6:=by rw [hW6]; exact (Fr.refl _).alloc _
   obtain ⟨xb,hxb⟩:∃ xb,xb=wo.heap.size:=⟨_,rfl⟩
   have hX6:Br W6 xb (.string x.nm) (.slice x.ra d x.rc):=by rw [hW6,hxb]; exact Br.new _ _ _ _
   have hi1:=hZ (fun W (hW:Fr W6 W)=>hin.out x hxm W ((hFr.trans f6).trans hW))
   have hi2:=hZ (fun W (hW:Fr W6 W)=>hir.out W ((hFr.trans f6).trans hW))
   have hs1:=hZ (fun W (hW:Fr W6 W) g c g2 c2 h1 h2=>hst.out i x hxi W ((hFr.trans f6).trans hW) g c g2 c2 h1 h2)
   replace hxi:=hZ hxi
   go_upto_region 12 with (fail)
   rw [← hW6,← hxb]
   clear hW6 hc1 hc2
   replace hxb:=hZ hxb
   have m0:=((f13.trans hf).trans f6).keep hN1.out.a
   have m1:=((f13.trans hf).trans f6).keep hN1.out.b
   have m2:=hX6.b
   generalize x.ra=xa at *
   generalize x.rc=xc at *
   replace hX6:=hZ hX6
   have hS0:=hZ (fun W' (hW':Fr W6 W')=>(⟨hW'.keep m0,hW'.keep m1,hW'.keep m2⟩:W'.cell? ⟨nb,0,none⟩=some (.slice (some ⟨ab,ao,none⟩) M cN)∧W'.cell? ⟨nb,1,none⟩=some (.slice aA d cA)∧W'.cell? ⟨xb,1,none⟩=some (.slice xa d xc)))
   have hd8:Fr W6 W6.drew:=(Fr.refl W6).drew
   refine Dm (S:=fun W'=>W'.cell? ⟨nb,0,none⟩=some (.slice (some ⟨ab,ao,none⟩) M cN)∧W'.cell? ⟨nb,1,none⟩=some (.slice aA d cA)∧W'.cell? ⟨xb,1,none⟩=some (.slice xa d xc)) (by kernel_rfl) (hS0.out _ hd8) (fun hHeld=>?_)
   refine hK 0 ?_
   refine hK 1 ?_
   refine hK 2 ?_
   refine hK 4 ?_
   refine hC 3 (fun K hK=>?_)
   go_simp
   (refine (hi1.out _ hd8).mono ?_; rintro e wA ⟨gx,cx,rfl,hex,hfA⟩)
   go_wp2_with fail
   refine hK.out _ _ (hS0.out _ (hd8.trans hfA)) (fun hHeld=>?_)
   clear hK K
   refine hC 5 (fun K hK=>?_)
   go_simp
   (refine (hi2.out _ (hd8.trans hfA)).mono ?_; rintro e wB ⟨gy,cy,rfl,hey,hfB⟩)
   go_wp2_with fail
   refine hK.out _ _ (hS0.out _ ((hd8.trans hfA).trans hfB)) (fun hHeld=>?_)
   clear hK K
   cases hfi:f i with
   | some cs=>
     rw [hfi] at hs1
     have hcl:=hcl9.out i cs hi hfi
     refine hC 6 (fun K hK=>?_)
     go_simp
     (refine (hs1.out _ ((hd8.trans hfA).trans hfB) gx cx gy cy (hex.fr hfB) hey).mono ?_; rintro e wC ⟨vC,rfl,hownC,hfC⟩; rw [hcl] at hownC; obtain ⟨gC,cC,rfl,-⟩:=Ct hownC (by omega))
     go_wp2_with fail
     refine hK.out _ _ (hS0.out _ (((hd8.trans hfA).trans hfB).trans hfC)) (fun hHeld=>?_)
     clear hK K
     refine hK 7 ?_
     refine hK 8 ?_
     refine hK 9 ?_
     refine hK 10 ?_
     refine hK 11 ?_
     refine Fg (by kernel_rfl) ?_ _
     have hf9:Fr W6 wC:=((hd8.trans hfA).trans hfB).trans hfC
     have helC:=(DA (by have:=((hFr.trans f6).trans ((hd8.trans hfA).trans hfB)).size; omega) hownC).1.el
     have hb2:=hbk.out cs (hcs.out i cs hi hfi) hcl _ ((hFr.trans f6).trans hf9) gC cC helC
     rw [hcl] at hb2
     have hres:Hid (res=some (i,cs)):=hsome.out i cs hi hpre.out hfi
     replace hb2:=hZ hb2
     replace hcl:=hZ hcl
     clear hHeld m0 m1 m2 hd8 hownC helC hfi
     have hfz:=((hFr.trans f6).trans hf9).size
     have hsz9:=(hf.trans f6).size
     have hsz8:=hf9.size
     go_wp2_with fail
     refine hb2.out.mono ?_
     rintro e wD ⟨k1,k2⟩
     cases hfit:cs.all Bi with
     | true=>
       obtain ⟨vD,rfl,hownD,-,hfD⟩:=k1 hfit
       rw [hcl.out] at hownD
       obtain ⟨gD,cD,rfl,-⟩:=Ct hownD (by omega)
       have helD:=hZ (Ga hownD)
       have hgD:=(hownD.lt gD rfl).1
       have hS9:=(hS1.out.fr (((f13.trans hf).trans f6).trans (hf9.trans hfD)))
       have hfr9:=((hFr.trans f6).trans hf9).trans hfD
       have hS10:=hZ ((hS9.set0 (.int .i64 i)).set1 (.slice (some ⟨gD,0,none⟩) d cD))
       have hfx10:Hid (Fx (·=nb+1) wD ((wD.setCell ⟨nb+1,0,none⟩ (.int .i64 i)).setCell ⟨nb+1,1,none⟩ (.slice (some ⟨gD,0,none⟩) d cD))):=Fx.setCell (p:=(·=nb+1)) (q:=⟨nb+1,1,none⟩) (Fx.setCell (p:=(·=nb+1)) (q:=⟨nb+1,0,none⟩) (Fx.refl _ wD) (.inl rfl) _) (.inl rfl) _
       have x1:=(hS9.set0 (.int .i64 i)).b
       have x2:=(hS9.set0 (.int .i64 i)).fb
       obtain ⟨a0,a1,e0,e1⟩:=hS9
       replace hfit:=hZ hfit
       clear hownD k1 k2
       go_wp2_with fail
       have q0:=hS10.out.a
       have q1:=hS10.out.b
       refine Ax (v:=.tuple #[.agg #[.int .i64 i,.slice (some ⟨gD,0,none⟩) d cD],.int .i64 0]) (by simp [results,Tryz.results30,go_sem,q0,q1]) rfl ?_
       rw [hres.out]
       exact ⟨fun _=>⟨_,cD,rfl,helD.out.fx hfx10.out (fun e=>by have e:gD=nb+1:=e; omega),hcl.out,((Fx.of_fr hfr9).trans hfx10.out).toFr (fun k hk e=>by have e:k=nb+1:=e; have:=hnb.out; omega),.inr ⟨_,rfl,by show w.heap.size≤gD; omega⟩⟩,fun h=>(by rw [hfit.out] at h; cases h)⟩
     | false=>
       obtain ⟨rfl,hfD⟩:=k2 hfit
       have hS9:=(hS1.out.fr (((f13.trans hf).trans f6).trans (hf9.trans hfD)))
       have hfr9:=((hFr.trans f6).trans hf9).trans hfD
       replace hfit:=hZ hfit
       clear k1 k2
       have hS10:=hZ ((hS9.set0 (.int .i64 0)).set1 (.slice none 0 0))
       have hfx10:Hid (Fx (·=nb+1) wD ((wD.setCell ⟨nb+1,0,none⟩ (.int .i64 0)).setCell ⟨nb+1,1,none⟩ (.slice none 0 0))):=Fx.setCell (p:=(·=nb+1)) (q:=⟨nb+1,1,none⟩) (Fx.setCell (p:=(·=nb+1)) (q:=⟨nb+1,0,none⟩) (Fx.refl _ wD) (.inl rfl) _) (.inl rfl) _
       have x1:=(hS9.set0 (.int .i64 0)).b
       have x2:=(hS9.set0 (.int .i64 0)).fb
       obtain ⟨q4,q5,q6,q7⟩:=hS9
       go_wp2_with fail
       have q0:=hS10.out.a
       have q1:=hS10.out.b
       refine Ax (v:=.tuple #[.agg #[.int .i64 0,.slice none 0 0],.int .i64 4]) (by simp [results,Tryz.results30,go_sem,q0,q1]) rfl ?_
       rw [hres.out]
       exact ⟨fun h=>(by rw [hfit.out] at h; cases h),fun _=>⟨rfl,((Fx.of_fr hfr9).trans hfx10.out).toFr (fun k hk e=>by have e:k=nb+1:=e; have:=hnb.out; omega)⟩⟩
   | none=>
     rw [hfi] at hs1
     have hpre2:Hid (∀ j,j < i+1→f j=none):=fun j hj=>by
      by_cases e:j=i
      ·subst e; exact hfi
      ·exact hpre.out j (by omega)
     clear hfi
     refine hC 6 (fun K hK=>?_)
     go_simp
     (refine (hs1.out _ ((hd8.trans hfA).trans hfB) gx cx gy cy (hex.fr hfB) hey).mono ?_; rintro e wC ⟨rfl,hfC⟩)
     go_wp2_with fail
     refine hK.out _ _ (hS0.out _ (((hd8.trans hfA).trans hfB).trans hfC)) (fun hHeld=>?_)
     clear hK K
     refine hK 7 ?_
     refine hK 8 ?_
     refine hK 9 ?_
     refine hK 10 ?_
     refine hK 11 ?_
     refine Fg (by kernel_rfl) ?_ _
     have hf9:Fr W6 wC:=((hd8.trans hfA).trans hfB).trans hfC
     clear hHeld m0 m1 m2 hd8
     go_wp2_with fail
     go_roundg (ko - 1)
     case measure=>omega
     case rel=>exact ⟨i+1,by go_num,by omega,hpre2,(hf.trans f6).trans hf9⟩
  ·have hdI:decide (i < M)=false:=Aa hi
   have hres:Hid (res=none):=hnone.out fun j hj=>hpre.out j (by omega)
   have hS9:=hS1.out.fr (f13.trans hf)
   have hS10:=hZ ((hS9.set0 (.int .i64 0)).set1 (.slice none 0 0))
   have hfx10:Hid (Fx (·=nb+1) wo ((wo.setCell ⟨nb+1,0,none⟩ (.int .i64 0)).setCell ⟨nb+1,1,none⟩ (.slice none 0 0))):=Fx.setCell (p:=(·=nb+1)) (q:=⟨nb+1,1,none⟩) (Fx.setCell (p:=(·=nb+1)) (q:=⟨nb+1,0,none⟩) (Fx.refl _ wo) (.inl rfl) _) (.inl rfl) _
   have x1:=(hS9.set0 (.int .i64 0)).b
   have x2:=(hS9.set0 (.int .i64 0)).fb
   obtain ⟨q4,q5,q6,q7⟩:=hS9
   go_wp2_with fail
   have q0:=hS10.out.a
   have q1:=hS10.out.b
   refine Ax (v:=.tuple #[.agg #[.int .i64 0,.slice none 0 0],.int .i64 19]) (by simp [results,Tryz.results30,go_sem,q0,q1]) rfl ?_
   rw [hres.out]
   exact ⟨rfl,((Fx.of_fr hFr).trans hfx10.out).toFr (fun k hk e=>by have e:k=nb+1:=e; have:=hnb.out; omega)⟩
end Go.Proofs.YtcglmebcfeoedaaGreatDoor
