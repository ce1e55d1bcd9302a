/- Contracts and laws: GBI. -/
import Derived.Test.YtiniigadkknboaaGreatDoorGBC
import Derived.RangeFuncFrom
import Derived.RangeFuncBox
import Derived.Maps.AppendAt
import Derived.Maps.OwnIn
import Derived.Sort.LoopGhostIn
import Derived.OwnWalkIn

set_option maxRecDepth 100000
set_option maxHeartbeats 2000000
namespace Go.Proofs.YtiniigadkknboaaGreatDoor
open Go.RowKit Go.Lib
attribute [local go_sem ↓] Go.wp_at_zero Go.wp_at_succ
attribute [local go_sem] Md
theorem MB {x:List Int} (h:CA x=0):∀ y,y ∈ x→Bq y=true:=by
 unfold CA at h
 split at h
 ·exact absurd h (by decide)
 ·split at h
  ·exact absurd h (by decide)
  ·rename_i h2
   intro y hy
   have h3:=CO.1 (by simpa using h2:x.any (fun n=>!Bq n)=false) y hy
   simpa using h3
theorem WA (a b:List Int) (aa ba:Option Addr) (ac bc:Nat) (w:World) (ha:El w iv aa a) (hb:El w iv ba b) (hra:CA a=0) (hrb:CA b=0) (hl:b.length=a.length) (hl6:a.length≤64) :
 Calls Tryz.prog 59 #[.slice aa a.length ac,.slice ba a.length bc] w fun e w'=>e=.returned (.int .i64 0)∧Fr w w':=by
 have h1:=hZ (fun W (hW:Fr w W)=>D2 a aa ac W (ha.fr hW) (by omega))
 have h2:=hZ (fun W (hW:Fr w W)=>D2 b ba bc W (hb.fr hW) (by omega))
 rw [hra] at h1
 rw [hrb,hl] at h2
 generalize a.length=n at *
 have q:((n:Int) != (n:Int))=false:=by simp
 clear ha hb hra hrb hl
 go_enter Tryz.func59,Tryz.ntmps59
 go_wp2_with fail
 refine (h1.out _ (Fr.refl _)).mono ?_
 rintro e w1 ⟨rfl,hf1⟩
 go_wp2_with fail
 refine (h2.out _ hf1).mono ?_
 rintro e w2 ⟨rfl,hf2⟩
 go_wp2_with fail
 go_ret
 exact ⟨rfl,hf1.trans hf2⟩
def Xm (w:World) (s:List Int) (a:Option Addr) (c:Nat) (e:Ending) (w':World):Prop:=Fr w w'∧(CA s=0→e=.returned (.tuple #[.slice a s.length c,.int .i64 0]))∧(CA s≠0→e=.returned (.tuple #[.slice none 0 0,.int .i64 (CA s)]))
theorem Qd (s:List Int) (a:Option Addr) (c:Nat) (w:World) (hs:El w iv a s) (hl:s.length≤1000000) :
 Calls Tryz.prog 61 #[.slice a s.length c] w (Xm w s a c):=by
 have h1:=hZ (D2 s a c w hs (by omega))
 unfold Xm
 generalize CA s=E at *
 generalize s.length=n at *
 clear hs
 by_cases e0:E=0
 ·subst e0
  go_enter Tryz.func61,Tryz.ntmps61
  go_wp2_with fail
  refine h1.out.mono ?_
  rintro e w1 ⟨rfl,hf1⟩
  go_wp2_with fail
  go_ret2
  exact ⟨hf1,fun _=>rfl,fun h=>absurd rfl h⟩
 ·have q0:(E != 0)=true:=Bs.2 e0
  have e9:=hZ e0
  clear e0
  go_enter Tryz.func61,Tryz.ntmps61
  go_wp2_with fail
  refine h1.out.mono ?_
  rintro e w1 ⟨rfl,hf1⟩
  go_wp2_with fail
  go_ret2
  exact ⟨hf1,fun h=>absurd h e9.out,fun _=>rfl⟩
theorem Ss (Kp:World→World→Prop) (hKt:∀ (A B C:World),Kp A B→Kp B C→Kp A C) (L:List (Int×Int)) (aa ba:Option Addr) (ac bc p1 p2:Nat) (w0:World) (hA:∀ W,Kp w0 W→El W iv aa (L.map Prod.fst)) (hB:∀ W,Kp w0 W→El W iv ba (L.map Prod.snd)) (c1:∀ W,Kp w0 W→W.cell? ⟨p1,0,none⟩=some (.slice aa L.length ac)) (c2:∀ W,Kp w0 W→W.cell? ⟨p2,0,none⟩=some (.slice ba L.length bc)) (hKf:∀ W,Fr w0 W→Kp w0 W) (hl:L.length≤1000) :
 SeqStopsK Fence.wide 3 Tryz.prog 97 #[.pointer (some ⟨p1,0,none⟩),.pointer (some ⟨p2,0,none⟩)] (fun x:Int×Int=>#[.int .i64 x.1,.int .i64 x.2]) Kp (fun xs=>xs=L) (fun _=>True) 100000 w0:=by
 intro l J Jx W hW hJ hJx hY h0
 replace hW:=hKf W hW
 clear hKf
 replace hY:=hZ hY
 replace hJ:=hZ hJ
 obtain ⟨n,hn⟩:∃ n,n=L.length:=⟨_,rfl⟩
 rw [← hn] at c1 c2 hl
 replace hn:=hZ hn
 have e1:=c1 W hW
 replace c1:=hZ c1
 replace c2:=hZ c2
 replace hW:=hZ hW
 replace hA:=hZ hA
 replace hB:=hZ hB
 replace hKt:=hZ hKt
 refine Y0 Tryz.func97 rfl trivial ?_ rfl
 simp only [Tryz.ntmps97,BL,Aw,DC,Nat.reduceAdd,Nat.reduceSub,DK,DJ,EK,D4,Ex,Fm]
 gi_wp2
 gi_loopg [8] n (fun k s8 wr=>∃ i:Nat,s8=.int .i64 i∧i+k=n∧J (L.take i) wr∧Hid (Kp w0 wr))
 case atStart=>exact ⟨0,rfl,by omega,h0,hW.out⟩
 case round=>
  obtain ⟨i,rfl,hik,hj,hf⟩:=hrel
  have ca:=c1.out _ hf.out
  have cb:=c2.out _ hf.out
  by_cases hi:i < n
  ·have hd:decide (i < n)=true:=Ab hi
   have hd2:decide ((i:Int) < (n:Int))=true:=Ab (by omega)
   have hiL:i < L.length:=by rw [← hn.out]; exact hi
   obtain ⟨b1,o1,x1,hae,-,hx1,cx1⟩:=(hA.out _ hf.out).at (i:=i) (by rw [An]; exact hiL)
   obtain ⟨b2,o2,x2,hbe,-,hx2,cx2⟩:=(hB.out _ hf.out).at (i:=i) (by rw [An]; exact hiL)
   have hxl:L[i]?=some (x1,x2):=by
    rw [At,Ac hiL] at hx1 hx2
    injection hx1 with hx1
    injection hx2 with hx2
    rw [Ac hiL,← hx1,← hx2]
   have hsn:=hZ (BN hxl)
   obtain ⟨fn,tmps,assign,body,hy,hR⟩:=hY.out (L.take i) (x1,x2) wr hj (by rw [Av]; omega)
   simp only at hy
   subst hae
   subst hbe
   have z1:(i:Int) < (n:Int):=by omega
   have z2:(0:Int)≤(i:Int):=by omega
   clear hx1 hx2 hxl hiL
   gi_wp2
   refine hR.mono ?_
   rintro e w5 (⟨rfl,hj5,hk5⟩ | ⟨rfl,hjx⟩)
   ·have hf5:Hid (Kp w0 w5):=hZ (hKt.out _ _ _ hf.out hk5)
    gi_wp2
    gi_roundg (gk - 1)
    case measure=>omega
    case rel=>exact ⟨i+1,by go_num,by omega,by rw [hsn.out]; exact hj5,hf5⟩
   ·gi_wp2
    refine AP (Ia rfl _ _ _) rfl ?_
    exact ⟨⟨_,rfl⟩,.inr ⟨_,trivial,hjx⟩⟩
  ·obtain rfl:i=n:=by omega
   have hd:decide (i < i)=false:=Aa hi
   have hd2:decide ((i:Int) < (i:Int))=false:=Aa (by omega)
   rw [Ao (by rw [← hn.out]; exact Ah _)] at hj
   gi_wp2
   go_end0
   exact ⟨⟨_,rfl⟩,.inl ⟨L,rfl,hj⟩⟩
theorem Qj (x y:Value) (w:World) (hx:∃ a n c,x=.slice a n c) (hy:∃ a n c,y=.slice a n c) :
 Calls Tryz.prog 60 #[x,y] w fun e w'=>e=.returned (.func (.func 97) #[] #[.pointer (some ⟨w.heap.size,0,none⟩),.pointer (some ⟨w.heap.size+1,0,none⟩)])∧w'=(w.alloc (.cells #[x] 33)).alloc (.cells #[y] 33):=by
 obtain ⟨a,n,c,rfl⟩:=hx
 obtain ⟨b,m,d,rfl⟩:=hy
 go_enter Tryz.func60,Tryz.ntmps60
 go_wp2_with fail
 go_ret
 exact ⟨rfl,rfl⟩
def LO (L:List (Int×Int)):List Int:=L.map fun x=>x.1+x.2
def Xt (w:World) (s:List Int) (e:Ending) (w':World):Prop:=Fr w w'∧(CA s=0→∃ g c,e=.returned (.tuple #[.slice (some ⟨g,0,none⟩) s.length c,.int .i64 0])∧w'.ownsRow w.heap.size 3 1 (.slice (some ⟨g,0,none⟩) s.length c) s.length (s.map iv))∧(CA s≠0→e=.returned (.tuple #[.slice none 0 0,.int .i64 (CA s)]))
def Zm (lo hi top:Nat) (A B:World):Prop:=Fx (fun k=>lo≤k∧k < hi∨top≤k) A B
theorem X7 (L:List (Int×Int)) (aa ba:Option Addr) (ac bc:Nat) (w:World) (hG:G w) (ha:El w iv aa (L.map Prod.fst)) (hb:El w iv ba (L.map Prod.snd)) (hra:CA (L.map Prod.fst)=0) (hrb:CA (L.map Prod.snd)=0) (h1:1≤L.length) (hl:L.length≤64) :
 Calls Tryz.prog 26 #[.slice aa L.length ac,.slice ba L.length bc] w (Xt w (LO L)):=by
 obtain ⟨i0,hi,hz0,hz1,hz2⟩:=AZ C6
 have hbo:=WA (L.map Prod.fst) (L.map Prod.snd) aa ba ac bc w ha hb hra hrb (by rw [An,An]) (by rw [An]; exact hl)
 rw [An] at hbo
 have hfit:∀ x,x ∈ L→-1000000000≤x.1∧x.1≤1000000000∧-1000000000≤x.2∧x.2≤1000000000:=fun x hx=>by
  have h1:=MB hra x.1 (Bc.2 ⟨x,hx,rfl⟩)
  have h2:=MB hrb x.2 (Bc.2 ⟨x,hx,rfl⟩)
  unfold Bq at h1 h2
  have h1:=AL h1
  have h2:=AL h2
  omega
 have hrs:=hZ (fun (W:World) (a:Option Addr) (c:Nat) (h:El W iv a (LO L))=>Qd (LO L) a c W h (by unfold LO; rw [An]; omega))
 have hal:(LO L).length=L.length:=by unfold LO; rw [An]
 have hpm:=hZ (fun W=>Qj (.slice aa L.length ac) (.slice ba L.length bc) W ⟨_,_,_,rfl⟩ ⟨_,_,_,rfl⟩)
 have hea:=hZ (fun (Z:World) (hw:Fr w Z) (lo hi top:Nat) (hlo:w.heap.size≤lo) (htop:w.heap.size≤top) (W:World) (hW:Zm lo hi top Z W)=>El.fxp (ha.fr hw) hW (fun ad e=>by
  rcases ha with h | ⟨b,o,h,hb,-⟩
  ·rw [H5] at h; rw [h] at h1; simp at h1
  ·rw [h] at e; injection e with e; subst e; simp only; omega))
 have heb:=hZ (fun (Z:World) (hw:Fr w Z) (lo hi top:Nat) (hlo:w.heap.size≤lo) (htop:w.heap.size≤top) (W:World) (hW:Zm lo hi top Z W)=>El.fxp (hb.fr hw) hW (fun ad e=>by
  rcases hb with h | ⟨b,o,h,hb,-⟩
  ·rw [H5] at h; rw [h] at h1; simp at h1
  ·rw [h] at e; injection e with e; subst e; simp only; omega))
 have hps:=hZ (fun (Kp:World→World→Prop) (hKt:∀ (A B C:World),Kp A B→Kp B C→Kp A C) (p1 p2:Nat) (W:World)=>Ss Kp hKt L aa ba ac bc p1 p2 W)
 obtain ⟨n,hn⟩:∃ n,n=L.length:=⟨_,rfl⟩
 rw [← hn] at hl hbo hps hpm hal h1 ⊢
 replace hn:=hZ hn
 replace hbo:=hZ hbo
 replace hal:=hZ hal
 replace hfit:=hZ hfit
 clear ha hb hra hrb
 refine (CY (n:=4)).1 ?_
 refine callsIn_of_wp_marks Tryz.func26 rfl trivial ?_ rfl
 simp only [Tryz.ntmps26,BL,Aw,DC,Nat.reduceAdd,Nat.reduceSub,DK,DJ,EK,D4,Ex,Fm]
 gi_wp2
 refine ⟨trivial,(CY.2 hbo.out).mono ?_⟩
 rintro e w1 ⟨rfl,hf1⟩
 gi_wp2_with (gi_at_make; refine wpListIn_make_own _ rfl _ _ 33 rfl w1.heap.size 3 i0 _ 1 Tryz.underlying33 hi hz0 hz1 _ _ _ n (by rfl) (by rfl) (by first | rfl | omega) (by rw [hz2]; omega) (by unfold maxLen; omega) (Ah _) ?_; intro w2 hown2 hgr2)
 have hf2:Fr w1 w2:=(Fr.refl _).grown hgr2 (fun k e=>by cases e)
 have hs2:w1.heap.size≤w2.heap.size:=hf2.size
 obtain ⟨w3,hw3⟩:∃ w3,w3=w2.alloc (.cells #[.slice (some ⟨w1.heap.size,0,none⟩) 0 n] 33):=⟨_,rfl⟩
 have hbx3:Boxed w3 w2.heap.size 33 (.slice (some ⟨w1.heap.size,0,none⟩) 0 n):=by rw [hw3]; exact Boxed.new _ _ _
 have hz3:w3.heap.size=w2.heap.size+1:=by rw [hw3,AF]
 have hown3:w3.ownsRow w1.heap.size 3 1 (.slice (some ⟨w1.heap.size,0,none⟩) 0 n) 0 []:=by rw [hw3]; exact hown2.alloc _
 have hf3:Fr w1 w3:=by rw [hw3]; exact hf2.alloc _
 rw [← hw3]
 refine ⟨trivial,(CY.2 (hpm.out w3)).mono ?_⟩
 rintro e w4 ⟨rfl,hw4⟩
 have hz4:w4.heap.size=w3.heap.size+2:=by rw [hw4,AF,AF]
 have c1:w4.cell? ⟨w2.heap.size+1,0,none⟩=some (.slice aa n ac):=by rw [← hz3,hw4]; exact ((Fr.refl _).alloc _).keep (Dt _ _ _)
 have c2:w4.cell? ⟨w2.heap.size+1+1,0,none⟩=some (.slice ba n bc):=by rw [← hz3,hw4]; have:=Dt (w3.alloc (.cells #[.slice aa n ac] 33)) (.slice ba n bc) 33; rw [AF] at this; exact this
 have hbx4:Boxed w4 w2.heap.size 33 (.slice (some ⟨w1.heap.size,0,none⟩) 0 n):=by rw [hw4]; exact (hbx3.alloc _).alloc _
 have hown4:w4.ownsRow w1.heap.size 3 1 (.slice (some ⟨w1.heap.size,0,none⟩) 0 n) 0 []:=by rw [hw4]; exact (hown3.alloc _).alloc _
 have hf4:Fr w1 w4:=by rw [hw4]; exact (hf3.alloc _).alloc _
 have hw14:=hf1.trans hf4
 have hs1:=hf1.size
 have hsq:=hps.out (Zm w1.heap.size w3.heap.size w4.heap.size) (fun A B C h k=>h.trans k) (w2.heap.size+1) (w2.heap.size+1+1) w4 (hea.out w4 hw14 _ _ _ hs1 (by omega)) (heb.out w4 hw14 _ _ _ hs1 (by omega)) (fun W hW=>hW.keep c1 (by simp only; omega)) (fun W hW=>hW.keep c2 (by simp only; omega)) (fun W h=>Fx.of_fr h) (by omega)
 clear hps hea heb hbx3 hown3 hw4 hw3
 gi_wp2
 refine wpIn_rangeFunc_ownF (n:=4) rfl (by omega) (gf:=97) (lb:=#[.pointer (some ⟨w2.heap.size+1,0,none⟩),.pointer (some ⟨w2.heap.size+1+1,0,none⟩)]) rfl trivial (Ey Tryz.func97 (by kernel_rfl) rfl) hsq (fun h k=>h.trans k) (fun W l o o' hl _ _ _=>(Fx.putObj W l o').mono (fun k e=>.inr (by have e:k=l:=e; omega))) (Fr.refl _) (fun _=>rfl)
  (fun pre W=>(∃ v,Boxed W w2.heap.size 33 v∧W.ownsRow w1.heap.size 3 1 v pre.length (pre.map fun x=>iv (wrap64 (x.1+x.2)))∧∀ g,v.ownBlock=some g→g < w3.heap.size∨w4.heap.size≤g)∧Below w1.heap.size w4 W)
  (fun _ _ _=>False)
  (OwnFrom.and (Own.from (holdsRow_own w1.heap.size w2.heap.size 33 3 1 (fun pre:List (Int×Int)=>pre.length) (fun pre=>pre.map fun x=>iv (wrap64 (x.1+x.2))) (fun _ v=>∀ g,v.ownBlock=some g→g < w3.heap.size∨w4.heap.size≤g)) _) (ownFrom_below (by omega) (by omega)))
  (fun _ _ _ _ _ h _ _=>h)
  ⟨⟨_,hbx4,hown4,fun g e=>.inl (by injection e with e; have e:w1.heap.size=g:=e; omega)⟩,Below.refl _ _⟩
  (fun x=>{ tmps:=#[.slice aa n ac,.slice ba n bc,undef,undef,.slice none 0 0,.int .i64 0,.int .i64 0,.pointer (some ⟨w2.heap.size,0,none⟩),.int .i64 x.1,.int .i64 x.2,.slice aa n ac,.slice ba n bc,.int .i64 0,.int .i64 0,.bool false,undef,.slice aa n ac,.int .i64 n,.slice (some ⟨w1.heap.size,0,none⟩) 0 n,.slice aa n ac,.slice ba n bc,.func (.func 97) #[] #[.pointer (some ⟨w2.heap.size+1,0,none⟩),.pointer (some ⟨w2.heap.size+1+1,0,none⟩)],.int .i64 x.1,.int .i64 x.2,undef,undef,undef,undef,undef,undef,undef,undef,undef,undef],defers:=[] }) ?assign ?body ?done ?stop
 case assign=>
  intro l x W K hK
  gi_wp2
  exact hK
 case body=>
  rintro l pre ⟨x,y⟩ W ⟨⟨v,hv,hown,hgb⟩,hB⟩ hlen
  have hv1:=hv.cell
  have hzB:=hB.size
  gi_wp2_with (gi_at_builtin; refine wpListIn_append_own_at _ rfl _ _ 33 rfl w1.heap.size 3 i0 _ 1 8 Tryz.underlying33 hi hz0 hz1 hz2 rfl (by decide) _ _ _ rfl (hown.alloc _) ⟨W.heap.size,0,none⟩ 1 1 [.int .i64 (wrap64 (x+y))] rfl rfl (Tf _ _ _) (by simp [Value.oneCell']) (by unfold maxLen; omega) (by omega) (by rw [AF]; omega) ?_; intro v' w9 hown' hgrow _ hat; obtain ⟨g',cap',rfl⟩:=ownsRow_succ hown'; obtain ⟨hq1,hq2,hq3,hk2,hb2⟩:=hv.appended (by decide) hown (by have:=hf4.size; omega) (by omega) hown' hgrow; have hc1:=hq1.cell; have hf1:=hq1.frozen)
  have hgv:∀ g,v.ownBlock=some g→w1.heap.size≤g:=fun g e=>by
   rcases hown.2 with ⟨rfl,-⟩ | ⟨g9,_,_,rfl,hb9,-⟩
   ·cases e
   ·injection e with e; have e:g9=g:=e; omega
  have hfx:Fx (fun k=>w1.heap.size≤k∧k < w3.heap.size∨w4.heap.size≤k) W w9:=((Fx.of_fr ((Fr.refl W).alloc _)).trans ((Fx.of_grown hgrow).mono (fun k e=>(hgb k e).imp (fun h=>⟨hgv k e,h⟩) (fun h=>h))))
  refine ⟨hk2,hfx.setCell (q:=⟨w2.heap.size,0,none⟩) (.inl (.inl ⟨by simp only; omega,by simp only; omega⟩)) _,⟨_,hq2,by rw [Ar,Ay]; exact hq3,fun g e=>?_⟩,Below.trans hB hb2⟩
  rcases hat with h9 | h9
  ·exact hgb g (h9.symm.trans e)
  ·right
   have e2:=h9.symm.trans e
   injection e2 with e2
   rw [AF] at e2
   omega
 case done=>
  rintro D ys W hD hys ⟨⟨v,hv,hown,-⟩,hB⟩ hK
  subst hys
  rw [show (ys.map fun x=>iv (wrap64 (x.1+x.2)))=(LO ys).map iv by
   unfold LO
   rw [Zq]
   exact List.map_congr_left fun x hx=>by
    have:=hfit.out x hx
    show iv (wrap64 (x.1+x.2))=iv (x.1+x.2)
    rw [show wrap64 (x.1+x.2)=x.1+x.2 by unfold wrap64; omega]] at hown
  have hle9:=hal.out
  rw [hn.out] at hle9
  rw [← hle9] at hown
  obtain ⟨g,c,rfl⟩:=C5 hown (by rw [hal.out]; exact h1)
  have hgn:=GB hG
  have hel:=(DV (As hgn hs1) hown).1.el
  have hrs9:=hZ (hrs.out W (some ⟨g,0,none⟩) c hel)
  have hv1:=hv.cell
  have hwW:Fr w W:=Below.trans hw14 (hB.mono hs1)
  have hDW:D < W.heap.size:=(A8.1 hK).1
  clear hrs hpm hsq hfit hel
  replace hown:=hZ hown
  replace hK:=hZ hK
  replace hB:=hZ hB
  replace hwW:=hZ hwW
  replace hw14:=hZ hw14
  replace hal:=hZ hal.out
  replace hle9:=hZ hle9
  gi_wp2
  refine ⟨trivial,(CY.2 hrs9.out).mono ?_⟩
  rintro e w9 ⟨hf9,hok,hno⟩
  have hK9:w9.heap[D]?=some (.deferred (some [])):=by rw [(Fx.of_fr (p:=fun _=>False) hf9).block D hDW (fun h=>h)]; exact hK.out
  have hown2:=Cw (ownsRow_putObj (Bg hown.out hf9) (.deferred none) hK9 rfl) hs1
  have hend:Fr w (w9.putObj D (.deferred none)):=((Fx.of_fr (hwW.out.trans hf9)).trans (Fx.putObj w9 D (.deferred none))).toFr (fun k hk e=>by have e:k=D:=e; have:=hw14.out.size; omega)
  replace hown2:=hZ hown2
  replace hend:=hZ hend
  by_cases e0:CA (LO ys)=0
  ·obtain rfl:=hok e0
   clear hok hno
   replace e0:=hZ e0
   gi_wp2
   refine ⟨by simp,.inl ⟨_,_,rfl,run_takeDeferred hK9, ?_⟩⟩
   exact ⟨_,results_tmp2 rfl _ _ _,hend.out,fun _=>⟨g,c,rfl,hown2.out⟩,fun h=>absurd e0.out h⟩
  ·obtain rfl:=hno e0
   clear hok hno
   have e9:=hZ e0
   clear e0
   gi_wp2
   refine ⟨by simp,.inl ⟨_,_,rfl,run_takeDeferred hK9, ?_⟩⟩
   exact ⟨_,results_tmp2 rfl _ _ _,hend.out,fun h=>absurd h e9.out,fun _=>rfl⟩
 case stop=>
  rintro D c pre W hD _ h
  exact h.elim
end Go.Proofs.YtiniigadkknboaaGreatDoor
