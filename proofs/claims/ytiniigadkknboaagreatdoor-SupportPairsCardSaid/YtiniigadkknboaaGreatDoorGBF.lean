/- Contracts and laws: GBF. -/
import Derived.Test.YtiniigadkknboaaGreatDoorGBE
import Derived.Test.YtiniigadkknboaaGreatDoorGAI
import Derived.Test.YtiniigadkknboaaGreatDoorGAZ
import Derived.Test.YtiniigadkknboaaGreatDoorGAG
import Derived.Test.YtiniigadkknboaaGreatDoorGAC
import Derived.Deep.CutRange
import Derived.Deep.CutBlock

set_option maxRecDepth 100000
set_option maxHeartbeats 800000
namespace Go.Proofs.YtiniigadkknboaaGreatDoor
open Go.RowKit Go.Lib
attribute [local go_sem ↓] Go.wp_at_zero Go.wp_at_succ
theorem M8:∀ (F F':Nat) (g:List (List Int)) (c t:Nat) (r:List (List Int)×Nat),F≤F'→E3 F g c t=some r→E3 F' g c t=some r
 | 0,_,_,_,_,_,_,h=>by simp [E3] at h
 | F+1,0,_,_,_,_,hle,_=>absurd hle (by omega)
 | F+1,F'+1,g,c,t,r,hle,h=>by
   rw [E3] at h ⊢
   by_cases h1:HJ g c=true
   ·rw [Ai h1] at h ⊢
    cases hp:Cm g c t (g.length - t) with
    | none=>rw [hp] at h; exact h
    | some k=>
      rw [hp] at h
      simp only at h ⊢
      obtain ⟨g2,h2,h3⟩:=AY.1 h
      rw [h2,CG]
      by_cases hr:EB (DT g t k) c t (t+1) (g.length - (t+1))=true
      ·rw [Ai hr] at h3 ⊢; exact M8 F F' g2 c t r (by omega) h3
      ·rw [Ag hr] at h3 ⊢; exact h3
   ·rw [Ag h1] at h; cases h
theorem G6 (F F':Nat) (hF:F≤F'):∀ (n c:Nat) (g:List (List Int)) (t:Nat) (r:List (List Int)×Nat),CF F n c g t=some r→CF F' n c g t=some r
 | 0,_,_,_,_,h=>h
 | n+1,c,g,t,r,h=>by
   rw [CF] at h ⊢
   by_cases ht:t < g.length
   ·rw [Ai ht] at h ⊢
    obtain ⟨q,h1,h2⟩:=AY.1 h
    rw [M8 F F' g c t q hF h1,CG]
    exact G6 F F' hF n (c+1) q.1 q.2 r h2
   ·rw [Ag ht] at h ⊢; exact h
theorem Iw {F F' n:Nat} {m K:List (List Int)} (hF:F≤F') (h:Dc F n m=some K):Dc F' n m=some K:=by
 obtain ⟨gW,tW,gK,tK,h1,h2,h3⟩:=Lo h
 unfold Dc
 rw [G6 F F' hF _ _ _ _ _ h1,CG,G6 F F' hF _ _ _ _ _ h2,Mc,h3]
theorem R1:1000000000≤FX:=by have:=Df; have:=Xn; unfold FX; omega
theorem FH {n:Nat} {m K:List (List Int)} (h:Dc 1000 n m=some K):Dj n m=K:=by
 unfold Dj
 rw [Iw (As (by decide) R1) h]; rfl
theorem MK {n:Nat} {m K:List (List Int)} (h:(CF 1000 n 0 m 0).map (fun r=>r.1.take r.2)=some K):H7 n m=K:=by
 obtain ⟨r,h1,h2⟩:=BO.1 h
 unfold H7
 rw [G6 1000 FX (As (by decide) R1) _ _ _ _ _ h1,Mc,BB]
 exact h2
def Kq (a:Int):Prop:=a < 1∨100000 < a
instance (a:Int):Decidable (Kq a):=by unfold Kq; infer_instance
def Wu (P:List Int) (a b:Int):Int:=if Kq a∨Kq b then 3 else Rz P (BM P a) (BM P b)
theorem Im (p0:Int) (r:List Int) (aP:Option Addr) (cP:Nat) (a b:Int) (w:World) (hG:G w) (hE:LW w) (hp:BQ (p0 :: r)=0) (hP4:r.length+1≤4) (hP:El w iv aP (p0 :: r)) (ha:Kq a∨(1≤a∧a≤50000)∧FP (p0 :: r) a=true) (hb:Kq b∨(1≤b∧b≤50000)∧FP (p0 :: r) b=true) :
 Calls Tryz.prog 13 #[.slice aP (r.length+1) cP,.int .i64 a,.int .i64 b] w (PC w (Wu (p0 :: r) a b) (p0 :: r) (jA (p0 :: r) (BM (p0 :: r) a) (BM (p0 :: r) b)) (jS (p0 :: r) (BM (p0 :: r) a) (BM (p0 :: r) b))):=by
 have hT:=C3.new w (.slice none 0 0) (.slice none 0 0) (.slice none 0 0) 29
 obtain ⟨wb,hwb⟩:∃ wb,wb=w.alloc (.cells #[.slice none 0 0,.slice none 0 0,.slice none 0 0] 29):=⟨_,rfl⟩
 have hfb:Fr w wb:=by rw [hwb]; exact (Fr.refl _).alloc _
 have hszb:Hid (wb.heap.size=w.heap.size+1):=by show _=_; rw [hwb]; simp
 rw [← hwb] at hT
 have hpc:=hZ (E5 (p0 :: r) aP cP wb (hP.fr hfb) (by rw [Aw]; omega))
 rw [hp,Aw] at hpc
 have hpg:=hZ (fun (s:Int) (h:(1≤s∧s≤50000)∧FP (p0 :: r) s=true) W (hW:Fr w W)=>JW p0 r aP cP s W h.1 hp h.2 (hP.fr hW) (hG.fr hW))
 have hpb:=hZ (fun (s:Int) (h:Kq s) W (hW:Fr w W)=>S2 (p0 :: r) aP cP s W hp h (hP.fr hW) (by rw [Aw]; omega))
 rw [Aw] at hpb
 have hvl:∀ s,(BM (p0 :: r) s).length=r.length+1:=fun s=>by rw [Fg]; rfl
 have hjn:Hid ((1≤a∧a≤50000)∧FP (p0 :: r) a=true→(1≤b∧b≤50000)∧FP (p0 :: r) b=true→∀ (W:World) (va ua:Option Addr) (vc uc:Nat),Fr w W→El W iv va (BM (p0 :: r) a)→El W iv ua (BM (p0 :: r) b)→Calls Tryz.prog 45 #[.slice aP (r.length+1) cP,.slice va (r.length+1) vc,.slice ua (r.length+1) uc] W (PC W (Rz (p0 :: r) (BM (p0 :: r) a) (BM (p0 :: r) b)) (p0 :: r) (jA (p0 :: r) (BM (p0 :: r) a) (BM (p0 :: r) b)) (jS (p0 :: r) (BM (p0 :: r) a) (BM (p0 :: r) b)))):=fun h1 h2 W va ua vc uc hW hv hu=>
  Sg (p0 :: r) (BM (p0 :: r) a) (BM (p0 :: r) b) aP va ua cP vc uc W (hG.fr hW) (hE.fr hW) hp hP4 (hP.fr hW) hv hu (hvl a) (hvl b) (Gq h1.2 (by omega)) (Gq h2.2 (by omega))
 have hde:Wu (p0 :: r) a b=if Kq a∨Kq b then 3 else Rz (p0 :: r) (BM (p0 :: r) a) (BM (p0 :: r) b):=rfl
 generalize Wu (p0 :: r) a b=DE at *
 unfold PC at hjn
 rw [Aw] at hjn
 generalize Rz (p0 :: r) (BM (p0 :: r) a) (BM (p0 :: r) b)=JE at *
 generalize jA (p0 :: r) (BM (p0 :: r) a) (BM (p0 :: r) b)=A at *
 generalize jS (p0 :: r) (BM (p0 :: r) a) (BM (p0 :: r) b)=S at *
 obtain ⟨n,hn⟩:∃ n,n=r.length+1:=⟨_,rfl⟩
 rw [← hn] at hpc hpg hpb hvl hjn ⊢
 replace hn:=hZ hn
 replace hT:=hZ hT
 replace hvl:=hZ hvl
 replace hde:=hZ hde
 clear hG hE hp hP
 have hz0:=hszb.out
 go_enter Tryz.func13,Tryz.ntmps13
 go_upto_region 1 with (fail)
 rw [← hwb]
 clear hwb
 obtain ⟨rb,hrb⟩:∃ rb,rb=w.heap.size:=⟨_,rfl⟩
 rw [← hrb] at hT ⊢
 replace hrb:=hZ hrb
 go_wp2_with fail
 refine hpc.out.mono ?_
 rintro e w1 ⟨rfl,hf1⟩
 have hT1:=hT.out.fr hf1
 have hfw1:=hfb.trans hf1
 by_cases hba:Kq a
 ·have h9:=hZ (hpb.out a hba w1 hfw1)
  obtain rfl:DE=3:=by rw [hde.out,Ai (.inl hba)]
  clear ha hb
  replace hba:=hZ hba
  go_wp2_with fail
  refine h9.out.mono ?_
  rintro e w2 ⟨rfl,hf2⟩
  have hT2:=hT1.fr hf2
  have hfw2:=hfw1.trans hf2
  have q0:=hT2.a
  have q1:=hT2.fa
  have q2:=hT2.b
  have q3:=hT2.fb
  have q4:=hT2.c
  have q5:=hT2.fc
  have hU:=hT2.set0 (.slice none 0 0)
  have p0:=hU.b
  have p1:=hU.fb
  have hU1:=hU.set1 (.slice none 0 0)
  have p2:=hU1.c
  have p3:=hU1.fc
  have hU2:=hU1.set2 (.slice none 0 0)
  have y0:=hZ hU2.a
  have y1:=hZ hU2.b
  have y2:=hZ hU2.c
  have hfxT:Fx (·=rb) w2 (((w2.setCell ⟨rb,0,none⟩ (.slice none 0 0)).setCell ⟨rb,1,none⟩ (.slice none 0 0)).setCell ⟨rb,2,none⟩ (.slice none 0 0)):=Fx.setCell (p:=(·=rb)) (q:=⟨rb,2,none⟩) (Fx.setCell (p:=(·=rb)) (q:=⟨rb,1,none⟩) (Fx.setCell (p:=(·=rb)) (q:=⟨rb,0,none⟩) (Fx.refl _ _) (.inl rfl) _) (.inl rfl) _) (.inl rfl) _
  have hfin:=hZ (((Fx.of_fr (hfw2)).trans hfxT).toFr (fun k hk e=>by have e:k=rb:=e; have:=hrb.out; omega))
  replace hfxT:=hZ hfxT
  clear hU hU1 hU2
  go_wp2_with fail
  have v0:=y0.out
  have v1:=y1.out
  have v2:=y2.out
  refine AP (v:=.tuple #[.agg #[.slice none 0 0,.slice none 0 0,.slice none 0 0],.int .i64 3]) (by simp [results,Tryz.results13,go_sem,v0,v1,v2]) rfl ?_
  exact ⟨hfin.out,fun h=>(by cases h),fun _=>rfl⟩
 ·have ha2:=ha.resolve_left hba
  have h9:=hZ (hpg.out a ha2 w1 hfw1)
  clear ha
  go_wp2_with fail
  refine h9.out.mono ?_
  rintro e w2 ⟨va,vc,rfl,hev,-,-,hf2⟩
  rw [hvl.out a]
  have hT2:=hT1.fr hf2
  have hfw2:=hfw1.trans hf2
  replace hev:=hZ hev
  by_cases hbb:Kq b
  ·have h8:=hZ (hpb.out b hbb w2 hfw2)
   obtain rfl:DE=3:=by rw [hde.out,Ai (.inr hbb)]
   clear hb ha2
   replace hbb:=hZ hbb
   replace hba:=hZ hba
   go_wp2_with fail
   refine h8.out.mono ?_
   rintro e w3 ⟨rfl,hf3⟩
   have hT3:=hT2.fr hf3
   have hfw3:=hfw2.trans hf3
   have q0:=hT3.a
   have q1:=hT3.fa
   have q2:=hT3.b
   have q3:=hT3.fb
   have q4:=hT3.c
   have q5:=hT3.fc
   have hU:=hT3.set0 (.slice none 0 0)
   have p0:=hU.b
   have p1:=hU.fb
   have hU1:=hU.set1 (.slice none 0 0)
   have p2:=hU1.c
   have p3:=hU1.fc
   have hU2:=hU1.set2 (.slice none 0 0)
   have y0:=hZ hU2.a
   have y1:=hZ hU2.b
   have y2:=hZ hU2.c
   have hfxT:Fx (·=rb) w3 (((w3.setCell ⟨rb,0,none⟩ (.slice none 0 0)).setCell ⟨rb,1,none⟩ (.slice none 0 0)).setCell ⟨rb,2,none⟩ (.slice none 0 0)):=Fx.setCell (p:=(·=rb)) (q:=⟨rb,2,none⟩) (Fx.setCell (p:=(·=rb)) (q:=⟨rb,1,none⟩) (Fx.setCell (p:=(·=rb)) (q:=⟨rb,0,none⟩) (Fx.refl _ _) (.inl rfl) _) (.inl rfl) _) (.inl rfl) _
   have hfin:=hZ (((Fx.of_fr (hfw3)).trans hfxT).toFr (fun k hk e=>by have e:k=rb:=e; have:=hrb.out; omega))
   replace hfxT:=hZ hfxT
   clear hU hU1 hU2
   go_wp2_with fail
   have v0:=y0.out
   have v1:=y1.out
   have v2:=y2.out
   refine AP (v:=.tuple #[.agg #[.slice none 0 0,.slice none 0 0,.slice none 0 0],.int .i64 3]) (by simp [results,Tryz.results13,go_sem,v0,v1,v2]) rfl ?_
   exact ⟨hfin.out,fun h=>(by cases h),fun _=>rfl⟩
  ·have hb2:=hb.resolve_left hbb
   have h8:=hZ (hpg.out b hb2 w2 hfw2)
   obtain rfl:DE=JE:=by rw [hde.out,Ag (fun h=>h.elim hba hbb)]
   have hj2:=hZ (hjn.out ha2 hb2)
   clear hb hb2 ha2 hjn
   replace hba:=hZ hba
   replace hbb:=hZ hbb
   go_wp2_with fail
   refine h8.out.mono ?_
   rintro e w3 ⟨ua,uc,rfl,heu,-,-,hf3⟩
   rw [hvl.out b]
   have hT3:=hT2.fr hf3
   have hfw3:=hfw2.trans hf3
   have hj3:=hZ (hj2.out w3 va ua vc uc hfw3 (hev.out.fr hf3) heu)
   clear heu hj2
   go_wp2_with fail
   refine hj3.out.mono ?_
   rintro e w4 ⟨hf4,hok,hno⟩
   have hT4:=hT3.fr hf4
   have hfw4:=hfw3.trans hf4
   by_cases hj0:DE=0
   ·obtain ⟨pa,pc,ca,cc,ma,mc,rfl,hel,hmc,hmm,hcc,hcm⟩:=hok hj0
    clear hok hno
    subst hj0
    replace hel:=hZ hel
    replace hmc:=hZ hmc
    replace hmm:=hZ hmm
    have hz3:w.heap.size < w3.heap.size:=by have:=hszb.out; have:=(hf1.trans (hf2.trans hf3)).size; omega
    replace hz3:=hZ hz3
    have hchp:=hZ (fun Wf (hfT:Fx (·=rb) w4 Wf) W (hW:Fx (· < w.heap.size) Wf W)=>(hfT.mono (q:=(· < w3.heap.size)) (fun k e=>by have e:k=rb:=e; have:=hrb.out; have:=hz3.out; show k < _; omega)).trans (hW.mono (q:=(· < w3.heap.size)) (fun k e=>by have e:k < w.heap.size:=e; have:=hz3.out; show k < _; omega)))
    have q0:=hT4.a
    have q1:=hT4.fa
    have q2:=hT4.b
    have q3:=hT4.fb
    have q4:=hT4.c
    have q5:=hT4.fc
    have hU:=hT4.set0 (.slice pa n pc)
    have p0:=hU.b
    have p1:=hU.fb
    have hU1:=hU.set1 (.slice ca A.length cc)
    have p2:=hU1.c
    have p3:=hU1.fc
    have hU2:=hU1.set2 (.slice ma S.length mc)
    have y0:=hZ hU2.a
    have y1:=hZ hU2.b
    have y2:=hZ hU2.c
    have hfxT:Fx (·=rb) w4 (((w4.setCell ⟨rb,0,none⟩ (.slice pa n pc)).setCell ⟨rb,1,none⟩ (.slice ca A.length cc)).setCell ⟨rb,2,none⟩ (.slice ma S.length mc)):=Fx.setCell (p:=(·=rb)) (q:=⟨rb,2,none⟩) (Fx.setCell (p:=(·=rb)) (q:=⟨rb,1,none⟩) (Fx.setCell (p:=(·=rb)) (q:=⟨rb,0,none⟩) (Fx.refl _ _) (.inl rfl) _) (.inl rfl) _) (.inl rfl) _
    have hfin:=hZ (((Fx.of_fr (hfw4)).trans hfxT).toFr (fun k hk e=>by have e:k=rb:=e; have:=hrb.out; omega))
    replace hfxT:=hZ hfxT
    clear hU hU1 hU2
    go_wp2_with fail
    have v0:=y0.out
    have v1:=y1.out
    have v2:=y2.out
    refine AP (v:=.tuple #[.agg #[.slice pa n pc,.slice ca A.length cc,.slice ma S.length mc],.int .i64 0]) (by simp [results,Tryz.results13,go_sem,v0,v1,v2]) rfl ?_
    exact ⟨hfin.out,fun _=>⟨pa,pc,ca,cc,ma,mc,by rw [hn.out]; rfl,fun W hW=>hel.out W (hchp.out _ hfxT.out W hW),fun W hW=>hmc.out W (hchp.out _ hfxT.out W hW),fun W hW=>hmm.out W (hchp.out _ hfxT.out W hW),hcc,hcm⟩,fun h=>absurd rfl h⟩
   ·obtain rfl:=hno hj0
    clear hok hno
    have hj9:=hZ hj0
    clear hj0
    have q0:=hT4.a
    have q1:=hT4.fa
    have q2:=hT4.b
    have q3:=hT4.fb
    have q4:=hT4.c
    have q5:=hT4.fc
    have hU:=hT4.set0 (.slice none 0 0)
    have p0:=hU.b
    have p1:=hU.fb
    have hU1:=hU.set1 (.slice none 0 0)
    have p2:=hU1.c
    have p3:=hU1.fc
    have hU2:=hU1.set2 (.slice none 0 0)
    have y0:=hZ hU2.a
    have y1:=hZ hU2.b
    have y2:=hZ hU2.c
    have hfxT:Fx (·=rb) w4 (((w4.setCell ⟨rb,0,none⟩ (.slice none 0 0)).setCell ⟨rb,1,none⟩ (.slice none 0 0)).setCell ⟨rb,2,none⟩ (.slice none 0 0)):=Fx.setCell (p:=(·=rb)) (q:=⟨rb,2,none⟩) (Fx.setCell (p:=(·=rb)) (q:=⟨rb,1,none⟩) (Fx.setCell (p:=(·=rb)) (q:=⟨rb,0,none⟩) (Fx.refl _ _) (.inl rfl) _) (.inl rfl) _) (.inl rfl) _
    have hfin:=hZ (((Fx.of_fr (hfw4)).trans hfxT).toFr (fun k hk e=>by have e:k=rb:=e; have:=hrb.out; omega))
    replace hfxT:=hZ hfxT
    clear hU hU1 hU2
    go_wp2_with fail
    have v0:=y0.out
    have v1:=y1.out
    have v2:=y2.out
    refine AP (v:=.tuple #[.agg #[.slice none 0 0,.slice none 0 0,.slice none 0 0],.int .i64 DE]) (by simp [results,Tryz.results13,go_sem,v0,v1,v2]) rfl ?_
    exact ⟨hfin.out,fun h=>absurd h hj9.out,fun _=>rfl⟩
def TR (g:List (List Rat)) (i:Nat):List Rat:=(g[i]?).getD []
def UJ (g:List (List Rat)) (i c:Nat):Rat:=((TR g i)[c]?).getD 0
def Yu (r:List Rat):Bool:=r.all fun x=>decide (Tq x)
def Xi (g:List (List Rat)) (c k:Nat):Nat:=k+(g.drop k).findIdx fun r=>decide ((r[c]?).getD 0≠0)
def Yv (f x y:Rat):Bool:=decide (Tq f∧Tq y∧Tq (f * y)∧Tq x)
def TD (f:Rat):List Rat→List Rat→Option (List Rat)
 | [],_=>some []
 | x :: xs,y :: ys=>if Yv f x y then (TD f xs ys).map ((x - f * y) :: ·) else none
 | _ :: _,[]=>none
def Xg (g:List (List Rat)) (c k:Nat):Nat→Option (List (List Rat))
 | 0=>some g
 | i+1=>(Xg g c k i).bind fun g=>if i=k∨UJ g i c=0 then some g else (TD (UJ g i c) (TR g i) (TR g k)).map fun r=>g.set i r
structure RS where
 g:List (List Rat)
 lead:List Nat
 det:Rat
def Jy (g:List (List Rat)) (k a:Nat):List (List Rat):=if a=k then g else DT g k a
def YC (d:Rat) (k a:Nat):Rat:=if a=k then d else -d
def Yw (c:Nat) (s:RS):Option RS :=
 if Xi s.g c s.lead.length=s.g.length then some ⟨s.g,s.lead,0⟩ else
  if Tq s.det∧Tq (UJ (Jy s.g s.lead.length (Xi s.g c s.lead.length)) s.lead.length c)∧Yu (TR (Jy s.g s.lead.length (Xi s.g c s.lead.length)) s.lead.length)=true then
   (Xg ((Jy s.g s.lead.length (Xi s.g c s.lead.length)).set s.lead.length ((TR (Jy s.g s.lead.length (Xi s.g c s.lead.length)) s.lead.length).map (· / UJ (Jy s.g s.lead.length (Xi s.g c s.lead.length)) s.lead.length c))) c s.lead.length s.g.length).map
    fun g3=>⟨g3,s.lead ++ [c],YC s.det s.lead.length (Xi s.g c s.lead.length) * UJ (Jy s.g s.lead.length (Xi s.g c s.lead.length)) s.lead.length c⟩
  else none
def WY (g:List (List Rat)):Nat→Option RS
 | 0=>some ⟨g,[],1⟩
 | c+1=>(WY g c).bind (Yw c)
example:(WY [[2,1],[4,3]] 2).map (fun s=>(s.g,s.lead,s.det))=some ([[1,0],[0,1]],[0,1],2):=by decide +kernel

theorem MI {w:World} {base:Nat} {v:Value} {l:List Int} {n:Nat} (h:w.ownsRow base 3 1 v n (l.map iv)):∃ a c,v=.slice a n c∧El w iv a l:=by
 have hn:l.length=n:=by have:=h.1; simpa using this
 rcases h.2 with ⟨h1,h2⟩ | ⟨g,cap,cur,hv,_⟩
 ·have e:l=[]:=Bf (by omega)
  subst e
  have h2:n=0:=by omega
  subst h2
  exact ⟨none,0,h1,.inl rfl⟩
 ·subst hv
  obtain ⟨-,h1,h2,h3,h4⟩:=Bo h
  refine ⟨_,_,rfl,.inr ⟨g,0,rfl,h2,fun i x hx=>?_⟩⟩
  rw [AN]
  exact (h4 i (iv x) (by rw [At,hx]; rfl)).1
section
variable {w W W':World} {ob oo D k:Nat} {hs hsX:List (Nat×Nat×Nat)} {g:List (List Rat)} {d:Rat} {v:Value} {ls:List Int}
end




theorem Qw (l:List (Value×Value)) (x:Value×Value):Fu (l ++ [x])=Fu l ++ [x.1,x.2]:=by rw [NR]; rfl

structure Ge (w:World) (r:Nat) (v u:Value):Prop where
 a:w.cell? ⟨r,0,none⟩=some v
 b:w.cell? ⟨r,1,none⟩=some u
 fa:w.frozen? ⟨r,0,none⟩=false
 fb:w.frozen? ⟨r,1,none⟩=false
theorem Ge.lt {w:World} {r:Nat} {v u:Value} (h:Ge w r v u):r < w.heap.size:=A6 w ⟨r,0,none⟩ h.a
theorem Ge.fx {p:Nat→Prop} {w w':World} {r:Nat} {v u:Value} (h:Ge w r v u) (k:Fx p w w') (h1:¬ p r):Ge w' r v u :=
 ⟨k.keep h.a h1,k.keep h.b h1,k.keepf h.a h.fa h1,k.keepf h.b h.fb h1⟩
theorem Ge.fr {w w':World} {r:Nat} {v u:Value} (h:Ge w r v u) (k:Fr w w'):Ge w' r v u:=h.fx (p:=fun _=>False) (Fx.of_fr k) (fun e=>e)
theorem Ge.new (w:World) (v u:Value) (t:TypeId):Ge (w.alloc (.cells #[v,u] t)) w.heap.size v u :=
 ⟨(CC w v u t).1,(Ct w v u t).1,(CC w v u t).2,(Ct w v u t).2⟩
theorem Ge.set0 {w:World} {r:Nat} {v u:Value} (h:Ge w r v u) (v':Value):Ge (w.setCell ⟨r,0,none⟩ v') r v' u :=
 ⟨Al _ _ _ (by rw [h.a]; rfl),by rw [Ad _ _ _ _ (fun e=>by injection e with _ e; omega)]; exact h.b,by rw [Am]; exact h.fa,by rw [Am]; exact h.fb⟩
end Go.Proofs.YtiniigadkknboaaGreatDoor
