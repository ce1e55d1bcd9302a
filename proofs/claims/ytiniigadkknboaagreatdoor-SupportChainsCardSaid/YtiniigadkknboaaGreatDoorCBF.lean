/- Contracts and laws: CBF. -/
import Derived.Test.YtiniigadkknboaaGreatDoorCBE
import Derived.Test.YtiniigadkknboaaGreatDoorCAI
import Derived.Test.YtiniigadkknboaaGreatDoorCAZ
import Derived.Test.YtiniigadkknboaaGreatDoorCAG
import Derived.Test.YtiniigadkknboaaGreatDoorCAC
import Derived.Deep.CutRange
import Derived.Deep.CutBlock

set_option maxRecDepth 100000
set_option maxHeartbeats 800000
namespace Go.Proofs.YtiniigadkknboaaGreatDoor
open Go.RowKit Go.Lib
attribute [local go_sem ↓] Go.wp_at_zero Go.wp_at_succ
theorem colF_more:∀ (F F':Nat) (g:List (List Int)) (c t:Nat) (r:List (List Int)×Nat),F≤F'→colF F g c t=some r→colF F' g c t=some r
 | 0,_,_,_,_,_,_,h=>by simp [colF] at h
 | F+1,0,_,_,_,_,hle,_=>absurd hle (by omega)
 | F+1,F'+1,g,c,t,r,hle,h=>by
   rw [colF] at h ⊢
   by_cases h1:colOkW g c=true
   ·rw [if_pos h1] at h ⊢
    cases hp:pickFT g c t (g.length - t) with
    | none=>rw [hp] at h; exact h
    | some k=>
      rw [hp] at h
      simp only at h ⊢
      obtain ⟨g2,h2,h3⟩:=Option.bind_eq_some_iff.1 h
      rw [h2,Option.bind_some]
      by_cases hr:restT (swp g t k) c t (t+1) (g.length - (t+1))=true
      ·rw [if_pos hr] at h3 ⊢; exact colF_more F F' g2 c t r (by omega) h3
      ·rw [if_neg hr] at h3 ⊢; exact h3
   ·rw [if_neg h1] at h; cases h
theorem formS_more (F F':Nat) (hF:F≤F'):∀ (n c:Nat) (g:List (List Int)) (t:Nat) (r:List (List Int)×Nat),formS F n c g t=some r→formS F' n c g t=some r
 | 0,_,_,_,_,h=>h
 | n+1,c,g,t,r,h=>by
   rw [formS] at h ⊢
   by_cases ht:t < g.length
   ·rw [if_pos ht] at h ⊢
    obtain ⟨q,h1,h2⟩:=Option.bind_eq_some_iff.1 h
    rw [colF_more F F' g c t q hF h1,Option.bind_some]
    exact formS_more F F' hF n (c+1) q.1 q.2 r h2
   ·rw [if_neg ht] at h ⊢; exact h
theorem kernS_more {F F' n:Nat} {m K:List (List Int)} (hF:F≤F') (h:kernS F n m=some K):kernS F' n m=some K:=by
 obtain ⟨gW,tW,gK,tK,h1,h2,h3⟩:=kernS_some h
 unfold kernS
 rw [formS_more F F' hF _ _ _ _ _ h1,Option.bind_some,formS_more F F' hF _ _ _ _ _ h2,Option.map_some,h3]
theorem FX_ge:1000000000≤FX:=by have:=KA_pos; have:=KB_ge; unfold FX; omega
theorem ker_small {n:Nat} {m K:List (List Int)} (h:kernS 1000 n m=some K):ker n m=K:=by
 unfold ker
 rw [kernS_more (Nat.le_trans (by decide) FX_ge) h]; rfl
theorem ofB_small {n:Nat} {m K:List (List Int)} (h:(formS 1000 n 0 m 0).map (fun r=>r.1.take r.2)=some K):ofB n m=K:=by
 obtain ⟨r,h1,h2⟩:=Option.map_eq_some_iff.1 h
 unfold ofB
 rw [formS_more 1000 FX (Nat.le_trans (by decide) FX_ge) _ _ _ _ _ h1,Option.map_some,Option.getD_some]
 exact h2
def badS (a:Int):Prop:=a < 1∨100000 < a
instance (a:Int):Decidable (badS a):=by unfold badS; infer_instance
def dvE (P:List Int) (a b:Int):Int:=if badS a∨badS b then 3 else jnE P (patS P a) (patS P b)
theorem Divisions_any (p0:Int) (r:List Int) (aP:Option Addr) (cP:Nat) (a b:Int) (w:World) (hG:G w) (hE:ErX w) (hp:primeE (p0 :: r)=0) (hP4:r.length+1≤4) (hP:El w iv aP (p0 :: r)) (ha:badS a∨(1≤a∧a≤50000)∧patOk (p0 :: r) a=true) (hb:badS b∨(1≤b∧b≤50000)∧patOk (p0 :: r) b=true) :
 Calls Tryz.prog 13 #[.slice aP (r.length+1) cP,.int .i64 a,.int .i64 b] w (TRet w (dvE (p0 :: r) a b) (p0 :: r) (jA (p0 :: r) (patS (p0 :: r) a) (patS (p0 :: r) b)) (jS (p0 :: r) (patS (p0 :: r) a) (patS (p0 :: r) b))):=by
 have hT:=C3.new w (.slice none 0 0) (.slice none 0 0) (.slice none 0 0) 29
 obtain ⟨wb,hwb⟩:∃ wb,wb=w.alloc (.cells #[.slice none 0 0,.slice none 0 0,.slice none 0 0] 29):=⟨_,rfl⟩
 have hfb:Fr w wb:=by rw [hwb]; exact (Fr.refl _).alloc _
 have hszb:Hid (wb.heap.size=w.heap.size+1):=by show _=_; rw [hwb]; simp
 rw [← hwb] at hT
 have hpc:=hZ (PCheck_fr (p0 :: r) aP cP wb (hP.fr hfb) (by rw [List.length_cons]; omega))
 rw [hp,List.length_cons] at hpc
 have hpg:=hZ (fun (s:Int) (h:(1≤s∧s≤50000)∧patOk (p0 :: r) s=true) W (hW:Fr w W)=>Patent_ok p0 r aP cP s W h.1 hp h.2 (hP.fr hW) (hG.fr hW))
 have hpb:=hZ (fun (s:Int) (h:badS s) W (hW:Fr w W)=>Patent_rg (p0 :: r) aP cP s W hp h (hP.fr hW) (by rw [List.length_cons]; omega))
 rw [List.length_cons] at hpb
 have hvl:∀ s,(patS (p0 :: r) s).length=r.length+1:=fun s=>by rw [patS_len]; rfl
 have hjn:Hid ((1≤a∧a≤50000)∧patOk (p0 :: r) a=true→(1≤b∧b≤50000)∧patOk (p0 :: r) b=true→∀ (W:World) (va ua:Option Addr) (vc uc:Nat),Fr w W→El W iv va (patS (p0 :: r) a)→El W iv ua (patS (p0 :: r) b)→Calls Tryz.prog 45 #[.slice aP (r.length+1) cP,.slice va (r.length+1) vc,.slice ua (r.length+1) uc] W (TRet W (jnE (p0 :: r) (patS (p0 :: r) a) (patS (p0 :: r) b)) (p0 :: r) (jA (p0 :: r) (patS (p0 :: r) a) (patS (p0 :: r) b)) (jS (p0 :: r) (patS (p0 :: r) a) (patS (p0 :: r) b)))):=fun h1 h2 W va ua vc uc hW hv hu=>
  sjoin_any (p0 :: r) (patS (p0 :: r) a) (patS (p0 :: r) b) aP va ua cP vc uc W (hG.fr hW) (hE.fr hW) hp hP4 (hP.fr hW) hv hu (hvl a) (hvl b) (patS_fit h1.2 (by omega)) (patS_fit h2.2 (by omega))
 have hde:dvE (p0 :: r) a b=if badS a∨badS b then 3 else jnE (p0 :: r) (patS (p0 :: r) a) (patS (p0 :: r) b):=rfl
 generalize dvE (p0 :: r) a b=DE at *
 unfold TRet at hjn
 rw [List.length_cons] at hjn
 generalize jnE (p0 :: r) (patS (p0 :: r) a) (patS (p0 :: r) b)=JE at *
 generalize jA (p0 :: r) (patS (p0 :: r) a) (patS (p0 :: r) b)=A at *
 generalize jS (p0 :: r) (patS (p0 :: r) a) (patS (p0 :: r) b)=S at *
 obtain ⟨n,hn⟩:∃ n,n=r.length+1:=⟨_,rfl⟩
 rw [← hn] at hpc hpg hpb hvl hjn ⊢
 replace hn:=hZ hn
 replace hT:=hZ hT
 replace hvl:=hZ hvl
 replace hde:=hZ hde
 clear hG hE hp hP
 have hz0:=hszb.out
 go_enter Tryz.func13,Tryz.ntmps13
 go_upto_region 1 with (fail)
 rw [← hwb]
 clear hwb
 obtain ⟨rb,hrb⟩:∃ rb,rb=w.heap.size:=⟨_,rfl⟩
 rw [← hrb] at hT ⊢
 replace hrb:=hZ hrb
 go_wp2_with fail
 refine hpc.out.mono ?_
 rintro e w1 ⟨rfl,hf1⟩
 have hT1:=hT.out.fr hf1
 have hfw1:=hfb.trans hf1
 by_cases hba:badS a
 ·have h9:=hZ (hpb.out a hba w1 hfw1)
  obtain rfl:DE=3:=by rw [hde.out,if_pos (.inl hba)]
  clear ha hb
  replace hba:=hZ hba
  go_wp2_with fail
  refine h9.out.mono ?_
  rintro e w2 ⟨rfl,hf2⟩
  have hT2:=hT1.fr hf2
  have hfw2:=hfw1.trans hf2
  have q0:=hT2.a
  have q1:=hT2.fa
  have q2:=hT2.b
  have q3:=hT2.fb
  have q4:=hT2.c
  have q5:=hT2.fc
  have hU:=hT2.set0 (.slice none 0 0)
  have p0:=hU.b
  have p1:=hU.fb
  have hU1:=hU.set1 (.slice none 0 0)
  have p2:=hU1.c
  have p3:=hU1.fc
  have hU2:=hU1.set2 (.slice none 0 0)
  have y0:=hZ hU2.a
  have y1:=hZ hU2.b
  have y2:=hZ hU2.c
  have hfxT:Fx (·=rb) w2 (((w2.setCell ⟨rb,0,none⟩ (.slice none 0 0)).setCell ⟨rb,1,none⟩ (.slice none 0 0)).setCell ⟨rb,2,none⟩ (.slice none 0 0)):=Fx.setCell (p:=(·=rb)) (q:=⟨rb,2,none⟩) (Fx.setCell (p:=(·=rb)) (q:=⟨rb,1,none⟩) (Fx.setCell (p:=(·=rb)) (q:=⟨rb,0,none⟩) (Fx.refl _ _) (.inl rfl) _) (.inl rfl) _) (.inl rfl) _
  have hfin:=hZ (((Fx.of_fr (hfw2)).trans hfxT).toFr (fun k hk e=>by have e:k=rb:=e; have:=hrb.out; omega))
  replace hfxT:=hZ hfxT
  clear hU hU1 hU2
  go_wp2_with fail
  have v0:=y0.out
  have v1:=y1.out
  have v2:=y2.out
  refine bodyPost_ret (v:=.tuple #[.agg #[.slice none 0 0,.slice none 0 0,.slice none 0 0],.int .i64 3]) (by simp [results,Tryz.results13,go_sem,v0,v1,v2]) rfl ?_
  exact ⟨hfin.out,fun h=>(by cases h),fun _=>rfl⟩
 ·have ha2:=ha.resolve_left hba
  have h9:=hZ (hpg.out a ha2 w1 hfw1)
  clear ha
  go_wp2_with fail
  refine h9.out.mono ?_
  rintro e w2 ⟨va,vc,rfl,hev,-,-,hf2⟩
  rw [hvl.out a]
  have hT2:=hT1.fr hf2
  have hfw2:=hfw1.trans hf2
  replace hev:=hZ hev
  by_cases hbb:badS b
  ·have h8:=hZ (hpb.out b hbb w2 hfw2)
   obtain rfl:DE=3:=by rw [hde.out,if_pos (.inr hbb)]
   clear hb ha2
   replace hbb:=hZ hbb
   replace hba:=hZ hba
   go_wp2_with fail
   refine h8.out.mono ?_
   rintro e w3 ⟨rfl,hf3⟩
   have hT3:=hT2.fr hf3
   have hfw3:=hfw2.trans hf3
   have q0:=hT3.a
   have q1:=hT3.fa
   have q2:=hT3.b
   have q3:=hT3.fb
   have q4:=hT3.c
   have q5:=hT3.fc
   have hU:=hT3.set0 (.slice none 0 0)
   have p0:=hU.b
   have p1:=hU.fb
   have hU1:=hU.set1 (.slice none 0 0)
   have p2:=hU1.c
   have p3:=hU1.fc
   have hU2:=hU1.set2 (.slice none 0 0)
   have y0:=hZ hU2.a
   have y1:=hZ hU2.b
   have y2:=hZ hU2.c
   have hfxT:Fx (·=rb) w3 (((w3.setCell ⟨rb,0,none⟩ (.slice none 0 0)).setCell ⟨rb,1,none⟩ (.slice none 0 0)).setCell ⟨rb,2,none⟩ (.slice none 0 0)):=Fx.setCell (p:=(·=rb)) (q:=⟨rb,2,none⟩) (Fx.setCell (p:=(·=rb)) (q:=⟨rb,1,none⟩) (Fx.setCell (p:=(·=rb)) (q:=⟨rb,0,none⟩) (Fx.refl _ _) (.inl rfl) _) (.inl rfl) _) (.inl rfl) _
   have hfin:=hZ (((Fx.of_fr (hfw3)).trans hfxT).toFr (fun k hk e=>by have e:k=rb:=e; have:=hrb.out; omega))
   replace hfxT:=hZ hfxT
   clear hU hU1 hU2
   go_wp2_with fail
   have v0:=y0.out
   have v1:=y1.out
   have v2:=y2.out
   refine bodyPost_ret (v:=.tuple #[.agg #[.slice none 0 0,.slice none 0 0,.slice none 0 0],.int .i64 3]) (by simp [results,Tryz.results13,go_sem,v0,v1,v2]) rfl ?_
   exact ⟨hfin.out,fun h=>(by cases h),fun _=>rfl⟩
  ·have hb2:=hb.resolve_left hbb
   have h8:=hZ (hpg.out b hb2 w2 hfw2)
   obtain rfl:DE=JE:=by rw [hde.out,if_neg (fun h=>h.elim hba hbb)]
   have hj2:=hZ (hjn.out ha2 hb2)
   clear hb hb2 ha2 hjn
   replace hba:=hZ hba
   replace hbb:=hZ hbb
   go_wp2_with fail
   refine h8.out.mono ?_
   rintro e w3 ⟨ua,uc,rfl,heu,-,-,hf3⟩
   rw [hvl.out b]
   have hT3:=hT2.fr hf3
   have hfw3:=hfw2.trans hf3
   have hj3:=hZ (hj2.out w3 va ua vc uc hfw3 (hev.out.fr hf3) heu)
   clear heu hj2
   go_wp2_with fail
   refine hj3.out.mono ?_
   rintro e w4 ⟨hf4,hok,hno⟩
   have hT4:=hT3.fr hf4
   have hfw4:=hfw3.trans hf4
   by_cases hj0:DE=0
   ·obtain ⟨pa,pc,ca,cc,ma,mc,rfl,hel,hmc,hmm,hcc,hcm⟩:=hok hj0
    clear hok hno
    subst hj0
    replace hel:=hZ hel
    replace hmc:=hZ hmc
    replace hmm:=hZ hmm
    have hz3:w.heap.size < w3.heap.size:=by have:=hszb.out; have:=(hf1.trans (hf2.trans hf3)).size; omega
    replace hz3:=hZ hz3
    have hchp:=hZ (fun Wf (hfT:Fx (·=rb) w4 Wf) W (hW:Fx (· < w.heap.size) Wf W)=>(hfT.mono (q:=(· < w3.heap.size)) (fun k e=>by have e:k=rb:=e; have:=hrb.out; have:=hz3.out; show k < _; omega)).trans (hW.mono (q:=(· < w3.heap.size)) (fun k e=>by have e:k < w.heap.size:=e; have:=hz3.out; show k < _; omega)))
    have q0:=hT4.a
    have q1:=hT4.fa
    have q2:=hT4.b
    have q3:=hT4.fb
    have q4:=hT4.c
    have q5:=hT4.fc
    have hU:=hT4.set0 (.slice pa n pc)
    have p0:=hU.b
    have p1:=hU.fb
    have hU1:=hU.set1 (.slice ca A.length cc)
    have p2:=hU1.c
    have p3:=hU1.fc
    have hU2:=hU1.set2 (.slice ma S.length mc)
    have y0:=hZ hU2.a
    have y1:=hZ hU2.b
    have y2:=hZ hU2.c
    have hfxT:Fx (·=rb) w4 (((w4.setCell ⟨rb,0,none⟩ (.slice pa n pc)).setCell ⟨rb,1,none⟩ (.slice ca A.length cc)).setCell ⟨rb,2,none⟩ (.slice ma S.length mc)):=Fx.setCell (p:=(·=rb)) (q:=⟨rb,2,none⟩) (Fx.setCell (p:=(·=rb)) (q:=⟨rb,1,none⟩) (Fx.setCell (p:=(·=rb)) (q:=⟨rb,0,none⟩) (Fx.refl _ _) (.inl rfl) _) (.inl rfl) _) (.inl rfl) _
    have hfin:=hZ (((Fx.of_fr (hfw4)).trans hfxT).toFr (fun k hk e=>by have e:k=rb:=e; have:=hrb.out; omega))
    replace hfxT:=hZ hfxT
    clear hU hU1 hU2
    go_wp2_with fail
    have v0:=y0.out
    have v1:=y1.out
    have v2:=y2.out
    refine bodyPost_ret (v:=.tuple #[.agg #[.slice pa n pc,.slice ca A.length cc,.slice ma S.length mc],.int .i64 0]) (by simp [results,Tryz.results13,go_sem,v0,v1,v2]) rfl ?_
    exact ⟨hfin.out,fun _=>⟨pa,pc,ca,cc,ma,mc,by rw [hn.out]; rfl,fun W hW=>hel.out W (hchp.out _ hfxT.out W hW),fun W hW=>hmc.out W (hchp.out _ hfxT.out W hW),fun W hW=>hmm.out W (hchp.out _ hfxT.out W hW),hcc,hcm⟩,fun h=>absurd rfl h⟩
   ·obtain rfl:=hno hj0
    clear hok hno
    have hj9:=hZ hj0
    clear hj0
    have q0:=hT4.a
    have q1:=hT4.fa
    have q2:=hT4.b
    have q3:=hT4.fb
    have q4:=hT4.c
    have q5:=hT4.fc
    have hU:=hT4.set0 (.slice none 0 0)
    have p0:=hU.b
    have p1:=hU.fb
    have hU1:=hU.set1 (.slice none 0 0)
    have p2:=hU1.c
    have p3:=hU1.fc
    have hU2:=hU1.set2 (.slice none 0 0)
    have y0:=hZ hU2.a
    have y1:=hZ hU2.b
    have y2:=hZ hU2.c
    have hfxT:Fx (·=rb) w4 (((w4.setCell ⟨rb,0,none⟩ (.slice none 0 0)).setCell ⟨rb,1,none⟩ (.slice none 0 0)).setCell ⟨rb,2,none⟩ (.slice none 0 0)):=Fx.setCell (p:=(·=rb)) (q:=⟨rb,2,none⟩) (Fx.setCell (p:=(·=rb)) (q:=⟨rb,1,none⟩) (Fx.setCell (p:=(·=rb)) (q:=⟨rb,0,none⟩) (Fx.refl _ _) (.inl rfl) _) (.inl rfl) _) (.inl rfl) _
    have hfin:=hZ (((Fx.of_fr (hfw4)).trans hfxT).toFr (fun k hk e=>by have e:k=rb:=e; have:=hrb.out; omega))
    replace hfxT:=hZ hfxT
    clear hU hU1 hU2
    go_wp2_with fail
    have v0:=y0.out
    have v1:=y1.out
    have v2:=y2.out
    refine bodyPost_ret (v:=.tuple #[.agg #[.slice none 0 0,.slice none 0 0,.slice none 0 0],.int .i64 DE]) (by simp [results,Tryz.results13,go_sem,v0,v1,v2]) rfl ?_
    exact ⟨hfin.out,fun h=>absurd h hj9.out,fun _=>rfl⟩
def rowQ (g:List (List Rat)) (i:Nat):List Rat:=(g[i]?).getD []
def entQ (g:List (List Rat)) (i c:Nat):Rat:=((rowQ g i)[c]?).getD 0
def tqRow (r:List Rat):Bool:=r.all fun x=>decide (Tq x)
def atQ (g:List (List Rat)) (c k:Nat):Nat:=k+(g.drop k).findIdx fun r=>decide ((r[c]?).getD 0≠0)
def subOk (f x y:Rat):Bool:=decide (Tq f∧Tq y∧Tq (f * y)∧Tq x)
def subRow (f:Rat):List Rat→List Rat→Option (List Rat)
 | [],_=>some []
 | x :: xs,y :: ys=>if subOk f x y then (subRow f xs ys).map ((x - f * y) :: ·) else none
 | _ :: _,[]=>none
def elimQ (g:List (List Rat)) (c k:Nat):Nat→Option (List (List Rat))
 | 0=>some g
 | i+1=>(elimQ g c k i).bind fun g=>if i=k∨entQ g i c=0 then some g else (subRow (entQ g i c) (rowQ g i) (rowQ g k)).map fun r=>g.set i r
structure RS where
 g:List (List Rat)
 lead:List Nat
 det:Rat
def swapIf (g:List (List Rat)) (k a:Nat):List (List Rat):=if a=k then g else swp g k a
def negIf (d:Rat) (k a:Nat):Rat:=if a=k then d else -d
def stepQ (c:Nat) (s:RS):Option RS :=
 if atQ s.g c s.lead.length=s.g.length then some ⟨s.g,s.lead,0⟩ else
  if Tq s.det∧Tq (entQ (swapIf s.g s.lead.length (atQ s.g c s.lead.length)) s.lead.length c)∧tqRow (rowQ (swapIf s.g s.lead.length (atQ s.g c s.lead.length)) s.lead.length)=true then
   (elimQ ((swapIf s.g s.lead.length (atQ s.g c s.lead.length)).set s.lead.length ((rowQ (swapIf s.g s.lead.length (atQ s.g c s.lead.length)) s.lead.length).map (· / entQ (swapIf s.g s.lead.length (atQ s.g c s.lead.length)) s.lead.length c))) c s.lead.length s.g.length).map
    fun g3=>⟨g3,s.lead ++ [c],negIf s.det s.lead.length (atQ s.g c s.lead.length) * entQ (swapIf s.g s.lead.length (atQ s.g c s.lead.length)) s.lead.length c⟩
  else none
def redTo (g:List (List Rat)):Nat→Option RS
 | 0=>some ⟨g,[],1⟩
 | c+1=>(redTo g c).bind (stepQ c)
example:(redTo [[2,1],[4,3]] 2).map (fun s=>(s.g,s.lead,s.det))=some ([[1,0],[0,1]],[0,1],2):=by decide +kernel

section
variable {w W W':World} {ob oo D k:Nat} {hs hsX:List (Nat×Nat×Nat)} {g:List (List Rat)} {d:Rat} {v:Value} {ls:List Int}
end




theorem flat2_snoc (l:List (Value×Value)) (x:Value×Value):flat2 (l ++ [x])=flat2 l ++ [x.1,x.2]:=by rw [flat2_append]; rfl

structure Cel2 (w:World) (r:Nat) (v u:Value):Prop where
 a:w.cell? ⟨r,0,none⟩=some v
 b:w.cell? ⟨r,1,none⟩=some u
 fa:w.frozen? ⟨r,0,none⟩=false
 fb:w.frozen? ⟨r,1,none⟩=false
theorem Cel2.lt {w:World} {r:Nat} {v u:Value} (h:Cel2 w r v u):r < w.heap.size:=World.block_lt_of_cell? w ⟨r,0,none⟩ h.a
theorem Cel2.fx {p:Nat→Prop} {w w':World} {r:Nat} {v u:Value} (h:Cel2 w r v u) (k:Fx p w w') (h1:¬ p r):Cel2 w' r v u :=
 ⟨k.keep h.a h1,k.keep h.b h1,k.keepf h.a h.fa h1,k.keepf h.b h.fb h1⟩
theorem Cel2.fr {w w':World} {r:Nat} {v u:Value} (h:Cel2 w r v u) (k:Fr w w'):Cel2 w' r v u:=h.fx (p:=fun _=>False) (Fx.of_fr k) (fun e=>e)
theorem Cel2.new (w:World) (v u:Value) (t:TypeId):Cel2 (w.alloc (.cells #[v,u] t)) w.heap.size v u :=
 ⟨(new2a w v u t).1,(new2b w v u t).1,(new2a w v u t).2,(new2b w v u t).2⟩
theorem Cel2.set0 {w:World} {r:Nat} {v u:Value} (h:Cel2 w r v u) (v':Value):Cel2 (w.setCell ⟨r,0,none⟩ v') r v' u :=
 ⟨World.cell?_setCell_same' _ _ _ (by rw [h.a]; rfl),by rw [World.cell?_setCell_other _ _ _ _ (fun e=>by injection e with _ e; omega)]; exact h.b,by rw [World.frozen?_setCell]; exact h.fa,by rw [World.frozen?_setCell]; exact h.fb⟩
end Go.Proofs.YtiniigadkknboaaGreatDoor
