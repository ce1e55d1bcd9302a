/- Contracts and laws: WBG. -/
import Derived.Test.YtiniigadkknboaaGreatDoorWAC
import Derived.Test.YtiniigadkknboaaGreatDoorWBF
import Derived.Test.YtiniigadkknboaaGreatDoorWAV
import Derived.Test.YtiniigadkknboaaGreatDoorWAT
import Derived.Test.YtiniigadkknboaaGreatDoorWAW
import Derived.Test.YtiniigadkknboaaGreatDoorWBE

set_option maxRecDepth 100000
set_option maxHeartbeats 8000000
namespace Go.Proofs.YtiniigadkknboaaGreatDoor
open Go.RowKit Go.Lib
attribute [local go_sem ↓] Go.wp_at_zero Go.wp_at_succ

theorem IndexFunc_hx (xs:List Int) (a:Option Addr) (cap:Nat) (g:Nat) (lb:Array Value) (p:Int→Bool) (w:World)
 (eg:∀ args w,(callFunc g args).run Tryz.prog w=.ok (.enter g args) w) (hx:El w sv a xs) (hl:xs.length≤1000000000) (hp:Pred w g lb sv p xs) :
 Calls Tryz.prog 117 #[.slice a xs.length cap,.func (.func g) #[] lb] w fun e w'=>e=.returned (.int .i64 (idx p xs))∧Fr w w':=by
 go_enter Tryz.func117,Tryz.ntmps117
 go_wp2
 go_loopw [5,8] (fun _ s8 wr=>∃ k:Nat,s8=.int .i64 k∧k≤xs.length∧Fr w wr∧Hid (∀ j x,j < k→xs[j]?=some x→p x=false)) (fun _ s8 _=>xs.length - (RowKit.intOf s8).toNat)
 case atStart=>exact ⟨0,rfl,Nat.zero_le _,Fr.refl _,fun j x h=>absurd h (Nat.not_lt_zero _)⟩
 case round=>
  obtain ⟨k,rfl,hk,hf,hb⟩:=hrel
  by_cases hlt:k < xs.length
  ·obtain ⟨b,o,x,rfl,hbl,hxk,hcell⟩:=(hx.fr hf).at hlt
   have hpx:=hp x wr (List.mem_of_getElem? hxk) hf
   have hxk:=hZ hxk
   go_wp2_with fail
   refine hpx.mono ?_
   rintro e w1 ⟨rfl,hf1⟩
   go_wp2_with fail
   ·have hpt:p x=true:=by assumption
    go_ret
    exact ⟨ret_int (idx_found hb.out hxk.out hpt).symm,hf.trans hf1⟩
   ·have hpf:p x=false:=by assumption
    go_roundw
    case rel=>exact ⟨k+1,by go_num,by omega,hf.trans hf1,idx_step hb.out hxk.out hpf⟩
    case measure=>simp [RowKit.intOf]; omega
  ·go_wp2_with fail
   go_ret
   exact ⟨ret_int (idx_none (by rw [show xs.length=k by omega]; exact hb.out)).symm,hf⟩
theorem hreduce1_pred (w:World) (xs:List Int):Pred w 184 #[] sv (fun x=>x != 0) xs:=fun x W _ _=>by
 show Calls Tryz.prog 184 #[.string (tx x)] W fun e W'=>e=.returned (.bool (x != 0))∧Fr W W'
 have hb:=tx_beq0 x
 have e:(x != 0)=!(decide (x=0)):=by by_cases h:x=0 <;> simp [h]
 rw [e,← hb]
 clear e hb
 go_enter Tryz.func184,Tryz.ntmps184
 go_wp2_with fail
 go_ret
 exact ⟨rfl,Fr.refl _⟩
def redStep (r:List Int) (s:List Int×List Int):Option (List Int×List Int) :=
 if smW ((s.1[(pivI r).toNat]?).getD 0) && smW ((r[(pivI r).toNat]?).getD 0) && (r[(pivI r).toNat]?).getD 0 != 0 then
  (takeSW (((s.1[(pivI r).toNat]?).getD 0).fdiv ((r[(pivI r).toNat]?).getD 0)) s.1 r).map fun y=>(y,s.2 ++ [((s.1[(pivI r).toNat]?).getD 0).fdiv ((r[(pivI r).toNat]?).getD 0)])
 else none
def redT (form:List (List Int)) (x:List Int):Nat→Option (List Int×List Int)
 | 0=>some (x,[])
 | i+1=>(redT form x i).bind (redStep (rowAt form i))
theorem redStep_some {r:List Int} {s s':List Int×List Int} (h:redStep r s=some s'):Wd ((s.1[(pivI r).toNat]?).getD 0)∧Wd ((r[(pivI r).toNat]?).getD 0)∧(r[(pivI r).toNat]?).getD 0≠0 ∧
 takeSW (((s.1[(pivI r).toNat]?).getD 0).fdiv ((r[(pivI r).toNat]?).getD 0)) s.1 r=some s'.1∧s'.2=s.2 ++ [((s.1[(pivI r).toNat]?).getD 0).fdiv ((r[(pivI r).toNat]?).getD 0)]:=by
 unfold redStep at h
 split at h
 ·rename_i hc
  simp only [Bool.and_eq_true,bne_iff_ne,ne_eq] at hc
  obtain ⟨⟨h1,h2⟩,h3⟩:=hc
  obtain ⟨y,hy,rfl⟩:=Option.map_eq_some_iff.1 h
  exact ⟨smW_wd h1,smW_wd h2,h3,hy,rfl⟩
 ·cases h
theorem redT_mono {form:List (List Int)} {x:List Int}:∀ (j i:Nat) (s:List Int×List Int),redT form x j=some s→i≤j→∃ s',redT form x i=some s'
 | 0,i,s,h,hi=>by
   obtain rfl:i=0:=by omega
   exact ⟨_,h⟩
 | j+1,i,s,h,hi=>by
   by_cases e:i=j+1
   ·subst e; exact ⟨_,h⟩
   ·rw [redT] at h
    obtain ⟨s1,h1,-⟩:=Option.bind_eq_some_iff.1 h
    exact redT_mono j i s1 h1 (by omega)
theorem redT_len {form:List (List Int)} {x:List Int}:∀ (j:Nat) (s:List Int×List Int),redT form x j=some s→s.1.length=x.length∧s.2.length=j
 | 0,s,h=>by injection h with h; subst h; exact ⟨rfl,rfl⟩
 | j+1,s,h=>by
   rw [redT] at h
   obtain ⟨s1,h1,h2⟩:=Option.bind_eq_some_iff.1 h
   obtain ⟨-,-,-,h3,h4⟩:=redStep_some h2
   obtain ⟨a,b⟩:=redT_len j s1 h1
   exact ⟨(takeSW_len h3).trans a,by rw [h4,List.length_append,b]; rfl⟩
def HredRet (w:World) (s:List Int×List Int) (e:Ending) (w':World):Prop:=∃ b c v,e=.returned (.tuple #[.slice (some ⟨b,0,none⟩) s.1.length c,v])∧Own w' b 0 s.1∧w'.ownsRow w.heap.size 80 1 v s.2.length (s.2.map sv)∧Fr w w'
theorem hreduce_any (form:List (List Int)) (xs:List Int) (s9:List Int×List Int) (a xa:Option Addr) (cap cx n:Nat) (w:World) (hG:G w) (hm:MatIs w a form) (hr:Rect n form) (hn1:1≤n) (hn2:n≤1000000) (hl:form.length≤1000000) (hb:∀ r,r ∈ form→∀ x,x ∈ r→Sm x)
 (hx:El w iv xa xs) (hxl:xs.length=n) (hxb:∀ x,x ∈ xs→Sm x) (hred:redT form xs form.length=some s9) :
 Calls Tryz.prog 152 #[.slice a form.length cap,.slice xa n cx] w (HredRet w s9):=by
 have hgn:=gN_le hG
 obtain ⟨i2,ki,kz0,kz1,kz2⟩:=info_parts info65
 obtain ⟨N,hN⟩:∃ N,N=form.length:=⟨_,rfl⟩
 have hl2:=hZ (fun W (hW:Fr w W)=>Lines_any form a cap n W (hG.fr hW) (hm.fr hW) hr hn1 hn2 hl hb)
 unfold HredRet
 rw [← hN] at hl hred hl2 ⊢
 have hs9:=redT_len N s9 hred
 have hl1:=hZ (fun (W:World) (hW:Fr w W) (P:Nat) (hP:W.cell? ⟨P,0,none⟩=some (.slice xa n cx))=>Lines_any [xs] (some ⟨P,0,none⟩) 1 n W (hG.fr hW) (.inr ⟨P,0,rfl,World.block_lt_of_cell? W ⟨P,0,none⟩ hP,fun i ys hi=>by
  match i,hi with
  | 0,hi=>simp at hi; subst hi; exact ⟨xa,cx,by rw [hxl]; exact hP,hx.fr hW⟩
  | i+1,hi=>simp at hi⟩) (fun r hr=>by rw [List.mem_singleton] at hr; rw [hr]; exact hxl) hn1 hn2 (by simp) (fun r hr=>by rw [List.mem_singleton] at hr; rw [hr]; exact hxb))
 replace hN:=hZ hN
 replace hm:=hZ hm
 replace hr:=hZ hr
 replace hb:=hZ hb
 replace hG:=hZ hG
 replace hx:=hZ hx
 replace hxl:=hZ hxl
 replace hxb:=hZ hxb
 replace hred:=hZ hred
 replace hs9:=hZ hs9
 have c0:(w.alloc (.cells #[.slice xa n cx] 33)).cell? ⟨w.heap.size,0,none⟩=some (.slice xa n cx):=new_cell _ _ _
 have f0:Fr w (w.alloc (.cells #[.slice xa n cx] 33)):=(Fr.refl _).alloc _
 go_enter Tryz.func152,Tryz.ntmps152
 go_wp2_with fail
 refine (hl1.out _ f0 _ c0).mono ?_
 rintro e w2 ⟨v1,L1,rfl,hL1,hm1,hf2⟩
 have hf12:=f0.trans hf2
 obtain ⟨l0,rfl⟩:∃ l0,L1=[l0]:=by
  match L1,hm1 with
  | [l0],_=>exact ⟨l0,rfl⟩
 have hx0:l0.xs=xs:=by simpa using hm1
 obtain ⟨g1,c1,hv1,-⟩:=hL1.own.form (by simp)
 have hown1:=hL1.own
 rw [hv1] at hown1
 obtain ⟨hp1,-,-,-,-,-⟩:=ownsRow_prs hown1
 obtain ⟨b1,o1,y1,hae,-,hy1,k1,k2⟩:=hp1.at (i:=0) (by simp)
 injection hae with hae; injection hae with hb1 ho1
 subst hb1; subst ho1
 simp at hy1
 subst hy1
 obtain ⟨r1,-,r3,gu,nu,cu,r4⟩:=hL1.row l0 (by simp)
 have e1:l0.enc.1=.slice (some ⟨l0.b,0,none⟩) n l0.c:=by unfold Ln.enc; rw [hx0,hxl.out]
 have e2:l0.enc.2=.slice gu nu cu:=r4
 rw [e1] at k1
 rw [e2] at k2
 rw [hx0] at r3
 rw [World.size_alloc] at r1
 subst hv1
 obtain ⟨xb,hxbk⟩:∃ xb,xb=l0.b:=⟨_,rfl⟩
 obtain ⟨xc,hxc⟩:∃ xc,xc=l0.c:=⟨_,rfl⟩
 rw [← hxbk] at k1 r1 r3
 rw [← hxc] at k1
 clear hL1 hown1 hp1 hm1 e1 e2 hx0 r4 hl1 c0 f0 hf2 hxbk hxc
 obtain ⟨W3,hW3⟩:∃ W3,W3=w2.alloc (.cells #[.slice (some ⟨xb,0,none⟩) n xc,.slice gu nu cu] 239):=⟨_,rfl⟩
 have f3':Fr w2 W3:=by rw [hW3]; exact (Fr.refl _).alloc _
 obtain ⟨lb,hlb⟩:∃ lb,lb=w2.heap.size:=⟨_,rfl⟩
 have hC3:Cel2 W3 lb (.slice (some ⟨xb,0,none⟩) n xc) (.slice gu nu cu):=by rw [hW3,hlb]; exact Cel2.new _ _ _ _
 have hxlb:xb < lb:=by rw [hlb]; exact r3.2.1
 have r3':=r3.fr f3'
 go_upto_region 2 with (fail)
 rw [← hW3,← hlb]
 clear hW3 k1 k2 r3
 replace hlb:=hZ hlb
 replace r3':=hZ r3'
 go_wp2_with fail
 refine (hl2.out _ (hf12.trans f3')).mono ?_
 rintro e w4 ⟨v2,L2,rfl,hL2,hm2,hf4⟩
 have hF4:=(hf12.trans f3').trans hf4
 obtain ⟨a2,c2,rfl,-⟩:=ownsRow_slice hL2.own
 have hC4:=hZ (hC3.fr hf4)
 have hO4:=r3'.out.fr hf4
 have hL2l:=hL2.len
 have hx4:lb < w4.heap.size:=hC4.out.lt
 have hL2b:∀ x,x ∈ L2→lb+1≤x.b:=fun x hx=>Nat.le_trans hC3.lt (hL2.row x hx).1
 have hprs:∀ (i:Nat) (x:Ln),L2[i]?=some x→∃ b,a2=some ⟨b,0,none⟩∧lb+1≤b∧b < w4.heap.size∧w4.cell? ⟨b,i * 2,none⟩=some x.enc.1∧w4.cell? ⟨b,i * 2+1,none⟩=some x.enc.2:=fun i x hx=>by
  have hi:=(List.getElem?_eq_some_iff.1 hx).1
  obtain ⟨g2,c3,hv2,-⟩:=hL2.own.form (by omega)
  have hown2:=hL2.own
  rw [hv2] at hown2
  injection hv2 with hv2 _ _
  subst hv2
  obtain ⟨hp2,-,-,hg2,-,hg3⟩:=ownsRow_prs hown2
  obtain ⟨b2,o2,y2,hae,-,hy2,k1,k2⟩:=hp2.at (i:=i) (by rw [List.length_map]; exact hi)
  injection hae with hae; injection hae with hb2 ho2
  subst hb2; subst ho2
  rw [List.getElem?_map,hx] at hy2
  simp at hy2
  subst hy2
  rw [Nat.zero_add] at k1 k2
  exact ⟨g2,rfl,Nat.le_trans hC3.lt hg2,hg3,k1,k2⟩
 have hL2r:∀ x,x ∈ L2→Own w4 x.b 0 x.xs∧∃ g n c,x.u=.slice g n c:=fun x hx=>⟨(hL2.row x hx).2.2.1,(hL2.row x hx).2.2.2⟩
 have hrowN:∀ (i:Nat) (x:Ln),L2[i]?=some x→rowAt form i=x.xs∧x.xs.length=n:=fun i x hx=>by
  have h1:form[i]?=some x.xs:=by rw [← hm2,List.getElem?_map,hx]; rfl
  have h2:=List.getElem?_eq_some_iff.1 h1
  exact ⟨by rw [rowAt_eq h2.1]; exact h2.2,hr.out _ (List.mem_of_getElem? h1)⟩
 have eg:∀ args w,(callFunc 184 args).run Tryz.prog w=.ok (.enter 184 args) w:=enters_of Tryz.func184 (by kernel_rfl) rfl
 replace hL2l:=hZ (show L2.length=N by rw [← hL2l]; exact hN.out.symm)
 replace hprs:=hZ hprs
 replace hL2b:=hZ hL2b
 replace hL2r:=hZ hL2r
 replace hrowN:=hZ hrowN
 replace eg:=hZ eg
 replace hO4:=hZ hO4
 replace hC3:=hZ hC3
 rw [← hN.out] at *
 clear hL2 hm2 hl2 hm r3'
 have hbase:w.heap.size≤xb:=by omega
 go_wp2_with fail
 go_loopg [5,21] N (fun k s5 s21 wr=>∃ (i:Nat) (s:List Int×List Int),s21=.int .i64 i∧i+k=N∧Fx (·=xb) w4 wr∧Hid (redT form xs i=some s)∧Hid (Own wr xb 0 s.1)∧Hid (wr.ownsRow w4.heap.size 80 1 s5 i (s.2.map sv)))
 case atStart=>exact ⟨0,(xs,[]),rfl,by omega,Fx.refl _ _,rfl,hO4.out,World.ownsRow_nil _ _ _ _⟩
 case round=>
  clear hO4
  obtain ⟨i,s,rfl,hik,hfx,hs,hO,hown⟩:=hrel
  obtain ⟨wo,rfl⟩:∃ wo:World,wo=wr:=⟨_,rfl⟩
  obtain ⟨ko,rfl⟩:∃ ko:Nat,ko=gk:=⟨_,rfl⟩
  have hFr:Fr w wo:=((Fx.of_fr hF4).trans hfx).toFr (fun k hk e=>by have e:k=xb:=e; omega)
  have hsl:=redT_len i s hs.out
  by_cases hi:i < N
  ·have hdI:decide (i < N)=true:=decide_eq_true hi
   have hi2:i < L2.length:=by rw [hL2l.out]; exact hi
   obtain ⟨x,hx⟩:∃ x,L2[i]?=some x:=⟨_,List.getElem?_eq_getElem hi2⟩
   obtain ⟨b2,rfl,hb21,hb22,k1,k2⟩:=hprs.out i x hx
   have hxm:=List.mem_of_getElem? hx
   obtain ⟨hr1,hr2⟩:=hrowN.out i x hx
   have hxbb:=hL2b.out x hxm
   obtain ⟨hxo,gx,nx,cx2,hxu⟩:=hL2r.out x hxm
   obtain ⟨s',hs'⟩:=redT_mono N (i+1) s9 hred.out (by omega)
   have hst:=hs'
   rw [redT,hs.out] at hst
   replace hst:redStep (rowAt form i) s=some s':=hst
   rw [hr1] at hst
   obtain ⟨q1,q2,q3,q4,q5⟩:=redStep_some hst
   obtain ⟨p,hp,hpl⟩:∃ p:Nat,pivI x.xs=p∧p < x.xs.length:=by
    unfold pivI at q3 ⊢
    rcases idx_cases (fun y:Int=>y != 0) x.xs with ⟨-,h2⟩ | ⟨k,y,h1,h2,-⟩
    ·exfalso
     apply q3
     cases e:x.xs[(idx (fun y:Int=>y != 0) x.xs).toNat]? with
     | none=>rfl
     | some y=>have:=h2 y (List.mem_of_getElem? e); simpa using this
    ·exact ⟨k,h1,(List.getElem?_eq_some_iff.1 h2).1⟩
   rw [hp,Int.toNat_natCast] at q1 q2 q3 q4 q5
   have hpn:p < n:=by omega
   have sl:s.1.length=n:=hsl.1.trans hxl.out
   obtain ⟨y,hy⟩:∃ y,s.1[p]?=some y:=⟨_,List.getElem?_eq_getElem (by omega)⟩
   obtain ⟨z,hz⟩:∃ z,x.xs[p]?=some z:=⟨_,List.getElem?_eq_getElem hpl⟩
   rw [hy] at q1 q4 q5
   rw [hz] at q2 q3 q4 q5
   simp only [Option.getD_some] at q1 q2 q3 q4 q5
   have hxo':=hxo.fx hfx (fun e=>by have e:x.b=xb:=e; omega)
   have e1:x.enc.1=.slice (some ⟨x.b,0,none⟩) n x.c:=by unfold Ln.enc; rw [hr2]
   have e2:x.enc.2=.slice gx nx cx2:=hxu
   replace k1:=hfx.keep k1 (fun e=>by have e:b2=xb:=e; omega)
   replace k2:=hfx.keep k2 (fun e=>by have e:b2=xb:=e; omega)
   rw [e1] at k1
   rw [e2] at k2
   have hC5:=hC4.out.fx hfx (fun e=>by have e:lb=xb:=e; omega)
   obtain ⟨m0,m1,-,-⟩:=hC5
   have n1:=(hO.out.2.2 p y hy).1
   have n2:=(hxo'.2.2 p z hz).1
   rw [Nat.zero_add] at n1 n2
   have hGo:=hG.out.fr hFr
   have hif:=fun W (hW:Fr wo W)=>IndexFunc_hx x.xs (some ⟨x.b,0,none⟩) x.c 184 #[] (fun x=>x != 0) W eg.out (hxo'.fr hW).el (by omega) (hreduce1_pred W x.xs)
   rw [hr2,show idx (fun x:Int=>x != 0) x.xs=p from hp] at hif
   have hdv:=hZ (fun W (hW:Fr wo W)=>DivModWd y z q1 q2 q3 W (hGo.fr hW))
   obtain ⟨q,hq⟩:∃ q,q=y.fdiv z:=⟨_,rfl⟩
   rw [← hq] at q4 q5 hdv
   have hls:=fun W (hW:Fr wo W)=>hless_any xb 0 xc x.b 0 x.c n n q (.slice gu nu cu) s.1 x.xs s'.1 W (hGo.fr hW) (hO.out.fr hW) (hxo'.fr hW) (by omega) (by omega) sl.symm hr2.symm (by omega) rfl q4
   have hsn:Hid (s'.2.map sv=s.2.map sv ++ [sv q]):=by show _=_; rw [q5,List.map_append]; rfl
   replace hif:=hZ hif
   replace hls:=hZ hls
   obtain ⟨yb,hyb⟩:∃ yb,yb=x.b:=⟨_,rfl⟩
   obtain ⟨yc,hyc⟩:∃ yc,yc=x.c:=⟨_,rfl⟩
   rw [← hyb] at k1 n2 hif hls hxbb
   rw [← hyc] at k1 hif hls
   replace hy:=hZ hy
   replace hz:=hZ hz
   replace hp:=hZ hp
   replace hq:=hZ hq
   replace hyb:=hZ hyb
   replace hyc:=hZ hyc
   replace hr1:=hZ hr1
   replace hr2:=hZ hr2
   replace hs':=hZ hs'
   replace hx:=hZ hx
   replace hxm:=hZ hxm
   replace sl:=hZ sl
   replace hxo':=hZ hxo'
   replace hsl:=hZ hsl
   replace hi2:=hZ hi2
   clear hxo hxu e1 e2 hst q4 q5 q1 q2 q3
   have z0:(0:Int)≤(i:Int):=Int.natCast_nonneg _
   have z1:(i:Int) < (N:Int):=by omega
   have z2:(0:Int)≤(p:Int):=Int.natCast_nonneg _
   have z3:(p:Int) < (n:Int):=by omega
   obtain ⟨W5,hW5⟩:∃ W5,W5=wo.alloc (.cells #[.slice (some ⟨yb,0,none⟩) n yc,.slice gx nx cx2] 239):=⟨_,rfl⟩
   have f5:Fr wo W5:=by rw [hW5]; exact (Fr.refl _).alloc _
   obtain ⟨rk,hrk⟩:∃ rk,rk=wo.heap.size:=⟨_,rfl⟩
   have hCk:Cel2 W5 rk (.slice (some ⟨yb,0,none⟩) n yc) (.slice gx nx cx2):=by rw [hW5,hrk]; exact Cel2.new _ _ _ _
   have j1:=hCk.a
   go_upto_region 5 with (fail)
   rw [← hW5,← hrk]
   clear hW5 k1 k2
   replace m0:=f5.keep m0
   replace m1:=f5.keep m1
   replace n1:=f5.keep n1
   replace n2:=f5.keep n2
   replace hrk:=hZ hrk
   go_wp2_with fail
   refine (hif.out _ f5).mono ?_
   rintro e w6 ⟨rfl,hf6⟩
   have f6:=f5.trans hf6
   replace m0:=hf6.keep m0
   replace m1:=hf6.keep m1
   replace n1:=hf6.keep n1
   replace n2:=hf6.keep n2
   replace j1:=hf6.keep j1
   clear f5
   go_wp2_with fail
   go_region_held3 (fun w'=>w'.cell? ⟨lb,0,none⟩=some (.slice (some ⟨xb,0,none⟩) n xc)∧w'.cell? ⟨xb,p,none⟩=some (.string (tx y))∧w'.cell? ⟨rk,0,none⟩=some (.slice (some ⟨yb,0,none⟩) n yc)∧w'.cell? ⟨yb,p,none⟩=some (.string (tx z)))
    (first | go_keep | (go_split_ands; refine ⟨?_, ?_, ?_, ?_⟩ <;> (refine Fr.keep (by assumption) ?_; assumption)))
    (first | (go_at_call 112; refine (hdv.out _ ?_).mono ?_; (exact fr9); rintro e w7 ⟨rfl,hf7⟩))
   have f67:Fr w6 w7:=(Fr.refl w6).drew.trans hf7
   have f7:Fr wo w7:=f6.trans f67
   replace m0:=f67.keep m0
   replace m1:=f67.keep m1
   replace j1:=f67.keep j1
   clear n1 n2
   go_wp2_with fail
   refine (hls.out _ f7).mono ?_
   rintro e w8 ⟨rfl,hfx8,hO8⟩
   have hown8:=ownsRow_fx (ownsRow_fr hown.out f7) hfx8 (fun k e=>fun e2=>by have e2:k=xb:=e2; have:=(hown.out.lt k e).1; omega)
   have hfxA:=(hfx.fr f7).trans hfx8
   have hz8:=hfxA.size
   replace hO8:=hZ hO8
   clear m0 m1 j1
   go_wp2_with (at_builtin; refine wpList_append_lies _ rfl _ _ 119 (by rfl) _ 80 _ _ 1 16 Tryz.underlying119 ki kz0 kz1 kz2 rfl (by decide) _ i _ (by rfl) (World.ownsRow.alloc hown8 _) ⟨w8.heap.size,0,none⟩ 1 1 [.string (tx q)] (by rfl) rfl (cell_one_newN _ _ _ _ (by simp)) (by simp [Value.oneCell']) (by decide) (by unfold maxLen; omega) (by omega) (by skip; simp; omega) (w8.heap.size+1) (by simp) ?_; intro gA capA wA hownA hgrowA hatA hltA)
   go_wp2_with fail
   go_roundg (ko - 1)
   case measure=>omega
   case rel=>exact ⟨i+1,s',by go_num,by omega,(hfxA.alloc _).grownX hgrowA (fun k e=>(hown.out.lt k e).1),hs'.out,((hO8.out.fr ((Fr.refl _).alloc _)).fx (Fx.of_grown hgrowA) (fun e=>by have e9:=(hown.out.lt xb e).1; omega)),by show World.ownsRow _ _ _ _ _ _ _; rw [hsn.out]; exact hownA⟩
  ·have hdI:decide (i < N)=false:=decide_eq_false hi
   obtain rfl:N=i:=by omega
   have hs99:s=s9:=by have:=hs.out; rw [hred.out] at this; injection this with this; exact this.symm
   subst hs99
   have hC5:=hC4.out.fx hfx (fun e=>by have e:lb=xb:=e; omega)
   obtain ⟨m0,m1,-,-⟩:=hC5
   have hown9:=hZ (ownsRow_mono (base':=w.heap.size) hown.out hF4.size)
   have sl:Hid (s.1.length=n):=hsl.1.trans hxl.out
   replace hsl:=hZ hsl
   go_wp2_with fail
   go_ret2
   exact ⟨xb,xc,_,by rw [sl.out]; rfl,hO.out,by rw [hsl.out.2]; exact hown9.out,hFr⟩
theorem ContainsFunc_hx (xs:List Int) (a:Option Addr) (cap:Nat) (g:Nat) (lb:Array Value) (p:Int→Bool) (w:World)
 (eg:∀ args w,(callFunc g args).run Tryz.prog w=.ok (.enter g args) w) (hx:El w sv a xs) (hl:xs.length≤1000000000) (hp:Pred w g lb sv p xs) :
 Calls Tryz.prog 76 #[.slice a xs.length cap,.func (.func g) #[] lb] w fun e w'=>e=.returned (.bool (xs.any p))∧Fr w w':=by
 rw [← idx_any]
 have hc:=IndexFunc_hx xs a cap g lb p w eg hx hl hp
 clear hp
 go_enter Tryz.func76,Tryz.ntmps76
 go_wp2_with fail
 refine hc.mono ?_
 rintro e w' ⟨rfl,hf⟩
 go_wp2_with fail
 go_ret
 exact ⟨rfl,hf⟩
theorem hcontains1_pred (w:World) (xs:List Int):Pred w 153 #[] sv (fun x=>x != 0) xs:=fun x W _ _=>by
 show Calls Tryz.prog 153 #[.string (tx x)] W fun e W'=>e=.returned (.bool (x != 0))∧Fr W W'
 have hb:=tx_beq0 x
 have e:(x != 0)=!(decide (x=0)):=by by_cases h:x=0 <;> simp [h]
 rw [e,← hb]
 clear e hb
 go_enter Tryz.func153,Tryz.ntmps153
 go_wp2_with fail
 go_ret
 exact ⟨rfl,Fr.refl _⟩
def zeroB (xs:List Int):Bool:=!xs.any fun x=>x != 0
def qW (p:Nat→Nat) (K:List (List Int)) (x:Nat→Int):Nat→(Nat→Int)×(Nat→Int)
 | 0=>(x,fun _=>0)
 | i+1=>(fun k=>(qW p K x i).1 k - ((qW p K x i).1 (p i)).fdiv (ent K i (p i)) * ent K i k,fun j=>if j=i then ((qW p K x i).1 (p i)).fdiv (ent K i (p i)) else (qW p K x i).2 j)
theorem qW_back {p:Nat→Nat} {c t:Nat} {K:List (List Int)} (he:Ech p c t K) {x b:Nat→Int} (hx:∀ k,k < c→x k=dtS b (fun j=>ent K j k) t):∀ i,i≤t→(∀ k,k < c→(qW p K x i).1 k=dtS b (fun j=>ent K j k) t - dtS b (fun j=>ent K j k) i)∧∀ j,j < i→(qW p K x i).2 j=b j
 | 0,_=>⟨fun k hk=>by show x k=_ - 0; rw [hx k hk]; omega,fun j h=>absurd h (Nat.not_lt_zero _)⟩
 | i+1,hi=>by
   obtain ⟨ih,ih2⟩:=qW_back he hx i (by omega)
   have hpi:=he.lt i (by omega)
   have e1:∀ n,i < n→n≤t→dtS b (fun j=>ent K j (p i)) n=dtS b (fun j=>ent K j (p i)) i+b i * ent K i (p i):=fun n=>by
    induction n with
    | zero=>intro h; omega
    | succ n ihn=>
      intro h1 h2
      show dtS b (fun j=>ent K j (p i)) n+b n * ent K n (p i)=_
      by_cases e:n=i
      ·rw [e]
      ·rw [ihn (by omega) (by omega),he.low n (by omega) (p i) (he.inc i n (by omega) (by omega)),Int.mul_zero,Int.add_zero]
   have hq:((qW p K x i).1 (p i)).fdiv (ent K i (p i))=b i:=by
    rw [ih (p i) hpi,e1 t (by omega) (Nat.le_refl _)]
    have h0:=he.pos i (by omega)
    rw [show dtS b (fun j=>ent K j (p i)) i+b i * ent K i (p i) - dtS b (fun j=>ent K j (p i)) i=ent K i (p i) * b i by rw [Int.mul_comm]; omega]
    exact Int.mul_fdiv_cancel_left _ (by omega)
   refine ⟨fun k hk=>?_,fun j hj=>?_⟩
   ·show (qW p K x i).1 k - ((qW p K x i).1 (p i)).fdiv (ent K i (p i)) * ent K i k=_ - (dtS b (fun j=>ent K j k) i+b i * ent K i k)
    rw [hq,ih k hk]; omega
   ·show (if j=i then ((qW p K x i).1 (p i)).fdiv (ent K i (p i)) else (qW p K x i).2 j)=_
    by_cases e:j=i
    ·rw [if_pos e,hq,e]
    ·rw [if_neg e]; exact ih2 j (by omega)
def groW (B X:Nat):Nat→Nat
 | 0=>X
 | i+1=>groW B X i+groW B X i * B
theorem groW_le {B X:Nat}:∀ (i j:Nat),groW B X i≤groW B X (i+j)
 | _,0=>Nat.le_refl _
 | i,j+1=>Nat.le_trans (groW_le i j) (Nat.le_add_right _ _)
theorem redT_w {p:Nat→Nat} {n:Nat} {K:List (List Int)} (hr:Rect n K) (he:Ech p n K.length K) {B X:Nat} (hB:∀ i k,(ent K i k).natAbs≤B) (hBb:B < big) {x:List Int} (hl:x.length=n) (hx:∀ k:Nat,((x[k]?).getD 0).natAbs≤X) (hg:groW B X K.length < big) :
 ∀ i,i≤K.length→∃ s,redT K x i=some s∧(∀ k:Nat,(s.1[k]?).getD 0=(qW p K (fun k=>(x[k]?).getD 0) i).1 k)∧(∀ k:Nat,((s.1[k]?).getD 0).natAbs≤groW B X i)∧(∀ j,j < i→(s.2[j]?).getD 0=(qW p K (fun k=>(x[k]?).getD 0) i).2 j)∧∀ q,q ∈ s.2→q.natAbs≤groW B X i
 | 0,_=>⟨(x,[]),rfl,fun _=>rfl,hx,fun j h=>absurd h (Nat.not_lt_zero _),fun q h=>by simp at h⟩
 | i+1,hi=>by
   obtain ⟨s,h1,h2,h3,h4,h5⟩:=redT_w hr he hB hBb hl hx hg i (by omega)
   have hp:=ech_pivI he (show i < K.length by omega)
   obtain ⟨hs1,hs2⟩:=redT_len i s h1
   have hgi:groW B X i < big:=by
    have:=groW_le (B:=B) (X:=X) i (K.length - i)
    rw [Nat.add_sub_cancel' (by omega)] at this
    omega
   have h0:=he.pos i (by omega)
   have hq:(((s.1[p i]?).getD 0).fdiv (ent K i (p i))).natAbs≤groW B X i:=Nat.le_trans (fdiv_le (by omega)) (h3 (p i))
   have hrl:=rowAt_len hr (show i < K.length by omega)
   obtain ⟨y,hy⟩:=takeS_some (q:=((s.1[p i]?).getD 0).fdiv (ent K i (p i))) (xs:=s.1) (ys:=rowAt K i) (by rw [hrl,hs1,hl]) (fun _ k=>okW_of (by omega) (by have:=hB i k; show (ent K i k).natAbs < _; omega) (by have:=h3 k; omega))
   have hget:=takeS_get hy (by rw [hrl,hs1,hl])
   have hle:groW B X i≤groW B X (i+1):=groW_le i 1
   refine ⟨(y,s.2 ++ [((s.1[p i]?).getD 0).fdiv (ent K i (p i))]), ?_,fun k=>?_,fun k=>?_,fun j hj=>?_,fun q hq9=>?_⟩
   ·show (redT K x i).bind (redStep (rowAt K i))=_
    rw [h1]
    show redStep (rowAt K i) s=_
    unfold redStep
    rw [hp,Int.toNat_natCast]
    have c1:smW ((s.1[p i]?).getD 0)=true:=smW_of (by have:=h3 (p i); omega)
    have c2:smW (((rowAt K i)[p i]?).getD 0)=true:=smW_of (by have:=hB i (p i); show (ent K i (p i)).natAbs < _; omega)
    have c3:(((rowAt K i)[p i]?).getD 0 != 0)=true:=by
     have h9:ent K i (p i)≠0:=by omega
     exact bne_iff_ne.2 h9
    rw [c1,c2,c3]
    show (takeSW (((s.1[p i]?).getD 0).fdiv (ent K i (p i))) s.1 (rowAt K i)).map _=_
    rw [hy]; rfl
   ·rw [hget k,h2,h2]; rfl
   ·rw [hget k]
    exact abs_step (h3 k) hq (hB i k)
   ·show _=(if j=i then ((qW p K (fun k=>(x[k]?).getD 0) i).1 (p i)).fdiv (ent K i (p i)) else (qW p K (fun k=>(x[k]?).getD 0) i).2 j)
    by_cases e:j=i
    ·rw [if_pos e,e,List.getElem?_append_right (by omega),hs2,Nat.sub_self,h2]; rfl
    ·rw [if_neg e,List.getElem?_append_left (by omega)]; exact h4 j (by omega)
   ·rcases List.mem_append.1 hq9 with h | h
    ·exact Nat.le_trans (h5 q h) hle
    ·rw [List.mem_singleton.1 h]; exact Nat.le_trans hq hle
theorem zeroB_of {xs:List Int} (h:∀ k:Nat,(xs[k]?).getD 0=0):zeroB xs=true:=by
 unfold zeroB
 rw [Bool.not_eq_true',List.any_eq_false]
 intro y hy
 obtain ⟨k,hk⟩:=List.getElem?_of_mem hy
 have:=h k
 rw [hk] at this
 have:y=0:=this
 simp [this]
theorem groW_big:∀ {t:Nat},t≤6→groW 1000000000 1000000000 t < big:=fun {t} ht=>by
 have h1:=groW_le (B:=1000000000) (X:=1000000000) t (6 - t)
 rw [Nat.add_sub_cancel' ht] at h1
 have h2:groW 1000000000 1000000000 6 < 10 ^ 80:=by decide
 have h3:(10:Nat) ^ 80 < big:=dg_big (by decide)
 omega
theorem red_in {p:Nat→Nat} {n:Nat} {K:List (List Int)} (hr:Rect n K) (he:Ech p n K.length K) (hK:K.length≤6) (hB:∀ i k,(ent K i k).natAbs≤1000000000) {x:List Int} (hl:x.length=n) (hx:∀ y,y ∈ x→fitB y=true) {b:Nat→Int} (hb:∀ k,k < n→(x[k]?).getD 0=dtS b (fun j=>ent K j k) K.length) :
 ∃ s,redT K x K.length=some s∧zeroB s.1=true∧(∀ j,j < K.length→(s.2[j]?).getD 0=b j)∧∀ q,q ∈ s.2→(tx q).size≤1000000000:=by
 have hx2:∀ k:Nat,((x[k]?).getD 0).natAbs≤1000000000:=fun k=>by
  cases e:x[k]? with
  | none=>simp
  | some y=>
    have:=hx y (List.mem_of_getElem? e)
    unfold fitB at this
    have:=of_decide_eq_true this
    rw [Option.getD_some]; omega
 have hb9:1000000000 < big:=Nat.lt_of_lt_of_le (by decide) big_40
 obtain ⟨s,h1,h2,h3,h4,h5⟩:=redT_w hr he hB hb9 hl hx2 (groW_big hK) K.length (Nat.le_refl _)
 obtain ⟨q1,q2⟩:=qW_back he hb K.length (Nat.le_refl _)
 refine ⟨s,h1,zeroB_of fun k=>?_,fun j hj=>(h4 j hj).trans (q2 j hj),fun q hq=>?_⟩
 ·by_cases hk:k < n
  ·rw [h2 k,q1 k hk]; omega
  ·have:=(redT_len _ s h1).1
   rw [List.getElem?_eq_none (by omega)]; rfl
 ·have h9:Wd q:=Nat.lt_of_le_of_lt (h5 q hq) (groW_big hK)
  have:=h9.size
  omega
/- the identity -/
theorem unitM_ent {n i k:Nat} (hi:i < n):ent (unitM n) i k=if i=k then 1 else 0:=by
 unfold ent rowAt unitM
 rw [List.getElem?_map,List.getElem?_range hi]
 show (((unitRow n i))[k]?).getD 0=_
 unfold unitRow
 by_cases e:i=k
 ·rw [if_pos e,← e,List.getElem?_set_self (by rw [List.length_replicate]; exact hi)]; rfl
 ·rw [if_neg e,List.getElem?_set_ne e]
  by_cases hk:k < n
  ·rw [List.getElem?_replicate,if_pos hk]; rfl
  ·rw [List.getElem?_replicate,if_neg hk]; rfl
theorem unitM_rect (n:Nat):Rect n (unitM n):=fun r hr=>by
 unfold unitM at hr
 obtain ⟨i,-,rfl⟩:=List.mem_map.1 hr
 unfold unitRow
 rw [List.length_set,List.length_replicate]
theorem unitM_one {n:Nat}:∀ r,r ∈ unitM n→∀ x,x ∈ r→x=0∨x=1:=fun r hr x hx=>by
 unfold unitM at hr
 obtain ⟨i,-,rfl⟩:=List.mem_map.1 hr
 unfold unitRow at hx
 rcases List.mem_or_eq_of_mem_set hx with h | h
 ·exact .inl (List.eq_of_mem_replicate h)
 ·exact .inr h
theorem unitM_ech (n:Nat):Ech (fun i=>i) n n (unitM n) :=
 ⟨by rw [unitM_len]; exact Nat.le_refl _,fun i a b k _=>absurd b (by rw [unitM_len]; omega),fun i hi=>hi,fun i j h _=>h,fun i hi=>by rw [unitM_ent hi,if_pos rfl]; decide,fun i hi k hk=>by rw [unitM_ent hi,if_neg (by omega)],fun i j hij hj=>by rw [unitM_ent (by omega),unitM_ent hj,if_neg (by omega),if_pos rfl]; decide⟩
theorem unitM_fit {n:Nat}:∀ r,r ∈ unitM n→∀ x,x ∈ r→fitB x=true:=fun r hr x hx=>by
 rcases unitM_one r hr x hx with rfl | rfl <;> decide
theorem unitM_tab {n:Nat} (hn:n≤6):TabOk n (unitM n):=⟨by rw [unitM_len]; omega,by omega,unitM_rect n,unitM_fit⟩
theorem unitM_form (n:Nat):formOk (unitM n)=true:=ech_form (c:=n) (p:=fun i=>i) (by rw [unitM_len]; exact unitM_ech n)
theorem unitM_bd {n:Nat} (i k:Nat):(ent (unitM n) i k).natAbs≤1000000000:=ent_bd (fun r hr x hx=>by rcases unitM_one r hr x hx with rfl | rfl <;> decide) i k
theorem unitM_red {n:Nat} (hn:n≤6) {x:List Int} (hl:x.length=n) (hx:∀ y,y ∈ x→fitB y=true):∃ s,redT (unitM n) x (unitM n).length=some s∧zeroB s.1=true∧s.2=x∧∀ q,q ∈ s.2→(tx q).size≤1000000000:=by
 obtain ⟨s,h1,h2,h3,h4⟩:=red_in (unitM_rect n) (by rw [unitM_len]; exact unitM_ech n) (by rw [unitM_len]; exact hn) unitM_bd hl hx (b:=fun k=>(x[k]?).getD 0) (fun k hk=>by
  rw [unitM_len]
  have e:dtS (fun k=>(x[k]?).getD 0) (fun j=>ent (unitM n) j k) n=dtS (fun j=>if k=j then 1 else 0) (fun k=>(x[k]?).getD 0) n:=by
   rw [dtS_flip]
   exact dtS_congr fun j hj=>⟨by
    rw [unitM_ent hj]
    by_cases e:j=k
    ·rw [if_pos e,if_pos e.symm]
    ·rw [if_neg e,if_neg (fun h=>e h.symm)],rfl⟩
  rw [e,dtS_delta,if_pos hk,Int.one_mul])
 refine ⟨s,h1,h2, ?_,h4⟩
 have hs2:=(redT_len _ s h1).2
 rw [unitM_len] at h3 hs2
 refine List.ext_getElem? fun j=>?_
 by_cases hj:j < n
 ·have h9:=h3 j hj
  rw [List.getElem?_eq_getElem (by omega),List.getElem?_eq_getElem (by omega)] at h9 ⊢
  rw [Option.getD_some,Option.getD_some] at h9
  rw [h9]
 ·rw [List.getElem?_eq_none (by omega),List.getElem?_eq_none (by omega)]
theorem kern_nil1000:∀ n,n≤6→kernS 1000 n []=some (unitM n)∧kernS 1000 n (unitM n)=some []
 | 0,_ | 1,_ | 2,_ | 3,_ | 4,_ | 5,_ | 6,_=>by refine ⟨?_, ?_⟩ <;> decide +kernel
 | _+7,h=>absurd h (by omega)
theorem kern_nil {n:Nat} (hn:n≤6):kernS FX n []=some (unitM n)∧kernS FX n (unitM n)=some [] :=
 ⟨kernS_more (Nat.le_trans (by decide) FX_ge) (kern_nil1000 n hn).1,kernS_more (Nat.le_trans (by decide) FX_ge) (kern_nil1000 n hn).2⟩
theorem ker_nil {n:Nat} (hn:n≤6):ker n []=unitM n∧ker n (unitM n)=[]:=by
 unfold ker
 rw [(kern_nil hn).1,(kern_nil hn).2]
 exact ⟨rfl,rfl⟩
theorem unitM_all (n:Nat):allFit (unitM n)=true:=List.all_eq_true.2 fun r hr=>List.all_eq_true.2 fun x hx=>unitM_fit r hr x hx
theorem frOk_nil {n:Nat} (hn:n≤6):frOk n (ofB n [])=true:=by
 rw [ofB_nil]
 unfold frOk
 rw [(ker_nil hn).1,(ker_nil hn).2,unitM_all]
 rfl
theorem Just_any (P:List Int) (aP:Option Addr) (cP:Nat) (w:World) (hG:G w) (hE:ErX w) (hp:primeE P=0) (hP4:P.length≤4) (hP:El w iv aP P) :
 Calls Tryz.prog 35 #[.slice aP P.length cP] w (TRet w 0 P [] (unitM P.length)):=by
 have hT:=C3.new w (.slice none 0 0) (.slice none 0 0) (.slice none 0 0) 29
 obtain ⟨wb,hwb⟩:∃ wb,wb=w.alloc (.cells #[.slice none 0 0,.slice none 0 0,.slice none 0 0] 29):=⟨_,rfl⟩
 have hfb:Fr w wb:=by rw [hwb]; exact (Fr.refl _).alloc _
 have hszb:Hid (wb.heap.size=w.heap.size+1):=by show _=_; rw [hwb]; simp
 rw [← hwb] at hT
 have hfm:=FromCommas_any P [] aP none cP 0 wb (hG.fr hfb) (hE.fr hfb) hp hP4 (hP.fr hfb) (.inl rfl) (fun r hr=>by simp at hr) (by simp) (fun r hr=>by simp at hr) (fun _=>⟨rfl,rfl⟩)
 have hn6:P.length≤6:=by omega
 rw [frOk_nil hn6,ofB_nil,(ker_nil hn6).1,(ker_nil hn6).2] at hfm
 have e2:([]:List (List Int)).length=0:=rfl
 rw [e2] at hfm
 obtain ⟨M,hM⟩:∃ M,M=unitM P.length:=⟨_,rfl⟩
 rw [← hM] at hfm ⊢
 unfold FmRet at hfm
 obtain ⟨n,hn⟩:∃ n,n=P.length:=⟨_,rfl⟩
 rw [← hn] at hfm ⊢
 replace hn:=hZ hn
 replace hM:=hZ hM
 replace hfm:=hZ hfm
 replace hT:=hZ hT
 clear hG hE hp hP
 go_enter Tryz.func35,Tryz.ntmps35
 go_upto_region 1 with (fail)
 rw [← hwb]
 clear hwb
 obtain ⟨rb,hrb⟩:∃ rb,rb=w.heap.size:=⟨_,rfl⟩
 rw [← hrb] at hT ⊢
 replace hrb:=hZ hrb
 go_wp2_with fail
 refine hfm.out.mono ?_
 rintro e w3 ⟨hf3,hok,-⟩
 have hT3:=hT.out.fr hf3
 have hfw:=hfb.trans hf3
 obtain ⟨pa,pc,ca,cc,ma,mc,rfl,hel,hmc,hmm,hcc,hcm⟩:=hok trivial
 clear hok
 replace hel:=hZ hel
 replace hmc:=hZ hmc
 replace hmm:=hZ hmm
 have hchp:=hZ (fun Wf (hfT:Fx (·=rb) w3 Wf) W (hW:Fx (· < w.heap.size) Wf W)=>(hfT.mono (q:=(· < wb.heap.size)) (fun k e=>by have e:k=rb:=e; have:=hrb.out; have:=hszb.out; show k < _; omega)).trans (hW.mono (q:=(· < wb.heap.size)) (fun k e=>by have e:k < w.heap.size:=e; have:=hszb.out; show k < _; omega)))
 have q0:=hT3.a
 have q1:=hT3.fa
 have q2:=hT3.b
 have q3:=hT3.fb
 have q4:=hT3.c
 have q5:=hT3.fc
 have hU:=hT3.set0 (.slice pa n pc)
 have p0:=hU.b
 have p1:=hU.fb
 have hU1:=hU.set1 (.slice ca 0 cc)
 have p2:=hU1.c
 have p3:=hU1.fc
 have hU2:=hU1.set2 (.slice ma M.length mc)
 have y0:=hZ hU2.a
 have y1:=hZ hU2.b
 have y2:=hZ hU2.c
 have hfxT:Fx (·=rb) w3 (((w3.setCell ⟨rb,0,none⟩ (.slice pa n pc)).setCell ⟨rb,1,none⟩ (.slice ca 0 cc)).setCell ⟨rb,2,none⟩ (.slice ma M.length mc)):=Fx.setCell (p:=(·=rb)) (q:=⟨rb,2,none⟩) (Fx.setCell (p:=(·=rb)) (q:=⟨rb,1,none⟩) (Fx.setCell (p:=(·=rb)) (q:=⟨rb,0,none⟩) (Fx.refl _ _) (.inl rfl) _) (.inl rfl) _) (.inl rfl) _
 have hfin:=hZ (((Fx.of_fr (hfw)).trans hfxT).toFr (fun k hk e=>by have e:k=rb:=e; have:=hrb.out; omega))
 replace hfxT:=hZ hfxT
 clear hU hU1 hU2
 go_wp2_with fail
 have v0:=y0.out
 have v1:=y1.out
 have v2:=y2.out
 refine bodyPost_ret (v:=.tuple #[.agg #[.slice pa n pc,.slice ca 0 cc,.slice ma M.length mc],.int .i64 0]) (by simp [results,Tryz.results35,go_sem,v0,v1,v2]) rfl ?_
 exact ⟨hfin.out,fun _=>⟨pa,pc,ca,cc,ma,mc,by rw [hn.out]; rfl,fun W hW=>hel.out W (hchp.out _ hfxT.out W hW),fun W hW=>hmc.out W (hchp.out _ hfxT.out W hW),fun W hW=>hmm.out W (hchp.out _ hfxT.out W hW),hcc,hcm⟩,fun h=>absurd rfl h⟩
theorem Trivial_any (P:List Int) (aP:Option Addr) (cP:Nat) (w:World) (hG:G w) (hE:ErX w) (hp:primeE P=0) (hP4:P.length≤4) (hP:El w iv aP P) :
 Calls Tryz.prog 36 #[.slice aP P.length cP] w (TRet w 0 P (unitM P.length) []):=by
 have hT:=C3.new w (.slice none 0 0) (.slice none 0 0) (.slice none 0 0) 29
 obtain ⟨wb,hwb⟩:∃ wb,wb=w.alloc (.cells #[.slice none 0 0,.slice none 0 0,.slice none 0 0] 29):=⟨_,rfl⟩
 have hfb:Fr w wb:=by rw [hwb]; exact (Fr.refl _).alloc _
 have hszb:Hid (wb.heap.size=w.heap.size+1):=by show _=_; rw [hwb]; simp
 rw [← hwb] at hT
 have hfm:=FromMapping_any P [] aP none cP 0 wb (hG.fr hfb) (hE.fr hfb) hp hP4 (hP.fr hfb) (.inl rfl) (fun r hr=>by simp at hr) (by simp) (fun r hr=>by simp at hr) (fun _=>⟨rfl,rfl⟩)
 have hn6:P.length≤6:=by omega
 rw [frOk_nil hn6,ofB_nil,(ker_nil hn6).1,(ker_nil hn6).2] at hfm
 have e2:([]:List (List Int)).length=0:=rfl
 rw [e2] at hfm
 obtain ⟨M,hM⟩:∃ M,M=unitM P.length:=⟨_,rfl⟩
 rw [← hM] at hfm ⊢
 unfold FmRet at hfm
 obtain ⟨n,hn⟩:∃ n,n=P.length:=⟨_,rfl⟩
 rw [← hn] at hfm ⊢
 replace hn:=hZ hn
 replace hM:=hZ hM
 replace hfm:=hZ hfm
 replace hT:=hZ hT
 clear hG hE hp hP
 go_enter Tryz.func36,Tryz.ntmps36
 go_upto_region 1 with (fail)
 rw [← hwb]
 clear hwb
 obtain ⟨rb,hrb⟩:∃ rb,rb=w.heap.size:=⟨_,rfl⟩
 rw [← hrb] at hT ⊢
 replace hrb:=hZ hrb
 go_wp2_with fail
 refine hfm.out.mono ?_
 rintro e w3 ⟨hf3,hok,-⟩
 have hT3:=hT.out.fr hf3
 have hfw:=hfb.trans hf3
 obtain ⟨pa,pc,ca,cc,ma,mc,rfl,hel,hmc,hmm,hcc,hcm⟩:=hok trivial
 clear hok
 replace hel:=hZ hel
 replace hmc:=hZ hmc
 replace hmm:=hZ hmm
 have hchp:=hZ (fun Wf (hfT:Fx (·=rb) w3 Wf) W (hW:Fx (· < w.heap.size) Wf W)=>(hfT.mono (q:=(· < wb.heap.size)) (fun k e=>by have e:k=rb:=e; have:=hrb.out; have:=hszb.out; show k < _; omega)).trans (hW.mono (q:=(· < wb.heap.size)) (fun k e=>by have e:k < w.heap.size:=e; have:=hszb.out; show k < _; omega)))
 have q0:=hT3.a
 have q1:=hT3.fa
 have q2:=hT3.b
 have q3:=hT3.fb
 have q4:=hT3.c
 have q5:=hT3.fc
 have hU:=hT3.set0 (.slice pa n pc)
 have p0:=hU.b
 have p1:=hU.fb
 have hU1:=hU.set1 (.slice ca M.length cc)
 have p2:=hU1.c
 have p3:=hU1.fc
 have hU2:=hU1.set2 (.slice ma 0 mc)
 have y0:=hZ hU2.a
 have y1:=hZ hU2.b
 have y2:=hZ hU2.c
 have hfxT:Fx (·=rb) w3 (((w3.setCell ⟨rb,0,none⟩ (.slice pa n pc)).setCell ⟨rb,1,none⟩ (.slice ca M.length cc)).setCell ⟨rb,2,none⟩ (.slice ma 0 mc)):=Fx.setCell (p:=(·=rb)) (q:=⟨rb,2,none⟩) (Fx.setCell (p:=(·=rb)) (q:=⟨rb,1,none⟩) (Fx.setCell (p:=(·=rb)) (q:=⟨rb,0,none⟩) (Fx.refl _ _) (.inl rfl) _) (.inl rfl) _) (.inl rfl) _
 have hfin:=hZ (((Fx.of_fr (hfw)).trans hfxT).toFr (fun k hk e=>by have e:k=rb:=e; have:=hrb.out; omega))
 replace hfxT:=hZ hfxT
 clear hU hU1 hU2
 go_wp2_with fail
 have v0:=y0.out
 have v1:=y1.out
 have v2:=y2.out
 refine bodyPost_ret (v:=.tuple #[.agg #[.slice pa n pc,.slice ca M.length cc,.slice ma 0 mc],.int .i64 0]) (by simp [results,Tryz.results36,go_sem,v0,v1,v2]) rfl ?_
 exact ⟨hfin.out,fun _=>⟨pa,pc,ca,cc,ma,mc,by rw [hn.out]; rfl,fun W hW=>hel.out W (hchp.out _ hfxT.out W hW),fun W hW=>hmc.out W (hchp.out _ hfxT.out W hW),fun W hW=>hmm.out W (hchp.out _ hfxT.out W hW),hcc,hcm⟩,fun h=>absurd rfl h⟩
theorem TmF.of {w:World} {aP aC aM:Option Addr} {cP cC cM:Nat} {P:List Int} {C M:List (List Int)} (hG:G w) (hP:El w iv aP P) (hC:MatIs w aC C) (hM:MatIs w aM M) (hcap:C.length≤cC) (hT:TgW P C M):TmF w aP aC aM cP cC cM P C M 0 :=
 ⟨hP,hC,hM,fun W hW=>TCheck_w P C M aP aC aM cP cC cM W (hG.fr hW) (hP.fr hW) (hC.fr hW) (hM.fr hW) hcap hT,by have:=hT.n6; omega,fun _=>⟨hT.n6,hT.tabC.1,hT.tabM.1,hT.tabC.2.2.1,hT.tabM.2.2.1,hT.tabC.2.2.2,hT.tabM.2.2.2⟩⟩
theorem TabOk.nilT {n:Nat} (hn:n≤6):TabOk n []:=⟨by simp,by omega,fun r hr=>by simp at hr,fun r hr=>by simp at hr⟩
theorem TgW.just {P:List Int} (hp:primeE P=0):TgW P [] (unitM P.length):=by
 obtain ⟨h1,h6,-⟩:=primeE_mem hp
 exact ⟨h1,h6,hp,TabOk.nilT h6,unitM_tab h6,rfl,(kern_nil h6).1,(kern_nil h6).2⟩
theorem TgW.triv {P:List Int} (hp:primeE P=0):TgW P (unitM P.length) []:=by
 obtain ⟨h1,h6,-⟩:=primeE_mem hp
 exact ⟨h1,h6,hp,unitM_tab h6,TabOk.nilT h6,unitM_form _,(kern_nil h6).2,(kern_nil h6).1⟩
end Go.Proofs.YtiniigadkknboaaGreatDoor
