/- Contracts and laws: VRS. -/
import Derived.Test.YtcglmebcfeoedaaGreatDoorVD
import Derived.Test.YtcglmebcfeoedaaGreatDoorVFG
import Derived.Test.YtcglmebcfeoedaaGreatDoorVB

namespace Go.Proofs.YtcglmebcfeoedaaGreatDoor
open Go.RowKit Go.Lib
def EL (g:List (List Rat)) (i:Nat):List Rat:=(g[i]?).getD []
def DP (g:List (List Rat)) (i c:Nat):Rat:=((EL g i)[c]?).getD 0
def Tt (r:List Rat):Bool:=r.all fun x=>decide (Tq x)
def FF (g:List (List Rat)) (c k:Nat):Nat:=k+(g.drop k).findIdx fun r=>decide ((r[c]?).getD 0≠0)
def Lv (f x y:Rat):Bool:=decide (Tq f∧Tq y∧Tq (f * y)∧Tq x)
def GB (f:Rat):List Rat→List Rat→Option (List Rat)
 | [],_=>some []
 | x :: xs,y :: ys=>if Lv f x y then (GB f xs ys).map ((x - f * y) :: ·) else none
 | _ :: _,[]=>none
theorem H3 (f:Rat):∀ (xs ys zs:List Rat),GB f xs ys=some zs→zs.length=xs.length∧∀ (k:Nat) (x:Rat),xs[k]?=some x→∃ y,ys[k]?=some y∧Lv f x y=true∧zs[k]?=some (x - f * y)
 | [],ys,zs,h=>by
   injection h with h; subst h
   exact ⟨rfl,fun k x hx=>by simp at hx⟩
 | x :: xs,[],zs,h=>by simp [GB] at h
 | x :: xs,y :: ys,zs,h=>by
   simp only [GB] at h
   split at h
   ·rename_i hok
    cases e:GB f xs ys with
    | none=>rw [e] at h; simp at h
    | some ws=>
      rw [e] at h
      simp only [Iw,S9] at h
      subst h
      obtain ⟨h1,h2⟩:=H3 f xs ys ws e
      refine ⟨by simp [h1],fun k z hz=>?_⟩
      cases k with
      | zero=>rw [K2] at hz; injection hz with hz; subst hz; exact ⟨y,rfl,hok,rfl⟩
      | succ k=>rw [B4] at hz; obtain ⟨y',a,b,c⟩:=h2 k z hz; exact ⟨y',a,b,c⟩
   ·simp at h
def FL (g:List (List Rat)) (c k:Nat):Nat→Option (List (List Rat))
 | 0=>some g
 | i+1=>(FL g c k i).bind fun g=>if i=k∨DP g i c=0 then some g else (GB (DP g i c) (EL g i) (EL g k)).map fun r=>g.set i r
structure RS where
 g:List (List Rat)
 lead:List Nat
 det:Rat
def Cn (g:List (List Rat)) (k a:Nat):List (List Rat):=if a=k then g else swp g k a
def EW (d:Rat) (k a:Nat):Rat:=if a=k then d else -d
def H4 (c:Nat) (s:RS):Option RS :=
 if FF s.g c s.lead.length=s.g.length then some ⟨s.g,s.lead,0⟩ else
  if Tq s.det∧Tq (DP (Cn s.g s.lead.length (FF s.g c s.lead.length)) s.lead.length c)∧Tt (EL (Cn s.g s.lead.length (FF s.g c s.lead.length)) s.lead.length)=true then
   (FL ((Cn s.g s.lead.length (FF s.g c s.lead.length)).set s.lead.length ((EL (Cn s.g s.lead.length (FF s.g c s.lead.length)) s.lead.length).map (· / DP (Cn s.g s.lead.length (FF s.g c s.lead.length)) s.lead.length c))) c s.lead.length s.g.length).map
    fun g3=>⟨g3,s.lead ++ [c],EW s.det s.lead.length (FF s.g c s.lead.length) * DP (Cn s.g s.lead.length (FF s.g c s.lead.length)) s.lead.length c⟩
  else none
def Cg (g:List (List Rat)):Nat→Option RS
 | 0=>some ⟨g,[],1⟩
 | c+1=>(Cg g c).bind (H4 c)
example:(Cg [[2,1],[4,3]] 2).map (fun s=>(s.g,s.lead,s.det))=some ([[1,0],[0,1]],[0,1],2):=by decide +kernel
def ET (n:Nat) (g:List (List Rat)):Prop:=∀ r,r ∈ g→r.length=n
theorem ET.row {n:Nat} {g:List (List Rat)} (h:ET n g) {i:Nat} (hi:i < g.length):(g[i]).length=n:=h _ (A8 hi)
theorem ET.set {n:Nat} {g:List (List Rat)} (h:ET n g) {i:Nat} {r:List Rat} (hr:r.length=n):ET n (g.set i r):=fun x hx=>by
 rcases B8 hx with h1 | h1
 ·exact h x h1
 ·rw [h1]; exact hr
theorem Gv {g:List (List Rat)} {i:Nat} (hi:i < g.length):EL g i=g[i]:=by unfold EL; rw [Ab hi]; rfl
theorem La {g:List (List Rat)} {n i c:Nat} (h:ET n g) (hi:i < g.length) (hc:c < n):(g[i])[c]?=some (DP g i c):=by
 unfold DP; rw [Gv hi]
 have:c < (g[i]).length:=by rw [h.row hi]; exact hc
 rw [Ab this]; rfl
theorem KH {n k a:Nat} {g:List (List Rat)} (h:ET n g):ET n (Cn g k a):=by
 unfold Cn; split
 ·exact h
 ·exact fun r hr=>h r (K6 hr)
theorem Hk (g:List (List Rat)) (k a:Nat):(Cn g k a).length=g.length:=by
 unfold Cn; split
 ·rfl
 ·exact Fp _ _ _
theorem Ie {g:List (List Rat)} {c k n:Nat} (hr:ET n g):∀ (t:Nat) (g':List (List Rat)),FL g c k t=some g'→t≤g.length→ET n g'∧g'.length=g.length
 | 0,g',h,_=>by injection h with h; subst h; exact ⟨hr,rfl⟩
 | t+1,g',h,hl=>by
   rw [FL] at h
   obtain ⟨g1,h1,h2⟩:=A2.1 h
   obtain ⟨a,b⟩:=Ie hr t g1 h1 (by omega)
   split at h2
   ·injection h2 with h2; subst h2; exact ⟨a,b⟩
   ·obtain ⟨r,h3,h4⟩:=AV.1 h2
    subst h4
    have:=(H3 _ _ _ _ h3).1
    exact ⟨a.set (by rw [this,Gv (by omega)]; exact a.row (by omega)),by rw [AN]; exact b⟩
theorem L0 {g:List (List Rat)} {c k:Nat}:∀ (t T:Nat) (g':List (List Rat)),FL g c k T=some g'→t≤T→∃ g1,FL g c k t=some g1
 | t,0,g',h,ht=>by
   have e:t=0:=by omega
   subst e
   exact ⟨g',h⟩
 | t,T+1,g',h,ht=>by
   by_cases e:t=T+1
   ·subst e; exact ⟨g',h⟩
   ·rw [FL] at h
    obtain ⟨g1,h1,-⟩:=A2.1 h
    exact L0 t T g1 h1 (by omega)
theorem UO (g:List (List Rat)) (c k:Nat) (h:k≤g.length):k≤FF g c k∧FF g c k≤g.length:=by
 unfold FF
 have:=Y4 (p:=fun r:List Rat=>decide ((r[c]?).getD 0≠0)) (xs:=g.drop k)
 rw [B3] at this
 omega
theorem Mi {g:List (List Rat)} {c i:Nat} (hi:i < g.length) (h:DP g i c=0):FF g c (i+1)=FF g c i:=by
 have e:g.drop i=g[i] :: g.drop (i+1):=(B9 hi)
 unfold FF
 rw [e,Ka]
 have:decide (((g[i])[c]?).getD 0≠0)=false:=by
  rw [YO,Decidable.not_not]
  unfold DP at h
  rw [Gv hi] at h
  exact h
 rw [this]
 simp only [cond_false]
 omega
theorem Ps {g:List (List Rat)} {c i:Nat} (hi:i < g.length) (h:DP g i c≠0):FF g c i=i:=by
 have e:g.drop i=g[i] :: g.drop (i+1):=(B9 hi)
 unfold FF
 rw [e,Ka]
 have:decide (((g[i])[c]?).getD 0≠0)=true:=by
  rw [decide_eq_true_iff]
  unfold DP at h
  rw [Gv hi] at h
  exact h
 rw [this]
 rfl
theorem Wj {g:List (List Rat)} {c:Nat}:FF g c g.length=g.length:=by
 unfold FF
 rw [Ep]
 rfl
attribute [local go_sem ↓] AA AB
theorem Xs {y:Rat} (h:Tq y):Tq (-y):=h.neg
theorem LC {g:List (List Rat)}:∀ (c C:Nat) (s:RS),Cg g C=some s→c≤C→∃ s1,Cg g c=some s1
 | c,0,s,h,hc=>by
   have e:c=0:=by omega
   subst e
   exact ⟨s,h⟩
 | c,C+1,s,h,hc=>by
   by_cases e:c=C+1
   ·subst e; exact ⟨s,h⟩
   ·rw [Cg] at h
    obtain ⟨s1,h1,-⟩:=A2.1 h
    exact LC c C s1 h1 (by omega)
structure Le (w:World) (D:Nat) (d:Rat):Prop where
 a:w.cell? ⟨D,0,none⟩=some (sv d.num)
 b:w.cell? ⟨D,1,none⟩=some (sv (d.den:Int))
 fa:w.frozen? ⟨D,0,none⟩=false
 fb:w.frozen? ⟨D,1,none⟩=false
theorem Le.fx {p:Nat→Prop} {w w':World} {D:Nat} {d:Rat} (h:Le w D d) (k:Fx p w w') (hp:¬ p D):Le w' D d :=
 ⟨k.keep h.a hp,k.keep h.b hp,k.keepf h.a h.fa hp,k.keepf h.b h.fb hp⟩
theorem Le.fr {w w':World} {D:Nat} {d:Rat} (h:Le w D d) (k:Fr w w'):Le w' D d:=⟨k.keep h.a,k.keep h.b,k.keepf h.a h.fa,k.keepf h.b h.fb⟩
theorem Le.new (w:World) (d:Rat) (t:TypeId):Le (w.alloc (.cells #[sv d.num,sv (d.den:Int)] t)) w.heap.size d :=
 ⟨(CZ _ _ _ _).1,(CY _ _ _ _).1,(CZ _ _ _ _).2,(CY _ _ _ _).2⟩
theorem Le.set {w:World} {D:Nat} {d:Rat} (h:Le w D d) (e:Rat):Le ((w.setCell ⟨D,0,none⟩ (sv e.num)).setCell ⟨D,1,none⟩ (sv (e.den:Int))) D e:=by
 obtain ⟨a,b,-,-⟩:=A7 w D (sv e.num) (sv (e.den:Int)) _ _ h.a h.b
 exact ⟨a,b,by rw [Ap,Ap]; exact h.fa,by rw [Ap,Ap]; exact h.fb⟩
theorem GW {w:World} {base:Nat} {v:Value} {l:List Int} {n:Nat} (h:w.ownsRow base 3 1 v n (l.map iv)):∃ a c,v=.slice a n c∧El w iv a l:=by
 have hn:l.length=n:=by have:=h.1; simpa using this
 rcases h.2 with ⟨h1,h2⟩ | ⟨g,cap,cur,hv,_⟩
 ·have e:l=[]:=AD (by omega)
  subst e
  have h2:n=0:=by omega
  subst h2
  exact ⟨none,0,h1,.inl rfl⟩
 ·subst hv
  obtain ⟨-,h1,h2,h3,h4⟩:=Bf h
  refine ⟨_,_,rfl,.inr ⟨g,0,rfl,h2,fun i x hx=>?_⟩⟩
  rw [Az]
  exact (h4 i (iv x) (by rw [Ao,hx]; rfl)).1
structure K0 (w W:World) (ob oo D:Nat) (hs hsX:List (Nat×Nat×Nat)) (g:List (List Rat)) (d:Rat) (v:Value) (k:Nat) (ls:List Int):Prop where
 grid:Ew W ob oo hsX g
 same:Kz ob hsX hs
 fx:Fx (gb ob hs) w W
 det:Le W D d
 size:D+1≤W.heap.size
 lead:W.ownsRow (D+1) 3 1 v k (ls.map iv)
section
variable {w W W':World} {ob oo D k:Nat} {hs hsX:List (Nat×Nat×Nat)} {g:List (List Rat)} {d:Rat} {v:Value} {ls:List Int}
theorem K0.fr (h:K0 w W ob oo D hs hsX g d v k ls) (f:Fr W W'):K0 w W' ob oo D hs hsX g d v k ls :=
 ⟨h.grid.fr f,h.same,h.fx.fr f,h.det.fr f,AE h.size f.size,Ba h.lead f⟩
theorem K0.gbD (h:K0 w W ob oo D hs hsX g d v k ls) (hbD:∀ j,gb ob hs j→j < D):∀ j,gb ob hsX j→j < D:=fun j hj=>hbD j ((h.same.1 j).1 hj)
theorem K0.detSet (h:K0 w W ob oo D hs hsX g d v k ls) (hbD:∀ j,gb ob hs j→j < D) (hD:D=w.heap.size) (e:Rat):K0 w ((W.setCell ⟨D,0,none⟩ (sv e.num)).setCell ⟨D,1,none⟩ (sv (e.den:Int))) ob oo D hs hsX g e v k ls:=by
 have hfx:=(A7 W D (sv e.num) (sv (e.den:Int)) _ _ h.det.a h.det.b).2.2.2
 exact ⟨h.grid.fx hfx (fun j hj e=>by have:=h.gbD hbD j hj; omega),h.same,
  (h.fx.setCell (q:=⟨D,0,none⟩) (.inr (by rw [hD]; exact Ag _)) _).setCell (q:=⟨D,1,none⟩) (.inr (by rw [hD]; exact Ag _)) _,
  h.det.set e,by rw [Cs,Cs]; exact h.size,BM h.lead hfx (fun b hb e=>by have:=(h.lead.lt b hb).1; omega)⟩
theorem K0.rowSet (h:K0 w W ob oo D hs hsX g d v k ls) (hbD:∀ j,gb ob hs j→j < D) {i b o c:Nat} (hi:hsX[i]?=some (b,o,c)) {zs:List Rat} (f:Fx (·=b) W W') (ho:FG W' b o zs) (hl:∀ xs,g[i]?=some xs→zs.length=xs.length):K0 w W' ob oo D hs hsX (g.set i zs) d v k ls:=by
 have hb:gb ob hsX b:=.inr ⟨_,Ae hi,rfl⟩
 have hbd:=h.gbD hbD b hb
 exact ⟨h.grid.setRow hi f ho hl,h.same,h.fx.trans (f.mono (fun j e=>by have e:j=b:=e; subst e; exact (h.same.1 j).1 hb)),h.det.fx f (fun e=>by have e:D=b:=e; omega),AE h.size f.size,BM h.lead f (fun q hq e=>by have:=(h.lead.lt q hq).1; have e:q=b:=e; omega)⟩
theorem K0.swap (h:K0 w W ob oo D hs hsX g d v k ls) (hbD:∀ j,gb ob hs j→j < D) {i j:Nat} {hi hj:Nat×Nat×Nat} {xs ys:List Rat} (h1:hsX[i]?=some hi) (h2:hsX[j]?=some hj) (h3:g[i]?=some xs) (h4:g[j]?=some ys) (hij:i≠j) :
 K0 w ((W.setCell ⟨ob,oo+i,none⟩ (.slice (some ⟨hj.1,hj.2.1,none⟩) ys.length hj.2.2)).setCell ⟨ob,oo+j,none⟩ (.slice (some ⟨hi.1,hi.2.1,none⟩) xs.length hi.2.2)) ob oo D hs (swp hsX i j) (swp g i j) d v k ls:=by
 have hfx:Fx (·=ob) W ((W.setCell ⟨ob,oo+i,none⟩ (.slice (some ⟨hj.1,hj.2.1,none⟩) ys.length hj.2.2)).setCell ⟨ob,oo+j,none⟩ (.slice (some ⟨hi.1,hi.2.1,none⟩) xs.length hi.2.2)) :=
  Fx.setCell (p:=(·=ob)) (q:=⟨ob,oo+j,none⟩) (Fx.setCell (p:=(·=ob)) (q:=⟨ob,oo+i,none⟩) (Fx.refl _ W) (.inl rfl) _) (.inl rfl) _
 have hod:=hbD ob (.inl rfl)
 exact ⟨h.grid.swap h1 h2 h3 h4 hij,⟨fun q=>(Qs h1 h2 q).trans (h.same.1 q),fun q hq=>h.same.2 q (K6 hq)⟩,h.fx.trans (hfx.mono (fun q e=>.inl e)),h.det.fx hfx (fun e=>by have e:D=ob:=e; omega),by rw [Cs,Cs]; exact h.size,BM h.lead hfx (fun q hq e=>by have:=(h.lead.lt q hq).1; have e:q=ob:=e; omega)⟩
theorem K0.push (h:K0 w W ob oo D hs hsX g d v k ls) (hbD:∀ j,gb ob hs j→j < D) (hD:D=w.heap.size) (hg:W.grownBy W' v.ownBlock) {v':Value} {k':Nat} {ls':List Int} (ho:W'.ownsRow (D+1) 3 1 v' k' (ls'.map iv)):K0 w W' ob oo D hs hsX g d v' k' ls':=by
 have hfx:=Fx.of_grown hg
 have hq:∀ q,v.ownBlock=some q→D+1≤q:=fun q e=>(h.lead.lt q e).1
 refine ⟨h.grid.fx hfx (fun j hj e=>by have:=h.gbD hbD j hj; have:=hq j e; omega),h.same,⟨hfx.os.trans h.fx.os,hfx.tape.trans h.fx.tape,hfx.output.trans h.fx.output,AE h.fx.size hfx.size,fun q hq1 hq2=>?_⟩,h.det.fx hfx (fun e=>by have:=hq D e; omega),AE h.size hfx.size,ho⟩
 have h1:=h.fx.size
 rw [hfx.block q (by omega) (fun e=>by have:=hq q e; omega)]
 exact h.fx.block q hq1 hq2
end
theorem T5 {d:Rat} {k a:Nat} (h:Tq d):Tq (EW d k a):=by
 unfold EW; split
 ·exact h
 ·exact Xs h
theorem P0 {g:List (List Rat)} {k a:Nat} (hk:k < g.length) (ha:a < g.length):EL (Cn g k a) k=EL g a:=by
 unfold Cn; split
 ·rename_i h; rw [h]
 ·unfold EL
  rw [Dp g k a (Ab hk) (Ab ha),Ai (fun e=>by rename_i h; exact h e.symm),Aj rfl,Ab ha]
theorem Ox {c:Nat} {s s1:RS} {k A:Nat} (h:H4 c s=some s1) (hk:k=s.lead.length) (hA:A=FF s.g c k) (hlt:A < s.g.length) :
 Tq s.det∧Tq (DP (Cn s.g k A) k c)∧Tt (EL (Cn s.g k A) k)=true∧∃ g3,FL ((Cn s.g k A).set k ((EL (Cn s.g k A) k).map (· / DP (Cn s.g k A) k c))) c k s.g.length=some g3∧s1=⟨g3,s.lead ++ [c],EW s.det k A * DP (Cn s.g k A) k c⟩:=by
 unfold H4 at h
 rw [← hk,← hA,Ai (by omega)] at h
 split at h
 ·rename_i hc
  obtain ⟨g3,h1,h2⟩:=AV.1 h
  exact ⟨hc.1,hc.2.1,hc.2.2,g3,h1,h2.symm⟩
 ·cases h
def IZ (f:Rat) (r:List Rat) (t:Nat):List Rat:=(r.map (· / f)).take t ++ r.drop t
theorem Qz (f:Rat) (r:List Rat):IZ f r 0=r:=by unfold IZ; rw [Fk,FX,DG]
theorem SC (f:Rat) (r:List Rat) {n:Nat} (h:r.length=n):IZ f r n=r.map (· / f):=by
 unfold IZ; rw [Ak (by rw [Am,h]; exact Ag _),GN (by rw [h]; exact Ag _),BJ]
theorem SB (f:Rat) (r:List Rat) {t:Nat} (h:t < r.length):(IZ f r t)[t]?=r[t]?:=Hw _ _ _ (Am _) h
theorem Sw (f:Rat) (r:List Rat) {t:Nat} {x:Rat} (h:r[t]?=some x):(IZ f r t).set t (x / f)=IZ f r (t+1) :=
 Hv _ _ _ (Am _) (Ah.1 h).1 _ (by rw [Ao,h]; rfl)
theorem Sz (f:Rat) (r:List Rat) (t:Nat):(IZ f r t).length=r.length:=by
 unfold IZ; rw [Ar,AG,B3,Am]; omega
theorem Qy {g g4 g5:List (List Rat)} {c k t:Nat} (h:FL g c k t=some g4) (h5:FL g c k (t+1)=some g5):(t=k∨DP g4 t c=0)∧g5=g4∨(t≠k∧DP g4 t c≠0)∧∃ zs,GB (DP g4 t c) (EL g4 t) (EL g4 k)=some zs∧g5=g4.set t zs:=by
 rw [FL,h,AY] at h5
 split at h5
 ·rename_i hc
  injection h5 with h5
  exact .inl ⟨hc,h5.symm⟩
 ·rename_i hc
  obtain ⟨zs,h1,h2⟩:=AV.1 h5
  exact .inr ⟨⟨fun e=>hc (.inl e),fun e=>hc (.inr e)⟩,zs,h1,h2.symm⟩
theorem R0 {r:List Rat} (h:Tt r=true) {x:Rat} (hx:x ∈ r):Tq x:=Av (As.1 h x hx)
end Go.Proofs.YtcglmebcfeoedaaGreatDoor
