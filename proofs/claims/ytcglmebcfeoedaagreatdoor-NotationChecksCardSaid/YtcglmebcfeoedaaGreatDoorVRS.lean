/- Contracts and laws: VRS. -/
import Derived.Test.YtcglmebcfeoedaaGreatDoorVD
import Derived.Test.YtcglmebcfeoedaaGreatDoorVFG
import Derived.Test.YtcglmebcfeoedaaGreatDoorVB

namespace Go.Proofs.YtcglmebcfeoedaaGreatDoor
open Go.RowKit Go.Lib
def Eo (g:List (List Rat)) (i:Nat):List Rat:=(g[i]?).getD []
def Dz (g:List (List Rat)) (i c:Nat):Rat:=((Eo g i)[c]?).getD 0
def Sf (r:List Rat):Bool:=r.all fun x=>decide (Tq x)
def H0 (g:List (List Rat)) (c k:Nat):Nat:=k+(g.drop k).findIdx fun r=>decide ((r[c]?).getD 0≠0)
def KK (f x y:Rat):Bool:=decide (Tq f∧Tq y∧Tq (f * y)∧Tq x)
def F6 (f:Rat):List Rat→List Rat→Option (List Rat)
 | [],_=>some []
 | x :: xs,y :: ys=>if KK f x y then (F6 f xs ys).map ((x - f * y) :: ·) else none
 | _ :: _,[]=>none
theorem Hv (f:Rat):∀ (xs ys zs:List Rat),F6 f xs ys=some zs→zs.length=xs.length∧∀ (k:Nat) (x:Rat),xs[k]?=some x→∃ y,ys[k]?=some y∧KK f x y=true∧zs[k]?=some (x - f * y)
 | [],ys,zs,h=>by
   injection h with h; subst h
   exact ⟨rfl,fun k x hx=>by simp at hx⟩
 | x :: xs,[],zs,h=>by simp [F6] at h
 | x :: xs,y :: ys,zs,h=>by
   simp only [F6] at h
   split at h
   ·rename_i hok
    cases e:F6 f xs ys with
    | none=>rw [e] at h; simp at h
    | some ws=>
      rw [e] at h
      simp only [LM,Option.some.injEq] at h
      subst h
      obtain ⟨h1,h2⟩:=Hv f xs ys ws e
      refine ⟨by simp [h1],fun k z hz=>?_⟩
      cases k with
      | zero=>rw [Xz] at hz; injection hz with hz; subst hz; exact ⟨y,rfl,hok,rfl⟩
      | succ k=>rw [BR] at hz; obtain ⟨y',a,b,c⟩:=h2 k z hz; exact ⟨y',a,b,c⟩
   ·simp at h
def Fc (g:List (List Rat)) (c k:Nat):Nat→Option (List (List Rat))
 | 0=>some g
 | i+1=>(Fc g c k i).bind fun g=>if i=k∨Dz g i c=0 then some g else (F6 (Dz g i c) (Eo g i) (Eo g k)).map fun r=>g.set i r
structure RS where
 g:List (List Rat)
 lead:List Nat
 det:Rat
def Cn (g:List (List Rat)) (k a:Nat):List (List Rat):=if a=k then g else E2 g k a
def F0 (d:Rat) (k a:Nat):Rat:=if a=k then d else -d
def Hw (c:Nat) (s:RS):Option RS :=
 if H0 s.g c s.lead.length=s.g.length then some ⟨s.g,s.lead,0⟩ else
  if Tq s.det∧Tq (Dz (Cn s.g s.lead.length (H0 s.g c s.lead.length)) s.lead.length c)∧Sf (Eo (Cn s.g s.lead.length (H0 s.g c s.lead.length)) s.lead.length)=true then
   (Fc ((Cn s.g s.lead.length (H0 s.g c s.lead.length)).set s.lead.length ((Eo (Cn s.g s.lead.length (H0 s.g c s.lead.length)) s.lead.length).map (· / Dz (Cn s.g s.lead.length (H0 s.g c s.lead.length)) s.lead.length c))) c s.lead.length s.g.length).map
    fun g3=>⟨g3,s.lead ++ [c],F0 s.det s.lead.length (H0 s.g c s.lead.length) * Dz (Cn s.g s.lead.length (H0 s.g c s.lead.length)) s.lead.length c⟩
  else none
def C4 (g:List (List Rat)):Nat→Option RS
 | 0=>some ⟨g,[],1⟩
 | c+1=>(C4 g c).bind (Hw c)
example:(C4 [[2,1],[4,3]] 2).map (fun s=>(s.g,s.lead,s.det))=some ([[1,0],[0,1]],[0,1],2):=by decide +kernel
def Eh (n:Nat) (g:List (List Rat)):Prop:=∀ r,r ∈ g→r.length=n
theorem Eh.row {n:Nat} {g:List (List Rat)} (h:Eh n g) {i:Nat} (hi:i < g.length):(g[i]).length=n:=h _ (A3 hi)
theorem Eh.set {n:Nat} {g:List (List Rat)} (h:Eh n g) {i:Nat} {r:List Rat} (hr:r.length=n):Eh n (g.set i r):=fun x hx=>by
 rcases BX hx with h1 | h1
 ·exact h x h1
 ·rw [h1]; exact hr
theorem FY {g:List (List Rat)} {i:Nat} (hi:i < g.length):Eo g i=g[i]:=by unfold Eo; rw [Ac hi]; rfl
theorem Kp {g:List (List Rat)} {n i c:Nat} (h:Eh n g) (hi:i < g.length) (hc:c < n):(g[i])[c]?=some (Dz g i c):=by
 unfold Dz; rw [FY hi]
 have:c < (g[i]).length:=by rw [h.row hi]; exact hc
 rw [Ac this]; rfl
theorem JY {n k a:Nat} {g:List (List Rat)} (h:Eh n g):Eh n (Cn g k a):=by
 unfold Cn; split
 ·exact h
 ·exact fun r hr=>h r (Kj hr)
theorem GQ (g:List (List Rat)) (k a:Nat):(Cn g k a).length=g.length:=by
 unfold Cn; split
 ·rfl
 ·exact HQ _ _ _
theorem HD {g:List (List Rat)} {c k n:Nat} (hr:Eh n g):∀ (t:Nat) (g':List (List Rat)),Fc g c k t=some g'→t≤g.length→Eh n g'∧g'.length=g.length
 | 0,g',h,_=>by injection h with h; subst h; exact ⟨hr,rfl⟩
 | t+1,g',h,hl=>by
   rw [Fc] at h
   obtain ⟨g1,h1,h2⟩:=Bi.1 h
   obtain ⟨a,b⟩:=HD hr t g1 h1 (by omega)
   split at h2
   ·injection h2 with h2; subst h2; exact ⟨a,b⟩
   ·obtain ⟨r,h3,h4⟩:=A1.1 h2
    subst h4
    have:=(Hv _ _ _ _ h3).1
    exact ⟨a.set (by rw [this,FY (by omega)]; exact a.row (by omega)),by rw [A2]; exact b⟩
theorem Lk {g:List (List Rat)} {c k:Nat}:∀ (t T:Nat) (g':List (List Rat)),Fc g c k T=some g'→t≤T→∃ g1,Fc g c k t=some g1
 | t,0,g',h,ht=>by
   have e:t=0:=by omega
   subst e
   exact ⟨g',h⟩
 | t,T+1,g',h,ht=>by
   by_cases e:t=T+1
   ·subst e; exact ⟨g',h⟩
   ·rw [Fc] at h
    obtain ⟨g1,h1,-⟩:=Bi.1 h
    exact Lk t T g1 h1 (by omega)
theorem TE (g:List (List Rat)) (c k:Nat) (h:k≤g.length):k≤H0 g c k∧H0 g c k≤g.length:=by
 unfold H0
 have:=XS (p:=fun r:List Rat=>decide ((r[c]?).getD 0≠0)) (xs:=g.drop k)
 rw [BQ] at this
 omega
theorem Lz {g:List (List Rat)} {c i:Nat} (hi:i < g.length) (h:Dz g i c=0):H0 g c (i+1)=H0 g c i:=by
 have e:g.drop i=g[i] :: g.drop (i+1):=(BZ hi)
 unfold H0
 rw [e,Ju]
 have:decide (((g[i])[c]?).getD 0≠0)=false:=by
  rw [decide_eq_false_iff_not,Decidable.not_not]
  unfold Dz at h
  rw [FY hi] at h
  exact h
 rw [this]
 simp only [cond_false]
 omega
theorem OE {g:List (List Rat)} {c i:Nat} (hi:i < g.length) (h:Dz g i c≠0):H0 g c i=i:=by
 have e:g.drop i=g[i] :: g.drop (i+1):=(BZ hi)
 unfold H0
 rw [e,Ju]
 have:decide (((g[i])[c]?).getD 0≠0)=true:=by
  rw [IE]
  unfold Dz at h
  rw [FY hi] at h
  exact h
 rw [this]
 rfl
theorem Ni {g:List (List Rat)} {c:Nat}:H0 g c g.length=g.length:=by
 unfold H0
 rw [Df]
 rfl
attribute [local go_sem ↓] AC AD
theorem Wc {y:Rat} (h:Tq y):Tq (-y):=h.neg
theorem KT {g:List (List Rat)}:∀ (c C:Nat) (s:RS),C4 g C=some s→c≤C→∃ s1,C4 g c=some s1
 | c,0,s,h,hc=>by
   have e:c=0:=by omega
   subst e
   exact ⟨s,h⟩
 | c,C+1,s,h,hc=>by
   by_cases e:c=C+1
   ·subst e; exact ⟨s,h⟩
   ·rw [C4] at h
    obtain ⟨s1,h1,-⟩:=Bi.1 h
    exact KT c C s1 h1 (by omega)
structure Kx (w:World) (D:Nat) (d:Rat):Prop where
 a:w.cell? ⟨D,0,none⟩=some (sv d.num)
 b:w.cell? ⟨D,1,none⟩=some (sv (d.den:Int))
 fa:w.frozen? ⟨D,0,none⟩=false
 fb:w.frozen? ⟨D,1,none⟩=false
theorem Kx.fx {p:Nat→Prop} {w w':World} {D:Nat} {d:Rat} (h:Kx w D d) (k:Fx p w w') (hp:¬ p D):Kx w' D d :=
 ⟨k.keep h.a hp,k.keep h.b hp,k.keepf h.a h.fa hp,k.keepf h.b h.fb hp⟩
theorem Kx.fr {w w':World} {D:Nat} {d:Rat} (h:Kx w D d) (k:Fr w w'):Kx w' D d:=⟨k.keep h.a,k.keep h.b,k.keepf h.a h.fa,k.keepf h.b h.fb⟩
theorem Kx.new (w:World) (d:Rat) (t:TypeId):Kx (w.alloc (.cells #[sv d.num,sv (d.den:Int)] t)) w.heap.size d :=
 ⟨(Cw _ _ _ _).1,(Cv _ _ _ _).1,(Cw _ _ _ _).2,(Cv _ _ _ _).2⟩
theorem Kx.set {w:World} {D:Nat} {d:Rat} (h:Kx w D d) (e:Rat):Kx ((w.setCell ⟨D,0,none⟩ (sv e.num)).setCell ⟨D,1,none⟩ (sv (e.den:Int))) D e:=by
 obtain ⟨a,b,-,-⟩:=AO w D (sv e.num) (sv (e.den:Int)) _ _ h.a h.b
 exact ⟨a,b,by rw [Ao,Ao]; exact h.fa,by rw [Ao,Ao]; exact h.fb⟩
theorem Gq {w:World} {base:Nat} {v:Value} {l:List Int} {n:Nat} (h:w.ownsRow base 3 1 v n (l.map iv)):∃ a c,v=.slice a n c∧El w iv a l:=by
 have hn:l.length=n:=by have:=h.1; simpa using this
 rcases h.2 with ⟨h1,h2⟩ | ⟨g,cap,cur,hv,_⟩
 ·have e:l=[]:=Az (by omega)
  subst e
  have h2:n=0:=by omega
  subst h2
  exact ⟨none,0,h1,.inl rfl⟩
 ·subst hv
  obtain ⟨-,h1,h2,h3,h4⟩:=A5 h
  refine ⟨_,_,rfl,.inr ⟨g,0,rfl,h2,fun i x hx=>?_⟩⟩
  rw [Ay]
  exact (h4 i (iv x) (by rw [Ap,hx]; rfl)).1
structure Kd (w W:World) (ob oo D:Nat) (hs hsX:List (Nat×Nat×Nat)) (g:List (List Rat)) (d:Rat) (v:Value) (k:Nat) (ls:List Int):Prop where
 grid:DV W ob oo hsX g
 same:JR ob hsX hs
 fx:Fx (gb ob hs) w W
 det:Kx W D d
 size:D+1≤W.heap.size
 lead:W.ownsRow (D+1) 3 1 v k (ls.map iv)
section
variable {w W W':World} {ob oo D k:Nat} {hs hsX:List (Nat×Nat×Nat)} {g:List (List Rat)} {d:Rat} {v:Value} {ls:List Int}
theorem Kd.fr (h:Kd w W ob oo D hs hsX g d v k ls) (f:Fr W W'):Kd w W' ob oo D hs hsX g d v k ls :=
 ⟨h.grid.fr f,h.same,h.fx.fr f,h.det.fr f,AM h.size f.size,AZ h.lead f⟩
theorem Kd.gbD (h:Kd w W ob oo D hs hsX g d v k ls) (hbD:∀ j,gb ob hs j→j < D):∀ j,gb ob hsX j→j < D:=fun j hj=>hbD j ((h.same.1 j).1 hj)
theorem Kd.detSet (h:Kd w W ob oo D hs hsX g d v k ls) (hbD:∀ j,gb ob hs j→j < D) (hD:D=w.heap.size) (e:Rat):Kd w ((W.setCell ⟨D,0,none⟩ (sv e.num)).setCell ⟨D,1,none⟩ (sv (e.den:Int))) ob oo D hs hsX g e v k ls:=by
 have hfx:=(AO W D (sv e.num) (sv (e.den:Int)) _ _ h.det.a h.det.b).2.2.2
 exact ⟨h.grid.fx hfx (fun j hj e=>by have:=h.gbD hbD j hj; omega),h.same,
  (h.fx.setCell (q:=⟨D,0,none⟩) (.inr (by rw [hD]; exact Ah _)) _).setCell (q:=⟨D,1,none⟩) (.inr (by rw [hD]; exact Ah _)) _,
  h.det.set e,by rw [Cf,Cf]; exact h.size,BD h.lead hfx (fun b hb e=>by have:=(h.lead.lt b hb).1; omega)⟩
theorem Kd.rowSet (h:Kd w W ob oo D hs hsX g d v k ls) (hbD:∀ j,gb ob hs j→j < D) {i b o c:Nat} (hi:hsX[i]?=some (b,o,c)) {zs:List Rat} (f:Fx (·=b) W W') (ho:ET W' b o zs) (hl:∀ xs,g[i]?=some xs→zs.length=xs.length):Kd w W' ob oo D hs hsX (g.set i zs) d v k ls:=by
 have hb:gb ob hsX b:=.inr ⟨_,Ae hi,rfl⟩
 have hbd:=h.gbD hbD b hb
 exact ⟨h.grid.setRow hi f ho hl,h.same,h.fx.trans (f.mono (fun j e=>by have e:j=b:=e; subst e; exact (h.same.1 j).1 hb)),h.det.fx f (fun e=>by have e:D=b:=e; omega),AM h.size f.size,BD h.lead f (fun q hq e=>by have:=(h.lead.lt q hq).1; have e:q=b:=e; omega)⟩
theorem Kd.swap (h:Kd w W ob oo D hs hsX g d v k ls) (hbD:∀ j,gb ob hs j→j < D) {i j:Nat} {hi hj:Nat×Nat×Nat} {xs ys:List Rat} (h1:hsX[i]?=some hi) (h2:hsX[j]?=some hj) (h3:g[i]?=some xs) (h4:g[j]?=some ys) (hij:i≠j) :
 Kd w ((W.setCell ⟨ob,oo+i,none⟩ (.slice (some ⟨hj.1,hj.2.1,none⟩) ys.length hj.2.2)).setCell ⟨ob,oo+j,none⟩ (.slice (some ⟨hi.1,hi.2.1,none⟩) xs.length hi.2.2)) ob oo D hs (E2 hsX i j) (E2 g i j) d v k ls:=by
 have hfx:Fx (·=ob) W ((W.setCell ⟨ob,oo+i,none⟩ (.slice (some ⟨hj.1,hj.2.1,none⟩) ys.length hj.2.2)).setCell ⟨ob,oo+j,none⟩ (.slice (some ⟨hi.1,hi.2.1,none⟩) xs.length hi.2.2)) :=
  Fx.setCell (p:=(·=ob)) (q:=⟨ob,oo+j,none⟩) (Fx.setCell (p:=(·=ob)) (q:=⟨ob,oo+i,none⟩) (Fx.refl _ W) (.inl rfl) _) (.inl rfl) _
 have hod:=hbD ob (.inl rfl)
 exact ⟨h.grid.swap h1 h2 h3 h4 hij,⟨fun q=>(PC h1 h2 q).trans (h.same.1 q),fun q hq=>h.same.2 q (Kj hq)⟩,h.fx.trans (hfx.mono (fun q e=>.inl e)),h.det.fx hfx (fun e=>by have e:D=ob:=e; omega),by rw [Cf,Cf]; exact h.size,BD h.lead hfx (fun q hq e=>by have:=(h.lead.lt q hq).1; have e:q=ob:=e; omega)⟩
theorem Kd.push (h:Kd w W ob oo D hs hsX g d v k ls) (hbD:∀ j,gb ob hs j→j < D) (hD:D=w.heap.size) (hg:W.grownBy W' v.ownBlock) {v':Value} {k':Nat} {ls':List Int} (ho:W'.ownsRow (D+1) 3 1 v' k' (ls'.map iv)):Kd w W' ob oo D hs hsX g d v' k' ls':=by
 have hfx:=Fx.of_grown hg
 have hq:∀ q,v.ownBlock=some q→D+1≤q:=fun q e=>(h.lead.lt q e).1
 refine ⟨h.grid.fx hfx (fun j hj e=>by have:=h.gbD hbD j hj; have:=hq j e; omega),h.same,⟨hfx.os.trans h.fx.os,hfx.tape.trans h.fx.tape,hfx.output.trans h.fx.output,AM h.fx.size hfx.size,fun q hq1 hq2=>?_⟩,h.det.fx hfx (fun e=>by have:=hq D e; omega),AM h.size hfx.size,ho⟩
 have h1:=h.fx.size
 rw [hfx.block q (by omega) (fun e=>by have:=hq q e; omega)]
 exact h.fx.block q hq1 hq2
end
theorem SU {d:Rat} {k a:Nat} (h:Tq d):Tq (F0 d k a):=by
 unfold F0; split
 ·exact h
 ·exact Wc h
theorem Pg {g:List (List Rat)} {k a:Nat} (hk:k < g.length) (ha:a < g.length):Eo (Cn g k a) k=Eo g a:=by
 unfold Cn; split
 ·rename_i h; rw [h]
 ·unfold Eo
  rw [Dk g k a (Ac hk) (Ac ha),Ai (fun e=>by rename_i h; exact h e.symm),Al rfl,Ac ha]
theorem NJ {c:Nat} {s s1:RS} {k A:Nat} (h:Hw c s=some s1) (hk:k=s.lead.length) (hA:A=H0 s.g c k) (hlt:A < s.g.length) :
 Tq s.det∧Tq (Dz (Cn s.g k A) k c)∧Sf (Eo (Cn s.g k A) k)=true∧∃ g3,Fc ((Cn s.g k A).set k ((Eo (Cn s.g k A) k).map (· / Dz (Cn s.g k A) k c))) c k s.g.length=some g3∧s1=⟨g3,s.lead ++ [c],F0 s.det k A * Dz (Cn s.g k A) k c⟩:=by
 unfold Hw at h
 rw [← hk,← hA,Ai (by omega)] at h
 split at h
 ·rename_i hc
  obtain ⟨g3,h1,h2⟩:=A1.1 h
  exact ⟨hc.1,hc.2.1,hc.2.2,g3,h1,h2.symm⟩
 ·cases h
def Ic (f:Rat) (r:List Rat) (t:Nat):List Rat:=(r.map (· / f)).take t ++ r.drop t
theorem PH (f:Rat) (r:List Rat):Ic f r 0=r:=by unfold Ic; rw [EK,Ej,Do]
theorem Rx (f:Rat) (r:List Rat) {n:Nat} (h:r.length=n):Ic f r n=r.map (· / f):=by
 unfold Ic; rw [Ak (by rw [Am,h]; exact Ah _),Ge (by rw [h]; exact Ah _),BA]
theorem Rv (f:Rat) (r:List Rat) {t:Nat} (h:t < r.length):(Ic f r t)[t]?=r[t]?:=GZ _ _ _ (Am _) h
theorem Rt (f:Rat) (r:List Rat) {t:Nat} {x:Rat} (h:r[t]?=some x):(Ic f r t).set t (x / f)=Ic f r (t+1) :=
 GY _ _ _ (Am _) (Ag.1 h).1 _ (by rw [Ap,h]; rfl)
theorem Ru (f:Rat) (r:List Rat) (t:Nat):(Ic f r t).length=r.length:=by
 unfold Ic; rw [Aq,AG,BQ,Am]; omega
theorem PG {g g4 g5:List (List Rat)} {c k t:Nat} (h:Fc g c k t=some g4) (h5:Fc g c k (t+1)=some g5):(t=k∨Dz g4 t c=0)∧g5=g4∨(t≠k∧Dz g4 t c≠0)∧∃ zs,F6 (Dz g4 t c) (Eo g4 t) (Eo g4 k)=some zs∧g5=g4.set t zs:=by
 rw [Fc,h,EW] at h5
 split at h5
 ·rename_i hc
  injection h5 with h5
  exact .inl ⟨hc,h5.symm⟩
 ·rename_i hc
  obtain ⟨zs,h1,h2⟩:=A1.1 h5
  exact .inr ⟨⟨fun e=>hc (.inl e),fun e=>hc (.inr e)⟩,zs,h1,h2.symm⟩
theorem Q3 {r:List Rat} (h:Sf r=true) {x:Rat} (hx:x ∈ r):Tq x:=Ax (Aw.1 h x hx)
end Go.Proofs.YtcglmebcfeoedaaGreatDoor
