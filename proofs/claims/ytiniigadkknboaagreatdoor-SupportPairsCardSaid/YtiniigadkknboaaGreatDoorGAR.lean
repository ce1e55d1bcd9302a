/- Contracts and laws: GAR. -/
import Derived.Test.YtiniigadkknboaaGreatDoorGAB
import Derived.Test.YtiniigadkknboaaGreatDoorGAQ
import Derived.Test.YtiniigadkknboaaGreatDoorGAD

set_option maxRecDepth 100000
set_option maxHeartbeats 4000000
namespace Go.Proofs.YtiniigadkknboaaGreatDoor
open Go.RowKit Go.Lib
def JR:Nat:=16000000
def Mm:Nat:=10 ^ JR
theorem XW:10000000000000000000000000000000000000000≤Mm:=As (show 10000000000000000000000000000000000000000≤10 ^ 40 by decide) (BP (by decide) (show 40≤JR by decide))
def Wd (n:Int):Prop:=n.natAbs < Mm
theorem Wd.bn {n:Int} (h:Wd n):Bn JR n:=h
theorem Wd.size {n:Int} (h:Wd n):(tx n).size≤16000002:=by have:=h.bn.size2; unfold JR at this; omega
theorem Wd.asize {n:Int} (h:Wd n):(tx (n.natAbs:Int)).size≤16000002:=by have:=h.bn.size; unfold JR at this; omega
theorem Wd.of40 {n:Int} (h:n.natAbs < 10000000000000000000000000000000000000000):Wd n:=Aq h XW
theorem Sm.wd {n:Int} (h:Sm n):Wd n:=by obtain ⟨h1,h2⟩:=h; exact Wd.of40 (by omega)
theorem RZ (a b:Int) (ha:Wd a) (hb:Wd b) (w:World) (hG:G w) :
 Calls Tryz.prog 95 #[.string (tx a),.string (tx b)] w fun e w'=>e=.returned (.string (tx (a * b)))∧Fr w w':=Pz JR JR (by decide) (by decide) a b ha.bn hb.bn w hG
theorem Xl (x q y:Int) (hx:Wd x) (hq:Wd q) (hy:Wd y) (w:World) (hG:G w) :
 Calls Tryz.prog 156 #[.string (tx x),.string (tx (q * y))] w fun e w'=>e=.returned (.string (tx (x - q * y)))∧Fr w w':=YM (JR+JR) (by decide) x (q * y) (hx.bn.mono (by decide)) (hq.bn.mul hy.bn) w hG
theorem YY (a b:Int) (ha:Wd a) (hb:Wd b) (w:World) (hG:G w) :
 Calls Tryz.prog 94 #[.string (tx a),.string (tx b)] w fun e w'=>e=.returned (.string (tx (a+b)))∧Fr w w':=Xj JR (by decide) a b ha.bn hb.bn w hG
theorem Jk (a b:Int) (ha:Wd a) (hb:Wd b) (h0:b≠0) (w:World) (hG:G w) :
 Calls Tryz.prog 112 #[.string (tx a),.string (tx b)] w fun e w'=>e=.returned (.tuple #[.string (tx (a.fdiv b)),.string (tx (a.fmod b)),.int .i64 0])∧Fr w w':=LQ JR JR (by decide) (by decide) a b ha.bn hb.bn h0 w hG
def Jz (n:Int):Bool:=decide (-10000000000000000000000000000000000000000 < n∧n < 10000000000000000000000000000000000000000) || decide (n.natAbs < Mm)
theorem G0 {n:Int} (h:Jz n=true):Wd n:=by
 unfold Jz at h
 rcases ZY.1 h with h | h
 ·have h:=AL h
  exact Wd.of40 (by omega)
 ·exact AL (p:=n.natAbs < Mm) h
theorem Ni {n:Int} (h:Wd n):Jz n=true:=by unfold Jz; rw [ZY]; exact .inr (Ab (p:=n.natAbs < Mm) h)
def T9 (q x y:Int):Bool:=Jz q && Jz y && Jz x
theorem T7 {q x y:Int} (h:T9 q x y=true):Wd q∧Wd y∧Wd x:=by
 unfold T9 at h
 simp only [Bm] at h
 exact ⟨G0 h.1.1,G0 h.1.2,G0 h.2⟩
theorem Xv {q x y:Int} (hq:Wd q) (hy:Wd y) (hx:Wd x):T9 q x y=true:=by
 unfold T9; rw [Ni hq,Ni hy,Ni hx]; rfl
def GY (q:Int):List Int→List Int→Option (List Int)
 | [],_=>some []
 | x :: xs,y :: ys=>if T9 q x y then (GY q xs ys).map ((x - q * y) :: ·) else none
 | _ :: _,[]=>none
def Dw (q:Int) (xs ys:List Int):Option (List Int):=if q=0 then some xs else GY q xs ys
theorem Ff (q:Int):∀ (xs ys zs:List Int),GY q xs ys=some zs→zs.length=xs.length∧∀ (k:Nat) (x:Int),xs[k]?=some x→∃ y,ys[k]?=some y∧T9 q x y=true∧zs[k]?=some (x - q * y)
 | [],ys,zs,h=>by
   injection h with h; subst h
   exact ⟨rfl,fun k x hx=>by simp at hx⟩
 | x :: xs,[],zs,h=>by simp [GY] at h
 | x :: xs,y :: ys,zs,h=>by
   simp only [GY] at h
   split at h
   ·rename_i hok
    cases e:GY q xs ys with
    | none=>rw [e] at h; simp at h
    | some ws=>
      rw [e] at h
      simp only [Mc,Option.some.injEq] at h
      subst h
      obtain ⟨h1,h2⟩:=Ff q xs ys ws e
      refine ⟨by simp [h1],fun k z hz=>?_⟩
      cases k with
      | zero=>simp at hz; subst hz; exact ⟨y,by simp,hok,by simp⟩
      | succ k=>simpa using h2 k z (by simpa using hz)
   ·simp at h
theorem FO {q:Int} {xs ys zs:List Int} (h:Dw q xs ys=some zs):zs.length=xs.length:=by
 unfold Dw at h
 split at h
 ·injection h with h; rw [h]
 ·exact (Ff q xs ys zs h).1
def Gd (g:List (List Int)) (c t i:Nat):Option (List (List Int)) :=
 if Jz (AC g i c) && Jz (AC g t c) && AC g t c != 0 then (Dw ((AC g i c).fdiv (AC g t c)) (BT g i) (BT g t)).map (fun r=>g.set i r) else none
def Ca (g:List (List Int)) (c t s:Nat):Nat→Option (List (List Int))
 | 0=>some g
 | j+1=>(Ca g c t s j).bind fun g=>Gd g c t (s+j)
def Qa (r:List Int):Bool:=r.all Jz
theorem P9 {r:List Int} (h:Qa r=true):∀ x,x ∈ r→(tx x).size≤1000000000:=fun x hx=>by
 have:=(G0 (AE.1 h x hx)).size
 omega
def Fv (g:List (List Int)) (t c:Nat):Option (List (List Int)) :=
 if AC g t c < 0 then (if Qa (BT g t) then Ca (g.set t ((BT g t).map (fun x=>-x))) c t 0 t else none) else Ca g c t 0 t
theorem Er {g g':List (List Int)} {c t i:Nat} (h:Gd g c t i=some g'):Wd (AC g i c)∧Wd (AC g t c)∧AC g t c≠0∧∃ r,Dw ((AC g i c).fdiv (AC g t c)) (BT g i) (BT g t)=some r∧g'=g.set i r:=by
 unfold Gd at h
 split at h
 ·rename_i hc
  simp only [Bm,Bs] at hc
  obtain ⟨r,hr,rfl⟩:=BO.1 h
  exact ⟨G0 hc.1.1,G0 hc.1.2,hc.2,r,hr,rfl⟩
 ·simp at h
theorem NV {g g':List (List Int)} {c t i n:Nat} (h:Gd g c t i=some g') (hr:Bx n g) (hi:i < g.length):Bx n g'∧g'.length=g.length:=by
 obtain ⟨_,_,_,r,h1,rfl⟩:=Er h
 exact ⟨hr.set (by rw [FO h1,CU hi,hr.row hi]),by simp⟩
theorem Ci {g:List (List Int)} {c t s n:Nat} (hr:Bx n g):∀ (j:Nat) (g':List (List Int)),Ca g c t s j=some g'→s+j≤g.length→Bx n g'∧g'.length=g.length
 | 0,g',h,_=>by injection h with h; subst h; exact ⟨hr,rfl⟩
 | j+1,g',h,hl=>by
   obtain ⟨g1,h1,h2⟩:=AY.1 h
   obtain ⟨a,b⟩:=Ci hr j g1 h1 (by omega)
   obtain ⟨a',b'⟩:=NV h2 a (by omega)
   exact ⟨a',by rw [b',b]⟩
theorem FE {g:List (List Int)} {c t s:Nat}:∀ (j k:Nat) (g':List (List Int)),Ca g c t s k=some g'→j≤k→∃ g1,Ca g c t s j=some g1
 | j,0,g',h,hj=>by obtain rfl:j=0:=by omega
                   exact ⟨g,rfl⟩
 | j,k+1,g',h,hj=>by
   by_cases e:j=k+1
   ·subst e; exact ⟨g',h⟩
   ·obtain ⟨g1,h1,_⟩:=AY.1 h
    exact FE j k g1 h1 (by omega)
def HJ (g:List (List Int)) (c:Nat):Bool:=(List.range g.length).all fun i=>Jz (AC g i c)
attribute [local go_sem ↓] Go.wp_at_zero Go.wp_at_succ
theorem Ug (lb lo lc ob oo oc n m:Nat) (q:Int) (xs ys zs:List Int) (w:World) (hG:G w) (hx:Own w lb lo xs) (hy:Own w ob oo ys) (hne:lb≠ob) (hl:xs.length≤1000000000)
 (hn:n=xs.length) (hm:m=ys.length) (hnm:ys.length=xs.length) (hs:Dw q xs ys=some zs) :
 Calls Tryz.prog 113 #[.slice (some ⟨lb,lo,none⟩) n lc,.string (tx q),.slice (some ⟨ob,oo,none⟩) m oc] w fun e w'=>e=.returned (.tuple #[])∧Fx (·=lb) w w'∧Own w' lb lo zs:=by
 have hb:=Cn q
 by_cases hq0:q=0
 ·rw [Ab hq0] at hb
  unfold Dw at hs
  rw [Ai hq0] at hs
  injection hs with hs; subst hs
  clear hq0
  subst hn
  go_enter Tryz.func113,Tryz.ntmps113
  go_wp2_with fail
  exact AP (Ia rfl _ _ _) rfl ⟨rfl,Fx.refl _ _,hx⟩
 ·rw [Aa hq0] at hb
  unfold Dw at hs
  rw [Ag hq0] at hs
  obtain ⟨hzl,hz⟩:=Ff q xs ys zs hs
  have hzl:=hZ hzl
  have hz:=hZ hz
  clear hs hq0
  rw [hnm] at hm
  subst hm
  rename_i hzl0 hz0
  clear hzl0 hz0
  subst hn
  go_enter Tryz.func113,Tryz.ntmps113
  go_wp2_with fail
  go_loopw [6,7,12] (fun _ _ VN wr=>∃ k:Nat,VN=.int .i64 k∧k≤xs.length∧Fx (·=lb) w wr∧Own wr lb lo (zs.take k ++ xs.drop k)) (fun _ _ VN _=>xs.length - (RowKit.intOf VN).toNat)
  case atStart=>exact ⟨0,rfl,Ck _,Fx.refl _ _,by simpa using hx⟩
  case round=>
   obtain ⟨k,rfl,hk,hf,ho⟩:=hrel
   by_cases hlt:k < xs.length
   ·have hxk:∃ x,xs[k]?=some x:=⟨xs[k],Ac hlt⟩
    obtain ⟨x,hxk⟩:=hxk
    obtain ⟨y,hyk,hok,hzk⟩:=hz.out k x hxk
    obtain ⟨tq,ty,sx⟩:=T7 hok
    have hGr:=hG.fx hf (fun j e=>by rw [e]; exact hx.1)
    have hoc:=ho.2.2 k x (by rw [KK zs xs k hzl.out hlt]; exact hxk)
    have hkl:k < ys.length:=(Ae.1 hyk).1
    obtain ⟨hoc,hof⟩:=hoc
    obtain ⟨hyc,_⟩:=(hy.fx hf (fun e=>hne e.symm)).2.2 k y hyk
    have hlb:lb < wr.heap.size:=ho.2.1
    have hob:ob < wr.heap.size:=(hy.fx hf (fun e=>hne e.symm)).2.1
    have hxk:=hZ hxk
    have hyk:=hZ hyk
    have hzk:=hZ hzk
    have hset:=hZ (KJ zs xs k hzl.out hlt _ hzk.out)
    have ho2:=hZ ho
    rename_i hxk0 hyk0 hzk0 
    clear hxk0 hyk0 hzk0 ho hok
    have k0:(0:Int)≤(k:Int):=Aj _
    have k1:(k:Int) < (xs.length:Int):=by omega
    have k2:(k:Int) < (ys.length:Int):=by omega
    go_wp2_with fail
    go_region_with (first | (go_at_call 95; refine (RZ q y tq ty _ (hGr.fr ?_)).mono ?_; (exact B9); rintro e w1 ⟨rfl,hf1⟩; have c1:=hf1.keep (p:=⟨lb,lo+k,none⟩) hoc; have c2:=hf1.keep (p:=⟨ob,oo+k,none⟩) hyc; have c3:=hf1.keepf (p:=⟨lb,lo+k,none⟩) hoc hof) | (go_at_call 156; refine (Xl x q y sx tq ty _ (hGr.fr ?_)).mono ?_; (exact B9); rintro e w2 ⟨rfl,hf2⟩; have d1:=hf2.keep c1; have d3:=hf2.keepf c1 c3))
    all_goals
     have hfr:Fr wr w2:=by exact B9
     have hO:=(ho2.out.fr hfr).set (k:=k) (by simp; have:=hzl.out; omega) (x - q * y)
     rw [hset.out] at hO
     have hF:=(hf.fr hfr).setCell (q:=⟨lb,lo+k,none⟩) (.inl rfl) (sv (x - q * y))
     go_wp2_with fail
     go_roundw
     case rel=>exact ⟨k+1,by go_num,by omega,hF,hO⟩
     case measure=>simp [RowKit.intOf]; omega
   ·go_wp2_with fail
    go_end0
    refine ⟨rfl,hf, ?_⟩
    have:k=xs.length:=by omega
    subst this
    rw [Fl,BE,Ao (by have:=hzl.out; omega)] at ho
    exact ho
theorem Qm (lb lo lc:Nat) (xs:List Int) (w:World) (_hG:G w) (hx:Own w lb lo xs) (_hl:xs.length≤1000000000) (hs:∀ x ∈ xs,(tx x).size≤1000000000) :
 Calls Tryz.prog 140 #[.slice (some ⟨lb,lo,none⟩) xs.length lc] w fun e w'=>e=.returned (.tuple #[])∧Fx (·=lb) w w'∧Own w' lb lo (xs.map (fun x=>-x)):=by
 have hzl:=hZ (show (xs.map (fun x=>-x)).length=xs.length by simp)
 have hz:∀ (k:Nat) (x:Int),xs[k]?=some x→(xs.map (fun x=>-x))[k]?=some (-x):=fun k x h=>by rw [At,h]; rfl
 generalize xs.map (fun x=>-x)=zs at *
 have hz:=hZ hz
 rename_i hz0
 clear hz0
 go_enter Tryz.func140,Tryz.ntmps140
 go_wp2_with fail
 go_loopw [2,3,6] (fun _ _ s6 wr=>∃ k:Nat,s6=.int .i64 k∧k≤xs.length∧Fx (·=lb) w wr∧Own wr lb lo (zs.take k ++ xs.drop k)) (fun _ _ s6 _=>xs.length - (RowKit.intOf s6).toNat)
 case atStart=>exact ⟨0,rfl,Ck _,Fx.refl _ _,by simpa using hx⟩
 case round=>
  obtain ⟨k,rfl,hk,hf,ho⟩:=hrel
  by_cases hlt:k < xs.length
  ·obtain ⟨x,hxk⟩:∃ x,xs[k]?=some x:=⟨xs[k],Ac hlt⟩
   have hzk:=hz.out k x hxk
   have hxs:=hs x (Af hxk)
   obtain ⟨hoc,hof⟩:=ho.2.2 k x (by rw [KK zs xs k hzl.out hlt]; exact hxk)
   have hset:=hZ (KJ zs xs k hzl.out hlt _ hzk)
   have hlb:lb < wr.heap.size:=ho.2.1
   have ho2:=hZ ho
   clear hxk hzk ho
   go_wp2_with fail
   refine (KQ x _ hxs).mono ?_
   rintro e w2 ⟨rfl,hf2⟩
   have d1:=hf2.keep (p:=⟨lb,lo+k,none⟩) hoc
   have d3:=hf2.keepf (p:=⟨lb,lo+k,none⟩) hoc hof
   have hO:=(ho2.out.fr hf2).set (k:=k) (by simp; have:=hzl.out; omega) (-x)
   rw [hset.out] at hO
   have hF:=(hf.fr hf2).setCell (q:=⟨lb,lo+k,none⟩) (.inl rfl) (sv (-x))
   go_wp2_with fail
   go_roundw
   case rel=>exact ⟨k+1,by go_num,by omega,hF,hO⟩
   case measure=>simp [RowKit.intOf]; omega
  ·go_wp2_with fail
   go_end0
   refine ⟨rfl,hf, ?_⟩
   have:k=xs.length:=by omega
   subst this
   rw [Fl,BE,Ao (by have:=hzl.out; omega)] at ho
   exact ho
def Fp (g:List (List Int)) (c i:Nat) (s:Option Nat):Option Nat :=
 if AC g i c=0 then s else match s with
 | none=>some i
 | some k=>if FG ((AC g i c).natAbs:Int) ((AC g k c).natAbs:Int) < 0 then some i else some k
def Cm (g:List (List Int)) (c t:Nat):Nat→Option Nat
 | 0=>none
 | j+1=>Fp g c (t+j) (Cm g c t j)
def EB (g:List (List Int)) (c t s:Nat):Nat→Bool
 | 0=>false
 | j+1=>EB g c t s j || ((Ca g c t s j).map fun g3=>!decide ((AC g3 (s+j) c).fmod (AC g3 t c)=0)).getD false
def E3:Nat→List (List Int)→Nat→Nat→Option (List (List Int)×Nat)
 | 0,_,_,_=>none
 | F+1,g,c,t=>
   if HJ g c then
    match Cm g c t (g.length - t) with
    | none=>some (g,t)
    | some k=>(Ca (DT g t k) c t (t+1) (g.length - (t+1))).bind fun g2=>
      if EB (DT g t k) c t (t+1) (g.length - (t+1)) then E3 F g2 c t else if Jz (AC g2 t c) then (Fv g2 t c).map fun g3=>(g3,t+1) else none
   else none
def CF (F:Nat):Nat→Nat→List (List Int)→Nat→Option (List (List Int)×Nat)
 | 0,_,g,t=>some (g,t)
 | n+1,c,g,t=>if t < g.length then (E3 F g c t).bind fun r=>CF F n (c+1) r.1 r.2 else some (g,t)
theorem JP {F c t:Nat} {g:List (List Int)} {r:List (List Int)×Nat} (h:E3 (F+1) g c t=some r):E3 (F+1) g c t=match Cm g c t (g.length - t) with
 | none=>some (g,t)
 | some k=>(Ca (DT g t k) c t (t+1) (g.length - (t+1))).bind fun g2=>
   if EB (DT g t k) c t (t+1) (g.length - (t+1)) then E3 F g2 c t else if Jz (AC g2 t c) then (Fv g2 t c).map fun g3=>(g3,t+1) else none:=by
 rw [E3] at h
 rw [E3]
 split at h
 ·rename_i h1; rw [Ai h1]
 ·simp at h
theorem ER {g:List (List Int)} {c t:Nat}:∀ j k,Cm g c t j=some k→t≤k∧k < t+j
 | 0,k,h=>by simp [Cm] at h
 | j+1,k,h=>by
   rw [Cm] at h
   unfold Fp at h
   split at h
   ·have:=ER j k h; omega
   ·split at h
    ·injection h with h; omega
    ·rename_i q hq
     have:=ER j q hq
     split at h <;> (injection h with h; omega)
theorem Qn (lb lo lc ob oo oc n:Nat) (q:Int) (xs ys zs:List Int) (w:World) (hG:G w) (hx:Own w lb lo xs) (hy:Own w ob oo ys) (hne:lb≠ob) (hl:xs.length≤1000000000)
 (hn:xs.length=n) (hm:ys.length=n) (hs:Dw q xs ys=some zs) :
 Calls Tryz.prog 113 #[.slice (some ⟨lb,lo,none⟩) n lc,.string (tx q),.slice (some ⟨ob,oo,none⟩) n oc] w fun e w'=>e=.returned (.tuple #[])∧Fx (·=lb) w w'∧Own w' lb lo zs :=
 Ug lb lo lc ob oo oc n n q xs ys zs w hG hx hy hne hl hn.symm hm.symm (by omega) hs
theorem Lv (ob oo oc:Nat) (hs:List (Nat×Nat×Nat)) (g gF:List (List Int)) (F n cols tF:Nat) (w:World) (hG:G w) (hg:Bz w ob oo hs g) (hr:Bx n g) (hn:n≤1000000) (hl:g.length≤1000000)
 (hc:cols≤n) (hoc:g.length≤oc) (hf:CF F cols 0 g 0=some (gF,tF)) :
 Calls Tryz.prog 90 #[.slice (some ⟨ob,oo,none⟩) g.length oc,.int .i64 cols] w fun e w'=>e=.returned (.slice (some ⟨ob,oo,none⟩) tF oc)∧tF≤g.length∧gF.length=g.length∧Bx n gF∧∃ hs',LR ob hs' hs∧Fx (gb ob hs) w w'∧Bz w' ob oo hs' gF:=by
 have hG0:=hZ hg
 have hR0:=hZ hr
 have hF0:=hZ hf
 have hG1:=hZ hG
 clear hg hr hf hG
 go_enter Tryz.func90,Tryz.ntmps90
 go_wp2_with fail
 go_loopg [5,6] cols (fun k s5 s6 wr=>∃ (c top:Nat) (g1:List (List Int)) (hs1:List (Nat×Nat×Nat)),s5=.int .i64 top∧s6=.int .i64 c∧c+k=cols∧top≤g.length∧Hid (CF F k c g1 top=some (gF,tF))∧Hid (Bz wr ob oo hs1 g1)∧Hid (Bx n g1)∧Hid (g1.length=g.length)∧Hid (LR ob hs1 hs)∧Fx (gb ob hs) w wr)
 case atStart=>exact ⟨0,0,g,hs,rfl,rfl,by omega,by omega,hF0,hG0,hR0,rfl,⟨fun _=>Iff.rfl,fun _ h=>h⟩,Fx.refl _ _⟩
 case round=>
  obtain ⟨c,top,g1,hs1,rfl,rfl,hck,htop,hh1,hg1,hr1,hl1,hb1,hfx1⟩:=hrel
  by_cases hcc:c < cols
  ·by_cases htl:top < g.length
   ·obtain ⟨k,rfl⟩:∃ k,gk=k+1:=⟨gk - 1,by omega⟩
    have hcol:∃ r,E3 F g1 c top=some r∧CF F k (c+1) r.1 r.2=some (gF,tF):=by
     have h:=hh1.out
     rw [CF,Ai (by rw [hl1.out]; exact htl)] at h
     exact AY.1 h
    obtain ⟨⟨g',t'⟩,hc1,hc2⟩:=hcol
    have hc2:=hZ hc2
    go_wp2_with fail
    go_loopg [5] F (fun f s5 wr2=>∃ (g2:List (List Int)) (hs2:List (Nat×Nat×Nat)),s5=.int .i64 top∧Hid (E3 f g2 c top=some (g',t'))∧Hid (Bz wr2 ob oo hs2 g2)∧Hid (Bx n g2)∧Hid (g2.length=g.length)∧Hid (LR ob hs2 hs)∧Fx (gb ob hs) w wr2)
    case atStart=>exact ⟨g1,hs1,rfl,hc1,hg1,hr1,hl1,hb1,hfx1⟩
    case round=>
     clear hg1 hr1 hl1 hb1 hfx1 hh1 hc1
     obtain ⟨g2,hs2,rfl,hc1,hg2,hr2,hl2,hb2,hfx2⟩:=hrel
     obtain ⟨f,rfl⟩:∃ f',gk=f'+1:=by
      cases gk with
      | zero=>have:=hc1.out; simp [E3] at this
      | succ f=>exact ⟨f,rfl⟩
     have hcok:HJ g2 c=true:=by
      have h:=hc1.out
      unfold E3 at h
      split at h
      ·assumption
      ·simp at h
     have hsm:∀ i,i < g.length→Wd (AC g2 i c):=fun i hi=>G0 (AE.1 hcok i (BH.2 (by rw [hl2.out]; exact hi)))
     replace hsm:=hZ hsm
     clear hcok
     go_wp2_with fail
     go_loopg [7,8] (g.length - top) (fun m s7 s8 wr3=>∃ i j:Nat,s8=.int .i64 i∧Hid (i=top+j)∧i+m=g.length∧s7=.int .i64 (kI (Cm g2 c top j))∧Qt wr wr3)
     case atStart=>exact ⟨top,0,rfl,rfl,by omega,rfl,Qt.refl _⟩
     case round=>
      obtain ⟨i,j,rfl,hij,hjm,rfl,hq3⟩:=hrel
      by_cases hil:i < g.length
      ·have hgr3:=hg2.out.fr hq3.fr
       have hln2:=hl2.out
       obtain ⟨bi,oi,ki,hsi,cai,cfi,roi,boi⟩:=hgr3.at (i:=i) (by rw [hln2]; exact hil)
       have cei:=(roi.2.2 c _ (EV hr2.out (by rw [hln2]; exact hil) (show c < n by omega))).1
       rw [hr2.out.row (by rw [hln2]; exact hil)] at cai
       have zi:(0:Int)≤(i:Int):=Aj _
       have zi2:(i:Int) < (g.length:Int):=by omega
       have zc:(0:Int)≤(c:Int):=Aj _
       have zc2:(c:Int) < (n:Int):=by omega
       have hb:=Cn (AC g2 i c)
       have hstep:Cm g2 c top (j+1)=Fp g2 c i (Cm g2 c top j):=by rw [Cm,hij.out]
       have hij2:=hZ (show i+1=top+(j+1) by have:=hij.out; omega)
       have hlt:=ER (g:=g2) (c:=c) (t:=top) j
       have hs1:=hZ (hsm.out i hil).size
       by_cases h0:AC g2 i c=0
       ·rw [Ab h0] at hb
        have hst2:=hZ (show Cm g2 c top (j+1)=Cm g2 c top j by rw [hstep]; unfold Fp; rw [Ai h0])
        clear hstep h0 hlt hsi roi hgr3 hln2
        go_wp2_with fail
        go_quiet (fail)
        go_wp2_with fail
        go_roundg (gk - 1)
        case measure=>omega
        case rel=>exact ⟨i+1,j+1,by go_num,hij2,by omega,by rw [hst2.out],by repeat (with_reducible first | assumption | exact Qt.refl _ | refine Qt.drew ?_ | refine Qt.drewN ?_ _ | refine Qt.trans ?_ (by assumption))⟩
       ·rw [Aa h0] at hb
        generalize Cm g2 c top j=p at *
        cases p with
        | none=>
          have hst2:=hZ (show Cm g2 c top (j+1)=some i by rw [hstep]; unfold Fp; rw [Ag h0])
          clear hstep h0 hlt hsi roi hgr3 hln2
          simp only [kI]
          go_wp2_with fail
          go_quiet (fail)
          go_wp2_with fail
          go_roundg (gk - 1)
          case measure=>omega
          case rel=>exact ⟨i+1,j+1,by go_num,hij2,by omega,by rw [hst2.out]; rfl,by repeat (with_reducible first | assumption | exact Qt.refl _ | refine Qt.drew ?_ | refine Qt.drewN ?_ _ | refine Qt.trans ?_ (by assumption))⟩
        | some q=>
          obtain ⟨hq1,hq2⟩:=hlt q rfl
          have hql:q < g.length:=by have:=hij.out; omega
          obtain ⟨bq,oq,kq,hsq,caq,cfq,roq,boq⟩:=hgr3.at (i:=q) (by rw [hln2]; exact hql)
          have ceq:=(roq.2.2 c _ (EV hr2.out (by rw [hln2]; exact hql) (show c < n by omega))).1
          rw [hr2.out.row (by rw [hln2]; exact hql)] at caq
          have zq:(0:Int)≤(q:Int):=Aj _
          have zq2:(q:Int) < (g.length:Int):=by omega
          have zq3:decide ((q:Int) < 0)=false:=Aa (by omega)
          have hs2:=hZ (hsm.out q hql).size
          have hs3:=hZ (show (tx ((AC g2 i c).natAbs:Int)).size≤16000002 from (hsm.out i hil).asize)
          have hs4:=hZ (show (tx ((AC g2 q c).natAbs:Int)).size≤16000002 from (hsm.out q hql).asize)
          replace hq1:=hZ hq1
          replace hq2:=hZ hq2
          by_cases hcm:FG ((AC g2 i c).natAbs:Int) ((AC g2 q c).natAbs:Int) < 0
          ·have hst2:=hZ (show Cm g2 c top (j+1)=some i by rw [hstep]; unfold Fp; rw [Ag h0]; simp only [Ai hcm])
           have hcd:decide (FG ((AC g2 i c).natAbs:Int) ((AC g2 q c).natAbs:Int) < 0)=true:=Ab hcm
           clear hstep h0 hlt hsi roi hgr3 hln2 hsq roq hcm
           simp only [kI]
           go_wp2_with fail
           go_quiet (first | (go_at_call 138; exact Od (LY _ _ (by first | (have:=hs1.out; omega) | (have:=hs2.out; omega)))) | (go_at_call 137; exact Od (Jl _ _ _ (by have:=hs3.out; omega) (by have:=hs4.out; omega))))
           go_wp2_with fail
           go_roundg (gk - 1)
           case measure=>omega
           case rel=>exact ⟨i+1,j+1,by go_num,hij2,by omega,by rw [hst2.out]; rfl,by repeat (with_reducible first | assumption | exact Qt.refl _ | refine Qt.drew ?_ | refine Qt.drewN ?_ _ | refine Qt.trans ?_ (by assumption))⟩
          ·have hst2:=hZ (show Cm g2 c top (j+1)=some q by rw [hstep]; unfold Fp; rw [Ag h0]; simp only [Ag hcm])
           have hcd:decide (FG ((AC g2 i c).natAbs:Int) ((AC g2 q c).natAbs:Int) < 0)=false:=Aa hcm
           clear hstep h0 hlt hsi roi hgr3 hln2 hsq roq hcm
           simp only [kI]
           go_wp2_with fail
           go_quiet (first | (go_at_call 138; exact Od (LY _ _ (by first | (have:=hs1.out; omega) | (have:=hs2.out; omega)))) | (go_at_call 137; exact Od (Jl _ _ _ (by have:=hs3.out; omega) (by have:=hs4.out; omega))))
           go_wp2_with fail
           go_roundg (gk - 1)
           case measure=>omega
           case rel=>exact ⟨i+1,j+1,by go_num,hij2,by omega,by rw [hst2.out]; rfl,by repeat (with_reducible first | assumption | exact Qt.refl _ | refine Qt.drew ?_ | refine Qt.drewN ?_ _ | refine Qt.trans ?_ (by assumption))⟩
      ·have hj:j=g.length - top:=by have:=hij.out; omega
       have hd:decide (i < g.length)=false:=Aa hil
       have hcol:=JP hc1.out
       rw [hl2.out,← hj,hc1.out] at hcol
       have hlt:=ER (g:=g2) (c:=c) (t:=top) j
       generalize Cm g2 c top j=p at *
       have hgr3:=hZ (hg2.out.fr hq3.fr)
       have hfx3:=hfx2.fr hq3.fr
       cases p with
       | none=>
         have hcol2:=hZ (show some (g',t')=some (g2,top) from hcol)
         clear hcol hlt
         simp only [kI]
         go_wp2_with fail
         go_roundg k
         case measure=>omega
         case rel=>
          have h:=hcol2.out
          injection h with h; injection h with h1 h2; subst h1; subst h2
          exact ⟨c+1,t',g',hs2,by go_num,by go_num,by omega,htop,hc2,hgr3,hr2,hl2,hb2,hfx3⟩
       | some q=>
         have hq:=hlt q rfl
         have hq2:q < g.length:=by have:=hij.out; omega
         replace hq:=hZ hq.1
         simp only [kI]
         clear hlt
         have hcolT:∃ gE,Ca (DT g2 top q) c top (top+1) (g.length - (top+1))=some gE∧(if EB (DT g2 top q) c top (top+1) (g.length - (top+1)) then E3 f gE c top else if Jz (AC gE top c) then (Fv gE top c).map fun g3=>(g3,top+1) else none)=some (g',t') :=
          AY.1 hcol.symm
         clear hcol
         have zq3:decide ((q:Int) < 0)=false:=Aa (by omega)
         have hln2:=hl2.out
         obtain ⟨bt,ot,kt,hst,cat,cft,rot,bot⟩:=hgr3.out.at (i:=top) (by rw [hln2]; exact htl)
         obtain ⟨bq,oq,kq,hsq,caq,cfq,roq,boq⟩:=hgr3.out.at (i:=q) (by rw [hln2]; exact hq2)
         rw [hr2.out.row (by rw [hln2]; exact htl)] at cat
         rw [hr2.out.row (by rw [hln2]; exact hq2)] at caq
         have ztop:(0:Int)≤(top:Int):=Aj _
         have zq:(0:Int)≤(q:Int):=Aj _
         have ztop2:(top:Int) < (g.length:Int):=by omega
         have zq2:(q:Int) < (g.length:Int):=by omega
         obtain ⟨X,hX⟩:∃ X,(wr.setCell ⟨ob,oo+top,none⟩ (.slice (some ⟨bq,oq,none⟩) n kq)).cell? ⟨ob,oo+q,none⟩=some X:=by
          by_cases htq:top=q
          ·subst htq; exact ⟨_,Al _ _ _ (by rw [cat]; rfl)⟩
          ·exact ⟨_,by rw [Ad _ _ _ _ (fun e=>by injection e with _ e; omega)]; exact caq⟩
         obtain ⟨W,hW⟩:∃ W,W=((wr.setCell ⟨ob,oo+top,none⟩ (.slice (some ⟨bq,oq,none⟩) n kq)).setCell ⟨ob,oo+q,none⟩ (.slice (some ⟨bt,ot,none⟩) n kt)).drew:=⟨_,rfl⟩
         have hgX:Bz W ob oo (DT hs2 top q) (DT g2 top q):=by
          rw [hW]
          by_cases htq:top=q
          ·subst htq
           have e:=hst.symm.trans hsq
           injection e with e; injection e with e1 e; injection e with e2 e3
           subst e1; subst e2; subst e3
           rw [K6,K6]
           exact (hgr3.out.same cat).fr (Fr.refl _).drew
          ·have hgt:=Ac (show top < g2.length by rw [hln2]; exact htl)
           have hgq:=Ac (show q < g2.length by rw [hln2]; exact hq2)
           have h:=(hgr3.out.swap hst hsq hgt hgq htq).fr (Fr.refl _).drew
           rw [hr2.out.row (by rw [hln2]; exact hq2),hr2.out.row (by rw [hln2]; exact htl)] at h
           exact h
         have hfX:Fx (gb ob hs) w W:=by rw [hW]; exact ((hfx3.setCell (q:=⟨ob,oo+top,none⟩) (.inl (.inl rfl)) _).setCell (q:=⟨ob,oo+q,none⟩) (.inl (.inl rfl)) _).drew
         have hRX:=hZ (Ht (i:=top) (j:=q) hr2.out)
         have hlX:=hZ (show (DT g2 top q).length=g.length by rw [GZ]; exact hln2)
         have hbX:=hZ (show LR ob (DT hs2 top q) hs from ⟨fun k=>(UB hst hsq k).trans (hb2.out.1 k),fun h hm=>hb2.out.2 h (Q8 hm)⟩)
         replace hcolT:=hZ hcolT
         replace hst:=hZ hst
         replace hsq:=hZ hsq
         replace hgX:=hZ hgX
         replace hW:=hZ hW
         go_wp2_with fail
         go_region
         rw [← hW.out]
         clear hW hX hg2 hr2 hl2 hb2 hfx2 hgr3 hfx3 hst hsq cat caq cft cfq rot roq hc1 hq3 hsm hln2 hij hd
         generalize DT g2 top q=gX at *
         generalize DT hs2 top q=hsX at *
         as_aux_lemma=>
          obtain ⟨gE,hE1,hE2⟩:=hcolT.out
          replace hE1:=hZ hE1
          go_wp2_with fail
          go_loopg [9,10] (g.length - (top+1)) (fun m s9 s10 wr4=>∃ (i j:Nat) (g3:List (List Int)),s9=.bool (EB gX c top (top+1) j)∧s10=.int .i64 i∧Hid (i=top+1+j)∧i+m=g.length∧Hid (Ca gX c top (top+1) j=some g3)∧Bz wr4 ob oo hsX g3∧Fx (gb ob hs) w wr4)
          case atStart=>exact ⟨top+1,0,gX,rfl,by go_num,rfl,by omega,rfl,hgX.out,hfX⟩
          case round=>
           as_aux_lemma=>
            clear hgX hfX
            obtain ⟨i,j,g3,rfl,rfl,hij,him,he,hg3,hfx4⟩:=hrel
            obtain ⟨hr3,hl3⟩:=Ci hRX.out j g3 he.out (by rw [hlX.out]; have:=hij.out; omega)
            rw [hlX.out] at hl3
            replace hr3:=hZ hr3
            have hl3':=hl3
            replace hl3:=hZ hl3
            by_cases hil:i < g.length
            ·obtain ⟨g4,hg4⟩:=FE (j+1) (g.length - (top+1)) gE hE1.out (by have:=hij.out; omega)
             have hstep:Gd g3 c top i=some g4:=by
              have:=hg4
              rw [Ca,he.out] at this
              rw [hij.out]
              simpa using this
             obtain ⟨sa,sb,hb0,r,htk,rfl⟩:=Er hstep
             have hrs:EB gX c top (top+1) (j+1)=(EB gX c top (top+1) j || !decide ((AC g3 i c).fmod (AC g3 top c)=0)):=by
              rw [EB,he.out,hij.out]; rfl
             have hbz:=Cn ((AC g3 i c).fmod (AC g3 top c))
             rw [← hbz] at hrs
             clear hbz
             replace hrs:=hZ hrs
             obtain ⟨bR,hbR⟩:∃ bR,bR=EB gX c top (top+1) j:=⟨_,rfl⟩
             rw [← hbR] at hrs ⊢
             clear hbR
             have hj1:i < g3.length:=by omega
             have ht1:top < g3.length:=by omega
             obtain ⟨b1,o1,k1,hs1,ca1,cf1,ro1,bo1⟩:=hg3.at hj1
             obtain ⟨b2,o2,k2,hs2,ca2,cf2,ro2,bo2⟩:=hg3.at ht1
             have hb12:=hg3.apart i top _ _ hs1 hs2 (by have:=hij.out; omega)
             have ce1:=(ro1.2.2 c _ (EV hr3.out hj1 (by omega))).1
             have ce2:=(ro2.2.2 c _ (EV hr3.out ht1 (by omega))).1
             rw [hr3.out.row hj1] at ca1
             rw [hr3.out.row ht1] at ca2
             have hGr:=hG1.out.fx hfx4 hG0.out.ge
             have q0:(0:Int)≤(i:Int):=Aj _
             have q1:(i:Int) < (g.length:Int):=by omega
             have q2:(top:Int) < (g.length:Int):=by omega
             have q3:(c:Int) < (n:Int):=by omega
             have q4:(0:Int)≤(top:Int):=Aj _
             have q5:(0:Int)≤(c:Int):=Aj _
             replace hg4:=hZ hg4
             replace htk:=hZ htk
             replace hg3:=hZ hg3
             replace ro1:=hZ ro1
             replace ro2:=hZ ro2
             replace hs1:=hZ hs1
             replace hs2:=hZ hs2
             replace hstep:=hZ hstep
             clear hl3'
             go_wp2_with fail
             go_region_held3 (fun w'=>w'.cell? ⟨ob,oo+i,none⟩=some (.slice (some ⟨b1,o1,none⟩) n k1)∧w'.cell? ⟨b1,o1+c,none⟩=some (.string (tx (AC g3 i c)))∧w'.cell? ⟨ob,oo+top,none⟩=some (.slice (some ⟨b2,o2,none⟩) n k2)∧w'.cell? ⟨b2,o2+c,none⟩=some (.string (tx (AC g3 top c))))
              (first | go_keep | (go_split_ands; refine ⟨?_, ?_, ?_, ?_⟩ <;> (refine Fr.keep (by assumption) ?_; assumption)))
              (first | (go_at_call 112; refine (Jk _ _ sa sb hb0 _ (hGr.fr ?_)).mono ?_; (exact B9); rintro e w1 ⟨rfl,hf1⟩))
             have hfr:Fr wr w1:=by exact B9
             replace ca1:=hfr.keep (p:=⟨ob,oo+i,none⟩) ca1
             replace ca2:=hfr.keep (p:=⟨ob,oo+top,none⟩) ca2
             have len1:(g3[i]).length=n:=hr3.out.row hj1
             have len2:(g3[top]).length=n:=hr3.out.row ht1
             rw [CU hj1,CU ht1] at htk
             replace len1:=hZ len1
             replace len2:=hZ len2
             go_wp2_with fail
             go_region_held3 (fun w'=>w'.cell? ⟨ob,oo+i,none⟩=some (.slice (some ⟨b1,o1,none⟩) n k1)∧w'.cell? ⟨ob,oo+top,none⟩=some (.slice (some ⟨b2,o2,none⟩) n k2))
              (first | go_keep | (go_split_ands; refine ⟨?_, ?_⟩ <;> (refine Fx.keep (p:=(·=b1)) (by assumption) (by assumption) (fun e=>bo1 e.symm))))
              (first | (go_at_call 113; refine (Qn b1 o1 k1 b2 o2 k2 n _ _ _ r _ (hGr.fr ?_) (ro1.out.fr ?_) (ro2.out.fr ?_) hb12 (by rw [len1.out]; omega) len1.out len2.out htk.out).mono ?_; (exact B9); (exact B9); (exact B9); rintro e w2 ⟨rfl,hfx5,hown5⟩))
             have hgF:=hg3.out.setRowF hs1.out hfx5 hown5 (fun xs h=>by have h2:=FO htk.out; rw [Ac hj1] at h; injection h with h; rw [← h]; exact h2) (by exact B9)
             have hfF:=hfx4.via hfx5 (fun j hj=>(hbX.out.1 j).1 (NP hs1.out j hj)) (by exact B9)
             cases hrz:((tx ((AC g3 i c).fmod (AC g3 top c))).toList == [48])
             all_goals
              rw [hrz] at hrs
              cases bR
              all_goals
               go_wp2_with fail
               go_roundg (gk - 1)
               case measure=>omega
               case rel=>exact ⟨i+1,j+1,_,by rw [hrs.out]; rfl,by go_num,by have:=hij.out; show _=_; omega,by omega,hg4.out,hgF,hfF⟩
            ·have hd2:decide (i < g.length)=false:=Aa hil
             have hjj:j=g.length - (top+1):=by have:=hij.out; omega
             have hge:g3=gE:=by
              have h1:=he.out
              rw [hjj,hE1.out] at h1
              injection h1 with h1; exact h1.symm
             subst hge
             replace hjj:=hZ hjj
             clear hl3'
             cases hRT:EB gX c top (top+1) j with
             | true=>
               rw [← hjj.out,hRT,Ai rfl] at hE2
               replace hE2:=hZ hE2
               go_wp2_with fail
               go_roundg f
               case measure=>omega
               case rel=>exact ⟨g3,hsX,rfl,hE2,hg3,hr3,hl3,hbX,hfx4⟩
             | false=>
               rw [← hjj.out,hRT,Ag (by simp)] at hE2
               split at hE2
               ·rename_i hsB
                have hfin:Fv g3 top c=some g'∧t'=top+1:=by
                 obtain ⟨g4,h1,h2⟩:=BO.1 hE2
                 injection h2 with h2 h3
                 subst h2
                 exact ⟨h1,h3.symm⟩
                obtain ⟨hF9,rfl⟩:=hfin
                have ht3:top < g3.length:=by have:=hl3.out; omega
                obtain ⟨b2,o2,k2,hs2,ca2,cf2,ro2,bo2⟩:=hg3.at ht3
                have ce2:=(ro2.2.2 c _ (EV hr3.out ht3 (by omega))).1
                rw [hr3.out.row ht3] at ca2
                have q2:(top:Int) < (g.length:Int):=by omega
                have q3:(c:Int) < (n:Int):=by omega
                have q4:(0:Int)≤(top:Int):=Aj _
                have q5:(0:Int)≤(c:Int):=Aj _
                unfold Fv at hF9
                by_cases hneg:AC g3 top c < 0
                ·as_aux_lemma=>
                 rw [Ai hneg] at hF9
                 split at hF9
                 ·rename_i hsm9
                  have hrow:=CU ht3
                  rw [hrow] at hF9 hsm9
                  have hrl:=hr3.out.row ht3
                  have hRg:=hZ (hr3.out.set (i:=top) (r:=(g3[top]).map (fun x=>-x)) (by simp [hrl]))
                  have hLg:Hid ((g3.set top ((g3[top]).map (fun x=>-x))).length=g.length):=hZ (by rw [A0]; exact hl3.out)
                  have hturn:=fun W (hW:Fr wr W)=>Qm b2 o2 k2 g3[top] W ((hG1.out.fx hfx4 hG0.out.ge).fr hW) (ro2.fr hW) (by rw [hrl]; omega) (P9 hsm9)
                  rw [hrl] at hturn
                  have hGs:∀ W w',Fr wr W→Fx (·=b2) W w'→Own w' b2 o2 ((g3[top]).map (fun x=>-x))→Bz w' ob oo hsX (g3.set top ((g3[top]).map (fun x=>-x))):=fun W w' k0 k1 k2=>(hg3.fr k0).setRow hs2 k1 k2 (fun xs h=>by rw [Ac ht3] at h; injection h with h; rw [← h]; simp)
                  have hbs:=hZ (fun j hj=>(hbX.out.1 j).1 (NP (ob:=ob) hs2 j hj))
                  have hlt0:AC g3 top c < 0:=hneg
                  generalize g3.set top ((g3[top]).map (fun x=>-x))=g0 at *
                  generalize (g3[top]).map (fun x=>-x)=zs at *
                  have hFg:=hZ hF9
                  replace hGs:=hZ hGs
                  replace hturn:=hZ hturn
                  have hfx4h:=hZ hfx4
                  clear hF9 hrow hg3 hr3 hl3 hrl hneg ro2 hs2 hsm9 hsB he hRT ht3
                  go_wp2_with fail
                  refine (C7 _ _).mono ?_
                  rintro e w8 ⟨rfl,rfl⟩
                  go_wp2_with fail
                  refine (hturn.out _ (Fr.refl _)).mono ?_
                  rintro e w9 ⟨rfl,hfx9,hown9⟩
                  have hGg:=hZ (hGs.out _ w9 (Fr.refl _) hfx9 hown9)
                  have hfx10:=hfx4h.out.via hfx9 hbs.out (Fr.refl _)
                  clear hown9 hfx9 hturn ca2 cf2 ce2 hlt0 hfx4
                  go_wp2_with fail
                  go_loopg [143] top (fun m s143 wr=>∃ (j:Nat) (g1:List (List Int)),s143=.int .i64 j∧j+m=top∧Hid (Ca g0 c top 0 j=some g1)∧Bz wr ob oo hsX g1∧Fx (gb ob hs) w wr)
                  case atStart=>exact ⟨0,g0,rfl,by omega,rfl,hGg.out,hfx10⟩
                  case round=>
                   obtain ⟨j,g1,rfl,hjk,he,hgr,hfx⟩:=hrel
                   obtain ⟨hr1,hl1⟩:=Ci hRg.out j g1 he.out (by have:=hLg.out; omega)
                   have hLg2:=hLg.out
                   by_cases hlt:j < top
                   ·obtain ⟨g2,hg2⟩:=FE (j+1) top g' hFg.out (by omega)
                    have hstep:Gd g1 c top j=some g2:=by
                     have:=hg2
                     rw [Ca,he.out] at this
                     simpa using this
                    obtain ⟨sa,sb,hb0,r,htk,rfl⟩:=Er hstep
                    have hj1:j < g1.length:=by omega
                    have ht1:top < g1.length:=by omega
                    obtain ⟨b1,o1,k1,hs1,ca1,cf1,ro1,bo1⟩:=hgr.at hj1
                    obtain ⟨b2,o2,k2,hs2,ca2,cf2,ro2,bo2⟩:=hgr.at ht1
                    have hb12:=hgr.apart j top _ _ hs1 hs2 (by omega)
                    have ce1:=(ro1.2.2 c _ (EV hr1 hj1 (by omega))).1
                    have ce2:=(ro2.2.2 c _ (EV hr1 ht1 (by omega))).1
                    rw [hr1.row hj1] at ca1
                    rw [hr1.row ht1] at ca2
                    have hGr:=hG1.out.fx hfx hG0.out.ge
                    have q0:(0:Int)≤(j:Int):=Aj _
                    have q1:(j:Int) < (g.length:Int):=by omega
                    have q2:(top:Int) < (g.length:Int):=by omega
                    have q3:(c:Int) < (n:Int):=by omega
                    replace hg2:=hZ hg2
                    replace htk:=hZ htk
                    have hgr2:=hZ hgr
                    replace ro1:=hZ ro1
                    replace ro2:=hZ ro2
                    replace hs1:=hZ hs1
                    replace hr1:=hZ hr1
                    go_wp2_with fail
                    go_region_held3 (fun w'=>w'.cell? ⟨ob,oo+j,none⟩=some (.slice (some ⟨b1,o1,none⟩) n k1)∧w'.cell? ⟨b1,o1+c,none⟩=some (.string (tx (AC g1 j c)))∧w'.cell? ⟨ob,oo+top,none⟩=some (.slice (some ⟨b2,o2,none⟩) n k2)∧w'.cell? ⟨b2,o2+c,none⟩=some (.string (tx (AC g1 top c))))
                     (first | go_keep | (go_split_ands; refine ⟨?_, ?_, ?_, ?_⟩ <;> (refine Fr.keep (by assumption) ?_; assumption)))
                     (first | (go_at_call 112; refine (Jk _ _ sa sb hb0 _ (hGr.fr ?_)).mono ?_; (exact B9); rintro e w1 ⟨rfl,hf1⟩))
                    have hfr:Fr wr w1:=by exact B9
                    replace ca1:=hfr.keep (p:=⟨ob,oo+j,none⟩) ca1
                    replace ca2:=hfr.keep (p:=⟨ob,oo+top,none⟩) ca2
                    go_wp2_with fail
                    have len1:(g1[j]).length=n:=hr1.out.row hj1
                    have len2:(g1[top]).length=n:=hr1.out.row ht1
                    rw [CU hj1,CU ht1] at htk
                    replace len1:=hZ len1
                    replace len2:=hZ len2
                    go_region_held3 (fun w'=>w'.cell? ⟨ob,oo+j,none⟩=some (.slice (some ⟨b1,o1,none⟩) n k1)∧w'.cell? ⟨ob,oo+top,none⟩=some (.slice (some ⟨b2,o2,none⟩) n k2))
                     (first | go_keep | (go_split_ands; refine ⟨?_, ?_⟩ <;> (refine Fx.keep (p:=(·=b1)) (by assumption) (by assumption) (fun e=>bo1 e.symm))))
                     (first | (go_at_call 113; refine (Qn b1 o1 k1 b2 o2 k2 n _ _ _ r _ (hGr.fr ?_) (ro1.out.fr ?_) (ro2.out.fr ?_) hb12 (by rw [len1.out]; omega) len1.out len2.out htk.out).mono ?_; (exact B9); (exact B9); (exact B9); rintro e w2 ⟨rfl,hfx2,hown2⟩))
                    have hgF:=hgr2.out.setRowF hs1.out hfx2 hown2 (fun xs h=>by have h2:=FO htk.out; rw [Ac hj1] at h; injection h with h; rw [← h]; exact h2) (by exact B9)
                    have hfF:=hfx.via hfx2 (fun j hj=>(hbX.out.1 j).1 (NP hs1.out j hj)) (by exact B9)
                    go_wp2_with fail
                    go_roundg (gk - 1)
                    case measure=>omega
                    case rel=>exact ⟨j+1,_,by go_num,by omega,hg2,hgF,hfF⟩
                   ·obtain rfl:j=top:=by omega
                    have h1:=he.out
                    rw [hFg.out] at h1
                    injection h1 with h1; subst h1
                    have hdj:decide (j < j)=false:=Aa (by omega)
                    replace hgr:=hZ hgr
                    replace hr1:=hZ hr1
                    replace hl1:=hZ hl1
                    go_wp2_with fail
                    go_roundg k
                    case measure=>omega
                    case rel=>exact ⟨c+1,j+1,g',hsX,by go_num,by go_num,by omega,by omega,hc2,hgr,hr1,(by show _=_; rw [hl1.out,hLg.out]),hbX,hfx⟩
                 ·cases hF9
                ·as_aux_lemma=>
                 rw [Ag hneg] at hF9
                 have hGg:=hZ hg3
                 have hRg:=hr3
                 have hLg:=hl3
                 have hFg:=hZ hF9
                 have hfx10:=hfx4
                 have hge:0≤AC g3 top c:=by omega
                 clear hF9 hg3 hr3 hl3 hneg ro2 hs2 hsB he hRT ht3
                 go_wp2_with fail
                 refine (C7 _ _).mono ?_
                 rintro e w8 ⟨rfl,rfl⟩
                 go_wp2_with fail
                 clear ca2 cf2 ce2 hge hfx4
                 go_loopg [143] top (fun m s143 wr=>∃ (j:Nat) (g1:List (List Int)),s143=.int .i64 j∧j+m=top∧Hid (Ca g3 c top 0 j=some g1)∧Bz wr ob oo hsX g1∧Fx (gb ob hs) w wr)
                 case atStart=>exact ⟨0,g3,rfl,by omega,rfl,hGg.out,hfx10⟩
                 case round=>
                  obtain ⟨j,g1,rfl,hjk,he,hgr,hfx⟩:=hrel
                  obtain ⟨hr1,hl1⟩:=Ci hRg.out j g1 he.out (by have:=hLg.out; omega)
                  have hLg2:=hLg.out
                  by_cases hlt:j < top
                  ·obtain ⟨g2,hg2⟩:=FE (j+1) top g' hFg.out (by omega)
                   have hstep:Gd g1 c top j=some g2:=by
                    have:=hg2
                    rw [Ca,he.out] at this
                    simpa using this
                   obtain ⟨sa,sb,hb0,r,htk,rfl⟩:=Er hstep
                   have hj1:j < g1.length:=by omega
                   have ht1:top < g1.length:=by omega
                   obtain ⟨b1,o1,k1,hs1,ca1,cf1,ro1,bo1⟩:=hgr.at hj1
                   obtain ⟨b2,o2,k2,hs2,ca2,cf2,ro2,bo2⟩:=hgr.at ht1
                   have hb12:=hgr.apart j top _ _ hs1 hs2 (by omega)
                   have ce1:=(ro1.2.2 c _ (EV hr1 hj1 (by omega))).1
                   have ce2:=(ro2.2.2 c _ (EV hr1 ht1 (by omega))).1
                   rw [hr1.row hj1] at ca1
                   rw [hr1.row ht1] at ca2
                   have hGr:=hG1.out.fx hfx hG0.out.ge
                   have q0:(0:Int)≤(j:Int):=Aj _
                   have q1:(j:Int) < (g.length:Int):=by omega
                   have q2:(top:Int) < (g.length:Int):=by omega
                   have q3:(c:Int) < (n:Int):=by omega
                   replace hg2:=hZ hg2
                   replace htk:=hZ htk
                   have hgr2:=hZ hgr
                   replace ro1:=hZ ro1
                   replace ro2:=hZ ro2
                   replace hs1:=hZ hs1
                   replace hr1:=hZ hr1
                   go_wp2_with fail
                   go_region_held3 (fun w'=>w'.cell? ⟨ob,oo+j,none⟩=some (.slice (some ⟨b1,o1,none⟩) n k1)∧w'.cell? ⟨b1,o1+c,none⟩=some (.string (tx (AC g1 j c)))∧w'.cell? ⟨ob,oo+top,none⟩=some (.slice (some ⟨b2,o2,none⟩) n k2)∧w'.cell? ⟨b2,o2+c,none⟩=some (.string (tx (AC g1 top c))))
                    (first | go_keep | (go_split_ands; refine ⟨?_, ?_, ?_, ?_⟩ <;> (refine Fr.keep (by assumption) ?_; assumption)))
                    (first | (go_at_call 112; refine (Jk _ _ sa sb hb0 _ (hGr.fr ?_)).mono ?_; (exact B9); rintro e w1 ⟨rfl,hf1⟩))
                   have hfr:Fr wr w1:=by exact B9
                   replace ca1:=hfr.keep (p:=⟨ob,oo+j,none⟩) ca1
                   replace ca2:=hfr.keep (p:=⟨ob,oo+top,none⟩) ca2
                   go_wp2_with fail
                   have len1:(g1[j]).length=n:=hr1.out.row hj1
                   have len2:(g1[top]).length=n:=hr1.out.row ht1
                   rw [CU hj1,CU ht1] at htk
                   replace len1:=hZ len1
                   replace len2:=hZ len2
                   go_region_held3 (fun w'=>w'.cell? ⟨ob,oo+j,none⟩=some (.slice (some ⟨b1,o1,none⟩) n k1)∧w'.cell? ⟨ob,oo+top,none⟩=some (.slice (some ⟨b2,o2,none⟩) n k2))
                    (first | go_keep | (go_split_ands; refine ⟨?_, ?_⟩ <;> (refine Fx.keep (p:=(·=b1)) (by assumption) (by assumption) (fun e=>bo1 e.symm))))
                    (first | (go_at_call 113; refine (Qn b1 o1 k1 b2 o2 k2 n _ _ _ r _ (hGr.fr ?_) (ro1.out.fr ?_) (ro2.out.fr ?_) hb12 (by rw [len1.out]; omega) len1.out len2.out htk.out).mono ?_; (exact B9); (exact B9); (exact B9); rintro e w2 ⟨rfl,hfx2,hown2⟩))
                   have hgF:=hgr2.out.setRowF hs1.out hfx2 hown2 (fun xs h=>by have h2:=FO htk.out; rw [Ac hj1] at h; injection h with h; rw [← h]; exact h2) (by exact B9)
                   have hfF:=hfx.via hfx2 (fun j hj=>(hbX.out.1 j).1 (NP hs1.out j hj)) (by exact B9)
                   go_wp2_with fail
                   go_roundg (gk - 1)
                   case measure=>omega
                   case rel=>exact ⟨j+1,_,by go_num,by omega,hg2,hgF,hfF⟩
                  ·obtain rfl:j=top:=by omega
                   have h1:=he.out
                   rw [hFg.out] at h1
                   injection h1 with h1; subst h1
                   have hdj:decide (j < j)=false:=Aa (by omega)
                   replace hgr:=hZ hgr
                   replace hr1:=hZ hr1
                   replace hl1:=hZ hl1
                   go_wp2_with fail
                   go_roundg k
                   case measure=>omega
                   case rel=>exact ⟨c+1,j+1,g',hsX,by go_num,by go_num,by omega,by omega,hc2,hgr,hr1,(by show _=_; rw [hl1.out,hLg.out]),hbX,hfx⟩
               ·cases hE2
   ·have hfin:gF=g1∧tF=top:=by
     have h:=hh1.out
     cases gk with
     | zero=>rw [CF] at h; injection h with h; injection h with h1 h2; exact ⟨h1.symm,h2.symm⟩
     | succ k=>rw [CF,Ag (by rw [hl1.out]; exact htl)] at h; injection h with h; injection h with h1 h2; exact ⟨h1.symm,h2.symm⟩
    obtain ⟨rfl,rfl⟩:=hfin
    have htl2:decide (tF < g.length)=false:=Aa htl
    go_wp2_with fail
    go_ret
    exact ⟨rfl,htop,hl1.out,hr1.out,hs1,hb1.out,hfx1,hg1.out⟩
  ·have hfin:gF=g1∧tF=top:=by
    have h:=hh1.out
    obtain rfl:gk=0:=by omega
    rw [CF] at h; injection h with h; injection h with h1 h2; exact ⟨h1.symm,h2.symm⟩
   obtain ⟨rfl,rfl⟩:=hfin
   have hcc2:decide (c < cols)=false:=Aa hcc
   go_wp2_with fail
   go_ret
   exact ⟨rfl,htop,hl1.out,hr1.out,hs1,hb1.out,hfx1,hg1.out⟩
end Go.Proofs.YtiniigadkknboaaGreatDoor
