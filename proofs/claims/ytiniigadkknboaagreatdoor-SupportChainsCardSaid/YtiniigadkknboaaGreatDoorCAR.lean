/- Contracts and laws: CAR. -/
import Derived.Test.YtiniigadkknboaaGreatDoorCAB
import Derived.Test.YtiniigadkknboaaGreatDoorCAQ
import Derived.Test.YtiniigadkknboaaGreatDoorCAD

set_option maxRecDepth 100000
set_option maxHeartbeats 4000000
namespace Go.Proofs.YtiniigadkknboaaGreatDoor
open Go.RowKit Go.Lib
def bigD:Nat:=16000000
def big:Nat:=10 ^ bigD
theorem big_40:10000000000000000000000000000000000000000≤big:=Nat.le_trans (show 10000000000000000000000000000000000000000≤10 ^ 40 by decide) (Nat.pow_le_pow_right (by decide) (show 40≤bigD by decide))
def Wd (n:Int):Prop:=n.natAbs < big
theorem Wd.bn {n:Int} (h:Wd n):Bn bigD n:=h
theorem Wd.size {n:Int} (h:Wd n):(tx n).size≤16000002:=by have:=h.bn.size2; unfold bigD at this; omega
theorem Wd.asize {n:Int} (h:Wd n):(tx (n.natAbs:Int)).size≤16000002:=by have:=h.bn.size; unfold bigD at this; omega
theorem Wd.of40 {n:Int} (h:n.natAbs < 10000000000000000000000000000000000000000):Wd n:=Nat.lt_of_lt_of_le h big_40
theorem Sm.wd {n:Int} (h:Sm n):Wd n:=by obtain ⟨h1,h2⟩:=h; exact Wd.of40 (by omega)
theorem MulWd (a b:Int) (ha:Wd a) (hb:Wd b) (w:World) (hG:G w) :
 Calls Tryz.prog 95 #[.string (tx a),.string (tx b)] w fun e w'=>e=.returned (.string (tx (a * b)))∧Fr w w':=WMulG bigD bigD (by decide) (by decide) a b ha.bn hb.bn w hG
theorem SubWd (x q y:Int) (hx:Wd x) (hq:Wd q) (hy:Wd y) (w:World) (hG:G w) :
 Calls Tryz.prog 156 #[.string (tx x),.string (tx (q * y))] w fun e w'=>e=.returned (.string (tx (x - q * y)))∧Fr w w':=WSubG (bigD+bigD) (by decide) x (q * y) (hx.bn.mono (by decide)) (hq.bn.mul hy.bn) w hG
theorem AddWd (a b:Int) (ha:Wd a) (hb:Wd b) (w:World) (hG:G w) :
 Calls Tryz.prog 94 #[.string (tx a),.string (tx b)] w fun e w'=>e=.returned (.string (tx (a+b)))∧Fr w w':=WAddG bigD (by decide) a b ha.bn hb.bn w hG
theorem DivModWd (a b:Int) (ha:Wd a) (hb:Wd b) (h0:b≠0) (w:World) (hG:G w) :
 Calls Tryz.prog 112 #[.string (tx a),.string (tx b)] w fun e w'=>e=.returned (.tuple #[.string (tx (a.fdiv b)),.string (tx (a.fmod b)),.int .i64 0])∧Fr w w':=WDivModG bigD bigD (by decide) (by decide) a b ha.bn hb.bn h0 w hG
def smW (n:Int):Bool:=decide (-10000000000000000000000000000000000000000 < n∧n < 10000000000000000000000000000000000000000) || decide (n.natAbs < big)
theorem smW_wd {n:Int} (h:smW n=true):Wd n:=by
 unfold smW at h
 rcases Bool.or_eq_true_iff.1 h with h | h
 ·have h:=of_decide_eq_true h
  exact Wd.of40 (by omega)
 ·exact of_decide_eq_true (p:=n.natAbs < big) h
theorem wd_smW {n:Int} (h:Wd n):smW n=true:=by unfold smW; rw [Bool.or_eq_true_iff]; exact .inr (decide_eq_true (p:=n.natAbs < big) h)
def okW (q x y:Int):Bool:=smW q && smW y && smW x
theorem okW_wd {q x y:Int} (h:okW q x y=true):Wd q∧Wd y∧Wd x:=by
 unfold okW at h
 simp only [Bool.and_eq_true] at h
 exact ⟨smW_wd h.1.1,smW_wd h.1.2,smW_wd h.2⟩
theorem wd_okW {q x y:Int} (hq:Wd q) (hy:Wd y) (hx:Wd x):okW q x y=true:=by
 unfold okW; rw [wd_smW hq,wd_smW hy,wd_smW hx]; rfl
def takeLW (q:Int):List Int→List Int→Option (List Int)
 | [],_=>some []
 | x :: xs,y :: ys=>if okW q x y then (takeLW q xs ys).map ((x - q * y) :: ·) else none
 | _ :: _,[]=>none
def takeSW (q:Int) (xs ys:List Int):Option (List Int):=if q=0 then some xs else takeLW q xs ys
theorem takeLW_spec (q:Int):∀ (xs ys zs:List Int),takeLW q xs ys=some zs→zs.length=xs.length∧∀ (k:Nat) (x:Int),xs[k]?=some x→∃ y,ys[k]?=some y∧okW q x y=true∧zs[k]?=some (x - q * y)
 | [],ys,zs,h=>by
   injection h with h; subst h
   exact ⟨rfl,fun k x hx=>by simp at hx⟩
 | x :: xs,[],zs,h=>by simp [takeLW] at h
 | x :: xs,y :: ys,zs,h=>by
   simp only [takeLW] at h
   split at h
   ·rename_i hok
    cases e:takeLW q xs ys with
    | none=>rw [e] at h; simp at h
    | some ws=>
      rw [e] at h
      simp only [Option.map_some,Option.some.injEq] at h
      subst h
      obtain ⟨h1,h2⟩:=takeLW_spec q xs ys ws e
      refine ⟨by simp [h1],fun k z hz=>?_⟩
      cases k with
      | zero=>simp at hz; subst hz; exact ⟨y,by simp,hok,by simp⟩
      | succ k=>simpa using h2 k z (by simpa using hz)
   ·simp at h
theorem takeSW_len {q:Int} {xs ys zs:List Int} (h:takeSW q xs ys=some zs):zs.length=xs.length:=by
 unfold takeSW at h
 split at h
 ·injection h with h; rw [h]
 ·exact (takeLW_spec q xs ys zs h).1
def elim1W (g:List (List Int)) (c t i:Nat):Option (List (List Int)) :=
 if smW (ent g i c) && smW (ent g t c) && ent g t c != 0 then (takeSW ((ent g i c).fdiv (ent g t c)) (rowAt g i) (rowAt g t)).map (fun r=>g.set i r) else none
def elimToW (g:List (List Int)) (c t s:Nat):Nat→Option (List (List Int))
 | 0=>some g
 | j+1=>(elimToW g c t s j).bind fun g=>elim1W g c t (s+j)
def smRowW (r:List Int):Bool:=r.all smW
theorem smRowW_mem {r:List Int} (h:smRowW r=true):∀ x,x ∈ r→(tx x).size≤1000000000:=fun x hx=>by
 have:=(smW_wd (List.all_eq_true.1 h x hx)).size
 omega
def finSW (g:List (List Int)) (t c:Nat):Option (List (List Int)) :=
 if ent g t c < 0 then (if smRowW (rowAt g t) then elimToW (g.set t ((rowAt g t).map (fun x=>-x))) c t 0 t else none) else elimToW g c t 0 t
theorem elim1W_some {g g':List (List Int)} {c t i:Nat} (h:elim1W g c t i=some g'):Wd (ent g i c)∧Wd (ent g t c)∧ent g t c≠0∧∃ r,takeSW ((ent g i c).fdiv (ent g t c)) (rowAt g i) (rowAt g t)=some r∧g'=g.set i r:=by
 unfold elim1W at h
 split at h
 ·rename_i hc
  simp only [Bool.and_eq_true,bne_iff_ne] at hc
  obtain ⟨r,hr,rfl⟩:=Option.map_eq_some_iff.1 h
  exact ⟨smW_wd hc.1.1,smW_wd hc.1.2,hc.2,r,hr,rfl⟩
 ·simp at h
theorem elim1W_keeps {g g':List (List Int)} {c t i n:Nat} (h:elim1W g c t i=some g') (hr:Rect n g) (hi:i < g.length):Rect n g'∧g'.length=g.length:=by
 obtain ⟨_,_,_,r,h1,rfl⟩:=elim1W_some h
 exact ⟨hr.set (by rw [takeSW_len h1,rowAt_eq hi,hr.row hi]),by simp⟩
theorem elimToW_keeps {g:List (List Int)} {c t s n:Nat} (hr:Rect n g):∀ (j:Nat) (g':List (List Int)),elimToW g c t s j=some g'→s+j≤g.length→Rect n g'∧g'.length=g.length
 | 0,g',h,_=>by injection h with h; subst h; exact ⟨hr,rfl⟩
 | j+1,g',h,hl=>by
   obtain ⟨g1,h1,h2⟩:=Option.bind_eq_some_iff.1 h
   obtain ⟨a,b⟩:=elimToW_keeps hr j g1 h1 (by omega)
   obtain ⟨a',b'⟩:=elim1W_keeps h2 a (by omega)
   exact ⟨a',by rw [b',b]⟩
theorem elimToW_mono {g:List (List Int)} {c t s:Nat}:∀ (j k:Nat) (g':List (List Int)),elimToW g c t s k=some g'→j≤k→∃ g1,elimToW g c t s j=some g1
 | j,0,g',h,hj=>by obtain rfl:j=0:=by omega
                   exact ⟨g,rfl⟩
 | j,k+1,g',h,hj=>by
   by_cases e:j=k+1
   ·subst e; exact ⟨g',h⟩
   ·obtain ⟨g1,h1,_⟩:=Option.bind_eq_some_iff.1 h
    exact elimToW_mono j k g1 h1 (by omega)
def colOkW (g:List (List Int)) (c:Nat):Bool:=(List.range g.length).all fun i=>smW (ent g i c)
attribute [local go_sem ↓] Go.wp_at_zero Go.wp_at_succ
theorem less_any (lb lo lc ob oo oc n m:Nat) (q:Int) (xs ys zs:List Int) (w:World) (hG:G w) (hx:Own w lb lo xs) (hy:Own w ob oo ys) (hne:lb≠ob) (hl:xs.length≤1000000000)
 (hn:n=xs.length) (hm:m=ys.length) (hnm:ys.length=xs.length) (hs:takeSW q xs ys=some zs) :
 Calls Tryz.prog 113 #[.slice (some ⟨lb,lo,none⟩) n lc,.string (tx q),.slice (some ⟨ob,oo,none⟩) m oc] w fun e w'=>e=.returned (.tuple #[])∧Fx (·=lb) w w'∧Own w' lb lo zs:=by
 have hb:=tx_beq0 q
 by_cases hq0:q=0
 ·rw [decide_eq_true hq0] at hb
  unfold takeSW at hs
  rw [if_pos hq0] at hs
  injection hs with hs; subst hs
  clear hq0
  subst hn
  go_enter Tryz.func113,Tryz.ntmps113
  go_wp2_with fail
  exact bodyPost_ret (results_none rfl _ _ _) rfl ⟨rfl,Fx.refl _ _,hx⟩
 ·rw [decide_eq_false hq0] at hb
  unfold takeSW at hs
  rw [if_neg hq0] at hs
  obtain ⟨hzl,hz⟩:=takeLW_spec q xs ys zs hs
  have hzl:=hZ hzl
  have hz:=hZ hz
  clear hs hq0
  rw [hnm] at hm
  subst hm
  rename_i hzl0 hz0
  clear hzl0 hz0
  subst hn
  go_enter Tryz.func113,Tryz.ntmps113
  go_wp2_with fail
  go_loopw [6,7,12] (fun _ _ s12 wr=>∃ k:Nat,s12=.int .i64 k∧k≤xs.length∧Fx (·=lb) w wr∧Own wr lb lo (zs.take k ++ xs.drop k)) (fun _ _ s12 _=>xs.length - (RowKit.intOf s12).toNat)
  case atStart=>exact ⟨0,rfl,Nat.zero_le _,Fx.refl _ _,by simpa using hx⟩
  case round=>
   obtain ⟨k,rfl,hk,hf,ho⟩:=hrel
   by_cases hlt:k < xs.length
   ·have hxk:∃ x,xs[k]?=some x:=⟨xs[k],List.getElem?_eq_getElem hlt⟩
    obtain ⟨x,hxk⟩:=hxk
    obtain ⟨y,hyk,hok,hzk⟩:=hz.out k x hxk
    obtain ⟨tq,ty,sx⟩:=okW_wd hok
    have hGr:=hG.fx hf (fun j e=>by rw [e]; exact hx.1)
    have hoc:=ho.2.2 k x (by rw [mid_get zs xs k hzl.out hlt]; exact hxk)
    have hkl:k < ys.length:=(List.getElem?_eq_some_iff.1 hyk).1
    obtain ⟨hoc,hof⟩:=hoc
    obtain ⟨hyc,_⟩:=(hy.fx hf (fun e=>hne e.symm)).2.2 k y hyk
    have hlb:lb < wr.heap.size:=ho.2.1
    have hob:ob < wr.heap.size:=(hy.fx hf (fun e=>hne e.symm)).2.1
    have hxk:=hZ hxk
    have hyk:=hZ hyk
    have hzk:=hZ hzk
    have hset:=hZ (mid_set zs xs k hzl.out hlt _ hzk.out)
    have ho2:=hZ ho
    rename_i hxk0 hyk0 hzk0 
    clear hxk0 hyk0 hzk0 ho hok
    have k0:(0:Int)≤(k:Int):=Int.natCast_nonneg _
    have k1:(k:Int) < (xs.length:Int):=by omega
    have k2:(k:Int) < (ys.length:Int):=by omega
    go_wp2_with fail
    go_region_with (first | (go_at_call 95; refine (MulWd q y tq ty _ (hGr.fr ?_)).mono ?_; (exact fr9); rintro e w1 ⟨rfl,hf1⟩; have c1:=hf1.keep (p:=⟨lb,lo+k,none⟩) hoc; have c2:=hf1.keep (p:=⟨ob,oo+k,none⟩) hyc; have c3:=hf1.keepf (p:=⟨lb,lo+k,none⟩) hoc hof) | (go_at_call 156; refine (SubWd x q y sx tq ty _ (hGr.fr ?_)).mono ?_; (exact fr9); rintro e w2 ⟨rfl,hf2⟩; have d1:=hf2.keep c1; have d3:=hf2.keepf c1 c3))
    all_goals
     have hfr:Fr wr w2:=by exact fr9
     have hO:=(ho2.out.fr hfr).set (k:=k) (by simp; have:=hzl.out; omega) (x - q * y)
     rw [hset.out] at hO
     have hF:=(hf.fr hfr).setCell (q:=⟨lb,lo+k,none⟩) (.inl rfl) (sv (x - q * y))
     go_wp2_with fail
     go_roundw
     case rel=>exact ⟨k+1,by go_num,by omega,hF,hO⟩
     case measure=>simp [RowKit.intOf]; omega
   ·go_wp2_with fail
    go_end0
    refine ⟨rfl,hf, ?_⟩
    have:k=xs.length:=by omega
    subst this
    rw [List.drop_length,List.append_nil,List.take_of_length_le (by have:=hzl.out; omega)] at ho
    exact ho
theorem negate_any (lb lo lc:Nat) (xs:List Int) (w:World) (_hG:G w) (hx:Own w lb lo xs) (_hl:xs.length≤1000000000) (hs:∀ x ∈ xs,(tx x).size≤1000000000) :
 Calls Tryz.prog 140 #[.slice (some ⟨lb,lo,none⟩) xs.length lc] w fun e w'=>e=.returned (.tuple #[])∧Fx (·=lb) w w'∧Own w' lb lo (xs.map (fun x=>-x)):=by
 have hzl:=hZ (show (xs.map (fun x=>-x)).length=xs.length by simp)
 have hz:∀ (k:Nat) (x:Int),xs[k]?=some x→(xs.map (fun x=>-x))[k]?=some (-x):=fun k x h=>by rw [List.getElem?_map,h]; rfl
 generalize xs.map (fun x=>-x)=zs at *
 have hz:=hZ hz
 rename_i hz0
 clear hz0
 go_enter Tryz.func140,Tryz.ntmps140
 go_wp2_with fail
 go_loopw [2,3,6] (fun _ _ s6 wr=>∃ k:Nat,s6=.int .i64 k∧k≤xs.length∧Fx (·=lb) w wr∧Own wr lb lo (zs.take k ++ xs.drop k)) (fun _ _ s6 _=>xs.length - (RowKit.intOf s6).toNat)
 case atStart=>exact ⟨0,rfl,Nat.zero_le _,Fx.refl _ _,by simpa using hx⟩
 case round=>
  obtain ⟨k,rfl,hk,hf,ho⟩:=hrel
  by_cases hlt:k < xs.length
  ·obtain ⟨x,hxk⟩:∃ x,xs[k]?=some x:=⟨xs[k],List.getElem?_eq_getElem hlt⟩
   have hzk:=hz.out k x hxk
   have hxs:=hs x (List.mem_of_getElem? hxk)
   obtain ⟨hoc,hof⟩:=ho.2.2 k x (by rw [mid_get zs xs k hzl.out hlt]; exact hxk)
   have hset:=hZ (mid_set zs xs k hzl.out hlt _ hzk)
   have hlb:lb < wr.heap.size:=ho.2.1
   have ho2:=hZ ho
   clear hxk hzk ho
   go_wp2_with fail
   refine (Neg_any x _ hxs).mono ?_
   rintro e w2 ⟨rfl,hf2⟩
   have d1:=hf2.keep (p:=⟨lb,lo+k,none⟩) hoc
   have d3:=hf2.keepf (p:=⟨lb,lo+k,none⟩) hoc hof
   have hO:=(ho2.out.fr hf2).set (k:=k) (by simp; have:=hzl.out; omega) (-x)
   rw [hset.out] at hO
   have hF:=(hf.fr hf2).setCell (q:=⟨lb,lo+k,none⟩) (.inl rfl) (sv (-x))
   go_wp2_with fail
   go_roundw
   case rel=>exact ⟨k+1,by go_num,by omega,hF,hO⟩
   case measure=>simp [RowKit.intOf]; omega
  ·go_wp2_with fail
   go_end0
   refine ⟨rfl,hf, ?_⟩
   have:k=xs.length:=by omega
   subst this
   rw [List.drop_length,List.append_nil,List.take_of_length_le (by have:=hzl.out; omega)] at ho
   exact ho
def pickF1 (g:List (List Int)) (c i:Nat) (s:Option Nat):Option Nat :=
 if ent g i c=0 then s else match s with
 | none=>some i
 | some k=>if cmpI ((ent g i c).natAbs:Int) ((ent g k c).natAbs:Int) < 0 then some i else some k
def pickFT (g:List (List Int)) (c t:Nat):Nat→Option Nat
 | 0=>none
 | j+1=>pickF1 g c (t+j) (pickFT g c t j)
def restT (g:List (List Int)) (c t s:Nat):Nat→Bool
 | 0=>false
 | j+1=>restT g c t s j || ((elimToW g c t s j).map fun g3=>!decide ((ent g3 (s+j) c).fmod (ent g3 t c)=0)).getD false
def colF:Nat→List (List Int)→Nat→Nat→Option (List (List Int)×Nat)
 | 0,_,_,_=>none
 | F+1,g,c,t=>
   if colOkW g c then
    match pickFT g c t (g.length - t) with
    | none=>some (g,t)
    | some k=>(elimToW (swp g t k) c t (t+1) (g.length - (t+1))).bind fun g2=>
      if restT (swp g t k) c t (t+1) (g.length - (t+1)) then colF F g2 c t else if smW (ent g2 t c) then (finSW g2 t c).map fun g3=>(g3,t+1) else none
   else none
def formS (F:Nat):Nat→Nat→List (List Int)→Nat→Option (List (List Int)×Nat)
 | 0,_,g,t=>some (g,t)
 | n+1,c,g,t=>if t < g.length then (colF F g c t).bind fun r=>formS F n (c+1) r.1 r.2 else some (g,t)
theorem colF_succ {F c t:Nat} {g:List (List Int)} {r:List (List Int)×Nat} (h:colF (F+1) g c t=some r):colF (F+1) g c t=match pickFT g c t (g.length - t) with
 | none=>some (g,t)
 | some k=>(elimToW (swp g t k) c t (t+1) (g.length - (t+1))).bind fun g2=>
   if restT (swp g t k) c t (t+1) (g.length - (t+1)) then colF F g2 c t else if smW (ent g2 t c) then (finSW g2 t c).map fun g3=>(g3,t+1) else none:=by
 rw [colF] at h
 rw [colF]
 split at h
 ·rename_i h1; rw [if_pos h1]
 ·simp at h
theorem pickFT_lt {g:List (List Int)} {c t:Nat}:∀ j k,pickFT g c t j=some k→t≤k∧k < t+j
 | 0,k,h=>by simp [pickFT] at h
 | j+1,k,h=>by
   rw [pickFT] at h
   unfold pickF1 at h
   split at h
   ·have:=pickFT_lt j k h; omega
   ·split at h
    ·injection h with h; omega
    ·rename_i q hq
     have:=pickFT_lt j q hq
     split at h <;> (injection h with h; omega)
theorem less_n (lb lo lc ob oo oc n:Nat) (q:Int) (xs ys zs:List Int) (w:World) (hG:G w) (hx:Own w lb lo xs) (hy:Own w ob oo ys) (hne:lb≠ob) (hl:xs.length≤1000000000)
 (hn:xs.length=n) (hm:ys.length=n) (hs:takeSW q xs ys=some zs) :
 Calls Tryz.prog 113 #[.slice (some ⟨lb,lo,none⟩) n lc,.string (tx q),.slice (some ⟨ob,oo,none⟩) n oc] w fun e w'=>e=.returned (.tuple #[])∧Fx (·=lb) w w'∧Own w' lb lo zs :=
 less_any lb lo lc ob oo oc n n q xs ys zs w hG hx hy hne hl hn.symm hm.symm (by omega) hs
theorem form_any (ob oo oc:Nat) (hs:List (Nat×Nat×Nat)) (g gF:List (List Int)) (F n cols tF:Nat) (w:World) (hG:G w) (hg:GridIs w ob oo hs g) (hr:Rect n g) (hn:n≤1000000) (hl:g.length≤1000000)
 (hc:cols≤n) (hoc:g.length≤oc) (hf:formS F cols 0 g 0=some (gF,tF)) :
 Calls Tryz.prog 90 #[.slice (some ⟨ob,oo,none⟩) g.length oc,.int .i64 cols] w fun e w'=>e=.returned (.slice (some ⟨ob,oo,none⟩) tF oc)∧tF≤g.length∧gF.length=g.length∧Rect n gF∧∃ hs',Same ob hs' hs∧Fx (gb ob hs) w w'∧GridIs w' ob oo hs' gF:=by
 have hG0:=hZ hg
 have hR0:=hZ hr
 have hF0:=hZ hf
 have hG1:=hZ hG
 clear hg hr hf hG
 go_enter Tryz.func90,Tryz.ntmps90
 go_wp2_with fail
 go_loopg [5,6] cols (fun k s5 s6 wr=>∃ (c top:Nat) (g1:List (List Int)) (hs1:List (Nat×Nat×Nat)),s5=.int .i64 top∧s6=.int .i64 c∧c+k=cols∧top≤g.length∧Hid (formS F k c g1 top=some (gF,tF))∧Hid (GridIs wr ob oo hs1 g1)∧Hid (Rect n g1)∧Hid (g1.length=g.length)∧Hid (Same ob hs1 hs)∧Fx (gb ob hs) w wr)
 case atStart=>exact ⟨0,0,g,hs,rfl,rfl,by omega,by omega,hF0,hG0,hR0,rfl,⟨fun _=>Iff.rfl,fun _ h=>h⟩,Fx.refl _ _⟩
 case round=>
  obtain ⟨c,top,g1,hs1,rfl,rfl,hck,htop,hh1,hg1,hr1,hl1,hb1,hfx1⟩:=hrel
  by_cases hcc:c < cols
  ·by_cases htl:top < g.length
   ·obtain ⟨k,rfl⟩:∃ k,gk=k+1:=⟨gk - 1,by omega⟩
    have hcol:∃ r,colF F g1 c top=some r∧formS F k (c+1) r.1 r.2=some (gF,tF):=by
     have h:=hh1.out
     rw [formS,if_pos (by rw [hl1.out]; exact htl)] at h
     exact Option.bind_eq_some_iff.1 h
    obtain ⟨⟨g',t'⟩,hc1,hc2⟩:=hcol
    have hc2:=hZ hc2
    go_wp2_with fail
    go_loopg [5] F (fun f s5 wr2=>∃ (g2:List (List Int)) (hs2:List (Nat×Nat×Nat)),s5=.int .i64 top∧Hid (colF f g2 c top=some (g',t'))∧Hid (GridIs wr2 ob oo hs2 g2)∧Hid (Rect n g2)∧Hid (g2.length=g.length)∧Hid (Same ob hs2 hs)∧Fx (gb ob hs) w wr2)
    case atStart=>exact ⟨g1,hs1,rfl,hc1,hg1,hr1,hl1,hb1,hfx1⟩
    case round=>
     clear hg1 hr1 hl1 hb1 hfx1 hh1 hc1
     obtain ⟨g2,hs2,rfl,hc1,hg2,hr2,hl2,hb2,hfx2⟩:=hrel
     obtain ⟨f,rfl⟩:∃ f',gk=f'+1:=by
      cases gk with
      | zero=>have:=hc1.out; simp [colF] at this
      | succ f=>exact ⟨f,rfl⟩
     have hcok:colOkW g2 c=true:=by
      have h:=hc1.out
      unfold colF at h
      split at h
      ·assumption
      ·simp at h
     have hsm:∀ i,i < g.length→Wd (ent g2 i c):=fun i hi=>smW_wd (List.all_eq_true.1 hcok i (List.mem_range.2 (by rw [hl2.out]; exact hi)))
     replace hsm:=hZ hsm
     clear hcok
     go_wp2_with fail
     go_loopg [7,8] (g.length - top) (fun m s7 s8 wr3=>∃ i j:Nat,s8=.int .i64 i∧Hid (i=top+j)∧i+m=g.length∧s7=.int .i64 (kI (pickFT g2 c top j))∧Qt wr wr3)
     case atStart=>exact ⟨top,0,rfl,rfl,by omega,rfl,Qt.refl _⟩
     case round=>
      obtain ⟨i,j,rfl,hij,hjm,rfl,hq3⟩:=hrel
      by_cases hil:i < g.length
      ·have hgr3:=hg2.out.fr hq3.fr
       have hln2:=hl2.out
       obtain ⟨bi,oi,ki,hsi,cai,cfi,roi,boi⟩:=hgr3.at (i:=i) (by rw [hln2]; exact hil)
       have cei:=(roi.2.2 c _ (ent_at hr2.out (by rw [hln2]; exact hil) (show c < n by omega))).1
       rw [hr2.out.row (by rw [hln2]; exact hil)] at cai
       have zi:(0:Int)≤(i:Int):=Int.natCast_nonneg _
       have zi2:(i:Int) < (g.length:Int):=by omega
       have zc:(0:Int)≤(c:Int):=Int.natCast_nonneg _
       have zc2:(c:Int) < (n:Int):=by omega
       have hb:=tx_beq0 (ent g2 i c)
       have hstep:pickFT g2 c top (j+1)=pickF1 g2 c i (pickFT g2 c top j):=by rw [pickFT,hij.out]
       have hij2:=hZ (show i+1=top+(j+1) by have:=hij.out; omega)
       have hlt:=pickFT_lt (g:=g2) (c:=c) (t:=top) j
       have hs1:=hZ (hsm.out i hil).size
       by_cases h0:ent g2 i c=0
       ·rw [decide_eq_true h0] at hb
        have hst2:=hZ (show pickFT g2 c top (j+1)=pickFT g2 c top j by rw [hstep]; unfold pickF1; rw [if_pos h0])
        clear hstep h0 hlt hsi roi hgr3 hln2
        go_wp2_with fail
        go_quiet (fail)
        go_wp2_with fail
        go_roundg (gk - 1)
        case measure=>omega
        case rel=>exact ⟨i+1,j+1,by go_num,hij2,by omega,by rw [hst2.out],by repeat (with_reducible first | assumption | exact Qt.refl _ | refine Qt.drew ?_ | refine Qt.drewN ?_ _ | refine Qt.trans ?_ (by assumption))⟩
       ·rw [decide_eq_false h0] at hb
        generalize pickFT g2 c top j=p at *
        cases p with
        | none=>
          have hst2:=hZ (show pickFT g2 c top (j+1)=some i by rw [hstep]; unfold pickF1; rw [if_neg h0])
          clear hstep h0 hlt hsi roi hgr3 hln2
          simp only [kI]
          go_wp2_with fail
          go_quiet (fail)
          go_wp2_with fail
          go_roundg (gk - 1)
          case measure=>omega
          case rel=>exact ⟨i+1,j+1,by go_num,hij2,by omega,by rw [hst2.out]; rfl,by repeat (with_reducible first | assumption | exact Qt.refl _ | refine Qt.drew ?_ | refine Qt.drewN ?_ _ | refine Qt.trans ?_ (by assumption))⟩
        | some q=>
          obtain ⟨hq1,hq2⟩:=hlt q rfl
          have hql:q < g.length:=by have:=hij.out; omega
          obtain ⟨bq,oq,kq,hsq,caq,cfq,roq,boq⟩:=hgr3.at (i:=q) (by rw [hln2]; exact hql)
          have ceq:=(roq.2.2 c _ (ent_at hr2.out (by rw [hln2]; exact hql) (show c < n by omega))).1
          rw [hr2.out.row (by rw [hln2]; exact hql)] at caq
          have zq:(0:Int)≤(q:Int):=Int.natCast_nonneg _
          have zq2:(q:Int) < (g.length:Int):=by omega
          have zq3:decide ((q:Int) < 0)=false:=decide_eq_false (by omega)
          have hs2:=hZ (hsm.out q hql).size
          have hs3:=hZ (show (tx ((ent g2 i c).natAbs:Int)).size≤16000002 from (hsm.out i hil).asize)
          have hs4:=hZ (show (tx ((ent g2 q c).natAbs:Int)).size≤16000002 from (hsm.out q hql).asize)
          replace hq1:=hZ hq1
          replace hq2:=hZ hq2
          by_cases hcm:cmpI ((ent g2 i c).natAbs:Int) ((ent g2 q c).natAbs:Int) < 0
          ·have hst2:=hZ (show pickFT g2 c top (j+1)=some i by rw [hstep]; unfold pickF1; rw [if_neg h0]; simp only [if_pos hcm])
           have hcd:decide (cmpI ((ent g2 i c).natAbs:Int) ((ent g2 q c).natAbs:Int) < 0)=true:=decide_eq_true hcm
           clear hstep h0 hlt hsi roi hgr3 hln2 hsq roq hcm
           simp only [kI]
           go_wp2_with fail
           go_quiet (first | (go_at_call 138; exact Calls.quiet_of (Abs_anyQ _ _ (by first | (have:=hs1.out; omega) | (have:=hs2.out; omega)))) | (go_at_call 137; exact Calls.quiet_of (Compare_anyQ _ _ _ (by have:=hs3.out; omega) (by have:=hs4.out; omega))))
           go_wp2_with fail
           go_roundg (gk - 1)
           case measure=>omega
           case rel=>exact ⟨i+1,j+1,by go_num,hij2,by omega,by rw [hst2.out]; rfl,by repeat (with_reducible first | assumption | exact Qt.refl _ | refine Qt.drew ?_ | refine Qt.drewN ?_ _ | refine Qt.trans ?_ (by assumption))⟩
          ·have hst2:=hZ (show pickFT g2 c top (j+1)=some q by rw [hstep]; unfold pickF1; rw [if_neg h0]; simp only [if_neg hcm])
           have hcd:decide (cmpI ((ent g2 i c).natAbs:Int) ((ent g2 q c).natAbs:Int) < 0)=false:=decide_eq_false hcm
           clear hstep h0 hlt hsi roi hgr3 hln2 hsq roq hcm
           simp only [kI]
           go_wp2_with fail
           go_quiet (first | (go_at_call 138; exact Calls.quiet_of (Abs_anyQ _ _ (by first | (have:=hs1.out; omega) | (have:=hs2.out; omega)))) | (go_at_call 137; exact Calls.quiet_of (Compare_anyQ _ _ _ (by have:=hs3.out; omega) (by have:=hs4.out; omega))))
           go_wp2_with fail
           go_roundg (gk - 1)
           case measure=>omega
           case rel=>exact ⟨i+1,j+1,by go_num,hij2,by omega,by rw [hst2.out]; rfl,by repeat (with_reducible first | assumption | exact Qt.refl _ | refine Qt.drew ?_ | refine Qt.drewN ?_ _ | refine Qt.trans ?_ (by assumption))⟩
      ·have hj:j=g.length - top:=by have:=hij.out; omega
       have hd:decide (i < g.length)=false:=decide_eq_false hil
       have hcol:=colF_succ hc1.out
       rw [hl2.out,← hj,hc1.out] at hcol
       have hlt:=pickFT_lt (g:=g2) (c:=c) (t:=top) j
       generalize pickFT g2 c top j=p at *
       have hgr3:=hZ (hg2.out.fr hq3.fr)
       have hfx3:=hfx2.fr hq3.fr
       cases p with
       | none=>
         have hcol2:=hZ (show some (g',t')=some (g2,top) from hcol)
         clear hcol hlt
         simp only [kI]
         go_wp2_with fail
         go_roundg k
         case measure=>omega
         case rel=>
          have h:=hcol2.out
          injection h with h; injection h with h1 h2; subst h1; subst h2
          exact ⟨c+1,t',g',hs2,by go_num,by go_num,by omega,htop,hc2,hgr3,hr2,hl2,hb2,hfx3⟩
       | some q=>
         have hq:=hlt q rfl
         have hq2:q < g.length:=by have:=hij.out; omega
         replace hq:=hZ hq.1
         simp only [kI]
         clear hlt
         have hcolT:∃ gE,elimToW (swp g2 top q) c top (top+1) (g.length - (top+1))=some gE∧(if restT (swp g2 top q) c top (top+1) (g.length - (top+1)) then colF f gE c top else if smW (ent gE top c) then (finSW gE top c).map fun g3=>(g3,top+1) else none)=some (g',t') :=
          Option.bind_eq_some_iff.1 hcol.symm
         clear hcol
         have zq3:decide ((q:Int) < 0)=false:=decide_eq_false (by omega)
         have hln2:=hl2.out
         obtain ⟨bt,ot,kt,hst,cat,cft,rot,bot⟩:=hgr3.out.at (i:=top) (by rw [hln2]; exact htl)
         obtain ⟨bq,oq,kq,hsq,caq,cfq,roq,boq⟩:=hgr3.out.at (i:=q) (by rw [hln2]; exact hq2)
         rw [hr2.out.row (by rw [hln2]; exact htl)] at cat
         rw [hr2.out.row (by rw [hln2]; exact hq2)] at caq
         have ztop:(0:Int)≤(top:Int):=Int.natCast_nonneg _
         have zq:(0:Int)≤(q:Int):=Int.natCast_nonneg _
         have ztop2:(top:Int) < (g.length:Int):=by omega
         have zq2:(q:Int) < (g.length:Int):=by omega
         obtain ⟨X,hX⟩:∃ X,(wr.setCell ⟨ob,oo+top,none⟩ (.slice (some ⟨bq,oq,none⟩) n kq)).cell? ⟨ob,oo+q,none⟩=some X:=by
          by_cases htq:top=q
          ·subst htq; exact ⟨_,World.cell?_setCell_same' _ _ _ (by rw [cat]; rfl)⟩
          ·exact ⟨_,by rw [World.cell?_setCell_other _ _ _ _ (fun e=>by injection e with _ e; omega)]; exact caq⟩
         obtain ⟨W,hW⟩:∃ W,W=((wr.setCell ⟨ob,oo+top,none⟩ (.slice (some ⟨bq,oq,none⟩) n kq)).setCell ⟨ob,oo+q,none⟩ (.slice (some ⟨bt,ot,none⟩) n kt)).drew:=⟨_,rfl⟩
         have hgX:GridIs W ob oo (swp hs2 top q) (swp g2 top q):=by
          rw [hW]
          by_cases htq:top=q
          ·subst htq
           have e:=hst.symm.trans hsq
           injection e with e; injection e with e1 e; injection e with e2 e3
           subst e1; subst e2; subst e3
           rw [swp_same,swp_same]
           exact (hgr3.out.same cat).fr (Fr.refl _).drew
          ·have hgt:=List.getElem?_eq_getElem (show top < g2.length by rw [hln2]; exact htl)
           have hgq:=List.getElem?_eq_getElem (show q < g2.length by rw [hln2]; exact hq2)
           have h:=(hgr3.out.swap hst hsq hgt hgq htq).fr (Fr.refl _).drew
           rw [hr2.out.row (by rw [hln2]; exact hq2),hr2.out.row (by rw [hln2]; exact htl)] at h
           exact h
         have hfX:Fx (gb ob hs) w W:=by rw [hW]; exact ((hfx3.setCell (q:=⟨ob,oo+top,none⟩) (.inl (.inl rfl)) _).setCell (q:=⟨ob,oo+q,none⟩) (.inl (.inl rfl)) _).drew
         have hRX:=hZ (swp_rect (i:=top) (j:=q) hr2.out)
         have hlX:=hZ (show (swp g2 top q).length=g.length by rw [swp_len]; exact hln2)
         have hbX:=hZ (show Same ob (swp hs2 top q) hs from ⟨fun k=>(gb_swp hst hsq k).trans (hb2.out.1 k),fun h hm=>hb2.out.2 h (swp_mem hm)⟩)
         replace hcolT:=hZ hcolT
         replace hst:=hZ hst
         replace hsq:=hZ hsq
         replace hgX:=hZ hgX
         replace hW:=hZ hW
         go_wp2_with fail
         go_region
         rw [← hW.out]
         clear hW hX hg2 hr2 hl2 hb2 hfx2 hgr3 hfx3 hst hsq cat caq cft cfq rot roq hc1 hq3 hsm hln2 hij hd
         generalize swp g2 top q=gX at *
         generalize swp hs2 top q=hsX at *
         as_aux_lemma=>
          obtain ⟨gE,hE1,hE2⟩:=hcolT.out
          replace hE1:=hZ hE1
          go_wp2_with fail
          go_loopg [9,10] (g.length - (top+1)) (fun m s9 s10 wr4=>∃ (i j:Nat) (g3:List (List Int)),s9=.bool (restT gX c top (top+1) j)∧s10=.int .i64 i∧Hid (i=top+1+j)∧i+m=g.length∧Hid (elimToW gX c top (top+1) j=some g3)∧GridIs wr4 ob oo hsX g3∧Fx (gb ob hs) w wr4)
          case atStart=>exact ⟨top+1,0,gX,rfl,by go_num,rfl,by omega,rfl,hgX.out,hfX⟩
          case round=>
           as_aux_lemma=>
            clear hgX hfX
            obtain ⟨i,j,g3,rfl,rfl,hij,him,he,hg3,hfx4⟩:=hrel
            obtain ⟨hr3,hl3⟩:=elimToW_keeps hRX.out j g3 he.out (by rw [hlX.out]; have:=hij.out; omega)
            rw [hlX.out] at hl3
            replace hr3:=hZ hr3
            have hl3':=hl3
            replace hl3:=hZ hl3
            by_cases hil:i < g.length
            ·obtain ⟨g4,hg4⟩:=elimToW_mono (j+1) (g.length - (top+1)) gE hE1.out (by have:=hij.out; omega)
             have hstep:elim1W g3 c top i=some g4:=by
              have:=hg4
              rw [elimToW,he.out] at this
              rw [hij.out]
              simpa using this
             obtain ⟨sa,sb,hb0,r,htk,rfl⟩:=elim1W_some hstep
             have hrs:restT gX c top (top+1) (j+1)=(restT gX c top (top+1) j || !decide ((ent g3 i c).fmod (ent g3 top c)=0)):=by
              rw [restT,he.out,hij.out]; rfl
             have hbz:=tx_beq0 ((ent g3 i c).fmod (ent g3 top c))
             rw [← hbz] at hrs
             clear hbz
             replace hrs:=hZ hrs
             obtain ⟨bR,hbR⟩:∃ bR,bR=restT gX c top (top+1) j:=⟨_,rfl⟩
             rw [← hbR] at hrs ⊢
             clear hbR
             have hj1:i < g3.length:=by omega
             have ht1:top < g3.length:=by omega
             obtain ⟨b1,o1,k1,hs1,ca1,cf1,ro1,bo1⟩:=hg3.at hj1
             obtain ⟨b2,o2,k2,hs2,ca2,cf2,ro2,bo2⟩:=hg3.at ht1
             have hb12:=hg3.apart i top _ _ hs1 hs2 (by have:=hij.out; omega)
             have ce1:=(ro1.2.2 c _ (ent_at hr3.out hj1 (by omega))).1
             have ce2:=(ro2.2.2 c _ (ent_at hr3.out ht1 (by omega))).1
             rw [hr3.out.row hj1] at ca1
             rw [hr3.out.row ht1] at ca2
             have hGr:=hG1.out.fx hfx4 hG0.out.ge
             have q0:(0:Int)≤(i:Int):=Int.natCast_nonneg _
             have q1:(i:Int) < (g.length:Int):=by omega
             have q2:(top:Int) < (g.length:Int):=by omega
             have q3:(c:Int) < (n:Int):=by omega
             have q4:(0:Int)≤(top:Int):=Int.natCast_nonneg _
             have q5:(0:Int)≤(c:Int):=Int.natCast_nonneg _
             replace hg4:=hZ hg4
             replace htk:=hZ htk
             replace hg3:=hZ hg3
             replace ro1:=hZ ro1
             replace ro2:=hZ ro2
             replace hs1:=hZ hs1
             replace hs2:=hZ hs2
             replace hstep:=hZ hstep
             clear hl3'
             go_wp2_with fail
             go_region_held3 (fun w'=>w'.cell? ⟨ob,oo+i,none⟩=some (.slice (some ⟨b1,o1,none⟩) n k1)∧w'.cell? ⟨b1,o1+c,none⟩=some (.string (tx (ent g3 i c)))∧w'.cell? ⟨ob,oo+top,none⟩=some (.slice (some ⟨b2,o2,none⟩) n k2)∧w'.cell? ⟨b2,o2+c,none⟩=some (.string (tx (ent g3 top c))))
              (first | go_keep | (go_split_ands; refine ⟨?_, ?_, ?_, ?_⟩ <;> (refine Fr.keep (by assumption) ?_; assumption)))
              (first | (go_at_call 112; refine (DivModWd _ _ sa sb hb0 _ (hGr.fr ?_)).mono ?_; (exact fr9); rintro e w1 ⟨rfl,hf1⟩))
             have hfr:Fr wr w1:=by exact fr9
             replace ca1:=hfr.keep (p:=⟨ob,oo+i,none⟩) ca1
             replace ca2:=hfr.keep (p:=⟨ob,oo+top,none⟩) ca2
             have len1:(g3[i]).length=n:=hr3.out.row hj1
             have len2:(g3[top]).length=n:=hr3.out.row ht1
             rw [rowAt_eq hj1,rowAt_eq ht1] at htk
             replace len1:=hZ len1
             replace len2:=hZ len2
             go_wp2_with fail
             go_region_held3 (fun w'=>w'.cell? ⟨ob,oo+i,none⟩=some (.slice (some ⟨b1,o1,none⟩) n k1)∧w'.cell? ⟨ob,oo+top,none⟩=some (.slice (some ⟨b2,o2,none⟩) n k2))
              (first | go_keep | (go_split_ands; refine ⟨?_, ?_⟩ <;> (refine Fx.keep (p:=(·=b1)) (by assumption) (by assumption) (fun e=>bo1 e.symm))))
              (first | (go_at_call 113; refine (less_n b1 o1 k1 b2 o2 k2 n _ _ _ r _ (hGr.fr ?_) (ro1.out.fr ?_) (ro2.out.fr ?_) hb12 (by rw [len1.out]; omega) len1.out len2.out htk.out).mono ?_; (exact fr9); (exact fr9); (exact fr9); rintro e w2 ⟨rfl,hfx5,hown5⟩))
             have hgF:=hg3.out.setRowF hs1.out hfx5 hown5 (fun xs h=>by have h2:=takeSW_len htk.out; rw [List.getElem?_eq_getElem hj1] at h; injection h with h; rw [← h]; exact h2) (by exact fr9)
             have hfF:=hfx4.via hfx5 (fun j hj=>(hbX.out.1 j).1 (gb_mem hs1.out j hj)) (by exact fr9)
             cases hrz:((tx ((ent g3 i c).fmod (ent g3 top c))).toList == [48])
             all_goals
              rw [hrz] at hrs
              cases bR
              all_goals
               go_wp2_with fail
               go_roundg (gk - 1)
               case measure=>omega
               case rel=>exact ⟨i+1,j+1,_,by rw [hrs.out]; rfl,by go_num,by have:=hij.out; show _=_; omega,by omega,hg4.out,hgF,hfF⟩
            ·have hd2:decide (i < g.length)=false:=decide_eq_false hil
             have hjj:j=g.length - (top+1):=by have:=hij.out; omega
             have hge:g3=gE:=by
              have h1:=he.out
              rw [hjj,hE1.out] at h1
              injection h1 with h1; exact h1.symm
             subst hge
             replace hjj:=hZ hjj
             clear hl3'
             cases hRT:restT gX c top (top+1) j with
             | true=>
               rw [← hjj.out,hRT,if_pos rfl] at hE2
               replace hE2:=hZ hE2
               go_wp2_with fail
               go_roundg f
               case measure=>omega
               case rel=>exact ⟨g3,hsX,rfl,hE2,hg3,hr3,hl3,hbX,hfx4⟩
             | false=>
               rw [← hjj.out,hRT,if_neg (by simp)] at hE2
               split at hE2
               ·rename_i hsB
                have hfin:finSW g3 top c=some g'∧t'=top+1:=by
                 obtain ⟨g4,h1,h2⟩:=Option.map_eq_some_iff.1 hE2
                 injection h2 with h2 h3
                 subst h2
                 exact ⟨h1,h3.symm⟩
                obtain ⟨hF9,rfl⟩:=hfin
                have ht3:top < g3.length:=by have:=hl3.out; omega
                obtain ⟨b2,o2,k2,hs2,ca2,cf2,ro2,bo2⟩:=hg3.at ht3
                have ce2:=(ro2.2.2 c _ (ent_at hr3.out ht3 (by omega))).1
                rw [hr3.out.row ht3] at ca2
                have q2:(top:Int) < (g.length:Int):=by omega
                have q3:(c:Int) < (n:Int):=by omega
                have q4:(0:Int)≤(top:Int):=Int.natCast_nonneg _
                have q5:(0:Int)≤(c:Int):=Int.natCast_nonneg _
                unfold finSW at hF9
                by_cases hneg:ent g3 top c < 0
                ·as_aux_lemma=>
                 rw [if_pos hneg] at hF9
                 split at hF9
                 ·rename_i hsm9
                  have hrow:=rowAt_eq ht3
                  rw [hrow] at hF9 hsm9
                  have hrl:=hr3.out.row ht3
                  have hRg:=hZ (hr3.out.set (i:=top) (r:=(g3[top]).map (fun x=>-x)) (by simp [hrl]))
                  have hLg:Hid ((g3.set top ((g3[top]).map (fun x=>-x))).length=g.length):=hZ (by rw [List.length_set]; exact hl3.out)
                  have hturn:=fun W (hW:Fr wr W)=>negate_any b2 o2 k2 g3[top] W ((hG1.out.fx hfx4 hG0.out.ge).fr hW) (ro2.fr hW) (by rw [hrl]; omega) (smRowW_mem hsm9)
                  rw [hrl] at hturn
                  have hGs:∀ W w',Fr wr W→Fx (·=b2) W w'→Own w' b2 o2 ((g3[top]).map (fun x=>-x))→GridIs w' ob oo hsX (g3.set top ((g3[top]).map (fun x=>-x))):=fun W w' k0 k1 k2=>(hg3.fr k0).setRow hs2 k1 k2 (fun xs h=>by rw [List.getElem?_eq_getElem ht3] at h; injection h with h; rw [← h]; simp)
                  have hbs:=hZ (fun j hj=>(hbX.out.1 j).1 (gb_mem (ob:=ob) hs2 j hj))
                  have hlt0:ent g3 top c < 0:=hneg
                  generalize g3.set top ((g3[top]).map (fun x=>-x))=g0 at *
                  generalize (g3[top]).map (fun x=>-x)=zs at *
                  have hFg:=hZ hF9
                  replace hGs:=hZ hGs
                  replace hturn:=hZ hturn
                  have hfx4h:=hZ hfx4
                  clear hF9 hrow hg3 hr3 hl3 hrl hneg ro2 hs2 hsm9 hsB he hRT ht3
                  go_wp2_with fail
                  refine (Sign_any _ _).mono ?_
                  rintro e w8 ⟨rfl,rfl⟩
                  go_wp2_with fail
                  refine (hturn.out _ (Fr.refl _)).mono ?_
                  rintro e w9 ⟨rfl,hfx9,hown9⟩
                  have hGg:=hZ (hGs.out _ w9 (Fr.refl _) hfx9 hown9)
                  have hfx10:=hfx4h.out.via hfx9 hbs.out (Fr.refl _)
                  clear hown9 hfx9 hturn ca2 cf2 ce2 hlt0 hfx4
                  go_wp2_with fail
                  go_loopg [143] top (fun m s143 wr=>∃ (j:Nat) (g1:List (List Int)),s143=.int .i64 j∧j+m=top∧Hid (elimToW g0 c top 0 j=some g1)∧GridIs wr ob oo hsX g1∧Fx (gb ob hs) w wr)
                  case atStart=>exact ⟨0,g0,rfl,by omega,rfl,hGg.out,hfx10⟩
                  case round=>
                   obtain ⟨j,g1,rfl,hjk,he,hgr,hfx⟩:=hrel
                   obtain ⟨hr1,hl1⟩:=elimToW_keeps hRg.out j g1 he.out (by have:=hLg.out; omega)
                   have hLg2:=hLg.out
                   by_cases hlt:j < top
                   ·obtain ⟨g2,hg2⟩:=elimToW_mono (j+1) top g' hFg.out (by omega)
                    have hstep:elim1W g1 c top j=some g2:=by
                     have:=hg2
                     rw [elimToW,he.out] at this
                     simpa using this
                    obtain ⟨sa,sb,hb0,r,htk,rfl⟩:=elim1W_some hstep
                    have hj1:j < g1.length:=by omega
                    have ht1:top < g1.length:=by omega
                    obtain ⟨b1,o1,k1,hs1,ca1,cf1,ro1,bo1⟩:=hgr.at hj1
                    obtain ⟨b2,o2,k2,hs2,ca2,cf2,ro2,bo2⟩:=hgr.at ht1
                    have hb12:=hgr.apart j top _ _ hs1 hs2 (by omega)
                    have ce1:=(ro1.2.2 c _ (ent_at hr1 hj1 (by omega))).1
                    have ce2:=(ro2.2.2 c _ (ent_at hr1 ht1 (by omega))).1
                    rw [hr1.row hj1] at ca1
                    rw [hr1.row ht1] at ca2
                    have hGr:=hG1.out.fx hfx hG0.out.ge
                    have q0:(0:Int)≤(j:Int):=Int.natCast_nonneg _
                    have q1:(j:Int) < (g.length:Int):=by omega
                    have q2:(top:Int) < (g.length:Int):=by omega
                    have q3:(c:Int) < (n:Int):=by omega
                    replace hg2:=hZ hg2
                    replace htk:=hZ htk
                    have hgr2:=hZ hgr
                    replace ro1:=hZ ro1
                    replace ro2:=hZ ro2
                    replace hs1:=hZ hs1
                    replace hr1:=hZ hr1
                    go_wp2_with fail
                    go_region_held3 (fun w'=>w'.cell? ⟨ob,oo+j,none⟩=some (.slice (some ⟨b1,o1,none⟩) n k1)∧w'.cell? ⟨b1,o1+c,none⟩=some (.string (tx (ent g1 j c)))∧w'.cell? ⟨ob,oo+top,none⟩=some (.slice (some ⟨b2,o2,none⟩) n k2)∧w'.cell? ⟨b2,o2+c,none⟩=some (.string (tx (ent g1 top c))))
                     (first | go_keep | (go_split_ands; refine ⟨?_, ?_, ?_, ?_⟩ <;> (refine Fr.keep (by assumption) ?_; assumption)))
                     (first | (go_at_call 112; refine (DivModWd _ _ sa sb hb0 _ (hGr.fr ?_)).mono ?_; (exact fr9); rintro e w1 ⟨rfl,hf1⟩))
                    have hfr:Fr wr w1:=by exact fr9
                    replace ca1:=hfr.keep (p:=⟨ob,oo+j,none⟩) ca1
                    replace ca2:=hfr.keep (p:=⟨ob,oo+top,none⟩) ca2
                    go_wp2_with fail
                    have len1:(g1[j]).length=n:=hr1.out.row hj1
                    have len2:(g1[top]).length=n:=hr1.out.row ht1
                    rw [rowAt_eq hj1,rowAt_eq ht1] at htk
                    replace len1:=hZ len1
                    replace len2:=hZ len2
                    go_region_held3 (fun w'=>w'.cell? ⟨ob,oo+j,none⟩=some (.slice (some ⟨b1,o1,none⟩) n k1)∧w'.cell? ⟨ob,oo+top,none⟩=some (.slice (some ⟨b2,o2,none⟩) n k2))
                     (first | go_keep | (go_split_ands; refine ⟨?_, ?_⟩ <;> (refine Fx.keep (p:=(·=b1)) (by assumption) (by assumption) (fun e=>bo1 e.symm))))
                     (first | (go_at_call 113; refine (less_n b1 o1 k1 b2 o2 k2 n _ _ _ r _ (hGr.fr ?_) (ro1.out.fr ?_) (ro2.out.fr ?_) hb12 (by rw [len1.out]; omega) len1.out len2.out htk.out).mono ?_; (exact fr9); (exact fr9); (exact fr9); rintro e w2 ⟨rfl,hfx2,hown2⟩))
                    have hgF:=hgr2.out.setRowF hs1.out hfx2 hown2 (fun xs h=>by have h2:=takeSW_len htk.out; rw [List.getElem?_eq_getElem hj1] at h; injection h with h; rw [← h]; exact h2) (by exact fr9)
                    have hfF:=hfx.via hfx2 (fun j hj=>(hbX.out.1 j).1 (gb_mem hs1.out j hj)) (by exact fr9)
                    go_wp2_with fail
                    go_roundg (gk - 1)
                    case measure=>omega
                    case rel=>exact ⟨j+1,_,by go_num,by omega,hg2,hgF,hfF⟩
                   ·obtain rfl:j=top:=by omega
                    have h1:=he.out
                    rw [hFg.out] at h1
                    injection h1 with h1; subst h1
                    have hdj:decide (j < j)=false:=decide_eq_false (by omega)
                    replace hgr:=hZ hgr
                    replace hr1:=hZ hr1
                    replace hl1:=hZ hl1
                    go_wp2_with fail
                    go_roundg k
                    case measure=>omega
                    case rel=>exact ⟨c+1,j+1,g',hsX,by go_num,by go_num,by omega,by omega,hc2,hgr,hr1,(by show _=_; rw [hl1.out,hLg.out]),hbX,hfx⟩
                 ·cases hF9
                ·as_aux_lemma=>
                 rw [if_neg hneg] at hF9
                 have hGg:=hZ hg3
                 have hRg:=hr3
                 have hLg:=hl3
                 have hFg:=hZ hF9
                 have hfx10:=hfx4
                 have hge:0≤ent g3 top c:=by omega
                 clear hF9 hg3 hr3 hl3 hneg ro2 hs2 hsB he hRT ht3
                 go_wp2_with fail
                 refine (Sign_any _ _).mono ?_
                 rintro e w8 ⟨rfl,rfl⟩
                 go_wp2_with fail
                 clear ca2 cf2 ce2 hge hfx4
                 go_loopg [143] top (fun m s143 wr=>∃ (j:Nat) (g1:List (List Int)),s143=.int .i64 j∧j+m=top∧Hid (elimToW g3 c top 0 j=some g1)∧GridIs wr ob oo hsX g1∧Fx (gb ob hs) w wr)
                 case atStart=>exact ⟨0,g3,rfl,by omega,rfl,hGg.out,hfx10⟩
                 case round=>
                  obtain ⟨j,g1,rfl,hjk,he,hgr,hfx⟩:=hrel
                  obtain ⟨hr1,hl1⟩:=elimToW_keeps hRg.out j g1 he.out (by have:=hLg.out; omega)
                  have hLg2:=hLg.out
                  by_cases hlt:j < top
                  ·obtain ⟨g2,hg2⟩:=elimToW_mono (j+1) top g' hFg.out (by omega)
                   have hstep:elim1W g1 c top j=some g2:=by
                    have:=hg2
                    rw [elimToW,he.out] at this
                    simpa using this
                   obtain ⟨sa,sb,hb0,r,htk,rfl⟩:=elim1W_some hstep
                   have hj1:j < g1.length:=by omega
                   have ht1:top < g1.length:=by omega
                   obtain ⟨b1,o1,k1,hs1,ca1,cf1,ro1,bo1⟩:=hgr.at hj1
                   obtain ⟨b2,o2,k2,hs2,ca2,cf2,ro2,bo2⟩:=hgr.at ht1
                   have hb12:=hgr.apart j top _ _ hs1 hs2 (by omega)
                   have ce1:=(ro1.2.2 c _ (ent_at hr1 hj1 (by omega))).1
                   have ce2:=(ro2.2.2 c _ (ent_at hr1 ht1 (by omega))).1
                   rw [hr1.row hj1] at ca1
                   rw [hr1.row ht1] at ca2
                   have hGr:=hG1.out.fx hfx hG0.out.ge
                   have q0:(0:Int)≤(j:Int):=Int.natCast_nonneg _
                   have q1:(j:Int) < (g.length:Int):=by omega
                   have q2:(top:Int) < (g.length:Int):=by omega
                   have q3:(c:Int) < (n:Int):=by omega
                   replace hg2:=hZ hg2
                   replace htk:=hZ htk
                   have hgr2:=hZ hgr
                   replace ro1:=hZ ro1
                   replace ro2:=hZ ro2
                   replace hs1:=hZ hs1
                   replace hr1:=hZ hr1
                   go_wp2_with fail
                   go_region_held3 (fun w'=>w'.cell? ⟨ob,oo+j,none⟩=some (.slice (some ⟨b1,o1,none⟩) n k1)∧w'.cell? ⟨b1,o1+c,none⟩=some (.string (tx (ent g1 j c)))∧w'.cell? ⟨ob,oo+top,none⟩=some (.slice (some ⟨b2,o2,none⟩) n k2)∧w'.cell? ⟨b2,o2+c,none⟩=some (.string (tx (ent g1 top c))))
                    (first | go_keep | (go_split_ands; refine ⟨?_, ?_, ?_, ?_⟩ <;> (refine Fr.keep (by assumption) ?_; assumption)))
                    (first | (go_at_call 112; refine (DivModWd _ _ sa sb hb0 _ (hGr.fr ?_)).mono ?_; (exact fr9); rintro e w1 ⟨rfl,hf1⟩))
                   have hfr:Fr wr w1:=by exact fr9
                   replace ca1:=hfr.keep (p:=⟨ob,oo+j,none⟩) ca1
                   replace ca2:=hfr.keep (p:=⟨ob,oo+top,none⟩) ca2
                   go_wp2_with fail
                   have len1:(g1[j]).length=n:=hr1.out.row hj1
                   have len2:(g1[top]).length=n:=hr1.out.row ht1
                   rw [rowAt_eq hj1,rowAt_eq ht1] at htk
                   replace len1:=hZ len1
                   replace len2:=hZ len2
                   go_region_held3 (fun w'=>w'.cell? ⟨ob,oo+j,none⟩=some (.slice (some ⟨b1,o1,none⟩) n k1)∧w'.cell? ⟨ob,oo+top,none⟩=some (.slice (some ⟨b2,o2,none⟩) n k2))
                    (first | go_keep | (go_split_ands; refine ⟨?_, ?_⟩ <;> (refine Fx.keep (p:=(·=b1)) (by assumption) (by assumption) (fun e=>bo1 e.symm))))
                    (first | (go_at_call 113; refine (less_n b1 o1 k1 b2 o2 k2 n _ _ _ r _ (hGr.fr ?_) (ro1.out.fr ?_) (ro2.out.fr ?_) hb12 (by rw [len1.out]; omega) len1.out len2.out htk.out).mono ?_; (exact fr9); (exact fr9); (exact fr9); rintro e w2 ⟨rfl,hfx2,hown2⟩))
                   have hgF:=hgr2.out.setRowF hs1.out hfx2 hown2 (fun xs h=>by have h2:=takeSW_len htk.out; rw [List.getElem?_eq_getElem hj1] at h; injection h with h; rw [← h]; exact h2) (by exact fr9)
                   have hfF:=hfx.via hfx2 (fun j hj=>(hbX.out.1 j).1 (gb_mem hs1.out j hj)) (by exact fr9)
                   go_wp2_with fail
                   go_roundg (gk - 1)
                   case measure=>omega
                   case rel=>exact ⟨j+1,_,by go_num,by omega,hg2,hgF,hfF⟩
                  ·obtain rfl:j=top:=by omega
                   have h1:=he.out
                   rw [hFg.out] at h1
                   injection h1 with h1; subst h1
                   have hdj:decide (j < j)=false:=decide_eq_false (by omega)
                   replace hgr:=hZ hgr
                   replace hr1:=hZ hr1
                   replace hl1:=hZ hl1
                   go_wp2_with fail
                   go_roundg k
                   case measure=>omega
                   case rel=>exact ⟨c+1,j+1,g',hsX,by go_num,by go_num,by omega,by omega,hc2,hgr,hr1,(by show _=_; rw [hl1.out,hLg.out]),hbX,hfx⟩
               ·cases hE2
   ·have hfin:gF=g1∧tF=top:=by
     have h:=hh1.out
     cases gk with
     | zero=>rw [formS] at h; injection h with h; injection h with h1 h2; exact ⟨h1.symm,h2.symm⟩
     | succ k=>rw [formS,if_neg (by rw [hl1.out]; exact htl)] at h; injection h with h; injection h with h1 h2; exact ⟨h1.symm,h2.symm⟩
    obtain ⟨rfl,rfl⟩:=hfin
    have htl2:decide (tF < g.length)=false:=decide_eq_false htl
    go_wp2_with fail
    go_ret
    exact ⟨rfl,htop,hl1.out,hr1.out,hs1,hb1.out,hfx1,hg1.out⟩
  ·have hfin:gF=g1∧tF=top:=by
    have h:=hh1.out
    obtain rfl:gk=0:=by omega
    rw [formS] at h; injection h with h; injection h with h1 h2; exact ⟨h1.symm,h2.symm⟩
   obtain ⟨rfl,rfl⟩:=hfin
   have hcc2:decide (c < cols)=false:=decide_eq_false hcc
   go_wp2_with fail
   go_ret
   exact ⟨rfl,htop,hl1.out,hr1.out,hs1,hb1.out,hfx1,hg1.out⟩
end Go.Proofs.YtiniigadkknboaaGreatDoor
