/- Contracts and laws: VF. -/
import Derived.Test.YtcglmebcfeoedaaGreatDoorVC
import Derived.Test.YtcglmebcfeoedaaGreatDoorVA
import Derived.Test.YtcglmebcfeoedaaGreatDoorVB
import Derived.Test.YtcglmebcfeoedaaGreatDoorVGW

set_option maxHeartbeats 1000000
namespace Go.Proofs.YtcglmebcfeoedaaGreatDoor
open Go.RowKit Go.Lib
attribute [local go_sem ↓] AA AB



theorem Ue (lb lo lc ob oo oc n m:Nat) (q:Int) (xs ys zs:List Int) (w:World) (hG:G w) (hx:FJ w lb lo xs) (hy:FJ w ob oo ys) (hne:lb≠ob) (hl:xs.length≤1000000000)
 (hn:n=xs.length) (hm:m=ys.length) (hnm:ys.length=xs.length) (hs:DO q xs ys=some zs) :
 Calls Tryz.prog 173 #[.slice (some ⟨lb,lo,none⟩) n lc,.string (tx q),.slice (some ⟨ob,oo,none⟩) m oc] w fun e w'=>e=.returned (.tuple #[])∧Fx (·=lb) w w'∧FJ w' lb lo zs:=by
 have hb:=C8 q
 by_cases hq0:q=0
 ·rw [Ac hq0] at hb
  unfold DO at hs
  rw [Aj hq0] at hs
  injection hs with hs; subst hs
  clear hq0
  subst hn
  go_enter Tryz.func173,Tryz.ntmps173
  go_wp2_with fail
  exact Ax (S7 rfl _ _ _) rfl ⟨rfl,Fx.refl _ _,hx⟩
 ·rw [Aa hq0] at hb
  unfold DO at hs
  rw [Ai hq0] at hs
  obtain ⟨hzl,hz⟩:=Fw q xs ys zs hs
  have hzl:=hZ hzl
  have hz:=hZ hz
  clear hs hq0
  rw [hnm] at hm
  subst hm
  rename_i hzl0 hz0
  clear hzl0 hz0
  subst hn
  go_enter Tryz.func173,Tryz.ntmps173
  go_wp2_with fail
  go_loopw [6,7,12] (fun _ _ Vr wr=>∃ k:Nat,Vr=.int .i64 k∧k≤xs.length∧Fx (·=lb) w wr∧FJ wr lb lo (zs.take k ++ xs.drop k)) (fun _ _ Vr _=>xs.length - (RowKit.intOf Vr).toNat)
  case atStart=>exact ⟨0,rfl,Bm _,Fx.refl _ _,by simpa using hx⟩
  case round=>
   obtain ⟨k,rfl,hk,hf,ho⟩:=hrel
   by_cases hlt:k < xs.length
   ·have hxk:∃ x,xs[k]?=some x:=⟨xs[k],Ab hlt⟩
    obtain ⟨x,hxk⟩:=hxk
    obtain ⟨y,hyk,hok,hzk⟩:=hz.out k x hxk
    obtain ⟨tq,ty,sx⟩:=TZ hok
    have hGr:=hG.fx hf (fun j e=>by rw [e]; exact hx.1)
    have hoc:=ho.2.2 k x (by rw [Hw zs xs k hzl.out hlt]; exact hxk)
    have hkl:k < ys.length:=(Ah.1 hyk).1
    obtain ⟨hoc,hof⟩:=hoc
    obtain ⟨hyc,_⟩:=(hy.fx hf (fun e=>hne e.symm)).2.2 k y hyk
    have hlb:lb < wr.heap.size:=ho.2.1
    have hob:ob < wr.heap.size:=(hy.fx hf (fun e=>hne e.symm)).2.1
    have hxk:=hZ hxk
    have hyk:=hZ hyk
    have hzk:=hZ hzk
    have hset:=hZ (Hv zs xs k hzl.out hlt _ hzk.out)
    have ho2:=hZ ho
    rename_i hxk0 hyk0 hzk0 
    clear hxk0 hyk0 hzk0 ho hok
    have k0:(0:Int)≤(k:Int):=Af _
    have k1:(k:Int) < (xs.length:Int):=by omega
    have k2:(k:Int) < (ys.length:Int):=by omega
    go_wp2_with fail
    go_region_with (first | (go_at_call 80; refine (U9 q y tq ty _ (hGr.fr ?_)).mono ?_; (exact BR); rintro e w1 ⟨rfl,hf1⟩; have c1:=hf1.keep (p:=⟨lb,lo+k,none⟩) hoc; have c2:=hf1.keep (p:=⟨ob,oo+k,none⟩) hyc; have c3:=hf1.keepf (p:=⟨lb,lo+k,none⟩) hoc hof) | (go_at_call 123; refine (WR x q y sx tq ty _ (hGr.fr ?_)).mono ?_; (exact BR); rintro e w2 ⟨rfl,hf2⟩; have d1:=hf2.keep c1; have d3:=hf2.keepf c1 c3))
    all_goals
     have hfr:Fr wr w2:=by exact BR
     have hO:=(ho2.out.fr hfr).set (k:=k) (by simp; have:=hzl.out; omega) (x - q * y)
     rw [hset.out] at hO
     have hF:=(hf.fr hfr).setCell (q:=⟨lb,lo+k,none⟩) (.inl rfl) (sv (x - q * y))
     go_wp2_with fail
     go_roundw
     case rel=>exact ⟨k+1,by go_num,by omega,hF,hO⟩
     case measure=>simp [RowKit.intOf]; omega
   ·go_wp2_with fail
    go_end0
    refine ⟨rfl,hf, ?_⟩
    have:k=xs.length:=by omega
    subst this
    rw [Ep,BJ,Ak (by have:=hzl.out; omega)] at ho
    exact ho
theorem Qg (lb lo lc:Nat) (xs:List Int) (w:World) (_hG:G w) (hx:FJ w lb lo xs) (_hl:xs.length≤1000000000) (hs:∀ x ∈ xs,(tx x).size≤1000000000) :
 Calls Tryz.prog 175 #[.slice (some ⟨lb,lo,none⟩) xs.length lc] w fun e w'=>e=.returned (.tuple #[])∧Fx (·=lb) w w'∧FJ w' lb lo (xs.map (fun x=>-x)):=by
 have hzl:=hZ (show (xs.map (fun x=>-x)).length=xs.length by simp)
 have hz:∀ (k:Nat) (x:Int),xs[k]?=some x→(xs.map (fun x=>-x))[k]?=some (-x):=fun k x h=>by rw [Ao,h]; rfl
 generalize xs.map (fun x=>-x)=zs at *
 have hz:=hZ hz
 rename_i hz0
 clear hz0
 go_enter Tryz.func175,Tryz.ntmps175
 go_wp2_with fail
 go_loopw [2,3,6] (fun _ _ s6 wr=>∃ k:Nat,s6=.int .i64 k∧k≤xs.length∧Fx (·=lb) w wr∧FJ wr lb lo (zs.take k ++ xs.drop k)) (fun _ _ s6 _=>xs.length - (RowKit.intOf s6).toNat)
 case atStart=>exact ⟨0,rfl,Bm _,Fx.refl _ _,by simpa using hx⟩
 case round=>
  obtain ⟨k,rfl,hk,hf,ho⟩:=hrel
  by_cases hlt:k < xs.length
  ·obtain ⟨x,hxk⟩:∃ x,xs[k]?=some x:=⟨xs[k],Ab hlt⟩
   have hzk:=hz.out k x hxk
   have hxs:=hs x (Ae hxk)
   obtain ⟨hoc,hof⟩:=ho.2.2 k x (by rw [Hw zs xs k hzl.out hlt]; exact hxk)
   have hset:=hZ (Hv zs xs k hzl.out hlt _ hzk)
   have hlb:lb < wr.heap.size:=ho.2.1
   have ho2:=hZ ho
   clear hxk hzk ho
   go_wp2_with fail
   refine (JY x _ hxs).mono ?_
   rintro e w2 ⟨rfl,hf2⟩
   have d1:=hf2.keep (p:=⟨lb,lo+k,none⟩) hoc
   have d3:=hf2.keepf (p:=⟨lb,lo+k,none⟩) hoc hof
   have hO:=(ho2.out.fr hf2).set (k:=k) (by simp; have:=hzl.out; omega) (-x)
   rw [hset.out] at hO
   have hF:=(hf.fr hf2).setCell (q:=⟨lb,lo+k,none⟩) (.inl rfl) (sv (-x))
   go_wp2_with fail
   go_roundw
   case rel=>exact ⟨k+1,by go_num,by omega,hF,hO⟩
   case measure=>simp [RowKit.intOf]; omega
  ·go_wp2_with fail
   go_end0
   refine ⟨rfl,hf, ?_⟩
   have:k=xs.length:=by omega
   subst this
   rw [Ep,BJ,Ak (by have:=hzl.out; omega)] at ho
   exact ho
end Go.Proofs.YtcglmebcfeoedaaGreatDoor
