/- Contracts and laws: UF. -/
import Derived.Test.YtkjemicelmabdaaGreatDoorUC
import Derived.Test.YtkjemicelmabdaaGreatDoorUA
import Derived.Test.YtkjemicelmabdaaGreatDoorUB

set_option maxRecDepth 100000
set_option maxHeartbeats 1000000
namespace Go.Proofs.YtkjemicelmabdaaGreatDoor
open Go.RowKit Go.Lib
attribute [local go_sem ↓] AQ AR


theorem Sz (n:Nat) (w:World):Calls Tryz.prog 101 #[.slice none 0 0,.int .i64 n] w fun e w'=>e=.returned (.tuple #[.agg #[.int .i64 n,.slice none 0 0],.int .i64 0])∧Fr w w':=by
 obtain ⟨W,hW⟩:∃ W,W=((w.alloc (.cells #[.int .i64 0,.slice none 0 0] 109)).alloc (.cells #[.int .i64 n,.slice none 0 0] 109)):=⟨_,rfl⟩
 have hf:Fr w W:=by rw [hW]; exact ((Fr.refl _).alloc _).alloc _
 have htwo:TO W w.heap.size n (.slice none 0 0):=by
  rw [hW]
  have hfr:Fr (w.alloc (.cells #[.int .i64 0,.slice none 0 0] 109)) ((w.alloc (.cells #[.int .i64 0,.slice none 0 0] 109)).alloc (.cells #[.int .i64 n,.slice none 0 0] 109)):=(Fr.refl _).alloc _
  have p1:=CL w (.int .i64 0) (.slice none 0 0) 109
  have p2:=CK w (.int .i64 0) (.slice none 0 0) 109
  have p3:=CL (w.alloc (.cells #[.int .i64 0,.slice none 0 0] 109)) (.int .i64 n) (.slice none 0 0) 109
  have p4:=CK (w.alloc (.cells #[.int .i64 0,.slice none 0 0] 109)) (.int .i64 n) (.slice none 0 0) 109
  rw [Az] at p3 p4
  exact ⟨⟨_,hfr.keep p1.1⟩,⟨_,hfr.keep p2.1⟩,hfr.keepf p1.1 p1.2,hfr.keepf p2.1 p2.2,p3.1,p4.1,p3.2,p4.2⟩
 obtain ⟨⟨x0,a0⟩,⟨x1,a1⟩,fa0,fa1,b0,b1,fb0,fb1⟩:=htwo
 go_enter Tryz.func101,Tryz.ntmps101
 go_wp2_with fail
 rw [← hW]
 clear hW
 refine Ba 1 ?_
 rw [A5]
 have a0h:=hZ a0
 have a1h:=hZ a1
 go_wp2_with fail
 have q0:(W.setCell ⟨w.heap.size,0,none⟩ (.int .i64 n)).cell? ⟨w.heap.size,0,none⟩=some (.int .i64 n):=Ap _ _ _ (by rw [a0h.out]; rfl)
 have e1:(⟨w.heap.size,0,none⟩:Addr)≠⟨w.heap.size,1,none⟩:=fun e=>by injection e with _ e; omega
 have q1:((W.setCell ⟨w.heap.size,0,none⟩ (.int .i64 n)).setCell ⟨w.heap.size,1,none⟩ (.slice none 0 0)).cell? ⟨w.heap.size,1,none⟩=some (.slice none 0 0):=Ap _ _ _ (by rw [Ae _ _ _ _ e1,a1h.out]; rfl)
 exact Ay (v:=.tuple #[.agg #[.int .i64 n,.slice none 0 0],.int .i64 0]) (by simp [results,Tryz.results101,go_sem,q0,q1]) rfl ⟨rfl,(hf.setCell (p:=⟨w.heap.size,0,none⟩) (by simp) _).setCell (p:=⟨w.heap.size,1,none⟩) (by simp) _⟩
theorem UI (lb lo lc ob oo oc n m:Nat) (q:Int) (xs ys zs:List Int) (w:World) (hG:G w) (hx:E5 w lb lo xs) (hy:E5 w ob oo ys) (hne:lb≠ob) (hl:xs.length≤1000000000)
 (hn:n=xs.length) (hm:m=ys.length) (hnm:ys.length=xs.length) (hs:E6 q xs ys=some zs) :
 Calls Tryz.prog 165 #[.slice (some ⟨lb,lo,none⟩) n lc,.string (tx q),.slice (some ⟨ob,oo,none⟩) m oc] w fun e w'=>e=.returned (.tuple #[])∧Fx (·=lb) w w'∧E5 w' lb lo zs:=by
 have hb:=DE q
 by_cases hq0:q=0
 ·rw [Ad hq0] at hb
  unfold E6 at hs
  rw [Ak hq0] at hs
  injection hs with hs; subst hs
  clear hq0
  subst hn
  go_enter Tryz.func165,Tryz.ntmps165
  go_wp2_with fail
  exact Ay (results_none rfl _ _ _) rfl ⟨rfl,Fx.refl _ _,hx⟩
 ·rw [Ab hq0] at hb
  unfold E6 at hs
  rw [Aj hq0] at hs
  obtain ⟨hzl,hz⟩:=F3 q xs ys zs hs
  have hzl:=hZ hzl
  have hz:=hZ hz
  clear hs hq0
  rw [hnm] at hm
  subst hm
  rename_i hzl0 hz0
  clear hzl0 hz0
  subst hn
  go_enter Tryz.func165,Tryz.ntmps165
  go_wp2_with fail
  go_loopw [6,7,12] (fun _ _ Ly wr=>∃ k:Nat,Ly=.int .i64 k∧k≤xs.length∧Fx (·=lb) w wr∧E5 wr lb lo (zs.take k ++ xs.drop k)) (fun _ _ Ly _=>xs.length - (RowKit.intOf Ly).toNat)
  case atStart=>exact ⟨0,rfl,Bs _,Fx.refl _ _,by simpa using hx⟩
  case round=>
   obtain ⟨k,rfl,hk,hf,ho⟩:=hrel
   by_cases hlt:k < xs.length
   ·have hxk:∃ x,xs[k]?=some x:=⟨xs[k],Aa hlt⟩
    obtain ⟨x,hxk⟩:=hxk
    obtain ⟨y,hyk,hok,hzk⟩:=hz.out k x hxk
    obtain ⟨tq,ty,sx⟩:=Uy hok
    have hm2:=I5 tq ty
    have sm:Sm (q * y):=⟨by omega,by omega⟩
    have hGr:=hG.fx hf (fun j e=>by rw [e]; exact hx.1)
    have hoc:=ho.2.2 k x (by rw [Gs zs xs k hzl.out hlt]; exact hxk)
    have hkl:k < ys.length:=(Ah.1 hyk).1
    obtain ⟨hoc,hof⟩:=hoc
    obtain ⟨hyc,_⟩:=(hy.fx hf (fun e=>hne e.symm)).2.2 k y hyk
    have hlb:lb < wr.heap.size:=ho.2.1
    have hob:ob < wr.heap.size:=(hy.fx hf (fun e=>hne e.symm)).2.1
    have hxk:=hZ hxk
    have hyk:=hZ hyk
    have hzk:=hZ hzk
    have hset:=hZ (Gr zs xs k hzl.out hlt _ hzk.out)
    have ho2:=hZ ho
    rename_i hxk0 hyk0 hzk0 
    clear hxk0 hyk0 hzk0 ho hok
    have k0:(0:Int)≤(k:Int):=Ag _
    have k1:(k:Int) < (xs.length:Int):=by omega
    have k2:(k:Int) < (ys.length:Int):=by omega
    go_wp2_with fail
    go_region_with (first | (go_at_call 39; refine (Ov q y tq ty _ (hGr.fr ?_)).mono ?_; (exact BM); rintro e w1 ⟨rfl,hf1⟩; have c1:=hf1.keep (p:=⟨lb,lo+k,none⟩) hoc; have c2:=hf1.keep (p:=⟨ob,oo+k,none⟩) hyc; have c3:=hf1.keepf (p:=⟨lb,lo+k,none⟩) hoc hof) | (go_at_call 71; refine (Rd x (q * y) sx sm _ (hGr.fr ?_)).mono ?_; (exact BM); rintro e w2 ⟨rfl,hf2⟩; have d1:=hf2.keep c1; have d3:=hf2.keepf c1 c3))
    all_goals
     have hfr:Fr wr w2:=by exact BM
     have hO:=(ho2.out.fr hfr).set (k:=k) (by simp; have:=hzl.out; omega) (x - q * y)
     rw [hset.out] at hO
     have hF:=(hf.fr hfr).setCell (q:=⟨lb,lo+k,none⟩) (.inl rfl) (sv (x - q * y))
     go_wp2_with fail
     go_roundw
     case rel=>exact ⟨k+1,by go_num,by omega,hF,hO⟩
     case measure=>simp [RowKit.intOf]; omega
   ·go_wp2_with fail
    go_end0
    refine ⟨rfl,hf, ?_⟩
    have:k=xs.length:=by omega
    subst this
    rw [Fy,Bq,Ai (by have:=hzl.out; omega)] at ho
    exact ho
theorem QM (lb lo lc:Nat) (xs:List Int) (w:World) (_hG:G w) (hx:E5 w lb lo xs) (_hl:xs.length≤1000000000) (hs:∀ x ∈ xs,(tx x).size≤1000000000) :
 Calls Tryz.prog 167 #[.slice (some ⟨lb,lo,none⟩) xs.length lc] w fun e w'=>e=.returned (.tuple #[])∧Fx (·=lb) w w'∧E5 w' lb lo (xs.map (fun x=>-x)):=by
 have hzl:=hZ (show (xs.map (fun x=>-x)).length=xs.length by simp)
 have hz:∀ (k:Nat) (x:Int),xs[k]?=some x→(xs.map (fun x=>-x))[k]?=some (-x):=fun k x h=>by rw [Am,h]; rfl
 generalize xs.map (fun x=>-x)=zs at *
 have hz:=hZ hz
 rename_i hz0
 clear hz0
 go_enter Tryz.func167,Tryz.ntmps167
 go_wp2_with fail
 go_loopw [2,3,6] (fun _ _ s6 wr=>∃ k:Nat,s6=.int .i64 k∧k≤xs.length∧Fx (·=lb) w wr∧E5 wr lb lo (zs.take k ++ xs.drop k)) (fun _ _ s6 _=>xs.length - (RowKit.intOf s6).toNat)
 case atStart=>exact ⟨0,rfl,Bs _,Fx.refl _ _,by simpa using hx⟩
 case round=>
  obtain ⟨k,rfl,hk,hf,ho⟩:=hrel
  by_cases hlt:k < xs.length
  ·obtain ⟨x,hxk⟩:∃ x,xs[k]?=some x:=⟨xs[k],Aa hlt⟩
   have hzk:=hz.out k x hxk
   have hxs:=hs x (Ac hxk)
   obtain ⟨hoc,hof⟩:=ho.2.2 k x (by rw [Gs zs xs k hzl.out hlt]; exact hxk)
   have hset:=hZ (Gr zs xs k hzl.out hlt _ hzk)
   have hlb:lb < wr.heap.size:=ho.2.1
   have ho2:=hZ ho
   clear hxk hzk ho
   go_wp2_with fail
   refine (JZ x _ hxs).mono ?_
   rintro e w2 ⟨rfl,hf2⟩
   have d1:=hf2.keep (p:=⟨lb,lo+k,none⟩) hoc
   have d3:=hf2.keepf (p:=⟨lb,lo+k,none⟩) hoc hof
   have hO:=(ho2.out.fr hf2).set (k:=k) (by simp; have:=hzl.out; omega) (-x)
   rw [hset.out] at hO
   have hF:=(hf.fr hf2).setCell (q:=⟨lb,lo+k,none⟩) (.inl rfl) (sv (-x))
   go_wp2_with fail
   go_roundw
   case rel=>exact ⟨k+1,by go_num,by omega,hF,hO⟩
   case measure=>simp [RowKit.intOf]; omega
  ·go_wp2_with fail
   go_end0
   refine ⟨rfl,hf, ?_⟩
   have:k=xs.length:=by omega
   subst this
   rw [Fy,Bq,Ai (by have:=hzl.out; omega)] at ho
   exact ho
end Go.Proofs.YtkjemicelmabdaaGreatDoor
