/-
  Contracts and laws for the statements of the seat, QF.
-/
import Derived.Test.YtkjemicelmabdaaGreatDoorQC
import Derived.Test.YtkjemicelmabdaaGreatDoorQA
import Derived.Test.YtkjemicelmabdaaGreatDoorQB

set_option maxRecDepth 100000
set_option maxHeartbeats 1000000
namespace Go.Proofs.YtkjemicelmabdaaGreatDoor
open Go.RowKit Go.Lib
attribute [local go_sem ↓] Go.wp_at_zero Go.wp_at_succ


theorem short_nil (n:Nat) (w:World):Calls Tryz.prog 101 #[.slice none 0 0,.int .i64 n] w fun e w'=>e=.returned (.tuple #[.agg #[.int .i64 n,.slice none 0 0],.int .i64 0])∧Fr w w':=by
 obtain ⟨W,hW⟩:∃ W,W=((w.alloc (.cells #[.int .i64 0,.slice none 0 0] 109)).alloc (.cells #[.int .i64 n,.slice none 0 0] 109)):=⟨_,rfl⟩
 have hf:Fr w W:=by rw [hW]; exact ((Fr.refl _).alloc _).alloc _
 have htwo:Two W w.heap.size n (.slice none 0 0):=by
  rw [hW]
  have hfr:Fr (w.alloc (.cells #[.int .i64 0,.slice none 0 0] 109)) ((w.alloc (.cells #[.int .i64 0,.slice none 0 0] 109)).alloc (.cells #[.int .i64 n,.slice none 0 0] 109)):=(Fr.refl _).alloc _
  have p1:=new2a w (.int .i64 0) (.slice none 0 0) 109
  have p2:=new2b w (.int .i64 0) (.slice none 0 0) 109
  have p3:=new2a (w.alloc (.cells #[.int .i64 0,.slice none 0 0] 109)) (.int .i64 n) (.slice none 0 0) 109
  have p4:=new2b (w.alloc (.cells #[.int .i64 0,.slice none 0 0] 109)) (.int .i64 n) (.slice none 0 0) 109
  rw [World.size_alloc] at p3 p4
  exact ⟨⟨_,hfr.keep p1.1⟩,⟨_,hfr.keep p2.1⟩,hfr.keepf p1.1 p1.2,hfr.keepf p2.1 p2.2,p3.1,p4.1,p3.2,p4.2⟩
 obtain ⟨⟨x0,a0⟩,⟨x1,a1⟩,fa0,fa1,b0,b1,fb0,fb1⟩:=htwo
 go_enter Tryz.func101,Tryz.ntmps101
 go_wp2_with fail
 rw [← hW]
 clear hW
 refine wp_loop_rounds 1 ?_
 rw [rounds_succ]
 have a0h:=hZ a0
 have a1h:=hZ a1
 go_wp2_with fail
 have q0:(W.setCell ⟨w.heap.size,0,none⟩ (.int .i64 n)).cell? ⟨w.heap.size,0,none⟩=some (.int .i64 n):=World.cell?_setCell_same' _ _ _ (by rw [a0h.out]; rfl)
 have e1:(⟨w.heap.size,0,none⟩:Addr)≠⟨w.heap.size,1,none⟩:=fun e=>by injection e with _ e; omega
 have q1:((W.setCell ⟨w.heap.size,0,none⟩ (.int .i64 n)).setCell ⟨w.heap.size,1,none⟩ (.slice none 0 0)).cell? ⟨w.heap.size,1,none⟩=some (.slice none 0 0):=World.cell?_setCell_same' _ _ _ (by rw [World.cell?_setCell_other _ _ _ _ e1,a1h.out]; rfl)
 exact bodyPost_ret (v:=.tuple #[.agg #[.int .i64 n,.slice none 0 0],.int .i64 0]) (by simp [results,Tryz.results101,go_sem,q0,q1]) rfl ⟨rfl,(hf.setCell (p:=⟨w.heap.size,0,none⟩) (by simp) _).setCell (p:=⟨w.heap.size,1,none⟩) (by simp) _⟩
theorem less_any (lb lo lc ob oo oc n m:Nat) (q:Int) (xs ys zs:List Int) (w:World) (hG:G w) (hx:Own w lb lo xs) (hy:Own w ob oo ys) (hne:lb≠ob) (hl:xs.length≤1000000000)
 (hn:n=xs.length) (hm:m=ys.length) (hnm:ys.length=xs.length) (hs:takeS q xs ys=some zs) :
 Calls Tryz.prog 165 #[.slice (some ⟨lb,lo,none⟩) n lc,.string (tx q),.slice (some ⟨ob,oo,none⟩) m oc] w fun e w'=>e=.returned (.tuple #[])∧Fx (·=lb) w w'∧Own w' lb lo zs:=by
 have hb:=tx_beq0 q
 by_cases hq0:q=0
 ·rw [decide_eq_true hq0] at hb
  unfold takeS at hs
  rw [if_pos hq0] at hs
  injection hs with hs; subst hs
  clear hq0
  subst hn
  go_enter Tryz.func165,Tryz.ntmps165
  go_wp2_with fail
  exact bodyPost_ret (results_none rfl _ _ _) rfl ⟨rfl,Fx.refl _ _,hx⟩
 ·rw [decide_eq_false hq0] at hb
  unfold takeS at hs
  rw [if_neg hq0] at hs
  obtain ⟨hzl,hz⟩:=takeL_spec q xs ys zs hs
  have hzl:=hZ hzl
  have hz:=hZ hz
  clear hs hq0
  rw [hnm] at hm
  subst hm
  rename_i hzl0 hz0
  clear hzl0 hz0
  subst hn
  go_enter Tryz.func165,Tryz.ntmps165
  go_wp2_with fail
  go_loopw [6,7,12] (fun _ _ s12 wr=>∃ k:Nat,s12=.int .i64 k∧k≤xs.length∧Fx (·=lb) w wr∧Own wr lb lo (zs.take k ++ xs.drop k)) (fun _ _ s12 _=>xs.length - (RowKit.intOf s12).toNat)
  case atStart=>exact ⟨0,rfl,Nat.zero_le _,Fx.refl _ _,by simpa using hx⟩
  case round=>
   obtain ⟨k,rfl,hk,hf,ho⟩:=hrel
   by_cases hlt:k < xs.length
   ·have hxk:∃ x,xs[k]?=some x:=⟨xs[k],List.getElem?_eq_getElem hlt⟩
    obtain ⟨x,hxk⟩:=hxk
    obtain ⟨y,hyk,hok,hzk⟩:=hz.out k x hxk
    obtain ⟨tq,ty,sx⟩:=okT_ti hok
    have hm2:=mul_bd tq ty
    have sm:Sm (q * y):=⟨by omega,by omega⟩
    have hGr:=hG.fx hf (fun j e=>by rw [e]; exact hx.1)
    have hoc:=ho.2.2 k x (by rw [mid_get zs xs k hzl.out hlt]; exact hxk)
    have hkl:k < ys.length:=(List.getElem?_eq_some_iff.1 hyk).1
    obtain ⟨hoc,hof⟩:=hoc
    obtain ⟨hyc,_⟩:=(hy.fx hf (fun e=>hne e.symm)).2.2 k y hyk
    have hlb:lb < wr.heap.size:=ho.2.1
    have hob:ob < wr.heap.size:=(hy.fx hf (fun e=>hne e.symm)).2.1
    have hxk:=hZ hxk
    have hyk:=hZ hyk
    have hzk:=hZ hzk
    have hset:=hZ (mid_set zs xs k hzl.out hlt _ hzk.out)
    have ho2:=hZ ho
    rename_i hxk0 hyk0 hzk0 
    clear hxk0 hyk0 hzk0 ho hok
    have k0:(0:Int)≤(k:Int):=Int.natCast_nonneg _
    have k1:(k:Int) < (xs.length:Int):=by omega
    have k2:(k:Int) < (ys.length:Int):=by omega
    go_wp2_with fail
    go_region_with (first | (go_at_call 39; refine (Mul_ti q y tq ty _ (hGr.fr ?_)).mono ?_; (exact fr9); rintro e w1 ⟨rfl,hf1⟩; have c1:=hf1.keep (p:=⟨lb,lo+k,none⟩) hoc; have c2:=hf1.keep (p:=⟨ob,oo+k,none⟩) hyc; have c3:=hf1.keepf (p:=⟨lb,lo+k,none⟩) hoc hof) | (go_at_call 71; refine (Sub_sm x (q * y) sx sm _ (hGr.fr ?_)).mono ?_; (exact fr9); rintro e w2 ⟨rfl,hf2⟩; have d1:=hf2.keep c1; have d3:=hf2.keepf c1 c3))
    all_goals
     have hfr:Fr wr w2:=by exact fr9
     have hO:=(ho2.out.fr hfr).set (k:=k) (by simp; have:=hzl.out; omega) (x - q * y)
     rw [hset.out] at hO
     have hF:=(hf.fr hfr).setCell (q:=⟨lb,lo+k,none⟩) (.inl rfl) (sv (x - q * y))
     go_wp2_with fail
     go_roundw
     case rel=>exact ⟨k+1,by go_num,by omega,hF,hO⟩
     case measure=>simp [RowKit.intOf]; omega
   ·go_wp2_with fail
    go_end0
    refine ⟨rfl,hf, ?_⟩
    have:k=xs.length:=by omega
    subst this
    rw [List.drop_length,List.append_nil,List.take_of_length_le (by have:=hzl.out; omega)] at ho
    exact ho
theorem negate_any (lb lo lc:Nat) (xs:List Int) (w:World) (_hG:G w) (hx:Own w lb lo xs) (_hl:xs.length≤1000000000) (hs:∀ x ∈ xs,(tx x).size≤1000000000) :
 Calls Tryz.prog 167 #[.slice (some ⟨lb,lo,none⟩) xs.length lc] w fun e w'=>e=.returned (.tuple #[])∧Fx (·=lb) w w'∧Own w' lb lo (xs.map (fun x=>-x)):=by
 have hzl:=hZ (show (xs.map (fun x=>-x)).length=xs.length by simp)
 have hz:∀ (k:Nat) (x:Int),xs[k]?=some x→(xs.map (fun x=>-x))[k]?=some (-x):=fun k x h=>by rw [List.getElem?_map,h]; rfl
 generalize xs.map (fun x=>-x)=zs at *
 have hz:=hZ hz
 rename_i hz0
 clear hz0
 go_enter Tryz.func167,Tryz.ntmps167
 go_wp2_with fail
 go_loopw [2,3,6] (fun _ _ s6 wr=>∃ k:Nat,s6=.int .i64 k∧k≤xs.length∧Fx (·=lb) w wr∧Own wr lb lo (zs.take k ++ xs.drop k)) (fun _ _ s6 _=>xs.length - (RowKit.intOf s6).toNat)
 case atStart=>exact ⟨0,rfl,Nat.zero_le _,Fx.refl _ _,by simpa using hx⟩
 case round=>
  obtain ⟨k,rfl,hk,hf,ho⟩:=hrel
  by_cases hlt:k < xs.length
  ·obtain ⟨x,hxk⟩:∃ x,xs[k]?=some x:=⟨xs[k],List.getElem?_eq_getElem hlt⟩
   have hzk:=hz.out k x hxk
   have hxs:=hs x (List.mem_of_getElem? hxk)
   obtain ⟨hoc,hof⟩:=ho.2.2 k x (by rw [mid_get zs xs k hzl.out hlt]; exact hxk)
   have hset:=hZ (mid_set zs xs k hzl.out hlt _ hzk)
   have hlb:lb < wr.heap.size:=ho.2.1
   have ho2:=hZ ho
   clear hxk hzk ho
   go_wp2_with fail
   refine (Neg_any x _ hxs).mono ?_
   rintro e w2 ⟨rfl,hf2⟩
   have d1:=hf2.keep (p:=⟨lb,lo+k,none⟩) hoc
   have d3:=hf2.keepf (p:=⟨lb,lo+k,none⟩) hoc hof
   have hO:=(ho2.out.fr hf2).set (k:=k) (by simp; have:=hzl.out; omega) (-x)
   rw [hset.out] at hO
   have hF:=(hf.fr hf2).setCell (q:=⟨lb,lo+k,none⟩) (.inl rfl) (sv (-x))
   go_wp2_with fail
   go_roundw
   case rel=>exact ⟨k+1,by go_num,by omega,hF,hO⟩
   case measure=>simp [RowKit.intOf]; omega
  ·go_wp2_with fail
   go_end0
   refine ⟨rfl,hf, ?_⟩
   have:k=xs.length:=by omega
   subst this
   rw [List.drop_length,List.append_nil,List.take_of_length_le (by have:=hzl.out; omega)] at ho
   exact ho
end Go.Proofs.YtkjemicelmabdaaGreatDoor
