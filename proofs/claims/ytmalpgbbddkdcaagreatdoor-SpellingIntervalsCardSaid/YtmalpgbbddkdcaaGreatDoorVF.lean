/- Contracts and laws: VF. -/
import Derived.Test.YtmalpgbbddkdcaaGreatDoorVC
import Derived.Test.YtmalpgbbddkdcaaGreatDoorVA
import Derived.Test.YtmalpgbbddkdcaaGreatDoorVB
import Derived.Test.YtmalpgbbddkdcaaGreatDoorVGW

set_option maxRecDepth 100000
set_option maxHeartbeats 4000000
namespace Go.Proofs.YtmalpgbbddkdcaaGreatDoor
open Go.RowKit Go.Lib
attribute [local go_sem ↓] Go.wp_at_zero Go.wp_at_succ
theorem form1_any (ob oo oc n:Nat) (x:Int) (xs:List Int) (hs:List (Nat×Nat×Nat)) (w:World) (hg:GridIs w ob oo hs [x :: xs]) (hx:0 < x) (hsx:Sm x) (hn:1≤n) (hn2:n≤1000000) (hl:xs.length≤1000000) (hoc:1≤oc) :
 Calls Tryz.prog 144 #[.slice (some ⟨ob,oo,none⟩) 1 oc,.int .i64 n] w fun e w'=>e=.returned (.slice (some ⟨ob,oo,none⟩) 1 oc)∧Fx (gb ob hs) w w'∧GridIs w' ob oo hs [x :: xs]:=by
 have hb:=tx_beq0 x
 rw [decide_eq_false (show ¬ x=0 by omega)] at hb
 have hsz:=hZ hsx.size
 replace hg:=hZ hg
 replace hsx:=hZ hsx
 go_enter Tryz.func144,Tryz.ntmps144
 go_wp2_with fail
 go_loopg [5,6] 1 (fun k s5 s6 wr=>∃ d:Nat,s5=.int .i64 d∧s6=.int .i64 d∧d+k=1∧Hid (GridIs wr ob oo hs [x :: xs])∧Fx (gb ob hs) w wr)
 case atStart=>exact ⟨0,rfl,rfl,rfl,hg,Fx.refl _ _⟩
 case round=>
  obtain ⟨d,rfl,rfl,hdk,hg1,hfx1⟩:=hrel
  by_cases hd:d=0
  ·subst hd
   obtain rfl:gk=1:=by omega
   obtain ⟨wo,rfl⟩:∃ wo:World,wo=wr:=⟨_,rfl⟩
   go_wp2_with fail
   go_loopg [5] 0 (fun _ s5 wr2=>s5=.int .i64 0∧wo=wr2)
   case atStart=>exact ⟨rfl,rfl⟩
   case round=>
    obtain ⟨rfl,rfl⟩:=hrel
    go_wp2_with fail
    go_loopg [7,8] 1 (fun m s7 s8 wr3=>∃ i:Nat,s8=.int .i64 i∧i+m=1∧s7=.int .i64 ((i:Int) - 1)∧Qt wo wr3)
    case atStart=>exact ⟨0,rfl,rfl,rfl,Qt.refl _⟩
    case round=>
     obtain ⟨i,rfl,him,rfl,hq3⟩:=hrel
     by_cases hi:i=0
     ·subst hi
      have hgr3:=hg1.out.fr hq3.fr
      obtain ⟨bi,oi,ki,hsi,cai,cfi,roi,boi⟩:=hgr3.at (i:=0) (by simp)
      have cei:=(roi.2.2 0 x rfl).1
      simp only [Nat.add_zero,List.getElem_cons_zero,List.length_cons] at cai cfi cei
      have zl:(0:Int) < ((xs.length+1:Nat):Int):=by omega
      have zm:0 < xs.length+1:=by omega
      go_wp2_with fail
      go_quiet (fail)
      go_wp2_with fail
      go_roundg 0
      case measure=>omega
      case rel=>exact ⟨1,by go_num,by omega,by go_num,by repeat (with_reducible first | assumption | exact Qt.refl _ | refine Qt.drew ?_ | refine Qt.drewN ?_ _ | refine Qt.trans ?_ (by assumption))⟩
     ·obtain rfl:i=1:=by omega
      have hgr3:=hg1.out.fr hq3.fr
      have hfx3:=hfx1.fr hq3.fr
      obtain ⟨bi,oi,ki,hsi,cai,cfi,roi,boi⟩:=hgr3.at (i:=0) (by simp)
      have cei:=(roi.2.2 0 x rfl).1
      simp only [Nat.add_zero,List.getElem_cons_zero,List.length_cons] at cai cfi cei
      have zl:(0:Int) < ((xs.length+1:Nat):Int):=by omega
      have zm:0 < xs.length+1:=by omega
      replace hgr3:=hZ hgr3
      go_wp2_with fail
      go_region
      have hgX:GridIs ((wr.setCell ⟨ob,oo,none⟩ (.slice (some ⟨bi,oi,none⟩) (xs.length+1) ki)).setCell ⟨ob,oo,none⟩ (.slice (some ⟨bi,oi,none⟩) (xs.length+1) ki)).drew ob oo hs [x :: xs]:=(hgr3.out.same (i:=0) cai).fr (Fr.refl _).drew
      have hfX:Fx (gb ob hs) w ((wr.setCell ⟨ob,oo,none⟩ (.slice (some ⟨bi,oi,none⟩) (xs.length+1) ki)).setCell ⟨ob,oo,none⟩ (.slice (some ⟨bi,oi,none⟩) (xs.length+1) ki)).drew :=
       ((hfx3.setCell (q:=⟨ob,oo,none⟩) (.inl (.inl rfl)) _).setCell (q:=⟨ob,oo,none⟩) (.inl (.inl rfl)) _).drew
      generalize ((wr.setCell ⟨ob,oo,none⟩ (.slice (some ⟨bi,oi,none⟩) (xs.length+1) ki)).setCell ⟨ob,oo,none⟩ (.slice (some ⟨bi,oi,none⟩) (xs.length+1) ki)).drew=W at hgX hfX ⊢
      clear hgr3 hfx3 hsi cai cfi roi boi cei hg1 hfx1
      go_wp2_with fail
      go_loopg [9,10] 0 (fun _ s9 s10 wr4=>s9=.bool false∧s10=.int .i64 1∧W=wr4)
      case atStart=>exact ⟨rfl,rfl,rfl⟩
      case round=>
       obtain ⟨rfl,rfl,rfl⟩:=hrel
       obtain ⟨bi,oi,ki,hsi,cai,cfi,roi,boi⟩:=hgX.at (i:=0) (by simp)
       have cei:=(roi.2.2 0 x rfl).1
       simp only [Nat.add_zero,List.getElem_cons_zero,List.length_cons] at cai cfi cei
       replace hgX:=hZ hgX
       go_wp2_with fail
       refine (Sign_any x _).mono ?_
       rintro e w' ⟨rfl,rfl⟩
       rw [Int.sign_eq_one_of_pos hx]
       go_wp2_with fail
       go_loopg [143] 0 (fun _ s1 wr5=>s1=.int .i64 0∧W=wr5)
       case atStart=>exact ⟨rfl,rfl⟩
       case round=>
        obtain ⟨rfl,rfl⟩:=hrel
        go_wp2_with fail
        go_roundg 0
        case measure=>omega
        case rel=>exact ⟨1,by go_num,by go_num,rfl,hgX,hfX⟩
  ·obtain rfl:d=1:=by omega
   by_cases hn1:1 < n
   all_goals
    first
    | have hdn:decide (1 < n)=true:=decide_eq_true hn1
    | have hdn:decide (1 < n)=false:=decide_eq_false hn1
    go_wp2_with fail
    go_ret
    exact ⟨rfl,hfx1,hg1.out⟩
theorem Of_one (x:Int) (xs:List Int) (a:Option Addr) (cap n:Nat) (w:World) (hG:G w) (hm:MatIs w a [x :: xs]) (hok:TabOk n [x :: xs]) (hx:0 < x) (hn:1≤n) :
 Calls Tryz.prog 109 #[.int .i64 n,.slice a 1 cap] w (LatRet w n [x :: xs]):=by
 have hfit:=hok.2.2.2
 have hr1:=hok.2.2.1
 have hlen:(x :: xs).length=n:=hr1 _ (by simp)
 have hsm:∀ r,r ∈ [x :: xs]→∀ y,y ∈ r→Sm y:=fun r hr y hy=>fit_sm (hfit r hr y hy)
 have hn12:=hok.2.1
 have hxl:xs.length≤1000000:=by simp at hlen; omega
 have hrl:∀ r,r ∈ [x :: xs]→r.length≤1000000:=fun r hr=>by rw [hr1 r hr]; omega
 have hsx:Sm x:=hsm (x :: xs) (List.mem_cons_self ..) x (List.mem_cons_self ..)
 have hE:∀ r,r ∈ [x :: xs]→rowE r=0:=fun r hr=>
  rowE_ok (by rw [hr1 r hr]; omega) (by
   rw [List.any_eq_false]
   intro y hy
   rw [hfit r hr y hy]; simp)
 have hgr2:∀ r,r ∈ [x :: xs]→∀ y,y ∈ r→fitB y=true:=hfit
 have hchk:=fun W hW=>latCheck_ok [x :: xs] a cap n W (hm.fr (w':=W) hW) hr1 (by simp) hE hn12
 have hlongs:=fun W hW=>longsOf_any [x :: xs] a cap W (hG.fr hW) (hm.fr hW) hrl (by simp) hsm
 have hform:=fun ob oo oc hs W hg hoc=>form1_any ob oo oc n x xs hs W hg hx hsx hn (by omega) hxl hoc
 have hG1:=hZ hG
 replace hgr2:=hZ hgr2
 replace hfit:=hZ hfit
 replace hrl:=hZ hrl
 replace hchk:=hZ hchk
 replace hlongs:=hZ hlongs
 replace hform:=hZ hform
 clear hm hok hG hr1 hlen hsm hE hsx
 have hgn:=gN_le hG1.out
 go_enter Tryz.func109,Tryz.ntmps109
 go_wp2_with fail
 refine (hchk.out _ ((Fr.refl w).alloc _)).mono ?_
 rintro e w1 ⟨rfl,hf1⟩
 go_wp2_with fail
 refine (hlongs.out _ (((Fr.refl w).alloc _).trans hf1)).mono ?_
 rintro e w2 ⟨v,hs,rfl,hgg,hnew,hf2⟩
 obtain ⟨ob,oc,rfl⟩:=ownsRow_pos hgg.own (by simp)
 obtain ⟨hg,-,hgb,hgc⟩:=hgg.grid
 clear hgg
 have hg9:=hZ hg
 go_wp2_with fail
 refine (hform.out ob 0 oc hs _ hg9.out hgc).mono ?_
 rintro e w3 ⟨rfl,hfx3,hg3⟩
 replace hg3:=hZ hg3
 have hfr3:Fr (w.alloc (.cells #[.int .i64 0,.slice none 0 0] 61)) w3:=((Fx.of_fr (hf1.trans hf2)).trans hfx3).toFr (fun k hk e=>by
  have h1:=hf1.size
  rcases e with rfl | ⟨h,hm9,rfl⟩
  ·omega
  ·have:=hnew.out h hm9; omega)
 go_wp2_with fail
 refine (short_any ob oc 1 n hs [x :: xs] w3 (hG1.out.fr (((Fr.refl w).alloc _).trans hfr3)) hg3.out (by simp) (by simp) hrl.out hgr2.out).mono ?_
 rintro e w4 ⟨a4,c4,rfl,hm4,hf4⟩
 have p1:=new2a w (.int .i64 0) (.slice none 0 0) 61
 have p2:=new2b w (.int .i64 0) (.slice none 0 0) 61
 have c1:=(hfr3.trans hf4).keep p1.1
 have c2:=(hfr3.trans hf4).keep p2.1
 have c3:=(hfr3.trans hf4).keepf p1.1 p1.2
 have c5:=(hfr3.trans hf4).keepf p2.1 p2.2
 replace hm4:=hZ hm4
 clear p1 p2
 go_wp2_with fail
 have e1:(⟨w.heap.size,0,none⟩:Addr)≠⟨w.heap.size,1,none⟩:=fun e=>by injection e with _ e; omega
 have q0:(w4.setCell ⟨w.heap.size,0,none⟩ (.int .i64 n)).cell? ⟨w.heap.size,0,none⟩=some (.int .i64 n):=World.cell?_setCell_same' _ _ _ (by rw [c1]; rfl)
 have q1:((w4.setCell ⟨w.heap.size,0,none⟩ (.int .i64 n)).setCell ⟨w.heap.size,1,none⟩ (.slice a4 1 c4)).cell? ⟨w.heap.size,1,none⟩=some (.slice a4 1 c4):=World.cell?_setCell_same' _ _ _ (by rw [World.cell?_setCell_other _ _ _ _ e1,c2]; rfl)
 have hfw:Fr w w4:=((Fr.refl w).alloc _).trans (hfr3.trans hf4)
 refine bodyPost_ret (v:=.tuple #[.agg #[.int .i64 n,.slice a4 1 c4],.int .i64 0]) (by simp [results,Tryz.results109,go_sem,q0,q1]) rfl ⟨a4,c4,rfl, ?_,(hfw.setCell (p:=⟨w.heap.size,0,none⟩) (by simp) _).setCell (p:=⟨w.heap.size,1,none⟩) (by simp) _⟩
 have hfx:Fx (·=w.heap.size) w4 ((w4.setCell ⟨w.heap.size,0,none⟩ (.int .i64 n)).setCell ⟨w.heap.size,1,none⟩ (.slice a4 1 c4)):=Fx.setCell (p:=(·=w.heap.size)) (q:=⟨w.heap.size,1,none⟩) (Fx.setCell (p:=(·=w.heap.size)) (q:=⟨w.heap.size,0,none⟩) (Fx.refl _ w4) (.inl rfl) _) (.inl rfl) _
 have hs3:=hfr3.size
 have hs3:w.heap.size < w3.heap.size:=by simp at hs3; omega
 intro W hW
 exact hm4.out W ((hfx.mono (fun k e=>by have e2:k=w.heap.size:=e; show k < _; omega)).trans (hW.mono (fun k e=>by have e2:k < w.heap.size:=e; show k < _; omega)))
theorem longsOf_nil (w:World):Calls Tryz.prog 86 #[.slice none 0 0] w fun e w'=>e=.returned (.slice none 0 0)∧Fr w w':=by
 go_enter Tryz.func86,Tryz.ntmps86
 go_wp2_with fail
 refine wp_loop_rounds 1 ?_
 rw [rounds_succ]
 go_wp2_with fail
 go_ret
 exact ⟨rfl,Fr.refl _⟩
theorem form_nil (n:Nat) (w:World) (hn:1≤n) (hn2:n≤1000000):Calls Tryz.prog 144 #[.slice none 0 0,.int .i64 n] w fun e w'=>e=.returned (.slice none 0 0)∧Fr w w':=by
 go_enter Tryz.func144,Tryz.ntmps144
 have d1:(0:Int) < (n:Int):=by omega
 go_wp2_with fail
 refine wp_loop_rounds 1 ?_
 rw [rounds_succ]
 go_wp2_with fail
 go_ret
 exact ⟨rfl,Fr.refl _⟩
theorem short_nil (n:Nat) (w:World):Calls Tryz.prog 88 #[.slice none 0 0,.int .i64 n] w fun e w'=>e=.returned (.tuple #[.agg #[.int .i64 n,.slice none 0 0],.int .i64 0])∧Fr w w':=by
 obtain ⟨W,hW⟩:∃ W,W=((w.alloc (.cells #[.int .i64 0,.slice none 0 0] 61)).alloc (.cells #[.int .i64 n,.slice none 0 0] 61)):=⟨_,rfl⟩
 have hf:Fr w W:=by rw [hW]; exact ((Fr.refl _).alloc _).alloc _
 have htwo:Two W w.heap.size n (.slice none 0 0):=by
  rw [hW]
  have hfr:Fr (w.alloc (.cells #[.int .i64 0,.slice none 0 0] 61)) ((w.alloc (.cells #[.int .i64 0,.slice none 0 0] 61)).alloc (.cells #[.int .i64 n,.slice none 0 0] 61)):=(Fr.refl _).alloc _
  have p1:=new2a w (.int .i64 0) (.slice none 0 0) 61
  have p2:=new2b w (.int .i64 0) (.slice none 0 0) 61
  have p3:=new2a (w.alloc (.cells #[.int .i64 0,.slice none 0 0] 61)) (.int .i64 n) (.slice none 0 0) 61
  have p4:=new2b (w.alloc (.cells #[.int .i64 0,.slice none 0 0] 61)) (.int .i64 n) (.slice none 0 0) 61
  rw [World.size_alloc] at p3 p4
  exact ⟨⟨_,hfr.keep p1.1⟩,⟨_,hfr.keep p2.1⟩,hfr.keepf p1.1 p1.2,hfr.keepf p2.1 p2.2,p3.1,p4.1,p3.2,p4.2⟩
 obtain ⟨⟨x0,a0⟩,⟨x1,a1⟩,fa0,fa1,b0,b1,fb0,fb1⟩:=htwo
 go_enter Tryz.func88,Tryz.ntmps88
 go_wp2_with fail
 rw [← hW]
 clear hW
 refine wp_loop_rounds 1 ?_
 rw [rounds_succ]
 have a0h:=hZ a0
 have a1h:=hZ a1
 go_wp2_with fail
 have q0:(W.setCell ⟨w.heap.size,0,none⟩ (.int .i64 n)).cell? ⟨w.heap.size,0,none⟩=some (.int .i64 n):=World.cell?_setCell_same' _ _ _ (by rw [a0h.out]; rfl)
 have e1:(⟨w.heap.size,0,none⟩:Addr)≠⟨w.heap.size,1,none⟩:=fun e=>by injection e with _ e; omega
 have q1:((W.setCell ⟨w.heap.size,0,none⟩ (.int .i64 n)).setCell ⟨w.heap.size,1,none⟩ (.slice none 0 0)).cell? ⟨w.heap.size,1,none⟩=some (.slice none 0 0):=World.cell?_setCell_same' _ _ _ (by rw [World.cell?_setCell_other _ _ _ _ e1,a1h.out]; rfl)
 exact bodyPost_ret (v:=.tuple #[.agg #[.int .i64 n,.slice none 0 0],.int .i64 0]) (by simp [results,Tryz.results88,go_sem,q0,q1]) rfl ⟨rfl,(hf.setCell (p:=⟨w.heap.size,0,none⟩) (by simp) _).setCell (p:=⟨w.heap.size,1,none⟩) (by simp) _⟩
theorem Of_nil (n:Nat) (w:World) (hn:1≤n) (hn2:n≤12):Calls Tryz.prog 109 #[.int .i64 n,.slice none 0 0] w fun e w'=>e=.returned (.tuple #[.agg #[.int .i64 n,.slice none 0 0],.int .i64 0])∧Fr w w':=by
 have hchk:=fun W=>latCheck_ok [] none 0 n W (.inl rfl) (fun r hr=>by simp at hr) (by simp) (fun r hr=>by simp at hr) hn2
 simp only [List.length_nil] at hchk
 have hl:=fun W=>longsOf_nil W
 have hf:=fun W=>form_nil n W hn (by omega)
 have hs:=fun W=>short_nil n W
 replace hchk:=hZ hchk
 replace hl:=hZ hl
 replace hf:=hZ hf
 replace hs:=hZ hs
 have hfA:Fr w (w.alloc (.cells #[.int .i64 0,.slice none 0 0] 61)):=(Fr.refl w).alloc _
 replace hfA:=hZ hfA
 go_enter Tryz.func109,Tryz.ntmps109
 go_wp2_with fail
 refine (hchk.out _).mono ?_
 rintro e w1 ⟨rfl,hf1⟩
 go_wp2_with fail
 refine (hl.out _).mono ?_
 rintro e w2 ⟨rfl,hf2⟩
 go_wp2_with fail
 refine (hf.out _).mono ?_
 rintro e w3 ⟨rfl,hf3⟩
 go_wp2_with fail
 refine (hs.out _).mono ?_
 rintro e w4 ⟨rfl,hf4⟩
 have hfr3:=((hf1.trans hf2).trans hf3).trans hf4
 have hfw:=hZ (hfA.out.trans hfr3)
 have p1:=new2a w (.int .i64 0) (.slice none 0 0) 61
 have p2:=new2b w (.int .i64 0) (.slice none 0 0) 61
 have c1:=hfr3.keep p1.1
 have c2:=hfr3.keep p2.1
 have c3:=hfr3.keepf p1.1 p1.2
 have c5:=hfr3.keepf p2.1 p2.2
 clear p1 p2
 have c1h:=hZ c1
 have c2h:=hZ c2
 go_wp2_with fail
 have e1:(⟨w.heap.size,0,none⟩:Addr)≠⟨w.heap.size,1,none⟩:=fun e=>by injection e with _ e; omega
 have q0:(w4.setCell ⟨w.heap.size,0,none⟩ (.int .i64 n)).cell? ⟨w.heap.size,0,none⟩=some (.int .i64 n):=World.cell?_setCell_same' _ _ _ (by rw [c1h.out]; rfl)
 have q1:((w4.setCell ⟨w.heap.size,0,none⟩ (.int .i64 n)).setCell ⟨w.heap.size,1,none⟩ (.slice none 0 0)).cell? ⟨w.heap.size,1,none⟩=some (.slice none 0 0):=World.cell?_setCell_same' _ _ _ (by rw [World.cell?_setCell_other _ _ _ _ e1,c2h.out]; rfl)
 exact bodyPost_ret (v:=.tuple #[.agg #[.int .i64 n,.slice none 0 0],.int .i64 0]) (by simp [results,Tryz.results109,go_sem,q0,q1]) rfl ⟨rfl,(hfw.out.setCell (p:=⟨w.heap.size,0,none⟩) (by simp) _).setCell (p:=⟨w.heap.size,1,none⟩) (by simp) _⟩
theorem less_any (lb lo lc ob oo oc n m:Nat) (q:Int) (xs ys zs:List Int) (w:World) (hG:G w) (hx:Own w lb lo xs) (hy:Own w ob oo ys) (hne:lb≠ob) (hl:xs.length≤1000000000)
 (hn:n=xs.length) (hm:m=ys.length) (hnm:ys.length=xs.length) (hs:takeSW q xs ys=some zs) :
 Calls Tryz.prog 116 #[.slice (some ⟨lb,lo,none⟩) n lc,.string (tx q),.slice (some ⟨ob,oo,none⟩) m oc] w fun e w'=>e=.returned (.tuple #[])∧Fx (·=lb) w w'∧Own w' lb lo zs:=by
 have hb:=tx_beq0 q
 by_cases hq0:q=0
 ·rw [decide_eq_true hq0] at hb
  unfold takeSW at hs
  rw [if_pos hq0] at hs
  injection hs with hs; subst hs
  clear hq0
  subst hn
  go_enter Tryz.func116,Tryz.ntmps116
  go_wp2_with fail
  exact bodyPost_ret (results_none rfl _ _ _) rfl ⟨rfl,Fx.refl _ _,hx⟩
 ·rw [decide_eq_false hq0] at hb
  unfold takeSW at hs
  rw [if_neg hq0] at hs
  obtain ⟨hzl,hz⟩:=takeLW_spec q xs ys zs hs
  have hzl:=hZ hzl
  have hz:=hZ hz
  clear hs hq0
  rw [hnm] at hm
  subst hm
  rename_i hzl0 hz0
  clear hzl0 hz0
  subst hn
  go_enter Tryz.func116,Tryz.ntmps116
  go_wp2_with fail
  go_loopw [6,7,12] (fun _ _ s12 wr=>∃ k:Nat,s12=.int .i64 k∧k≤xs.length∧Fx (·=lb) w wr∧Own wr lb lo (zs.take k ++ xs.drop k)) (fun _ _ s12 _=>xs.length - (RowKit.intOf s12).toNat)
  case atStart=>exact ⟨0,rfl,Nat.zero_le _,Fx.refl _ _,by simpa using hx⟩
  case round=>
   obtain ⟨k,rfl,hk,hf,ho⟩:=hrel
   by_cases hlt:k < xs.length
   ·have hxk:∃ x,xs[k]?=some x:=⟨xs[k],List.getElem?_eq_getElem hlt⟩
    obtain ⟨x,hxk⟩:=hxk
    obtain ⟨y,hyk,hok,hzk⟩:=hz.out k x hxk
    obtain ⟨tq,ty,sx⟩:=okW_wd hok
    have hGr:=hG.fx hf (fun j e=>by rw [e]; exact hx.1)
    have hoc:=ho.2.2 k x (by rw [mid_get zs xs k hzl.out hlt]; exact hxk)
    have hkl:k < ys.length:=(List.getElem?_eq_some_iff.1 hyk).1
    obtain ⟨hoc,hof⟩:=hoc
    obtain ⟨hyc,_⟩:=(hy.fx hf (fun e=>hne e.symm)).2.2 k y hyk
    have hlb:lb < wr.heap.size:=ho.2.1
    have hob:ob < wr.heap.size:=(hy.fx hf (fun e=>hne e.symm)).2.1
    have hxk:=hZ hxk
    have hyk:=hZ hyk
    have hzk:=hZ hzk
    have hset:=hZ (mid_set zs xs k hzl.out hlt _ hzk.out)
    have ho2:=hZ ho
    rename_i hxk0 hyk0 hzk0 
    clear hxk0 hyk0 hzk0 ho hok
    have k0:(0:Int)≤(k:Int):=Int.natCast_nonneg _
    have k1:(k:Int) < (xs.length:Int):=by omega
    have k2:(k:Int) < (ys.length:Int):=by omega
    go_wp2_with fail
    go_region_with (first | (go_at_call 96; refine (MulWd q y tq ty _ (hGr.fr ?_)).mono ?_; (exact fr9); rintro e w1 ⟨rfl,hf1⟩; have c1:=hf1.keep (p:=⟨lb,lo+k,none⟩) hoc; have c2:=hf1.keep (p:=⟨ob,oo+k,none⟩) hyc; have c3:=hf1.keepf (p:=⟨lb,lo+k,none⟩) hoc hof) | (go_at_call 171; refine (SubWd x q y sx tq ty _ (hGr.fr ?_)).mono ?_; (exact fr9); rintro e w2 ⟨rfl,hf2⟩; have d1:=hf2.keep c1; have d3:=hf2.keepf c1 c3))
    all_goals
     have hfr:Fr wr w2:=by exact fr9
     have hO:=(ho2.out.fr hfr).set (k:=k) (by simp; have:=hzl.out; omega) (x - q * y)
     rw [hset.out] at hO
     have hF:=(hf.fr hfr).setCell (q:=⟨lb,lo+k,none⟩) (.inl rfl) (sv (x - q * y))
     go_wp2_with fail
     go_roundw
     case rel=>exact ⟨k+1,by go_num,by omega,hF,hO⟩
     case measure=>simp [RowKit.intOf]; omega
   ·go_wp2_with fail
    go_end0
    refine ⟨rfl,hf, ?_⟩
    have:k=xs.length:=by omega
    subst this
    rw [List.drop_length,List.append_nil,List.take_of_length_le (by have:=hzl.out; omega)] at ho
    exact ho
theorem negate_any (lb lo lc:Nat) (xs:List Int) (w:World) (_hG:G w) (hx:Own w lb lo xs) (_hl:xs.length≤1000000000) (hs:∀ x ∈ xs,(tx x).size≤1000000000) :
 Calls Tryz.prog 210 #[.slice (some ⟨lb,lo,none⟩) xs.length lc] w fun e w'=>e=.returned (.tuple #[])∧Fx (·=lb) w w'∧Own w' lb lo (xs.map (fun x=>-x)):=by
 have hzl:=hZ (show (xs.map (fun x=>-x)).length=xs.length by simp)
 have hz:∀ (k:Nat) (x:Int),xs[k]?=some x→(xs.map (fun x=>-x))[k]?=some (-x):=fun k x h=>by rw [List.getElem?_map,h]; rfl
 generalize xs.map (fun x=>-x)=zs at *
 have hz:=hZ hz
 rename_i hz0
 clear hz0
 go_enter Tryz.func210,Tryz.ntmps210
 go_wp2_with fail
 go_loopw [2,3,6] (fun _ _ s6 wr=>∃ k:Nat,s6=.int .i64 k∧k≤xs.length∧Fx (·=lb) w wr∧Own wr lb lo (zs.take k ++ xs.drop k)) (fun _ _ s6 _=>xs.length - (RowKit.intOf s6).toNat)
 case atStart=>exact ⟨0,rfl,Nat.zero_le _,Fx.refl _ _,by simpa using hx⟩
 case round=>
  obtain ⟨k,rfl,hk,hf,ho⟩:=hrel
  by_cases hlt:k < xs.length
  ·obtain ⟨x,hxk⟩:∃ x,xs[k]?=some x:=⟨xs[k],List.getElem?_eq_getElem hlt⟩
   have hzk:=hz.out k x hxk
   have hxs:=hs x (List.mem_of_getElem? hxk)
   obtain ⟨hoc,hof⟩:=ho.2.2 k x (by rw [mid_get zs xs k hzl.out hlt]; exact hxk)
   have hset:=hZ (mid_set zs xs k hzl.out hlt _ hzk)
   have hlb:lb < wr.heap.size:=ho.2.1
   have ho2:=hZ ho
   clear hxk hzk ho
   go_wp2_with fail
   refine (Neg_any x _ hxs).mono ?_
   rintro e w2 ⟨rfl,hf2⟩
   have d1:=hf2.keep (p:=⟨lb,lo+k,none⟩) hoc
   have d3:=hf2.keepf (p:=⟨lb,lo+k,none⟩) hoc hof
   have hO:=(ho2.out.fr hf2).set (k:=k) (by simp; have:=hzl.out; omega) (-x)
   rw [hset.out] at hO
   have hF:=(hf.fr hf2).setCell (q:=⟨lb,lo+k,none⟩) (.inl rfl) (sv (-x))
   go_wp2_with fail
   go_roundw
   case rel=>exact ⟨k+1,by go_num,by omega,hF,hO⟩
   case measure=>simp [RowKit.intOf]; omega
  ·go_wp2_with fail
   go_end0
   refine ⟨rfl,hf, ?_⟩
   have:k=xs.length:=by omega
   subst this
   rw [List.drop_length,List.append_nil,List.take_of_length_le (by have:=hzl.out; omega)] at ho
   exact ho
end Go.Proofs.YtmalpgbbddkdcaaGreatDoor
