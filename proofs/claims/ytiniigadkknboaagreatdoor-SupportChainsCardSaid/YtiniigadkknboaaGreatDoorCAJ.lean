/- Contracts and laws: CAJ. -/
import Derived.Test.YtiniigadkknboaaGreatDoorCAD
import Derived.Test.YtiniigadkknboaaGreatDoorCAI
import Derived.Deep.RegionHeld3
import Derived.Deep.Cut
import Derived.Test.YtiniigadkknboaaGreatDoorCAC
import Derived.IntWalk

set_option maxRecDepth 100000
set_option maxHeartbeats 2000000
namespace Go.Proofs.YtiniigadkknboaaGreatDoor
open Go.RowKit Go.Lib
attribute [local go_sem ↓] Go.wp_at_zero Go.wp_at_succ
theorem trimL_pre (l:List Int):∀ n,n≤l.length→trimL (l.take n)=l.take (trimL (l.take n)).length∧(trimL (l.take n)).length≤n
 | 0,_=>⟨rfl,Nat.le_refl _⟩
 | n+1,h=>by
   obtain ⟨d,hd⟩:∃ d,l[n]?=some d:=⟨_,List.getElem?_eq_getElem (by omega)⟩
   by_cases h0:d=0
   ·rw [trimL_take hd h0]
    obtain ⟨h1,h2⟩:=trimL_pre l n (by omega)
    exact ⟨h1,by omega⟩
   ·rw [trimL_stop hd h0,List.length_take,Nat.min_eq_left h]
    exact ⟨rfl,Nat.le_refl _⟩
theorem trimL_len (l:List Int):trimL l=l.take (trimL l).length∧(trimL l).length≤l.length:=by
 have h:=trimL_pre l l.length (Nat.le_refl _)
 rw [List.take_length] at h
 exact h
theorem trim_el {w:World} {a:Option Addr} {l:List Int} (h:El w iv a l):El w iv a (trimL l):=by
 rw [(trimL_len l).1]; exact h.take _
theorem R2trim (l:List Int) (a:Option Addr) (cap:Nat) (w:World) (hel:El w iv a l) (hl:l.length≤4000000) (hc:l.length≤cap) :
 Calls Tryz.prog 159 #[.slice a l.length cap] w fun e w'=>e=.returned (.slice a (trimL l).length cap)∧Fr w w':=by
 obtain ⟨n,hn⟩:∃ n,n=l.length:=⟨_,rfl⟩
 rw [← hn] at hl hc
 rw [← hn]
 replace hn:=hZ hn
 go_enter Tryz.func159,Tryz.ntmps159
 go_wp2_with fail
 go_loopg [3] n (fun k s3 wr=>s3=.int .i64 (k:Int)∧k≤n∧Fr w wr∧Hid (trimL (l.take k)=trimL l))
 case atStart=>exact ⟨rfl,Nat.le_refl _,Fr.refl _,by show _=_; rw [List.take_of_length_le (by rw [hn.out]; exact Nat.le_refl _)]⟩
 case round=>
  obtain ⟨rfl,hle,hf,ht⟩:=hrel
  by_cases hk0:gk=0
  ·subst hk0
   have hlen:Hid ((trimL l).length=0):=by show _=_; rw [← ht.out]; rfl
   go_wp2_with fail
   go_ret
   exact ⟨by rw [hlen.out]; rfl,hf⟩
  ·obtain ⟨k,rfl⟩:∃ k,gk=k+1:=⟨gk - 1,by omega⟩
   obtain ⟨b,o,d,rfl,hb,hk,hcell⟩:=(hel.fr hf).at (i:=k) (by have:=hn.out; omega)
   have z0:(0:Int)≤(k:Int):=by omega
   have z1:(k:Int) < (n:Int):=by omega
   have z2:decide ((0:Int) < (k:Int)+1)=true:=decide_eq_true (by omega)
   have z3:decide ((0:Int) < ((k+1:Nat):Int))=true:=decide_eq_true (by omega)
   have hw1:IntKind.i64.wrap (((k+1:Nat):Int) - 1)=(k:Int):=by rw [show ((k+1:Nat):Int) - 1=(k:Int) by omega]; exact IntWalk.i64_in _ (by omega)
   by_cases hd:d=0
   ·have e0:(d == 0)=true:=by rw [hd]; rfl
    have ht2:Hid (trimL (l.take k)=trimL l):=(trimL_take hk hd).symm.trans ht.out
    replace hk:=hZ hk
    go_wp2_with fail
    go_roundg k
    case measure=>omega
    case rel=>exact ⟨by go_num,by omega,hf,ht2⟩
   ·have e0:(d == 0)=false:=beq_false_of_ne hd
    have hlen:Hid ((trimL l).length=k+1):=by show _=_; rw [← ht.out,trimL_stop hk hd,List.length_take]; have:=hn.out; omega
    have z4:((k:Int)+1).toNat=k+1:=by omega
    have z5:(k:Int)+1≤(cap:Int):=by omega
    have z6:((k+1:Nat):Int)≤(cap:Int):=by omega
    replace hk:=hZ hk
    go_wp2_with fail
    go_ret
    exact ⟨by rw [hlen.out]; rfl,hf⟩
theorem R2order (u v:Nat) (a b:Option Addr) (ca cb:Nat) (w:World) (hx:El w iv a (digs u)) (hy:El w iv b (digs v)) (hl:(digs u).length≤1000000) (hm:(digs v).length≤1000000) :
 Calls Tryz.prog 124 #[.slice a (digs u).length ca,.slice b (digs v).length cb] w fun e w'=>e=.returned (.int .i64 (sgnC u v))∧Fr w w':=by
 by_cases hlen:(digs u).length=(digs v).length
 ·have hval:∀ k x y,(digs u)[k]?=some x→(digs v)[k]?=some y→x < y→(digs u).drop (k+1)=(digs v).drop (k+1)→sgnC u v=-1:=fun k x y hk hk2 hxy hd=>by
   have:=val_drop k (digs u) (digs v) (digs_dg u) (digs_dg v) hlen (fun x' y' e1 e2=>by rw [hk] at e1; rw [hk2] at e2; injection e1 with e1; injection e2 with e2; subst e1; subst e2; exact hxy) (List.getElem?_eq_some_iff.1 hk).1 hd
   rw [val_digs,val_digs] at this
   exact sgnC_lt (by omega)
  have hval2:∀ k x y,(digs u)[k]?=some x→(digs v)[k]?=some y→y < x→(digs u).drop (k+1)=(digs v).drop (k+1)→sgnC u v=1:=fun k x y hk hk2 hxy hd=>by
   have:=val_drop k (digs v) (digs u) (digs_dg v) (digs_dg u) hlen.symm (fun x' y' e1 e2=>by rw [hk2] at e1; rw [hk] at e2; injection e1 with e1; injection e2 with e2; subst e1; subst e2; exact hxy) (List.getElem?_eq_some_iff.1 hk2).1 hd.symm
   rw [val_digs,val_digs] at this
   exact sgnC_gt (by omega)
  have heq0:(digs u).drop 0=(digs v).drop 0→sgnC u v=0:=fun h=>by
   rw [List.drop_zero,List.drop_zero] at h
   rw [digs_inj h]; exact sgnC_eq v
  generalize sgnC u v=r at *
  generalize digs u=xs at *
  generalize digs v=ys at *
  have hne:((xs.length:Int) != ys.length)=false:=by rw [hlen]; simp
  obtain ⟨n,hn⟩:∃ n,n=xs.length:=⟨_,rfl⟩
  obtain ⟨m,hmm⟩:∃ m,m=ys.length:=⟨_,rfl⟩
  rw [← hn,← hmm] at hne
  rw [← hn] at hl
  rw [← hmm] at hm
  rw [← hn,← hmm]
  have hnm:(n:Int)≤m:=by omega
  replace hn:=hZ hn
  replace hmm:=hZ hmm
  replace hlen:=hZ hlen
  replace hval:=hZ hval
  replace hval2:=hZ hval2
  replace heq0:=hZ heq0
  replace hx:=hZ hx
  replace hy:=hZ hy
  go_enter Tryz.func124,Tryz.ntmps124
  go_wp2_with fail
  go_loopg [5] n (fun gk s5 wr=>∃ i:Int,s5=.int .i64 i∧i+1=gk∧gk≤n∧Fr w wr∧Hid (xs.drop gk=ys.drop gk))
  case atStart=>exact ⟨_,rfl,by omega,Nat.le_refl _,Fr.refl _,by show _=_; rw [List.drop_eq_nil_of_le (by have:=hn.out; omega),List.drop_eq_nil_of_le (by have:=hn.out; have:=hlen.out; omega)]⟩
  case round=>
   obtain ⟨i,rfl,hik,hgn,hf,hb⟩:=hrel
   by_cases h0:gk=0
   ·subst h0
    obtain rfl:i=-1:=by omega
    have hfin:=hZ (heq0.out hb.out)
    go_wp2_with fail
    go_ret
    exact ⟨by rw [hfin.out]; rfl,hf⟩
   ·obtain ⟨k,rfl⟩:∃ k,gk=k+1:=⟨gk - 1,by omega⟩
    obtain rfl:i=(k:Int):=by omega
    obtain ⟨xb,xo,x,rfl,-,hxk,hxc⟩:=(hx.out.fr hf).at (i:=k) (by rw [← hn.out]; omega)
    obtain ⟨yb,yo,y,rfl,-,hyk,hyc⟩:=(hy.out.fr hf).at (i:=k) (by rw [← hlen.out,← hn.out]; omega)
    have z0:(0:Int)≤(k:Int):=by omega
    have z1:(k:Int) < (n:Int):=by omega
    have z2:(k:Int) < (m:Int):=by omega
    by_cases h1:x < y
    ·have d1:decide (x < y)=true:=decide_eq_true h1
     have hfin:=hZ (hval.out k x y hxk hyk h1 hb.out)
     go_wp2_with fail
     go_quiet (fail)
     go_wp2_with fail
     go_ret
     exact ⟨by rw [hfin.out]; rfl,hf.drewN _⟩
    ·have d1:decide (x < y)=false:=decide_eq_false h1
     by_cases h2:y < x
     ·have d2:decide (y < x)=true:=decide_eq_true h2
      have hfin:=hZ (hval2.out k x y hxk hyk h2 hb.out)
      go_wp2_with fail
      go_quiet (fail)
      go_wp2_with fail
      go_quiet (fail)
      go_wp2_with fail
      go_ret
      exact ⟨by rw [hfin.out]; rfl,(hf.drewN _).drewN _⟩
     ·have d2:decide (y < x)=false:=decide_eq_false h2
      obtain rfl:x=y:=by omega
      have hb2:=hZ (show xs.drop k=ys.drop k by rw [drop_cons hxk,drop_cons hyk,hb.out])
      go_wp2_with fail
      go_quiet (fail)
      go_wp2_with fail
      go_quiet (fail)
      go_wp2_with fail
      go_roundg k
      case measure=>omega
      case rel=>exact ⟨_,rfl,by omega,by omega,hf.drewN _,hb2⟩
 ·have hne:(((digs u).length:Int) != (digs v).length)=true:=by rw [bne_iff_ne]; omega
  by_cases h1:(digs u).length < (digs v).length
  ·have d1:decide ((digs u).length < (digs v).length)=true:=decide_eq_true h1
   have hfin:=hZ (sgnC_lt (len_mono u v h1))
   clear hlen
   go_enter Tryz.func124,Tryz.ntmps124
   go_wp2_with fail
   go_ret
   exact ⟨by rw [hfin.out]; rfl,Fr.refl _⟩
  ·have d1:decide ((digs u).length < (digs v).length)=false:=decide_eq_false h1
   have hfin:=hZ (sgnC_gt (len_mono v u (by omega)))
   clear hlen
   go_enter Tryz.func124,Tryz.ntmps124
   go_wp2_with fail
   go_ret
   exact ⟨by rw [hfin.out]; rfl,Fr.refl _⟩
theorem R2plus (xs ys:List Int) (a b:Option Addr) (ca cb:Nat) (w:World) (hx:El w iv a xs) (hy:El w iv b ys) (dx:Dg xs) (dy:Dg ys) (hl:xs.length≤1000000) (hm:ys.length≤1000000) :
 Calls Tryz.prog 123 #[.slice a xs.length ca,.slice b ys.length cb] w fun e w'=>∃ a' c',e=.returned (.slice a' (plusL xs ys 0).length c')∧El w' iv a' (plusL xs ys 0)∧(plusL xs ys 0).length≤c'∧Fr w w'∧∀ ad,a'=some ad→w.heap.size≤ad.block:=by
 obtain ⟨n,hn⟩:∃ n,n=xs.length:=⟨_,rfl⟩
 obtain ⟨m,hmm⟩:∃ m,m=ys.length:=⟨_,rfl⟩
 rw [← hn] at hl
 rw [← hmm] at hm
 rw [← hn,← hmm]
 obtain ⟨M,hM1,hM2,hM3⟩:∃ M,n≤M∧m≤M∧M≤1000000:=⟨max n m,by omega,by omega,by omega⟩
 replace hn:=hZ hn
 replace hmm:=hZ hmm
 replace hx:=hZ hx
 replace hy:=hZ hy
 replace dx:=hZ dx
 replace dy:=hZ dy
 obtain ⟨i0,hi,hz0,hz1,hz2⟩:=info_parts infoInt
 go_enter Tryz.func123,Tryz.ntmps123
 go_wp2_with fail
 go_loopg [5,6,7] (M+1) (fun gk s5 s6 s7 wr=>∃ (j:Nat) (c:Int) (out:List Int),s7=.int .i64 j∧s6=.int .i64 c∧(0≤c∧c≤1)∧j+gk=M+1∧(gk=0→c=0)∧Hid (out.length=j)∧Fr w wr∧Hid (wr.ownsRow w.heap.size 3 1 s5 j (out.map iv))∧Hid (plusL xs ys 0=out ++ plusL (xs.drop j) (ys.drop j) c))
 case atStart=>exact ⟨0,0,[],rfl,rfl,by omega,by omega,fun h=>by omega,rfl,Fr.refl _,World.ownsRow_nil _ _ _ _,rfl⟩
 case round=>
  obtain ⟨j,c,out,rfl,rfl,hc,hjk,hg0,hol,hf,hown,hb⟩:=hrel
  obtain ⟨hc0,hc1⟩:=hc
  by_cases h1:j < n
  ·have d1:decide (j < n)=true:=decide_eq_true h1
   obtain ⟨xb,xo,x,rfl,-,hxj,hxc⟩:=(hx.out.fr hf).at (i:=j) (by rw [← hn.out]; exact h1)
   obtain ⟨x0,x1⟩:=dx.out x (List.mem_of_getElem? hxj)
   by_cases h2:j < m
   ·have d2:decide (j < m)=true:=decide_eq_true h2
    obtain ⟨yb,yo,y,rfl,-,hyj,hyc⟩:=(hy.out.fr hf).at (i:=j) (by rw [← hmm.out]; exact h2)
    obtain ⟨y0,y1⟩:=dy.out y (List.mem_of_getElem? hyj)
    have z0:(0:Int)≤(j:Int):=by omega
    have z1:(j:Int) < (n:Int):=by omega
    have z2:(j:Int) < (m:Int):=by omega
    have hs:=hZ (show plusL xs ys 0=(out ++ [(c+x+y) % 1000000000]) ++ plusL (xs.drop (j+1)) (ys.drop (j+1)) ((c+x+y) / 1000000000) by
     rw [hb.out,drop_cons hxj,drop_cons hyj,plusL_cc,List.append_assoc]; rfl)
    go_wp2_with (at_builtin; refine wpList_append_lies _ rfl _ _ 23 (by rfl) _ 3 _ _ 1 8 Tryz.underlying23 hi hz0 hz1 hz2 rfl (by decide) _ j _ (by rfl) (World.ownsRow.alloc hown.out _) ⟨wr.heap.size,0,none⟩ 1 1 [iv ((c+x+y) % 1000000000)] (by rfl) rfl (cell_one_newN _ _ _ _ (by simp)) (by simp [Value.oneCell']) (by decide) (by unfold maxLen; omega) (by omega) (by have:=hf.size; simp; omega) (wr.heap.size+1) (by simp) ?_; intro gA capA wA hownA hgrowA hatA hltA)
    go_wp2_with fail
    go_roundg (gk - 1)
    case measure=>omega
    case rel=>exact ⟨j+1,(c+x+y) / 1000000000,out ++ [(c+x+y) % 1000000000],by go_num,rfl,by omega,by omega,fun h=>by omega,by show _=_; rw [List.length_append,hol.out]; rfl,(hf.alloc _).grown hgrowA (fun k e=>(hown.out.lt k e).1),by show _; rw [List.map_append]; exact hownA,hs⟩
   ·have d2:decide (j < m)=false:=decide_eq_false h2
    have hs:=hZ (show plusL xs ys 0=(out ++ [(c+x) % 1000000000]) ++ plusL (xs.drop (j+1)) (ys.drop (j+1)) ((c+x) / 1000000000) by
     rw [hb.out,drop_cons hxj,show ys.drop j=[] from List.drop_eq_nil_of_le (by have:=hmm.out; omega),show ys.drop (j+1)=[] from List.drop_eq_nil_of_le (by have:=hmm.out; omega),plusL_cn,List.append_assoc]; rfl)
    have z0:(0:Int)≤(j:Int):=by omega
    have z1:(j:Int) < (n:Int):=by omega
    go_wp2_with (at_builtin; refine wpList_append_lies _ rfl _ _ 23 (by rfl) _ 3 _ _ 1 8 Tryz.underlying23 hi hz0 hz1 hz2 rfl (by decide) _ j _ (by rfl) (World.ownsRow.alloc hown.out _) ⟨wr.heap.size,0,none⟩ 1 1 [iv ((c+x) % 1000000000)] (by rfl) rfl (cell_one_newN _ _ _ _ (by simp)) (by simp [Value.oneCell']) (by decide) (by unfold maxLen; omega) (by omega) (by have:=hf.size; simp; omega) (wr.heap.size+1) (by simp) ?_; intro gA capA wA hownA hgrowA hatA hltA)
    go_wp2_with fail
    go_roundg (gk - 1)
    case measure=>omega
    case rel=>exact ⟨j+1,(c+x) / 1000000000,out ++ [(c+x) % 1000000000],by go_num,rfl,by omega,by omega,fun h=>by omega,by show _=_; rw [List.length_append,hol.out]; rfl,(hf.alloc _).grown hgrowA (fun k e=>(hown.out.lt k e).1),by show _; rw [List.map_append]; exact hownA,hs⟩
  ·have d1:decide (j < n)=false:=decide_eq_false h1
   have hdx:xs.drop j=[]:=List.drop_eq_nil_of_le (by have:=hn.out; omega)
   have hdx1:xs.drop (j+1)=[]:=List.drop_eq_nil_of_le (by have:=hn.out; omega)
   by_cases h2:j < m
   ·have d2:decide (j < m)=true:=decide_eq_true h2
    obtain ⟨yb,yo,y,rfl,-,hyj,hyc⟩:=(hy.out.fr hf).at (i:=j) (by rw [← hmm.out]; exact h2)
    obtain ⟨y0,y1⟩:=dy.out y (List.mem_of_getElem? hyj)
    have z0:(0:Int)≤(j:Int):=by omega
    have z2:(j:Int) < (m:Int):=by omega
    have hs:=hZ (show plusL xs ys 0=(out ++ [(c+y) % 1000000000]) ++ plusL (xs.drop (j+1)) (ys.drop (j+1)) ((c+y) / 1000000000) by
     rw [hb.out,hdx,hdx1,drop_cons hyj,plusL_nc,List.append_assoc]; rfl)
    clear hdx hdx1
    go_wp2_with (at_builtin; refine wpList_append_lies _ rfl _ _ 23 (by rfl) _ 3 _ _ 1 8 Tryz.underlying23 hi hz0 hz1 hz2 rfl (by decide) _ j _ (by rfl) (World.ownsRow.alloc hown.out _) ⟨wr.heap.size,0,none⟩ 1 1 [iv ((c+y) % 1000000000)] (by rfl) rfl (cell_one_newN _ _ _ _ (by simp)) (by simp [Value.oneCell']) (by decide) (by unfold maxLen; omega) (by omega) (by have:=hf.size; simp; omega) (wr.heap.size+1) (by simp) ?_; intro gA capA wA hownA hgrowA hatA hltA)
    go_wp2_with fail
    go_roundg (gk - 1)
    case measure=>omega
    case rel=>exact ⟨j+1,(c+y) / 1000000000,out ++ [(c+y) % 1000000000],by go_num,rfl,by omega,by omega,fun h=>by omega,by show _=_; rw [List.length_append,hol.out]; rfl,(hf.alloc _).grown hgrowA (fun k e=>(hown.out.lt k e).1),by show _; rw [List.map_append]; exact hownA,hs⟩
   ·have d2:decide (j < m)=false:=decide_eq_false h2
    have hdy:ys.drop j=[]:=List.drop_eq_nil_of_le (by have:=hmm.out; omega)
    have hdy1:ys.drop (j+1)=[]:=List.drop_eq_nil_of_le (by have:=hmm.out; omega)
    by_cases h3:c=0
    ·subst h3
     have hfin:plusL xs ys 0=out:=by rw [hb.out,hdx,hdy,plusL_nn,if_neg (by omega),List.append_nil]
     have hown9:=hown.out
     rw [← hol.out] at hown9
     obtain ⟨a9,c9,rfl,he9,hc9,hb9⟩:=own_read hown9
     replace hb9:=hZ hb9
     rw [← hfin] at he9 hc9
     have hr9:=hZ (show plusL xs ys 0=out from hfin)
     have he9:=hZ he9
     clear hown9 hfin hdx hdx1 hdy hdy1
     go_wp2_with fail
     go_ret
     exact ⟨a9,c9,by rw [hr9.out]; rfl,he9.out,hc9,hf,hb9.out⟩
    ·obtain rfl:c=1:=by omega
     have hs:=hZ (show plusL xs ys 0=(out ++ [(1:Int)]) ++ plusL (xs.drop (j+1)) (ys.drop (j+1)) 0 by
      rw [hb.out,hdx,hdx1,hdy,hdy1,plusL_nn,plusL_nn,if_pos (by omega),if_neg (by omega),List.append_nil])
     clear hdx hdx1 hdy hdy1
     go_wp2_with (at_builtin; refine wpList_append_lies _ rfl _ _ 23 (by rfl) _ 3 _ _ 1 8 Tryz.underlying23 hi hz0 hz1 hz2 rfl (by decide) _ j _ (by rfl) (World.ownsRow.alloc hown.out _) ⟨wr.heap.size,0,none⟩ 1 1 [iv 1] (by rfl) rfl (cell_one_newN _ _ _ _ (by simp)) (by simp [Value.oneCell']) (by decide) (by unfold maxLen; omega) (by omega) (by have:=hf.size; simp; omega) (wr.heap.size+1) (by simp) ?_; intro gA capA wA hownA hgrowA hatA hltA)
     go_wp2_with fail
     go_roundg (gk - 1)
     case measure=>omega
     case rel=>exact ⟨j+1,0,out ++ [1],by go_num,rfl,by omega,by omega,fun _=>rfl,by show _=_; rw [List.length_append,hol.out]; rfl,(hf.alloc _).grown hgrowA (fun k e=>(hown.out.lt k e).1),by show _; rw [List.map_append]; exact hownA,hs⟩
theorem R2minus (xs ys:List Int) (a b:Option Addr) (ca cb:Nat) (w:World) (hx:El w iv a xs) (hy:El w iv b ys) (dx:Dg xs) (dy:Dg ys) (hl:xs.length≤1000000) (hm:ys.length≤1000000) :
 Calls Tryz.prog 125 #[.slice a xs.length ca,.slice b ys.length cb] w fun e w'=>∃ a' c',e=.returned (.slice a' (trimL (minusL xs ys 0)).length c')∧El w' iv a' (trimL (minusL xs ys 0))∧(trimL (minusL xs ys 0)).length≤c'∧Fr w w'∧(0 < xs.length→∃ ad,a'=some ad):=by
 obtain ⟨n,hn⟩:∃ n,n=xs.length:=⟨_,rfl⟩
 obtain ⟨m,hmm⟩:∃ m,m=ys.length:=⟨_,rfl⟩
 rw [← hn] at hl
 rw [← hmm] at hm
 rw [← hn,← hmm]
 replace hn:=hZ hn
 replace hmm:=hZ hmm
 replace hx:=hZ hx
 replace hy:=hZ hy
 replace dx:=hZ dx
 replace dy:=hZ dy
 obtain ⟨i0,hi,hz0,hz1,hz2⟩:=info_parts infoInt
 go_enter Tryz.func125,Tryz.ntmps125
 go_wp2_with fail
 go_loopg [5,6,7] n (fun gk s5 s6 s7 wr=>∃ (j:Nat) (c:Int) (out:List Int),s7=.int .i64 j∧s6=.int .i64 c∧(0≤c∧c≤1)∧j+gk=n∧Hid (out.length=j)∧Fr w wr∧Hid (wr.ownsRow w.heap.size 3 1 s5 j (out.map iv))∧Hid (minusL xs ys 0=out ++ minusL (xs.drop j) (ys.drop j) c))
 case atStart=>exact ⟨0,0,[],rfl,rfl,by omega,by omega,rfl,Fr.refl _,World.ownsRow_nil _ _ _ _,rfl⟩
 case round=>
  obtain ⟨j,c,out,rfl,rfl,hc,hjk,hol,hf,hown,hb⟩:=hrel
  obtain ⟨hc0,hc1⟩:=hc
  by_cases h1:j < n
  ·have d1:decide (j < n)=true:=decide_eq_true h1
   obtain ⟨xb,xo,x,rfl,-,hxj,hxc⟩:=(hx.out.fr hf).at (i:=j) (by rw [← hn.out]; exact h1)
   obtain ⟨x0,x1⟩:=dx.out x (List.mem_of_getElem? hxj)
   have z0:(0:Int)≤(j:Int):=by omega
   have z1:(j:Int) < (n:Int):=by omega
   by_cases h2:j < m
   ·have d2:decide (j < m)=true:=decide_eq_true h2
    obtain ⟨yb,yo,y,rfl,-,hyj,hyc⟩:=(hy.out.fr hf).at (i:=j) (by rw [← hmm.out]; exact h2)
    obtain ⟨y0,y1⟩:=dy.out y (List.mem_of_getElem? hyj)
    have z2:(j:Int) < (m:Int):=by omega
    have hs:=hZ (show minusL xs ys 0=(out ++ [subD (x - c - y)]) ++ minusL (xs.drop (j+1)) (ys.drop (j+1)) (subB (x - c - y)) by
     rw [hb.out,drop_cons hxj,drop_cons hyj,minusL_cc,List.append_assoc]; rfl)
    by_cases h3:x - c - y < 0
    ·have d3:decide (x - c - y < 0)=true:=decide_eq_true h3
     rw [show subD (x - c - y)=x - c - y+1000000000 by unfold subD; rw [if_pos h3],show subB (x - c - y)=1 by unfold subB; rw [if_pos h3]] at hs
     go_wp2_with (at_builtin; refine wpList_append_lies _ rfl _ _ 23 (by rfl) _ 3 _ _ 1 8 Tryz.underlying23 hi hz0 hz1 hz2 rfl (by decide) _ j _ (by rfl) (World.ownsRow.alloc hown.out _) ⟨wr.heap.size,0,none⟩ 1 1 [iv (x - c - y+1000000000)] (by rfl) rfl (cell_one_newN _ _ _ _ (by simp)) (by simp [Value.oneCell']) (by decide) (by unfold maxLen; omega) (by omega) (by have:=hf.size; simp; omega) (wr.heap.size+1) (by simp) ?_; intro gA capA wA hownA hgrowA hatA hltA)
     go_wp2_with fail
     go_roundg (gk - 1)
     case measure=>omega
     case rel=>exact ⟨j+1,1,out ++ [x - c - y+1000000000],by go_num,rfl,by omega,by omega,by show _=_; rw [List.length_append,hol.out]; rfl,(hf.alloc _).grown hgrowA (fun k e=>(hown.out.lt k e).1),by show _; rw [List.map_append]; exact hownA,hs⟩
    ·have d3:decide (x - c - y < 0)=false:=decide_eq_false h3
     rw [show subD (x - c - y)=x - c - y by unfold subD; rw [if_neg h3],show subB (x - c - y)=0 by unfold subB; rw [if_neg h3]] at hs
     go_wp2_with (at_builtin; refine wpList_append_lies _ rfl _ _ 23 (by rfl) _ 3 _ _ 1 8 Tryz.underlying23 hi hz0 hz1 hz2 rfl (by decide) _ j _ (by rfl) (World.ownsRow.alloc hown.out _) ⟨wr.heap.size,0,none⟩ 1 1 [iv (x - c - y)] (by rfl) rfl (cell_one_newN _ _ _ _ (by simp)) (by simp [Value.oneCell']) (by decide) (by unfold maxLen; omega) (by omega) (by have:=hf.size; simp; omega) (wr.heap.size+1) (by simp) ?_; intro gA capA wA hownA hgrowA hatA hltA)
     go_wp2_with fail
     go_roundg (gk - 1)
     case measure=>omega
     case rel=>exact ⟨j+1,0,out ++ [x - c - y],by go_num,rfl,by omega,by omega,by show _=_; rw [List.length_append,hol.out]; rfl,(hf.alloc _).grown hgrowA (fun k e=>(hown.out.lt k e).1),by show _; rw [List.map_append]; exact hownA,hs⟩
   ·have d2:decide (j < m)=false:=decide_eq_false h2
    have hs:=hZ (show minusL xs ys 0=(out ++ [subD (x - c)]) ++ minusL (xs.drop (j+1)) (ys.drop (j+1)) (subB (x - c)) by
     rw [hb.out,drop_cons hxj,show ys.drop j=[] from List.drop_eq_nil_of_le (by have:=hmm.out; omega),show ys.drop (j+1)=[] from List.drop_eq_nil_of_le (by have:=hmm.out; omega),minusL_cn,List.append_assoc]; rfl)
    by_cases h3:x - c < 0
    ·have d3:decide (x - c < 0)=true:=decide_eq_true h3
     rw [show subD (x - c)=x - c+1000000000 by unfold subD; rw [if_pos h3],show subB (x - c)=1 by unfold subB; rw [if_pos h3]] at hs
     go_wp2_with (at_builtin; refine wpList_append_lies _ rfl _ _ 23 (by rfl) _ 3 _ _ 1 8 Tryz.underlying23 hi hz0 hz1 hz2 rfl (by decide) _ j _ (by rfl) (World.ownsRow.alloc hown.out _) ⟨wr.heap.size,0,none⟩ 1 1 [iv (x - c+1000000000)] (by rfl) rfl (cell_one_newN _ _ _ _ (by simp)) (by simp [Value.oneCell']) (by decide) (by unfold maxLen; omega) (by omega) (by have:=hf.size; simp; omega) (wr.heap.size+1) (by simp) ?_; intro gA capA wA hownA hgrowA hatA hltA)
     go_wp2_with fail
     go_roundg (gk - 1)
     case measure=>omega
     case rel=>exact ⟨j+1,1,out ++ [x - c+1000000000],by go_num,rfl,by omega,by omega,by show _=_; rw [List.length_append,hol.out]; rfl,(hf.alloc _).grown hgrowA (fun k e=>(hown.out.lt k e).1),by show _; rw [List.map_append]; exact hownA,hs⟩
    ·have d3:decide (x - c < 0)=false:=decide_eq_false h3
     rw [show subD (x - c)=x - c by unfold subD; rw [if_neg h3],show subB (x - c)=0 by unfold subB; rw [if_neg h3]] at hs
     go_wp2_with (at_builtin; refine wpList_append_lies _ rfl _ _ 23 (by rfl) _ 3 _ _ 1 8 Tryz.underlying23 hi hz0 hz1 hz2 rfl (by decide) _ j _ (by rfl) (World.ownsRow.alloc hown.out _) ⟨wr.heap.size,0,none⟩ 1 1 [iv (x - c)] (by rfl) rfl (cell_one_newN _ _ _ _ (by simp)) (by simp [Value.oneCell']) (by decide) (by unfold maxLen; omega) (by omega) (by have:=hf.size; simp; omega) (wr.heap.size+1) (by simp) ?_; intro gA capA wA hownA hgrowA hatA hltA)
     go_wp2_with fail
     go_roundg (gk - 1)
     case measure=>omega
     case rel=>exact ⟨j+1,0,out ++ [x - c],by go_num,rfl,by omega,by omega,by show _=_; rw [List.length_append,hol.out]; rfl,(hf.alloc _).grown hgrowA (fun k e=>(hown.out.lt k e).1),by show _; rw [List.map_append]; exact hownA,hs⟩
  ·obtain rfl:j=n:=by omega
   have d1:decide (j < j)=false:=decide_eq_false h1
   have hfin:minusL xs ys 0=out:=by rw [hb.out,show xs.drop j=[] from List.drop_eq_nil_of_le (by have:=hn.out; omega),minusL_n,List.append_nil]
   have hown9:=hown.out
   rw [← hol.out] at hown9
   obtain ⟨a9,c9,rfl,he9,hc9,-⟩:=own_read hown9
   have hsm:Hid (0 < out.length→∃ ad,a9=some ad):=fun h=>by
    obtain ⟨g,c,e,-⟩:=World.ownsRow.form hown9 h
    injection e with e
    exact ⟨_,e⟩
   have hlo:out.length≤1000000:=by rw [hol.out]; omega
   have htr:=hZ (R2trim out a9 c9 wr he9 (by omega) hc9)
   have hr9:=hZ (show minusL xs ys 0=out from hfin)
   have he9:=hZ he9
   clear hown9 hfin hlo
   go_wp2_with fail
   refine htr.out.mono ?_
   rintro e w3 ⟨rfl,hf3⟩
   go_wp2_with fail
   go_ret
   have hle:=(trimL_len out).2
   exact ⟨a9,c9,by rw [hr9.out]; rfl,by rw [hr9.out]; exact (trim_el he9.out).fr hf3,by rw [hr9.out]; omega,hf.trans hf3,fun h=>hsm.out (by rw [hol.out]; exact h)⟩

def rowL (d:Int):List Int→List Int→Int→List Int
 | [],_,_=>[]
 | o :: os,[],c=>if 0 < c then ((c+o) % 1000000000) :: rowL d os [] ((c+o) / 1000000000) else o :: os
 | o :: os,b :: bs,c=>((c+o+d * b) % 1000000000) :: rowL d os bs ((c+o+d * b) / 1000000000)
theorem rowL_cc (d o b c:Int) (os bs:List Int):rowL d (o :: os) (b :: bs) c=((c+o+d * b) % 1000000000) :: rowL d os bs ((c+o+d * b) / 1000000000):=by rw [rowL]
theorem rowL_cn (d o c:Int) (os:List Int):rowL d (o :: os) [] c=if 0 < c then ((c+o) % 1000000000) :: rowL d os [] ((c+o) / 1000000000) else o :: os:=by rw [rowL]
theorem rowL_n (d c:Int) (bs:List Int):rowL d [] bs c=[]:=by rw [rowL]
def pw:Nat→Int
 | 0=>1
 | n+1=>1000000000 * pw n
theorem pw_pos:∀ n,0 < pw n
 | 0=>by show (0:Int) < 1; omega
 | n+1=>by have:=pw_pos n; show 0 < 1000000000 * pw n; omega
theorem val_lt:∀ {l:List Int},Dg l→val l < pw l.length
 | [],_=>by show (0:Int) < 1; omega
 | d :: l,h=>by
   have h1:=h.cons.1
   have:=val_lt h.cons.2
   show d+1000000000 * val l < 1000000000 * pw l.length
   omega
theorem val_append:∀ (a b:List Int),val (a ++ b)=val a+pw a.length * val b
 | [],b=>by show val b=0+1 * val b; omega
 | d :: a,b=>by
   show d+1000000000 * val (a ++ b)=d+1000000000 * val a+1000000000 * pw a.length * val b
   rw [val_append a b,Int.mul_add,Int.mul_assoc]; omega
def FitW (d:Int) (os bs:List Int) (c:Int):Prop:=val os+d * val bs+c < pw os.length
theorem FitW.step {d o b c:Int} {os bs:List Int} (h:FitW d (o :: os) (b :: bs) c):FitW d os bs ((c+o+d * b) / 1000000000):=by
 unfold FitW at *
 have e:val (o :: os)+d * val (b :: bs)+c=(c+o+d * b)+1000000000 * (val os+d * val bs):=by
  show o+1000000000 * val os+d * (b+1000000000 * val bs)+c=_
  rw [Int.mul_add,Int.mul_left_comm d]; omega
 rw [e] at h
 have h:c+o+d * b+1000000000 * (val os+d * val bs) < 1000000000 * pw os.length:=h
 generalize val os+d * val bs=V at *
 generalize d * b=q at *
 omega
theorem FitW.step0 {d o c:Int} {os:List Int} (h:FitW d (o :: os) [] c):FitW d os [] ((c+o) / 1000000000):=by
 unfold FitW at *
 have h:o+1000000000 * val os+d * 0+c < 1000000000 * pw os.length:=h
 show val os+d * 0+_ < _
 rw [Int.mul_zero] at h ⊢
 omega
theorem FitW.ne {d c:Int} {bs:List Int} (h:FitW d [] bs c) (hd:0≤d) (hb:Dg bs) (hc:0≤c):c=0:=by
 unfold FitW at h
 have h:0+d * val bs+c < 1:=h
 have:=Int.mul_nonneg hd (val_nn hb)
 omega
theorem rowL_len (d:Int):∀ (os bs:List Int) (c:Int),(rowL d os bs c).length=os.length
 | [],bs,c=>by rw [rowL_n]
 | o :: os,[],c=>by
   rw [rowL_cn]
   split
   ·rw [List.length_cons,List.length_cons,rowL_len d os]
   ·rfl
 | o :: os,b :: bs,c=>by rw [rowL_cc,List.length_cons,List.length_cons,rowL_len d os]
theorem rowL_dg {d:Int} (hd:0≤d∧d < 1000000000):∀ (os bs:List Int) (c:Int),Dg os→Dg bs→0≤c→Dg (rowL d os bs c)
 | [],bs,c,_,_,_=>by rw [rowL_n]; intro x hx; simp at hx
 | o :: os,[],c,ho,hb,hc=>by
   rw [rowL_cn]
   have h1:=ho.cons
   split
   ·exact Dg.mk (by omega) (rowL_dg hd os [] _ h1.2 hb (by omega))
   ·exact ho
 | o :: os,b :: bs,c,ho,hb,hc=>by
   rw [rowL_cc]
   have h1:=ho.cons
   have h2:=hb.cons
   have h3:=Int.mul_nonneg hd.1 h2.1.1
   exact Dg.mk (by omega) (rowL_dg hd os bs _ h1.2 h2.2 (by omega))
theorem rowL_val {d:Int} (hd:0≤d):∀ (os bs:List Int) (c:Int),Dg os→Dg bs→0≤c→FitW d os bs c→val (rowL d os bs c)=val os+d * val bs+c
 | [],bs,c,_,hb,hc,h=>by
   rw [rowL_n]
   have h0:=h.ne hd hb hc
   unfold FitW at h
   have h:0+d * val bs+c < 1:=h
   have:=Int.mul_nonneg hd (val_nn hb)
   show (0:Int)=0+d * val bs+c
   omega
 | o :: os,[],c,ho,hb,hc,h=>by
   rw [rowL_cn]
   have h1:=ho.cons
   split
   ·have ih:=rowL_val hd os [] ((c+o) / 1000000000) h1.2 hb (by omega) h.step0
    show (c+o) % 1000000000+1000000000 * val (rowL d os [] ((c+o) / 1000000000))=o+1000000000 * val os+d * 0+c
    rw [ih]
    show (c+o) % 1000000000+1000000000 * (val os+d * 0+(c+o) / 1000000000)=_
    rw [Int.mul_zero]
    omega
   ·show o+1000000000 * val os=o+1000000000 * val os+d * 0+c
    rw [Int.mul_zero]; omega
 | o :: os,b :: bs,c,ho,hb,hc,h=>by
   rw [rowL_cc]
   have h1:=ho.cons
   have h2:=hb.cons
   have h3:=Int.mul_nonneg hd h2.1.1
   have ih:=rowL_val hd os bs ((c+o+d * b) / 1000000000) h1.2 h2.2 (by omega) h.step
   show (c+o+d * b) % 1000000000+1000000000 * val (rowL d os bs ((c+o+d * b) / 1000000000))=o+1000000000 * val os+d * (b+1000000000 * val bs)+c
   rw [ih,Int.mul_add d,Int.mul_left_comm d]
   generalize d * val bs=q
   generalize d * b=r
   omega
theorem pw_add:∀ (a b:Nat),pw (a+b)=pw a * pw b
 | 0,b=>by rw [Nat.zero_add]; show pw b=1 * pw b; omega
 | a+1,b=>by
   rw [Nat.add_right_comm]
   show 1000000000 * pw (a+b)=1000000000 * pw a * pw b
   rw [pw_add a b,Int.mul_assoc]
theorem pw_mono {a b:Nat} (h:a≤b):pw a≤pw b:=by
 obtain ⟨k,rfl⟩:∃ k,b=a+k:=⟨b - a,by omega⟩
 rw [pw_add]
 have h1:=pw_pos a
 have h2:=pw_pos k
 have:=Int.mul_le_mul_of_nonneg_left (show (1:Int)≤pw k by omega) (Int.le_of_lt h1)
 omega
theorem Dg.take {l:List Int} (h:Dg l) (k:Nat):Dg (l.take k):=fun x hx=>h x (List.mem_of_mem_take hx)
theorem Dg.drop {l:List Int} (h:Dg l) (k:Nat):Dg (l.drop k):=fun x hx=>h x (List.mem_of_mem_drop hx)
structure MulI (xs ys out:List Int) (i:Nat):Prop where
 dg:Dg out
 len:out.length=xs.length+ys.length+1
 vl:val out=val (xs.take i) * val ys
theorem MulI.fit {xs ys out:List Int} {i:Nat} {d:Int} (h:MulI xs ys out i) (hx:Dg xs) (hy:Dg ys) (hd:xs[i]?=some d):FitW d (out.drop i) ys 0:=by
 obtain ⟨hi,he⟩:=List.getElem?_eq_some_iff.1 hd
 obtain ⟨d0,d1⟩:=hx d (List.mem_of_getElem? hd)
 have h1:=val_append (out.take i) (out.drop i)
 rw [List.take_append_drop,h.vl,List.length_take,h.len,Nat.min_eq_left (by omega)] at h1
 have h2:=val_lt (hx.take i)
 rw [List.length_take,Nat.min_eq_left (by omega)] at h2
 have h3:=val_lt hy
 have h4:=val_nn hy
 have h5:=val_nn (h.dg.take i)
 have h6:=val_nn (h.dg.drop i)
 have p1:=pw_pos i
 have p2:=pw_pos ys.length
 have h7:pw i * val (out.drop i) < pw i * pw ys.length:=by
  have a1:val (xs.take i) * val ys≤pw i * val ys:=Int.mul_le_mul_of_nonneg_right (by omega) h4
  have a2:pw i * val ys < pw i * pw ys.length:=Int.mul_lt_mul_of_pos_left h3 p1
  omega
 have h8:val (out.drop i) < pw ys.length:=Int.lt_of_mul_lt_mul_left h7 (Int.le_of_lt p1)
 have h9:d * val ys≤999999999 * val ys:=Int.mul_le_mul_of_nonneg_right (by omega) h4
 have h10:=pw_mono (show ys.length+1≤(out.drop i).length by rw [List.length_drop,h.len]; omega)
 have h11:pw (ys.length+1)=1000000000 * pw ys.length:=rfl
 unfold FitW
 omega
theorem MulI.step {xs ys out:List Int} {i:Nat} {d:Int} (h:MulI xs ys out i) (hx:Dg xs) (hy:Dg ys) (hd:xs[i]?=some d):MulI xs ys (out.take i ++ rowL d (out.drop i) ys 0) (i+1):=by
 have hf:=h.fit hx hy hd
 obtain ⟨hi,he⟩:=List.getElem?_eq_some_iff.1 hd
 obtain ⟨d0,d1⟩:=hx d (List.mem_of_getElem? hd)
 have hl:(out.take i).length=i:=by rw [List.length_take,h.len]; omega
 refine ⟨?_, ?_, ?_⟩
 ·intro x hx'
  rcases List.mem_append.1 hx' with h1 | h1
  ·exact h.dg.take i x h1
  ·exact rowL_dg ⟨d0,d1⟩ _ _ _ (h.dg.drop i) hy (Int.le_refl _) x h1
 ·rw [List.length_append,hl,rowL_len,List.length_drop,h.len]; omega
 ·have h1:=val_append (out.take i) (out.drop i)
  rw [List.take_append_drop,h.vl,hl] at h1
  have h2:xs.take (i+1)=xs.take i ++ [d]:=by rw [List.take_add_one,hd]; rfl
  rw [val_append,rowL_val d0 _ _ _ (h.dg.drop i) hy (Int.le_refl _) hf,hl,h2,val_append,List.length_take,Nat.min_eq_left (by omega)]
  show val (out.take i)+pw i * (val (out.drop i)+d * val ys+0)=(val (xs.take i)+pw i * (d+1000000000 * 0)) * val ys
  rw [Int.add_zero,Int.mul_zero,Int.add_zero,Int.mul_add,Int.add_mul,← Int.add_assoc,← h1,Int.mul_assoc]
def OwnJ (w:World) (b:Nat) (xs:List Int):Prop :=
 b < w.heap.size∧∀ j x,xs[j]?=some x→w.cell? ⟨b,j,none⟩=some (iv x)∧w.frozen? ⟨b,j,none⟩=false
theorem OwnJ.fx {p:Nat→Prop} {w w':World} {b:Nat} {xs:List Int} (h:OwnJ w b xs) (k:Fx p w w') (hp:¬ p b):OwnJ w' b xs :=
 ⟨Nat.lt_of_lt_of_le h.1 k.size,fun j x hx=>by rw [k.cell h.1 hp,k.frozen h.1 hp]; exact h.2 j x hx⟩
theorem OwnJ.fr {w w':World} {b:Nat} {xs:List Int} (h:OwnJ w b xs) (k:Fr w w'):OwnJ w' b xs :=
 h.fx (p:=fun _=>False) (Fx.of_fr k) (fun e=>e)
theorem OwnJ.set {w:World} {b:Nat} {xs:List Int} (h:OwnJ w b xs) {k:Nat} (hk:k < xs.length) (x:Int):OwnJ (w.setCell ⟨b,k,none⟩ (iv x)) b (xs.set k x):=by
 obtain ⟨h2,h3⟩:=h
 refine ⟨by simpa [World.setCell] using h2,fun j y hy=>?_⟩
 rw [World.frozen?_setCell]
 rw [List.getElem?_set] at hy
 by_cases e:k=j
 ·subst e
  rw [if_pos rfl,if_pos hk] at hy
  injection hy with hy; subst hy
  have h4:=h3 k xs[k] (List.getElem?_eq_getElem hk)
  exact ⟨World.cell?_setCell_same' _ _ _ (by rw [h4.1]; rfl),h4.2⟩
 ·rw [if_neg e] at hy
  have h4:=h3 j y hy
  refine ⟨?_,h4.2⟩
  rw [World.cell?_setCell_other w ⟨b,k,none⟩ ⟨b,j,none⟩ _ (fun e2=>by injection e2 with e3 e4; omega)]
  exact h4.1
theorem OwnJ.el {w:World} {b:Nat} {xs:List Int} (h:OwnJ w b xs):El w iv (some ⟨b,0,none⟩) xs :=
 .inr ⟨b,0,rfl,h.1,fun i x hx=>by rw [Nat.zero_add]; exact (h.2 i x hx).1⟩
structure RowI (d:Int) (pre F:List Int) (i N:Nat) (ys:List Int) (k:Nat) (c:Int) (cur:List Int):Prop where
 len:cur.length=N
 dg:Dg cur
 fit:FitW d (cur.drop (i+k)) (ys.drop k) c
 eq:cur.take (i+k) ++ rowL d (cur.drop (i+k)) (ys.drop k) c=pre ++ F
theorem set_take {l:List Int} {j:Nat} (h:j < l.length) (v:Int):(l.set j v).take (j+1)=l.take j ++ [v]:=by
 rw [List.take_add_one,List.take_set_of_le (Nat.le_refl _),List.getElem?_set_self h]; rfl
theorem set_drop {l:List Int} {j:Nat} (v:Int):(l.set j v).drop (j+1)=l.drop (j+1):=by
 rw [List.drop_set_of_lt (by omega)]
theorem Dg.set {l:List Int} (h:Dg l) (j:Nat) {v:Int} (hv:0≤v∧v < 1000000000):Dg (l.set j v):=fun x hx=>by
 rcases List.mem_or_eq_of_mem_set hx with h1 | rfl
 ·exact h x h1
 ·exact hv
theorem RowI.at {d:Int} {pre F:List Int} {i N:Nat} {ys:List Int} {k:Nat} {c:Int} {cur:List Int} (h:RowI d pre F i N ys k c cur) (hd:0≤d) (hy:Dg ys) (hc:0≤c) (hk:k < ys.length∧i+ys.length < N∨0 < c):i+k < N:=by
 rcases hk with h1 | h1
 ·omega
 ·by_cases hl:i+k < N
  ·exact hl
  ·have h2:=h.fit
   rw [List.drop_eq_nil_of_le (by rw [h.len]; omega)] at h2
   have:=h2.ne hd (hy.drop k) hc
   omega
theorem RowI.step1 {d:Int} {pre F:List Int} {i N:Nat} {ys:List Int} {k:Nat} {c b o:Int} {cur:List Int} (h:RowI d pre F i N ys k c cur) (hb:ys[k]?=some b) (ho:cur[i+k]?=some o) :
 RowI d pre F i N ys (k+1) ((c+o+d * b) / 1000000000) (cur.set (i+k) ((c+o+d * b) % 1000000000)):=by
 have hl:=(List.getElem?_eq_some_iff.1 ho).1
 have h1:=h.fit
 have h2:=h.eq
 rw [drop_cons ho,drop_cons hb] at h1 h2
 refine ⟨by rw [List.length_set]; exact h.len,h.dg.set _ (by omega), ?_, ?_⟩
 ·rw [← Nat.add_assoc,set_drop]; exact h1.step
 ·rw [← Nat.add_assoc,set_drop,set_take hl,← h2,rowL_cc,List.append_assoc]; rfl
theorem RowI.step0 {d:Int} {pre F:List Int} {i N:Nat} {ys:List Int} {k:Nat} {c o:Int} {cur:List Int} (h:RowI d pre F i N ys k c cur) (hc:0 < c) (hb:ys.length≤k) (ho:cur[i+k]?=some o) :
 RowI d pre F i N ys (k+1) ((c+o) / 1000000000) (cur.set (i+k) ((c+o) % 1000000000)):=by
 have hl:=(List.getElem?_eq_some_iff.1 ho).1
 have h1:=h.fit
 have h2:=h.eq
 rw [drop_cons ho,List.drop_eq_nil_of_le hb] at h1 h2
 refine ⟨by rw [List.length_set]; exact h.len,h.dg.set _ (by omega), ?_, ?_⟩
 ·rw [← Nat.add_assoc,set_drop,show ys.drop (k+1)=[] from List.drop_eq_nil_of_le (by omega)]; exact h1.step0
 ·rw [← Nat.add_assoc,set_drop,set_take hl,← h2,show ys.drop (k+1)=[] from List.drop_eq_nil_of_le (by omega),rowL_cn,if_pos hc,List.append_assoc]; rfl
theorem RowI.fin {d:Int} {pre F:List Int} {i N:Nat} {ys:List Int} {k:Nat} {cur:List Int} (h:RowI d pre F i N ys k 0 cur) (hb:ys.length≤k):cur=pre ++ F:=by
 rw [← h.eq,List.drop_eq_nil_of_le hb]
 have e:rowL d (cur.drop (i+k)) [] 0=cur.drop (i+k):=by
  cases cur.drop (i+k) with
  | nil=>rw [rowL_n]
  | cons o os=>rw [rowL_cn,if_neg (by omega)]
 rw [e,List.take_append_drop]
theorem RowI.start {d:Int} {out ys:List Int} {i N:Nat} (hl:out.length=N) (hg:Dg out) (hf:FitW d (out.drop i) ys 0):RowI d (out.take i) (rowL d (out.drop i) ys 0) i N ys 0 0 out :=
 ⟨hl,hg,hf,rfl⟩
theorem MulI.zero (xs ys:List Int):MulI xs ys (List.replicate (xs.length+ys.length+1) 0) 0:=by
 refine ⟨fun x hx=>by have:=List.eq_of_mem_replicate hx; omega,List.length_replicate, ?_⟩
 have:∀ n,val (List.replicate n 0)=0:=fun n=>by
  induction n with
  | zero=>rfl
  | succ n ih=>show (0:Int)+1000000000 * val (List.replicate n 0)=0; rw [ih]; rfl
 rw [this]
 show (0:Int)=0 * val ys
 rw [Int.zero_mul]
theorem made_rep (v:Value) (n:Nat):(madeCells #[v] n).toList=List.replicate n v:=by
 refine List.ext_getElem? (fun i=>?_)
 by_cases hi:i < n
 ·simp [madeCells,hi,Nat.mod_one]
 ·simp [madeCells,hi]
theorem rep_own {w2:World} {b n:Nat} {base:Nat} {e:TypeId} {z:Value} (hz:z.cells=#[iv 0]) (h:w2.ownsRow base e 1 (.slice (some ⟨b,0,none⟩) n n) n (madeCells z.cells (n * 1)).toList):OwnJ w2 b (List.replicate n 0):=by
 obtain ⟨h1,h2,h3⟩:=ownsRow_whole h
 have hL:(madeCells z.cells (n * 1)).toList=List.replicate n (iv 0):=by
  rw [hz,Nat.mul_one]
  exact made_rep _ n
 rw [hL] at h1
 refine ⟨lt_of_heap h1,fun j x hx=>?_⟩
 have hj:j < n:=by simpa using (List.getElem?_eq_some_iff.1 hx).1
 have hx0:x=0:=List.eq_of_mem_replicate (List.mem_of_getElem? hx)
 subst hx0
 exact ⟨by rw [cells_of h1 j]; simp [hj],by unfold World.frozen?; rw [h1]; rfl⟩
theorem R2times (xs ys:List Int) (n:Nat) (hn:val xs * val ys=(n:Int)) (a b:Option Addr) (ca cb:Nat) (w:World) (hx:El w iv a xs) (hy:El w iv b ys) (dx:Dg xs) (dy:Dg ys) (hl:xs.length≤1000000) (hm:ys.length≤1000000) :
 Calls Tryz.prog 126 #[.slice a xs.length ca,.slice b ys.length cb] w fun e w'=>∃ a' c',e=.returned (.slice a' (digs n).length c')∧El w' iv a' (digs n)∧(digs n).length≤c'∧Fr w w':=by
 obtain ⟨nx,hnx⟩:∃ nx,nx=xs.length:=⟨_,rfl⟩
 obtain ⟨ny,hny⟩:∃ ny,ny=ys.length:=⟨_,rfl⟩
 rw [← hnx] at hl
 rw [← hny] at hm
 rw [← hnx,← hny]
 replace hnx:=hZ hnx
 replace hny:=hZ hny
 replace hx:=hZ hx
 replace hy:=hZ hy
 replace dx:=hZ dx
 replace dy:=hZ dy
 replace hn:=hZ hn
 obtain ⟨i0,hi,hz0,hz1,hz2⟩:=info_parts infoInt
 have hw1:IntKind.i64.wrap ((nx:Int)+(ny:Int))=(nx:Int)+(ny:Int):=IntWalk.i64_in _ (by omega)
 have hw2:IntKind.i64.wrap ((nx:Int)+(ny:Int)+1)=(nx:Int)+(ny:Int)+1:=IntWalk.i64_in _ (by omega)
 go_enter Tryz.func126,Tryz.ntmps126
 go_wp2_with (at_make; refine wpList_make_full _ rfl _ _ 23 rfl w.heap.size 3 i0 _ 1 Tryz.underlying23 hi hz0 hz1 _ _ _ _ (nx+ny+1) (by rfl) (by rfl) (by omega) (by omega) (by rw [hz2]; omega) (by unfold maxLen; omega) (Nat.le_refl _) ?_; intro w2 hown2 hgr2)
 have hfw2:Fr w w2:=(Fr.refl w).grown hgr2 (fun k e=>by cases e)
 obtain ⟨B,hB⟩:∃ B,B=w.heap.size:=⟨_,rfl⟩
 have hown0:OwnJ w2 B (List.replicate (nx+ny+1) 0):=by
  rw [hB]; exact rep_own rfl hown2
 have hM0:MulI xs ys (List.replicate (nx+ny+1) 0) 0:=by rw [hnx.out,hny.out]; exact MulI.zero xs ys
 rw [← hB]
 replace hown0:=hZ hown0
 replace hM0:=hZ hM0
 replace hB:=hZ hB
 clear hown2 hgr2 hw1 hw2
 go_loopg [6] nx (fun gk s6 wr=>∃ (i:Nat) (out:List Int),s6=.int .i64 i∧i+gk=nx∧Fr w wr∧Hid (OwnJ wr B out)∧Hid (MulI xs ys out i))
 case atStart=>exact ⟨0,_,rfl,by omega,hfw2,hown0,hM0⟩
 case round=>
  clear hown0 hM0 hfw2
  obtain ⟨i,out,rfl,hig,hf,hown,hM⟩:=hrel
  by_cases hi1:i < nx
  ·have d1:decide (i < nx)=true:=decide_eq_true hi1
   obtain ⟨xb,xo,d,rfl,-,hxi,hxc0⟩:=(hx.out.fr hf).at (i:=i) (by rw [← hnx.out]; exact hi1)
   obtain ⟨e0,e1⟩:=dx.out d (List.mem_of_getElem? hxi)
   have hfit:=hM.out.fit dx.out dy.out hxi
   have hMs:=hZ (hM.out.step dx.out dy.out hxi)
   have hR0:=hZ (RowI.start (ys:=ys) (d:=d) (i:=i) hM.out.len hM.out.dg hfit)
   replace hxi:=hZ hxi
   clear hfit
   have hNl:=hZ (show xs.length+ys.length+1=nx+ny+1 by rw [hnx.out,hny.out])
   have z0:(0:Int)≤(i:Int):=by omega
   have z1:(i:Int) < (nx:Int):=by omega
   obtain ⟨ko,rfl⟩:∃ ko:Nat,ko=gk:=⟨_,rfl⟩
   go_wp2_with fail
   go_loopg [7,8] (nx+ny+1 - i) (fun gk s7 s8 wr2=>∃ (k:Nat) (c:Int) (cur:List Int),s7=.int .i64 c∧s8=.int .i64 k∧i+k+gk=nx+ny+1∧(0≤c∧c < 1000000000)∧Fr w wr2∧Hid (OwnJ wr2 B cur)∧Hid (RowI d (out.take i) (rowL d (out.drop i) ys 0) i (xs.length+ys.length+1) ys k c cur))
   case atStart=>exact ⟨0,0,out,rfl,rfl,by omega,by omega,hf,hown,hR0⟩
   case round=>
    clear hown hR0 hM
    obtain ⟨k,c,cur,rfl,rfl,hkg,⟨hc0,hc1⟩,hf2,hown,hR⟩:=hrel
    clear hxc0
    obtain ⟨xb',xo',d',hae,-,hxi',hxc0⟩:=(hx.out.fr hf2).at (i:=i) (by rw [← hnx.out]; exact hi1)
    injection hae with hae; injection hae with hb9 ho9
    subst hb9; subst ho9
    rw [hxi.out] at hxi'
    injection hxi' with hxi'; subst hxi'
    by_cases hk1:k < ny
    ·have d2:decide (k < ny)=true:=decide_eq_true hk1
     have hN:=hR.out.at e0 dy.out hc0 (.inl ⟨by rw [← hny.out]; exact hk1,by have:=hNl.out; rw [this,← hny.out]; omega⟩)
     rw [hNl.out] at hN
     obtain ⟨yb,yo,y,rfl,-,hyk,hyc0⟩:=(hy.out.fr hf2).at (i:=k) (by rw [← hny.out]; exact hk1)
     obtain ⟨y0,y1⟩:=dy.out y (List.mem_of_getElem? hyk)
     obtain ⟨o,ho⟩:∃ o,cur[i+k]?=some o:=⟨_,List.getElem?_eq_getElem (by rw [hR.out.len,hNl.out]; exact hN)⟩
     obtain ⟨o0,o1⟩:=hR.out.dg o (List.mem_of_getElem? ho)
     obtain ⟨w0,w1⟩:=hown.out.2 _ _ ho
     have hRs0:=hR.out.step1 hyk ho
     have p0:0≤d * y:=Int.mul_nonneg e0 y0
     have p1:d * y≤999999999 * 999999999:=Int.mul_le_mul (by omega) (by omega) y0 (by omega)
     have p2:IntKind.i64.wrap (d * y)=d * y:=IntWalk.i64_in _ (by omega)
     rw [show c+o+d * y=o+c+d * y by omega] at hRs0
     have hRs:=hZ hRs0
     have p3:((i:Int)+(k:Int)).toNat=i+k:=by omega
     have z2:(0:Int)≤(k:Int):=by omega
     have z3:(k:Int) < (ny:Int):=by omega
     have z4:(0:Int)≤(i:Int)+(k:Int):=by omega
     have z5:(i:Int)+(k:Int) < ((nx+ny+1:Nat):Int):=by omega
     replace hyk:=hZ hyk
     replace ho:=hZ ho
     have hlc:=hZ (List.getElem?_eq_some_iff.1 ho.out).1
     clear hRs0
     go_wp2_with fail
     go_quiet (fail)
     go_wp2_with fail
     go_roundg (gk - 1)
     case measure=>omega
     case rel=>exact ⟨k+1,_,_,rfl,by go_num,by omega,by omega,(hf2.drewN _).setCell (by rw [hB.out]; exact Nat.le_refl _) _,(hown.out.fr ((Fr.refl _).drewN _)).set hlc.out _,hRs⟩
    ·have d2:decide (k < ny)=false:=decide_eq_false hk1
     by_cases hc:0 < c
     ·have d3:decide (0 < c)=true:=decide_eq_true hc
      have hN:=hR.out.at e0 dy.out hc0 (.inr hc)
      rw [hNl.out] at hN
      obtain ⟨o,ho⟩:∃ o,cur[i+k]?=some o:=⟨_,List.getElem?_eq_getElem (by rw [hR.out.len,hNl.out]; exact hN)⟩
      obtain ⟨o0,o1⟩:=hR.out.dg o (List.mem_of_getElem? ho)
      obtain ⟨w0,w1⟩:=hown.out.2 _ _ ho
      have hRs0:=hR.out.step0 hc (by rw [← hny.out]; omega) ho
      rw [show c+o=o+c by omega] at hRs0
      have hRs:=hZ hRs0
      have p3:((i:Int)+(k:Int)).toNat=i+k:=by omega
      have z2:(0:Int)≤(k:Int):=by omega
      have z4:(0:Int)≤(i:Int)+(k:Int):=by omega
      have z5:(i:Int)+(k:Int) < ((nx+ny+1:Nat):Int):=by omega
      replace ho:=hZ ho
      have hlc:=hZ (List.getElem?_eq_some_iff.1 ho.out).1
      clear hRs0
      go_wp2_with fail
      go_roundg (gk - 1)
      case measure=>omega
      case rel=>exact ⟨k+1,_,_,rfl,by go_num,by omega,by omega,hf2.setCell (by rw [hB.out]; exact Nat.le_refl _) _,hown.out.set hlc.out _,hRs⟩
     ·have d3:decide (0 < c)=false:=decide_eq_false hc
      obtain rfl:c=0:=by omega
      have hfin:=hR.out.fin (by rw [← hny.out]; omega)
      have hMs2:=hMs.out
      rw [← hfin] at hMs2
      replace hMs2:=hZ hMs2
      clear hfin
      go_wp2_with fail
      go_roundg (ko - 1)
      case measure=>omega
      case rel=>exact ⟨i+1,cur,by go_num,by omega,hf2,hown,hMs2⟩
  ·have d1:decide (i < nx)=false:=decide_eq_false hi1
   obtain rfl:nx=i:=by omega
   have hol:out.length=nx+ny+1:=by rw [hM.out.len,hnx.out,hny.out]
   have hv:val out=(n:Int):=by
    rw [hM.out.vl,List.take_of_length_le (by rw [hnx.out]; exact Nat.le_refl _)]; exact hn.out
   have htr:trimL out=digs n:=by rw [trimL_digs hM.out.dg,hv,Int.toNat_natCast]
   have htrim:=R2trim out (some ⟨B,0,none⟩) (nx+ny+1) wr hown.out.el (by rw [hol]; omega) (by rw [hol]; exact Nat.le_refl _)
   have hle:=(trimL_len out).2
   have hE:=trim_el hown.out.el
   rw [htr,hol] at hle htrim
   rw [htr] at hE
   replace htrim:=hZ htrim
   replace hE:=hZ hE
   clear hol hv htr
   go_wp2_with fail
   refine htrim.out.mono ?_
   rintro e w3 ⟨rfl,hf3⟩
   go_wp2_with fail
   go_ret
   exact ⟨_,_,rfl,hE.out.fr hf3,hle,hf.trans hf3⟩
end Go.Proofs.YtiniigadkknboaaGreatDoor
