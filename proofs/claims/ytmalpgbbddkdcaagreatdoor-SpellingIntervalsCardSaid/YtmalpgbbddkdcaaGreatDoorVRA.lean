/- Contracts and laws: VRA. -/
import Derived.Test.YtmalpgbbddkdcaaGreatDoorVA
import Derived.Test.YtmalpgbbddkdcaaGreatDoorVC
import Derived.Test.YtmalpgbbddkdcaaGreatDoorVB
import Derived.Deep.RegionHeld3
import Derived.Deep.Cut
import Derived.IntWalk
import Derived.Test.YtmalpgbbddkdcaaGreatDoorVRF

set_option maxRecDepth 100000
set_option maxHeartbeats 2000000
namespace Go.Proofs.YtmalpgbbddkdcaaGreatDoor
open Go.RowKit Go.Lib
theorem ownsRow_own_ge {w:World} {base:Nat} {e:TypeId} {size:Nat} {v:Value} {n:Nat} {xs:List Value} (h:w.ownsRow base e size v n xs) (g:Nat) (hg:v.ownBlock=some g):base≤g:=by
 rcases h.2 with ⟨rfl,_⟩ | ⟨g',cap,cur,rfl,hb,_⟩
 ·simp [Value.ownBlock] at hg
 ·have:g'=g:=by simpa [Value.ownBlock] using hg
  omega
attribute [local go_sem ↓] Go.wp_at_zero Go.wp_at_succ
theorem own_read {w:World} {base:Nat} {v:Value} {l:List Int} (h:w.ownsRow base 3 1 v l.length (l.map iv)):∃ a c,v=.slice a l.length c∧El w iv a l∧l.length≤c∧∀ ad,a=some ad→base≤ad.block:=by
 rcases h.2 with ⟨h1,h2⟩ | ⟨g,cap,cur,hv,_⟩
 ·have:=List.eq_nil_of_length_eq_zero h2
  subst this
  exact ⟨none,0,h1,.inl rfl,Nat.le_refl _,fun ad e=>by cases e⟩
 ·subst hv
  obtain ⟨-,h1,h2,h3,h4⟩:=ownsRow_some h
  refine ⟨_,_,rfl,.inr ⟨g,0,rfl,h2,fun i x hx=>?_⟩,h3,fun ad e=>by injection e with e; subst e; exact h1⟩
  rw [Nat.zero_add]
  exact (h4 i (iv x) (by rw [List.getElem?_map,hx]; rfl)).1
theorem drop_cons {l:List Int} {j:Nat} {x:Int} (h:l[j]?=some x):l.drop j=x :: l.drop (j+1):=by
 obtain ⟨h1,rfl⟩:=List.getElem?_eq_some_iff.1 h
 exact List.drop_eq_getElem_cons h1
theorem plus_any (xs ys:List Int) (a b:Option Addr) (ca cb:Nat) (w:World) (hx:El w iv a xs) (hy:El w iv b ys) (dx:Dg xs) (dy:Dg ys) (hl:xs.length≤1000000) (hm:ys.length≤1000000) :
 Calls Tryz.prog 188 #[.slice a xs.length ca,.slice b ys.length cb] w fun e w'=>∃ a' c',e=.returned (.slice a' (plusL xs ys 0).length c')∧El w' iv a' (plusL xs ys 0)∧(plusL xs ys 0).length≤c'∧Fr w w'∧∀ ad,a'=some ad→w.heap.size≤ad.block:=by
 obtain ⟨n,hn⟩:∃ n,n=xs.length:=⟨_,rfl⟩
 obtain ⟨m,hmm⟩:∃ m,m=ys.length:=⟨_,rfl⟩
 rw [← hn] at hl
 rw [← hmm] at hm
 rw [← hn,← hmm]
 obtain ⟨M,hM1,hM2,hM3⟩:∃ M,n≤M∧m≤M∧M≤1000000:=⟨max n m,by omega,by omega,by omega⟩
 replace hn:=hZ hn
 replace hmm:=hZ hmm
 replace hx:=hZ hx
 replace hy:=hZ hy
 replace dx:=hZ dx
 replace dy:=hZ dy
 obtain ⟨i0,hi,hz0,hz1,hz2⟩:=info_parts infoInt
 go_enter Tryz.func188,Tryz.ntmps188
 go_wp2_with fail
 go_loopg [5,6,7] (M+1) (fun gk s5 s6 s7 wr=>∃ (j:Nat) (c:Int) (out:List Int),s7=.int .i64 j∧s6=.int .i64 c∧(0≤c∧c≤1)∧j+gk=M+1∧(gk=0→c=0)∧Hid (out.length=j)∧Fr w wr∧Hid (wr.ownsRow w.heap.size 3 1 s5 j (out.map iv))∧Hid (plusL xs ys 0=out ++ plusL (xs.drop j) (ys.drop j) c))
 case atStart=>exact ⟨0,0,[],rfl,rfl,by omega,by omega,fun h=>by omega,rfl,Fr.refl _,World.ownsRow_nil _ _ _ _,rfl⟩
 case round=>
  obtain ⟨j,c,out,rfl,rfl,hc,hjk,hg0,hol,hf,hown,hb⟩:=hrel
  obtain ⟨hc0,hc1⟩:=hc
  by_cases h1:j < n
  ·have d1:decide (j < n)=true:=decide_eq_true h1
   obtain ⟨xb,xo,x,rfl,-,hxj,hxc⟩:=(hx.out.fr hf).at (i:=j) (by rw [← hn.out]; exact h1)
   obtain ⟨x0,x1⟩:=dx.out x (List.mem_of_getElem? hxj)
   by_cases h2:j < m
   ·have d2:decide (j < m)=true:=decide_eq_true h2
    obtain ⟨yb,yo,y,rfl,-,hyj,hyc⟩:=(hy.out.fr hf).at (i:=j) (by rw [← hmm.out]; exact h2)
    obtain ⟨y0,y1⟩:=dy.out y (List.mem_of_getElem? hyj)
    have z0:(0:Int)≤(j:Int):=by omega
    have z1:(j:Int) < (n:Int):=by omega
    have z2:(j:Int) < (m:Int):=by omega
    have hs:=hZ (show plusL xs ys 0=(out ++ [(c+x+y) % 1000000000]) ++ plusL (xs.drop (j+1)) (ys.drop (j+1)) ((c+x+y) / 1000000000) by
     rw [hb.out,drop_cons hxj,drop_cons hyj,plusL_cc,List.append_assoc]; rfl)
    go_wp2_with (at_builtin; refine wpList_append_lies _ rfl _ _ 22 (by rfl) _ 3 _ _ 1 8 Tryz.underlying22 hi hz0 hz1 hz2 rfl (by decide) _ j _ (by rfl) (World.ownsRow.alloc hown.out _) ⟨wr.heap.size,0,none⟩ 1 1 [iv ((c+x+y) % 1000000000)] (by rfl) rfl (cell_one_newN _ _ _ _ (by simp)) (by simp [Value.oneCell']) (by decide) (by unfold maxLen; omega) (by omega) (by have:=hf.size; simp; omega) (wr.heap.size+1) (by simp) ?_; intro gA capA wA hownA hgrowA hatA hltA)
    go_wp2_with fail
    go_roundg (gk - 1)
    case measure=>omega
    case rel=>exact ⟨j+1,(c+x+y) / 1000000000,out ++ [(c+x+y) % 1000000000],by go_num,rfl,by omega,by omega,fun h=>by omega,by show _=_; rw [List.length_append,hol.out]; rfl,(hf.alloc _).grown hgrowA (fun k e=>(hown.out.lt k e).1),by show _; rw [List.map_append]; exact hownA,hs⟩
   ·have d2:decide (j < m)=false:=decide_eq_false h2
    have hs:=hZ (show plusL xs ys 0=(out ++ [(c+x) % 1000000000]) ++ plusL (xs.drop (j+1)) (ys.drop (j+1)) ((c+x) / 1000000000) by
     rw [hb.out,drop_cons hxj,show ys.drop j=[] from List.drop_eq_nil_of_le (by have:=hmm.out; omega),show ys.drop (j+1)=[] from List.drop_eq_nil_of_le (by have:=hmm.out; omega),plusL_cn,List.append_assoc]; rfl)
    have z0:(0:Int)≤(j:Int):=by omega
    have z1:(j:Int) < (n:Int):=by omega
    go_wp2_with (at_builtin; refine wpList_append_lies _ rfl _ _ 22 (by rfl) _ 3 _ _ 1 8 Tryz.underlying22 hi hz0 hz1 hz2 rfl (by decide) _ j _ (by rfl) (World.ownsRow.alloc hown.out _) ⟨wr.heap.size,0,none⟩ 1 1 [iv ((c+x) % 1000000000)] (by rfl) rfl (cell_one_newN _ _ _ _ (by simp)) (by simp [Value.oneCell']) (by decide) (by unfold maxLen; omega) (by omega) (by have:=hf.size; simp; omega) (wr.heap.size+1) (by simp) ?_; intro gA capA wA hownA hgrowA hatA hltA)
    go_wp2_with fail
    go_roundg (gk - 1)
    case measure=>omega
    case rel=>exact ⟨j+1,(c+x) / 1000000000,out ++ [(c+x) % 1000000000],by go_num,rfl,by omega,by omega,fun h=>by omega,by show _=_; rw [List.length_append,hol.out]; rfl,(hf.alloc _).grown hgrowA (fun k e=>(hown.out.lt k e).1),by show _; rw [List.map_append]; exact hownA,hs⟩
  ·have d1:decide (j < n)=false:=decide_eq_false h1
   have hdx:xs.drop j=[]:=List.drop_eq_nil_of_le (by have:=hn.out; omega)
   have hdx1:xs.drop (j+1)=[]:=List.drop_eq_nil_of_le (by have:=hn.out; omega)
   by_cases h2:j < m
   ·have d2:decide (j < m)=true:=decide_eq_true h2
    obtain ⟨yb,yo,y,rfl,-,hyj,hyc⟩:=(hy.out.fr hf).at (i:=j) (by rw [← hmm.out]; exact h2)
    obtain ⟨y0,y1⟩:=dy.out y (List.mem_of_getElem? hyj)
    have z0:(0:Int)≤(j:Int):=by omega
    have z2:(j:Int) < (m:Int):=by omega
    have hs:=hZ (show plusL xs ys 0=(out ++ [(c+y) % 1000000000]) ++ plusL (xs.drop (j+1)) (ys.drop (j+1)) ((c+y) / 1000000000) by
     rw [hb.out,hdx,hdx1,drop_cons hyj,plusL_nc,List.append_assoc]; rfl)
    clear hdx hdx1
    go_wp2_with (at_builtin; refine wpList_append_lies _ rfl _ _ 22 (by rfl) _ 3 _ _ 1 8 Tryz.underlying22 hi hz0 hz1 hz2 rfl (by decide) _ j _ (by rfl) (World.ownsRow.alloc hown.out _) ⟨wr.heap.size,0,none⟩ 1 1 [iv ((c+y) % 1000000000)] (by rfl) rfl (cell_one_newN _ _ _ _ (by simp)) (by simp [Value.oneCell']) (by decide) (by unfold maxLen; omega) (by omega) (by have:=hf.size; simp; omega) (wr.heap.size+1) (by simp) ?_; intro gA capA wA hownA hgrowA hatA hltA)
    go_wp2_with fail
    go_roundg (gk - 1)
    case measure=>omega
    case rel=>exact ⟨j+1,(c+y) / 1000000000,out ++ [(c+y) % 1000000000],by go_num,rfl,by omega,by omega,fun h=>by omega,by show _=_; rw [List.length_append,hol.out]; rfl,(hf.alloc _).grown hgrowA (fun k e=>(hown.out.lt k e).1),by show _; rw [List.map_append]; exact hownA,hs⟩
   ·have d2:decide (j < m)=false:=decide_eq_false h2
    have hdy:ys.drop j=[]:=List.drop_eq_nil_of_le (by have:=hmm.out; omega)
    have hdy1:ys.drop (j+1)=[]:=List.drop_eq_nil_of_le (by have:=hmm.out; omega)
    by_cases h3:c=0
    ·subst h3
     have hfin:plusL xs ys 0=out:=by rw [hb.out,hdx,hdy,plusL_nn,if_neg (by omega),List.append_nil]
     have hown9:=hown.out
     rw [← hol.out] at hown9
     obtain ⟨a9,c9,rfl,he9,hc9,hb9⟩:=own_read hown9
     replace hb9:=hZ hb9
     rw [← hfin] at he9 hc9
     have hr9:=hZ (show plusL xs ys 0=out from hfin)
     have he9:=hZ he9
     clear hown9 hfin hdx hdx1 hdy hdy1
     go_wp2_with fail
     go_ret
     exact ⟨a9,c9,by rw [hr9.out]; rfl,he9.out,hc9,hf,hb9.out⟩
    ·obtain rfl:c=1:=by omega
     have hs:=hZ (show plusL xs ys 0=(out ++ [(1:Int)]) ++ plusL (xs.drop (j+1)) (ys.drop (j+1)) 0 by
      rw [hb.out,hdx,hdx1,hdy,hdy1,plusL_nn,plusL_nn,if_pos (by omega),if_neg (by omega),List.append_nil])
     clear hdx hdx1 hdy hdy1
     go_wp2_with (at_builtin; refine wpList_append_lies _ rfl _ _ 22 (by rfl) _ 3 _ _ 1 8 Tryz.underlying22 hi hz0 hz1 hz2 rfl (by decide) _ j _ (by rfl) (World.ownsRow.alloc hown.out _) ⟨wr.heap.size,0,none⟩ 1 1 [iv 1] (by rfl) rfl (cell_one_newN _ _ _ _ (by simp)) (by simp [Value.oneCell']) (by decide) (by unfold maxLen; omega) (by omega) (by have:=hf.size; simp; omega) (wr.heap.size+1) (by simp) ?_; intro gA capA wA hownA hgrowA hatA hltA)
     go_wp2_with fail
     go_roundg (gk - 1)
     case measure=>omega
     case rel=>exact ⟨j+1,0,out ++ [1],by go_num,rfl,by omega,by omega,fun _=>rfl,by show _=_; rw [List.length_append,hol.out]; rfl,(hf.alloc _).grown hgrowA (fun k e=>(hown.out.lt k e).1),by show _; rw [List.map_append]; exact hownA,hs⟩
theorem minus_any (xs ys:List Int) (a b:Option Addr) (ca cb:Nat) (w:World) (hx:El w iv a xs) (hy:El w iv b ys) (dx:Dg xs) (dy:Dg ys) (hl:xs.length≤1000000) (hm:ys.length≤1000000) :
 Calls Tryz.prog 190 #[.slice a xs.length ca,.slice b ys.length cb] w fun e w'=>∃ a' c',e=.returned (.slice a' (minusL xs ys 0).length c')∧El w' iv a' (minusL xs ys 0)∧(minusL xs ys 0).length≤c'∧Fr w w'∧∀ ad,a'=some ad→w.heap.size≤ad.block:=by
 obtain ⟨n,hn⟩:∃ n,n=xs.length:=⟨_,rfl⟩
 obtain ⟨m,hmm⟩:∃ m,m=ys.length:=⟨_,rfl⟩
 rw [← hn] at hl
 rw [← hmm] at hm
 rw [← hn,← hmm]
 replace hn:=hZ hn
 replace hmm:=hZ hmm
 replace hx:=hZ hx
 replace hy:=hZ hy
 replace dx:=hZ dx
 replace dy:=hZ dy
 obtain ⟨i0,hi,hz0,hz1,hz2⟩:=info_parts infoInt
 go_enter Tryz.func190,Tryz.ntmps190
 go_wp2_with fail
 go_loopg [5,6,7] n (fun gk s5 s6 s7 wr=>∃ (j:Nat) (c:Int) (out:List Int),s7=.int .i64 j∧s6=.int .i64 c∧(0≤c∧c≤1)∧j+gk=n∧Hid (out.length=j)∧Fr w wr∧Hid (wr.ownsRow w.heap.size 3 1 s5 j (out.map iv))∧Hid (minusL xs ys 0=out ++ minusL (xs.drop j) (ys.drop j) c))
 case atStart=>exact ⟨0,0,[],rfl,rfl,by omega,by omega,rfl,Fr.refl _,World.ownsRow_nil _ _ _ _,rfl⟩
 case round=>
  obtain ⟨j,c,out,rfl,rfl,hc,hjk,hol,hf,hown,hb⟩:=hrel
  obtain ⟨hc0,hc1⟩:=hc
  by_cases h1:j < n
  ·have d1:decide (j < n)=true:=decide_eq_true h1
   obtain ⟨xb,xo,x,rfl,-,hxj,hxc⟩:=(hx.out.fr hf).at (i:=j) (by rw [← hn.out]; exact h1)
   obtain ⟨x0,x1⟩:=dx.out x (List.mem_of_getElem? hxj)
   have z0:(0:Int)≤(j:Int):=by omega
   have z1:(j:Int) < (n:Int):=by omega
   by_cases h2:j < m
   ·have d2:decide (j < m)=true:=decide_eq_true h2
    obtain ⟨yb,yo,y,rfl,-,hyj,hyc⟩:=(hy.out.fr hf).at (i:=j) (by rw [← hmm.out]; exact h2)
    obtain ⟨y0,y1⟩:=dy.out y (List.mem_of_getElem? hyj)
    have z2:(j:Int) < (m:Int):=by omega
    have hs:=hZ (show minusL xs ys 0=(out ++ [subD (x - c - y)]) ++ minusL (xs.drop (j+1)) (ys.drop (j+1)) (subB (x - c - y)) by
     rw [hb.out,drop_cons hxj,drop_cons hyj,minusL_cc,List.append_assoc]; rfl)
    by_cases h3:x - c - y < 0
    ·have d3:decide (x - c - y < 0)=true:=decide_eq_true h3
     rw [show subD (x - c - y)=x - c - y+1000000000 by unfold subD; rw [if_pos h3],show subB (x - c - y)=1 by unfold subB; rw [if_pos h3]] at hs
     go_wp2_with (at_builtin; refine wpList_append_lies _ rfl _ _ 22 (by rfl) _ 3 _ _ 1 8 Tryz.underlying22 hi hz0 hz1 hz2 rfl (by decide) _ j _ (by rfl) (World.ownsRow.alloc hown.out _) ⟨wr.heap.size,0,none⟩ 1 1 [iv (x - c - y+1000000000)] (by rfl) rfl (cell_one_newN _ _ _ _ (by simp)) (by simp [Value.oneCell']) (by decide) (by unfold maxLen; omega) (by omega) (by have:=hf.size; simp; omega) (wr.heap.size+1) (by simp) ?_; intro gA capA wA hownA hgrowA hatA hltA)
     go_wp2_with fail
     go_roundg (gk - 1)
     case measure=>omega
     case rel=>exact ⟨j+1,1,out ++ [x - c - y+1000000000],by go_num,rfl,by omega,by omega,by show _=_; rw [List.length_append,hol.out]; rfl,(hf.alloc _).grown hgrowA (fun k e=>(hown.out.lt k e).1),by show _; rw [List.map_append]; exact hownA,hs⟩
    ·have d3:decide (x - c - y < 0)=false:=decide_eq_false h3
     rw [show subD (x - c - y)=x - c - y by unfold subD; rw [if_neg h3],show subB (x - c - y)=0 by unfold subB; rw [if_neg h3]] at hs
     go_wp2_with (at_builtin; refine wpList_append_lies _ rfl _ _ 22 (by rfl) _ 3 _ _ 1 8 Tryz.underlying22 hi hz0 hz1 hz2 rfl (by decide) _ j _ (by rfl) (World.ownsRow.alloc hown.out _) ⟨wr.heap.size,0,none⟩ 1 1 [iv (x - c - y)] (by rfl) rfl (cell_one_newN _ _ _ _ (by simp)) (by simp [Value.oneCell']) (by decide) (by unfold maxLen; omega) (by omega) (by have:=hf.size; simp; omega) (wr.heap.size+1) (by simp) ?_; intro gA capA wA hownA hgrowA hatA hltA)
     go_wp2_with fail
     go_roundg (gk - 1)
     case measure=>omega
     case rel=>exact ⟨j+1,0,out ++ [x - c - y],by go_num,rfl,by omega,by omega,by show _=_; rw [List.length_append,hol.out]; rfl,(hf.alloc _).grown hgrowA (fun k e=>(hown.out.lt k e).1),by show _; rw [List.map_append]; exact hownA,hs⟩
   ·have d2:decide (j < m)=false:=decide_eq_false h2
    have hs:=hZ (show minusL xs ys 0=(out ++ [subD (x - c)]) ++ minusL (xs.drop (j+1)) (ys.drop (j+1)) (subB (x - c)) by
     rw [hb.out,drop_cons hxj,show ys.drop j=[] from List.drop_eq_nil_of_le (by have:=hmm.out; omega),show ys.drop (j+1)=[] from List.drop_eq_nil_of_le (by have:=hmm.out; omega),minusL_cn,List.append_assoc]; rfl)
    by_cases h3:x - c < 0
    ·have d3:decide (x - c < 0)=true:=decide_eq_true h3
     rw [show subD (x - c)=x - c+1000000000 by unfold subD; rw [if_pos h3],show subB (x - c)=1 by unfold subB; rw [if_pos h3]] at hs
     go_wp2_with (at_builtin; refine wpList_append_lies _ rfl _ _ 22 (by rfl) _ 3 _ _ 1 8 Tryz.underlying22 hi hz0 hz1 hz2 rfl (by decide) _ j _ (by rfl) (World.ownsRow.alloc hown.out _) ⟨wr.heap.size,0,none⟩ 1 1 [iv (x - c+1000000000)] (by rfl) rfl (cell_one_newN _ _ _ _ (by simp)) (by simp [Value.oneCell']) (by decide) (by unfold maxLen; omega) (by omega) (by have:=hf.size; simp; omega) (wr.heap.size+1) (by simp) ?_; intro gA capA wA hownA hgrowA hatA hltA)
     go_wp2_with fail
     go_roundg (gk - 1)
     case measure=>omega
     case rel=>exact ⟨j+1,1,out ++ [x - c+1000000000],by go_num,rfl,by omega,by omega,by show _=_; rw [List.length_append,hol.out]; rfl,(hf.alloc _).grown hgrowA (fun k e=>(hown.out.lt k e).1),by show _; rw [List.map_append]; exact hownA,hs⟩
    ·have d3:decide (x - c < 0)=false:=decide_eq_false h3
     rw [show subD (x - c)=x - c by unfold subD; rw [if_neg h3],show subB (x - c)=0 by unfold subB; rw [if_neg h3]] at hs
     go_wp2_with (at_builtin; refine wpList_append_lies _ rfl _ _ 22 (by rfl) _ 3 _ _ 1 8 Tryz.underlying22 hi hz0 hz1 hz2 rfl (by decide) _ j _ (by rfl) (World.ownsRow.alloc hown.out _) ⟨wr.heap.size,0,none⟩ 1 1 [iv (x - c)] (by rfl) rfl (cell_one_newN _ _ _ _ (by simp)) (by simp [Value.oneCell']) (by decide) (by unfold maxLen; omega) (by omega) (by have:=hf.size; simp; omega) (wr.heap.size+1) (by simp) ?_; intro gA capA wA hownA hgrowA hatA hltA)
     go_wp2_with fail
     go_roundg (gk - 1)
     case measure=>omega
     case rel=>exact ⟨j+1,0,out ++ [x - c],by go_num,rfl,by omega,by omega,by show _=_; rw [List.length_append,hol.out]; rfl,(hf.alloc _).grown hgrowA (fun k e=>(hown.out.lt k e).1),by show _; rw [List.map_append]; exact hownA,hs⟩
  ·obtain rfl:j=n:=by omega
   have d1:decide (j < j)=false:=decide_eq_false h1
   have hfin:minusL xs ys 0=out:=by rw [hb.out,show xs.drop j=[] from List.drop_eq_nil_of_le (by have:=hn.out; omega),minusL_n,List.append_nil]
   have hown9:=hown.out
   rw [← hol.out] at hown9
   obtain ⟨a9,c9,rfl,he9,hc9,hb9⟩:=own_read hown9
   replace hb9:=hZ hb9
   rw [← hfin] at he9 hc9
   have hr9:=hZ (show minusL xs ys 0=out from hfin)
   have he9:=hZ he9
   clear hown9 hfin
   go_wp2_with fail
   go_ret
   exact ⟨a9,c9,by rw [hr9.out]; rfl,he9.out,hc9,hf,hb9.out⟩
theorem sgnC_lt {n m:Nat} (h:n < m):sgnC n m=-1:=by unfold sgnC; rw [if_pos h]
theorem sgnC_gt {n m:Nat} (h:m < n):sgnC n m=1:=by unfold sgnC; rw [if_neg (by omega),if_pos h]
theorem sgnC_eq (n:Nat):sgnC n n=0:=by unfold sgnC; rw [if_neg (by omega),if_neg (by omega)]
theorem above_any (u v:Nat) (a b:Option Addr) (ca cb:Nat) (w:World) (hx:El w iv a (digs u)) (hy:El w iv b (digs v)) (hl:(digs u).length≤1000000) (hm:(digs v).length≤1000000) :
 Calls Tryz.prog 189 #[.slice a (digs u).length ca,.slice b (digs v).length cb] w fun e w'=>e=.returned (.int .i64 (sgnC u v))∧Fr w w':=by
 by_cases hlen:(digs u).length=(digs v).length
 ·have hval:∀ k x y,(digs u)[k]?=some x→(digs v)[k]?=some y→x < y→(digs u).drop (k+1)=(digs v).drop (k+1)→sgnC u v=-1:=fun k x y hk hk2 hxy hd=>by
   have:=val_drop k (digs u) (digs v) (digs_dg u) (digs_dg v) hlen (fun x' y' e1 e2=>by rw [hk] at e1; rw [hk2] at e2; injection e1 with e1; injection e2 with e2; subst e1; subst e2; exact hxy) (List.getElem?_eq_some_iff.1 hk).1 hd
   rw [val_digs,val_digs] at this
   exact sgnC_lt (by omega)
  have hval2:∀ k x y,(digs u)[k]?=some x→(digs v)[k]?=some y→y < x→(digs u).drop (k+1)=(digs v).drop (k+1)→sgnC u v=1:=fun k x y hk hk2 hxy hd=>by
   have:=val_drop k (digs v) (digs u) (digs_dg v) (digs_dg u) hlen.symm (fun x' y' e1 e2=>by rw [hk2] at e1; rw [hk] at e2; injection e1 with e1; injection e2 with e2; subst e1; subst e2; exact hxy) (List.getElem?_eq_some_iff.1 hk2).1 hd.symm
   rw [val_digs,val_digs] at this
   exact sgnC_gt (by omega)
  have heq0:(digs u).drop 0=(digs v).drop 0→sgnC u v=0:=fun h=>by
   rw [List.drop_zero,List.drop_zero] at h
   rw [digs_inj h]; exact sgnC_eq v
  generalize sgnC u v=r at *
  generalize digs u=xs at *
  generalize digs v=ys at *
  have hne:((xs.length:Int) != ys.length)=false:=by rw [hlen]; simp
  obtain ⟨n,hn⟩:∃ n,n=xs.length:=⟨_,rfl⟩
  obtain ⟨m,hmm⟩:∃ m,m=ys.length:=⟨_,rfl⟩
  rw [← hn,← hmm] at hne
  rw [← hn] at hl
  rw [← hmm] at hm
  rw [← hn,← hmm]
  have hnm:(n:Int)≤m:=by omega
  replace hn:=hZ hn
  replace hmm:=hZ hmm
  replace hlen:=hZ hlen
  replace hval:=hZ hval
  replace hval2:=hZ hval2
  replace heq0:=hZ heq0
  replace hx:=hZ hx
  replace hy:=hZ hy
  go_enter Tryz.func189,Tryz.ntmps189
  go_wp2_with fail
  go_loopg [5] n (fun gk s5 wr=>∃ i:Int,s5=.int .i64 i∧i+1=gk∧gk≤n∧Fr w wr∧Hid (xs.drop gk=ys.drop gk))
  case atStart=>exact ⟨_,rfl,by omega,Nat.le_refl _,Fr.refl _,by show _=_; rw [List.drop_eq_nil_of_le (by have:=hn.out; omega),List.drop_eq_nil_of_le (by have:=hn.out; have:=hlen.out; omega)]⟩
  case round=>
   obtain ⟨i,rfl,hik,hgn,hf,hb⟩:=hrel
   by_cases h0:gk=0
   ·subst h0
    obtain rfl:i=-1:=by omega
    have hfin:=hZ (heq0.out hb.out)
    go_wp2_with fail
    go_ret
    exact ⟨by rw [hfin.out]; rfl,hf⟩
   ·obtain ⟨k,rfl⟩:∃ k,gk=k+1:=⟨gk - 1,by omega⟩
    obtain rfl:i=(k:Int):=by omega
    obtain ⟨xb,xo,x,rfl,-,hxk,hxc⟩:=(hx.out.fr hf).at (i:=k) (by rw [← hn.out]; omega)
    obtain ⟨yb,yo,y,rfl,-,hyk,hyc⟩:=(hy.out.fr hf).at (i:=k) (by rw [← hlen.out,← hn.out]; omega)
    have z0:(0:Int)≤(k:Int):=by omega
    have z1:(k:Int) < (n:Int):=by omega
    have z2:(k:Int) < (m:Int):=by omega
    by_cases h1:x < y
    ·have d1:decide (x < y)=true:=decide_eq_true h1
     have hfin:=hZ (hval.out k x y hxk hyk h1 hb.out)
     go_wp2_with fail
     go_quiet (fail)
     go_wp2_with fail
     go_ret
     exact ⟨by rw [hfin.out]; rfl,hf.drewN _⟩
    ·have d1:decide (x < y)=false:=decide_eq_false h1
     by_cases h2:y < x
     ·have d2:decide (y < x)=true:=decide_eq_true h2
      have hfin:=hZ (hval2.out k x y hxk hyk h2 hb.out)
      go_wp2_with fail
      go_quiet (fail)
      go_wp2_with fail
      go_quiet (fail)
      go_wp2_with fail
      go_ret
      exact ⟨by rw [hfin.out]; rfl,(hf.drewN _).drewN _⟩
     ·have d2:decide (y < x)=false:=decide_eq_false h2
      obtain rfl:x=y:=by omega
      have hb2:=hZ (show xs.drop k=ys.drop k by rw [drop_cons hxk,drop_cons hyk,hb.out])
      go_wp2_with fail
      go_quiet (fail)
      go_wp2_with fail
      go_quiet (fail)
      go_wp2_with fail
      go_roundg k
      case measure=>omega
      case rel=>exact ⟨_,rfl,by omega,by omega,hf.drewN _,hb2⟩
 ·have hne:(((digs u).length:Int) != (digs v).length)=true:=by rw [bne_iff_ne]; omega
  by_cases h1:(digs u).length < (digs v).length
  ·have d1:decide ((digs u).length < (digs v).length)=true:=decide_eq_true h1
   have hfin:=hZ (sgnC_lt (len_mono u v h1))
   clear hlen
   go_enter Tryz.func189,Tryz.ntmps189
   go_wp2_with fail
   go_ret
   exact ⟨by rw [hfin.out]; rfl,Fr.refl _⟩
  ·have d1:decide ((digs u).length < (digs v).length)=false:=decide_eq_false h1
   have hfin:=hZ (sgnC_gt (len_mono v u (by omega)))
   clear hlen
   go_enter Tryz.func189,Tryz.ntmps189
   go_wp2_with fail
   go_ret
   exact ⟨by rw [hfin.out]; rfl,Fr.refl _⟩
def tb (l:List UInt8):ByteArray:=⟨l.toArray⟩
theorem tb_list (l:List UInt8):(tb l).data.toList=l:=by simp [tb]
theorem tb_size (l:List UInt8):(tb l).size=l.length:=by simp [tb,ByteArray.size]
theorem tb_app (a b:List UInt8):tb a ++ tb b=tb (a ++ b):=by
 refine ba_ext ?_
 rw [ByteArray.data_append,Array.toList_append,tb_list,tb_list,tb_list]
theorem tb_extract (l:List UInt8) (i j:Nat):(tb l).extract i j=tb ((l.take j).drop i):=by
 refine ba_ext ?_
 rw [tb_list,ByteArray.data_extract,Array.toList_extract,tb_list]
 rw [List.drop_take]
theorem tx_tb (n:Int):tx n=tb (itoa n):=rfl
def padk:Nat→Nat→List UInt8
 | 0,_=>[]
 | k+1,m=>padk k (m / 10) ++ [UInt8.ofNat (48+m % 10)]
theorem padk_len:∀ (k m:Nat),(padk k m).length=k
 | 0,_=>rfl
 | k+1,m=>by show (padk k (m / 10) ++ [_]).length=k+1; rw [List.length_append,padk_len k]; rfl
theorem dec_big {n:Nat} (h:10≤n):decDigits n=decDigits (n / 10) ++ [UInt8.ofNat (48+n % 10)]:=by
 rw [decDigits,dif_neg (by omega)]
theorem dec_small {n:Nat} (h:n < 10):decDigits n=[UInt8.ofNat (48+n)]:=by rw [decDigits,dif_pos h]
theorem dec_split:∀ (k a m:Nat),0 < a→m < 10 ^ k→decDigits (a * 10 ^ k+m)=decDigits a ++ padk k m
 | 0,a,m,ha,hm=>by
   have hm:m < 1:=hm
   obtain rfl:m=0:=by omega
   show decDigits (a * 1+0)=decDigits a ++ []
   rw [List.append_nil,Nat.add_zero,Nat.mul_one]
 | k+1,a,m,ha,hm=>by
   have e:a * 10 ^ (k+1)=a * 10 ^ k * 10:=by rw [Nat.pow_succ,Nat.mul_assoc]
   have hp:0 < a * 10 ^ k:=Nat.mul_pos ha (Nat.pow_pos (by decide))
   rw [Nat.pow_succ] at hm
   have ih:=dec_split k a (m / 10) ha (by omega)
   rw [e]
   generalize a * 10 ^ k=q at *
   rw [dec_big (n:=q * 10+m) (by omega),show (q * 10+m) / 10=q+m / 10 by omega,show (q * 10+m) % 10=m % 10 by omega,ih,List.append_assoc]
   rfl
theorem padk_zero:∀ k,padk k 0=List.replicate k 48
 | 0=>rfl
 | k+1=>by
   show padk k (0 / 10) ++ [_]=_
   rw [show 0 / 10=0 from rfl,padk_zero k,List.replicate_succ']; rfl
theorem padk_rep:∀ (k m:Nat),1≤k→m < 10 ^ k→padk k m=List.replicate (k - (decDigits m).length) 48 ++ decDigits m
 | 0,m,h,_=>by omega
 | k+1,m,_,hm=>by
   show padk k (m / 10) ++ [_]=_
   by_cases h:m < 10
   ·rw [dec_small h,Nat.div_eq_of_lt h,Nat.mod_eq_of_lt h,padk_zero]; rfl
   ·have hk:1≤k:=by
     by_cases h0:k=0
     ·subst h0; simp at hm; omega
     ·omega
    rw [Nat.pow_succ] at hm
    rw [padk_rep k (m / 10) hk (by omega),dec_big (n:=m) (by omega),List.length_append,List.length_singleton,List.append_assoc,Nat.add_sub_add_right]
theorem dec_len (k m:Nat) (hk:1≤k) (hm:m < 10 ^ k):(decDigits m).length≤k:=by
 rw [decDigits_length]; exact nDigits_le k m hk hm
theorem padk_dig:∀ (k m:Nat),∀ c ∈ padk k m,48≤c.toNat∧c.toNat≤57
 | 0,m=>fun c hc=>by cases hc
 | k+1,m=>fun c hc=>by
   rcases List.mem_append.1 (show c ∈ padk k (m / 10) ++ [_] from hc) with h | h
   ·exact padk_dig k _ c h
   ·simp only [List.mem_singleton] at h; subst h; rw [dig_toNat (m % 10) (by omega)]; omega
theorem padk_val:∀ (k m:Nat),m < 10 ^ k→digVal 0 (padk k m)=m
 | 0,m,h=>by have h:m < 1:=h; show 0=m; omega
 | k+1,m,h=>by
   rw [Nat.pow_succ] at h
   show digVal 0 (padk k (m / 10) ++ [_])=m
   rw [digVal_append,padk_val k (m / 10) (by omega)]
   show m / 10 * 10+((UInt8.ofNat (48+m % 10)).toNat - 48)=m
   rw [dig_toNat (m % 10) (by omega)]; omega
theorem atoi_dig (l:List UInt8) (h0:l≠[]) (hd:∀ c ∈ l,48≤c.toNat∧c.toNat≤57) (hv:digVal 0 l < 1000000000000000000):atoiAll l=.ok (digVal 0 l):=by
 have hp:parseMag l=.ok (digVal 0 l):=by
  unfold parseMag
  rw [if_neg h0,parseUint10_dig _ _ hd (by omega)]
 cases ed:l with
 | nil=>exact absurd ed h0
 | cons c r=>
   have hc:=hd c (by rw [ed]; simp)
   rw [ed] at hp hv
   simp only [atoiAll]
   rw [if_neg (by omega),hp]
   have h45:¬ c.toNat=45:=by omega
   simp only [h45,not_false_eq_true,true_and,false_and,if_false]
   rw [if_neg (by omega)]
def chunks (m:Nat):List Int:=if m < 1000000000 then [(m:Int)] else ((m % 1000000000:Nat):Int) :: chunks (m / 1000000000)
termination_by m
decreasing_by omega
theorem chunks_small {m:Nat} (h:m < 1000000000):chunks m=[(m:Int)]:=by rw [chunks,if_pos h]
theorem chunks_big {m:Nat} (h:1000000000≤m):chunks m=((m % 1000000000:Nat):Int) :: chunks (m / 1000000000):=by rw [chunks,if_neg (by omega)]
theorem chunks_digs:∀ m,0 < m→chunks m=digs m:=fun m=>by
 induction m using Nat.strongRecOn with
 | _ m ih=>
   intro h
   by_cases h9:m < 1000000000
   ·rw [chunks_small h9,digs_one h h9]
   ·rw [chunks_big (by omega),digs_pos h,ih _ (by omega) (by omega)]
theorem chunks_trim (m:Nat):trimL (chunks m)=digs m:=by
 by_cases h:m=0
 ·subst h; rw [chunks_small (by omega),digs_zero]; rfl
 ·rw [chunks_digs m (by omega)]; exact trimL_fix _
theorem dec_nine {m:Nat} (h:1000000000≤m):decDigits m=decDigits (m / 1000000000) ++ padk 9 (m % 1000000000):=by
 have:=dec_split 9 (m / 1000000000) (m % 1000000000) (by omega) (by show _ < 1000000000; omega)
 rw [← this]
 congr 1
 show m=m / 1000000000 * 1000000000+m % 1000000000
 omega
theorem digs_drop:∀ (i n:Nat),(digs n).drop i=digs (n / 1000000000 ^ i)
 | 0,n=>by rw [List.drop_zero,Nat.pow_zero,Nat.div_one]
 | i+1,n=>by
   by_cases h:n=0
   ·subst h; rw [digs_zero,Nat.zero_div,digs_zero,List.drop_nil]
   ·rw [digs_pos (by omega),List.drop_succ_cons,digs_drop i,Nat.div_div_eq_div_mul,Nat.pow_succ,Nat.mul_comm]
def FromI (m r:Nat) (s:List UInt8):Prop:=(r=0∧s=decDigits m)∨(0 < r∧decDigits r ++ s=decDigits m)
theorem FromI.big {m r:Nat} {s:List UInt8} (h:FromI m r s) (hr:1000000000≤r):FromI m (r / 1000000000) (padk 9 (r % 1000000000) ++ s):=by
 rcases h with ⟨h,_⟩ | ⟨h,e⟩
 ·omega
 ·exact .inr ⟨by omega,by rw [← List.append_assoc,← dec_nine hr]; exact e⟩
theorem FromI.last {m r:Nat} {s:List UInt8} (h:FromI m r s) (hr:r < 1000000000) (h0:0 < r):FromI m (r / 1000000000) (decDigits r ++ s):=by
 rcases h with ⟨h,_⟩ | ⟨h,e⟩
 ·omega
 ·exact .inl ⟨by omega,e⟩
theorem pad_text (r:Nat) (h:r < 1000000000):tb (List.replicate (9 - (decDigits r).length) 48) ++ tx (r:Int)=tb (padk 9 r):=by
 rw [tx_tb,itoa_nn (by omega),tb_app,Int.toNat_natCast,← padk_rep 9 r (by omega) h]
def WI (W:World) (z:Int) (v:Value):Prop:=∃ a c,v=.agg #[.bool (decide (z < 0)),.slice a (digs z.natAbs).length c]∧El W iv a (digs z.natAbs)∧(digs z.natAbs).length≤c
theorem WI.fr {W W':World} {z:Int} {v:Value} (h:WI W z v) (k:Fr W W'):WI W' z v:=by
 obtain ⟨a,c,e,h1,h2⟩:=h
 exact ⟨a,c,e,h1.fr k,h2⟩
theorem digs_len_pos {m:Nat}:decide (0 < (digs m).length)=decide (0 < m):=by
 by_cases h:m=0
 ·subst h; rw [digs_zero]; rfl
 ·rw [digs_pos (by omega),decide_eq_true (show 0 < m by omega)]; simp
theorem minusL_len:∀ (a b:List Int) (w:Int),(minusL a b w).length=a.length
 | [],b,w=>by rw [minusL_n]
 | x :: a,[],w=>by rw [minusL_cn,List.length_cons,List.length_cons,minusL_len a]
 | x :: a,y :: b,w=>by rw [minusL_cc,List.length_cons,List.length_cons,minusL_len a]
theorem El.fxr {W W':World} {a:Option Addr} {l:List Int} {r:Nat} (h:El W iv a l) (k:Fx (·=r) W W') (hr:∀ ad,a=some ad→ad.block≠r):El W' iv a l:=by
 rcases h with h | ⟨b,o,ha,hb,hc⟩
 ·exact .inl h
 ·exact .inr ⟨b,o,ha,Nat.lt_of_lt_of_le hb k.size,fun i x hx=>k.keep (hc i x hx) (show b≠r from hr _ ha)⟩
theorem WI.stored {w wb w3:World} {z:Int} {a:Option Addr} {c r:Nat} {W4:World} (hfb:Fr w wb) (hz3:Fr wb w3) (hfx:Fx (·=r) w3 W4) (hr:w.heap.size≤r) (he:El w3 iv a (digs z.natAbs)) (hc:(digs z.natAbs).length≤c) (hb:∀ ad,a=some ad→ad.block≠r) :
 WI W4 z (.agg #[.bool (decide (z < 0)),.slice a (digs z.natAbs).length c])∧Fr w W4 :=
 ⟨⟨a,c,rfl,he.fxr hfx hb,hc⟩,((Fx.of_fr (p:=fun q=>w.heap.size≤q) (hfb.trans hz3)).trans (hfx.mono (fun q e=>by have e:q=r:=e; omega))).toFr (fun q hq e=>by have e:w.heap.size≤q:=e; omega)⟩
theorem trim_dg (neg:Bool) (a:Option Addr) (cap:Nat) (l:List Int) (m:Nat) (z:Int) (w:World) (hel:El w iv a l) (hl:l.length≤1000000) (hc:l.length≤cap) (hm:trimL l=digs m) (hz:z.natAbs=m) (hn:decide (z < 0)=(neg && decide (0 < m))) :
 Calls Tryz.prog 187 #[.agg #[.bool neg,.slice a l.length cap]] w fun e w'=>e=.returned (.agg #[.bool (decide (z < 0)),.slice a (digs z.natAbs).length cap])∧El w' iv a (digs z.natAbs)∧(digs z.natAbs).length≤cap∧Fr w w':=by
 refine (trim_any neg a cap l w hel hl hc).mono ?_
 rintro e w' ⟨rfl,hf⟩
 rw [hm,digs_len_pos,← hn,← hz]
 have hp:(digs z.natAbs)=l.take (digs z.natAbs).length∧(digs z.natAbs).length≤l.length:=by
  rw [hz,← hm]
  clear hel hl hc hm hn
  induction l with
  | nil=>exact ⟨rfl,Nat.le_refl _⟩
  | cons d l ih=>
    show (if trimL l=[]∧d=0 then [] else d :: trimL l)=_∧_
    by_cases h:trimL l=[]∧d=0
    ·simp [trimL,h]
    ·have e:trimL (d :: l)=d :: trimL l:=by show (if trimL l=[]∧d=0 then [] else d :: trimL l)=_; rw [if_neg h]
     rw [if_neg h,e]
     refine ⟨?_,by simp; exact ih.2⟩
     rw [List.length_cons,List.take_succ_cons,← ih.1]
 refine ⟨rfl, ?_,by omega,hf⟩
 rw [hp.1]
 exact (hel.take _).fr hf
theorem AddW_any (x y:Int) (v u:Value) (w:World) (hx:WI w x v) (hy:WI w y u) (hlx:(digs x.natAbs).length≤400000) (hly:(digs y.natAbs).length≤400000) (hls:(digs (x.natAbs+y.natAbs)).length≤1000000) :
 Calls Tryz.prog 133 #[v,u] w fun e w'=>∃ r,e=.returned r∧WI w' (x+y) r∧Fr w w':=by
 obtain ⟨a,ca,rfl,hxe,hxc⟩:=hx
 obtain ⟨b,cb,rfl,hye,hyc⟩:=hy
 have hplus:=fun W (hW:Fr w W)=>plus_any (digs x.natAbs) (digs y.natAbs) a b ca cb W (hxe.fr hW) (hye.fr hW) (digs_dg _) (digs_dg _) (by omega) (by omega)
 have habove:=fun W (hW:Fr w W)=>above_any x.natAbs y.natAbs a b ca cb W (hxe.fr hW) (hye.fr hW) (by omega) (by omega)
 have hminus:=fun W (hW:Fr w W)=>minus_any (digs x.natAbs) (digs y.natAbs) a b ca cb W (hxe.fr hW) (hye.fr hW) (digs_dg _) (digs_dg _) (by omega) (by omega)
 have hminus2:=fun W (hW:Fr w W)=>minus_any (digs y.natAbs) (digs x.natAbs) b a cb ca W (hye.fr hW) (hxe.fr hW) (digs_dg _) (digs_dg _) (by omega) (by omega)
 have e1:plusL (digs x.natAbs) (digs y.natAbs) 0=digs (x.natAbs+y.natAbs):=plusL_digs _ _ _ 0 (Nat.le_refl _) (by omega)
 rw [e1] at hplus
 obtain ⟨wb,hwb⟩:∃ wb,wb=alls w [(.cells #[.bool (decide (x < 0)),.slice a (digs x.natAbs).length ca] 194),(.cells #[.bool (decide (y < 0)),.slice b (digs y.natAbs).length cb] 194),(.cells #[.bool false,.slice none 0 0] 194)]:=⟨_,rfl⟩
 have g0:wb.heap[w.heap.size]?=some (.cells #[.bool (decide (x < 0)),.slice a (digs x.natAbs).length ca] 194 (0,0)):=by rw [hwb]; exact alls_get _ w 0 _ rfl
 have g1:wb.heap[w.heap.size+1]?=some (.cells #[.bool (decide (y < 0)),.slice b (digs y.natAbs).length cb] 194 (0,0)):=by rw [hwb]; exact alls_get _ w 1 _ rfl
 have g2:wb.heap[w.heap.size+1+1]?=some (.cells #[.bool false,.slice none 0 0] 194 (0,0)):=by rw [hwb]; exact alls_get _ w 2 _ rfl
 have hfb:Fr w wb:=by rw [hwb]; exact alls_fr _ w
 have b0:wb.cell? ⟨w.heap.size,0,none⟩=some (.bool (decide (x < 0))):=cells_of g0 0
 have b1:wb.cell? ⟨w.heap.size,1,none⟩=some (.slice a (digs x.natAbs).length ca):=cells_of g0 1
 have b2:wb.cell? ⟨w.heap.size+1,0,none⟩=some (.bool (decide (y < 0))):=cells_of g1 0
 have b3:wb.cell? ⟨w.heap.size+1,1,none⟩=some (.slice b (digs y.natAbs).length cb):=cells_of g1 1
 have b4:wb.cell? ⟨w.heap.size+1+1,0,none⟩=some (.bool false):=cells_of g2 0
 have b5:wb.cell? ⟨w.heap.size+1+1,1,none⟩=some (.slice none 0 0):=cells_of g2 1
 have b6:wb.frozen? ⟨w.heap.size+1+1,0,none⟩=false:=by unfold World.frozen?; rw [g2]; rfl
 have b7:wb.frozen? ⟨w.heap.size+1+1,1,none⟩=false:=by unfold World.frozen?; rw [g2]; rfl
 have hsb:wb.heap.size=w.heap.size+1+1+1:=by rw [hwb]; simp [alls]
 by_cases hs:decide (x < 0)=decide (y < 0)
 ·have hz:(x+y).natAbs=x.natAbs+y.natAbs∧decide (x+y < 0)=(decide (x < 0) && decide (0 < x.natAbs+y.natAbs)):=by
   by_cases h1:x < 0
   ·have h2:y < 0:=by rw [decide_eq_true h1] at hs; exact of_decide_eq_true hs.symm
    exact ⟨by omega,by rw [decide_eq_true h1,decide_eq_true (show x+y < 0 by omega),decide_eq_true (show 0 < x.natAbs+y.natAbs by omega)]; rfl⟩
   ·have h2:¬ y < 0:=by rw [decide_eq_false h1] at hs; exact of_decide_eq_false hs.symm
    exact ⟨by omega,by rw [decide_eq_false h1,decide_eq_false (show ¬ x+y < 0 by omega)]; rfl⟩
  have htrim:=fun a c W (h1:El W iv a (digs (x.natAbs+y.natAbs))) h2=>trim_dg (decide (x < 0)) a c (digs (x.natAbs+y.natAbs)) (x.natAbs+y.natAbs) (x+y) W h1 hls h2 (trimL_fix _) hz.1 hz.2
  rw [← hs] at b2 hwb ⊢
  clear hz hminus hminus2 habove e1 hxe hye g0 g1 g2 hs
  generalize decide (x < 0)=sg at *
  generalize (digs x.natAbs).length=nx at *
  generalize (digs y.natAbs).length=ny at *
  replace hplus:=hZ hplus
  replace htrim:=hZ htrim
  have hfb:=hfb
  generalize (digs (x.natAbs+y.natAbs)).length=ns at *
  go_enter Tryz.func133,Tryz.ntmps133
  go_upto_region 2 with (fail)
  change Code.wp _ _ _ _ (alls w [(.cells #[.bool sg,.slice a nx ca] 194),(.cells #[.bool sg,.slice b ny cb] 194),(.cells #[.bool false,.slice none 0 0] 194)])
  rw [← hwb]
  clear hwb
  have n1:w.heap.size≠w.heap.size+1+1:=by omega
  have n2:w.heap.size+1+1≠w.heap.size:=by omega
  go_region_held3 (fun w'=>w'.cell? ⟨w.heap.size,0,none⟩=some (.bool sg)∧w'.cell? ⟨w.heap.size,1,none⟩=some (.slice a nx ca)∧w'.cell? ⟨w.heap.size+1,0,none⟩=some (.bool sg)∧w'.cell? ⟨w.heap.size+1,1,none⟩=some (.slice b ny cb))
   (first | go_keep | (go_split_ands; refine ⟨?_, ?_, ?_, ?_⟩ <;> (refine Fr.keep (by assumption) ?_; assumption)) | (go_split_ands; all_goals (refine Fx.keep qs.out.2.2.2 ?_ ?_; first | assumption | (refine Fr.keep (by assumption) ?_; assumption); show ¬ _=_; omega)))
   (first
    | (go_at_call 188; (with_reducible refine (hplus.out _ ?_).mono ?_); (exact fr9); rintro e w2 ⟨a2,c2,rfl,he2,hc2,hf2,hb2⟩; replace hb2:=hZ hb2)
    | (go_at_call 187; (with_reducible refine (htrim.out _ _ _ he2 hc2).mono ?_); rintro e w3 ⟨rfl,he3,hc3,hf3⟩; have hz3:Fr wb w3:=(by exact fr9); have q4:=hz3.keep b4; have q5:=hz3.keep b5; have q6:=hz3.keepf b4 b6; have q7:=hz3.keepf b5 b7; have qs:=two_store w3 (w.heap.size+1+1) (.bool (decide (x+y < 0))) (.slice a2 (digs (x+y).natAbs).length c2) _ _ q4 q5; have q8:=qs.2.2.1; have qs:=hZ qs))
  all_goals
   have hfin:=hZ (WI.stored hfb hz3 qs.out.2.2.2 (by omega) he3 hc3 (fun ad e=>by have h9:=hb2.out ad e; simp at h9; omega))
   have u0:=qs.out.1
   have u1:=qs.out.2.1
   replace u0:=hZ u0
   replace u1:=hZ u1
   clear qs q4 q5 q6 q7 q8
   go_wp2_with fail
   have v0:=u0.out
   have v1:=u1.out
   refine bodyPost_ret (v:=.agg #[.bool (decide (x+y < 0)),.slice a2 (digs (x+y).natAbs).length c2]) (by simp [results,Tryz.results133,go_sem,v0,v1]) rfl ⟨_,rfl,hfin.out⟩
 ·have hs2:(decide (x < 0) == decide (y < 0))=false:=by rw [beq_eq_false_iff_ne]; exact hs
  have hx0:¬ (x < 0∧y < 0)∧¬ (¬ x < 0∧¬ y < 0):=⟨fun h=>hs (by rw [decide_eq_true h.1,decide_eq_true h.2]),fun h=>hs (by rw [decide_eq_false h.1,decide_eq_false h.2])⟩
  by_cases hxy:y.natAbs≤x.natAbs
  ·have d1:decide ((0:Int)≤sgnC x.natAbs y.natAbs)=true:=decide_eq_true (by unfold sgnC; rw [if_neg (by omega)]; split <;> omega)
   have hz:(x+y).natAbs=x.natAbs - y.natAbs∧decide (x+y < 0)=(decide (x < 0) && decide (0 < x.natAbs - y.natAbs)):=by
    refine ⟨by omega, ?_⟩
    by_cases h1:x < 0
    ·rw [decide_eq_true h1,Bool.true_and]; exact decide_eq_decide.2 (by omega)
    ·rw [decide_eq_false h1,Bool.false_and]; exact decide_eq_false (by omega)
   have em:trimL (minusL (digs x.natAbs) (digs y.natAbs) 0)=digs (x.natAbs - y.natAbs):=by have:=minusL_digs x.natAbs y.natAbs 0 (by omega) (by omega); rw [Nat.sub_zero] at this; exact this
   have hml:=minusL_len (digs x.natAbs) (digs y.natAbs) 0
   have htrim:=fun a c W (h1:El W iv a (minusL (digs x.natAbs) (digs y.natAbs) 0)) h2=>trim_dg (decide (x < 0)) a c (minusL (digs x.natAbs) (digs y.natAbs) 0) (x.natAbs - y.natAbs) (x+y) W h1 (by omega) h2 em hz.1 hz.2
   simp only [hml] at hminus htrim
   clear hml hz hplus hminus2 e1 hxe hye g0 g1 g2 hs em hxy hx0
   generalize decide (x < 0)=sg at *
   generalize decide (y < 0)=sh at *
   generalize sgnC x.natAbs y.natAbs=sc at *
   generalize minusL (digs x.natAbs) (digs y.natAbs) 0=ml at *
   generalize (digs x.natAbs).length=nx at *
   generalize (digs y.natAbs).length=ny at *
   replace hminus:=hZ hminus
   replace habove:=hZ habove
   replace htrim:=hZ htrim
   go_enter Tryz.func133,Tryz.ntmps133
   go_upto_region 3 with (fail)
   change Code.wp _ _ _ _ (alls w [(.cells #[.bool sg,.slice a nx ca] 194),(.cells #[.bool sh,.slice b ny cb] 194),(.cells #[.bool false,.slice none 0 0] 194)])
   rw [← hwb]
   clear hwb
   have n1:w.heap.size≠w.heap.size+1+1:=by omega
   have n2:w.heap.size+1+1≠w.heap.size:=by omega
   go_wp2_with fail
   refine (habove.out wb hfb).mono ?_
   rintro e w1 ⟨rfl,hf1⟩
   replace b0:=hf1.keep b0
   replace b1:=hf1.keep b1
   replace b2:=hf1.keep b2
   replace b3:=hf1.keep b3
   replace b6:=hf1.keepf b4 b6
   replace b7:=hf1.keepf b5 b7
   replace b4:=hf1.keep b4
   replace b5:=hf1.keep b5
   have hsb1:=hf1.size
   have hfb1:=hfb.trans hf1
   clear hf1
   go_wp2_with fail
   go_region_held3 (fun w'=>w'.cell? ⟨w.heap.size,0,none⟩=some (.bool sg)∧w'.cell? ⟨w.heap.size,1,none⟩=some (.slice a nx ca)∧w'.cell? ⟨w.heap.size+1,0,none⟩=some (.bool sh)∧w'.cell? ⟨w.heap.size+1,1,none⟩=some (.slice b ny cb))
    (first | go_keep | (go_split_ands; refine ⟨?_, ?_, ?_, ?_⟩ <;> (refine Fr.keep (by assumption) ?_; assumption)) | (go_split_ands; all_goals (refine Fx.keep qs.out.2.2.2 ?_ ?_; first | assumption | (refine Fr.keep (by assumption) ?_; assumption); show ¬ _=_; omega)))
    (first
     | (go_at_call 190; (with_reducible refine (hminus.out _ ?_).mono ?_); (exact fr9); rintro e w2 ⟨a2,c2,rfl,he2,hc2,hf2,hb2⟩; replace hb2:=hZ hb2)
     | (go_at_call 187; (with_reducible refine (htrim.out _ _ _ he2 hc2).mono ?_); rintro e w3 ⟨rfl,he3,hc3,hf3⟩; have hz3:Fr w1 w3:=(by exact fr9); have q4:=hz3.keep b4; have q5:=hz3.keep b5; have q6:=hz3.keepf b4 b6; have q7:=hz3.keepf b5 b7; have qs:=two_store w3 (w.heap.size+1+1) (.bool (decide (x+y < 0))) (.slice a2 (digs (x+y).natAbs).length c2) _ _ q4 q5; have q8:=qs.2.2.1; have qs:=hZ qs))
   all_goals
    have hfin:=hZ (WI.stored hfb1 hz3 qs.out.2.2.2 (by omega) he3 hc3 (fun ad e=>by have h9:=hb2.out ad e; simp at h9; omega))
    have u0:=qs.out.1
    have u1:=qs.out.2.1
    replace u0:=hZ u0
    replace u1:=hZ u1
    clear qs q4 q5 q6 q7 q8
    go_wp2_with fail
    have v0:=u0.out
    have v1:=u1.out
    refine bodyPost_ret (v:=.agg #[.bool (decide (x+y < 0)),.slice a2 (digs (x+y).natAbs).length c2]) (by simp [results,Tryz.results133,go_sem,v0,v1]) rfl ⟨_,rfl,hfin.out⟩
  ·have d1:decide ((0:Int)≤sgnC x.natAbs y.natAbs)=false:=decide_eq_false (by unfold sgnC; rw [if_pos (by omega)]; omega)
   have hz:(x+y).natAbs=y.natAbs - x.natAbs∧decide (x+y < 0)=(decide (y < 0) && decide (0 < y.natAbs - x.natAbs)):=by
    refine ⟨by omega, ?_⟩
    by_cases h1:y < 0
    ·rw [decide_eq_true h1,Bool.true_and]; exact decide_eq_decide.2 (by omega)
    ·rw [decide_eq_false h1,Bool.false_and]; exact decide_eq_false (by omega)
   have em:trimL (minusL (digs y.natAbs) (digs x.natAbs) 0)=digs (y.natAbs - x.natAbs):=by have:=minusL_digs y.natAbs x.natAbs 0 (by omega) (by omega); rw [Nat.sub_zero] at this; exact this
   have hml:=minusL_len (digs y.natAbs) (digs x.natAbs) 0
   have htrim:=fun a c W (h1:El W iv a (minusL (digs y.natAbs) (digs x.natAbs) 0)) h2=>trim_dg (decide (y < 0)) a c (minusL (digs y.natAbs) (digs x.natAbs) 0) (y.natAbs - x.natAbs) (x+y) W h1 (by omega) h2 em hz.1 hz.2
   simp only [hml] at hminus2 htrim
   clear hml hz hplus hminus e1 hxe hye g0 g1 g2 hs em hxy hx0
   generalize decide (x < 0)=sg at *
   generalize decide (y < 0)=sh at *
   generalize sgnC x.natAbs y.natAbs=sc at *
   generalize minusL (digs y.natAbs) (digs x.natAbs) 0=ml at *
   generalize (digs x.natAbs).length=nx at *
   generalize (digs y.natAbs).length=ny at *
   have hminus:=hZ hminus2
   clear hminus2
   replace habove:=hZ habove
   replace htrim:=hZ htrim
   go_enter Tryz.func133,Tryz.ntmps133
   go_upto_region 3 with (fail)
   change Code.wp _ _ _ _ (alls w [(.cells #[.bool sg,.slice a nx ca] 194),(.cells #[.bool sh,.slice b ny cb] 194),(.cells #[.bool false,.slice none 0 0] 194)])
   rw [← hwb]
   clear hwb
   have n1:w.heap.size≠w.heap.size+1+1:=by omega
   have n2:w.heap.size+1+1≠w.heap.size:=by omega
   go_wp2_with fail
   refine (habove.out wb hfb).mono ?_
   rintro e w1 ⟨rfl,hf1⟩
   replace b0:=hf1.keep b0
   replace b1:=hf1.keep b1
   replace b2:=hf1.keep b2
   replace b3:=hf1.keep b3
   replace b6:=hf1.keepf b4 b6
   replace b7:=hf1.keepf b5 b7
   replace b4:=hf1.keep b4
   replace b5:=hf1.keep b5
   have hsb1:=hf1.size
   have hfb1:=hfb.trans hf1
   clear hf1
   go_wp2_with fail
   go_region_held3 (fun w'=>w'.cell? ⟨w.heap.size,0,none⟩=some (.bool sg)∧w'.cell? ⟨w.heap.size,1,none⟩=some (.slice a nx ca)∧w'.cell? ⟨w.heap.size+1,0,none⟩=some (.bool sh)∧w'.cell? ⟨w.heap.size+1,1,none⟩=some (.slice b ny cb))
    (first | go_keep | (go_split_ands; refine ⟨?_, ?_, ?_, ?_⟩ <;> (refine Fr.keep (by assumption) ?_; assumption)) | (go_split_ands; all_goals (refine Fx.keep qs.out.2.2.2 ?_ ?_; first | assumption | (refine Fr.keep (by assumption) ?_; assumption); show ¬ _=_; omega)))
    (first
     | (go_at_call 190; (with_reducible refine (hminus.out _ ?_).mono ?_); (exact fr9); rintro e w2 ⟨a2,c2,rfl,he2,hc2,hf2,hb2⟩; replace hb2:=hZ hb2)
     | (go_at_call 187; (with_reducible refine (htrim.out _ _ _ he2 hc2).mono ?_); rintro e w3 ⟨rfl,he3,hc3,hf3⟩; have hz3:Fr w1 w3:=(by exact fr9); have q4:=hz3.keep b4; have q5:=hz3.keep b5; have q6:=hz3.keepf b4 b6; have q7:=hz3.keepf b5 b7; have qs:=two_store w3 (w.heap.size+1+1) (.bool (decide (x+y < 0))) (.slice a2 (digs (x+y).natAbs).length c2) _ _ q4 q5; have q8:=qs.2.2.1; have qs:=hZ qs))
   all_goals
    have hfin:=hZ (WI.stored hfb1 hz3 qs.out.2.2.2 (by omega) he3 hc3 (fun ad e=>by have h9:=hb2.out ad e; simp at h9; omega))
    have u0:=qs.out.1
    have u1:=qs.out.2.1
    replace u0:=hZ u0
    replace u1:=hZ u1
    clear qs q4 q5 q6 q7 q8
    go_wp2_with fail
    have v0:=u0.out
    have v1:=u1.out
    refine bodyPost_ret (v:=.agg #[.bool (decide (x+y < 0)),.slice a2 (digs (x+y).natAbs).length c2]) (by simp [results,Tryz.results133,go_sem,v0,v1]) rfl ⟨_,rfl,hfin.out⟩
theorem El.fxc {W W':World} {a:Option Addr} {l:List Int} {r:Nat} {p:Bool} {s1:Option Addr} {s2 s3:Nat} {t:TypeId} (h:El W iv a l) (k:Fx (·=r) W W') (hc:W.heap[r]?=some (.cells #[.bool p,.slice s1 s2 s3] t (0,0))):El W' iv a l:=by
 rcases h with h | ⟨b,o,ha,hb,hx⟩
 ·exact .inl h
 ·by_cases hl:l=[]
  ·exact .inl hl
  ·refine .inr ⟨b,o,ha,Nat.lt_of_lt_of_le hb k.size,fun i x hx2=>k.keep (hx i x hx2) ?_⟩
   intro e
   have e:b=r:=e
   subst e
   have h1:=hx i x hx2
   match hq:o+i with
   | 0=>rw [hq,cells_of hc] at h1; exact absurd h1 (by simp [iv])
   | 1=>rw [hq,cells_of hc] at h1; exact absurd h1 (by simp [iv])
   | q+2=>rw [hq,cells_of hc] at h1; exact absurd h1 (by simp)
theorem WI.storedc {w wb w3 W4:World} {z:Int} {r:Nat} {p:Bool} {s1:Option Addr} {s2 s3:Nat} {t:TypeId} {v:Value} (hfb:Fr w wb) (hz3:Fr wb w3) (hfx:Fx (·=r) w3 W4) (hr:w.heap.size≤r) (h:WI w3 z v) (hc:w3.heap[r]?=some (.cells #[.bool p,.slice s1 s2 s3] t (0,0))):WI W4 z v∧Fr w W4:=by
 obtain ⟨a,c,e,h1,h2⟩:=h
 exact ⟨⟨a,c,e,h1.fxc hfx hc,h2⟩,((Fx.of_fr (p:=fun q=>w.heap.size≤q) (hfb.trans hz3)).trans (hfx.mono (fun q e=>by have e:q=r:=e; omega))).toFr (fun q hq e=>by have e:w.heap.size≤q:=e; omega)⟩

def rowL (d:Int):List Int→List Int→Int→List Int
 | [],_,_=>[]
 | o :: os,[],c=>if 0 < c then ((c+o) % 1000000000) :: rowL d os [] ((c+o) / 1000000000) else o :: os
 | o :: os,b :: bs,c=>((c+o+d * b) % 1000000000) :: rowL d os bs ((c+o+d * b) / 1000000000)
theorem rowL_cc (d o b c:Int) (os bs:List Int):rowL d (o :: os) (b :: bs) c=((c+o+d * b) % 1000000000) :: rowL d os bs ((c+o+d * b) / 1000000000):=by rw [rowL]
theorem rowL_cn (d o c:Int) (os:List Int):rowL d (o :: os) [] c=if 0 < c then ((c+o) % 1000000000) :: rowL d os [] ((c+o) / 1000000000) else o :: os:=by rw [rowL]
theorem rowL_n (d c:Int) (bs:List Int):rowL d [] bs c=[]:=by rw [rowL]
def pw:Nat→Int
 | 0=>1
 | n+1=>1000000000 * pw n
theorem pw_pos:∀ n,0 < pw n
 | 0=>by show (0:Int) < 1; omega
 | n+1=>by have:=pw_pos n; show 0 < 1000000000 * pw n; omega
theorem val_lt:∀ {l:List Int},Dg l→val l < pw l.length
 | [],_=>by show (0:Int) < 1; omega
 | d :: l,h=>by
   have h1:=h.cons.1
   have:=val_lt h.cons.2
   show d+1000000000 * val l < 1000000000 * pw l.length
   omega
theorem val_append:∀ (a b:List Int),val (a ++ b)=val a+pw a.length * val b
 | [],b=>by show val b=0+1 * val b; omega
 | d :: a,b=>by
   show d+1000000000 * val (a ++ b)=d+1000000000 * val a+1000000000 * pw a.length * val b
   rw [val_append a b,Int.mul_add,Int.mul_assoc]; omega
def FitW (d:Int) (os bs:List Int) (c:Int):Prop:=val os+d * val bs+c < pw os.length
theorem FitW.step {d o b c:Int} {os bs:List Int} (h:FitW d (o :: os) (b :: bs) c):FitW d os bs ((c+o+d * b) / 1000000000):=by
 unfold FitW at *
 have e:val (o :: os)+d * val (b :: bs)+c=(c+o+d * b)+1000000000 * (val os+d * val bs):=by
  show o+1000000000 * val os+d * (b+1000000000 * val bs)+c=_
  rw [Int.mul_add,Int.mul_left_comm d]; omega
 rw [e] at h
 have h:c+o+d * b+1000000000 * (val os+d * val bs) < 1000000000 * pw os.length:=h
 generalize val os+d * val bs=V at *
 generalize d * b=q at *
 omega
theorem FitW.step0 {d o c:Int} {os:List Int} (h:FitW d (o :: os) [] c):FitW d os [] ((c+o) / 1000000000):=by
 unfold FitW at *
 have h:o+1000000000 * val os+d * 0+c < 1000000000 * pw os.length:=h
 show val os+d * 0+_ < _
 rw [Int.mul_zero] at h ⊢
 omega
theorem FitW.ne {d c:Int} {bs:List Int} (h:FitW d [] bs c) (hd:0≤d) (hb:Dg bs) (hc:0≤c):c=0:=by
 unfold FitW at h
 have h:0+d * val bs+c < 1:=h
 have:=Int.mul_nonneg hd (val_nn hb)
 omega
theorem rowL_len (d:Int):∀ (os bs:List Int) (c:Int),(rowL d os bs c).length=os.length
 | [],bs,c=>by rw [rowL_n]
 | o :: os,[],c=>by
   rw [rowL_cn]
   split
   ·rw [List.length_cons,List.length_cons,rowL_len d os]
   ·rfl
 | o :: os,b :: bs,c=>by rw [rowL_cc,List.length_cons,List.length_cons,rowL_len d os]
theorem rowL_dg {d:Int} (hd:0≤d∧d < 1000000000):∀ (os bs:List Int) (c:Int),Dg os→Dg bs→0≤c→Dg (rowL d os bs c)
 | [],bs,c,_,_,_=>by rw [rowL_n]; intro x hx; simp at hx
 | o :: os,[],c,ho,hb,hc=>by
   rw [rowL_cn]
   have h1:=ho.cons
   split
   ·exact Dg.mk (by omega) (rowL_dg hd os [] _ h1.2 hb (by omega))
   ·exact ho
 | o :: os,b :: bs,c,ho,hb,hc=>by
   rw [rowL_cc]
   have h1:=ho.cons
   have h2:=hb.cons
   have h3:=Int.mul_nonneg hd.1 h2.1.1
   exact Dg.mk (by omega) (rowL_dg hd os bs _ h1.2 h2.2 (by omega))
theorem rowL_val {d:Int} (hd:0≤d):∀ (os bs:List Int) (c:Int),Dg os→Dg bs→0≤c→FitW d os bs c→val (rowL d os bs c)=val os+d * val bs+c
 | [],bs,c,_,hb,hc,h=>by
   rw [rowL_n]
   have h0:=h.ne hd hb hc
   unfold FitW at h
   have h:0+d * val bs+c < 1:=h
   have:=Int.mul_nonneg hd (val_nn hb)
   show (0:Int)=0+d * val bs+c
   omega
 | o :: os,[],c,ho,hb,hc,h=>by
   rw [rowL_cn]
   have h1:=ho.cons
   split
   ·have ih:=rowL_val hd os [] ((c+o) / 1000000000) h1.2 hb (by omega) h.step0
    show (c+o) % 1000000000+1000000000 * val (rowL d os [] ((c+o) / 1000000000))=o+1000000000 * val os+d * 0+c
    rw [ih]
    show (c+o) % 1000000000+1000000000 * (val os+d * 0+(c+o) / 1000000000)=_
    rw [Int.mul_zero]
    omega
   ·show o+1000000000 * val os=o+1000000000 * val os+d * 0+c
    rw [Int.mul_zero]; omega
 | o :: os,b :: bs,c,ho,hb,hc,h=>by
   rw [rowL_cc]
   have h1:=ho.cons
   have h2:=hb.cons
   have h3:=Int.mul_nonneg hd h2.1.1
   have ih:=rowL_val hd os bs ((c+o+d * b) / 1000000000) h1.2 h2.2 (by omega) h.step
   show (c+o+d * b) % 1000000000+1000000000 * val (rowL d os bs ((c+o+d * b) / 1000000000))=o+1000000000 * val os+d * (b+1000000000 * val bs)+c
   rw [ih,Int.mul_add d,Int.mul_left_comm d]
   generalize d * val bs=q
   generalize d * b=r
   omega
theorem pw_add:∀ (a b:Nat),pw (a+b)=pw a * pw b
 | 0,b=>by rw [Nat.zero_add]; show pw b=1 * pw b; omega
 | a+1,b=>by
   rw [Nat.add_right_comm]
   show 1000000000 * pw (a+b)=1000000000 * pw a * pw b
   rw [pw_add a b,Int.mul_assoc]
theorem pw_mono {a b:Nat} (h:a≤b):pw a≤pw b:=by
 obtain ⟨k,rfl⟩:∃ k,b=a+k:=⟨b - a,by omega⟩
 rw [pw_add]
 have h1:=pw_pos a
 have h2:=pw_pos k
 have:=Int.mul_le_mul_of_nonneg_left (show (1:Int)≤pw k by omega) (Int.le_of_lt h1)
 omega
theorem Dg.take {l:List Int} (h:Dg l) (k:Nat):Dg (l.take k):=fun x hx=>h x (List.mem_of_mem_take hx)
theorem Dg.drop {l:List Int} (h:Dg l) (k:Nat):Dg (l.drop k):=fun x hx=>h x (List.mem_of_mem_drop hx)
structure MulI (xs ys out:List Int) (i:Nat):Prop where
 dg:Dg out
 len:out.length=xs.length+ys.length+1
 vl:val out=val (xs.take i) * val ys
theorem MulI.fit {xs ys out:List Int} {i:Nat} {d:Int} (h:MulI xs ys out i) (hx:Dg xs) (hy:Dg ys) (hd:xs[i]?=some d):FitW d (out.drop i) ys 0:=by
 obtain ⟨hi,he⟩:=List.getElem?_eq_some_iff.1 hd
 obtain ⟨d0,d1⟩:=hx d (List.mem_of_getElem? hd)
 have h1:=val_append (out.take i) (out.drop i)
 rw [List.take_append_drop,h.vl,List.length_take,h.len,Nat.min_eq_left (by omega)] at h1
 have h2:=val_lt (hx.take i)
 rw [List.length_take,Nat.min_eq_left (by omega)] at h2
 have h3:=val_lt hy
 have h4:=val_nn hy
 have h5:=val_nn (h.dg.take i)
 have h6:=val_nn (h.dg.drop i)
 have p1:=pw_pos i
 have p2:=pw_pos ys.length
 have h7:pw i * val (out.drop i) < pw i * pw ys.length:=by
  have a1:val (xs.take i) * val ys≤pw i * val ys:=Int.mul_le_mul_of_nonneg_right (by omega) h4
  have a2:pw i * val ys < pw i * pw ys.length:=Int.mul_lt_mul_of_pos_left h3 p1
  omega
 have h8:val (out.drop i) < pw ys.length:=Int.lt_of_mul_lt_mul_left h7 (Int.le_of_lt p1)
 have h9:d * val ys≤999999999 * val ys:=Int.mul_le_mul_of_nonneg_right (by omega) h4
 have h10:=pw_mono (show ys.length+1≤(out.drop i).length by rw [List.length_drop,h.len]; omega)
 have h11:pw (ys.length+1)=1000000000 * pw ys.length:=rfl
 unfold FitW
 omega
theorem MulI.step {xs ys out:List Int} {i:Nat} {d:Int} (h:MulI xs ys out i) (hx:Dg xs) (hy:Dg ys) (hd:xs[i]?=some d):MulI xs ys (out.take i ++ rowL d (out.drop i) ys 0) (i+1):=by
 have hf:=h.fit hx hy hd
 obtain ⟨hi,he⟩:=List.getElem?_eq_some_iff.1 hd
 obtain ⟨d0,d1⟩:=hx d (List.mem_of_getElem? hd)
 have hl:(out.take i).length=i:=by rw [List.length_take,h.len]; omega
 refine ⟨?_, ?_, ?_⟩
 ·intro x hx'
  rcases List.mem_append.1 hx' with h1 | h1
  ·exact h.dg.take i x h1
  ·exact rowL_dg ⟨d0,d1⟩ _ _ _ (h.dg.drop i) hy (Int.le_refl _) x h1
 ·rw [List.length_append,hl,rowL_len,List.length_drop,h.len]; omega
 ·have h1:=val_append (out.take i) (out.drop i)
  rw [List.take_append_drop,h.vl,hl] at h1
  have h2:xs.take (i+1)=xs.take i ++ [d]:=by rw [List.take_add_one,hd]; rfl
  rw [val_append,rowL_val d0 _ _ _ (h.dg.drop i) hy (Int.le_refl _) hf,hl,h2,val_append,List.length_take,Nat.min_eq_left (by omega)]
  show val (out.take i)+pw i * (val (out.drop i)+d * val ys+0)=(val (xs.take i)+pw i * (d+1000000000 * 0)) * val ys
  rw [Int.add_zero,Int.mul_zero,Int.add_zero,Int.mul_add,Int.add_mul,← Int.add_assoc,← h1,Int.mul_assoc]
def OwnJ (w:World) (b:Nat) (xs:List Int):Prop :=
 b < w.heap.size∧∀ j x,xs[j]?=some x→w.cell? ⟨b,j,none⟩=some (iv x)∧w.frozen? ⟨b,j,none⟩=false
theorem OwnJ.fx {p:Nat→Prop} {w w':World} {b:Nat} {xs:List Int} (h:OwnJ w b xs) (k:Fx p w w') (hp:¬ p b):OwnJ w' b xs :=
 ⟨Nat.lt_of_lt_of_le h.1 k.size,fun j x hx=>by rw [k.cell h.1 hp,k.frozen h.1 hp]; exact h.2 j x hx⟩
theorem OwnJ.fr {w w':World} {b:Nat} {xs:List Int} (h:OwnJ w b xs) (k:Fr w w'):OwnJ w' b xs :=
 h.fx (p:=fun _=>False) (Fx.of_fr k) (fun e=>e)
theorem OwnJ.set {w:World} {b:Nat} {xs:List Int} (h:OwnJ w b xs) {k:Nat} (hk:k < xs.length) (x:Int):OwnJ (w.setCell ⟨b,k,none⟩ (iv x)) b (xs.set k x):=by
 obtain ⟨h2,h3⟩:=h
 refine ⟨by simpa [World.setCell] using h2,fun j y hy=>?_⟩
 rw [World.frozen?_setCell]
 rw [List.getElem?_set] at hy
 by_cases e:k=j
 ·subst e
  rw [if_pos rfl,if_pos hk] at hy
  injection hy with hy; subst hy
  have h4:=h3 k xs[k] (List.getElem?_eq_getElem hk)
  exact ⟨World.cell?_setCell_same' _ _ _ (by rw [h4.1]; rfl),h4.2⟩
 ·rw [if_neg e] at hy
  have h4:=h3 j y hy
  refine ⟨?_,h4.2⟩
  rw [World.cell?_setCell_other w ⟨b,k,none⟩ ⟨b,j,none⟩ _ (fun e2=>by injection e2 with e3 e4; omega)]
  exact h4.1
theorem OwnJ.el {w:World} {b:Nat} {xs:List Int} (h:OwnJ w b xs):El w iv (some ⟨b,0,none⟩) xs :=
 .inr ⟨b,0,rfl,h.1,fun i x hx=>by rw [Nat.zero_add]; exact (h.2 i x hx).1⟩
structure RowI (d:Int) (pre F:List Int) (i N:Nat) (ys:List Int) (k:Nat) (c:Int) (cur:List Int):Prop where
 len:cur.length=N
 dg:Dg cur
 fit:FitW d (cur.drop (i+k)) (ys.drop k) c
 eq:cur.take (i+k) ++ rowL d (cur.drop (i+k)) (ys.drop k) c=pre ++ F
theorem set_take {l:List Int} {j:Nat} (h:j < l.length) (v:Int):(l.set j v).take (j+1)=l.take j ++ [v]:=by
 rw [List.take_add_one,List.take_set_of_le (Nat.le_refl _),List.getElem?_set_self h]; rfl
theorem set_drop {l:List Int} {j:Nat} (v:Int):(l.set j v).drop (j+1)=l.drop (j+1):=by
 rw [List.drop_set_of_lt (by omega)]
theorem Dg.set {l:List Int} (h:Dg l) (j:Nat) {v:Int} (hv:0≤v∧v < 1000000000):Dg (l.set j v):=fun x hx=>by
 rcases List.mem_or_eq_of_mem_set hx with h1 | rfl
 ·exact h x h1
 ·exact hv
theorem RowI.at {d:Int} {pre F:List Int} {i N:Nat} {ys:List Int} {k:Nat} {c:Int} {cur:List Int} (h:RowI d pre F i N ys k c cur) (hd:0≤d) (hy:Dg ys) (hc:0≤c) (hk:k < ys.length∧i+ys.length < N∨0 < c):i+k < N:=by
 rcases hk with h1 | h1
 ·omega
 ·by_cases hl:i+k < N
  ·exact hl
  ·have h2:=h.fit
   rw [List.drop_eq_nil_of_le (by rw [h.len]; omega)] at h2
   have:=h2.ne hd (hy.drop k) hc
   omega
theorem RowI.step1 {d:Int} {pre F:List Int} {i N:Nat} {ys:List Int} {k:Nat} {c b o:Int} {cur:List Int} (h:RowI d pre F i N ys k c cur) (hb:ys[k]?=some b) (ho:cur[i+k]?=some o) :
 RowI d pre F i N ys (k+1) ((c+o+d * b) / 1000000000) (cur.set (i+k) ((c+o+d * b) % 1000000000)):=by
 have hl:=(List.getElem?_eq_some_iff.1 ho).1
 have h1:=h.fit
 have h2:=h.eq
 rw [drop_cons ho,drop_cons hb] at h1 h2
 refine ⟨by rw [List.length_set]; exact h.len,h.dg.set _ (by omega), ?_, ?_⟩
 ·rw [← Nat.add_assoc,set_drop]; exact h1.step
 ·rw [← Nat.add_assoc,set_drop,set_take hl,← h2,rowL_cc,List.append_assoc]; rfl
theorem RowI.step0 {d:Int} {pre F:List Int} {i N:Nat} {ys:List Int} {k:Nat} {c o:Int} {cur:List Int} (h:RowI d pre F i N ys k c cur) (hc:0 < c) (hb:ys.length≤k) (ho:cur[i+k]?=some o) :
 RowI d pre F i N ys (k+1) ((c+o) / 1000000000) (cur.set (i+k) ((c+o) % 1000000000)):=by
 have hl:=(List.getElem?_eq_some_iff.1 ho).1
 have h1:=h.fit
 have h2:=h.eq
 rw [drop_cons ho,List.drop_eq_nil_of_le hb] at h1 h2
 refine ⟨by rw [List.length_set]; exact h.len,h.dg.set _ (by omega), ?_, ?_⟩
 ·rw [← Nat.add_assoc,set_drop,show ys.drop (k+1)=[] from List.drop_eq_nil_of_le (by omega)]; exact h1.step0
 ·rw [← Nat.add_assoc,set_drop,set_take hl,← h2,show ys.drop (k+1)=[] from List.drop_eq_nil_of_le (by omega),rowL_cn,if_pos hc,List.append_assoc]; rfl
theorem RowI.fin {d:Int} {pre F:List Int} {i N:Nat} {ys:List Int} {k:Nat} {cur:List Int} (h:RowI d pre F i N ys k 0 cur) (hb:ys.length≤k):cur=pre ++ F:=by
 rw [← h.eq,List.drop_eq_nil_of_le hb]
 have e:rowL d (cur.drop (i+k)) [] 0=cur.drop (i+k):=by
  cases cur.drop (i+k) with
  | nil=>rw [rowL_n]
  | cons o os=>rw [rowL_cn,if_neg (by omega)]
 rw [e,List.take_append_drop]
theorem RowI.start {d:Int} {out ys:List Int} {i N:Nat} (hl:out.length=N) (hg:Dg out) (hf:FitW d (out.drop i) ys 0):RowI d (out.take i) (rowL d (out.drop i) ys 0) i N ys 0 0 out :=
 ⟨hl,hg,hf,rfl⟩
theorem MulI.zero (xs ys:List Int):MulI xs ys (List.replicate (xs.length+ys.length+1) 0) 0:=by
 refine ⟨fun x hx=>by have:=List.eq_of_mem_replicate hx; omega,List.length_replicate, ?_⟩
 have:∀ n,val (List.replicate n 0)=0:=fun n=>by
  induction n with
  | zero=>rfl
  | succ n ih=>show (0:Int)+1000000000 * val (List.replicate n 0)=0; rw [ih]; rfl
 rw [this]
 show (0:Int)=0 * val ys
 rw [Int.zero_mul]
theorem made_rep (v:Value) (n:Nat):(madeCells #[v] n).toList=List.replicate n v:=by
 refine List.ext_getElem? (fun i=>?_)
 by_cases hi:i < n
 ·simp [madeCells,hi,Nat.mod_one]
 ·simp [madeCells,hi]
theorem rep_own {w2:World} {b n:Nat} {base:Nat} {e:TypeId} {z:Value} (hz:z.cells=#[iv 0]) (h:w2.ownsRow base e 1 (.slice (some ⟨b,0,none⟩) n n) n (madeCells z.cells (n * 1)).toList):OwnJ w2 b (List.replicate n 0):=by
 obtain ⟨h1,h2,h3⟩:=ownsRow_whole h
 have hL:(madeCells z.cells (n * 1)).toList=List.replicate n (iv 0):=by
  rw [hz,Nat.mul_one]
  exact made_rep _ n
 rw [hL] at h1
 refine ⟨lt_of_heap h1,fun j x hx=>?_⟩
 have hj:j < n:=by simpa using (List.getElem?_eq_some_iff.1 hx).1
 have hx0:x=0:=List.eq_of_mem_replicate (List.mem_of_getElem? hx)
 subst hx0
 exact ⟨by rw [cells_of h1 j]; simp [hj],by unfold World.frozen?; rw [h1]; rfl⟩
theorem mul_sign (x y:Int):decide (x * y < 0)=((!decide (x < 0) == decide (y < 0)) && decide (0 < (x * y).natAbs)):=by
 by_cases h1:x < 0 <;> by_cases h2:y < 0
 ·have:=Int.mul_pos_of_neg_of_neg h1 h2
  rw [decide_eq_true h1,decide_eq_true h2,decide_eq_false (by omega)]; rfl
 ·have:=Int.mul_le_mul_of_nonneg_right (show x≤0 by omega) (show 0≤y by omega)
  rw [Int.zero_mul] at this
  rw [decide_eq_true h1,decide_eq_false h2]
  show decide (x * y < 0)=(true && decide (0 < (x * y).natAbs))
  rw [Bool.true_and]
  exact decide_eq_decide.2 (by omega)
 ·have:=Int.mul_le_mul_of_nonneg_left (show y≤0 by omega) (show 0≤x by omega)
  rw [Int.mul_zero] at this
  rw [decide_eq_false h1,decide_eq_true h2]
  show decide (x * y < 0)=(true && decide (0 < (x * y).natAbs))
  rw [Bool.true_and]
  exact decide_eq_decide.2 (by omega)
 ·have:=Int.mul_nonneg (show 0≤x by omega) (show 0≤y by omega)
  rw [decide_eq_false h1,decide_eq_false h2,decide_eq_false (show ¬ x * y < 0 by omega)]; rfl
structure MC (W:World) (p:Nat) (sg sh:Bool) (va vb:Value):Prop where
 c0:W.cell? ⟨p,0,none⟩=some (.bool sg)
 c1:W.cell? ⟨p,1,none⟩=some va
 c2:W.cell? ⟨p+1,0,none⟩=some (.bool sh)
 c3:W.cell? ⟨p+1,1,none⟩=some vb
 c4:W.cell? ⟨p+1+1,0,none⟩=some (.bool false)
 c5:W.cell? ⟨p+1+1,1,none⟩=some (.slice none 0 0)
 c6:W.frozen? ⟨p+1+1,0,none⟩=false
 c7:W.frozen? ⟨p+1+1,1,none⟩=false
theorem MC.fr {W W':World} {p:Nat} {sg sh:Bool} {va vb:Value} (h:MC W p sg sh va vb) (k:Fr W W'):MC W' p sg sh va vb :=
 ⟨k.keep h.c0,k.keep h.c1,k.keep h.c2,k.keep h.c3,k.keep h.c4,k.keep h.c5,k.keepf h.c4 h.c6,k.keepf h.c5 h.c7⟩
theorem MulW_any (x y:Int) (v u:Value) (w:World) (hx:WI w x v) (hy:WI w y u) (hlx:(digs x.natAbs).length≤400000) (hly:(digs y.natAbs).length≤400000) :
 Calls Tryz.prog 134 #[v,u] w fun e w'=>∃ r,e=.returned r∧WI w' (x * y) r∧Fr w w':=by
 obtain ⟨a,ca,rfl,hxe,hxc⟩:=hx
 obtain ⟨b,cb,rfl,hye,hyc⟩:=hy
 obtain ⟨wb,hwb⟩:∃ wb,wb=alls w [(.cells #[.bool (decide (x < 0)),.slice a (digs x.natAbs).length ca] 194),(.cells #[.bool (decide (y < 0)),.slice b (digs y.natAbs).length cb] 194),(.cells #[.bool false,.slice none 0 0] 194)]:=⟨_,rfl⟩
 have g0:wb.heap[w.heap.size]?=some (.cells #[.bool (decide (x < 0)),.slice a (digs x.natAbs).length ca] 194 (0,0)):=by rw [hwb]; exact alls_get _ w 0 _ rfl
 have g1:wb.heap[w.heap.size+1]?=some (.cells #[.bool (decide (y < 0)),.slice b (digs y.natAbs).length cb] 194 (0,0)):=by rw [hwb]; exact alls_get _ w 1 _ rfl
 have g2:wb.heap[w.heap.size+1+1]?=some (.cells #[.bool false,.slice none 0 0] 194 (0,0)):=by rw [hwb]; exact alls_get _ w 2 _ rfl
 have hfb:Fr w wb:=by rw [hwb]; exact alls_fr _ w
 have hsb:wb.heap.size=w.heap.size+1+1+1:=by rw [hwb]; simp [alls]
 have b0:wb.cell? ⟨w.heap.size,0,none⟩=some (.bool (decide (x < 0))):=cells_of g0 0
 have b1:wb.cell? ⟨w.heap.size,1,none⟩=some (.slice a (digs x.natAbs).length ca):=cells_of g0 1
 have b2:wb.cell? ⟨w.heap.size+1,0,none⟩=some (.bool (decide (y < 0))):=cells_of g1 0
 have b3:wb.cell? ⟨w.heap.size+1,1,none⟩=some (.slice b (digs y.natAbs).length cb):=cells_of g1 1
 have b4:wb.cell? ⟨w.heap.size+1+1,0,none⟩=some (.bool false):=cells_of g2 0
 have b5:wb.cell? ⟨w.heap.size+1+1,1,none⟩=some (.slice none 0 0):=cells_of g2 1
 have b6:wb.frozen? ⟨w.heap.size+1+1,0,none⟩=false:=by unfold World.frozen?; rw [g2]; rfl
 have b7:wb.frozen? ⟨w.heap.size+1+1,1,none⟩=false:=by unfold World.frozen?; rw [g2]; rfl
 clear g0 g1 g2
 obtain ⟨sg,hsg⟩:∃ sg,sg=decide (x < 0):=⟨_,rfl⟩
 obtain ⟨sh,hsh⟩:∃ sh,sh=decide (y < 0):=⟨_,rfl⟩
 obtain ⟨xs,hxs⟩:∃ xs,xs=digs x.natAbs:=⟨_,rfl⟩
 obtain ⟨ys,hys⟩:∃ ys,ys=digs y.natAbs:=⟨_,rfl⟩
 obtain ⟨nx,hnx⟩:∃ nx,nx=xs.length:=⟨_,rfl⟩
 obtain ⟨ny,hny⟩:∃ ny,ny=ys.length:=⟨_,rfl⟩
 rw [← hsg,← hxs,← hnx] at hwb
 rw [← hsh,← hys,← hny] at hwb
 rw [← hxs,← hnx] at hlx hxc b1
 rw [← hys,← hny] at hly hyc b3
 rw [← hxs] at hxe
 rw [← hys] at hye
 rw [← hsg] at b0
 rw [← hsh] at b2
 rw [← hsg,← hsh,← hxs,← hys,← hnx,← hny]
 replace hsg:=hZ hsg
 replace hsh:=hZ hsh
 replace hxs:=hZ hxs
 replace hys:=hZ hys
 replace hnx:=hZ hnx
 replace hny:=hZ hny
 replace hxe:=hZ hxe
 replace hye:=hZ hye
 obtain ⟨i0,hi,hz0,hz1,hz2⟩:=info_parts infoInt
 go_enter Tryz.func134,Tryz.ntmps134
 go_upto_region 1 with (fail)
 change Code.wp _ _ _ _ (alls w [(.cells #[.bool sg,.slice a nx ca] 194),(.cells #[.bool sh,.slice b ny cb] 194),(.cells #[.bool false,.slice none 0 0] 194)])
 rw [← hwb]
 clear hwb
 go_wp2_with (at_make; refine wpList_make_full _ rfl _ _ 22 rfl wb.heap.size 3 i0 _ 1 Tryz.underlying22 hi hz0 hz1 _ _ _ _ (nx+ny+1) (by rfl) (by rfl) (by omega) (by omega) (by rw [hz2]; omega) (by unfold maxLen; omega) (Nat.le_refl _) ?_; intro w2 hown2 hgr2)
 have hfw2:Fr wb w2:=(Fr.refl wb).grown hgr2 (fun k e=>by cases e)
 have hown0:OwnJ w2 (w.heap.size+1+1+1) (List.replicate (nx+ny+1) 0):=by
  rw [hsb] at hown2
  exact rep_own rfl hown2
 have hM0:MulI xs ys (List.replicate (nx+ny+1) 0) 0:=by rw [hnx.out,hny.out]; exact MulI.zero xs ys
 replace hown0:=hZ hown0
 replace hM0:=hZ hM0
 replace hsb:=hZ hsb
 have dx:Dg xs:=by rw [hxs.out]; exact digs_dg _
 have dy:Dg ys:=by rw [hys.out]; exact digs_dg _
 replace dx:=hZ dx
 replace dy:=hZ dy
 have hMC:=hZ (MC.mk b0 b1 b2 b3 b4 b5 b6 b7)
 clear hown2 hgr2 b0 b1 b2 b3 b4 b5 b6 b7
 go_loopg [6] nx (fun gk s6 wr=>∃ (i:Nat) (out:List Int),s6=.int .i64 i∧i+gk=nx∧Fr wb wr∧Hid (OwnJ wr (w.heap.size+1+1+1) out)∧Hid (MulI xs ys out i))
 case atStart=>exact ⟨0,_,rfl,by omega,hfw2,hown0,hM0⟩
 case round=>
  clear hown0 hM0 hfw2
  obtain ⟨i,out,rfl,hig,hf,hown,hM⟩:=hrel
  obtain ⟨b0,b1,b2,b3,b4,b5,b6,b7⟩:=hMC.out.fr hf
  by_cases hi1:i < nx
  ·have d1:decide (i < nx)=true:=decide_eq_true hi1
   obtain ⟨xb,xo,d,rfl,-,hxi,hxc0⟩:=(hxe.out.fr (hfb.trans hf)).at (i:=i) (by rw [← hnx.out]; exact hi1)
   obtain ⟨e0,e1⟩:=dx.out d (List.mem_of_getElem? hxi)
   have hfit:=hM.out.fit dx.out dy.out hxi
   have hMs:=hZ (hM.out.step dx.out dy.out hxi)
   have hR0:=hZ (RowI.start (ys:=ys) (d:=d) (i:=i) hM.out.len hM.out.dg hfit)
   replace hxi:=hZ hxi
   clear hfit
   have hNl:=hZ (show xs.length+ys.length+1=nx+ny+1 by rw [hnx.out,hny.out])
   have z0:(0:Int)≤(i:Int):=by omega
   have z1:(i:Int) < (nx:Int):=by omega
   obtain ⟨ko,rfl⟩:∃ ko:Nat,ko=gk:=⟨_,rfl⟩
   go_wp2_with fail
   go_loopg [7,8] (nx+ny+1 - i) (fun gk s7 s8 wr2=>∃ (k:Nat) (c:Int) (cur:List Int),s7=.int .i64 c∧s8=.int .i64 k∧i+k+gk=nx+ny+1∧(0≤c∧c < 1000000000)∧Fr wb wr2∧Hid (OwnJ wr2 (w.heap.size+1+1+1) cur)∧Hid (RowI d (out.take i) (rowL d (out.drop i) ys 0) i (xs.length+ys.length+1) ys k c cur))
   case atStart=>exact ⟨0,0,out,rfl,rfl,by omega,by omega,hf,hown,hR0⟩
   case round=>
    clear hown hR0 hM
    obtain ⟨k,c,cur,rfl,rfl,hkg,⟨hc0,hc1⟩,hf2,hown,hR⟩:=hrel
    clear b0 b1 b2 b3 b4 b5 b6 b7 hxc0
    obtain ⟨b0,b1,b2,b3,b4,b5,b6,b7⟩:=hMC.out.fr hf2
    obtain ⟨xb',xo',d',hae,-,hxi',hxc0⟩:=(hxe.out.fr (hfb.trans hf2)).at (i:=i) (by rw [← hnx.out]; exact hi1)
    injection hae with hae; injection hae with hb9 ho9
    subst hb9; subst ho9
    rw [hxi.out] at hxi'
    injection hxi' with hxi'; subst hxi'
    by_cases hk1:k < ny
    ·have d2:decide (k < ny)=true:=decide_eq_true hk1
     have hN:=hR.out.at e0 dy.out hc0 (.inl ⟨by rw [← hny.out]; exact hk1,by have:=hNl.out; rw [this,← hny.out]; omega⟩)
     rw [hNl.out] at hN
     obtain ⟨yb,yo,y,rfl,-,hyk,hyc0⟩:=(hye.out.fr (hfb.trans hf2)).at (i:=k) (by rw [← hny.out]; exact hk1)
     obtain ⟨y0,y1⟩:=dy.out y (List.mem_of_getElem? hyk)
     obtain ⟨o,ho⟩:∃ o,cur[i+k]?=some o:=⟨_,List.getElem?_eq_getElem (by rw [hR.out.len,hNl.out]; exact hN)⟩
     obtain ⟨o0,o1⟩:=hR.out.dg o (List.mem_of_getElem? ho)
     obtain ⟨w0,w1⟩:=hown.out.2 _ _ ho
     have hRs:=hZ (hR.out.step1 hyk ho)
     have p0:0≤d * y:=Int.mul_nonneg e0 y0
     have p1:d * y≤999999999 * 999999999:=Int.mul_le_mul (by omega) (by omega) y0 (by omega)
     have p2:IntKind.i64.wrap (d * y)=d * y:=IntWalk.i64_in _ (by omega)
     have p3:((i:Int)+(k:Int)).toNat=i+k:=by omega
     have z2:(0:Int)≤(k:Int):=by omega
     have z3:(k:Int) < (ny:Int):=by omega
     have z4:(0:Int)≤(i:Int)+(k:Int):=by omega
     have z5:(i:Int)+(k:Int) < ((nx+ny+1:Nat):Int):=by omega
     replace hyk:=hZ hyk
     replace ho:=hZ ho
     have hlc:=hZ (List.getElem?_eq_some_iff.1 ho.out).1
     go_wp2_with fail
     go_quiet (fail)
     go_wp2_with fail
     go_roundg (gk - 1)
     case measure=>omega
     case rel=>exact ⟨k+1,_,_,rfl,by go_num,by omega,by omega,(hf2.drewN _).setCell (by rw [hsb.out]; exact Nat.le_refl _) _,(hown.out.fr ((Fr.refl _).drewN _)).set hlc.out _,hRs⟩
    ·have d2:decide (k < ny)=false:=decide_eq_false hk1
     by_cases hc:0 < c
     ·have d3:decide (0 < c)=true:=decide_eq_true hc
      have hN:=hR.out.at e0 dy.out hc0 (.inr hc)
      rw [hNl.out] at hN
      obtain ⟨o,ho⟩:∃ o,cur[i+k]?=some o:=⟨_,List.getElem?_eq_getElem (by rw [hR.out.len,hNl.out]; exact hN)⟩
      obtain ⟨o0,o1⟩:=hR.out.dg o (List.mem_of_getElem? ho)
      obtain ⟨w0,w1⟩:=hown.out.2 _ _ ho
      have hRs:=hZ (hR.out.step0 hc (by rw [← hny.out]; omega) ho)
      have p3:((i:Int)+(k:Int)).toNat=i+k:=by omega
      have z2:(0:Int)≤(k:Int):=by omega
      have z4:(0:Int)≤(i:Int)+(k:Int):=by omega
      have z5:(i:Int)+(k:Int) < ((nx+ny+1:Nat):Int):=by omega
      replace ho:=hZ ho
      have hlc:=hZ (List.getElem?_eq_some_iff.1 ho.out).1
      go_wp2_with fail
      go_roundg (gk - 1)
      case measure=>omega
      case rel=>exact ⟨k+1,_,_,rfl,by go_num,by omega,by omega,hf2.setCell (by rw [hsb.out]; exact Nat.le_refl _) _,hown.out.set hlc.out _,hRs⟩
     ·obtain rfl:c=0:=by omega
      have hfin:=hR.out.fin (by rw [← hny.out]; omega)
      have hMs2:=hMs.out
      rw [← hfin] at hMs2
      replace hMs2:=hZ hMs2
      clear hfin
      go_wp2_with fail
      go_roundg (ko - 1)
      case measure=>omega
      case rel=>exact ⟨i+1,cur,by go_num,by omega,hf2,hown,hMs2⟩
  ·have d1:decide (i < nx)=false:=decide_eq_false hi1
   obtain rfl:nx=i:=by omega
   have hol:out.length=nx+ny+1:=by rw [hM.out.len,hnx.out,hny.out]
   have hv:val out=((x * y).natAbs:Int):=by
    rw [hM.out.vl,List.take_of_length_le (by rw [hnx.out]; exact Nat.le_refl _),hxs.out,hys.out,val_digs,val_digs,Int.natAbs_mul,Int.natCast_mul]
   have htr:trimL out=digs (x * y).natAbs:=by rw [trimL_digs hM.out.dg,hv,Int.toNat_natCast]
   have hsn:decide (x * y < 0)=((!sg == sh) && decide (0 < (x * y).natAbs)):=by rw [hsg.out,hsh.out]; exact mul_sign x y
   have htrim:=trim_dg (!sg == sh) (some ⟨w.heap.size+1+1+1,0,none⟩) (nx+ny+1) out _ (x * y) wr hown.out.el (by rw [hol]; omega) (by rw [hol]; exact Nat.le_refl _) htr rfl hsn
   rw [hol] at htrim
   replace htrim:=hZ htrim
   clear hol hv htr hsn
   go_wp2_with fail
   refine htrim.out.mono ?_
   rintro e w3 ⟨rfl,he3,hc3,hf3⟩
   have q4:=hf3.keep b4
   have q5:=hf3.keep b5
   have q6:=hf3.keepf b4 b6
   have q7:=hf3.keepf b5 b7
   have qs:=two_store w3 (w.heap.size+1+1) (.bool (decide (x * y < 0))) (.slice (some ⟨w.heap.size+1+1+1,0,none⟩) (digs (x * y).natAbs).length (nx+ny+1)) _ _ q4 q5
   have q8:=qs.2.2.1
   have qs:=hZ qs
   have hfin:=hZ (WI.stored hfb (hf.trans hf3) qs.out.2.2.2 (by omega) he3 hc3 (fun ad e=>by injection e with e; subst e; show ¬ _=_; simp))
   have u0:=qs.out.1
   have u1:=qs.out.2.1
   replace u0:=hZ u0
   replace u1:=hZ u1
   clear qs b0 b1 b2 b3 b4 b5 b6 b7
   go_wp2_with fail
   have v0:=u0.out
   have v1:=u1.out
   refine bodyPost_ret (v:=.agg #[.bool (decide (x * y < 0)),.slice (some ⟨w.heap.size+1+1+1,0,none⟩) (digs (x * y).natAbs).length (nx+ny+1)]) (by simp [results,Tryz.results134,go_sem,v0,v1]) rfl ⟨_,rfl,hfin.out⟩

theorem trimL_pre (l:List Int):∀ n,n≤l.length→trimL (l.take n)=l.take (trimL (l.take n)).length∧(trimL (l.take n)).length≤n
 | 0,_=>⟨rfl,Nat.le_refl _⟩
 | n+1,h=>by
   obtain ⟨d,hd⟩:∃ d,l[n]?=some d:=⟨_,List.getElem?_eq_getElem (by omega)⟩
   by_cases h0:d=0
   ·rw [trimL_take hd h0]
    obtain ⟨h1,h2⟩:=trimL_pre l n (by omega)
    exact ⟨h1,by omega⟩
   ·rw [trimL_stop hd h0,List.length_take,Nat.min_eq_left h]
    exact ⟨rfl,Nat.le_refl _⟩
theorem trimL_len (l:List Int):trimL l=l.take (trimL l).length∧(trimL l).length≤l.length:=by
 have h:=trimL_pre l l.length (Nat.le_refl _)
 rw [List.take_length] at h
 exact h

end Go.Proofs.YtmalpgbbddkdcaaGreatDoor
