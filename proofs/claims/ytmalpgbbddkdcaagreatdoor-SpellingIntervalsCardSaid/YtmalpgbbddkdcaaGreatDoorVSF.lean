/- Contracts and laws: VSF. -/
import Derived.Test.YtmalpgbbddkdcaaGreatDoorVB
import Derived.Deep.RegionHeld3
import Derived.Deep.DrawnRows
import Derived.Test.YtmalpgbbddkdcaaGreatDoorVA

set_option maxRecDepth 100000
set_option maxHeartbeats 4000000
namespace Go.Proofs.YtmalpgbbddkdcaaGreatDoor
open Go.RowKit Go.Lib
theorem new1 (w:World) (x:Value) (t:TypeId):(w.alloc (.cells #[x] t)).cell? ⟨w.heap.size,0,none⟩=some x∧(w.alloc (.cells #[x] t)).frozen? ⟨w.heap.size,0,none⟩=false:=by
 have h:=heap_alloc_new w (.cells #[x] t (0,0))
 exact ⟨by unfold World.cell?; rw [h]; rfl,by unfold World.frozen?; rw [h]; rfl⟩
theorem Sps.one (W:World) (x:Sp) (t:TypeId) (h:El W iv x.ca x.cs):Sps (W.alloc (.cells #[.int .i64 x.i,.slice x.ca x.cs.length x.cc] t)) (some ⟨W.heap.size,0,none⟩) [x]:=by
 refine ⟨.inr ⟨W.heap.size,0,rfl,by simp,fun i z hz=>?_⟩,fun y hy=>?_⟩
 ·cases i with
  | zero=>
    injection hz with hz; subst hz
    exact ⟨(new2a W _ _ t).1,(new2b W _ _ t).1⟩
  | succ i=>simp at hz
 ·simp at hy; subst hy; exact h.fr ((Fr.refl W).alloc _)
theorem spE_ok {N A:List Sy} {i:Nat} {cs:List Int} (hi:i < N.length) (hl:cs.length=A.length) (h64:cs.length≤64) (hf:∀ x,x ∈ cs→fitB x=true):spE N A i cs=0:=by
 unfold spE
 rw [if_neg (by omega),if_neg (by rw [hl]; simp)]
 exact rowE_ok (by omega) (by rw [List.any_eq_false]; intro x hx; rw [hf x hx]; simp)
theorem spE_inv {N A:List Sy} {i:Int} {cs:List Int} (h:spE N A i cs=0):0≤i∧i < N.length∧cs.length=A.length∧∀ x,x ∈ cs→fitB x=true:=by
 unfold spE at h
 by_cases h1:i < 0∨(N.length:Int)≤i
 ·rw [if_pos h1] at h; omega
 ·rw [if_neg h1] at h
  by_cases h2:cs.length=A.length
  ·rw [if_neg (by rw [h2]; simp)] at h
   refine ⟨by omega,by omega,h2,fun x hx=>?_⟩
   unfold rowE at h
   split at h
   ·omega
   ·split at h
    ·omega
    ·rename_i h3
     cases hb:fitB x with
     | true=>rfl
     | false=>exact absurd (List.any_eq_true.2 ⟨x,hx,by rw [hb]; rfl⟩) h3
  ·rw [if_pos h2] at h; omega
theorem sumS_length {d:Nat} {N A:List Sy} (hok:NotOk d N A) {i:Nat} (hi:i < N.length) (cs:List Int):(sumS N A (i,cs)).length=d:=by
 obtain ⟨x,hx⟩:∃ x,N[i]?=some x:=⟨_,List.getElem?_eq_getElem hi⟩
 unfold sumS
 rw [rowOf_eq hx]
 refine sumL_length d _ _ _ (hok.row x (List.mem_append_left _ (List.mem_of_getElem? hx))) (fun y hy=>?_)
 obtain ⟨z,hz,rfl⟩:=List.mem_map.1 hy
 exact hok.row z (List.mem_append_right _ hz)
def bdE (tot most:Int):Nat→Int
 | 0=>0
 | k+1=>if 20000 < most then 4 else if 20000 < tot * (2 * most+1) then 4 else bdE (tot * (2 * most+1)) most k
def boundE (n a:Nat) (most:Int):Int:=if most < 0 then 3 else bdE n most a
theorem bound_any (aN aA:Option Addr) (cN cA n a:Nat) (most:Int) (w:World) (hn:n≤20000) (ha:a≤1000000) :
 Calls Tryz.prog 119 #[.agg #[.slice aN n cN,.slice aA a cA],.int .i64 most] w fun e w'=>e=.returned (.int .i64 (boundE n a most))∧Fr w w':=by
 have hf2:Fr w (w.alloc (.cells #[.slice aN n cN,.slice aA a cA] 72)):=(Fr.refl w).alloc _
 replace hf2:=hZ hf2
 by_cases h0:most < 0
 ·have hfin:=hZ (show boundE n a most=3 by unfold boundE; rw [if_pos h0])
  go_enter Tryz.func119,Tryz.ntmps119
  go_wp2_with fail
  go_ret
  exact ⟨ret_int hfin.out.symm,hf2.out⟩
 ·have hfin:=hZ (show boundE n a most=bdE n most a by unfold boundE; rw [if_neg h0])
  have d0:decide (most < 0)=false:=decide_eq_false h0
  have h0':0≤most:=by omega
  clear h0
  go_enter Tryz.func119,Tryz.ntmps119
  go_wp2_with fail
  go_loopg [5,14] a (fun k s5 s14 wr=>∃ (j:Nat) (tot:Int),s14=.int .i64 j∧j+k=a∧s5=.int .i64 tot∧0≤tot∧tot≤20000∧Hid (bdE n most a=bdE tot most k)∧wr=w.alloc (.cells #[.slice aN n cN,.slice aA a cA] 72))
  case atStart=>exact ⟨0,n,rfl,by omega,rfl,by omega,by omega,rfl,rfl⟩
  case round=>
   obtain ⟨j,tot,rfl,hjk,rfl,ht0,ht1,he,rfl⟩:=hrel
   by_cases hj:j < a
   ·have hdJ:decide (j < a)=true:=decide_eq_true hj
    obtain ⟨k1,rfl⟩:∃ k1,gk=k1+1:=⟨gk - 1,by omega⟩
    by_cases hm:20000 < most
    ·have dm:decide (20000 < most)=true:=decide_eq_true hm
     have hf:=hZ (show bdE n most a=4 by rw [he.out,bdE,if_pos hm])
     clear he
     go_wp2_with fail
     go_ret
     exact ⟨ret_int (by rw [hfin.out,hf.out]),hf2.out⟩
    ·have dm:decide (20000 < most)=false:=decide_eq_false hm
     have hm':most≤20000:=by omega
     have hp0:0≤tot * (2 * most+1):=Int.mul_nonneg ht0 (by omega)
     have hp1:tot * (2 * most+1)≤20000 * 40001:=Int.mul_le_mul ht1 (by omega) (by omega) (by omega)
     have he2:=hZ (show bdE n most a=if 20000 < tot * (2 * most+1) then 4 else bdE (tot * (2 * most+1)) most k1 by rw [he.out,bdE,if_neg hm])
     clear he hm
     by_cases hq:20000 < tot * (2 * most+1)
     ·have dq:decide (20000 < tot * (2 * most+1))=true:=decide_eq_true hq
      have hf:=hZ (show bdE n most a=4 by rw [he2.out,if_pos hq])
      clear he2
      go_wp2_with fail
      go_ret
      exact ⟨ret_int (by rw [hfin.out,hf.out]),hf2.out⟩
     ·have dq:decide (20000 < tot * (2 * most+1))=false:=decide_eq_false hq
      have hf:=hZ (show bdE n most a=bdE (tot * (2 * most+1)) most k1 by rw [he2.out,if_neg hq])
      clear he2
      go_wp2_with fail
      go_roundg k1
      case measure=>omega
      case rel=>exact ⟨j+1,_,by go_num,by omega,rfl,hp0,by omega,hf,rfl⟩
   ·obtain rfl:j=a:=by omega
    have hdJ:decide (j < j)=false:=decide_eq_false (by omega)
    obtain rfl:gk=0:=by omega
    have hf:=hZ (show bdE n most j=0 by rw [he.out,bdE])
    clear he
    go_wp2_with fail
    go_ret
    exact ⟨ret_int (by rw [hfin.out,hf.out]),hf2.out⟩
theorem bdE_size {most:Nat}:∀ (a:Nat) (tot:Nat),tot≤20000→bdE tot most a=0→tot * (2 * most+1) ^ a≤20000
 | 0,tot,h,_=>by simpa using h
 | a+1,tot,_,h=>by
   rw [bdE] at h
   split at h
   ·omega
   ·split at h
    ·omega
    ·rename_i h1 h2
     have e:((tot:Int) * (2 * most+1))=((tot * (2 * most+1):Nat):Int):=by simp
     rw [e] at h h2
     have:=bdE_size a (tot * (2 * most+1)) (by omega) h
     rw [Nat.pow_succ,Nat.mul_comm ((2 * most+1) ^ a),← Nat.mul_assoc]
     exact this
def Gd (w w':World):Prop:=∃ q os,w'=Go.Sort.grow (w.drewN q) os
theorem Gd.refl (w:World):Gd w w:=⟨0,#[],by rw [Go.Sort.grow_empty]; rfl⟩
theorem Gd.drewN {a b:World} (h:Gd a b) (n:Nat):Gd a (b.drewN n):=by
 obtain ⟨q,os,rfl⟩:=h
 exact ⟨q+n,os,by simp [World.drewN,Go.Sort.grow,Nat.add_assoc]⟩
theorem Gd.drew {a b:World} (h:Gd a b):Gd a b.drew:=h.drewN 1
theorem Gd.alloc {a b:World} (h:Gd a b) (o:Obj):Gd a (b.alloc o):=by
 obtain ⟨q,os,rfl⟩:=h
 exact ⟨q,os ++ #[o],by rw [Go.Sort.alloc_eq_grow,Go.Sort.grow_grow]⟩
theorem Gd.trans {a b c:World} (h:Gd a b) (k:Gd b c):Gd a c:=by
 obtain ⟨q,os,rfl⟩:=h
 obtain ⟨q',os',rfl⟩:=k
 exact ⟨q+q',os ++ os',by simp [World.drewN,Go.Sort.grow,Nat.add_assoc,Array.append_assoc]⟩
theorem Gd.fr {a b:World} (h:Gd a b):Fr a b:=by
 obtain ⟨q,os,rfl⟩:=h
 refine show Below a.heap.size a _ from ⟨rfl,rfl,rfl,by simp [World.drewN,Go.Sort.grow],fun k hk=>?_⟩
 show (a.heap ++ os)[k]?=a.heap[k]?
 rw [Array.getElem?_append_left hk]
attribute [local go_sem ↓] Go.wp_at_zero Go.wp_at_succ
theorem cx_append (a b:List Int):cx (a ++ b)=cx a+cx b:=by
 induction a with
 | nil=>simp [cx]
 | cons x l ih=>simp [cx,ih]; omega
theorem cx_take {l:List Int} {j:Nat} {x:Int} (h:l[j]?=some x):cx (l.take (j+1))=cx (l.take j)+(x.natAbs:Int):=by
 rw [take_snoc h,cx_append]; simp [cx]
theorem cx_bound {l:List Int} (h:∀ x,x ∈ l→fitB x=true):0≤cx l∧cx l≤1000000000 * l.length:=by
 induction l with
 | nil=>simp [cx]
 | cons x l ih=>
   have h1:=ih fun y hy=>h y (List.mem_cons_of_mem _ hy)
   have h2:=h x (List.mem_cons_self ..)
   unfold fitB at h2
   have h2:=of_decide_eq_true h2
   simp only [cx,List.length_cons]
   omega
theorem complexity_any (i:Int) (cs:List Int) (a:Option Addr) (cap:Nat) (w:World) (hx:El w iv a cs) (hl:cs.length≤64) (hb:∀ x,x ∈ cs→fitB x=true) :
 Calls Tryz.prog 180 #[.agg #[.int .i64 i,.slice a cs.length cap]] w fun e w'=>e=.returned (.int .i64 (cx cs))∧Gd w w':=by
 obtain ⟨n,hn⟩:∃ n,n=cs.length:=⟨_,rfl⟩
 rw [← hn] at hl
 replace hn:=hZ hn
 rw [← hn.out]
 replace hx:=hZ hx
 replace hb:=hZ hb
 go_enter Tryz.func180,Tryz.ntmps180
 go_wp2_with fail
 go_loopg [3,9] n (fun k s3 s9 wr=>∃ j:Nat,s9=.int .i64 j∧j+k=n∧s3=.int .i64 (cx (cs.take j))∧Gd w wr)
 case atStart=>exact ⟨0,rfl,by omega,rfl,(Gd.refl w).alloc _⟩
 case round=>
  obtain ⟨j,rfl,hjk,rfl,hf⟩:=hrel
  by_cases hj:j < n
  ·obtain ⟨b,o,x,rfl,hbl,hxj,hc⟩:=(hx.out.fr hf.fr).at (i:=j) (by rw [← hn.out]; exact hj)
   have hd:decide (j < n)=true:=decide_eq_true hj
   have hs:=hZ (cx_take hxj)
   have hbd:=cx_bound (l:=cs.take j) (fun y hy=>hb.out y (List.mem_of_mem_take hy))
   have hfx:=hb.out x (List.mem_of_getElem? hxj)
   unfold fitB at hfx
   have hfx:=of_decide_eq_true hfx
   have hll:(cs.take j).length=j:=by rw [List.length_take,← hn.out]; omega
   rw [hll] at hbd
   obtain ⟨t,ht⟩:∃ t,t=cx (cs.take j):=⟨_,rfl⟩
   rw [← ht] at hbd hs ⊢
   have hw:-1000000000≤x∧x≤1000000000:=by omega
   clear hxj hll
   go_wp2_with fail
   go_roundg (gk - 1)
   case measure=>omega
   case rel=>
    refine ⟨j+1,by go_num,by omega, ?_,hf⟩
    rw [hs.out,ht]; congr 1; omega
  ·obtain rfl:j=n:=by omega
   have hd:decide (j < j)=false:=decide_eq_false hj
   go_wp2_with fail
   go_ret
   refine ⟨?_,hf⟩
   show Ending.returned (.int .i64 (cx (cs.take j)))=_
   rw [List.take_of_length_le (by rw [← hn.out]; exact Nat.le_refl _)]
theorem Compare_int (x y:Int) (w:World):Calls Tryz.prog 78 #[.int .i64 x,.int .i64 y] w fun e w'=>e=.returned (.int .i64 (Lib.compareInt x y))∧w'=w:=by
 have hn:=hZ (fun (x:Int) (W:World)=>Tryz.cmp_isNaN_int2 x W)
 unfold Lib.compareInt
 by_cases h1:x < y
 ·have d1:decide (x < y)=true:=decide_eq_true h1
  rw [if_pos h1]
  go_enter Tryz.func78,Tryz.ntmps78
  go_wp2_with fail
  refine (hn.out x w).mono ?_
  rintro e w2 ⟨rfl,rfl⟩
  go_wp2_with fail
  refine (hn.out y w2).mono ?_
  rintro e w3 ⟨rfl,rfl⟩
  go_wp2_with fail
  go_ret
  exact ⟨rfl,rfl⟩
 ·have d1:decide (x < y)=false:=decide_eq_false h1
  rw [if_neg h1]
  by_cases h2:x > y
  ·have d2:decide (x > y)=true:=decide_eq_true h2
   rw [if_pos h2]
   go_enter Tryz.func78,Tryz.ntmps78
   go_wp2_with fail
   refine (hn.out x w).mono ?_
   rintro e w2 ⟨rfl,rfl⟩
   go_wp2_with fail
   refine (hn.out y w2).mono ?_
   rintro e w3 ⟨rfl,rfl⟩
   go_wp2_with fail
   go_ret
   exact ⟨rfl,rfl⟩
  ·have d2:decide (x > y)=false:=decide_eq_false h2
   rw [if_neg h2]
   go_enter Tryz.func78,Tryz.ntmps78
   go_wp2_with fail
   refine (hn.out x w).mono ?_
   rintro e w2 ⟨rfl,rfl⟩
   go_wp2_with fail
   refine (hn.out y w2).mono ?_
   rintro e w3 ⟨rfl,rfl⟩
   go_wp2_with fail
   go_ret
   exact ⟨rfl,rfl⟩
theorem slCompare_any (xs ys:List Int) (a b:Option Addr) (ca cb:Nat) (w:World) (hx:El w iv a xs) (hy:El w iv b ys) (hl:xs.length≤1000000) (hl2:ys.length≤1000000) :
 Calls Tryz.prog 80 #[.slice a xs.length ca,.slice b ys.length cb] w fun e w'=>e=.returned (.int .i64 (cmpR xs ys))∧w'=w:=by
 obtain ⟨n,hn⟩:∃ n,n=xs.length:=⟨_,rfl⟩
 obtain ⟨m,hm⟩:∃ m,m=ys.length:=⟨_,rfl⟩
 rw [← hn] at hl
 rw [← hm] at hl2
 rw [← hn,← hm]
 replace hn:=hZ hn
 replace hm:=hZ hm
 replace hx:=hZ hx
 replace hy:=hZ hy
 go_enter Tryz.func80,Tryz.ntmps80
 go_wp2_with fail
 go_loopg [11] n (fun k s11 wr=>∃ j:Nat,s11=.int .i64 j∧j+k=n∧j≤m∧Hid (cmpR xs ys=cmpR (xs.drop j) (ys.drop j))∧w=wr)
 case atStart=>exact ⟨0,rfl,by omega,by omega,rfl,rfl⟩
 case round=>
  obtain ⟨j,rfl,hjk,hjm,hcj,rfl⟩:=hrel
  by_cases hj:j < n
  ·have hd:decide (j < n)=true:=decide_eq_true hj
   obtain ⟨b1,o1,x,rfl,hbl,hxj,hc⟩:=hx.out.at (i:=j) (by rw [← hn.out]; exact hj)
   have z1:(j:Int) < (n:Int):=by omega
   have z2:(0:Int)≤(j:Int):=by omega
   have hdx:=List.drop_eq_getElem_cons (l:=xs) (i:=j) (by rw [← hn.out]; exact hj)
   rw [(List.getElem?_eq_some_iff.1 hxj).2] at hdx
   replace hdx:=hZ hdx
   clear hxj
   by_cases hj2:j < m
   ·have hd2:decide (m≤j)=false:=decide_eq_false (by omega)
    obtain ⟨b2,o2,y,rfl,hbl2,hyj,hc2⟩:=hy.out.at (i:=j) (by rw [← hm.out]; exact hj2)
    have hdy:=List.drop_eq_getElem_cons (l:=ys) (i:=j) (by rw [← hm.out]; exact hj2)
    rw [(List.getElem?_eq_some_iff.1 hyj).2] at hdy
    replace hdy:=hZ hdy
    clear hyj
    have z3:(j:Int) < (m:Int):=by omega
    have hst:=hcj.out
    rw [hdx.out,hdy.out,cmpR] at hst
    replace hst:=hZ hst
    clear hcj
    go_wp2_with fail
    refine (Compare_int x y _).mono ?_
    rintro e w' ⟨rfl,rfl⟩
    generalize Lib.compareInt x y=c at *
    by_cases hc0:c=0
    ·subst hc0
     go_wp2_with fail
     go_roundg (gk - 1)
     case measure=>omega
     case rel=>exact ⟨j+1,by go_num,by omega,by omega,hZ (by rw [hst.out]; rfl),rfl⟩
    ·have hcb:(c == 0)=false:=beq_false_of_ne hc0
     go_wp2_with fail
     go_ret
     refine ⟨?_,rfl⟩
     rw [hst.out,if_neg hc0]; rfl
   ·obtain rfl:j=m:=by omega
    have hd2:decide (j≤j)=true:=by simp
    go_wp2_with fail
    go_ret
    refine ⟨?_,rfl⟩
    rw [hcj.out,hdx.out,List.drop_of_length_le (l:=ys) (by rw [← hm.out]; exact Nat.le_refl _)]; rfl
  ·obtain rfl:j=n:=by omega
   have hd:decide (j < j)=false:=decide_eq_false hj
   have hdx:xs.drop j=[]:=List.drop_of_length_le (by rw [← hn.out]; exact Nat.le_refl _)
   by_cases hjm2:j < m
   ·have hd2:decide (j < m)=true:=decide_eq_true hjm2
    go_wp2_with fail
    go_ret
    refine ⟨?_,rfl⟩
    rw [hcj.out,hdx,List.drop_eq_getElem_cons (l:=ys) (i:=j) (by rw [← hm.out]; exact hjm2)]; rfl
   ·have hd2:decide (j < m)=false:=decide_eq_false hjm2
    go_wp2_with fail
    go_ret
    refine ⟨?_,rfl⟩
    rw [hcj.out,hdx,List.drop_of_length_le (l:=ys) (by rw [← hm.out]; omega)]; rfl
attribute [local go_sem ↓] Go.wp_at_zero Go.wp_at_succ
theorem rowCompare_any (xs ys:List Int) (a b:Option Addr) (ca cb:Nat) (w:World) (hx:El w iv a xs) (hy:El w iv b ys) (hl:xs.length≤1000000) (hl2:ys.length≤1000000) :
 Calls Tryz.prog 181 #[.slice a xs.length ca,.slice b ys.length cb] w fun e w'=>e=.returned (.int .i64 (cmpR xs ys))∧w=w':=by
 have h:=slCompare_any xs ys a b ca cb w hx hy hl hl2
 generalize cmpR xs ys=c at *
 generalize xs.length=n at *
 generalize ys.length=m at *
 clear hx hy
 go_enter Tryz.func181,Tryz.ntmps181
 go_wp2_with fail
 refine h.mono ?_
 rintro e w' ⟨rfl,rfl⟩
 go_wp2_with fail
 go_ret
 exact ⟨rfl,rfl⟩
theorem Or_any (xs:List Int) (a:Option Addr) (cap:Nat) (w:World) (hx:El w iv a xs) (hl:xs.length≤1000000) :
 Calls Tryz.prog 77 #[.slice a xs.length cap] w fun e w'=>e=.returned (.int .i64 (orL xs))∧w'=w:=by
 obtain ⟨n,hn⟩:∃ n,n=xs.length:=⟨_,rfl⟩
 rw [← hn] at hl
 rw [← hn]
 replace hn:=hZ hn
 replace hx:=hZ hx
 go_enter Tryz.func77,Tryz.ntmps77
 go_wp2_with fail
 go_loopg [8] n (fun k s8 wr=>∃ j:Nat,s8=.int .i64 j∧j+k=n∧Hid (orL xs=orL (xs.drop j))∧w=wr)
 case atStart=>exact ⟨0,rfl,by omega,rfl,rfl⟩
 case round=>
  obtain ⟨j,rfl,hjk,hcj,rfl⟩:=hrel
  by_cases hj:j < n
  ·have hd:decide (j < n)=true:=decide_eq_true hj
   obtain ⟨b1,o1,x,rfl,hbl,hxj,hc⟩:=hx.out.at (i:=j) (by rw [← hn.out]; exact hj)
   have z1:(j:Int) < (n:Int):=by omega
   have z2:(0:Int)≤(j:Int):=by omega
   have hdx:=List.drop_eq_getElem_cons (l:=xs) (i:=j) (by rw [← hn.out]; exact hj)
   rw [(List.getElem?_eq_some_iff.1 hxj).2] at hdx
   have hst:=hcj.out
   rw [hdx,orL] at hst
   replace hst:=hZ hst
   clear hxj hdx hcj
   by_cases h0:x=0
   ·subst h0
    go_wp2_with fail
    go_roundg (gk - 1)
    case measure=>omega
    case rel=>exact ⟨j+1,by go_num,by omega,hZ (by rw [hst.out]; rfl),rfl⟩
   ·have hcb:(x == 0)=false:=beq_false_of_ne h0
    go_wp2_with fail
    go_ret
    refine ⟨?_,rfl⟩
    rw [hst.out,if_neg h0]; rfl
  ·obtain rfl:j=n:=by omega
   have hd:decide (j < j)=false:=decide_eq_false hj
   go_wp2_with fail
   go_ret
   refine ⟨?_,rfl⟩
   rw [hcj.out,List.drop_of_length_le (by rw [← hn.out]; exact Nat.le_refl _)]; rfl
theorem Or3 (x y z:Int) (W:World):Calls Tryz.prog 77 #[.slice (some ⟨W.heap.size,0,none⟩) 3 3] (W.alloc (.cells #[.int .i64 x,.int .i64 y,.int .i64 z] 3)) fun e w'=>e=.returned (.int .i64 (orL [x,y,z]))∧(W.alloc (.cells #[.int .i64 x,.int .i64 y,.int .i64 z] 3))=w':=by
 refine (Or_any [x,y,z] (some ⟨W.heap.size,0,none⟩) 3 _ (.inr ⟨W.heap.size,0,rfl,by simp,fun i u hu=>?_⟩) (by simp)).mono fun e w' h=>⟨h.1,h.2.symm⟩
 have h:=heap_alloc_new W (.cells #[.int .i64 x,.int .i64 y,.int .i64 z] 3 (0,0))
 unfold World.cell?
 rw [h]
 match i,hu with
 | 0,hu=>simp at hu; subst hu; rfl
 | 1,hu=>simp at hu; subst hu; rfl
 | 2,hu=>simp at hu; subst hu; rfl
 | i+3,hu=>simp at hu
theorem order_any (s t:Int×List Int) (a b:Option Addr) (ca cb:Nat) (w:World) (hx:El w iv a s.2) (hy:El w iv b t.2) (hl:s.2.length≤64) (hl2:t.2.length≤64) (hb:∀ x,x ∈ s.2→fitB x=true) (hb2:∀ x,x ∈ t.2→fitB x=true) :
 Calls Tryz.prog 126 #[.agg #[.int .i64 s.1,.slice a s.2.length ca],.agg #[.int .i64 t.1,.slice b t.2.length cb]] w fun e w'=>e=.returned (.int .i64 (ordS s t))∧Gd w w':=by
 obtain ⟨i,xs⟩:=s
 obtain ⟨j,ys⟩:=t
 simp only at hx hy hl hl2 hb hb2 ⊢
 unfold ordS
 have k1:=fun W (hW:Fr w W)=>complexity_any i xs a ca W (hx.fr hW) hl hb
 have k2:=fun W (hW:Fr w W)=>complexity_any j ys b cb W (hy.fr hW) hl2 hb2
 have k3:=fun W (hW:Fr w W)=>rowCompare_any xs ys a b ca cb W (hx.fr hW) (hy.fr hW) (by omega) (by omega)
 generalize cx xs=cxs at *
 generalize cx ys=cys at *
 generalize cmpR xs ys=c3 at *
 generalize xs.length=n at *
 generalize ys.length=m at *
 replace k1:=hZ k1
 replace k2:=hZ k2
 replace k3:=hZ k3
 clear hx hy hb hb2
 go_enter Tryz.func126,Tryz.ntmps126
 go_wp2_with fail
 have g0:Gd w ((w.alloc (.cells #[.int .i64 i,.slice a n ca] 76)).alloc (.cells #[.int .i64 j,.slice b m cb] 76)):=((Gd.refl w).alloc _).alloc _
 have f0:Fr w ((w.alloc (.cells #[.int .i64 i,.slice a n ca] 76)).alloc (.cells #[.int .i64 j,.slice b m cb] 76)):=((Fr.refl w).alloc _).alloc _
 have p1:=new2a w (.int .i64 i) (.slice a n ca) 76
 have p2:=new2b w (.int .i64 i) (.slice a n ca) 76
 have p3:=new2a (w.alloc (.cells #[.int .i64 i,.slice a n ca] 76)) (.int .i64 j) (.slice b m cb) 76
 have p4:=new2b (w.alloc (.cells #[.int .i64 i,.slice a n ca] 76)) (.int .i64 j) (.slice b m cb) 76
 rw [show (w.alloc (.cells #[.int .i64 i,.slice a n ca] 76)).heap.size=w.heap.size+1 by simp] at p3 p4
 have q1:=(Fr.refl (w.alloc (.cells #[.int .i64 i,.slice a n ca] 76))).alloc (.cells #[.int .i64 j,.slice b m cb] 76) |>.keep p1.1
 have q2:=(Fr.refl (w.alloc (.cells #[.int .i64 i,.slice a n ca] 76))).alloc (.cells #[.int .i64 j,.slice b m cb] 76) |>.keep p2.1
 have q3:=p3.1
 have q4:=p4.1
 clear p1 p2 p3 p4
 generalize ((w.alloc (.cells #[.int .i64 i,.slice a n ca] 76)).alloc (.cells #[.int .i64 j,.slice b m cb] 76))=W at *
 have g0:Gd w W:=by assumption
 have hbs:w.heap.size+1 < W.heap.size:=World.block_lt_of_cell? W _ q3
 clear f0
 go_region_held3 (fun w'=>w'.cell? ⟨w.heap.size,0,none⟩=some (.int .i64 i)∧w'.cell? ⟨w.heap.size,1,none⟩=some (.slice a n ca)∧w'.cell? ⟨w.heap.size+1,0,none⟩=some (.int .i64 j)∧w'.cell? ⟨w.heap.size+1,1,none⟩=some (.slice b m cb))
  (first | go_keep | (go_split_ands; refine ⟨?_, ?_, ?_, ?_⟩ <;> (refine Fr.keep (Gd.fr (by assumption)) ?_; assumption)))
  (first
   | (go_at_call 180; first | ((with_reducible refine (k1.out _ ?_).mono ?_); (refine Gd.fr ?_; repeat (with_reducible first | assumption | exact Gd.refl _ | refine Gd.drew ?_ | refine Gd.drewN ?_ _ | refine Gd.alloc ?_ _ | refine Gd.trans ?_ (by assumption))); rintro e w1 ⟨rfl,hf1⟩) | ((with_reducible refine (k2.out _ ?_).mono ?_); (refine Gd.fr ?_; repeat (with_reducible first | assumption | exact Gd.refl _ | refine Gd.drew ?_ | refine Gd.drewN ?_ _ | refine Gd.alloc ?_ _ | refine Gd.trans ?_ (by assumption))); rintro e w1 ⟨rfl,hf1⟩))
   | (go_at_call 181; (with_reducible refine (k3.out _ ?_).mono ?_); (refine Gd.fr ?_; repeat (with_reducible first | assumption | exact Gd.refl _ | refine Gd.drew ?_ | refine Gd.drewN ?_ _ | refine Gd.alloc ?_ _ | refine Gd.trans ?_ (by assumption))); rintro e w1 ⟨rfl,rfl⟩)
   | (go_at_call 78; (with_reducible refine (Compare_int _ _ _).mono ?_); rintro e w1 ⟨rfl,rfl⟩)
   | (go_at_call 77; (with_reducible refine (Or3 _ _ _ _).mono ?_); rintro e w1 ⟨rfl,rfl⟩))
 all_goals
  go_wp2_with fail
  go_ret
  exact ⟨rfl,by repeat (with_reducible first | assumption | exact Gd.refl _ | refine Gd.drew ?_ | refine Gd.drewN ?_ _ | refine Gd.alloc ?_ _ | refine Gd.trans ?_ (by assumption))⟩
end Go.Proofs.YtmalpgbbddkdcaaGreatDoor
