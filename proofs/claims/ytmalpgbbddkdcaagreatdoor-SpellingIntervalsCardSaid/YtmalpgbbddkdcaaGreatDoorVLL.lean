/- Contracts and laws: VLL. -/
import Derived.Test.YtmalpgbbddkdcaaGreatDoorVB
import Derived.Test.YtmalpgbbddkdcaaGreatDoorVLR

set_option maxRecDepth 100000
set_option maxHeartbeats 4000000
namespace Go.Proofs.YtmalpgbbddkdcaaGreatDoor
open Go.RowKit Go.Lib
def modelC (m:Nat):Nat→List (List Int)
 | 0=>[[]]
 | n+1=>(modelC m n).flatMap fun x=>(spanC m).map fun k=>x ++ [k]
theorem modelC_rev (m:Nat):∀ n,modelC m n=(boxC m n).map List.reverse
 | 0=>rfl
 | n+1=>by
   rw [modelC,modelC_rev m n,boxC,List.flatMap_map,List.map_flatMap]
   congr 1
   funext t
   rw [List.map_map]
   refine List.map_congr_left fun k _=>?_
   simp
theorem modelC_size (m n:Nat):(modelC m n).length=(2 * m+1) ^ n:=by rw [modelC_rev,List.length_map,boxC_size]
theorem span_mem {m:Nat} {c:Int}:c ∈ spanC m ↔ -(m:Int)≤c∧c≤m:=by
 unfold spanC
 rw [List.mem_map]
 constructor
 ·rintro ⟨k,hk,rfl⟩; have:=List.mem_range.1 hk; omega
 ·intro h; exact ⟨(c+m).toNat,List.mem_range.2 (by omega),by omega⟩
theorem span_len (m:Nat):(spanC m).length=2 * m+1:=by simp [spanC]
theorem span_get {m q:Nat} (h:q < 2 * m+1):(spanC m)[q]?=some ((q:Int) - m):=by
 unfold spanC
 rw [List.getElem?_map,List.getElem?_range h]; rfl
theorem box_mem {m:Nat}:∀ {n:Nat} {t:List Int},t ∈ boxC m n ↔ t.length=n∧∀ c,c ∈ t→-(m:Int)≤c∧c≤m:=fun {n t}=>by
 refine ⟨fun h=>⟨boxC_len m n t h,boxC_mem m n t h⟩, ?_⟩
 induction t generalizing n with
 | nil=>
   rintro ⟨h,-⟩
   obtain rfl:n=0:=h.symm
   simp [boxC]
 | cons c u ih=>
   rintro ⟨h,k⟩
   obtain ⟨n,rfl⟩:∃ n',n=n'+1:=⟨u.length,h.symm⟩
   unfold boxC
   exact List.mem_flatMap.2 ⟨u,ih ⟨by simpa using h,fun c hc=>k c (by simp [hc])⟩,List.mem_map.2 ⟨c,span_mem.2 (k c (by simp)),rfl⟩⟩
theorem model_mem {m n:Nat} {t:List Int}:t ∈ modelC m n ↔ t.length=n∧∀ c,c ∈ t→-(m:Int)≤c∧c≤m:=by
 rw [modelC_rev,List.mem_map]
 constructor
 ·rintro ⟨u,hu,rfl⟩
  obtain ⟨h1,h2⟩:=box_mem.1 hu
  exact ⟨by rw [List.length_reverse]; exact h1,fun c hc=>h2 c (List.mem_reverse.1 hc)⟩
 ·rintro ⟨h1,h2⟩
  exact ⟨t.reverse,box_mem.2 ⟨by rw [List.length_reverse]; exact h1,fun c hc=>h2 c (List.mem_reverse.1 hc)⟩,List.reverse_reverse t⟩
theorem modelC_perm (m n:Nat):(modelC m n).Perm (boxC m n):=by
 refine (List.perm_ext_iff_of_nodup ?_ (boxC_nodup m n)).2 (fun t=>by rw [model_mem,box_mem])
 rw [modelC_rev,List.nodup_iff_pairwise_ne,List.pairwise_map]
 exact (List.nodup_iff_pairwise_ne.1 (boxC_nodup m n)).imp fun {a b} h e=>h (by rw [← List.reverse_reverse a,e,List.reverse_reverse])
def modelL (m n N:Nat):List (Nat×List Int):=(List.range N).flatMap fun i=>(modelC m n).map fun cs=>(i,cs)
theorem modelL_perm (m n N:Nat):(modelL m n N).Perm (boxL m n N):=by
 unfold modelL boxL
 induction List.range N with
 | nil=>exact .nil
 | cons i l ih=>
   rw [List.flatMap_cons,List.flatMap_cons]
   exact ((modelC_perm m n).map _).append ih
theorem sortS_perm_eq {l m:List (Nat×List Int)} (h:l.Perm m):sortS l=sortS m:=sortS_eq (sortS_sorted l) ((sortS_perm l).trans h)
theorem modelL_sort (m n N:Nat) (p:Nat×List Int→Bool):sortS ((modelL m n N).filter p)=sortS ((boxL m n N).filter p):=sortS_perm_eq ((modelL_perm m n N).filter p)
theorem modelL_nodup (m n N:Nat):(modelL m n N).Nodup:=(modelL_perm m n N).nodup_iff.2 (boxL_nodup m n N)
theorem modelL_mem {m n N:Nat} {s:Nat×List Int} (h:s ∈ modelL m n N):s.1 < N∧s.2.length=n∧∀ c,c ∈ s.2→-(m:Int)≤c∧c≤m:=boxL_mem ((modelL_perm m n N).mem_iff.1 h)
theorem modelL_size (m n N:Nat):(modelL m n N).length=N * (2 * m+1) ^ n:=by rw [(modelL_perm m n N).length_eq,boxL_size]
theorem flat_take {α β:Type} (f:α→List β) {l:List α} {t:Nat} {x:α} (h:l[t]?=some x):(l.take (t+1)).flatMap f=(l.take t).flatMap f ++ f x:=by
 rw [List.take_add_one,h,List.flatMap_append]; simp
attribute [local go_sem ↓] Go.wp_at_zero Go.wp_at_succ
theorem infoRw:(Tryz.prog.info? 24).map (fun i=>(i.zero,i.size,i.bytes))=some (some (.slice none 0 0),1,24):=by kernel_rfl
def BX.rv (x:BX):Value:=.slice (some ⟨x.g,0,none⟩) x.cs.length x.c
theorem RowAt.neR {W:World} {x:BX} (h:RowAt W x) {base:Nat} {size n:Nat} {v:Value} {xs:List Value} (ho:W.ownsRow base 24 size v n xs):v.ownBlock≠some x.g:=by
 intro e
 rcases ho.2 with ⟨rfl,_⟩ | ⟨g',cap,cur,rfl,_,hh,_⟩
 ·simp [Value.ownBlock] at e
 ·have e2:g'=x.g:=by simpa [Value.ownBlock] using e
  subst e2
  obtain ⟨⟨cur2,hc⟩,_⟩:=h
  rw [hh] at hc
  injection hc with hc
  injection hc with _ hc
  exact absurd hc (by decide)
structure CntI (W:World) (base rb:Nat) (v:Value) (xs:List BX) (L:List (List Int)):Prop where
 own:W.ownsRow base 24 1 v xs.length (xs.map BX.rv)
 row:∀ x,x ∈ xs→rb≤x.g∧RowAt W x
 eq:xs.map BX.cs=L
theorem CntI.nil (W:World) (base rb:Nat):CntI W base rb (.slice none 0 0) [] []:=⟨World.ownsRow_nil _ _ _ _,fun x hx=>by simp at hx,rfl⟩
theorem CntI.fr {W W':World} {base rb:Nat} {v:Value} {xs:List BX} {L:List (List Int)} (h:CntI W base rb v xs L) (k:Fr W W'):CntI W' base rb v xs L :=
 ⟨ownsRow_fr h.own k,fun x hx=>⟨(h.row x hx).1,(h.row x hx).2.fr k⟩,h.eq⟩
theorem CntI.len {W:World} {base rb:Nat} {v:Value} {xs:List BX} {L:List (List Int)} (h:CntI W base rb v xs L):xs.length=L.length:=by rw [← h.eq,List.length_map]
theorem CntI.at {W:World} {base rb:Nat} {v:Value} {xs:List BX} {L:List (List Int)} (h:CntI W base rb v xs L) {t:Nat} (ht:t < xs.length) :
 ∃ g cap x,v=.slice (some ⟨g,0,none⟩) xs.length cap∧xs[t]?=some x∧W.cell? ⟨g,t,none⟩=some x.rv∧(rb≤x.g∧RowAt W x)∧L[t]?=some x.cs:=by
 obtain ⟨g,cap,rfl⟩:=ownsRow_pos h.own (by omega)
 obtain ⟨-,-,-,-,h5⟩:=ownsRow_some h.own
 have hx:=List.getElem?_eq_getElem ht
 refine ⟨g,cap,_,rfl,hx,(h5 t _ (by rw [List.getElem?_map,hx]; rfl)).1,h.row _ (List.getElem_mem ht), ?_⟩
 rw [← h.eq,List.getElem?_map,hx]; rfl
theorem CntI.push {W W':World} {base rb:Nat} {v:Value} {xs:List BX} {L:List (List Int)} {x:BX} {gb cap:Nat} {o:Obj} (h:CntI W base rb v xs L) (hrb:rb≤x.g) (hx:RowAt W x)
 (hown:W'.ownsRow base 24 1 (.slice (some ⟨gb,0,none⟩) (xs.length+1) cap) (xs.length+1) (xs.map BX.rv ++ [x.rv])) (hg:(W.alloc o).grownBy W' v.ownBlock):CntI W' base rb (.slice (some ⟨gb,0,none⟩) (xs.length+1) cap) (xs ++ [x]) (L ++ [x.cs]):=by
 have hfa:Fr W (W.alloc o):=(Fr.refl W).alloc o
 have key:∀ z,RowAt W z→RowAt W' z:=fun z hz=>(hz.fr hfa).fx (Fx.of_grown hg) (fun e=>hz.neR h.own e)
 refine ⟨by rw [List.length_append,List.map_append]; exact hown,fun z hz=>?_,by rw [List.map_append,h.eq]; rfl⟩
 rcases List.mem_append.1 hz with hz | hz
 ·exact ⟨(h.row z hz).1,key z (h.row z hz).2⟩
 ·simp at hz; subst hz; exact ⟨hrb,key _ hx⟩
theorem owns_rowAt {W:World} {base g n cap i:Nat} {xs:List Int} (h:W.ownsRow base 3 1 (.slice (some ⟨g,0,none⟩) n cap) n (xs.map iv)):RowAt W ⟨i,xs,g,cap⟩:=by
 obtain ⟨-,-,h2,-,h4⟩:=ownsRow_some h
 refine ⟨?_,.inr ⟨g,0,rfl,h2,fun i x hx=>?_⟩⟩
 ·rcases h.2 with ⟨h1,_⟩ | ⟨g',cap',cur,hv,_,hh,_⟩
  ·cases h1
  ·injection hv with hv; injection hv with hv; injection hv with hv
   subst hv
   exact ⟨_,hh⟩
 ·rw [Nat.zero_add]
  exact (h4 i (iv x) (by rw [List.getElem?_map,hx]; rfl)).1
def extC (m:Nat) (x:List Int):List (List Int):=(spanC m).map fun k=>x ++ [k]
theorem extC_take {m q:Nat} (x:List Int) (h:q < 2 * m+1):((spanC m).take (q+1)).map (fun k=>x ++ [k])=((spanC m).take q).map (fun k=>x ++ [k]) ++ [x ++ [(q:Int) - m]]:=by
 rw [List.take_add_one,span_get h]; simp
theorem modelL_succ (m n i:Nat):modelL m n (i+1)=modelL m n i ++ (modelC m n).map fun cs=>(i,cs):=by
 unfold modelL
 rw [List.range_succ,List.flatMap_append]; simp
structure OutI (W:World) (base rb:Nat) (v:Value) (K:List BX) (L:List (Nat×List Int)):Prop where
 own:W.ownsRow base 76 2 v K.length (flat2 (K.map BX.enc2))
 row:∀ x,x ∈ K→rb≤x.g∧RowAt W x
 eq:K.map stripX=L
 emp:K=[]→v=.slice none 0 0
theorem OutI.nil (W:World) (base rb:Nat):OutI W base rb (.slice none 0 0) [] []:=⟨World.ownsRow_nil _ _ _ _,fun x hx=>by simp at hx,rfl,fun _=>rfl⟩
theorem OutI.fr {W W':World} {base rb:Nat} {v:Value} {K:List BX} {L:List (Nat×List Int)} (h:OutI W base rb v K L) (k:Fr W W'):OutI W' base rb v K L :=
 ⟨ownsRow_fr h.own k,fun x hx=>⟨(h.row x hx).1,(h.row x hx).2.fr k⟩,h.eq,h.emp⟩
theorem OutI.push {W W':World} {base rb:Nat} {v:Value} {K:List BX} {L:List (Nat×List Int)} {x:BX} {gb cap:Nat} {o:Obj} (h:OutI W base rb v K L) (hb:rb≤x.g) (hx:RowAt W x)
 (hown:W'.ownsRow base 76 2 (.slice (some ⟨gb,0,none⟩) (K.length+1) cap) (K.length+1) (flat2 (K.map BX.enc2) ++ [x.enc2.1,x.enc2.2])) (hg:(W.alloc o).grownBy W' v.ownBlock):OutI W' base rb (.slice (some ⟨gb,0,none⟩) (K.length+1) cap) (K ++ [x]) (L ++ [stripX x]):=by
 have hfa:Fr W (W.alloc o):=(Fr.refl W).alloc o
 have key:∀ z,RowAt W z→RowAt W' z:=fun z hz=>(hz.fr hfa).fx (Fx.of_grown hg) (fun e=>hz.ne h.own e)
 refine ⟨by rw [List.length_append,List.map_append,flat2_append]; exact hown,fun z hz=>?_,by rw [List.map_append,h.eq]; rfl,fun e=>by simp at e⟩
 rcases List.mem_append.1 hz with hz | hz
 ·exact ⟨(h.row z hz).1,key z (h.row z hz).2⟩
 ·simp at hz; subst hz; exact ⟨hb,key _ hx⟩
theorem all_law (d:Nat) (aN aA:Option Addr) (cN cA:Nat) (N A:List Sy) (R:List Int) (ra:Option Addr) (rc m:Nat) (w:World) (hG:G w) (hn:NotIs w aN aA cA N A) (hok:NotOk d N A) (hR:El w sv ra R) (hRl:R.length≤1000000) (hm:m≤20000) (hP:(2 * m+1) ^ A.length≤1000000) (hbox:N.length * (2 * m+1) ^ A.length≤1000000) :
 Calls Tryz.prog 33 #[.agg #[.slice aN N.length cN,.slice aA A.length cA],.slice ra R.length rc,.int .i64 m] w (AllRet w (sortS ((boxL m A.length N.length).filter fun s=>decide (sumS N A s=R)))):=by
 obtain ⟨i0,hi,hz0,hz1,hz2⟩:=info_parts infoInt
 obtain ⟨i1,ji,jz0,jz1,jz2⟩:=info_parts infoRw
 obtain ⟨i2,ki,kz0,kz1,kz2⟩:=info_parts infoSp
 have hn60:=hok.n60
 have ha6:=hok.a6
 obtain ⟨nN,hnN⟩:∃ nN,nN=N.length:=⟨_,rfl⟩
 obtain ⟨nA,hnA⟩:∃ nA,nA=A.length:=⟨_,rfl⟩
 obtain ⟨nR,hnR⟩:∃ nR,nR=R.length:=⟨_,rfl⟩
 rw [← hnN,← hnA] at hbox
 rw [← hnA] at hP ha6
 rw [← hnN] at hn60
 rw [← hnR] at hRl
 rw [← hnN,← hnA,← hnR]
 replace hnN:=hZ hnN
 replace hnA:=hZ hnA
 replace hnR:=hZ hnR
 replace hn:=hZ hn
 replace hok:=hZ hok
 replace hR:=hZ hR
 replace hP:=hZ hP
 replace hbox:=hZ hbox
 obtain ⟨wb,hwb⟩:∃ wb,wb=alls w [(.cells #[.slice aN nN cN,.slice aA nA cA] 72)]:=⟨_,rfl⟩
 have g0:wb.heap[w.heap.size]?=some (.cells #[.slice aN nN cN,.slice aA nA cA] 72 (0,0)):=by rw [hwb]; exact alls_get _ w 0 _ rfl
 have hfb:Fr w wb:=by rw [hwb]; exact alls_fr _ w
 have b0:wb.cell? ⟨w.heap.size,0,none⟩=some (.slice aN nN cN):=cells_of g0 0
 have b1:wb.cell? ⟨w.heap.size,1,none⟩=some (.slice aA nA cA):=cells_of g0 1
 clear g0
 replace hfb:=hZ hfb
 have hb0:=hZ b0
 have hb1:=hZ b1
 go_enter Tryz.func33,Tryz.ntmps33
 go_upto_region 1 with (fail)
 change Code.wp _ _ _ _ (alls w [(.cells #[.slice aN nN cN,.slice aA nA cA] 72)])
 rw [← hwb]
 clear hwb
 go_upto_region 2 with (fail)
 obtain ⟨w1,hw1⟩:∃ w1,w1=alls wb [(.cells #[] 3),(.cells #[.slice (some ⟨wb.heap.size,0,none⟩) 0 0] 24)]:=⟨_,rfl⟩
 have g0:w1.heap[wb.heap.size]?=some (.cells #[] 3 (0,0)):=by rw [hw1]; exact alls_get _ wb 0 _ rfl
 have g1:w1.heap[wb.heap.size+1]?=some (.cells #[.slice (some ⟨wb.heap.size,0,none⟩) 0 0] 24 (0,0)):=by rw [hw1]; exact alls_get _ wb 1 _ rfl
 have hf1:Fr wb w1:=by rw [hw1]; exact alls_fr _ wb
 change Code.wp _ _ _ _ (alls wb [(.cells #[] 3),(.cells #[.slice (some ⟨wb.heap.size,0,none⟩) 0 0] 24)])
 rw [← hw1]
 clear hw1
 replace b1:=hf1.keep b1
 have hC0:CntI w1 wb.heap.size w.heap.size (.slice (some ⟨wb.heap.size+1,0,none⟩) 1 1) [⟨0,[],wb.heap.size,0⟩] (modelC m 0) :=
  ⟨owns_of_whole (xs:=[.slice (some ⟨wb.heap.size,0,none⟩) 0 0]) g1 (by omega) rfl (by decide),fun x hx=>by simp at hx; subst hx; exact ⟨hfb.out.size,⟨_,g0⟩,.inl rfl⟩,rfl⟩
 replace hC0:=hZ hC0
 clear g0 g1
 go_wp2_with fail
 go_loopg [7,22] nA (fun gk s7 s22 wr=>∃ (j:Nat) (xs:List BX),s22=.int .i64 j∧j+gk=nA∧Fr wb wr∧Hid (CntI wr wb.heap.size w.heap.size s7 xs (modelC m j)))
 case atStart=>exact ⟨0,_,rfl,by omega,hf1,hC0⟩
 case round=>
  clear hC0 hf1 b0 b1
  obtain ⟨j,xs,rfl,hjk,hf,hC⟩:=hrel
  by_cases hj:j < nA
  ·have dj:decide (j < nA)=true:=decide_eq_true hj
   obtain ⟨px,hpx⟩:∃ px,px=xs.length:=⟨_,rfl⟩
   have hxl:=hC.out.len
   rw [modelC_size,← hpx] at hxl
   have hpx1:1≤px:=by rw [hxl]; exact Nat.pow_pos (by omega)
   have hpx2:px * (2 * m+1)≤1000000:=by
    rw [hxl,← Nat.pow_succ]
    exact Nat.le_trans (Nat.pow_le_pow_right (by omega) (by omega)) hP.out
   obtain ⟨g7,cap7,-,e7,-,-,-,-⟩:=hC.out.at (t:=0) (by omega)
   subst e7
   rw [← hpx]
   replace hpx:=hZ hpx
   replace hxl:=hZ hxl
   have hpx3:px≤1000000:=by
    have:px * 1≤px * (2 * m+1):=Nat.mul_le_mul_left _ (by omega)
    omega
   obtain ⟨ko,rfl⟩:∃ ko:Nat,ko=gk:=⟨_,rfl⟩
   obtain ⟨wo,rfl⟩:∃ wo:World,wo=wr:=⟨_,rfl⟩
   go_wp2_with fail
   go_loopg [8,26] px (fun gk s8 s26 wr=>∃ (t:Nat) (ys:List BX),s26=.int .i64 t∧t+gk=px∧Fr wo wr∧Hid (CntI wr wo.heap.size w.heap.size s8 ys (((modelC m j).take t).flatMap (extC m))))
   case atStart=>exact ⟨0,[],rfl,by omega,Fr.refl _,CntI.nil _ _ _⟩
   case round=>
    obtain ⟨t,ys,rfl,htk,hf2,hCy⟩:=hrel
    by_cases ht:t < px
    ·have dt:decide (t < px)=true:=decide_eq_true ht
     obtain ⟨g9,cap9,x,e9,hxt,hxc,⟨-,hxr⟩,hxL⟩:=hC.out.at (t:=t) (by rw [← hpx.out]; exact ht)
     replace hxc:=hf2.keep hxc
     injection e9 with e9 e9' e9''
     injection e9 with e9
     injection e9 with e9
     subst e9
     clear e9' e9''
     have hxl9:=(model_mem.1 (List.mem_of_getElem? hxL)).1
     have hxe:=hxr.2
     unfold BX.rv at hxc
     rw [hxl9] at hxc
     have hfl:=hZ (flat_take (extC m) hxL)
     have hclone:=fun W (hW:Fr wo W)=>Clone_row x.g 0 x.c x.cs W (by omega) (fun i y hy=>by
      rcases hxe with h | ⟨b,o,hb,_,hc⟩
      ·rw [h] at hy; simp at hy
      ·injection hb with hb; injection hb with h1 h2
       subst h1; subst h2
       exact hW.keep (hc i y hy))
     rw [hxl9] at hclone
     generalize x.cs=xc at *
     replace hclone:=hZ hclone
     replace hxl9:=hZ hxl9
     replace hxL:=hZ hxL
     replace hxt:=hZ hxt
     replace hxr:=hZ hxr
     replace hxe:=hZ hxe
     have y0:(0:Int)≤(t:Int):=by omega
     have hyl:ys.length≤t * (2 * m+1)+0:=by
      have h1:=hCy.out.len
      have h2:∀ T:List (List Int),(T.flatMap (extC m)).length=T.length * (2 * m+1):=fun T=>by
       induction T with
       | nil=>simp
       | cons a T ih=>rw [List.flatMap_cons,List.length_append,ih,List.length_cons]; simp [extC,span_len,Nat.succ_mul]; omega
      rw [h2,List.length_take] at h1
      have h3:min t (modelC m j).length * (2 * m+1)≤t * (2 * m+1):=Nat.mul_le_mul_right _ (Nat.min_le_left _ _)
      omega
     replace hyl:=hZ hyl
     obtain ⟨kt,rfl⟩:∃ kt:Nat,kt=gk:=⟨_,rfl⟩
     obtain ⟨wt,rfl⟩:∃ wt:World,wt=wr:=⟨_,rfl⟩
     go_wp2_with fail
     go_loopg [8,11] (2 * m+1) (fun gk s8 s11 wr=>∃ (q:Nat) (zs:List BX),s11=.int .i64 ((q:Int) - (m:Int))∧q+gk=2 * m+1∧Fr wo wr∧zs.length≤t * (2 * m+1)+q∧Hid (CntI wr wo.heap.size w.heap.size s8 zs (((modelC m j).take t).flatMap (extC m) ++ ((spanC m).take q).map fun k=>xc ++ [k])))
     case atStart=>exact ⟨0,ys,by rw [show ((0:Nat):Int) - (m:Int)=-(m:Int) by omega],by omega,hf2,hyl.out,by rw [List.take_zero,List.map_nil,List.append_nil]; exact hCy⟩
     case round=>
      clear hCy
      obtain ⟨q,zs,rfl,hqk,hf3,hzl,hCz⟩:=hrel
      by_cases hq:q < 2 * m+1
      ·have dq:decide ((q:Int) - (m:Int)≤(m:Int))=true:=decide_eq_true (by omega)
       have hcl:=hZ (hclone.out wr hf3)
       have hzl2:zs.length≤1000000:=by
        have h9:t * (2 * m+1)+(2 * m+1)≤px * (2 * m+1):=by
         have:=Nat.mul_le_mul_right (2 * m+1) (show t+1≤px by omega)
         rw [Nat.add_mul,Nat.one_mul] at this; exact this
        omega
       have hsz3:=hf3.size
       have k0:-(m:Int)≤(q:Int) - (m:Int):=by omega
       have k1:(q:Int) - (m:Int)≤(m:Int):=by omega
       have hext:=hZ (extC_take xc hq)
       generalize hkk:(q:Int) - (m:Int)=kk at *
       replace hkk:=hZ hkk
       go_wp2_with fail
       refine hcl.out.mono ?_
       rintro e w5 ⟨g5,c5,rfl,hf5,hown5⟩
       rw [hxl9.out] at hown5 ⊢
       have hg5:=ownsRow_own_ge hown5 g5 rfl
       have hzown:=hZ (ownsRow_fr hCz.out.own hf5)
       go_wp2_with (first
        | (at_builtin; refine wpList_append_lies _ rfl _ _ 24 (by rfl) _ 3 _ _ 1 8 Tryz.underlying24 hi hz0 hz1 hz2 rfl (by decide) _ j _ (by rfl) (World.ownsRow.alloc hown5 _) ⟨w5.heap.size,0,none⟩ 1 1 [iv kk] (by rfl) rfl (cell_one_newN _ _ _ _ (by simp)) (by simp [Value.oneCell']) (by decide) (by unfold maxLen; omega) (by omega) (by have:=hf5.size; simp; omega) (w5.heap.size+1) (by simp) ?_; intro gR capR wR hownR hgrowR hatR hltR; have hfR:Fr wr wR:=(hf5.alloc _).grown hgrowR (fun k e=>by have h9:g5=k:=Option.some.inj e; omega))
        | (at_builtin; refine wpList_append_lies _ rfl _ _ 27 (by rfl) _ 24 _ _ 1 24 Tryz.underlying27 ji jz0 jz1 jz2 rfl (by decide) _ zs.length _ (by rfl) (World.ownsRow.alloc (ownsRow_fr hCz.out.own hfR) _) ⟨wR.heap.size,0,none⟩ 1 1 [.slice (some ⟨gR,0,none⟩) (j+1) capR] (by rfl) rfl (cell_one_newN _ _ _ _ (by simp)) (by simp [Value.oneCell']) (by decide) (by unfold maxLen; omega) (by omega) (by have:=hfR.size; simp; omega) (wR.heap.size+1) (by simp) ?_; intro gA capA wA hownA hgrowA hatA hltA; skip))
       have hgR:w.heap.size≤gR:=by
        have h1:=ownsRow_own_ge hownR gR rfl
        have h2:=hfb.out.size
        have h3:=hf.size
        omega
       have hxr':RowAt wR ⟨0,xc ++ [kk],gR,capR⟩:=owns_rowAt (by rw [List.map_append]; exact hownR)
       have hxlen:(xc ++ [kk]).length=j+1:=by rw [List.length_append,hxl9.out]; rfl
       have hpush:=(hCz.out.fr hfR).push hgR hxr' (by show wA.ownsRow _ _ _ _ _ (zs.map BX.rv ++ [.slice (some ⟨gR,0,none⟩) (xc ++ [kk]).length capR]); rw [hxlen]; exact hownA) hgrowA
       rw [List.append_assoc,← hext.out] at hpush
       have hfA:Fr wo wA:=((hf3.trans hfR).alloc _).grown hgrowA (fun k e=>(hCz.out.own.lt k e).1)
       go_roundg (gk - 1)
       case measure=>omega
       case rel=>exact ⟨q+1,_,by rw [show ((q+1:Nat):Int) - (m:Int)=kk+1 by have:=hkk.out; omega],by omega,hfA,by rw [List.length_append,List.length_singleton]; omega,hpush⟩
      ·obtain rfl:q=2 * m+1:=by omega
       have dq:decide (((2 * m+1:Nat):Int) - (m:Int)≤(m:Int))=false:=decide_eq_false (by omega)
       have hCz2:=hCz.out
       rw [List.take_of_length_le (l:=spanC m) (by rw [span_len]; exact Nat.le_refl _)] at hCz2
       have e9:((modelC m j).take t).flatMap (extC m) ++ (spanC m).map (fun k=>xc ++ [k])=((modelC m j).take (t+1)).flatMap (extC m):=by rw [hfl.out]; rfl
       rw [e9] at hCz2
       replace hCz2:=hZ hCz2
       clear e9
       generalize ((2 * m+1:Nat):Int) - (m:Int)=kk at *
       go_wp2_with fail
       go_roundg (kt - 1)
       case measure=>omega
       case rel=>exact ⟨t+1,zs,by go_num,by omega,hf3,hCz2⟩
    ·obtain rfl:t=px:=by omega
     have dt:decide (t < t)=false:=decide_eq_false ht
     have hCy2:=hCy.out
     rw [List.take_of_length_le (by rw [modelC_size,← hxl.out]; exact Nat.le_refl _)] at hCy2
     have hCy3:CntI wr wb.heap.size w.heap.size u8 ys (modelC m (j+1)):=⟨ownsRow_mono hCy2.own hf.size,hCy2.row,hCy2.eq⟩
     replace hCy3:=hZ hCy3
     clear hCy2
     go_wp2_with fail
     go_roundg (ko - 1)
     case measure=>omega
     case rel=>exact ⟨j+1,ys,by go_num,by omega,hf.trans hf2,hCy3⟩
  ·obtain rfl:j=nA:=by omega
   have dj:decide (j < j)=false:=decide_eq_false hj
   obtain ⟨px,hpx⟩:∃ px,px=xs.length:=⟨_,rfl⟩
   have hxl:=hC.out.len
   rw [modelC_size,← hpx] at hxl
   have hpx1:1≤px:=by rw [hxl]; exact Nat.pow_pos (by omega)
   have hpx2:nN * px≤1000000:=by rw [hxl]; exact hbox.out
   have hpx3:px≤1000000:=by rw [hxl]; exact hP.out
   obtain ⟨g7,cap7,-,e7,-,-,-,-⟩:=hC.out.at (t:=0) (by omega)
   subst e7
   rw [← hpx]
   replace hpx:=hZ hpx
   replace hxl:=hZ hxl
   obtain ⟨wc,rfl⟩:∃ wc:World,wc=wr:=⟨_,rfl⟩
   have b0:=hf.keep hb0.out
   go_wp2_with fail
   go_loopg [12,51] nN (fun gk s12 s51 wr=>∃ (i:Nat) (K:List BX),s51=.int .i64 i∧i+gk=nN∧Fr wc wr∧Hid (OutI wr wc.heap.size w.heap.size s12 K ((modelL m j i).filter fun s=>decide (sumS N A s=R))))
   case atStart=>exact ⟨0,[],rfl,by omega,Fr.refl _,OutI.nil _ _ _⟩
   case round=>
    clear b0
    obtain ⟨i,K,rfl,hik,hfc,hO⟩:=hrel
    by_cases hi9:i < nN
    ·have di:decide (i < nN)=true:=decide_eq_true hi9
     obtain ⟨ko,rfl⟩:∃ ko:Nat,ko=gk:=⟨_,rfl⟩
     obtain ⟨wo,rfl⟩:∃ wo:World,wo=wr:=⟨_,rfl⟩
     go_wp2_with fail
     go_loopg [12,56] px (fun gk s12 s56 wr=>∃ (t:Nat) (K:List BX),s56=.int .i64 t∧t+gk=px∧Fr wc wr∧Hid (OutI wr wc.heap.size w.heap.size s12 K ((modelL m j i ++ ((modelC m j).take t).map fun cs=>(i,cs)).filter fun s=>decide (sumS N A s=R))))
     case atStart=>exact ⟨0,K,rfl,by omega,hfc,by rw [List.take_zero,List.map_nil,List.append_nil]; exact hO⟩
     case round=>
      clear hO
      obtain ⟨t,K,rfl,htk,hfc2,hO⟩:=hrel
      by_cases ht:t < px
      ·have dt:decide (t < px)=true:=decide_eq_true ht
       obtain ⟨g9,cap9,x,e9,hxt,hxc,⟨hxg,hxr⟩,hxL⟩:=hC.out.at (t:=t) (by rw [← hpx.out]; exact ht)
       injection e9 with e9 e9' e9''
       injection e9 with e9
       injection e9 with e9
       subst e9
       clear e9' e9''
       replace hxc:=hfc2.keep hxc
       replace hxr:=hxr.fr hfc2
       obtain ⟨m2,m3⟩:=model_mem.1 (List.mem_of_getElem? hxL)
       unfold BX.rv at hxc
       rw [m2] at hxc
       have b0:=hfc2.keep (hf.keep hb0.out)
       have b1:=hfc2.keep (hf.keep hb1.out)
       have hfw:=(hfb.out.trans hf).trans hfc2
       have hrd:=fun W (hW:Fr wr W)=>read_law d aN aA cN cA N A i x.cs (some ⟨x.g,0,none⟩) x.c W (hG.fr (hfw.trans hW)) (hn.out.fr (hfw.trans hW)) hok.out (by rw [← hnN.out]; exact hi9) (hxr.2.fr hW) (by rw [← hnA.out]; exact m2) (fun c hc=>by have:=m3 c hc; unfold fitB; exact decide_eq_true (by omega))
       have hSl:(sumS N A (i,x.cs)).length=d:=sumS_length hok.out (by rw [← hnN.out]; exact hi9) x.cs
       have hd12:=hok.out.d12
       have heq:=fun W (hW:Fr wr W) a c (hel:El W sv a (sumS N A (i,x.cs)))=>Equal_txs (sumS N A (i,x.cs)) R a ra c rc W hel (hR.out.fr (hfw.trans hW)) (by omega) (by rw [← hnR.out]; omega)
       rw [← hnN.out,← hnA.out,m2] at hrd
       rw [← hnR.out] at heq
       have hts:=take_snoc hxL
       generalize hSS:sumS N A (i,x.cs)=SS at *
       obtain ⟨qq,hqq⟩:∃ qq,qq=decide (SS=R):=⟨_,rfl⟩
       rw [← hqq] at heq
       replace hqq:=hZ hqq
       replace hSS:=hZ hSS
       replace hrd:=hZ hrd
       replace heq:=hZ heq
       replace hts:=hZ hts
       replace hxL:=hZ hxL
       replace hxt:=hZ hxt
       replace hxr:=hZ hxr
       replace m2:=hZ m2
       replace hSl:=hZ hSl
       clear m3 hd12
       have y0:(0:Int)≤(t:Int):=by omega
       go_upto_region 23 with (fail)
       obtain ⟨wS,hwS⟩:∃ wS,wS=wr.alloc (Obj.cells #[Value.int IntKind.i64 ↑i,Value.slice (some { block:=x.g,off:=0 }) j x.c] 76):=⟨_,rfl⟩
       have hfS:Fr wr wS:=by rw [hwS]; exact (Fr.refl _).alloc _
       have s0:wS.cell? ⟨wr.heap.size,0,none⟩=some (.int .i64 i):=by rw [hwS]; exact (new2a _ _ _ _).1
       have s1:wS.cell? ⟨wr.heap.size,1,none⟩=some (.slice (some ⟨x.g,0,none⟩) j x.c):=by rw [hwS]; exact (new2b _ _ _ _).1
       rw [← hwS]
       clear hwS
       replace b0:=hfS.keep b0
       replace b1:=hfS.keep b1
       go_wp2_with fail
       refine (hrd.out _ hfS).mono ?_
       rintro e w5 ⟨a5,c5,rfl,he5,hc5,hf5⟩
       have heq5:=hZ (heq.out w5 (hfS.trans hf5) a5 c5 he5)
       replace s0:=hf5.keep s0
       replace s1:=hf5.keep s1
       replace he5:=hZ he5
       go_wp2_with fail
       refine heq5.out.mono ?_
       rintro e w6 ⟨rfl,hf6⟩
       replace s0:=hf6.keep s0
       replace s1:=hf6.keep s1
       have hf9:=(hfS.trans hf5).trans hf6
       have hsz9:=hf9.size
       have hszc:=hfc2.size
       cases qq with
       | false=>
         have hfl:(modelL m j i ++ ((modelC m j).take (t+1)).map fun cs=>(i,cs)).filter (fun s=>decide (sumS N A s=R))=(modelL m j i ++ ((modelC m j).take t).map fun cs=>(i,cs)).filter (fun s=>decide (sumS N A s=R)):=by
          rw [hts.out,List.map_append,← List.append_assoc,List.filter_append]
          have:decide (sumS N A (i,x.cs)=R)=false:=by rw [hSS.out]; exact hqq.out.symm
          simp [this]
         have hO2:=hO.out.fr hf9
         rw [← hfl] at hO2
         replace hO2:=hZ hO2
         clear hfl
         go_wp2_with fail
         go_roundg (gk - 1)
         case measure=>omega
         case rel=>exact ⟨t+1,K,by go_num,by omega,hfc2.trans hf9,hO2⟩
       | true=>
         have hfl:(modelL m j i ++ ((modelC m j).take (t+1)).map fun cs=>(i,cs)).filter (fun s=>decide (sumS N A s=R))=(modelL m j i ++ ((modelC m j).take t).map fun cs=>(i,cs)).filter (fun s=>decide (sumS N A s=R)) ++ [(i,x.cs)]:=by
          rw [hts.out,List.map_append,← List.append_assoc,List.filter_append]
          have:decide (sumS N A (i,x.cs)=R)=true:=by rw [hSS.out]; exact hqq.out.symm
          simp [this]
         have hO2:=hO.out.fr hf9
         have hKl:K.length≤1000000:=by
          have h1:K.length=(K.map stripX).length:=(List.length_map _).symm
          rw [hO.out.eq] at h1
          have h2:=List.length_filter_le (fun s=>decide (sumS N A s=R)) (modelL m j i ++ ((modelC m j).take t).map fun cs=>(i,cs))
          rw [List.length_append,modelL_size,List.length_map,List.length_take,← hxl.out] at h2
          have h3:=Nat.mul_le_mul_right px (show i+1≤nN by omega)
          rw [Nat.add_mul,Nat.one_mul] at h3
          omega
         have hflat:=flat2_length (K.map BX.enc2)
         rw [List.length_map] at hflat
         replace hfl:=hZ hfl
         replace hO2:=hZ hO2
         replace hflat:=hZ hflat
         go_wp2_with (at_builtin; refine wpList_append_lies _ rfl _ _ 83 (by rfl) wc.heap.size 76 i2 _ 2 32 Tryz.underlying83 ki kz0 kz1 kz2 rfl (by decide) _ K.length _ (by rfl) (World.ownsRow.alloc hO2.out.own _) ⟨w6.heap.size,0,none⟩ 1 1 [.int .i64 i,.slice (some ⟨x.g,0,none⟩) j x.c] (by rfl) rfl (cell_two_newN _ _ _ _ _ rfl) (by simp [Value.oneCell']) (by decide) (by unfold maxLen; omega) (by omega) (by simp; omega) (w6.heap.size+1) (by simp) ?_; intro gA capA wA hownA hgrowA hatA hltA)
         have hpush:=hO2.out.push (x:=⟨i,x.cs,x.g,x.c⟩) hxg (hxr.out.fr hf9) (by
          show wA.ownsRow _ _ _ _ _ (flat2 (K.map BX.enc2) ++ [.int .i64 i,.slice (some ⟨x.g,0,none⟩) x.cs.length x.c])
          rw [m2.out]; exact hownA) hgrowA
         rw [show stripX ⟨i,x.cs,x.g,x.c⟩=(i,x.cs) from rfl,← hfl.out] at hpush
         have hfA:=((hfc2.trans hf9).alloc _).grown hgrowA (fun k e=>(hO2.out.own.lt k e).1)
         go_roundg (gk - 1)
         case measure=>omega
         case rel=>exact ⟨t+1,_,by go_num,by omega,hfA,hpush⟩
      ·obtain rfl:t=px:=by omega
       have dt:decide (t < t)=false:=decide_eq_false ht
       have hO2:=hO.out
       rw [List.take_of_length_le (by rw [modelC_size,← hxl.out]; exact Nat.le_refl _),← modelL_succ] at hO2
       replace hO2:=hZ hO2
       go_wp2_with fail
       go_roundg (ko - 1)
       case measure=>omega
       case rel=>exact ⟨i+1,K,by go_num,by omega,hfc2,hO2⟩
    ·obtain rfl:i=nN:=by omega
     have di:decide (i < i)=false:=decide_eq_false hi9
     have hKm:=hO.out.eq
     have hKnd:(K.map stripX).Nodup:=by rw [hKm]; exact (modelL_nodup m j i).filter _
     have hKb:∀ x,x ∈ K→x.cs.length=j∧∀ c,c ∈ x.cs→fitB c=true:=fun x hx=>by
      have h1:stripX x ∈ (modelL m j i).filter fun s=>decide (sumS N A s=R):=by rw [← hKm]; exact List.mem_map_of_mem hx
      obtain ⟨-,m2,m3⟩:=modelL_mem (List.mem_filter.1 h1).1
      exact ⟨m2,fun c hc=>by have:=m3 c hc; unfold fitB; exact decide_eq_true (by omega)⟩
     have hKl:K.length≤1000001:=by
      have h1:K.length=(K.map stripX).length:=(List.length_map _).symm
      rw [hKm] at h1
      have h2:=List.length_filter_le (fun s=>decide (sumS N A s=R)) (modelL m j i)
      rw [modelL_size,← hxl.out] at h2
      omega
     have hsort9:sortS (K.map stripX)=sortS ((boxL m j i).filter fun s=>decide (sumS N A s=R)):=by rw [hKm]; exact modelL_sort _ _ _ _
     have hfw:=(hfb.out.trans hf).trans hfc
     replace hKm:=hZ hKm
     replace hKnd:=hZ hKnd
     replace hKb:=hZ hKb
     by_cases hK0:K=[]
     ·subst hK0
      have hv:=hO.out.emp rfl
      subst hv
      have hsort:=hZ (fun fv=>AnyF.slices_SortFunc_none { Tryz.sortSp with } none 0 fv wr)
      have hres:=hZ (show ∀ W',Fr w W'→AllRet w (sortS ((boxL m j i).filter fun s=>decide (sumS N A s=R))) (.returned (.slice none 0 0)) W' from fun W' hW'=>by
       rw [← hsort9]
       exact ⟨none,0,[],rfl,⟨⟨rfl,.inl ⟨rfl,rfl⟩⟩,fun x hx=>by simp at hx⟩,by simp [sortS],hW'⟩)
      clear hsort9
      go_wp2_with fail
      refine (hsort.out _).mono ?_
      rintro e W1 ⟨rfl,rfl⟩
      go_wp2_with fail
      go_ret
      exact hres.out _ hfw
     ·obtain ⟨g,cap,rfl⟩:=ownsRow_pos hO.out.own (List.length_pos_iff.2 hK0)
      have hge:=ownsRow_own_ge hO.out.own g rfl
      have hsort:=SortFunc_lw wc.heap.size g cap K wr hO.out.own (fun x hx=>(hO.out.row x hx).2) hKnd.out (fun x hx=>by rw [(hKb.out x hx).1]; omega) (fun x hx=>(hKb.out x hx).2) hK0 hKl
      replace hsort:=hZ hsort
      have hwc:=(hfb.out.trans hf).size
      clear hK0
      replace hsort9:=hZ hsort9
      go_wp2_with fail
      refine hsort.out.mono ?_
      rintro e W1 ⟨rfl,K',hK1,hK2,hF1,hown1⟩
      have hFr1:Fr w W1:=((Fx.of_fr hfw).trans hF1).toFr (fun k hk e=>by have e:k=g:=e; omega)
      have hlK:K'.length=K.length:=hK2.length_eq
      have hfin:=hZ (show OwnSp W1 w.heap.size (some ⟨g,0,none⟩) cap K' from ⟨by rw [hlK]; exact ownsRow_mono hown1 hwc,fun x hx=>by
       obtain ⟨z1,z3⟩:=hO.out.row x (hK2.mem_iff.1 hx)
       have hne:=z3.ne hO.out.own
       have hne2:¬ x.g=g:=fun e=>hne (by rw [e]; rfl)
       have z4:=z3.fx hF1 hne2
       exact ⟨z1,z4.lt,by rw [hlK]; exact hne,z4.2⟩⟩)
      replace hK1:=hZ hK1
      replace hlK:=hZ hlK
      clear hown1 hF1
      go_wp2_with fail
      go_ret
      exact ⟨some ⟨g,0,none⟩,cap,K',by rw [hlK.out]; rfl,hfin.out,by rw [hK1.out]; exact hsort9.out,hFr1⟩
end Go.Proofs.YtmalpgbbddkdcaaGreatDoor
