/- Contracts and laws: WAU. -/
import Derived.Test.YtiniigadkknboaaGreatDoorWAT
import Derived.Test.YtiniigadkknboaaGreatDoorWAD
import Derived.Test.YtiniigadkknboaaGreatDoorWAG

set_option maxRecDepth 100000
set_option maxHeartbeats 2000000
namespace Go.Proofs.YtiniigadkknboaaGreatDoor
open Go.RowKit Go.Lib
attribute [local go_sem ↓] Go.wp_at_zero Go.wp_at_succ
theorem GG.mats {w:World} {base:Nat} {E:TypeId} {v:Value} {hs:List (Nat×Nat×Nat)} {g:List (List Int)} (h:GG w base E v hs g):∃ a c,v=.slice a g.length c∧MatS w a g:=by
 obtain ⟨a,c,rfl,h2⟩:=ownsRow_slice h.own
 refine ⟨a,c,rfl, ?_⟩
 rcases h2 with h2 | ⟨g0,rfl⟩
 ·exact .inl (List.eq_nil_of_length_eq_zero h2)
 ·have:=h.grid.1.mats g.length
  rw [List.take_length] at this
  exact this
theorem GridIs.take {w:World} {ob oo:Nat} {hs:List (Nat×Nat×Nat)} {g:List (List Int)} (h:GridIs w ob oo hs g) (t:Nat):GridIs w ob oo (hs.take t) (g.take t):=by
 have key:∀ {α:Type} {l:List α} {i:Nat} {x:α},(l.take t)[i]?=some x→l[i]?=some x:=fun {α l i x} hx=>by
  rw [List.getElem?_take] at hx
  split at hx
  ·exact hx
  ·cases hx
 exact ⟨by rw [List.length_take,List.length_take,h.len],h.outer,h.gob,fun i hd xs h1 h2=>h.cell i hd xs (key h1) (key h2),fun i hd xs h1 h2=>h.row i hd xs (key h1) (key h2),fun i j hi hj h1 h2=>h.apart i j hi hj (key h1) (key h2)⟩
theorem shortLG_any (B n:Nat) (v:Value) (g:List (List Int)) (w:World) (hG:G w) (hv:LG w B v g) (hl:g.length≤1000000) (hr:∀ r,r ∈ g→r.length≤1000000) (hb:∀ r,r ∈ g→∀ x,x ∈ r→fitB x=true) :
 Calls Tryz.prog 91 #[v,.int .i64 n] w (LatRet w n g):=by
 rcases hv with ⟨rfl,rfl⟩ | ⟨ob,oc,hs,gF,tF,rfl,hg,h2,-,rfl,-⟩
 ·exact (short_nil n w).mono fun e w' ⟨he,hf⟩=>⟨none,0,he,fun W _=>.inl rfl,hf⟩
 ·have:=short_any ob oc tF n (hs.take tF) (gF.take tF) w hG (hg.take tF) hl (by rw [List.length_take]; omega) hr hb
  rw [List.take_of_length_le (by rw [List.length_take]; omega)] at this
  exact this
def LatFine (w:World) (n:Nat) (a:Option Addr) (k c:Nat):Prop:=∀ W,Fr w W→Calls Tryz.prog 65 #[.agg #[.int .i64 n,.slice a k c]] W fun e w'=>e=.returned (.int .i64 0)∧Fr W w'
def kernS (F n:Nat) (m:List (List Int)):Option (List (List Int)) :=
 (formS F (m.length+n) 0 (wideL n m) 0).bind fun r=>(formS F n 0 (kerL m.length (r.1.take r.2)) 0).map fun q=>q.1.take q.2
theorem kernS_some {F n:Nat} {m K:List (List Int)} (h:kernS F n m=some K):∃ gW tW gK tK,formS F (m.length+n) 0 (wideL n m) 0=some (gW,tW)∧formS F n 0 (kerL m.length (gW.take tW)) 0=some (gK,tK)∧gK.take tK=K:=by
 unfold kernS at h
 obtain ⟨⟨gW,tW⟩,h1,h2⟩:=Option.bind_eq_some_iff.1 h
 obtain ⟨⟨gK,tK⟩,h3,h4⟩:=Option.map_eq_some_iff.1 h2
 exact ⟨gW,tW,gK,tK,h1,h3,h4⟩
theorem kernelS_any (m K:List (List Int)) (a:Option Addr) (cap n F:Nat) (w:World) (hG:G w) (hm:MatS w a m) (hr:Rect n m) (hn:1≤n) (hn2:n≤1000) (hl:m.length≤1000) (hk:kernS F n m=some K) :
 Calls Tryz.prog 92 #[.slice a m.length cap,.int .i64 n] w fun e w'=>∃ v,e=.returned v∧LG w' w.heap.size v K∧Fr w w':=by
 obtain ⟨gW,tW,gK,tK,h1,h2,rfl⟩:=kernS_some hk
 exact kernelL_any m gW gK a cap n F F tW tK w hG hm hr hn hn2 hl h1 h2
theorem Annih_any (m K:List (List Int)) (a:Option Addr) (cap n F:Nat) (w:World) (hG:G w) (hm:MatIs w a m) (hC:LatFine w n a m.length cap) (hr:Rect n m) (hn:1≤n) (hn2:n≤12) (hl:m.length≤12) (hsm:∀ r,r ∈ m→∀ x,x ∈ r→Sm x)
 (hk:kernS F n m=some K) (hKl:K.length≤1000000) (hKr:∀ r,r ∈ K→r.length≤1000000) (hKf:∀ r,r ∈ K→∀ x,x ∈ r→fitB x=true) :
 Calls Tryz.prog 49 #[.agg #[.int .i64 n,.slice a m.length cap]] w (LatRet w n K):=by
 obtain ⟨k,hkl⟩:∃ k,k=m.length:=⟨_,rfl⟩
 have hlo:=fun W (hW:Fr w W)=>longsOf_any m a cap W (hG.fr hW) (hm.fr hW) (fun r hrm=>by rw [hr r hrm]; omega) (by omega) hsm
 have hke:=fun W a' c' (hW:Fr w W) (hx:MatS W a' m)=>kernelS_any m K a' c' n F W (hG.fr hW) hx hr hn (by omega) (by omega) hk
 have hsh:=fun W B v (hW:Fr w W) (hx:LG W B v K)=>shortLG_any B n v K W (hG.fr hW) hx hKl hKr hKf
 obtain ⟨wb,hwb⟩:∃ wb,wb=alls w [(.cells #[.int .i64 n,.slice a m.length cap] 76),(.cells #[.int .i64 0,.slice none 0 0] 76)]:=⟨_,rfl⟩
 have hfb:Fr w wb:=by rw [hwb]; exact alls_fr _ w
 have g0:wb.heap[w.heap.size]?=some (.cells #[.int .i64 n,.slice a m.length cap] 76 (0,0)):=by rw [hwb]; exact alls_get _ w 0 _ rfl
 have g1:wb.heap[w.heap.size+1]?=some (.cells #[.int .i64 0,.slice none 0 0] 76 (0,0)):=by rw [hwb]; exact alls_get _ w 1 _ rfl
 have b0:wb.cell? ⟨w.heap.size,0,none⟩=some (.int .i64 n):=cells_of g0 0
 have b1:wb.cell? ⟨w.heap.size,1,none⟩=some (.slice a m.length cap):=cells_of g0 1
 have q4:wb.cell? ⟨w.heap.size+1,0,none⟩=some (.int .i64 0):=cells_of g1 0
 have q5:wb.cell? ⟨w.heap.size+1,1,none⟩=some (.slice none 0 0):=cells_of g1 1
 have q6:wb.frozen? ⟨w.heap.size+1,0,none⟩=false:=by unfold World.frozen?; rw [g1]; rfl
 have q7:wb.frozen? ⟨w.heap.size+1,1,none⟩=false:=by unfold World.frozen?; rw [g1]; rfl
 clear g0 g1
 have hC1:=hC wb hfb
 rw [← hkl] at hlo hke hC1 b1 hwb ⊢
 replace hC1:=hZ hC1
 replace hlo:=hZ hlo
 replace hke:=hZ hke
 replace hsh:=hZ hsh
 replace hkl:=hZ hkl
 clear hC hm hr hk hsm hKl hKr hKf
 go_enter Tryz.func49,Tryz.ntmps49
 go_upto_region 1 with (fail)
 change Code.wp _ _ _ _ (alls w [(.cells #[.int .i64 n,.slice a k cap] 76),(.cells #[.int .i64 0,.slice none 0 0] 76)])
 rw [← hwb]
 clear hwb
 go_wp2_with fail
 refine hC1.out.mono ?_
 rintro e w2 ⟨rfl,hf2⟩
 replace q6:=hf2.keepf q4 q6
 replace q7:=hf2.keepf q5 q7
 replace q4:=hf2.keep q4
 replace q5:=hf2.keep q5
 replace b0:=hf2.keep b0
 replace b1:=hf2.keep b1
 replace q4:=hZ q4
 replace q5:=hZ q5
 replace q6:=hZ q6
 replace q7:=hZ q7
 have hfw:=hfb.trans hf2
 clear hfb hf2 hC1
 go_wp2_with fail
 go_region_held3 (fun w'=>w'.cell? ⟨w.heap.size,0,none⟩=some (.int .i64 n)∧w'.cell? ⟨w.heap.size,1,none⟩=some (.slice a k cap))
  (first | go_keep | (go_split_ands; refine ⟨?_, ?_⟩ <;> (refine Fr.keep (by assumption) ?_; assumption)) | (refine two_keep _ _ _ _ _ _ _ ⟨by assumption,by assumption⟩ (by omega)))
  (first
   | (go_at_call 89; (with_reducible refine (hlo.out _ ?_).mono ?_); (exact fr9); rintro e w3 ⟨v3,hs3,rfl,hgg3,-,hf3⟩; obtain ⟨a3,c3,hv3,hm3⟩:=hgg3.mats; rw [← hkl.out] at hv3; subst hv3; replace hm3:=hZ hm3; clear hgg3)
   | (go_at_call 92; (with_reducible refine (hke.out _ _ _ ?_ hm3.out).mono ?_); (exact fr9); rintro e w4 ⟨v4,rfl,hl4,hf4⟩; replace hl4:=hZ hl4)
   | (go_at_call 91; (with_reducible refine (hsh.out _ _ _ ?_ hl4.out).mono ?_); (exact fr9); rintro e w5 ⟨a5,c5,rfl,hm5,hf5⟩; replace hm5:=hZ hm5; have hfz:Fr w2 w5:=(by exact fr9); have t4:=hfz.keep q4.out; have t5:=hfz.keep q5.out; have t6:=hfz.keepf q4.out q6.out; have t7:=hfz.keepf q5.out q7.out; have qs:=two_store w5 (w.heap.size+1) (.int .i64 n) (.slice a5 K.length c5) _ _ t4 t5; have q8:=qs.2.2.1; have u0:=hZ qs.1; have u1:=hZ qs.2.1; have hfx:=hZ qs.2.2.2; clear qs))
 have hsz4:=(show Fr w2 w4 by exact fr9).size
 have hszb:w.heap.size+1 < w2.heap.size:=World.block_lt_of_cell? w2 ⟨w.heap.size+1,0,none⟩ q4.out
 clear q8 t4 t5 t6 t7
 go_wp2_with fail
 have v0:=u0.out
 have v1:=u1.out
 refine bodyPost_ret (v:=.tuple #[.agg #[.int .i64 n,.slice a5 K.length c5],.int .i64 0]) (by simp [results,Tryz.results49,go_sem,v0,v1]) rfl ⟨a5,c5,rfl, ?_, ?_⟩
 ·intro W hW
  exact hm5.out W ((hfx.out.mono (fun k e=>by have e:k=w.heap.size+1:=e; show k < _; omega)).trans (hW.mono (fun k e=>by have e:k < w.heap.size:=e; show k < _; omega)))
 ·exact ((Fx.of_fr (p:=fun q=>q=w.heap.size+1) (hfw.trans hfz)).trans hfx.out).toFr (fun q hq e=>by have e:q=w.heap.size+1:=e; omega)
theorem Satur_any (m K1 K:List (List Int)) (a:Option Addr) (cap n F:Nat) (w:World) (hG:G w) (hm:MatIs w a m) (hC:LatFine w n a m.length cap) (hr:Rect n m) (hn:1≤n) (hn2:n≤12) (hl:m.length≤12) (hsm:∀ r,r ∈ m→∀ x,x ∈ r→Sm x)
 (hk:kernS F n m=some K1) (hk2:kernS F n K1=some K) (hr1:Rect n K1) (hl1:K1.length≤1000) (hKl:K.length≤1000000) (hKr:∀ r,r ∈ K→r.length≤1000000) (hKf:∀ r,r ∈ K→∀ x,x ∈ r→fitB x=true) :
 Calls Tryz.prog 50 #[.agg #[.int .i64 n,.slice a m.length cap]] w (LatRet w n K):=by
 obtain ⟨k,hkl⟩:∃ k,k=m.length:=⟨_,rfl⟩
 have hlo:=fun W (hW:Fr w W)=>longsOf_any m a cap W (hG.fr hW) (hm.fr hW) (fun r hrm=>by rw [hr r hrm]; omega) (by omega) hsm
 have hke:=fun W a' c' (hW:Fr w W) (hx:MatS W a' m)=>kernelS_any m K1 a' c' n F W (hG.fr hW) hx hr hn (by omega) (by omega) hk
 have hkf:=fun W a' c' (hW:Fr w W) (hx:MatS W a' K1)=>kernelS_any K1 K a' c' n F W (hG.fr hW) hx hr1 hn (by omega) hl1 hk2
 have hsh:=fun W B v (hW:Fr w W) (hx:LG W B v K)=>shortLG_any B n v K W (hG.fr hW) hx hKl hKr hKf
 obtain ⟨wb,hwb⟩:∃ wb,wb=alls w [(.cells #[.int .i64 n,.slice a m.length cap] 76),(.cells #[.int .i64 0,.slice none 0 0] 76)]:=⟨_,rfl⟩
 have hfb:Fr w wb:=by rw [hwb]; exact alls_fr _ w
 have g0:wb.heap[w.heap.size]?=some (.cells #[.int .i64 n,.slice a m.length cap] 76 (0,0)):=by rw [hwb]; exact alls_get _ w 0 _ rfl
 have g1:wb.heap[w.heap.size+1]?=some (.cells #[.int .i64 0,.slice none 0 0] 76 (0,0)):=by rw [hwb]; exact alls_get _ w 1 _ rfl
 have b0:wb.cell? ⟨w.heap.size,0,none⟩=some (.int .i64 n):=cells_of g0 0
 have b1:wb.cell? ⟨w.heap.size,1,none⟩=some (.slice a m.length cap):=cells_of g0 1
 have q4:wb.cell? ⟨w.heap.size+1,0,none⟩=some (.int .i64 0):=cells_of g1 0
 have q5:wb.cell? ⟨w.heap.size+1,1,none⟩=some (.slice none 0 0):=cells_of g1 1
 have q6:wb.frozen? ⟨w.heap.size+1,0,none⟩=false:=by unfold World.frozen?; rw [g1]; rfl
 have q7:wb.frozen? ⟨w.heap.size+1,1,none⟩=false:=by unfold World.frozen?; rw [g1]; rfl
 clear g0 g1
 have hC1:=hC wb hfb
 rw [← hkl] at hlo hke hC1 b1 hwb ⊢
 replace hC1:=hZ hC1
 replace hlo:=hZ hlo
 replace hke:=hZ hke
 replace hkf:=hZ hkf
 replace hsh:=hZ hsh
 replace hkl:=hZ hkl
 clear hC hm hr hk hk2 hr1 hl1 hsm hKl hKr hKf
 go_enter Tryz.func50,Tryz.ntmps50
 go_upto_region 1 with (fail)
 change Code.wp _ _ _ _ (alls w [(.cells #[.int .i64 n,.slice a k cap] 76),(.cells #[.int .i64 0,.slice none 0 0] 76)])
 rw [← hwb]
 clear hwb
 go_wp2_with fail
 refine hC1.out.mono ?_
 rintro e w2 ⟨rfl,hf2⟩
 replace q6:=hf2.keepf q4 q6
 replace q7:=hf2.keepf q5 q7
 replace q4:=hf2.keep q4
 replace q5:=hf2.keep q5
 replace b0:=hf2.keep b0
 replace b1:=hf2.keep b1
 replace q4:=hZ q4
 replace q5:=hZ q5
 replace q6:=hZ q6
 replace q7:=hZ q7
 have hfw:=hfb.trans hf2
 clear hfb hf2 hC1
 go_wp2_with fail
 go_region_held3 (fun w'=>w'.cell? ⟨w.heap.size,0,none⟩=some (.int .i64 n)∧w'.cell? ⟨w.heap.size,1,none⟩=some (.slice a k cap))
  (first | go_keep | (go_split_ands; refine ⟨?_, ?_⟩ <;> (refine Fr.keep (by assumption) ?_; assumption)) | (refine two_keep _ _ _ _ _ _ _ ⟨by assumption,by assumption⟩ (by omega)))
  (first
   | (go_at_call 89; (with_reducible refine (hlo.out _ ?_).mono ?_); (exact fr9); rintro e w3 ⟨v3,hs3,rfl,hgg3,-,hf3⟩; obtain ⟨a3,c3,hv3,hm3⟩:=hgg3.mats; rw [← hkl.out] at hv3; subst hv3; replace hm3:=hZ hm3; clear hgg3)
   | (go_at_call 92; (with_reducible refine (hkf.out _ _ _ ?_ hm6.out).mono ?_); (exact fr9); rintro e w4 ⟨v4,rfl,hl4,hf4⟩; replace hl4:=hZ hl4)
   | (go_at_call 92; (with_reducible refine (hke.out _ _ _ ?_ hm3.out).mono ?_); (exact fr9); rintro e w6 ⟨v6,rfl,hl6,hf6⟩; obtain ⟨a6,c6,hv6,hm6⟩:=hl6.mats; subst hv6; replace hm6:=hZ hm6; clear hl6)
   | (go_at_call 91; (with_reducible refine (hsh.out _ _ _ ?_ hl4.out).mono ?_); (exact fr9); rintro e w5 ⟨a5,c5,rfl,hm5,hf5⟩; replace hm5:=hZ hm5; have hfz:Fr w2 w5:=(by exact fr9); have t4:=hfz.keep q4.out; have t5:=hfz.keep q5.out; have t6:=hfz.keepf q4.out q6.out; have t7:=hfz.keepf q5.out q7.out; have qs:=two_store w5 (w.heap.size+1) (.int .i64 n) (.slice a5 K.length c5) _ _ t4 t5; have q8:=qs.2.2.1; have u0:=hZ qs.1; have u1:=hZ qs.2.1; have hfx:=hZ qs.2.2.2; clear qs))
 have hsz4:=(show Fr w2 w4 by exact fr9).size
 have hszb:w.heap.size+1 < w2.heap.size:=World.block_lt_of_cell? w2 ⟨w.heap.size+1,0,none⟩ q4.out
 clear q8 t4 t5 t6 t7
 go_wp2_with fail
 have v0:=u0.out
 have v1:=u1.out
 refine bodyPost_ret (v:=.tuple #[.agg #[.int .i64 n,.slice a5 K.length c5],.int .i64 0]) (by simp [results,Tryz.results50,go_sem,v0,v1]) rfl ⟨a5,c5,rfl, ?_, ?_⟩
 ·intro W hW
  exact hm5.out W ((hfx.out.mono (fun k e=>by have e:k=w.heap.size+1:=e; show k < _; omega)).trans (hW.mono (fun k e=>by have e:k < w.heap.size:=e; show k < _; omega)))
 ·exact ((Fx.of_fr (p:=fun q=>q=w.heap.size+1) (hfw.trans hfz)).trans hfx.out).toFr (fun q hq e=>by have e:q=w.heap.size+1:=e; omega)
theorem leadI_of {xs:List Int} {p:Nat} (h0:∀ k,k < p→(xs[k]?).getD 0=0) (h1:(xs[p]?).getD 0≠0):leadI xs=p:=by
 unfold leadI
 rcases idx_cases (fun x:Int=>x != 0) xs with ⟨-,h⟩ | ⟨k,x,h2,h3,h4,h5⟩
 ·exfalso
  cases e:xs[p]? with
  | none=>rw [e] at h1; exact h1 rfl
  | some y=>
    rw [e] at h1
    have:=h y (List.mem_of_getElem? e)
    simp at this
    exact h1 this
 ·rw [h2]
  have h4:x≠0:=by simpa using h4
  by_cases e1:k < p
  ·have:=h0 k e1; rw [h3] at this; exact absurd this h4
  ·by_cases e2:p < k
   ·cases e:xs[p]? with
    | none=>rw [e] at h1; exact absurd rfl h1
    | some y=>
      rw [e] at h1
      have:=h5 p y e2 e
      simp at this
      exact absurd this h1
   ·omega
theorem Ech.lead {p:Nat→Nat} {c t:Nat} {g:List (List Int)} (h:Ech p c t g) {i:Nat} (hi:i < t):leadI (rowAt g i)=p i :=
 leadI_of (fun k hk=>h.low i hi k hk) (by have:=h.pos i hi; show ent g i (p i)≠0; omega)
theorem cut_ex {p:Nat→Nat} {d:Nat}:∀ a,(∀ i j,i < j→j < a→p i < p j)→∃ r,r≤a∧∀ i,i < a→(p i < d ↔ i < r)
 | 0,_=>⟨0,Nat.le_refl _,fun i h=>absurd h (Nat.not_lt_zero _)⟩
 | a+1,h=>by
   obtain ⟨r,h1,h2⟩:=cut_ex a (fun i j x y=>h i j x (by omega))
   by_cases e:p a < d
   ·refine ⟨a+1,Nat.le_refl _,fun i hi=>⟨fun _=>hi,fun _=>?_⟩⟩
    by_cases e2:i=a
    ·rw [e2]; exact e
    ·have:=h i a (by omega) (by omega); omega
   ·refine ⟨r,by omega,fun i hi=>?_⟩
    by_cases e2:i=a
    ·rw [e2]; exact ⟨fun x=>absurd x e,fun x=>by omega⟩
    ·exact h2 i (by omega)
theorem filter_drop {α:Type} (P:α→Bool):∀ (l:List α) (r:Nat),(∀ i x,l[i]?=some x→(P x=true ↔ r≤i))→l.filter P=l.drop r
 | [],r,_=>by simp
 | x :: l,0,h=>by
   have h0:=(h 0 x rfl).2 (Nat.zero_le _)
   rw [List.filter_cons_of_pos h0,filter_drop P l 0 (fun i y hy=>⟨fun _=>Nat.zero_le _,fun _=>(h (i+1) y hy).2 (Nat.zero_le _)⟩)]; rfl
 | x :: l,r+1,h=>by
   have h0:¬ P x=true:=fun hp=>by have:=(h 0 x rfl).1 hp; omega
   rw [List.filter_cons_of_neg h0,filter_drop P l r (fun i y hy=>by
    have:=h (i+1) y hy
    exact ⟨fun q=>by have:=this.1 q; omega,fun q=>this.2 (by omega)⟩)]; rfl
theorem ent_bd {g:List (List Int)} {K:Nat} (h:∀ r,r ∈ g→∀ x,x ∈ r→x.natAbs≤K) (i k:Nat):(ent g i k).natAbs≤K:=by
 unfold ent rowAt
 cases e:g[i]? with
 | none=>simp
 | some r=>
   rw [Option.getD_some]
   cases e2:r[k]? with
   | none=>simp
   | some x=>exact h r (List.mem_of_getElem? e) x (List.mem_of_getElem? e2)
theorem bd_ent {g:List (List Int)} {K:Nat} (h:∀ i,i < g.length→∀ k,(ent g i k).natAbs≤K):∀ r,r ∈ g→∀ x,x ∈ r→x.natAbs≤K:=fun r hr x hx=>by
 obtain ⟨i,hi⟩:=List.getElem?_of_mem hr
 obtain ⟨k,hk⟩:=List.getElem?_of_mem hx
 have:=h i (List.getElem?_eq_some_iff.1 hi).1 k
 unfold ent rowAt at this
 rw [hi,Option.getD_some,hk] at this
 exact this
theorem kerL_ech {p:Nat→Nat} {N t d:Nat} {g:List (List Int)} (_hr:Rect N g) (he:Ech p N t g) (hd:d≤N):∃ r,r≤t∧(∀ i,i < t→(p i < d ↔ i < r))∧(kerL d (g.take t)).length=t - r∧(∀ i,i < t - r→∀ k,ent (kerL d (g.take t)) i k=ent g (r+i) (d+k))∧Ech (fun i=>p (r+i) - d) (N - d) (t - r) (kerL d (g.take t)):=by
 obtain ⟨r,r1,r2⟩:=cut_ex (p:=p) (d:=d) t he.inc
 have hlt:=he.le
 have hk:kerL d (g.take t)=((g.take t).drop r).map (·.drop d):=by
  unfold kerL
  rw [filter_drop _ _ r fun i x hx=>?_]
  have hi:=(List.getElem?_eq_some_iff.1 hx).1
  rw [List.length_take] at hi
  rw [List.getElem?_take,if_pos (by omega)] at hx
  have e:x=rowAt g i:=by unfold rowAt; rw [hx]; rfl
  rw [decide_eq_true_iff,e,he.lead (by omega)]
  have:=r2 i (by omega)
  constructor
  ·intro h9
   exact Classical.byContradiction fun h8=>by have:=this.2 (by omega); omega
  ·intro h9
   exact Classical.byContradiction fun h8=>by have:=this.1 (by omega); omega
 have hl:(kerL d (g.take t)).length=t - r:=by rw [hk,List.length_map,List.length_drop,List.length_take]; omega
 have hent:∀ i,i < t - r→∀ k,ent (kerL d (g.take t)) i k=ent g (r+i) (d+k):=fun i hi k=>by
  unfold ent rowAt
  have e:(kerL d (g.take t))[i]?=some ((g[r+i]'(by omega)).drop d):=by
   rw [hk,List.getElem?_map,List.getElem?_drop,List.getElem?_take,if_pos (by omega),List.getElem?_eq_getElem (by omega)]; rfl
  rw [e,List.getElem?_eq_getElem (show r+i < g.length by omega),Option.getD_some,Option.getD_some,List.getElem?_drop]
 have hpd:∀ i,i < t - r→d≤p (r+i):=fun i hi=>Classical.byContradiction fun h9=>by
  have:=(r2 (r+i) (by omega)).1 (by omega); omega
 refine ⟨r,r1,r2,hl,hent,by omega,fun i a b=>by omega,fun i hi=>?_,fun i j hij hj=>?_,fun i hi=>?_,fun i hi k hk2=>?_,fun i j hij hj=>?_⟩
 ·have:=he.lt (r+i) (by omega); have:=hpd i hi
  show p (r+i) - d < N - d
  omega
 ·have:=he.inc (r+i) (r+j) (by omega) (by omega); have:=hpd i (by omega)
  show p (r+i) - d < p (r+j) - d
  omega
 ·rw [hent i hi,show d+(p (r+i) - d)=p (r+i) by have:=hpd i hi; omega]; exact he.pos _ (by omega)
 ·have hk2:k < p (r+i) - d:=hk2
  rw [hent i hi]; exact he.low _ (by omega) _ (by omega)
 ·rw [hent i (by omega),hent j hj,show d+(p (r+j) - d)=p (r+j) by have:=hpd j hj; omega]; exact he.up _ _ (by omega) (by omega)
theorem wideL_bd {n K:Nat} {m:List (List Int)} (hK:1≤K) (h:∀ r,r ∈ m→∀ x,x ∈ r→x.natAbs≤K):∀ r,r ∈ wideL n m→∀ x,x ∈ r→x.natAbs≤K:=fun r hr x hx=>by
 obtain ⟨c,-,rfl⟩:=List.mem_map.1 hr
 rcases List.mem_append.1 hx with h1 | h1
 ·obtain ⟨y,hy,rfl⟩:=List.mem_map.1 h1
  cases e:y[c]? with
  | none=>simp
  | some z=>exact h y hy z (List.mem_of_getElem? e)
 ·unfold unitRow at h1
  have:=List.mem_or_eq_of_mem_set h1
  rcases this with h2 | h2
  ·have:=List.eq_of_mem_replicate h2; omega
  ·omega
structure KrIs (F n d B:Nat) (m gW K:List (List Int)) (p:Nat→Nat) (t r:Nat):Prop where
 wide:Uni n (ent (wideL n m)) (ent gW)
 rect:Rect (d+n) gW
 len:gW.length=n
 ech:Ech p (d+n) t gW
 cut:r≤t
 low:∀ i,i < t→(p i < d ↔ i < r)
 klen:K.length=t - r
 krect:Rect n K
 kent:∀ i,i < t - r→∀ k,ent K i k=ent gW (r+i) (d+k)
 kech:Ech (fun i=>p (r+i) - d) n K.length K
 kbd:∀ r,r ∈ K→∀ x,x ∈ r→x.natAbs≤B
 out:kernS F n m=some K
theorem kernS_ex {F n B:Nat} {m:List (List Int)} (hK:1≤B) (h:∀ r,r ∈ m→∀ x,x ∈ r→x.natAbs≤B) (hZ:itK n B < big) (hF:itK n B < F):∃ gW K p t r,KrIs F n m.length (itK n B) m gW K p t r:=by
 have hw:=wideL_bd (n:=n) hK h
 obtain ⟨gW,tW,h1,h2⟩:=formS_any (F:=F) (m:=n) (m.length+n) 0 0 B (wideL n m) (wideL_rect n m) (wideL_len n m) hK (by rw [Nat.sub_zero]; exact hZ) (by rw [Nat.sub_zero]; exact hF) (fun i _ k=>ent_bd hw i k)
 obtain ⟨p,e1,e2,e3,e4⟩:=formS_ech _ 0 0 (wideL n m) gW tW (fun _=>0) (wideL_rect n m) (Ech.init _ _) h1
 rw [Nat.zero_add] at e1
 rw [wideL_len] at e3 e4
 rw [Nat.sub_zero] at h2
 obtain ⟨r,r1,r2,r3,r4,r5⟩:=kerL_ech e2 e1 (show m.length≤m.length+n by omega)
 have hrK:Rect n (kerL m.length (gW.take tW)):=by have:=kerL_rect (n:=m.length) e2 tW; rwa [show m.length+n - m.length=n by omega] at this
 rw [show m.length+n - m.length=n by omega,← r3] at r5
 have hle:=e1.le
 have hbK:∀ i,i < (kerL m.length (gW.take tW)).length→∀ k,(ent (kerL m.length (gW.take tW)) i k).natAbs≤itK n B:=fun i hi k=>by
  rw [r3] at hi
  rw [r4 i hi]; exact h2 _ (by omega) _
 cases F with
 | zero=>omega
 | succ F=>
   have hfix:=formS_fix (F:=F) hrK r5 (fun i hi k=>smW_of (Nat.lt_of_le_of_lt (hbK i hi k) hZ)) n 0 0 (by omega) (Nat.zero_le _) (fun i _=>⟨fun h9=>absurd h9 (Nat.not_lt_zero _),fun h9=>absurd h9 (Nat.not_lt_zero _)⟩)
   refine ⟨gW,kerL m.length (gW.take tW),p,tW,r,e4,e2,e3,e1,r1,r2,r3,hrK,r4,r5,bd_ent hbK, ?_⟩
   unfold kernS
   rw [h1]
   show (formS (F+1) n 0 (kerL m.length (gW.take tW)) 0).map _=_
   rw [hfix]
   show some ((kerL m.length (gW.take tW)).take (kerL m.length (gW.take tW)).length)=_
   rw [List.take_length]
def dtS (f g:Nat→Int):Nat→Int
 | 0=>0
 | k+1=>dtS f g k+f k * g k
theorem dtS_add (f g h:Nat→Int):∀ n,dtS (fun j=>f j+g j) h n=dtS f h n+dtS g h n
 | 0=>rfl
 | n+1=>by show dtS _ h n+(f n+g n) * h n=dtS f h n+f n * h n+(dtS g h n+g n * h n); rw [dtS_add f g h n,Int.add_mul]; omega
theorem dtS_congr {f g f' g':Nat→Int}:∀ {n:Nat},(∀ j,j < n→f j=f' j∧g j=g' j)→dtS f g n=dtS f' g' n
 | 0,_=>rfl
 | n+1,h=>by
   show dtS f g n+f n * g n=dtS f' g' n+f' n * g' n
   rw [dtS_congr (fun j hj=>h j (by omega)),(h n (by omega)).1,(h n (by omega)).2]
theorem dtS_delta (D:Int) (k:Nat) (g:Nat→Int):∀ n,dtS (fun j=>if k=j then D else 0) g n=if k < n then D * g k else 0
 | 0=>by rw [if_neg (Nat.not_lt_zero _)]; rfl
 | n+1=>by
   show dtS _ g n+(if k=n then D else 0) * g n=_
   rw [dtS_delta D k g n]
   by_cases h1:k < n
   ·rw [if_pos h1,if_neg (by omega),if_pos (by omega)]; omega
   ·by_cases h2:k=n
    ·subst h2; rw [if_neg h1,if_pos rfl,if_pos (by omega)]; omega
    ·rw [if_neg h1,if_neg h2,if_neg (by omega)]; omega
theorem dtS_flip (f g:Nat→Int):∀ n,dtS f g n=dtS g f n
 | 0=>rfl
 | n+1=>by show dtS f g n+f n * g n=dtS g f n+g n * f n; rw [dtS_flip f g n,Int.mul_comm]
end Go.Proofs.YtiniigadkknboaaGreatDoor
