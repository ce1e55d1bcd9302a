/- Contracts and laws: CAU. -/
import Derived.Test.YtiniigadkknboaaGreatDoorCAT
import Derived.Test.YtiniigadkknboaaGreatDoorCAD
import Derived.Test.YtiniigadkknboaaGreatDoorCAG

set_option maxRecDepth 100000
set_option maxHeartbeats 2000000
namespace Go.Proofs.YtiniigadkknboaaGreatDoor
open Go.RowKit Go.Lib
attribute [local go_sem ↓] Go.wp_at_zero Go.wp_at_succ
theorem GG.mats {w:World} {base:Nat} {E:TypeId} {v:Value} {hs:List (Nat×Nat×Nat)} {g:List (List Int)} (h:GG w base E v hs g):∃ a c,v=.slice a g.length c∧MatS w a g:=by
 obtain ⟨a,c,rfl,h2⟩:=ownsRow_slice h.own
 refine ⟨a,c,rfl, ?_⟩
 rcases h2 with h2 | ⟨g0,rfl⟩
 ·exact .inl (List.eq_nil_of_length_eq_zero h2)
 ·have:=h.grid.1.mats g.length
  rw [List.take_length] at this
  exact this
theorem GridIs.take {w:World} {ob oo:Nat} {hs:List (Nat×Nat×Nat)} {g:List (List Int)} (h:GridIs w ob oo hs g) (t:Nat):GridIs w ob oo (hs.take t) (g.take t):=by
 have key:∀ {α:Type} {l:List α} {i:Nat} {x:α},(l.take t)[i]?=some x→l[i]?=some x:=fun {α l i x} hx=>by
  rw [List.getElem?_take] at hx
  split at hx
  ·exact hx
  ·cases hx
 exact ⟨by rw [List.length_take,List.length_take,h.len],h.outer,h.gob,fun i hd xs h1 h2=>h.cell i hd xs (key h1) (key h2),fun i hd xs h1 h2=>h.row i hd xs (key h1) (key h2),fun i j hi hj h1 h2=>h.apart i j hi hj (key h1) (key h2)⟩
theorem shortLG_any (B n:Nat) (v:Value) (g:List (List Int)) (w:World) (hG:G w) (hv:LG w B v g) (hl:g.length≤1000000) (hr:∀ r,r ∈ g→r.length≤1000000) (hb:∀ r,r ∈ g→∀ x,x ∈ r→fitB x=true) :
 Calls Tryz.prog 91 #[v,.int .i64 n] w (LatRet w n g):=by
 rcases hv with ⟨rfl,rfl⟩ | ⟨ob,oc,hs,gF,tF,rfl,hg,h2,-,rfl,-⟩
 ·exact (short_nil n w).mono fun e w' ⟨he,hf⟩=>⟨none,0,he,fun W _=>.inl rfl,hf⟩
 ·have:=short_any ob oc tF n (hs.take tF) (gF.take tF) w hG (hg.take tF) hl (by rw [List.length_take]; omega) hr hb
  rw [List.take_of_length_le (by rw [List.length_take]; omega)] at this
  exact this
def LatFine (w:World) (n:Nat) (a:Option Addr) (k c:Nat):Prop:=∀ W,Fr w W→Calls Tryz.prog 65 #[.agg #[.int .i64 n,.slice a k c]] W fun e w'=>e=.returned (.int .i64 0)∧Fr W w'
def kernS (F n:Nat) (m:List (List Int)):Option (List (List Int)) :=
 (formS F (m.length+n) 0 (wideL n m) 0).bind fun r=>(formS F n 0 (kerL m.length (r.1.take r.2)) 0).map fun q=>q.1.take q.2
theorem kernS_some {F n:Nat} {m K:List (List Int)} (h:kernS F n m=some K):∃ gW tW gK tK,formS F (m.length+n) 0 (wideL n m) 0=some (gW,tW)∧formS F n 0 (kerL m.length (gW.take tW)) 0=some (gK,tK)∧gK.take tK=K:=by
 unfold kernS at h
 obtain ⟨⟨gW,tW⟩,h1,h2⟩:=Option.bind_eq_some_iff.1 h
 obtain ⟨⟨gK,tK⟩,h3,h4⟩:=Option.map_eq_some_iff.1 h2
 exact ⟨gW,tW,gK,tK,h1,h3,h4⟩
theorem kernelS_any (m K:List (List Int)) (a:Option Addr) (cap n F:Nat) (w:World) (hG:G w) (hm:MatS w a m) (hr:Rect n m) (hn:1≤n) (hn2:n≤1000) (hl:m.length≤1000) (hk:kernS F n m=some K) :
 Calls Tryz.prog 92 #[.slice a m.length cap,.int .i64 n] w fun e w'=>∃ v,e=.returned v∧LG w' w.heap.size v K∧Fr w w':=by
 obtain ⟨gW,tW,gK,tK,h1,h2,rfl⟩:=kernS_some hk
 exact kernelL_any m gW gK a cap n F F tW tK w hG hm hr hn hn2 hl h1 h2
theorem Annih_any (m K:List (List Int)) (a:Option Addr) (cap n F:Nat) (w:World) (hG:G w) (hm:MatIs w a m) (hC:LatFine w n a m.length cap) (hr:Rect n m) (hn:1≤n) (hn2:n≤12) (hl:m.length≤12) (hsm:∀ r,r ∈ m→∀ x,x ∈ r→Sm x)
 (hk:kernS F n m=some K) (hKl:K.length≤1000000) (hKr:∀ r,r ∈ K→r.length≤1000000) (hKf:∀ r,r ∈ K→∀ x,x ∈ r→fitB x=true) :
 Calls Tryz.prog 49 #[.agg #[.int .i64 n,.slice a m.length cap]] w (LatRet w n K):=by
 obtain ⟨k,hkl⟩:∃ k,k=m.length:=⟨_,rfl⟩
 have hlo:=fun W (hW:Fr w W)=>longsOf_any m a cap W (hG.fr hW) (hm.fr hW) (fun r hrm=>by rw [hr r hrm]; omega) (by omega) hsm
 have hke:=fun W a' c' (hW:Fr w W) (hx:MatS W a' m)=>kernelS_any m K a' c' n F W (hG.fr hW) hx hr hn (by omega) (by omega) hk
 have hsh:=fun W B v (hW:Fr w W) (hx:LG W B v K)=>shortLG_any B n v K W (hG.fr hW) hx hKl hKr hKf
 obtain ⟨wb,hwb⟩:∃ wb,wb=alls w [(.cells #[.int .i64 n,.slice a m.length cap] 76),(.cells #[.int .i64 0,.slice none 0 0] 76)]:=⟨_,rfl⟩
 have hfb:Fr w wb:=by rw [hwb]; exact alls_fr _ w
 have g0:wb.heap[w.heap.size]?=some (.cells #[.int .i64 n,.slice a m.length cap] 76 (0,0)):=by rw [hwb]; exact alls_get _ w 0 _ rfl
 have g1:wb.heap[w.heap.size+1]?=some (.cells #[.int .i64 0,.slice none 0 0] 76 (0,0)):=by rw [hwb]; exact alls_get _ w 1 _ rfl
 have b0:wb.cell? ⟨w.heap.size,0,none⟩=some (.int .i64 n):=cells_of g0 0
 have b1:wb.cell? ⟨w.heap.size,1,none⟩=some (.slice a m.length cap):=cells_of g0 1
 have q4:wb.cell? ⟨w.heap.size+1,0,none⟩=some (.int .i64 0):=cells_of g1 0
 have q5:wb.cell? ⟨w.heap.size+1,1,none⟩=some (.slice none 0 0):=cells_of g1 1
 have q6:wb.frozen? ⟨w.heap.size+1,0,none⟩=false:=by unfold World.frozen?; rw [g1]; rfl
 have q7:wb.frozen? ⟨w.heap.size+1,1,none⟩=false:=by unfold World.frozen?; rw [g1]; rfl
 clear g0 g1
 have hC1:=hC wb hfb
 rw [← hkl] at hlo hke hC1 b1 hwb ⊢
 replace hC1:=hZ hC1
 replace hlo:=hZ hlo
 replace hke:=hZ hke
 replace hsh:=hZ hsh
 replace hkl:=hZ hkl
 clear hC hm hr hk hsm hKl hKr hKf
 go_enter Tryz.func49,Tryz.ntmps49
 go_upto_region 1 with (fail)
 change Code.wp _ _ _ _ (alls w [(.cells #[.int .i64 n,.slice a k cap] 76),(.cells #[.int .i64 0,.slice none 0 0] 76)])
 rw [← hwb]
 clear hwb
 go_wp2_with fail
 refine hC1.out.mono ?_
 rintro e w2 ⟨rfl,hf2⟩
 replace q6:=hf2.keepf q4 q6
 replace q7:=hf2.keepf q5 q7
 replace q4:=hf2.keep q4
 replace q5:=hf2.keep q5
 replace b0:=hf2.keep b0
 replace b1:=hf2.keep b1
 replace q4:=hZ q4
 replace q5:=hZ q5
 replace q6:=hZ q6
 replace q7:=hZ q7
 have hfw:=hfb.trans hf2
 clear hfb hf2 hC1
 go_wp2_with fail
 go_region_held3 (fun w'=>w'.cell? ⟨w.heap.size,0,none⟩=some (.int .i64 n)∧w'.cell? ⟨w.heap.size,1,none⟩=some (.slice a k cap))
  (first | go_keep | (go_split_ands; refine ⟨?_, ?_⟩ <;> (refine Fr.keep (by assumption) ?_; assumption)) | (refine two_keep _ _ _ _ _ _ _ ⟨by assumption,by assumption⟩ (by omega)))
  (first
   | (go_at_call 89; (with_reducible refine (hlo.out _ ?_).mono ?_); (exact fr9); rintro e w3 ⟨v3,hs3,rfl,hgg3,-,hf3⟩; obtain ⟨a3,c3,hv3,hm3⟩:=hgg3.mats; rw [← hkl.out] at hv3; subst hv3; replace hm3:=hZ hm3; clear hgg3)
   | (go_at_call 92; (with_reducible refine (hke.out _ _ _ ?_ hm3.out).mono ?_); (exact fr9); rintro e w4 ⟨v4,rfl,hl4,hf4⟩; replace hl4:=hZ hl4)
   | (go_at_call 91; (with_reducible refine (hsh.out _ _ _ ?_ hl4.out).mono ?_); (exact fr9); rintro e w5 ⟨a5,c5,rfl,hm5,hf5⟩; replace hm5:=hZ hm5; have hfz:Fr w2 w5:=(by exact fr9); have t4:=hfz.keep q4.out; have t5:=hfz.keep q5.out; have t6:=hfz.keepf q4.out q6.out; have t7:=hfz.keepf q5.out q7.out; have qs:=two_store w5 (w.heap.size+1) (.int .i64 n) (.slice a5 K.length c5) _ _ t4 t5; have q8:=qs.2.2.1; have u0:=hZ qs.1; have u1:=hZ qs.2.1; have hfx:=hZ qs.2.2.2; clear qs))
 have hsz4:=(show Fr w2 w4 by exact fr9).size
 have hszb:w.heap.size+1 < w2.heap.size:=World.block_lt_of_cell? w2 ⟨w.heap.size+1,0,none⟩ q4.out
 clear q8 t4 t5 t6 t7
 go_wp2_with fail
 have v0:=u0.out
 have v1:=u1.out
 refine bodyPost_ret (v:=.tuple #[.agg #[.int .i64 n,.slice a5 K.length c5],.int .i64 0]) (by simp [results,Tryz.results49,go_sem,v0,v1]) rfl ⟨a5,c5,rfl, ?_, ?_⟩
 ·intro W hW
  exact hm5.out W ((hfx.out.mono (fun k e=>by have e:k=w.heap.size+1:=e; show k < _; omega)).trans (hW.mono (fun k e=>by have e:k < w.heap.size:=e; show k < _; omega)))
 ·exact ((Fx.of_fr (p:=fun q=>q=w.heap.size+1) (hfw.trans hfz)).trans hfx.out).toFr (fun q hq e=>by have e:q=w.heap.size+1:=e; omega)
theorem Satur_any (m K1 K:List (List Int)) (a:Option Addr) (cap n F:Nat) (w:World) (hG:G w) (hm:MatIs w a m) (hC:LatFine w n a m.length cap) (hr:Rect n m) (hn:1≤n) (hn2:n≤12) (hl:m.length≤12) (hsm:∀ r,r ∈ m→∀ x,x ∈ r→Sm x)
 (hk:kernS F n m=some K1) (hk2:kernS F n K1=some K) (hr1:Rect n K1) (hl1:K1.length≤1000) (hKl:K.length≤1000000) (hKr:∀ r,r ∈ K→r.length≤1000000) (hKf:∀ r,r ∈ K→∀ x,x ∈ r→fitB x=true) :
 Calls Tryz.prog 50 #[.agg #[.int .i64 n,.slice a m.length cap]] w (LatRet w n K):=by
 obtain ⟨k,hkl⟩:∃ k,k=m.length:=⟨_,rfl⟩
 have hlo:=fun W (hW:Fr w W)=>longsOf_any m a cap W (hG.fr hW) (hm.fr hW) (fun r hrm=>by rw [hr r hrm]; omega) (by omega) hsm
 have hke:=fun W a' c' (hW:Fr w W) (hx:MatS W a' m)=>kernelS_any m K1 a' c' n F W (hG.fr hW) hx hr hn (by omega) (by omega) hk
 have hkf:=fun W a' c' (hW:Fr w W) (hx:MatS W a' K1)=>kernelS_any K1 K a' c' n F W (hG.fr hW) hx hr1 hn (by omega) hl1 hk2
 have hsh:=fun W B v (hW:Fr w W) (hx:LG W B v K)=>shortLG_any B n v K W (hG.fr hW) hx hKl hKr hKf
 obtain ⟨wb,hwb⟩:∃ wb,wb=alls w [(.cells #[.int .i64 n,.slice a m.length cap] 76),(.cells #[.int .i64 0,.slice none 0 0] 76)]:=⟨_,rfl⟩
 have hfb:Fr w wb:=by rw [hwb]; exact alls_fr _ w
 have g0:wb.heap[w.heap.size]?=some (.cells #[.int .i64 n,.slice a m.length cap] 76 (0,0)):=by rw [hwb]; exact alls_get _ w 0 _ rfl
 have g1:wb.heap[w.heap.size+1]?=some (.cells #[.int .i64 0,.slice none 0 0] 76 (0,0)):=by rw [hwb]; exact alls_get _ w 1 _ rfl
 have b0:wb.cell? ⟨w.heap.size,0,none⟩=some (.int .i64 n):=cells_of g0 0
 have b1:wb.cell? ⟨w.heap.size,1,none⟩=some (.slice a m.length cap):=cells_of g0 1
 have q4:wb.cell? ⟨w.heap.size+1,0,none⟩=some (.int .i64 0):=cells_of g1 0
 have q5:wb.cell? ⟨w.heap.size+1,1,none⟩=some (.slice none 0 0):=cells_of g1 1
 have q6:wb.frozen? ⟨w.heap.size+1,0,none⟩=false:=by unfold World.frozen?; rw [g1]; rfl
 have q7:wb.frozen? ⟨w.heap.size+1,1,none⟩=false:=by unfold World.frozen?; rw [g1]; rfl
 clear g0 g1
 have hC1:=hC wb hfb
 rw [← hkl] at hlo hke hC1 b1 hwb ⊢
 replace hC1:=hZ hC1
 replace hlo:=hZ hlo
 replace hke:=hZ hke
 replace hkf:=hZ hkf
 replace hsh:=hZ hsh
 replace hkl:=hZ hkl
 clear hC hm hr hk hk2 hr1 hl1 hsm hKl hKr hKf
 go_enter Tryz.func50,Tryz.ntmps50
 go_upto_region 1 with (fail)
 change Code.wp _ _ _ _ (alls w [(.cells #[.int .i64 n,.slice a k cap] 76),(.cells #[.int .i64 0,.slice none 0 0] 76)])
 rw [← hwb]
 clear hwb
 go_wp2_with fail
 refine hC1.out.mono ?_
 rintro e w2 ⟨rfl,hf2⟩
 replace q6:=hf2.keepf q4 q6
 replace q7:=hf2.keepf q5 q7
 replace q4:=hf2.keep q4
 replace q5:=hf2.keep q5
 replace b0:=hf2.keep b0
 replace b1:=hf2.keep b1
 replace q4:=hZ q4
 replace q5:=hZ q5
 replace q6:=hZ q6
 replace q7:=hZ q7
 have hfw:=hfb.trans hf2
 clear hfb hf2 hC1
 go_wp2_with fail
 go_region_held3 (fun w'=>w'.cell? ⟨w.heap.size,0,none⟩=some (.int .i64 n)∧w'.cell? ⟨w.heap.size,1,none⟩=some (.slice a k cap))
  (first | go_keep | (go_split_ands; refine ⟨?_, ?_⟩ <;> (refine Fr.keep (by assumption) ?_; assumption)) | (refine two_keep _ _ _ _ _ _ _ ⟨by assumption,by assumption⟩ (by omega)))
  (first
   | (go_at_call 89; (with_reducible refine (hlo.out _ ?_).mono ?_); (exact fr9); rintro e w3 ⟨v3,hs3,rfl,hgg3,-,hf3⟩; obtain ⟨a3,c3,hv3,hm3⟩:=hgg3.mats; rw [← hkl.out] at hv3; subst hv3; replace hm3:=hZ hm3; clear hgg3)
   | (go_at_call 92; (with_reducible refine (hkf.out _ _ _ ?_ hm6.out).mono ?_); (exact fr9); rintro e w4 ⟨v4,rfl,hl4,hf4⟩; replace hl4:=hZ hl4)
   | (go_at_call 92; (with_reducible refine (hke.out _ _ _ ?_ hm3.out).mono ?_); (exact fr9); rintro e w6 ⟨v6,rfl,hl6,hf6⟩; obtain ⟨a6,c6,hv6,hm6⟩:=hl6.mats; subst hv6; replace hm6:=hZ hm6; clear hl6)
   | (go_at_call 91; (with_reducible refine (hsh.out _ _ _ ?_ hl4.out).mono ?_); (exact fr9); rintro e w5 ⟨a5,c5,rfl,hm5,hf5⟩; replace hm5:=hZ hm5; have hfz:Fr w2 w5:=(by exact fr9); have t4:=hfz.keep q4.out; have t5:=hfz.keep q5.out; have t6:=hfz.keepf q4.out q6.out; have t7:=hfz.keepf q5.out q7.out; have qs:=two_store w5 (w.heap.size+1) (.int .i64 n) (.slice a5 K.length c5) _ _ t4 t5; have q8:=qs.2.2.1; have u0:=hZ qs.1; have u1:=hZ qs.2.1; have hfx:=hZ qs.2.2.2; clear qs))
 have hsz4:=(show Fr w2 w4 by exact fr9).size
 have hszb:w.heap.size+1 < w2.heap.size:=World.block_lt_of_cell? w2 ⟨w.heap.size+1,0,none⟩ q4.out
 clear q8 t4 t5 t6 t7
 go_wp2_with fail
 have v0:=u0.out
 have v1:=u1.out
 refine bodyPost_ret (v:=.tuple #[.agg #[.int .i64 n,.slice a5 K.length c5],.int .i64 0]) (by simp [results,Tryz.results50,go_sem,v0,v1]) rfl ⟨a5,c5,rfl, ?_, ?_⟩
 ·intro W hW
  exact hm5.out W ((hfx.out.mono (fun k e=>by have e:k=w.heap.size+1:=e; show k < _; omega)).trans (hW.mono (fun k e=>by have e:k < w.heap.size:=e; show k < _; omega)))
 ·exact ((Fx.of_fr (p:=fun q=>q=w.heap.size+1) (hfw.trans hfz)).trans hfx.out).toFr (fun q hq e=>by have e:q=w.heap.size+1:=e; omega)
theorem leadI_of {xs:List Int} {p:Nat} (h0:∀ k,k < p→(xs[k]?).getD 0=0) (h1:(xs[p]?).getD 0≠0):leadI xs=p:=by
 unfold leadI
 rcases idx_cases (fun x:Int=>x != 0) xs with ⟨-,h⟩ | ⟨k,x,h2,h3,h4,h5⟩
 ·exfalso
  cases e:xs[p]? with
  | none=>rw [e] at h1; exact h1 rfl
  | some y=>
    rw [e] at h1
    have:=h y (List.mem_of_getElem? e)
    simp at this
    exact h1 this
 ·rw [h2]
  have h4:x≠0:=by simpa using h4
  by_cases e1:k < p
  ·have:=h0 k e1; rw [h3] at this; exact absurd this h4
  ·by_cases e2:p < k
   ·cases e:xs[p]? with
    | none=>rw [e] at h1; exact absurd rfl h1
    | some y=>
      rw [e] at h1
      have:=h5 p y e2 e
      simp at this
      exact absurd this h1
   ·omega
theorem Ech.lead {p:Nat→Nat} {c t:Nat} {g:List (List Int)} (h:Ech p c t g) {i:Nat} (hi:i < t):leadI (rowAt g i)=p i :=
 leadI_of (fun k hk=>h.low i hi k hk) (by have:=h.pos i hi; show ent g i (p i)≠0; omega)
theorem cut_ex {p:Nat→Nat} {d:Nat}:∀ a,(∀ i j,i < j→j < a→p i < p j)→∃ r,r≤a∧∀ i,i < a→(p i < d ↔ i < r)
 | 0,_=>⟨0,Nat.le_refl _,fun i h=>absurd h (Nat.not_lt_zero _)⟩
 | a+1,h=>by
   obtain ⟨r,h1,h2⟩:=cut_ex a (fun i j x y=>h i j x (by omega))
   by_cases e:p a < d
   ·refine ⟨a+1,Nat.le_refl _,fun i hi=>⟨fun _=>hi,fun _=>?_⟩⟩
    by_cases e2:i=a
    ·rw [e2]; exact e
    ·have:=h i a (by omega) (by omega); omega
   ·refine ⟨r,by omega,fun i hi=>?_⟩
    by_cases e2:i=a
    ·rw [e2]; exact ⟨fun x=>absurd x e,fun x=>by omega⟩
    ·exact h2 i (by omega)
theorem filter_drop {α:Type} (P:α→Bool):∀ (l:List α) (r:Nat),(∀ i x,l[i]?=some x→(P x=true ↔ r≤i))→l.filter P=l.drop r
 | [],r,_=>by simp
 | x :: l,0,h=>by
   have h0:=(h 0 x rfl).2 (Nat.zero_le _)
   rw [List.filter_cons_of_pos h0,filter_drop P l 0 (fun i y hy=>⟨fun _=>Nat.zero_le _,fun _=>(h (i+1) y hy).2 (Nat.zero_le _)⟩)]; rfl
 | x :: l,r+1,h=>by
   have h0:¬ P x=true:=fun hp=>by have:=(h 0 x rfl).1 hp; omega
   rw [List.filter_cons_of_neg h0,filter_drop P l r (fun i y hy=>by
    have:=h (i+1) y hy
    exact ⟨fun q=>by have:=this.1 q; omega,fun q=>this.2 (by omega)⟩)]; rfl
theorem ent_bd {g:List (List Int)} {K:Nat} (h:∀ r,r ∈ g→∀ x,x ∈ r→x.natAbs≤K) (i k:Nat):(ent g i k).natAbs≤K:=by
 unfold ent rowAt
 cases e:g[i]? with
 | none=>simp
 | some r=>
   rw [Option.getD_some]
   cases e2:r[k]? with
   | none=>simp
   | some x=>exact h r (List.mem_of_getElem? e) x (List.mem_of_getElem? e2)
theorem bd_ent {g:List (List Int)} {K:Nat} (h:∀ i,i < g.length→∀ k,(ent g i k).natAbs≤K):∀ r,r ∈ g→∀ x,x ∈ r→x.natAbs≤K:=fun r hr x hx=>by
 obtain ⟨i,hi⟩:=List.getElem?_of_mem hr
 obtain ⟨k,hk⟩:=List.getElem?_of_mem hx
 have:=h i (List.getElem?_eq_some_iff.1 hi).1 k
 unfold ent rowAt at this
 rw [hi,Option.getD_some,hk] at this
 exact this
theorem kerL_ech {p:Nat→Nat} {N t d:Nat} {g:List (List Int)} (_hr:Rect N g) (he:Ech p N t g) (hd:d≤N):∃ r,r≤t∧(∀ i,i < t→(p i < d ↔ i < r))∧(kerL d (g.take t)).length=t - r∧(∀ i,i < t - r→∀ k,ent (kerL d (g.take t)) i k=ent g (r+i) (d+k))∧Ech (fun i=>p (r+i) - d) (N - d) (t - r) (kerL d (g.take t)):=by
 obtain ⟨r,r1,r2⟩:=cut_ex (p:=p) (d:=d) t he.inc
 have hlt:=he.le
 have hk:kerL d (g.take t)=((g.take t).drop r).map (·.drop d):=by
  unfold kerL
  rw [filter_drop _ _ r fun i x hx=>?_]
  have hi:=(List.getElem?_eq_some_iff.1 hx).1
  rw [List.length_take] at hi
  rw [List.getElem?_take,if_pos (by omega)] at hx
  have e:x=rowAt g i:=by unfold rowAt; rw [hx]; rfl
  rw [decide_eq_true_iff,e,he.lead (by omega)]
  have:=r2 i (by omega)
  constructor
  ·intro h9
   exact Classical.byContradiction fun h8=>by have:=this.2 (by omega); omega
  ·intro h9
   exact Classical.byContradiction fun h8=>by have:=this.1 (by omega); omega
 have hl:(kerL d (g.take t)).length=t - r:=by rw [hk,List.length_map,List.length_drop,List.length_take]; omega
 have hent:∀ i,i < t - r→∀ k,ent (kerL d (g.take t)) i k=ent g (r+i) (d+k):=fun i hi k=>by
  unfold ent rowAt
  have e:(kerL d (g.take t))[i]?=some ((g[r+i]'(by omega)).drop d):=by
   rw [hk,List.getElem?_map,List.getElem?_drop,List.getElem?_take,if_pos (by omega),List.getElem?_eq_getElem (by omega)]; rfl
  rw [e,List.getElem?_eq_getElem (show r+i < g.length by omega),Option.getD_some,Option.getD_some,List.getElem?_drop]
 have hpd:∀ i,i < t - r→d≤p (r+i):=fun i hi=>Classical.byContradiction fun h9=>by
  have:=(r2 (r+i) (by omega)).1 (by omega); omega
 refine ⟨r,r1,r2,hl,hent,by omega,fun i a b=>by omega,fun i hi=>?_,fun i j hij hj=>?_,fun i hi=>?_,fun i hi k hk2=>?_,fun i j hij hj=>?_⟩
 ·have:=he.lt (r+i) (by omega); have:=hpd i hi
  show p (r+i) - d < N - d
  omega
 ·have:=he.inc (r+i) (r+j) (by omega) (by omega); have:=hpd i (by omega)
  show p (r+i) - d < p (r+j) - d
  omega
 ·rw [hent i hi,show d+(p (r+i) - d)=p (r+i) by have:=hpd i hi; omega]; exact he.pos _ (by omega)
 ·have hk2:k < p (r+i) - d:=hk2
  rw [hent i hi]; exact he.low _ (by omega) _ (by omega)
 ·rw [hent i (by omega),hent j hj,show d+(p (r+j) - d)=p (r+j) by have:=hpd j hj; omega]; exact he.up _ _ (by omega) (by omega)
theorem wideL_bd {n K:Nat} {m:List (List Int)} (hK:1≤K) (h:∀ r,r ∈ m→∀ x,x ∈ r→x.natAbs≤K):∀ r,r ∈ wideL n m→∀ x,x ∈ r→x.natAbs≤K:=fun r hr x hx=>by
 obtain ⟨c,-,rfl⟩:=List.mem_map.1 hr
 rcases List.mem_append.1 hx with h1 | h1
 ·obtain ⟨y,hy,rfl⟩:=List.mem_map.1 h1
  cases e:y[c]? with
  | none=>simp
  | some z=>exact h y hy z (List.mem_of_getElem? e)
 ·unfold unitRow at h1
  have:=List.mem_or_eq_of_mem_set h1
  rcases this with h2 | h2
  ·have:=List.eq_of_mem_replicate h2; omega
  ·omega
structure KrIs (F n d B:Nat) (m gW K:List (List Int)) (p:Nat→Nat) (t r:Nat):Prop where
 wide:Uni n (ent (wideL n m)) (ent gW)
 rect:Rect (d+n) gW
 len:gW.length=n
 ech:Ech p (d+n) t gW
 cut:r≤t
 low:∀ i,i < t→(p i < d ↔ i < r)
 klen:K.length=t - r
 krect:Rect n K
 kent:∀ i,i < t - r→∀ k,ent K i k=ent gW (r+i) (d+k)
 kech:Ech (fun i=>p (r+i) - d) n K.length K
 kbd:∀ r,r ∈ K→∀ x,x ∈ r→x.natAbs≤B
 out:kernS F n m=some K
theorem kernS_ex {F n B:Nat} {m:List (List Int)} (hK:1≤B) (h:∀ r,r ∈ m→∀ x,x ∈ r→x.natAbs≤B) (hZ:itK n B < big) (hF:itK n B < F):∃ gW K p t r,KrIs F n m.length (itK n B) m gW K p t r:=by
 have hw:=wideL_bd (n:=n) hK h
 obtain ⟨gW,tW,h1,h2⟩:=formS_any (F:=F) (m:=n) (m.length+n) 0 0 B (wideL n m) (wideL_rect n m) (wideL_len n m) hK (by rw [Nat.sub_zero]; exact hZ) (by rw [Nat.sub_zero]; exact hF) (fun i _ k=>ent_bd hw i k)
 obtain ⟨p,e1,e2,e3,e4⟩:=formS_ech _ 0 0 (wideL n m) gW tW (fun _=>0) (wideL_rect n m) (Ech.init _ _) h1
 rw [Nat.zero_add] at e1
 rw [wideL_len] at e3 e4
 rw [Nat.sub_zero] at h2
 obtain ⟨r,r1,r2,r3,r4,r5⟩:=kerL_ech e2 e1 (show m.length≤m.length+n by omega)
 have hrK:Rect n (kerL m.length (gW.take tW)):=by have:=kerL_rect (n:=m.length) e2 tW; rwa [show m.length+n - m.length=n by omega] at this
 rw [show m.length+n - m.length=n by omega,← r3] at r5
 have hle:=e1.le
 have hbK:∀ i,i < (kerL m.length (gW.take tW)).length→∀ k,(ent (kerL m.length (gW.take tW)) i k).natAbs≤itK n B:=fun i hi k=>by
  rw [r3] at hi
  rw [r4 i hi]; exact h2 _ (by omega) _
 cases F with
 | zero=>omega
 | succ F=>
   have hfix:=formS_fix (F:=F) hrK r5 (fun i hi k=>smW_of (Nat.lt_of_le_of_lt (hbK i hi k) hZ)) n 0 0 (by omega) (Nat.zero_le _) (fun i _=>⟨fun h9=>absurd h9 (Nat.not_lt_zero _),fun h9=>absurd h9 (Nat.not_lt_zero _)⟩)
   refine ⟨gW,kerL m.length (gW.take tW),p,tW,r,e4,e2,e3,e1,r1,r2,r3,hrK,r4,r5,bd_ent hbK, ?_⟩
   unfold kernS
   rw [h1]
   show (formS (F+1) n 0 (kerL m.length (gW.take tW)) 0).map _=_
   rw [hfix]
   show some ((kerL m.length (gW.take tW)).take (kerL m.length (gW.take tW)).length)=_
   rw [List.take_length]
def dtS (f g:Nat→Int):Nat→Int
 | 0=>0
 | k+1=>dtS f g k+f k * g k
theorem dtS_add (f g h:Nat→Int):∀ n,dtS (fun j=>f j+g j) h n=dtS f h n+dtS g h n
 | 0=>rfl
 | n+1=>by show dtS _ h n+(f n+g n) * h n=dtS f h n+f n * h n+(dtS g h n+g n * h n); rw [dtS_add f g h n,Int.add_mul]; omega
theorem dtS_mulL (a:Int) (f h:Nat→Int):∀ n,dtS (fun j=>a * f j) h n=a * dtS f h n
 | 0=>by show (0:Int)=a * 0; omega
 | n+1=>by show dtS _ h n+a * f n * h n=a * (dtS f h n+f n * h n); rw [dtS_mulL a f h n,Int.mul_add,Int.mul_assoc]
theorem dtS_zeroL (h:Nat→Int):∀ n,dtS (fun _=>0) h n=0
 | 0=>rfl
 | n+1=>by show dtS _ h n+0 * h n=0; rw [dtS_zeroL h n]; omega
theorem dtS_congr {f g f' g':Nat→Int}:∀ {n:Nat},(∀ j,j < n→f j=f' j∧g j=g' j)→dtS f g n=dtS f' g' n
 | 0,_=>rfl
 | n+1,h=>by
   show dtS f g n+f n * g n=dtS f' g' n+f' n * g' n
   rw [dtS_congr (fun j hj=>h j (by omega)),(h n (by omega)).1,(h n (by omega)).2]
theorem dtS_delta (D:Int) (k:Nat) (g:Nat→Int):∀ n,dtS (fun j=>if k=j then D else 0) g n=if k < n then D * g k else 0
 | 0=>by rw [if_neg (Nat.not_lt_zero _)]; rfl
 | n+1=>by
   show dtS _ g n+(if k=n then D else 0) * g n=_
   rw [dtS_delta D k g n]
   by_cases h1:k < n
   ·rw [if_pos h1,if_neg (by omega),if_pos (by omega)]; omega
   ·by_cases h2:k=n
    ·subst h2; rw [if_neg h1,if_pos rfl,if_pos (by omega)]; omega
    ·rw [if_neg h1,if_neg h2,if_neg (by omega)]; omega
theorem dtS_pick {f g:Nat→Int} {j:Nat}:∀ {n:Nat},(∀ i,i < n→i≠j→f i * g i=0)→dtS f g n=if j < n then f j * g j else 0
 | 0,_=>by rw [if_neg (Nat.not_lt_zero _)]; rfl
 | n+1,h=>by
   show dtS f g n+f n * g n=_
   rw [dtS_pick (n:=n) (fun i a b=>h i (by omega) b)]
   by_cases e:n=j
   ·subst e; rw [if_neg (by omega),if_pos (by omega)]; omega
   ·rw [h n (by omega) e]
    by_cases e2:j < n
    ·rw [if_pos e2,if_pos (by omega)]; omega
    ·rw [if_neg e2,if_neg (by omega)]; rfl
theorem spn_sum {m:Nat} {E:Nat→Nat→Int} {x:Nat→Int} (h:Spn m E x):∃ c:Nat→Int,∀ k,x k=dtS c (fun i=>E i k) m:=by
 induction h with
 | zero e=>exact ⟨fun _=>0,fun k=>by rw [e,dtS_zeroL]⟩
 | @add x y i q hi _ e ih=>
   obtain ⟨c,hc⟩:=ih
   refine ⟨fun j=>c j+if i=j then q else 0,fun k=>?_⟩
   have:=dtS_delta q i (fun i=>E i k) m
   rw [if_pos hi] at this
   rw [e,hc,dtS_add,this]
theorem sum_spn {m:Nat} {E:Nat→Nat→Int} (c:Nat→Int):∀ j,j≤m→Spn m E fun k=>dtS c (fun i=>E i k) j
 | 0,_=>.zero fun _=>rfl
 | j+1,h=>.add j (c j) (by omega) (sum_spn c j (by omega)) fun _=>rfl
theorem Ech.left {p:Nat→Nat} {N t:Nat} {g:List (List Int)} (h:Ech p N t g) {c M:Nat} (hM:t≤M) (hMg:M≤g.length) (hcN:c≤N) {b:Nat→Int} (hb:∀ k,k < c→dtS b (fun i=>ent g i k) M=0):∀ n i,i≤n→i < t→p i < c→b i=0
 | n,i,hin,hi,hp=>by
   have hx:=hb (p i) hp
   rw [dtS_pick (j:=i) (fun j hj hij=>by
    by_cases e:j < i
    ·have hpj:=h.inc j i e hi
     match n,hin with
     | 0,hin=>omega
     | n+1,hin=>rw [h.left hM hMg hcN hb n j (by omega) (by omega) (by omega),Int.zero_mul]
    ·by_cases e2:j < t
     ·rw [h.low j e2 (p i) (h.inc i j (by omega) e2),Int.mul_zero]
     ·rw [h.zero j (by omega) (by omega) (p i) (h.lt i hi),Int.mul_zero]),if_pos (by omega)] at hx
   rcases Int.mul_eq_zero.1 hx with h9 | h9
   ·exact h9
   ·have:=h.pos i hi; omega
theorem Ech.zero_of {p:Nat→Nat} {N:Nat} {g:List (List Int)} (h:Ech p N g.length g) {x:Nat→Int} (hx:Spn g.length (ent g) x) (hs:∀ j,j < g.length→(x (p j)).natAbs < (ent g j (p j)).natAbs):∀ k,x k=0:=by
 obtain ⟨b,hb⟩:=spn_sum hx
 have key:∀ n j,j≤n→j < g.length→b j=0:=fun n=>by
  induction n with
  | zero=>
    intro j hj hl
    obtain rfl:j=0:=by omega
    have h1:=hb (p 0)
    rw [dtS_pick (j:=0) (fun i hi hij=>by rw [h.low i hi (p 0) (h.inc 0 i (by omega) hi),Int.mul_zero]),if_pos hl] at h1
    have h2:=hs 0 hl
    rw [h1,Int.natAbs_mul] at h2
    exact Classical.byContradiction fun h9=>by
     have:=Nat.mul_le_mul_right (ent g 0 (p 0)).natAbs (show 1≤(b 0).natAbs by omega)
     omega
  | succ n ih=>
    intro j hj hl
    by_cases e:j≤n
    ·exact ih j e hl
    ·have h1:=hb (p j)
     rw [dtS_pick (j:=j) (fun i hi hij=>by
      by_cases e:i < j
      ·rw [ih i (by omega) hi,Int.zero_mul]
      ·rw [h.low i hi (p j) (h.inc j i (by omega) hi),Int.mul_zero]),if_pos hl] at h1
     have h2:=hs j hl
     rw [h1,Int.natAbs_mul] at h2
     exact Classical.byContradiction fun h9=>by
      have:=Nat.mul_le_mul_right (ent g j (p j)).natAbs (show 1≤(b j).natAbs by omega)
      omega
 intro k
 rw [hb k]
 have:∀ q,q≤g.length→dtS b (fun i=>ent g i k) q=0:=fun q=>by
  induction q with
  | zero=>intro _; rfl
  | succ q ih=>intro hq; show dtS b (fun i=>ent g i k) q+b q * ent g q k=0; rw [ih (by omega),key q q (Nat.le_refl _) (by omega),Int.zero_mul]; rfl
 exact this _ (Nat.le_refl _)
theorem Ech.pivot_in {p q:Nat→Nat} {N:Nat} {g h:List (List Int)} (hg:Ech p N g.length g) (hh:Ech q N h.length h) (hs:∀ x,Spn g.length (ent g) x→Spn h.length (ent h) x) {i:Nat} (hi:i < g.length):∃ j,j < h.length∧q j=p i∧∃ b,ent g i (p i)=b * ent h j (p i):=by
 obtain ⟨b,hb⟩:=spn_sum (hs _ (Spn.row hi))
 have hz:∀ k,k < p i→dtS b (fun l=>ent h l k) h.length=0:=fun k hk=>by rw [← hb k]; exact hg.low i hi k hk
 have hl:=hh.left (c:=p i) (Nat.le_refl _) (Nat.le_refl _) (Nat.le_of_lt (hg.lt i hi)) hz
 have hp:=hb (p i)
 by_cases e:∃ j,j < h.length∧q j=p i
 ·obtain ⟨j,hj,hq⟩:=e
  refine ⟨j,hj,hq,b j, ?_⟩
  rw [hp,dtS_pick (j:=j) (fun l hl2 hlj=>by
   by_cases e:l < j
   ·rw [hl l l (Nat.le_refl _) hl2 (by rw [← hq]; exact hh.inc l j e hj),Int.zero_mul]
   ·rw [hh.low l hl2 (p i) (by rw [← hq]; exact hh.inc j l (by omega) hl2),Int.mul_zero]),if_pos hj]
 ·exfalso
  have h0:∀ n,n≤h.length→dtS b (fun l=>ent h l (p i)) n=0:=fun n=>by
   induction n with
   | zero=>intro _; rfl
   | succ n ih=>
     intro hn
     show dtS b (fun l=>ent h l (p i)) n+b n * ent h n (p i)=0
     rw [ih (by omega)]
     by_cases e3:q n < p i
     ·rw [hl n n (Nat.le_refl _) (by omega) e3,Int.zero_mul]; rfl
     ·have:q n≠p i:=fun h9=>e ⟨n,by omega,h9⟩
      rw [hh.low n (by omega) (p i) (by omega),Int.mul_zero]; rfl
  rw [h0 _ (Nat.le_refl _)] at hp
  have:=hg.pos i hi
  omega
theorem inc_sub {p q:Nat→Nat} {a b:Nat} (hp:∀ i j,i < j→j < a→p i < p j) (hq:∀ i j,i < j→j < b→q i < q j) (h1:∀ i,i < a→∃ j,j < b∧q j=p i) (h2:∀ j,j < b→∃ i,i < a∧p i=q j):∀ n,n≤a→n≤b∧∀ i,i < n→p i=q i
 | 0,_=>⟨Nat.zero_le _,fun i hi=>absurd hi (Nat.not_lt_zero _)⟩
 | n+1,hn=>by
   obtain ⟨h3,h4⟩:=inc_sub hp hq h1 h2 n (by omega)
   obtain ⟨j,hj,hjq⟩:=h1 n (by omega)
   have hnj:n≤j:=Classical.byContradiction fun h9=>by
    have e:=h4 j (by omega)
    have:=hp j n (by omega) (by omega)
    omega
   have hn2:n < b:=by omega
   obtain ⟨i,hi,hiq⟩:=h2 n hn2
   have hni:n≤i:=Classical.byContradiction fun h9=>by
    have e:=h4 i (by omega)
    have:=hq i n (by omega) hn2
    omega
   have e:p n=q n:=by
    by_cases a1:j=n
    ·rw [← a1]; rw [a1] at hjq ⊢; exact hjq.symm
    ·have b1:=hq n j (by omega) hj
     by_cases a2:i=n
     ·rw [a2] at hiq; exact hiq
     ·have b2:=hp n i (by omega) hi
      omega
   exact ⟨hn2,fun i hi=>by
    by_cases c:i=n
    ·rw [c]; exact e
    ·exact h4 i (by omega)⟩
theorem Ech.uniq {p q:Nat→Nat} {N:Nat} {g h:List (List Int)} (rg:Rect N g) (rh:Rect N h) (hg:Ech p N g.length g) (hh:Ech q N h.length h) (hs:∀ x,Spn g.length (ent g) x ↔ Spn h.length (ent h) x):g=h:=by
 have k1:=fun i (hi:i < g.length)=>hg.pivot_in hh (fun x=>(hs x).1) hi
 have k2:=fun j (hj:j < h.length)=>hh.pivot_in hg (fun x=>(hs x).2) hj
 have a1:=inc_sub hg.inc hh.inc (fun i hi=>(k1 i hi).imp fun j h=>⟨h.1,h.2.1⟩) (fun j hj=>(k2 j hj).imp fun i h=>⟨h.1,h.2.1⟩) g.length (Nat.le_refl _)
 have a2:=inc_sub hh.inc hg.inc (fun j hj=>(k2 j hj).imp fun i h=>⟨h.1,h.2.1⟩) (fun i hi=>(k1 i hi).imp fun j h=>⟨h.1,h.2.1⟩) h.length (Nat.le_refl _)
 have hl:g.length=h.length:=by omega
 have hp:=a1.2
 have hpiv:∀ i,i < g.length→ent g i (p i)=ent h i (p i):=fun i hi=>by
  obtain ⟨j,hj,hq,b,hb⟩:=k1 i hi
  obtain ⟨j2,hj2,hq2,b2,hb2⟩:=k2 i (by omega)
  have e1:j=i:=Classical.byContradiction fun h9=>by
   rw [hp i hi] at hq
   by_cases e:j < i
   ·have:=hh.inc j i e (by omega); omega
   ·have:=hh.inc i j (by omega) hj; omega
  have e2:j2=i:=Classical.byContradiction fun h9=>by
   rw [← hp i hi] at hq2
   by_cases e:j2 < i
   ·have:=hg.inc j2 i e hi; omega
   ·have:=hg.inc i j2 (by omega) hj2; omega
  rw [e1] at hb
  rw [e2,← hp i hi] at hb2
  have p1:=hg.pos i hi
  have p2:=hh.pos i (by omega)
  rw [← hp i hi] at p2
  have d1:ent h i (p i) ∣ ent g i (p i):=⟨b,by rw [hb,Int.mul_comm]⟩
  have d2:ent g i (p i) ∣ ent h i (p i):=⟨b2,by rw [hb2,Int.mul_comm]⟩
  have l1:=Int.le_of_dvd p1 d1
  have l2:=Int.le_of_dvd p2 d2
  omega
 have hrow:∀ i,i < g.length→∀ k,ent g i k=ent h i k:=fun i hi k=>by
  have hd:Spn g.length (ent g) fun k=>ent g i k - ent h i k:=by
   have h1:=(hs _).2 (Spn.row (E:=ent h) (i:=i) (by omega))
   have h2:=Spn.addmul (-1) (Spn.row (E:=ent g) hi) h1
   exact h2.congr fun k=>by omega
  have h0:=hg.zero_of hd (fun j hj=>by
   show (ent g i (p j) - ent h i (p j)).natAbs < _
   have pj:=hg.pos j hj
   by_cases e:j < i
   ·have h1:=hg.low i hi (p j) (hg.inc j i e hi)
    have h2:=hh.low i (by omega) (p j) (by rw [hp j hj]; exact hh.inc j i e (by omega))
    omega
   ·by_cases e2:j=i
    ·rw [e2] at pj ⊢; rw [hpiv i hi] at pj ⊢; omega
    ·have h1:=hg.up i j (by omega) hj
     have h2:=hh.up i j (by omega) (by omega)
     rw [← hp j hj,← hpiv j hj] at h2
     omega) k
  have h0:ent g i k - ent h i k=0:=h0
  omega
 refine List.ext_getElem hl fun i hi hi2=>?_
 have r1:=rg.row hi
 have r2:=rh.row hi2
 refine List.ext_getElem (by rw [r1,r2]) fun k hk hk2=>?_
 have:=hrow i hi k
 unfold ent rowAt at this
 rw [List.getElem?_eq_getElem hi,List.getElem?_eq_getElem hi2,Option.getD_some,Option.getD_some,List.getElem?_eq_getElem hk,List.getElem?_eq_getElem hk2] at this
 exact this
theorem wideL_rowAt {n c:Nat} (m:List (List Int)) (hc:c < n):rowAt (wideL n m) c=colOf m c ++ unitRow n c:=by unfold rowAt; rw [wideL_get m hc]; rfl
theorem wideL_left {n c k:Nat} {m:List (List Int)} (hc:c < n) (hk:k < m.length):ent (wideL n m) c k=ent m k c:=by
 unfold ent
 rw [wideL_rowAt m hc,List.getElem?_append_left (by rw [colOf_len]; exact hk)]
 unfold colOf rowAt
 rw [List.getElem?_map,List.getElem?_eq_getElem hk]; rfl
theorem wideL_right {n c j:Nat} {m:List (List Int)} (hc:c < n) (hj:j < n):ent (wideL n m) c (m.length+j)=if c=j then 1 else 0:=by
 unfold ent
 rw [wideL_rowAt m hc,List.getElem?_append_right (by rw [colOf_len]; omega),colOf_len,show m.length+j - m.length=j by omega]
 unfold unitRow
 rw [List.getElem?_set]
 by_cases e:c=j
 ·rw [if_pos e,if_pos e,if_pos (by rw [List.length_replicate]; omega)]; rfl
 ·rw [if_neg e,if_neg e,List.getElem?_replicate,if_pos hj]; rfl
theorem dtS_drop {b e:Nat→Int} {r:Nat} (h:∀ i,i < r→b i=0):∀ n,dtS b e (r+n)=dtS (fun i=>b (r+i)) (fun i=>e (r+i)) n
 | 0=>by
   show dtS b e r=0
   have:∀ q,q≤r→dtS b e q=0:=fun q=>by
    induction q with
    | zero=>intro _; rfl
    | succ q ih=>intro hq; show dtS b e q+b q * e q=0; rw [ih (by omega),h q (by omega),Int.zero_mul]; rfl
   exact this r (Nat.le_refl _)
 | n+1=>by
   show dtS b e (r+n)+b (r+n) * e (r+n)=_
   rw [dtS_drop h n]; rfl
theorem dtS_tail {b e:Nat→Int} {t:Nat}:∀ n,(∀ i,t≤i→i < t+n→b i * e i=0)→dtS b e (t+n)=dtS b e t
 | 0,_=>rfl
 | n+1,h=>by
   show dtS b e (t+n)+b (t+n) * e (t+n)=_
   rw [dtS_tail n (fun i a c=>h i a (by omega)),h (t+n) (by omega) (by omega)]; omega
theorem dtS_flip (f g:Nat→Int):∀ n,dtS f g n=dtS g f n
 | 0=>rfl
 | n+1=>by show dtS f g n+f n * g n=dtS g f n+g n * f n; rw [dtS_flip f g n,Int.mul_comm]
def Orth (n:Nat) (m:List (List Int)) (x:Nat→Int):Prop:=(∀ k,n≤k→x k=0)∧∀ i,i < m.length→dtS (ent m i) x n=0
theorem KrIs.spans {F n B:Nat} {m gW K:List (List Int)} {p:Nat→Nat} {t r:Nat} (h:KrIs F n m.length B m gW K p t r) (x:Nat→Int):Spn K.length (ent K) x ↔ Orth n m x:=by
 have hlen:=h.len
 have hcut:=h.cut
 have hkl:=h.klen
 have hle:=h.ech.le
 have hK0:∀ i k,n≤k→ent K i k=0:=fun i k hk=>ent_lt h.krect hk
 constructor
 ·intro hx
  -- each row of the kernel is orthogonal
  have hrow:∀ i,i < K.length→Orth n m (ent K i):=fun i hi=>by
   have hs:Spn n (ent gW) (ent gW (r+i)):=Spn.row (by omega)
   obtain ⟨a,ha⟩:=spn_sum ((uni_sp h.wide _).2 hs)
   have hr9:¬ p (r+i) < m.length:=fun h9=>by have:=(h.low (r+i) (by omega)).1 h9; omega
   have hac:∀ c,c < n→a c=ent K i c:=fun c hc=>by
    rw [h.kent i (by omega) c,ha (m.length+c),dtS_pick (j:=c) (fun l hl hlc=>by rw [wideL_right hl hc,if_neg hlc,Int.mul_zero]),if_pos hc,wideL_right hc hc,if_pos rfl,Int.mul_one]
   refine ⟨fun k hk=>hK0 i k hk,fun k hk=>?_⟩
   have h1:=ha k
   rw [h.ech.low (r+i) (by omega) k (by omega)] at h1
   rw [dtS_flip,h1]
   exact dtS_congr fun c hc=>⟨(hac c hc).symm,(wideL_left hc hk).symm⟩
  induction hx with
  | zero e=>exact ⟨fun k _=>e k,fun i _=>by rw [dtS_flip,dtS_congr (f':=fun _=>0) (g':=ent m i) (fun j _=>⟨e j,rfl⟩),dtS_zeroL]⟩
  | @add x y i q hi _ e ih=>
    have h2:=hrow i hi
    refine ⟨fun k hk=>by rw [e,ih.1 k hk,h2.1 k hk]; omega,fun j hj=>?_⟩
    rw [dtS_flip,dtS_congr (f':=fun k=>x k+q * ent K i k) (g':=ent m j) (fun k _=>⟨e k,rfl⟩),dtS_add,dtS_mulL,dtS_flip,ih.2 j hj,dtS_flip,h2.2 j hj]; omega
 ·rintro ⟨hx0,hx⟩
  have h1:=(uni_sp h.wide _).1 (sum_spn (E:=ent (wideL n m)) x n (Nat.le_refl _))
  obtain ⟨b,hb⟩:=spn_sum h1
  have hb0:∀ k,k < m.length→dtS b (fun i=>ent gW i k) n=0:=fun k hk=>by
   rw [← hb k,dtS_congr (f':=x) (g':=ent m k) (fun c hc=>⟨rfl,wideL_left hc hk⟩),dtS_flip]
   exact hx k hk
  have hleft:=h.ech.left (c:=m.length) (M:=n) (by omega) (by omega) (by omega) hb0
  have hbr:∀ i,i < r→b i=0:=fun i hi=>hleft i i (Nat.le_refl _) (by omega) ((h.low i (by omega)).2 hi)
  have hval:∀ c,c < n→x c=dtS (fun i=>b (r+i)) (fun i=>ent K i c) K.length:=fun c hc=>by
   have h2:=hb (m.length+c)
   rw [dtS_pick (j:=c) (fun l hl hlc=>by rw [wideL_right hl hc,if_neg hlc,Int.mul_zero]),if_pos hc,wideL_right hc hc,if_pos rfl,Int.mul_one] at h2
   rw [h2]
   have e1:n=t+(n - t):=by omega
   rw [e1,dtS_tail (n - t) (fun i a a2=>by rw [h.ech.zero i a (by omega) _ (by omega),Int.mul_zero])]
   have e2:t=r+(t - r):=by omega
   rw [e2,dtS_drop hbr,hkl]
   exact dtS_congr fun i hi=>⟨rfl,(h.kent i hi c).symm⟩
  have:=sum_spn (m:=K.length) (E:=ent K) (fun i=>b (r+i)) K.length (Nat.le_refl _)
  refine this.congr fun k=>?_
  by_cases hk:k < n
  ·exact hval k hk
  ·rw [hx0 k (by omega),dtS_flip,dtS_congr (f':=fun _=>0) (g':=fun i=>b (r+i)) (fun i _=>⟨hK0 i k (by omega),rfl⟩),dtS_zeroL]
theorem orth_three {F n B1 B2 B3:Nat} {m g1 g2 g3 K1 K2 K3:List (List Int)} {p1 p2 p3:Nat→Nat} {t1 t2 t3 r1 r2 r3:Nat} (hm:Rect n m) (h1:KrIs F n m.length B1 m g1 K1 p1 t1 r1) (h2:KrIs F n K1.length B2 K1 g2 K2 p2 t2 r2) (h3:KrIs F n K2.length B3 K2 g3 K3 p3 t3 r3):K3=K1:=by
 refine Ech.uniq h3.krect h1.krect h3.kech h1.kech fun x=>?_
 rw [h3.spans,h1.spans]
 constructor
 ·rintro ⟨a,b⟩
  refine ⟨a,fun i hi=>?_⟩
  -- a row of m is a sum of rows of K2
  have hmi:Spn K2.length (ent K2) (ent m i):=(h2.spans _).2 ⟨fun k hk=>ent_lt hm hk,fun j hj=>by
   rw [dtS_flip]; exact ((h1.spans _).1 (Spn.row hj)).2 i hi⟩
  obtain ⟨c,hc⟩:=spn_sum hmi
  rw [dtS_congr (f':=fun k=>dtS c (fun l=>ent K2 l k) K2.length) (g':=x) (fun k _=>⟨hc k,rfl⟩)]
  have:∀ q,q≤K2.length→dtS (fun k=>dtS c (fun l=>ent K2 l k) q) x n=0:=fun q=>by
   induction q with
   | zero=>intro _; exact dtS_zeroL _ _
   | succ q ih=>
     intro hq
     show dtS (fun k=>dtS c (fun l=>ent K2 l k) q+c q * ent K2 q k) x n=0
     rw [dtS_add,ih (by omega),dtS_mulL,b q (by omega)]; omega
  exact this _ (Nat.le_refl _)
 ·rintro ⟨a,b⟩
  have hx:Spn K1.length (ent K1) x:=(h1.spans _).2 ⟨a,b⟩
  refine ⟨a,fun i hi=>?_⟩
  have h9:=((h2.spans _).1 (Spn.row hi)).2
  obtain ⟨c,hc⟩:=spn_sum hx
  rw [dtS_flip,dtS_congr (f':=fun k=>dtS c (fun l=>ent K1 l k) K1.length) (g':=ent K2 i) (fun k _=>⟨hc k,rfl⟩)]
  have:∀ q,q≤K1.length→dtS (fun k=>dtS c (fun l=>ent K1 l k) q) (ent K2 i) n=0:=fun q=>by
   induction q with
   | zero=>intro _; exact dtS_zeroL _ _
   | succ q ih=>
     intro hq
     show dtS (fun k=>dtS c (fun l=>ent K1 l k) q+c q * ent K1 q k) (ent K2 i) n=0
     rw [dtS_add,ih (by omega),dtS_mulL,h9 q (by omega)]; omega
  exact this _ (Nat.le_refl _)
end Go.Proofs.YtiniigadkknboaaGreatDoor
