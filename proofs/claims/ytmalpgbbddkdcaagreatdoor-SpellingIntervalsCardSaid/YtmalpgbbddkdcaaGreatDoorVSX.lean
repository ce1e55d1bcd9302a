/- Contracts and laws: VSX. -/
import Derived.Test.YtmalpgbbddkdcaaGreatDoorVI
import Derived.Test.YtmalpgbbddkdcaaGreatDoorVOX

set_option maxRecDepth 100000
set_option maxHeartbeats 2000000
namespace Go.Proofs.YtmalpgbbddkdcaaGreatDoor
open Go.RowKit Go.Lib
attribute [local go_sem ↓] Go.wp_at_zero Go.wp_at_succ
theorem shortLG_x (B n:Nat) (v:Value) (g:List (List Int)) (w:World) (hG:G w) (hv:LG w B v g) (hl:g.length≤1000000) (hr:∀ r,r ∈ g→r.length≤1000000) (hb:∀ r,r ∈ g→∀ x,x ∈ r→(tx x).size≤1000000000) (hE:ErX w) :
 Calls Tryz.prog 88 #[v,.int .i64 n] w (OfRet w n g):=by
 rcases hv with ⟨rfl,rfl⟩ | ⟨ob,oc,hs,gF,tF,rfl,hg,h2,-,rfl,-⟩
 ·exact (short_nil n w).mono fun e w' ⟨he,hf⟩=>⟨fun _=>⟨none,0,he,Nat.le_refl _,fun W _=>.inl rfl,hf⟩,fun h=>by cases h⟩
 ·have:=short_x ob oc tF n (hs.take tF) (gF.take tF) w hG (hg.take tF) hl (by rw [List.length_take]; omega) hr hb hE
  rw [List.take_of_length_le (by rw [List.length_take]; omega)] at this
  exact this
theorem Annih_x (m K:List (List Int)) (a:Option Addr) (cap n F:Nat) (w:World) (hG:G w) (hm:MatIs w a m) (hC:LatFine w n a m.length cap) (hr:Rect n m) (hn:1≤n) (hn2:n≤12) (hl:m.length≤12) (hsm:∀ r,r ∈ m→∀ x,x ∈ r→Sm x)
 (hk:kernS F n m=some K) (hKl:K.length≤1000000) (hKr:∀ r,r ∈ K→r.length≤1000000) (hKf:∀ r,r ∈ K→∀ x,x ∈ r→(tx x).size≤1000000000) (hE:ErX w) :
 Calls Tryz.prog 42 #[.agg #[.int .i64 n,.slice a m.length cap]] w (OfRet w n K):=by
 obtain ⟨k,hkl⟩:∃ k,k=m.length:=⟨_,rfl⟩
 have hlo:=fun W (hW:Fr w W)=>longsOf_any m a cap W (hG.fr hW) (hm.fr hW) (fun r hrm=>by rw [hr r hrm]; omega) (by omega) hsm
 have hke:=fun W a' c' (hW:Fr w W) (hx:MatS W a' m)=>kernelS_any m K a' c' n F W (hG.fr hW) hx hr hn (by omega) (by omega) hk
 have hsh:=fun W B v (hW:Fr w W) (hx:LG W B v K)=>shortLG_x B n v K W (hG.fr hW) hx hKl hKr hKf (hE.fr hW)
 obtain ⟨wb,hwb⟩:∃ wb,wb=alls w [(.cells #[.int .i64 n,.slice a m.length cap] 61),(.cells #[.int .i64 0,.slice none 0 0] 61)]:=⟨_,rfl⟩
 have hfb:Fr w wb:=by rw [hwb]; exact alls_fr _ w
 have g0:wb.heap[w.heap.size]?=some (.cells #[.int .i64 n,.slice a m.length cap] 61 (0,0)):=by rw [hwb]; exact alls_get _ w 0 _ rfl
 have g1:wb.heap[w.heap.size+1]?=some (.cells #[.int .i64 0,.slice none 0 0] 61 (0,0)):=by rw [hwb]; exact alls_get _ w 1 _ rfl
 have b0:wb.cell? ⟨w.heap.size,0,none⟩=some (.int .i64 n):=cells_of g0 0
 have b1:wb.cell? ⟨w.heap.size,1,none⟩=some (.slice a m.length cap):=cells_of g0 1
 have q4:wb.cell? ⟨w.heap.size+1,0,none⟩=some (.int .i64 0):=cells_of g1 0
 have q5:wb.cell? ⟨w.heap.size+1,1,none⟩=some (.slice none 0 0):=cells_of g1 1
 have q6:wb.frozen? ⟨w.heap.size+1,0,none⟩=false:=by unfold World.frozen?; rw [g1]; rfl
 have q7:wb.frozen? ⟨w.heap.size+1,1,none⟩=false:=by unfold World.frozen?; rw [g1]; rfl
 clear g0 g1
 have hC1:=hC wb hfb
 rw [← hkl] at hlo hke hC1 b1 hwb ⊢
 replace hC1:=hZ hC1
 replace hlo:=hZ hlo
 replace hke:=hZ hke
 replace hsh:=hZ hsh
 replace hkl:=hZ hkl
 clear hC hm hr hk hsm hKl hKr hKf
 clear hE
 cases hbr:allFit K with
 | true=>
   replace hbr:=hZ hbr
   go_enter Tryz.func42,Tryz.ntmps42
   go_upto_region 1 with (fail)
   change Code.wp _ _ _ _ (alls w [(.cells #[.int .i64 n,.slice a k cap] 61),(.cells #[.int .i64 0,.slice none 0 0] 61)])
   rw [← hwb]
   clear hwb
   go_wp2_with fail
   refine hC1.out.mono ?_
   rintro e w2 ⟨rfl,hf2⟩
   replace q6:=hf2.keepf q4 q6
   replace q7:=hf2.keepf q5 q7
   replace q4:=hf2.keep q4
   replace q5:=hf2.keep q5
   replace b0:=hf2.keep b0
   replace b1:=hf2.keep b1
   replace q4:=hZ q4
   replace q5:=hZ q5
   replace q6:=hZ q6
   replace q7:=hZ q7
   have hfw:=hfb.trans hf2
   clear hfb hf2 hC1
   go_wp2_with fail
   go_region_held3 (fun w'=>w'.cell? ⟨w.heap.size,0,none⟩=some (.int .i64 n)∧w'.cell? ⟨w.heap.size,1,none⟩=some (.slice a k cap))
    (first | go_keep | (go_split_ands; refine ⟨?_, ?_⟩ <;> (refine Fr.keep (by assumption) ?_; assumption)) | (refine two_keep _ _ _ _ _ _ _ ⟨by assumption,by assumption⟩ (by omega)))
    (first
     | (go_at_call 86; (with_reducible refine (hlo.out _ ?_).mono ?_); (exact fr9); rintro e w3 ⟨v3,hs3,rfl,hgg3,-,hf3⟩; obtain ⟨a3,c3,hv3,hm3⟩:=hgg3.mats; rw [← hkl.out] at hv3; subst hv3; replace hm3:=hZ hm3; clear hgg3)
     | (go_at_call 87; (with_reducible refine (hke.out _ _ _ ?_ hm3.out).mono ?_); (exact fr9); rintro e w4 ⟨v4,rfl,hl4,hf4⟩; replace hl4:=hZ hl4)
     | (go_at_call 88; (with_reducible refine (hsh.out _ _ _ ?_ hl4.out).mono ?_); (exact fr9); rintro e w5 hrr; obtain ⟨a5,c5,rfl,hcp5,hm5,hf5⟩:=hrr.1 hbr.out; clear hrr; replace hm5:=hZ hm5; have hfz:Fr w2 w5:=(by exact fr9); have t4:=hfz.keep q4.out; have t5:=hfz.keep q5.out; have t6:=hfz.keepf q4.out q6.out; have t7:=hfz.keepf q5.out q7.out; have qs:=two_store w5 (w.heap.size+1) (.int .i64 n) (.slice a5 K.length c5) _ _ t4 t5; have q8:=qs.2.2.1; have u0:=hZ qs.1; have u1:=hZ qs.2.1; have hfx:=hZ qs.2.2.2; clear qs))
   have hsz4:=(show Fr w2 w4 by exact fr9).size
   have hszb:w.heap.size+1 < w2.heap.size:=World.block_lt_of_cell? w2 ⟨w.heap.size+1,0,none⟩ q4.out
   clear q8 t4 t5 t6 t7
   go_wp2_with fail
   have v0:=u0.out
   have v1:=u1.out
   refine bodyPost_ret (v:=.tuple #[.agg #[.int .i64 n,.slice a5 K.length c5],.int .i64 0]) (by simp [results,Tryz.results42,go_sem,v0,v1]) rfl ⟨fun _=>⟨a5,c5,rfl,hcp5, ?_, ?_⟩,fun h=>(by rw [hbr.out] at h; cases h)⟩
   ·intro W hW
    exact hm5.out W ((hfx.out.mono (fun k e=>by have e:k=w.heap.size+1:=e; show k < _; omega)).trans (hW.mono (fun k e=>by have e:k < w.heap.size:=e; show k < _; omega)))
   ·exact ((Fx.of_fr (p:=fun q=>q=w.heap.size+1) (hfw.trans hfz)).trans hfx.out).toFr (fun q hq e=>by have e:q=w.heap.size+1:=e; omega)
 | false=>
   replace hbr:=hZ hbr
   go_enter Tryz.func42,Tryz.ntmps42
   go_upto_region 1 with (fail)
   change Code.wp _ _ _ _ (alls w [(.cells #[.int .i64 n,.slice a k cap] 61),(.cells #[.int .i64 0,.slice none 0 0] 61)])
   rw [← hwb]
   clear hwb
   go_wp2_with fail
   refine hC1.out.mono ?_
   rintro e w2 ⟨rfl,hf2⟩
   replace q6:=hf2.keepf q4 q6
   replace q7:=hf2.keepf q5 q7
   replace q4:=hf2.keep q4
   replace q5:=hf2.keep q5
   replace b0:=hf2.keep b0
   replace b1:=hf2.keep b1
   replace q4:=hZ q4
   replace q5:=hZ q5
   replace q6:=hZ q6
   replace q7:=hZ q7
   have hfw:=hfb.trans hf2
   clear hfb hf2 hC1
   go_wp2_with fail
   go_region_held3 (fun w'=>w'.cell? ⟨w.heap.size,0,none⟩=some (.int .i64 n)∧w'.cell? ⟨w.heap.size,1,none⟩=some (.slice a k cap))
    (first | go_keep | (go_split_ands; refine ⟨?_, ?_⟩ <;> (refine Fr.keep (by assumption) ?_; assumption)) | (refine two_keep _ _ _ _ _ _ _ ⟨by assumption,by assumption⟩ (by omega)))
    (first
     | (go_at_call 86; (with_reducible refine (hlo.out _ ?_).mono ?_); (exact fr9); rintro e w3 ⟨v3,hs3,rfl,hgg3,-,hf3⟩; obtain ⟨a3,c3,hv3,hm3⟩:=hgg3.mats; rw [← hkl.out] at hv3; subst hv3; replace hm3:=hZ hm3; clear hgg3)
     | (go_at_call 87; (with_reducible refine (hke.out _ _ _ ?_ hm3.out).mono ?_); (exact fr9); rintro e w4 ⟨v4,rfl,hl4,hf4⟩; replace hl4:=hZ hl4)
     | (go_at_call 88; (with_reducible refine (hsh.out _ _ _ ?_ hl4.out).mono ?_); (exact fr9); rintro e w5 hrr; obtain ⟨rfl,hf5⟩:=hrr.2 hbr.out; clear hrr; have hfz:Fr w2 w5:=(by exact fr9); have t4:=hfz.keep q4.out; have t5:=hfz.keep q5.out; have t6:=hfz.keepf q4.out q6.out; have t7:=hfz.keepf q5.out q7.out; have qs:=two_store w5 (w.heap.size+1) (.int .i64 0) (.slice none 0 0) _ _ t4 t5; have q8:=qs.2.2.1; have u0:=hZ qs.1; have u1:=hZ qs.2.1; have hfx:=hZ qs.2.2.2; clear qs))
   have hsz4:=(show Fr w2 w4 by exact fr9).size
   have hszb:w.heap.size+1 < w2.heap.size:=World.block_lt_of_cell? w2 ⟨w.heap.size+1,0,none⟩ q4.out
   clear q8 t4 t5 t6 t7
   go_wp2_with fail
   have v0:=u0.out
   have v1:=u1.out
   refine bodyPost_ret (v:=.tuple #[.agg #[.int .i64 0,.slice none 0 0],.int .i64 4]) (by simp [results,Tryz.results42,go_sem,v0,v1]) rfl ⟨fun h=>(by rw [hbr.out] at h; cases h),fun _=>⟨rfl, ?_⟩⟩
   exact ((Fx.of_fr (p:=fun q=>q=w.heap.size+1) (hfw.trans hfz)).trans hfx.out).toFr (fun q hq e=>by have e:q=w.heap.size+1:=e; omega)
theorem Satur_x (m K1 K:List (List Int)) (a:Option Addr) (cap n F:Nat) (w:World) (hG:G w) (hm:MatIs w a m) (hC:LatFine w n a m.length cap) (hr:Rect n m) (hn:1≤n) (hn2:n≤12) (hl:m.length≤12) (hsm:∀ r,r ∈ m→∀ x,x ∈ r→Sm x)
 (hk:kernS F n m=some K1) (hk2:kernS F n K1=some K) (hr1:Rect n K1) (hl1:K1.length≤1000) (hKl:K.length≤1000000) (hKr:∀ r,r ∈ K→r.length≤1000000) (hKf:∀ r,r ∈ K→∀ x,x ∈ r→(tx x).size≤1000000000) (hE:ErX w) :
 Calls Tryz.prog 40 #[.agg #[.int .i64 n,.slice a m.length cap]] w (OfRet w n K):=by
 obtain ⟨k,hkl⟩:∃ k,k=m.length:=⟨_,rfl⟩
 have hlo:=fun W (hW:Fr w W)=>longsOf_any m a cap W (hG.fr hW) (hm.fr hW) (fun r hrm=>by rw [hr r hrm]; omega) (by omega) hsm
 have hke:=fun W a' c' (hW:Fr w W) (hx:MatS W a' m)=>kernelS_any m K1 a' c' n F W (hG.fr hW) hx hr hn (by omega) (by omega) hk
 have hkf:=fun W a' c' (hW:Fr w W) (hx:MatS W a' K1)=>kernelS_any K1 K a' c' n F W (hG.fr hW) hx hr1 hn (by omega) hl1 hk2
 have hsh:=fun W B v (hW:Fr w W) (hx:LG W B v K)=>shortLG_x B n v K W (hG.fr hW) hx hKl hKr hKf (hE.fr hW)
 obtain ⟨wb,hwb⟩:∃ wb,wb=alls w [(.cells #[.int .i64 n,.slice a m.length cap] 61),(.cells #[.int .i64 0,.slice none 0 0] 61)]:=⟨_,rfl⟩
 have hfb:Fr w wb:=by rw [hwb]; exact alls_fr _ w
 have g0:wb.heap[w.heap.size]?=some (.cells #[.int .i64 n,.slice a m.length cap] 61 (0,0)):=by rw [hwb]; exact alls_get _ w 0 _ rfl
 have g1:wb.heap[w.heap.size+1]?=some (.cells #[.int .i64 0,.slice none 0 0] 61 (0,0)):=by rw [hwb]; exact alls_get _ w 1 _ rfl
 have b0:wb.cell? ⟨w.heap.size,0,none⟩=some (.int .i64 n):=cells_of g0 0
 have b1:wb.cell? ⟨w.heap.size,1,none⟩=some (.slice a m.length cap):=cells_of g0 1
 have q4:wb.cell? ⟨w.heap.size+1,0,none⟩=some (.int .i64 0):=cells_of g1 0
 have q5:wb.cell? ⟨w.heap.size+1,1,none⟩=some (.slice none 0 0):=cells_of g1 1
 have q6:wb.frozen? ⟨w.heap.size+1,0,none⟩=false:=by unfold World.frozen?; rw [g1]; rfl
 have q7:wb.frozen? ⟨w.heap.size+1,1,none⟩=false:=by unfold World.frozen?; rw [g1]; rfl
 clear g0 g1
 have hC1:=hC wb hfb
 rw [← hkl] at hlo hke hC1 b1 hwb ⊢
 replace hC1:=hZ hC1
 replace hlo:=hZ hlo
 replace hke:=hZ hke
 replace hkf:=hZ hkf
 replace hsh:=hZ hsh
 replace hkl:=hZ hkl
 clear hC hm hr hk hk2 hr1 hl1 hsm hKl hKr hKf
 clear hE
 cases hbr:allFit K with
 | true=>
   replace hbr:=hZ hbr
   go_enter Tryz.func40,Tryz.ntmps40
   go_upto_region 1 with (fail)
   change Code.wp _ _ _ _ (alls w [(.cells #[.int .i64 n,.slice a k cap] 61),(.cells #[.int .i64 0,.slice none 0 0] 61)])
   rw [← hwb]
   clear hwb
   go_wp2_with fail
   refine hC1.out.mono ?_
   rintro e w2 ⟨rfl,hf2⟩
   replace q6:=hf2.keepf q4 q6
   replace q7:=hf2.keepf q5 q7
   replace q4:=hf2.keep q4
   replace q5:=hf2.keep q5
   replace b0:=hf2.keep b0
   replace b1:=hf2.keep b1
   replace q4:=hZ q4
   replace q5:=hZ q5
   replace q6:=hZ q6
   replace q7:=hZ q7
   have hfw:=hfb.trans hf2
   clear hfb hf2 hC1
   go_wp2_with fail
   go_region_held3 (fun w'=>w'.cell? ⟨w.heap.size,0,none⟩=some (.int .i64 n)∧w'.cell? ⟨w.heap.size,1,none⟩=some (.slice a k cap))
    (first | go_keep | (go_split_ands; refine ⟨?_, ?_⟩ <;> (refine Fr.keep (by assumption) ?_; assumption)) | (refine two_keep _ _ _ _ _ _ _ ⟨by assumption,by assumption⟩ (by omega)))
    (first
     | (go_at_call 86; (with_reducible refine (hlo.out _ ?_).mono ?_); (exact fr9); rintro e w3 ⟨v3,hs3,rfl,hgg3,-,hf3⟩; obtain ⟨a3,c3,hv3,hm3⟩:=hgg3.mats; rw [← hkl.out] at hv3; subst hv3; replace hm3:=hZ hm3; clear hgg3)
     | (go_at_call 87; (with_reducible refine (hkf.out _ _ _ ?_ hm6.out).mono ?_); (exact fr9); rintro e w4 ⟨v4,rfl,hl4,hf4⟩; replace hl4:=hZ hl4)
     | (go_at_call 87; (with_reducible refine (hke.out _ _ _ ?_ hm3.out).mono ?_); (exact fr9); rintro e w6 ⟨v6,rfl,hl6,hf6⟩; obtain ⟨a6,c6,hv6,hm6⟩:=hl6.mats; subst hv6; replace hm6:=hZ hm6; clear hl6)
     | (go_at_call 88; (with_reducible refine (hsh.out _ _ _ ?_ hl4.out).mono ?_); (exact fr9); rintro e w5 hrr; obtain ⟨a5,c5,rfl,hcp5,hm5,hf5⟩:=hrr.1 hbr.out; clear hrr; replace hm5:=hZ hm5; have hfz:Fr w2 w5:=(by exact fr9); have t4:=hfz.keep q4.out; have t5:=hfz.keep q5.out; have t6:=hfz.keepf q4.out q6.out; have t7:=hfz.keepf q5.out q7.out; have qs:=two_store w5 (w.heap.size+1) (.int .i64 n) (.slice a5 K.length c5) _ _ t4 t5; have q8:=qs.2.2.1; have u0:=hZ qs.1; have u1:=hZ qs.2.1; have hfx:=hZ qs.2.2.2; clear qs))
   have hsz4:=(show Fr w2 w4 by exact fr9).size
   have hszb:w.heap.size+1 < w2.heap.size:=World.block_lt_of_cell? w2 ⟨w.heap.size+1,0,none⟩ q4.out
   clear q8 t4 t5 t6 t7
   go_wp2_with fail
   have v0:=u0.out
   have v1:=u1.out
   refine bodyPost_ret (v:=.tuple #[.agg #[.int .i64 n,.slice a5 K.length c5],.int .i64 0]) (by simp [results,Tryz.results40,go_sem,v0,v1]) rfl ⟨fun _=>⟨a5,c5,rfl,hcp5, ?_, ?_⟩,fun h=>(by rw [hbr.out] at h; cases h)⟩
   ·intro W hW
    exact hm5.out W ((hfx.out.mono (fun k e=>by have e:k=w.heap.size+1:=e; show k < _; omega)).trans (hW.mono (fun k e=>by have e:k < w.heap.size:=e; show k < _; omega)))
   ·exact ((Fx.of_fr (p:=fun q=>q=w.heap.size+1) (hfw.trans hfz)).trans hfx.out).toFr (fun q hq e=>by have e:q=w.heap.size+1:=e; omega)
 | false=>
   replace hbr:=hZ hbr
   go_enter Tryz.func40,Tryz.ntmps40
   go_upto_region 1 with (fail)
   change Code.wp _ _ _ _ (alls w [(.cells #[.int .i64 n,.slice a k cap] 61),(.cells #[.int .i64 0,.slice none 0 0] 61)])
   rw [← hwb]
   clear hwb
   go_wp2_with fail
   refine hC1.out.mono ?_
   rintro e w2 ⟨rfl,hf2⟩
   replace q6:=hf2.keepf q4 q6
   replace q7:=hf2.keepf q5 q7
   replace q4:=hf2.keep q4
   replace q5:=hf2.keep q5
   replace b0:=hf2.keep b0
   replace b1:=hf2.keep b1
   replace q4:=hZ q4
   replace q5:=hZ q5
   replace q6:=hZ q6
   replace q7:=hZ q7
   have hfw:=hfb.trans hf2
   clear hfb hf2 hC1
   go_wp2_with fail
   go_region_held3 (fun w'=>w'.cell? ⟨w.heap.size,0,none⟩=some (.int .i64 n)∧w'.cell? ⟨w.heap.size,1,none⟩=some (.slice a k cap))
    (first | go_keep | (go_split_ands; refine ⟨?_, ?_⟩ <;> (refine Fr.keep (by assumption) ?_; assumption)) | (refine two_keep _ _ _ _ _ _ _ ⟨by assumption,by assumption⟩ (by omega)))
    (first
     | (go_at_call 86; (with_reducible refine (hlo.out _ ?_).mono ?_); (exact fr9); rintro e w3 ⟨v3,hs3,rfl,hgg3,-,hf3⟩; obtain ⟨a3,c3,hv3,hm3⟩:=hgg3.mats; rw [← hkl.out] at hv3; subst hv3; replace hm3:=hZ hm3; clear hgg3)
     | (go_at_call 87; (with_reducible refine (hkf.out _ _ _ ?_ hm6.out).mono ?_); (exact fr9); rintro e w4 ⟨v4,rfl,hl4,hf4⟩; replace hl4:=hZ hl4)
     | (go_at_call 87; (with_reducible refine (hke.out _ _ _ ?_ hm3.out).mono ?_); (exact fr9); rintro e w6 ⟨v6,rfl,hl6,hf6⟩; obtain ⟨a6,c6,hv6,hm6⟩:=hl6.mats; subst hv6; replace hm6:=hZ hm6; clear hl6)
     | (go_at_call 88; (with_reducible refine (hsh.out _ _ _ ?_ hl4.out).mono ?_); (exact fr9); rintro e w5 hrr; obtain ⟨rfl,hf5⟩:=hrr.2 hbr.out; clear hrr; have hfz:Fr w2 w5:=(by exact fr9); have t4:=hfz.keep q4.out; have t5:=hfz.keep q5.out; have t6:=hfz.keepf q4.out q6.out; have t7:=hfz.keepf q5.out q7.out; have qs:=two_store w5 (w.heap.size+1) (.int .i64 0) (.slice none 0 0) _ _ t4 t5; have q8:=qs.2.2.1; have u0:=hZ qs.1; have u1:=hZ qs.2.1; have hfx:=hZ qs.2.2.2; clear qs))
   have hsz4:=(show Fr w2 w4 by exact fr9).size
   have hszb:w.heap.size+1 < w2.heap.size:=World.block_lt_of_cell? w2 ⟨w.heap.size+1,0,none⟩ q4.out
   clear q8 t4 t5 t6 t7
   go_wp2_with fail
   have v0:=u0.out
   have v1:=u1.out
   refine bodyPost_ret (v:=.tuple #[.agg #[.int .i64 0,.slice none 0 0],.int .i64 4]) (by simp [results,Tryz.results40,go_sem,v0,v1]) rfl ⟨fun h=>(by rw [hbr.out] at h; cases h),fun _=>⟨rfl, ?_⟩⟩
   exact ((Fx.of_fr (p:=fun q=>q=w.heap.size+1) (hfw.trans hfz)).trans hfx.out).toFr (fun q hq e=>by have e:q=w.heap.size+1:=e; omega)
end Go.Proofs.YtmalpgbbddkdcaaGreatDoor
