/- Contracts and laws: VC. -/
import Derived.Test.YtmalpgbbddkdcaaGreatDoorVB
import Derived.Test.YtmalpgbbddkdcaaGreatDoorVA
import Derived.Maps.OwnSet
import Derived.Maps.Views
import Derived.StringKeys
import Derived.OwnWalk

set_option maxRecDepth 100000
set_option maxHeartbeats 4000000
namespace Go.Proofs.YtmalpgbbddkdcaaGreatDoor
open Go.RowKit Go.Lib


attribute [local go_sem ↓] Go.wp_at_zero Go.wp_at_succ
theorem CheckAll_ok (m:List (List Int)) (a:Option Addr) (cap n:Nat) (w:World) (hm:MatIs w a m) (hr:Rect n m) (hl:m.length≤1000000) (he:∀ r,r ∈ m→rowE r=0) (hn:n≤1000000) :
 Calls Tryz.prog 140 #[.slice a m.length cap,.int .i64 n] w fun e w'=>e=.returned (.int .i64 0)∧Fr w w':=by
 replace hm:=hZ hm
 replace hr:=hZ hr
 replace he:=hZ he
 go_enter Tryz.func140,Tryz.ntmps140
 go_wp2_with fail
 go_loopg [10] m.length (fun k s10 wr=>∃ j:Nat,s10=.int .i64 j∧j+k=m.length∧Fr w wr)
 case atStart=>exact ⟨0,rfl,by omega,Fr.refl _⟩
 case round=>
  obtain ⟨j,rfl,hjk,hf⟩:=hrel
  by_cases hlt:j < m.length
  ·obtain ⟨b,o,a',c',rfl,hc,hel⟩:=(hm.out.fr hf).at hlt
   have hck:=Check_row m[j] a' c' wr hel (by rw [hr.out.row hlt]; omega)
   rw [he.out _ (List.getElem_mem hlt)] at hck
   rw [hr.out.row hlt] at hc hck
   clear hel
   have z0:(0:Int)≤(j:Int):=Int.natCast_nonneg _
   have z1:(j:Int) < (m.length:Int):=by omega
   go_wp2_with fail
   refine hck.mono ?_
   clear hck
   rintro e w2 ⟨rfl,hf2⟩
   go_wp2_with fail
   go_roundg (gk - 1)
   case measure=>omega
   case rel=>exact ⟨j+1,by go_num,by omega,hf.trans hf2⟩
  ·have hd:decide (j < m.length)=false:=decide_eq_false hlt
   go_wp2_with fail
   go_ret
   exact ⟨rfl,hf⟩
theorem latCheck_ok (m:List (List Int)) (a:Option Addr) (cap n:Nat) (w:World) (hm:MatIs w a m) (hr:Rect n m) (hl:m.length≤12) (he:∀ r,r ∈ m→rowE r=0) (hn:n≤12) :
 Calls Tryz.prog 84 #[.int .i64 n,.slice a m.length cap] w fun e w'=>e=.returned (.int .i64 0)∧Fr w w':=by
 have hc:=CheckAll_ok m a cap n w hm hr (by omega) he (by omega)
 clear hm he
 have d1:decide ((n:Int) < 0)=false:=decide_eq_false (by omega)
 go_enter Tryz.func84,Tryz.ntmps84
 go_wp2_with fail
 refine hc.mono ?_
 clear hc
 rintro e w2 ⟨rfl,hf2⟩
 go_wp2_with fail
 go_ret
 exact ⟨rfl,hf2⟩
def RowRet (w:World) (xs:List Int) (e:Ending) (w':World):Prop:=∃ g c,e=.returned (.slice (some ⟨g,0,none⟩) xs.length c)∧Fr w w'∧w'.ownsRow w.heap.size 114 1 (.slice (some ⟨g,0,none⟩) xs.length c) xs.length (xs.map sv)
theorem longOf_any (xs:List Int) (a:Option Addr) (cap:Nat) (w:World) (hG:G w) (hx:El w iv a xs) (hl:xs.length≤1000000) (hb:∀ x,x ∈ xs→Sm x) :
 Calls Tryz.prog 113 #[.slice a xs.length cap] w (RowRet w xs):=by
 obtain ⟨i0,hi,hz0,hz1,hz2⟩:=info_parts info65
 obtain ⟨n,hn⟩:∃ n,n=xs.length:=⟨_,rfl⟩
 rw [← hn] at hl
 replace hn:=hZ hn
 replace hx:=hZ hx
 replace hb:=hZ hb
 replace hG:=hZ hG
 go_enter Tryz.func113,Tryz.ntmps113
 rw [← hn.out]
 go_wp2_with (at_make; refine wpList_make_own _ rfl _ _ 117 rfl w.heap.size 114 i0 _ 1 Tryz.underlying117 hi hz0 hz1 _ _ _ n (by rfl) (by rfl) (by omega) (by rw [hz2]; omega) (by unfold maxLen; omega) (Nat.le_refl _) ?_; intro w2 hown2 hgr2)
 have hf2:Fr w w2:=(Fr.refl w).grown hgr2 (fun k e=>by cases e)
 replace hown2:=hZ hown2
 clear hgr2
 go_loopg [3,11] n (fun k s3 s11 wr=>∃ t:Nat,s11=.int .i64 t∧t+k=n∧Fr w wr∧wr.ownsRow w.heap.size 114 1 s3 t ((xs.take t).map sv)∧s3≠.slice none 0 0)
 case atStart=>exact ⟨0,rfl,by omega,hf2,by simpa using hown2.out,by simp⟩
 case round=>
  obtain ⟨t,rfl,htk,hf,hown,hnn⟩:=hrel
  by_cases ht:t < n
  ·obtain ⟨b2,o2,x,rfl,hbl2,hxt,hcell2⟩:=(hx.out.fr hf).at (i:=t) (by rw [← hn.out]; exact ht)
   have hGr:=hG.out.fr hf
   have hsx:=hb.out x (List.mem_of_getElem? hxt)
   unfold Sm at hsx
   have hsn2:=hZ (take_snoc hxt)
   replace hxt:=hZ hxt
   go_wp2_with fail
   refine (Of_any _ (by omega) (by omega) _ hGr).mono ?_
   rintro e w3 ⟨rfl,hf3⟩
   go_wp2_with (at_builtin; refine wpList_append_lies _ rfl _ _ 117 (by rfl) _ 114 _ _ 1 16 Tryz.underlying117 hi hz0 hz1 hz2 rfl (by decide) _ t _ (by rfl) (World.ownsRow.alloc (ownsRow_fr hown hf3) _) ⟨w3.heap.size,0,none⟩ 1 1 [sv x] (by rfl) rfl (cell_one_newN _ _ _ _ (by simp)) (by simp [Value.oneCell']) (by decide) (by unfold maxLen; omega) (by omega) (by have:=(hf.trans hf3).size; simp; omega) (w3.heap.size+1) (by simp) ?_; intro gA capA wA hownA hgrowA hatA hltA)
   go_wp2_with fail
   go_roundg (gk - 1)
   case measure=>omega
   case rel=>exact ⟨t+1,by go_num,by omega,((hf.trans hf3).alloc _).grown hgrowA (fun k e=>(hown.lt k e).1),by rw [hsn2.out,List.map_append]; exact hownA,by simp⟩
  ·have hd:decide (t < n)=false:=decide_eq_false ht
   obtain rfl:t=n:=by omega
   obtain ⟨gb7,cp7,rfl⟩:=ownsRow_nn hown hnn
   rw [List.take_of_length_le (by rw [← hn.out]; omega)] at hown
   clear hnn
   go_wp2_with fail
   go_ret
   exact ⟨gb7,cp7,by rw [← hn.out]; rfl,hf,by rw [← hn.out]; exact hown⟩
theorem infoLong:(Tryz.prog.info? 117).map (fun i=>(i.zero,i.size,i.bytes))=some (some (.slice none 0 0),1,24):=by kernel_rfl
theorem longsOf_any (m:List (List Int)) (a:Option Addr) (cap:Nat) (w:World) (hG:G w) (hm:MatIs w a m) (hr:∀ r,r ∈ m→r.length≤1000000) (hl:m.length≤1000000) (hb:∀ r,r ∈ m→∀ x,x ∈ r→Sm x) :
 Calls Tryz.prog 86 #[.slice a m.length cap] w (GridRet w 117 m):=by
 have hgn:=gN_le hG
 obtain ⟨i1,ji,jz0,jz1,jz2⟩:=info_parts infoLong
 replace hm:=hZ hm
 replace hr:=hZ hr
 replace hb:=hZ hb
 replace hG:=hZ hG
 go_enter Tryz.func86,Tryz.ntmps86
 go_wp2_with fail
 go_loopg [3,8] m.length (fun k s3 s8 wr=>∃ (j:Nat) (hs:List (Nat×Nat×Nat)),s8=.int .i64 j∧j+k=m.length∧Fr w wr∧GG wr w.heap.size 117 s3 hs (m.take j)∧Hid (∀ h,h ∈ hs→w.heap.size≤h.1))
 case atStart=>exact ⟨0,[],rfl,by omega,Fr.refl _,GG.nil _ _ _ hgn,fun h hm=>by simp at hm⟩
 case round=>
  obtain ⟨j,hs,rfl,hjk,hf,hgg,hnew⟩:=hrel
  by_cases hlt:j < m.length
  ·obtain ⟨b,o,a',c',rfl,hc,hel⟩:=(hm.out.fr hf).at hlt
   have hsn:=take_snoc (List.getElem?_eq_getElem hlt)
   have hrj:=hr.out _ (List.getElem_mem hlt)
   have hlong:=longOf_any m[j] a' c' wr (hG.out.fr hf) hel hrj (hb.out _ (List.getElem_mem hlt))
   have hgl:(m.take j).length=j:=by rw [List.length_take]; omega
   generalize m[j]=row at *
   obtain ⟨n,hn⟩:∃ n,n=row.length:=⟨_,rfl⟩
   rw [← hn] at hc hlong
   replace hn:=hZ hn
   replace hsn:=hZ hsn
   replace hgl:=hZ hgl
   replace hgg:=hZ hgg
   clear hel
   go_wp2_with fail
   refine hlong.mono ?_
   clear hlong
   rintro e w2 ⟨g,c,rfl,hf2,hown2⟩
   obtain ⟨hO,-,-,hgb,hcp⟩:=ownsRow_own (Nat.le_trans hgn hf.size) hown2
   have hgg2:=hgg.out.fr hf2
   have hne:u3.ownBlock≠some g:=fun e=>by have h9:=(hgg.out.own.lt g e).2; omega
   have hne2:∀ h',h' ∈ hs→h'.1≠g:=fun h' hm e2=>by have h9:=hgg.out.lt h' hm; omega
   have hown3:=hgg2.own
   rw [hgl.out] at hown3
   rw [← hn.out]
   replace hgg2:=hZ hgg2
   replace hown2:=hZ hown2
   go_wp2_with (at_builtin; refine wpList_append_lies _ rfl _ _ 148 (by rfl) _ 117 _ _ 1 24 Tryz.underlying148 ji jz0 jz1 jz2 rfl (by decide) _ j _ (by rfl) (World.ownsRow.alloc hown3 _) ⟨w2.heap.size,0,none⟩ 1 1 [.slice (some ⟨g,0,none⟩) n c] (by rfl) rfl (cell_one_newN _ _ _ _ (by simp)) (by simp [Value.oneCell']) (by decide) (by unfold maxLen; omega) (by omega) (by have:=(hf.trans hf2).size; simp; omega) (w2.heap.size+1) (by simp) ?_; intro gA capA wA hownA hgrowA hatA hltA)
   have hpush:=(hgg2.out.fr ((Fr.refl _).alloc _)).pushN (hd:=(g,0,c)) (hO.fr ((Fr.refl _).alloc _)) hne2 hne hgl.out (by unfold hdr; rw [← hn.out]) hownA hgrowA (hatA.imp id (fun e=>by rw [e]; simp))
   rw [← hsn.out] at hpush
   have hfrA:Fr w wA:=(((hf.trans hf2).alloc _)).grown hgrowA (fun k e=>(hgg2.out.own.lt k e).1)
   go_roundg (gk - 1)
   case measure=>omega
   case rel=>exact ⟨j+1,_,by go_num,by omega,hfrA,hpush,fun h hm=>by rcases List.mem_append.1 hm with h1 | h1; exact hnew.out h h1; (simp at h1; subst h1; exact Nat.le_trans hf.size hgb)⟩
  ·have hd:decide (j < m.length)=false:=decide_eq_false hlt
   have hjm:m.take j=m:=List.take_of_length_le (by omega)
   rw [hjm] at hgg
   replace hjm:=hZ hjm
   go_wp2_with fail
   go_ret
   exact ⟨_,hs,rfl,hgg,hnew,hf⟩
def RowRetI (w:World) (xs:List Int) (e:Ending) (w':World):Prop:=∃ g c,e=.returned (.tuple #[.slice (some ⟨g,0,none⟩) xs.length c,.int .i64 0])∧Fr w w'∧w'.ownsRow w.heap.size 3 1 (.slice (some ⟨g,0,none⟩) xs.length c) xs.length (xs.map iv)
theorem shortRow_any (xs:List Int) (b o c:Nat) (w:World) (hG:G w) (hx:Own w b o xs) (hl:xs.length≤1000000) (hb:∀ x,x ∈ xs→fitB x=true) :
 Calls Tryz.prog 62 #[.slice (some ⟨b,o,none⟩) xs.length c] w (RowRetI w xs):=by
 obtain ⟨i0,hi,hz0,hz1,hz2⟩:=info_parts infoInt
 obtain ⟨n,hn⟩:∃ n,n=xs.length:=⟨_,rfl⟩
 rw [← hn] at hl
 replace hn:=hZ hn
 replace hx:=hZ hx
 replace hb:=hZ hb
 replace hG:=hZ hG
 go_enter Tryz.func62,Tryz.ntmps62
 rw [← hn.out]
 go_wp2_with (at_make; refine wpList_make_own _ rfl _ _ 24 rfl w.heap.size 3 i0 _ 1 Tryz.underlying24 hi hz0 hz1 _ _ _ n (by rfl) (by rfl) (by omega) (by rw [hz2]; omega) (by unfold maxLen; omega) (Nat.le_refl _) ?_; intro w2 hown2 hgr2)
 have hf2:Fr w w2:=(Fr.refl w).grown hgr2 (fun k e=>by cases e)
 replace hown2:=hZ hown2
 clear hgr2
 go_loopg [4,14] n (fun k s4 s14 wr=>∃ t:Nat,s14=.int .i64 t∧t+k=n∧Fr w wr∧wr.ownsRow w.heap.size 3 1 s4 t ((xs.take t).map iv)∧s4≠.slice none 0 0)
 case atStart=>exact ⟨0,rfl,by omega,hf2,by simpa using hown2.out,by simp⟩
 case round=>
  obtain ⟨t,rfl,htk,hf,hown,hnn⟩:=hrel
  by_cases ht:t < n
  ·obtain ⟨b2,o2,x,hae,hbl2,hxt,hcell2⟩:=(hx.out.el.fr hf).at (i:=t) (by rw [← hn.out]; exact ht)
   injection hae with hae; injection hae with hb2 ho2
   subst hb2; subst ho2
   have hfx:=hb.out x (List.mem_of_getElem? hxt)
   unfold fitB at hfx
   have hfx:=of_decide_eq_true hfx
   obtain ⟨x1,x2⟩:=hfx
   have hd1:decide ((1000000000:Int) < x)=false:=decide_eq_false (by omega)
   have hd2:decide (x < -1000000000)=false:=decide_eq_false (by omega)
   have hsn2:=hZ (take_snoc hxt)
   replace hxt:=hZ hxt
   go_wp2_with fail
   refine (Small_ok x (by omega) (by omega) _).mono ?_
   rintro e w3 ⟨rfl,hf3⟩
   go_wp2_with (at_builtin; refine wpList_append_lies _ rfl _ _ 24 (by rfl) _ 3 _ _ 1 8 Tryz.underlying24 hi hz0 hz1 hz2 rfl (by decide) _ t _ (by rfl) (World.ownsRow.alloc (ownsRow_fr hown hf3) _) ⟨w3.heap.size,0,none⟩ 1 1 [iv x] (by rfl) rfl (cell_one_newN _ _ _ _ (by simp)) (by simp [Value.oneCell']) (by decide) (by unfold maxLen; omega) (by omega) (by have:=(hf.trans hf3).size; simp; omega) (w3.heap.size+1) (by simp) ?_; intro gA capA wA hownA hgrowA hatA hltA)
   go_wp2_with fail
   go_roundg (gk - 1)
   case measure=>omega
   case rel=>exact ⟨t+1,by go_num,by omega,((hf.trans hf3).alloc _).grown hgrowA (fun k e=>(hown.lt k e).1),by rw [hsn2.out,List.map_append]; exact hownA,by simp⟩
  ·have hd:decide (t < n)=false:=decide_eq_false ht
   obtain rfl:t=n:=by omega
   obtain ⟨gb7,cp7,rfl⟩:=ownsRow_nn hown hnn
   rw [List.take_of_length_le (by rw [← hn.out]; omega)] at hown
   clear hnn
   go_wp2_with fail
   go_ret2
   exact ⟨gb7,cp7,by rw [← hn.out]; rfl,hf,by rw [← hn.out]; exact hown⟩
structure Two (w:World) (B n:Nat) (v:Value):Prop where
 a0:∃ x,w.cell? ⟨B,0,none⟩=some x
 a1:∃ x,w.cell? ⟨B,1,none⟩=some x
 fa0:w.frozen? ⟨B,0,none⟩=false
 fa1:w.frozen? ⟨B,1,none⟩=false
 b0:w.cell? ⟨B+1,0,none⟩=some (.int .i64 n)
 b1:w.cell? ⟨B+1,1,none⟩=some v
 fb0:w.frozen? ⟨B+1,0,none⟩=false
 fb1:w.frozen? ⟨B+1,1,none⟩=false
theorem Two.fx {w w':World} {B n:Nat} {v:Value} {p:Nat→Prop} (h:Two w B n v) (k:Fx p w w') (h0:¬ p B) (h1:¬ p (B+1)):Two w' B n v:=by
 obtain ⟨⟨x,hx⟩,⟨y,hy⟩,fa0,fa1,b0,b1,fb0,fb1⟩:=h
 exact ⟨⟨x,k.keep hx h0⟩,⟨y,k.keep hy h0⟩,k.keepf hx fa0 h0,k.keepf hy fa1 h0,k.keep b0 h1,k.keep b1 h1,k.keepf b0 fb0 h1,k.keepf b1 fb1 h1⟩
theorem Two.set {w:World} {B n:Nat} {v:Value} (h:Two w B n v) (u:Value):Two (w.setCell ⟨B+1,1,none⟩ u) B n u:=by
 obtain ⟨⟨x,hx⟩,⟨y,hy⟩,fa0,fa1,b0,b1,fb0,fb1⟩:=h
 have e1:(⟨B+1,1,none⟩:Addr)≠⟨B,0,none⟩:=fun e=>by injection e with e; omega
 have e2:(⟨B+1,1,none⟩:Addr)≠⟨B,1,none⟩:=fun e=>by injection e with e; omega
 have e3:(⟨B+1,1,none⟩:Addr)≠⟨B+1,0,none⟩:=fun e=>by injection e with _ e; omega
 refine ⟨⟨x, ?_⟩,⟨y, ?_⟩, ?_, ?_, ?_, ?_, ?_, ?_⟩
 ·rw [World.cell?_setCell_other _ _ _ _ e1]; exact hx
 ·rw [World.cell?_setCell_other _ _ _ _ e2]; exact hy
 ·rw [World.frozen?_setCell]; exact fa0
 ·rw [World.frozen?_setCell]; exact fa1
 ·rw [World.cell?_setCell_other _ _ _ _ e3]; exact b0
 ·exact World.cell?_setCell_same' _ _ _ (by rw [b1]; rfl)
 ·rw [World.frozen?_setCell]; exact fb0
 ·rw [World.frozen?_setCell]; exact fb1
def LatRet (w:World) (n:Nat) (g:List (List Int)) (e:Ending) (w':World):Prop:=∃ a c,e=.returned (.tuple #[.agg #[.int .i64 n,.slice a g.length c],.int .i64 0])∧(∀ W,Fx (· < w.heap.size) w' W→MatIs W a g)∧Fr w w'
theorem short_any (ob oc tF n:Nat) (hs:List (Nat×Nat×Nat)) (g:List (List Int)) (w:World) (hG:G w) (hg:GridIs w ob 0 hs g) (hl:g.length≤1000000) (ht:tF≤g.length) (hr:∀ r,r ∈ g→r.length≤1000000) (hb:∀ r,r ∈ g→∀ x,x ∈ r→fitB x=true) :
 Calls Tryz.prog 88 #[.slice (some ⟨ob,0,none⟩) tF oc,.int .i64 n] w (LatRet w n (g.take tF)):=by
 have hgn:=gN_le hG
 obtain ⟨i1,ji,jz0,jz1,jz2⟩:=info_parts infoRow
 replace hg:=hZ hg
 replace hr:=hZ hr
 replace hb:=hZ hb
 replace hG:=hZ hG
 go_enter Tryz.func88,Tryz.ntmps88
 go_wp2_with fail
 have htwo:Two ((w.alloc (.cells #[.int .i64 0,.slice none 0 0] 61)).alloc (.cells #[.int .i64 n,.slice none 0 0] 61)) w.heap.size n (.slice none 0 0):=by
  have hfr:Fr (w.alloc (.cells #[.int .i64 0,.slice none 0 0] 61)) ((w.alloc (.cells #[.int .i64 0,.slice none 0 0] 61)).alloc (.cells #[.int .i64 n,.slice none 0 0] 61)):=(Fr.refl _).alloc _
  have p1:=new2a w (.int .i64 0) (.slice none 0 0) 61
  have p2:=new2b w (.int .i64 0) (.slice none 0 0) 61
  have p3:=new2a (w.alloc (.cells #[.int .i64 0,.slice none 0 0] 61)) (.int .i64 n) (.slice none 0 0) 61
  have p4:=new2b (w.alloc (.cells #[.int .i64 0,.slice none 0 0] 61)) (.int .i64 n) (.slice none 0 0) 61
  rw [World.size_alloc] at p3 p4
  exact ⟨⟨_,hfr.keep p1.1⟩,⟨_,hfr.keep p2.1⟩,hfr.keepf p1.1 p1.2,hfr.keepf p2.1 p2.2,p3.1,p4.1,p3.2,p4.2⟩
 have hfr0:Fr w ((w.alloc (.cells #[.int .i64 0,.slice none 0 0] 61)).alloc (.cells #[.int .i64 n,.slice none 0 0] 61)):=((Fr.refl _).alloc _).alloc _
 go_loopg [15] tF (fun k s15 wr=>∃ (j:Nat) (hO:List (Nat×Nat×Nat)) (v:Value),s15=.int .i64 j∧j+k=tF∧Fr w wr∧Hid (w.heap.size+2≤wr.heap.size)∧Two wr w.heap.size n v∧GI wr (w.heap.size+2) 24 v hO (g.take j)∧Hid (∀ h,h ∈ hO→w.heap.size+2≤h.1))
 case atStart=>exact ⟨0,[],_,rfl,by omega,hfr0,by show _≤_; simp,htwo,GI.nil _ _ _ (by omega),fun h hm=>by simp at hm⟩
 case round=>
  clear htwo hfr0
  obtain ⟨j,hO,v,rfl,hjk,hf,hsz,htw,hgi,hnew⟩:=hrel
  obtain ⟨⟨x0,a0⟩,⟨x1,a1⟩,fa0,fa1,b0,b1,fb0,fb1⟩:=htw
  have htw:=hZ (show Two wr w.heap.size n v from ⟨⟨x0,a0⟩,⟨x1,a1⟩,fa0,fa1,b0,b1,fb0,fb1⟩)
  by_cases hlt:j < tF
  ·have hjl:j < g.length:=by omega
   obtain ⟨rb,ro,rc,e1,ca1,cf1,ro1,bo1⟩:=(hg.out.fr hf).at hjl
   rw [Nat.zero_add] at ca1
   have hsn:=take_snoc (List.getElem?_eq_getElem hjl)
   have hrj:=hr.out _ (List.getElem_mem hjl)
   have hsh:=shortRow_any g[j] rb ro rc wr (hG.out.fr hf) ro1 hrj (hb.out _ (List.getElem_mem hjl))
   have hgl:(g.take j).length=j:=by rw [List.length_take]; omega
   generalize g[j]=row at *
   obtain ⟨m,hm⟩:∃ m,m=row.length:=⟨_,rfl⟩
   rw [← hm] at ca1 hsh
   replace hm:=hZ hm
   replace hsn:=hZ hsn
   replace hgl:=hZ hgl
   replace hgi:=hZ hgi
   replace ro1:=hZ ro1
   replace e1:=hZ e1
   clear a0 a1 fa0 fa1 b0 b1 fb0 fb1
   go_wp2_with fail
   refine hsh.mono ?_
   clear hsh
   rintro e w2 ⟨gg,c,rfl,hf2,hown2⟩
   obtain ⟨hO2,-,-,hgb,hcp⟩:=ownsRow_ownI (Nat.le_trans hgn hf.size) hown2
   have hgi2:=hgi.out.fr hf2
   have hne:v.ownBlock≠some gg:=fun e=>by have h9:=(hgi.out.own.lt gg e).2; omega
   have hne2:∀ h',h' ∈ hO→h'.1≠gg:=fun h' hm e2=>by have h9:=hgi.out.lt h' hm; omega
   have hown3:=hgi2.own
   rw [hgl.out] at hown3
   rw [← hm.out]
   have hvb:∀ b,v.ownBlock=some b→w.heap.size+2≤b:=fun b e=>(hgi2.own.lt b e).1
   have htw2:=htw.out.fx (p:=fun _=>False) (Fx.of_fr hf2) (fun e=>e) (fun e=>e)
   obtain ⟨⟨y0,a0⟩,⟨y1,a1⟩,fa0,fa1,b0,b1,fb0,fb1⟩:=htw2
   have htw2:=hZ (show Two w2 w.heap.size n v from ⟨⟨y0,a0⟩,⟨y1,a1⟩,fa0,fa1,b0,b1,fb0,fb1⟩)
   clear a0 a1 fa0 fa1 b0
   replace hgi2:=hZ hgi2
   replace hown2:=hZ hown2
   replace hvb:=hZ hvb
   have hszz:=hsz.out
   have htwA:∀ wA:World,(w2.alloc (.cells #[.slice (some ⟨gg,0,none⟩) m c] 24)).grownBy wA v.ownBlock→Two wA w.heap.size n v:=fun wA hgw=>
    (htw2.out.fx (p:=fun _=>False) (Fx.of_fr ((Fr.refl w2).alloc _)) (fun e=>e) (fun e=>e)).fx (Fx.of_grown hgw) (fun e=>by have:=hvb.out _ e; omega) (fun e=>by have:=hvb.out _ e; omega)
   replace htwA:=hZ htwA
   go_wp2_with (at_builtin; refine wpList_append_lies _ rfl _ _ 28 (by rfl) _ 24 _ _ 1 24 Tryz.underlying28 ji jz0 jz1 jz2 rfl (by decide) _ j _ (by rfl) (World.ownsRow.alloc hown3 _) ⟨w2.heap.size,0,none⟩ 1 1 [.slice (some ⟨gg,0,none⟩) m c] (by rfl) rfl (cell_one_newN _ _ _ _ (by simp)) (by simp [Value.oneCell']) (by decide) (by unfold maxLen; omega) (by omega) (by have:=(hf.trans hf2).size; have:=hf2.size; simp; omega) (w2.heap.size+1) (by simp) ?_; intro gA capA wA hownA hgrowA hatA hltA; have htw3:=htwA.out wA hgrowA; have hbb:=htw3.b1; have hfb:=htw3.fb1; replace htw3:=hZ htw3)
   have hpush:=(hgi2.out.fr ((Fr.refl w2).alloc _)).pushN (hd:=(gg,0,c)) (hO2.fr ((Fr.refl w2).alloc _)) hne2 hne hgl.out (by unfold hdr; rw [← hm.out]) hownA hgrowA (hatA.imp id (fun e=>by rw [e]; simp))
   rw [← hsn.out] at hpush
   have hfrA:Fr w wA:=(((hf.trans hf2).alloc _)).grown hgrowA (fun k e=>by have:=hvb.out k e; omega)
   have hfx9:Fx (·=w.heap.size+1) wA (wA.setCell ⟨w.heap.size+1,1,none⟩ (.slice (some ⟨gA,0,none⟩) (j+1) capA)):=Fx.setCell (p:=(·=w.heap.size+1)) (q:=⟨w.heap.size+1,1,none⟩) (Fx.refl _ wA) (.inl rfl) _
   have hpush2:=hpush.fx hfx9 (fun b e e2=>by have e3:b=w.heap.size+1:=e2; have h9:=(hpush.own.lt b e).1; omega) (fun hd hm9 e2=>by rcases List.mem_append.1 hm9 with h1 | h1; (have e3:hd.1=w.heap.size+1:=e2; have:=hnew.out hd h1; omega); (simp at h1; subst h1; have e3:gg=w.heap.size+1:=e2; omega))
   have htw4:=htw3.out.set (.slice (some ⟨gA,0,none⟩) (j+1) capA)
   have hfr9:Fr w (wA.setCell ⟨w.heap.size+1,1,none⟩ (.slice (some ⟨gA,0,none⟩) (j+1) capA)):=hfrA.setCell (p:=⟨w.heap.size+1,1,none⟩) (by simp) _
   go_roundg (gk - 1)
   case measure=>omega
   case rel=>exact ⟨j+1,_,_,by go_num,by omega,hfr9,hZ (by have h7:=hf2.size; have h8:=hgrowA.size; have h9:=hszz; simp at h8; simp; omega),htw4,hpush2,fun h hm9=>by rcases List.mem_append.1 hm9 with h1 | h1; exact hnew.out h h1; (simp at h1; subst h1; exact Nat.le_trans hsz.out hgb)⟩
  ·have hd:decide (j < tF)=false:=decide_eq_false hlt
   obtain rfl:j=tF:=by omega
   obtain ⟨a9,c9,rfl,-⟩:=ownsRow_slice hgi.own
   have hgl:(g.take j).length=j:=by rw [List.length_take]; omega
   rw [hgl] at hgi b1 htw
   go_wp2_with fail
   have q0:(wr.setCell ⟨w.heap.size,0,none⟩ (.int .i64 n)).cell? ⟨w.heap.size,0,none⟩=some (.int .i64 n):=World.cell?_setCell_same' _ _ _ (by rw [a0]; rfl)
   have e1:(⟨w.heap.size,0,none⟩:Addr)≠⟨w.heap.size,1,none⟩:=fun e=>by injection e with _ e; omega
   have q1:((wr.setCell ⟨w.heap.size,0,none⟩ (.int .i64 n)).setCell ⟨w.heap.size,1,none⟩ (.slice a9 j c9)).cell? ⟨w.heap.size,1,none⟩=some (.slice a9 j c9):=World.cell?_setCell_same' _ _ _ (by rw [World.cell?_setCell_other _ _ _ _ e1,a1]; rfl)
   refine bodyPost_ret (v:=.tuple #[.agg #[.int .i64 n,.slice a9 j c9],.int .i64 0]) (by simp [results,Tryz.results88,go_sem,q0,q1]) rfl ⟨a9,c9,by rw [hgl], ?_,(hf.setCell (p:=⟨w.heap.size,0,none⟩) (by simp) _).setCell (p:=⟨w.heap.size,1,none⟩) (by simp) _⟩
   have hfx:Fx (·=w.heap.size) wr ((wr.setCell ⟨w.heap.size,0,none⟩ (.int .i64 n)).setCell ⟨w.heap.size,1,none⟩ (.slice a9 j c9)):=Fx.setCell (p:=(·=w.heap.size)) (q:=⟨w.heap.size,1,none⟩) (Fx.setCell (p:=(·=w.heap.size)) (q:=⟨w.heap.size,0,none⟩) (Fx.refl _ wr) (.inl rfl) _) (.inl rfl) _
   intro W hW
   exact ((hgi.fx hfx (fun b e e2=>by have e3:b=w.heap.size:=e2; have h9:=(hgi.own.lt b e).1; omega) (fun hd hm9 e2=>by have e3:hd.1=w.heap.size:=e2; have:=hnew.out hd hm9; omega)).fx hW (fun b e e2=>by have e3:b < w.heap.size:=e2; have h9:=(hgi.own.lt b e).1; omega) (fun hd hm9 e2=>by have e3:hd.1 < w.heap.size:=e2; have:=hnew.out hd hm9; omega)).mat
def plainSy (x:Sy):ByteArray×List Int:=(x.nm,x.row)
def NotRet (w:World) (Ns As:List (ByteArray×List Int)) (e:Ending) (w':World):Prop:=∃ aN aA cN cA N A,e=.returned (.agg #[.slice aN N.length cN,.slice aA A.length cA])∧NotIs w' aN aA cA N A∧N.map plainSy=Ns∧A.map plainSy=As∧Fr w w'
def alls (w:World):List Obj→World
 | []=>w
 | o :: l=>alls (w.alloc o) l
theorem alls_size:∀ (l:List Obj) (w:World),w.heap.size≤(alls w l).heap.size
 | [],w=>Nat.le_refl _
 | o :: l,w=>by have:=alls_size l (w.alloc o); rw [World.size_alloc] at this; rw [alls]; omega
theorem alls_old:∀ (l:List Obj) (w:World) (k:Nat),k < w.heap.size→(alls w l).heap[k]?=w.heap[k]?
 | [],w,k,_=>rfl
 | o :: l,w,k,h=>by rw [alls,alls_old l _ k (by simp; omega)]; exact Below.heap_alloc _ _ _ h
theorem alls_get:∀ (l:List Obj) (w:World) (i:Nat) (o:Obj),l[i]?=some o→(alls w l).heap[w.heap.size+i]?=some o
 | [],w,i,o,h=>by simp at h
 | x :: l,w,0,o,h=>by
   simp at h; subst h
   rw [alls,Nat.add_zero,alls_old l _ _ (by simp)]
   exact heap_alloc_new w _
 | x :: l,w,i+1,o,h=>by
   have:=alls_get l (w.alloc x) i o (by simpa using h)
   rw [World.size_alloc] at this
   rw [alls,show w.heap.size+(i+1)=w.heap.size+1+i by omega]
   exact this
theorem alls_fr:∀ (l:List Obj) (w:World),Fr w (alls w l)
 | [],w=>Fr.refl w
 | o :: l,w=>((Fr.refl w).alloc o).trans (alls_fr l (w.alloc o))
theorem cells_of {W:World} {b:Nat} {cs:Array Value} {t:TypeId} (h:W.heap[b]?=some (.cells cs t (0,0))) (i:Nat):W.cell? ⟨b,i,none⟩=cs[i]?:=by
 unfold World.cell?; rw [h]; rfl
theorem lt_of_heap {W:World} {b:Nat} {o:Obj} (h:W.heap[b]?=some o):b < W.heap.size:=(Array.getElem?_eq_some_iff.1 h).1
theorem El.one {W:World} {b:Nat} {x:Int} {t:TypeId} (h:W.heap[b]?=some (.cells #[.int .i64 x] t (0,0))):El W iv (some ⟨b,0,none⟩) [x] :=
 .inr ⟨b,0,rfl,lt_of_heap h,fun i y hy=>by
  match i,hy with
  | 0,hy=>simp at hy; subst hy; rw [cells_of h]; rfl
  | i+1,hy=>simp at hy⟩
theorem Syms.two {W:World} {b:Nat} {x y:Sy} {t:TypeId} (h:W.heap[b]?=some (.cells #[x.enc.1,x.enc.2,y.enc.1,y.enc.2] t (0,0))) (h1:El W iv x.ra x.row) (h2:El W iv y.ra y.row):Syms W (some ⟨b,0,none⟩) [x,y]:=by
 refine ⟨.inr ⟨b,0,rfl,lt_of_heap h,fun i z hz=>?_⟩,fun z hz=>?_⟩
 ·match i,hz with
  | 0,hz=>simp at hz; subst hz; rw [cells_of h,cells_of h]; exact ⟨rfl,rfl⟩
  | 1,hz=>simp at hz; subst hz; rw [cells_of h,cells_of h]; exact ⟨rfl,rfl⟩
  | i+2,hz=>simp at hz
 ·simp at hz
  rcases hz with rfl | rfl
  ·exact h1
  ·exact h2
theorem example_any (w:World):Calls Tryz.prog 63 #[] w (NotRet w [(⟨#[65]⟩,[0]),(⟨#[66]⟩,[2])] [(⟨#[35]⟩,[1]),(⟨#[98]⟩,[-1])]):=by
 go_enter Tryz.func63,Tryz.ntmps63
 go_wp2_with fail
 obtain ⟨W,hW⟩:∃ W,W=alls w [(.cells #[.slice (some ⟨w.heap.size+1+1+1,0,none⟩) 2 2,.slice (some ⟨w.heap.size+1+1+1+1+1+1,0,none⟩) 2 2] 72),(.cells #[.int .i64 0] 3),(.cells #[.int .i64 2] 3),(.cells #[.string ⟨#[65]⟩,.slice (some ⟨w.heap.size+1,0,none⟩) 1 1,.string ⟨#[66]⟩,.slice (some ⟨w.heap.size+1+1,0,none⟩) 1 1] 80),(.cells #[.int .i64 1] 3),(.cells #[.int .i64 (-1)] 3),(.cells #[.string ⟨#[35]⟩,.slice (some ⟨w.heap.size+1+1+1+1,0,none⟩) 1 1,.string ⟨#[98]⟩,.slice (some ⟨w.heap.size+1+1+1+1+1,0,none⟩) 1 1] 80)]:=⟨_,rfl⟩
 have hF:Fr w W:=by rw [hW]; exact alls_fr _ w
 have h0:W.heap[w.heap.size]?=some (.cells #[.slice (some ⟨w.heap.size+1+1+1,0,none⟩) 2 2,.slice (some ⟨w.heap.size+1+1+1+1+1+1,0,none⟩) 2 2] 72):=by rw [hW]; exact alls_get _ w 0 _ rfl
 have h1:W.heap[w.heap.size+1]?=some (.cells #[.int .i64 0] 3):=by rw [hW]; exact alls_get _ w 1 _ rfl
 have h2:W.heap[w.heap.size+1+1]?=some (.cells #[.int .i64 2] 3):=by rw [hW]; exact alls_get _ w 2 _ rfl
 have h3:W.heap[w.heap.size+1+1+1]?=some (.cells #[.string ⟨#[65]⟩,.slice (some ⟨w.heap.size+1,0,none⟩) 1 1,.string ⟨#[66]⟩,.slice (some ⟨w.heap.size+1+1,0,none⟩) 1 1] 80):=by rw [hW]; exact alls_get _ w 3 _ rfl
 have h4:W.heap[w.heap.size+1+1+1+1]?=some (.cells #[.int .i64 1] 3):=by rw [hW]; exact alls_get _ w 4 _ rfl
 have h5:W.heap[w.heap.size+1+1+1+1+1]?=some (.cells #[.int .i64 (-1)] 3):=by rw [hW]; exact alls_get _ w 5 _ rfl
 have h6:W.heap[w.heap.size+1+1+1+1+1+1]?=some (.cells #[.string ⟨#[35]⟩,.slice (some ⟨w.heap.size+1+1+1+1,0,none⟩) 1 1,.string ⟨#[98]⟩,.slice (some ⟨w.heap.size+1+1+1+1+1,0,none⟩) 1 1] 80):=by rw [hW]; exact alls_get _ w 6 _ rfl
 show bodyPost _ _ _ _ _ (alls w [(.cells #[.slice (some ⟨w.heap.size+1+1+1,0,none⟩) 2 2,.slice (some ⟨w.heap.size+1+1+1+1+1+1,0,none⟩) 2 2] 72),(.cells #[.int .i64 0] 3),(.cells #[.int .i64 2] 3),(.cells #[.string ⟨#[65]⟩,.slice (some ⟨w.heap.size+1,0,none⟩) 1 1,.string ⟨#[66]⟩,.slice (some ⟨w.heap.size+1+1,0,none⟩) 1 1] 80),(.cells #[.int .i64 1] 3),(.cells #[.int .i64 (-1)] 3),(.cells #[.string ⟨#[35]⟩,.slice (some ⟨w.heap.size+1+1+1+1,0,none⟩) 1 1,.string ⟨#[98]⟩,.slice (some ⟨w.heap.size+1+1+1+1+1,0,none⟩) 1 1] 80)])
 rw [← hW]
 clear hW
 have c0:=cells_of h0 0
 have c1:=cells_of h0 1
 refine bodyPost_ret (v:=.agg #[.slice (some ⟨w.heap.size+1+1+1,0,none⟩) 2 2,.slice (some ⟨w.heap.size+1+1+1+1+1+1,0,none⟩) 2 2]) (by simp [results,Tryz.results63,go_sem,c0,c1]) rfl ?_
 exact ⟨_,_,2,2,[⟨⟨#[65]⟩,[0],some ⟨w.heap.size+1,0,none⟩,1⟩,⟨⟨#[66]⟩,[2],some ⟨w.heap.size+1+1,0,none⟩,1⟩],[⟨⟨#[35]⟩,[1],some ⟨w.heap.size+1+1+1+1,0,none⟩,1⟩,⟨⟨#[98]⟩,[-1],some ⟨w.heap.size+1+1+1+1+1,0,none⟩,1⟩],rfl,
  ⟨Syms.two h3 (El.one h1) (El.one h2),Syms.two h6 (El.one h4) (El.one h5),fun e=>by cases e⟩,rfl,rfl,hF⟩
def digs (n:Nat):List Int:=if h:n=0 then [] else ((n % 1000000000:Nat):Int) :: digs (n / 1000000000)
termination_by n
decreasing_by omega
def Dg (l:List Int):Prop:=∀ d,d ∈ l→0≤d∧d < 1000000000
def val:List Int→Int
 | []=>0
 | d :: l=>d+1000000000 * val l
theorem digs_zero:digs 0=[]:=by rw [digs]; rfl
theorem digs_pos {n:Nat} (h:0 < n):digs n=((n % 1000000000:Nat):Int) :: digs (n / 1000000000):=by rw [digs,dif_neg (by omega)]
theorem digs_one {n:Nat} (h:0 < n) (h2:n < 1000000000):digs n=[(n:Int)]:=by
 rw [digs_pos h,Nat.mod_eq_of_lt h2,Nat.div_eq_of_lt h2,digs_zero]
theorem digs_nil {n:Nat}:digs n=[] ↔ n=0:=by
 constructor
 ·intro h
  by_cases h0:n=0
  ·exact h0
  ·rw [digs_pos (by omega)] at h; exact absurd h (by simp)
 ·rintro rfl; exact digs_zero
theorem digs_dg:∀ n,Dg (digs n):=fun n=>by
 induction n using Nat.strongRecOn with
 | _ n ih=>
   by_cases h:n=0
   ·subst h; rw [digs_zero]; intro d hd; simp at hd
   ·rw [digs_pos (by omega)]
    intro d hd
    rcases List.mem_cons.1 hd with rfl | hd
    ·omega
    ·exact ih _ (by omega) d hd
theorem val_digs:∀ n:Nat,val (digs n)=n:=fun n=>by
 induction n using Nat.strongRecOn with
 | _ n ih=>
   by_cases h:n=0
   ·subst h; rw [digs_zero]; rfl
   ·rw [digs_pos (by omega)]
    show ((n % 1000000000:Nat):Int)+1000000000 * val (digs (n / 1000000000))=n
    rw [ih _ (by omega)]
    omega
theorem digs_inj {n m:Nat} (h:digs n=digs m):n=m:=by
 have:=val_digs n; rw [h,val_digs] at this; omega
theorem digs_len:∀ (k n:Nat),n < 1000000000 ^ k→(digs n).length≤k
 | 0,n,h=>by have:n=0:=by simpa using h
             subst this; rw [digs_zero]; simp
 | k+1,n,h=>by
   by_cases h0:n=0
   ·subst h0; rw [digs_zero]; simp
   ·rw [digs_pos (by omega)]
    have:=digs_len k (n / 1000000000) (by rw [Nat.div_lt_iff_lt_mul (by decide)]; rw [Nat.pow_succ] at h; exact h)
    simp; omega
theorem Dg.cons {d:Int} {l:List Int} (h:Dg (d :: l)):(0≤d∧d < 1000000000)∧Dg l:=⟨h d (by simp),fun x hx=>h x (by simp [hx])⟩
theorem Dg.mk {d:Int} {l:List Int} (h:0≤d∧d < 1000000000) (k:Dg l):Dg (d :: l):=fun x hx=>by
 rcases List.mem_cons.1 hx with rfl | hx
 ·exact h
 ·exact k x hx
theorem val_nn:∀ {l:List Int},Dg l→0≤val l
 | [],_=>by show (0:Int)≤0; omega
 | d :: l,h=>by
   have h1:=h.cons
   have:=val_nn h1.2
   show 0≤d+1000000000 * val l
   omega
def trimL:List Int→List Int
 | []=>[]
 | d :: l=>if trimL l=[]∧d=0 then [] else d :: trimL l
theorem digs_cons (x:Nat):(if digs (x / 1000000000)=[]∧((x % 1000000000:Nat):Int)=0 then [] else ((x % 1000000000:Nat):Int) :: digs (x / 1000000000))=digs x:=by
 by_cases h:x=0
 ·subst h; rw [if_pos ⟨by show digs 0=[]; exact digs_zero,by simp⟩,digs_zero]
 ·rw [digs_pos (n:=x) (by omega),if_neg]
  rintro ⟨h1,h2⟩
  rw [digs_nil] at h1
  omega
theorem trimL_digs:∀ {l:List Int},Dg l→trimL l=digs (val l).toNat
 | [],_=>by show []=digs 0; rw [digs_zero]
 | d :: l,h=>by
   have h1:=h.cons
   have h2:=val_nn h1.2
   show (if trimL l=[]∧d=0 then [] else d :: trimL l)=digs (d+1000000000 * val l).toNat
   rw [trimL_digs h1.2,← digs_cons (d+1000000000 * val l).toNat,show (d+1000000000 * val l).toNat / 1000000000=(val l).toNat by omega,show (((d+1000000000 * val l).toNat % 1000000000:Nat):Int)=d by omega]
theorem trimL_fix (n:Nat):trimL (digs n)=digs n:=by rw [trimL_digs (digs_dg n),val_digs]; rfl
theorem trimL_zero:∀ l:List Int,trimL (l ++ [0])=trimL l
 | []=>rfl
 | d :: l=>by
   show (if trimL (l ++ [0])=[]∧d=0 then [] else d :: trimL (l ++ [0]))=_
   rw [trimL_zero l]; rfl
theorem trimL_snoc {d:Int} (hd:d≠0):∀ l:List Int,trimL (l ++ [d])=l ++ [d]
 | []=>by show (if trimL []=[]∧d=0 then [] else d :: trimL [])=_; rw [if_neg (fun h=>hd h.2)]; rfl
 | x :: l=>by
   show (if trimL (l ++ [d])=[]∧x=0 then [] else x :: trimL (l ++ [d]))=_
   rw [trimL_snoc hd l,if_neg (fun h=>by simp at h)]; rfl
def plusL:List Int→List Int→Int→List Int
 | a :: az,b :: bs,c=>((c+a+b) % 1000000000) :: plusL az bs ((c+a+b) / 1000000000)
 | a :: az,[],c=>((c+a) % 1000000000) :: plusL az [] ((c+a) / 1000000000)
 | [],b :: bs,c=>((c+b) % 1000000000) :: plusL [] bs ((c+b) / 1000000000)
 | [],[],c=>if 0 < c then [c] else []
theorem plusL_cc (a b c:Int) (az bs:List Int):plusL (a :: az) (b :: bs) c=((c+a+b) % 1000000000) :: plusL az bs ((c+a+b) / 1000000000):=by rw [plusL]
theorem plusL_cn (a c:Int) (az:List Int):plusL (a :: az) [] c=((c+a) % 1000000000) :: plusL az [] ((c+a) / 1000000000):=by rw [plusL]
theorem plusL_nc (b c:Int) (bs:List Int):plusL [] (b :: bs) c=((c+b) % 1000000000) :: plusL [] bs ((c+b) / 1000000000):=by rw [plusL]
theorem plusL_nn (c:Int):plusL [] [] c=if 0 < c then [c] else []:=by rw [plusL]
theorem plusL_digs:∀ (s n m:Nat) (c:Nat),n+m≤s→c≤1→plusL (digs n) (digs m) c=digs (n+m+c):=fun s=>by
 induction s using Nat.strongRecOn with
 | _ s ih=>
   intro n m c hs hc
   by_cases hn:n=0
   ·subst hn
    by_cases hm:m=0
    ·subst hm
     rw [digs_zero]
     rcases (show c=0∨c=1 by omega) with rfl | rfl
     ·rw [show (0+0+0:Nat)=0 from rfl,digs_zero,plusL_nn]; rfl
     ·rw [show (0+0+1:Nat)=1 from rfl,digs_one (by decide) (by decide),plusL_nn]; rfl
    ·rw [digs_zero,digs_pos (n:=m) (by omega),digs_pos (n:=0+m+c) (by omega)]
     rw [plusL_nc]
     have e:=ih (m / 1000000000) (by omega) 0 (m / 1000000000) ((c+m % 1000000000) / 1000000000) (by omega) (by omega)
     rw [digs_zero] at e
     rw [show ((c:Int)+((m % 1000000000:Nat):Int)) / 1000000000=(((c+m % 1000000000) / 1000000000:Nat):Int) by omega,e]
     congr 1
     ·omega
     ·congr 1; omega
   ·by_cases hm:m=0
    ·subst hm
     rw [digs_zero,digs_pos (n:=n) (by omega),digs_pos (n:=n+0+c) (by omega)]
     rw [plusL_cn]
     have e:=ih (n / 1000000000) (by omega) (n / 1000000000) 0 ((c+n % 1000000000) / 1000000000) (by omega) (by omega)
     rw [digs_zero] at e
     rw [show ((c:Int)+((n % 1000000000:Nat):Int)) / 1000000000=(((c+n % 1000000000) / 1000000000:Nat):Int) by omega,e]
     congr 1
     ·omega
     ·congr 1; omega
    ·rw [digs_pos (n:=n) (by omega),digs_pos (n:=m) (by omega),digs_pos (n:=n+m+c) (by omega)]
     rw [plusL_cc]
     have e:=ih (n / 1000000000+m / 1000000000) (by omega) (n / 1000000000) (m / 1000000000) ((c+n % 1000000000+m % 1000000000) / 1000000000) (by omega) (by omega)
     rw [show ((c:Int)+((n % 1000000000:Nat):Int)+((m % 1000000000:Nat):Int)) / 1000000000=(((c+n % 1000000000+m % 1000000000) / 1000000000:Nat):Int) by omega,e]
     congr 1
     ·omega
     ·congr 1; omega
def subD (d:Int):Int:=if d < 0 then d+1000000000 else d
def subB (d:Int):Int:=if d < 0 then 1 else 0
def minusL:List Int→List Int→Int→List Int
 | a :: az,b :: bs,w=>subD (a - w - b) :: minusL az bs (subB (a - w - b))
 | a :: az,[],w=>subD (a - w) :: minusL az [] (subB (a - w))
 | [],_,_=>[]
theorem minusL_cc (a b w:Int) (az bs:List Int):minusL (a :: az) (b :: bs) w=subD (a - w - b) :: minusL az bs (subB (a - w - b)):=by rw [minusL]
theorem minusL_cn (a w:Int) (az:List Int):minusL (a :: az) [] w=subD (a - w) :: minusL az [] (subB (a - w)):=by rw [minusL]
theorem minusL_n (b:List Int) (w:Int):minusL [] b w=[]:=by rw [minusL]
theorem minusL_digs:∀ (n m w:Nat),m+w≤n→w≤1→trimL (minusL (digs n) (digs m) w)=digs (n - m - w):=fun n=>by
 induction n using Nat.strongRecOn with
 | _ n ih=>
   intro m w hs hw
   by_cases hn:n=0
   ·subst hn
    obtain rfl:m=0:=by omega
    obtain rfl:w=0:=by omega
    rw [digs_zero,minusL_n]; rfl
   ·have key:∀ (d:Int) (r:List Int) (v:Nat),d=(n:Int) % 1000000000 - w - (m:Int) % 1000000000→subB d=v→trimL r=digs (n / 1000000000 - m / 1000000000 - v)→trimL (subD d :: r)=digs (n - m - w):=fun d r v hd hv hr=>by
     show (if trimL r=[]∧subD d=0 then [] else subD d :: trimL r)=_
     rw [hr,← digs_cons (n - m - w)]
     unfold subB at hv
     unfold subD
     by_cases h0:d < 0
     ·rw [if_pos h0] at hv ⊢
      rw [show (n - m - w) / 1000000000=n / 1000000000 - m / 1000000000 - v by omega,show (((n - m - w) % 1000000000:Nat):Int)=d+1000000000 by omega]
     ·rw [if_neg h0] at hv ⊢
      rw [show (n - m - w) / 1000000000=n / 1000000000 - m / 1000000000 - v by omega,show (((n - m - w) % 1000000000:Nat):Int)=d by omega]
    by_cases hm:m=0
    ·subst hm
     rw [digs_zero,digs_pos (n:=n) (by omega)]
     rw [minusL_cn]
     obtain ⟨v,hv⟩:∃ v:Nat,subB (((n % 1000000000:Nat):Int) - w)=v:=⟨(subB (((n % 1000000000:Nat):Int) - w)).toNat,by unfold subB; split <;> rfl⟩
     have hv2:=hv
     unfold subB at hv2
     rw [hv]
     refine key _ _ v (by omega) hv ?_
     have e:=ih (n / 1000000000) (by omega) 0 v (by split at hv2 <;> omega) (by split at hv2 <;> omega)
     rw [digs_zero] at e
     rw [e]
    ·rw [digs_pos (n:=n) (by omega),digs_pos (n:=m) (by omega)]
     rw [minusL_cc]
     obtain ⟨v,hv⟩:∃ v:Nat,subB (((n % 1000000000:Nat):Int) - w - ((m % 1000000000:Nat):Int))=v:=⟨(subB (((n % 1000000000:Nat):Int) - w - ((m % 1000000000:Nat):Int))).toNat,by unfold subB; split <;> rfl⟩
     have hv2:=hv
     unfold subB at hv2
     rw [hv]
     refine key _ _ v (by omega) hv ?_
     exact ih (n / 1000000000) (by omega) (m / 1000000000) v (by split at hv2 <;> omega) (by split at hv2 <;> omega)
theorem len_mono:∀ (n m:Nat),(digs n).length < (digs m).length→n < m:=fun n=>by
 induction n using Nat.strongRecOn with
 | _ n ih=>
   intro m h
   by_cases hm:m=0
   ·subst hm; rw [digs_zero] at h; simp at h
   ·by_cases hn:n=0
    ·omega
    ·rw [digs_pos (n:=n) (by omega),digs_pos (n:=m) (by omega)] at h
     have:=ih (n / 1000000000) (by omega) (m / 1000000000) (by simpa using h)
     omega
theorem val_drop:∀ (i:Nat) (a b:List Int),Dg a→Dg b→a.length=b.length→(∀ x y,a[i]?=some x→b[i]?=some y→x < y)→i < a.length→a.drop (i+1)=b.drop (i+1)→val a < val b
 | 0,x :: a,y :: b,ha,hb,_,h,_,hd=>by
   have h1:=h x y rfl rfl
   have h2:a=b:=by simpa using hd
   subst h2
   show x+_ < y+_
   omega
 | i+1,x :: a,y :: b,ha,hb,hl,h,hi,hd=>by
   have:=val_drop i a b ha.cons.2 hb.cons.2 (by simpa using hl) (fun u v hu hv=>h u v (by simpa using hu) (by simpa using hv)) (by simpa using hi) (by simpa using hd)
   have h1:=ha.cons.1
   have h2:=hb.cons.1
   show x+1000000000 * val a < y+1000000000 * val b
   omega
 | _,[],_,_,_,_,_,hi,_=>by simp at hi
 | _,_ :: _,[],_,_,hl,_,_,_=>by simp at hl
def sgnC (n m:Nat):Int:=if n < m then -1 else if m < n then 1 else 0
theorem two_store (wr:World) (r:Nat) (u v u0 v0:Value) (h0:wr.cell? ⟨r,0,none⟩=some u0) (h1:wr.cell? ⟨r,1,none⟩=some v0) :
 ((wr.setCell ⟨r,0,none⟩ u).setCell ⟨r,1,none⟩ v).cell? ⟨r,0,none⟩=some u∧((wr.setCell ⟨r,0,none⟩ u).setCell ⟨r,1,none⟩ v).cell? ⟨r,1,none⟩=some v ∧
   (wr.setCell ⟨r,0,none⟩ u).cell? ⟨r,1,none⟩=some v0∧Fx (·=r) wr ((wr.setCell ⟨r,0,none⟩ u).setCell ⟨r,1,none⟩ v):=by
 have e1:(⟨r,0,none⟩:Addr)≠⟨r,1,none⟩:=fun e=>by injection e with _ e; omega
 refine ⟨?_, ?_, ?_,Fx.setCell (p:=(·=r)) (q:=⟨r,1,none⟩) (Fx.setCell (p:=(·=r)) (q:=⟨r,0,none⟩) (Fx.refl _ _) (.inl rfl) u) (.inl rfl) v⟩
 ·rw [World.cell?_setCell_other _ _ _ _ (fun e=>e1 e.symm)]; exact World.cell?_setCell_same' _ _ _ (by rw [h0]; rfl)
 ·exact World.cell?_setCell_same' _ _ _ (by rw [World.cell?_setCell_other _ _ _ _ e1,h1]; rfl)
 ·rw [World.cell?_setCell_other _ _ _ _ e1]; exact h1
theorem El.take {w:World} {a:Option Addr} {xs:List Int} (h:El w iv a xs) (k:Nat):El w iv a (xs.take k):=by
 rcases h with h | ⟨b,o,ha,hb,hc⟩
 ·exact .inl (by rw [h]; simp)
 ·refine .inr ⟨b,o,ha,hb,fun i x hx=>hc i x ?_⟩
  rw [List.getElem?_take] at hx
  split at hx
  ·exact hx
  ·cases hx
theorem trimL_take {l:List Int} {k:Nat} {d:Int} (h:l[k]?=some d) (hd:d=0):trimL (l.take (k+1))=trimL (l.take k):=by
 rw [take_snoc h,hd]; exact trimL_zero _
theorem trimL_stop {l:List Int} {k:Nat} {d:Int} (h:l[k]?=some d) (hd:d≠0):trimL (l.take (k+1))=l.take (k+1):=by
 rw [take_snoc h]; exact trimL_snoc hd _
structure TrimI (neg:Bool) (a:Option Addr) (cap:Nat) (l:List Int) (wb:World) (p k:Nat) (wr:World):Prop where
 le:k≤l.length
 eq:trimL (l.take k)=trimL l
 c0:wr.cell? ⟨p,0,none⟩=some (.bool neg)
 c1:wr.cell? ⟨p,1,none⟩=some (.slice a k cap)
 f0:wr.frozen? ⟨p,0,none⟩=false
 f1:wr.frozen? ⟨p,1,none⟩=false
 fx:Fx (·=p) wb wr
theorem TrimI.step {neg:Bool} {a:Option Addr} {cap:Nat} {l:List Int} {wb:World} {p k:Nat} {wr:World} (h:TrimI neg a cap l wb p (k+1) wr) (hk:l[k]?=some 0):TrimI neg a cap l wb p k (wr.setCell ⟨p,1,none⟩ (.slice a k cap)):=by
 have e1:(⟨p,0,none⟩:Addr)≠⟨p,1,none⟩:=fun e=>by injection e with _ e; omega
 refine ⟨by have:=h.le; omega,by rw [← h.eq]; exact (trimL_take hk rfl).symm, ?_,World.cell?_setCell_same' _ _ _ (by rw [h.c1]; rfl),by rw [World.frozen?_setCell]; exact h.f0,by rw [World.frozen?_setCell]; exact h.f1,Fx.setCell (p:=(·=p)) (q:=⟨p,1,none⟩) h.fx (.inl rfl) _⟩
 rw [World.cell?_setCell_other _ _ _ _ (fun e=>e1 e.symm)]; exact h.c0
theorem trim_any (neg:Bool) (a:Option Addr) (cap:Nat) (l:List Int) (w:World) (hel:El w iv a l) (hl:l.length≤1000000) (hc:l.length≤cap) :
 Calls Tryz.prog 187 #[.agg #[.bool neg,.slice a l.length cap]] w fun e w'=>e=.returned (.agg #[.bool (neg && decide (0 < (trimL l).length)),.slice a (trimL l).length cap])∧Fr w w':=by
 obtain ⟨n,hn⟩:∃ n,n=l.length:=⟨_,rfl⟩
 rw [← hn] at hl hc
 rw [← hn]
 replace hn:=hZ hn
 go_enter Tryz.func187,Tryz.ntmps187
 go_wp2_with fail
 obtain ⟨wb,hwb⟩:∃ wb,wb=alls w [(.cells #[.bool neg,.slice a n cap] 194),(.cells #[.bool false,.slice none 0 0] 194)]:=⟨_,rfl⟩
 have g0:wb.heap[w.heap.size]?=some (.cells #[.bool neg,.slice a n cap] 194 (0,0)):=by rw [hwb]; exact alls_get _ w 0 _ rfl
 have g1:wb.heap[w.heap.size+1]?=some (.cells #[.bool false,.slice none 0 0] 194 (0,0)):=by rw [hwb]; exact alls_get _ w 1 _ rfl
 have hfb:Fr w wb:=by rw [hwb]; exact alls_fr _ w
 change Code.wp _ _ _ _ (alls w [(.cells #[.bool neg,.slice a n cap] 194),(.cells #[.bool false,.slice none 0 0] 194)])
 rw [← hwb]
 have hI0:TrimI neg a cap l wb w.heap.size n wb:=by
  refine ⟨by rw [hn.out]; exact Nat.le_refl _,by rw [hn.out,List.take_length],by rw [cells_of g0]; rfl,by rw [cells_of g0]; rfl, ?_, ?_,Fx.refl _ _⟩
  ·unfold World.frozen?; rw [g0]; rfl
  ·unfold World.frozen?; rw [g0]; rfl
 replace hI0:=hZ hI0
 replace g1:=hZ g1
 replace hfb:=hZ hfb
 clear g0 hwb
 go_loopg [3] n (fun k _ wr=>Hid (TrimI neg a cap l wb w.heap.size k wr))
 case atStart=>exact hI0
 case round=>
  clear hI0
  have hf:Fr w wr:=((Fx.of_fr hfb.out).trans hrel.out.fx).toFr (fun k hk e=>by have e:k=w.heap.size:=e; omega)
  have hfe:=hel.fr hf
  have h1:=hrel.out.c0
  have h2:=hrel.out.c1
  have h3:=hrel.out.f0
  have h4:=hrel.out.f1
  have h9:=(hrel.out.fx.block _ (lt_of_heap g1.out) (by show ¬ w.heap.size+1=w.heap.size; omega)).trans g1.out
  have r0:wr.cell? ⟨w.heap.size+1,0,none⟩=some (.bool false):=cells_of h9 0
  have r1:wr.cell? ⟨w.heap.size+1,1,none⟩=some (.slice none 0 0):=cells_of h9 1
  have r2:wr.frozen? ⟨w.heap.size+1,0,none⟩=false:=by unfold World.frozen?; rw [h9]; rfl
  have r3:wr.frozen? ⟨w.heap.size+1,1,none⟩=false:=by unfold World.frozen?; rw [h9]; rfl
  clear h9
  have hle:=hrel.out.le
  rw [← hn.out] at hle
  by_cases hk0:gk=0
  ·subst hk0
   have hlen:(trimL l).length=0:=by rw [← hrel.out.eq]; simp [trimL]
   cases neg with
   | false=>
     have hs0:Fx (·=w.heap.size) wr (wr.setCell ⟨w.heap.size,0,none⟩ (.bool false)):=Fx.setCell (p:=(·=w.heap.size)) (q:=⟨w.heap.size,0,none⟩) (Fx.refl _ _) (.inl rfl) _
     have ne1:¬ w.heap.size+1=w.heap.size:=by omega
     have t0:=hs0.keep r0 ne1
     have t1:=hs0.keep r1 ne1
     have ts:=two_store (wr.setCell ⟨w.heap.size,0,none⟩ (.bool false)) (w.heap.size+1) (.bool false) (.slice (a) (0) cap) _ _ t0 t1
     have hfin:=hZ (show Fr w (((wr.setCell ⟨w.heap.size,0,none⟩ (.bool false)).setCell ⟨w.heap.size+1,0,none⟩ (.bool false)).setCell ⟨w.heap.size+1,1,none⟩ (.slice (a) (0) cap)) from ((Fx.of_fr (p:=fun q=>w.heap.size≤q) hf).trans ((hs0.mono (fun q e=>by have e:q=w.heap.size:=e; omega)).trans (ts.2.2.2.mono (fun q e=>by have e:q=w.heap.size+1:=e; omega)))).toFr (fun q hq e=>by have e:w.heap.size≤q:=e; omega))
     have q0:=hZ ts.1
     have q1:=hZ ts.2.1
     clear ts hs0 ne1 t0 t1
     go_wp2_with fail
     have u0:=q0.out
     have u1:=q1.out
     refine bodyPost_ret (v:=.agg #[.bool false,.slice (a) (0) cap]) (by simp [results,Tryz.results187,go_sem,u0,u1]) rfl ⟨?_,hfin.out⟩
     rw [hlen]; simp
   | true=>
     have hs0:Fx (·=w.heap.size) wr (wr.setCell ⟨w.heap.size,0,none⟩ (.bool false)):=Fx.setCell (p:=(·=w.heap.size)) (q:=⟨w.heap.size,0,none⟩) (Fx.refl _ _) (.inl rfl) _
     have ne1:¬ w.heap.size+1=w.heap.size:=by omega
     have t0:=hs0.keep r0 ne1
     have t1:=hs0.keep r1 ne1
     have ts:=two_store (wr.setCell ⟨w.heap.size,0,none⟩ (.bool false)) (w.heap.size+1) (.bool false) (.slice (a) (0) cap) _ _ t0 t1
     have hfin:=hZ (show Fr w (((wr.setCell ⟨w.heap.size,0,none⟩ (.bool false)).setCell ⟨w.heap.size+1,0,none⟩ (.bool false)).setCell ⟨w.heap.size+1,1,none⟩ (.slice (a) (0) cap)) from ((Fx.of_fr (p:=fun q=>w.heap.size≤q) hf).trans ((hs0.mono (fun q e=>by have e:q=w.heap.size:=e; omega)).trans (ts.2.2.2.mono (fun q e=>by have e:q=w.heap.size+1:=e; omega)))).toFr (fun q hq e=>by have e:w.heap.size≤q:=e; omega))
     have q0:=hZ ts.1
     have q1:=hZ ts.2.1
     clear ts hs0 ne1 t0 t1
     go_wp2_with fail
     have u0:=q0.out
     have u1:=q1.out
     refine bodyPost_ret (v:=.agg #[.bool false,.slice (a) (0) cap]) (by simp [results,Tryz.results187,go_sem,u0,u1]) rfl ⟨?_,hfin.out⟩
     rw [hlen]; simp
  ·obtain ⟨k,rfl⟩:∃ k,gk=k+1:=⟨gk - 1,by omega⟩
   obtain ⟨b,o,d,rfl,hb,hk,hcell⟩:=hfe.at (i:=k) (by have:=hn.out; omega)
   have z0:(0:Int)≤(k:Int):=by omega
   have z1:(k:Int)≤(cap:Int):=by omega
   have z2:decide ((0:Int) < (k:Int)+1)=true:=decide_eq_true (by omega)
   by_cases hd:d=0
   ·have hrel2:=hrel.out
    subst hd
    go_wp2_with fail
    go_roundg k
    case measure=>omega
    case rel=>exact hrel2.step hk
   ·have hlen:(trimL l).length=k+1:=by rw [← hrel.out.eq,trimL_stop hk hd,List.length_take]; have:=hn.out; omega
    have hdd:((d:Int) == 0)=false:=by rw [beq_eq_false_iff_ne]; exact hd
    cases neg with
    | false=>
      have hs0:Fx (·=w.heap.size) wr (wr.setCell ⟨w.heap.size,0,none⟩ (.bool false)):=Fx.setCell (p:=(·=w.heap.size)) (q:=⟨w.heap.size,0,none⟩) (Fx.refl _ _) (.inl rfl) _
      have ne1:¬ w.heap.size+1=w.heap.size:=by omega
      have t0:=hs0.keep r0 ne1
      have t1:=hs0.keep r1 ne1
      have ts:=two_store (wr.setCell ⟨w.heap.size,0,none⟩ (.bool false)) (w.heap.size+1) (.bool false) (.slice (some ⟨b,o,none⟩) (k+1) cap) _ _ t0 t1
      have hfin:=hZ (show Fr w (((wr.setCell ⟨w.heap.size,0,none⟩ (.bool false)).setCell ⟨w.heap.size+1,0,none⟩ (.bool false)).setCell ⟨w.heap.size+1,1,none⟩ (.slice (some ⟨b,o,none⟩) (k+1) cap)) from ((Fx.of_fr (p:=fun q=>w.heap.size≤q) hf).trans ((hs0.mono (fun q e=>by have e:q=w.heap.size:=e; omega)).trans (ts.2.2.2.mono (fun q e=>by have e:q=w.heap.size+1:=e; omega)))).toFr (fun q hq e=>by have e:w.heap.size≤q:=e; omega))
      have q0:=hZ ts.1
      have q1:=hZ ts.2.1
      clear ts hs0 ne1 t0 t1
      go_wp2_with fail
      have u0:=q0.out
      have u1:=q1.out
      refine bodyPost_ret (v:=.agg #[.bool false,.slice (some ⟨b,o,none⟩) (k+1) cap]) (by simp [results,Tryz.results187,go_sem,u0,u1]) rfl ⟨?_,hfin.out⟩
      rw [hlen]; simp
    | true=>
      have hs0:Fx (·=w.heap.size) wr (wr.setCell ⟨w.heap.size,0,none⟩ (.bool true)):=Fx.setCell (p:=(·=w.heap.size)) (q:=⟨w.heap.size,0,none⟩) (Fx.refl _ _) (.inl rfl) _
      have ne1:¬ w.heap.size+1=w.heap.size:=by omega
      have t0:=hs0.keep r0 ne1
      have t1:=hs0.keep r1 ne1
      have ts:=two_store (wr.setCell ⟨w.heap.size,0,none⟩ (.bool true)) (w.heap.size+1) (.bool true) (.slice (some ⟨b,o,none⟩) (k+1) cap) _ _ t0 t1
      have hfin:=hZ (show Fr w (((wr.setCell ⟨w.heap.size,0,none⟩ (.bool true)).setCell ⟨w.heap.size+1,0,none⟩ (.bool true)).setCell ⟨w.heap.size+1,1,none⟩ (.slice (some ⟨b,o,none⟩) (k+1) cap)) from ((Fx.of_fr (p:=fun q=>w.heap.size≤q) hf).trans ((hs0.mono (fun q e=>by have e:q=w.heap.size:=e; omega)).trans (ts.2.2.2.mono (fun q e=>by have e:q=w.heap.size+1:=e; omega)))).toFr (fun q hq e=>by have e:w.heap.size≤q:=e; omega))
      have q0:=hZ ts.1
      have q1:=hZ ts.2.1
      clear ts hs0 ne1 t0 t1
      go_wp2_with fail
      have u0:=q0.out
      have u1:=q1.out
      refine bodyPost_ret (v:=.agg #[.bool true,.slice (some ⟨b,o,none⟩) (k+1) cap]) (by simp [results,Tryz.results187,go_sem,u0,u1]) rfl ⟨?_,hfin.out⟩
      rw [hlen]; simp
theorem two_keep (w5:World) (p q:Nat) (x y u v:Value) (h:w5.cell? ⟨p,0,none⟩=some x∧w5.cell? ⟨p,1,none⟩=some y) (hpq:p≠q) :
 ((w5.setCell ⟨q,0,none⟩ u).setCell ⟨q,1,none⟩ v).cell? ⟨p,0,none⟩=some x∧((w5.setCell ⟨q,0,none⟩ u).setCell ⟨q,1,none⟩ v).cell? ⟨p,1,none⟩=some y:=by
 have e:∀ (i j:Nat),(⟨q,i,none⟩:Addr)≠⟨p,j,none⟩:=fun i j e=>hpq (by injection e with e; exact e.symm)
 exact ⟨by rw [World.cell?_setCell_other _ _ _ _ (e 1 0),World.cell?_setCell_other _ _ _ _ (e 0 0)]; exact h.1,by rw [World.cell?_setCell_other _ _ _ _ (e 1 1),World.cell?_setCell_other _ _ _ _ (e 0 1)]; exact h.2⟩
end Go.Proofs.YtmalpgbbddkdcaaGreatDoor
