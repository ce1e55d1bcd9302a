/- Contracts and laws: UC. -/
import Derived.Test.YtkjemicelmabdaaGreatDoorUB
import Derived.Test.YtkjemicelmabdaaGreatDoorUA
import Derived.Maps.OwnSet
import Derived.Maps.Views
import Derived.StringKeys
import Derived.OwnWalk

set_option maxRecDepth 100000
set_option maxHeartbeats 4000000
namespace Go.Proofs.YtkjemicelmabdaaGreatDoor
open Go.RowKit Go.Lib
def Vm (L:List Sy):Prop:=∀ x,x ∈ L→x.nm.size≤1000000000∧x.row.length≤1000000000
theorem I1 {H:Type} {P:Program} {e:TypeId} (he:P.underlying e=some .bool) {v:Value} {z:DataW H×List MemPlace} (h:plainElem P e v=some z):∃ c,v=.bool c∧z=(.lit (.bool c),[]):=by
 unfold plainElem at h
 rw [he] at h
 cases v <;> simp at h
 exact ⟨_,rfl,h.symm⟩
theorem IO {H:Type} {P:Program} (w:World) {ops:Array Oper} {rest:List Oper} {o:Oper} {a:Act} {Q:Exit→Act→World→Prop}
 (hg:o.guard=none) (m x:Operand) (t:TypeId) (hop:o.op=Op.lookup t m x false)
 (k e:TypeId) (K:Maps.Keyed P k) (ht:P.underlying t=some (.map k e)) (he:P.underlying e=some .bool) (hz:(zeroValue e).run P w=.ok (.bool false) w) (b n:Nat) (D:DataW H)
 (hm:a.eval m=.map (some b)) (hown:w.ownsMap P k (plainElem P e) b n D) (key:Value) (kl:Lit) (hx:a.eval x=key) (hkey:keyOf P k key=some kl) (c:Bool) (hc:D.atKey kl (.lit (.bool false))=.lit (.bool c))
 (hK:wpList P ops Q rest (a.put o.dst (.bool c)) w) :
 wpList P ops Q (o :: rest) a w:=by
 refine wpList_plain hg fun K' hK'=>?_
 obtain ⟨v,ps,hrun,hv⟩:=hown.lookup K ht hz (plainElem_bool he false) hkey
 obtain ⟨c',rfl,h2⟩:=I1 he hv
 rw [hc] at h2
 injection h2 with h2
 injection h2 with h2
 injection h2 with h2
 subst h2
 unfold Oper.wp
 simp [execOp,hop,hm,hx,hrun,Result.andThen]
 exact hK' _ _ hK
def Dd (w:World) (b:Nat) (l:List ByteArray):Prop :=
 ∃ D:DataW Unit,w.ownsMap Tryz.prog 9 (plainElem Tryz.prog 4) b l.length D∧Maps.IsMap D∧∀ s:ByteArray,D.atKey (.string s.data.toList) (.lit (.bool false))=.lit (.bool (l.any fun y=>y.toList == s.toList))
theorem Dd.nil (w:World):Dd (w.alloc (.map #[] 0)) w.heap.size [] :=
 ⟨.map [],World.ownsMap_made _ _ _ _,⟨_,rfl⟩,fun _=>rfl⟩
theorem Dd.lt {w:World} {b:Nat} {l:List ByteArray} (h:Dd w b l):b < w.heap.size:=by
 obtain ⟨D,h1,-⟩:=h
 exact h1.lt
theorem Dd.fx {p:Nat→Prop} {w w':World} {b:Nat} {l:List ByteArray} (h:Dd w b l) (k:Fx p w w') (hp:¬ p b):Dd w' b l:=by
 have hl:=h.lt
 obtain ⟨D,⟨es,clock,hb,r⟩,h2⟩:=h
 exact ⟨D,⟨es,clock,(k.block b hl hp).trans hb,r⟩,h2⟩
theorem Dd.fr {w w':World} {b:Nat} {l:List ByteArray} (h:Dd w b l) (k:Fr w w'):Dd w' b l:=h.fx (p:=fun _=>False) (Fx.of_fr k) (fun e=>e)
theorem Fp (w:World) {ops:Array Oper} {rest:List Oper} {o:Oper} {a:Act} {Q:Exit→Act→World→Prop} (b:Nat) (l:List ByteArray) (s:ByteArray) (c:Bool)
 (hg:o.guard=none) (m x:Operand) (hop:o.op=Op.lookup 114 m x false) (hm:a.eval m=.map (some b)) (hx:a.eval x=.string s) (h:Dd w b l) (hs:s.size≤maxLen) (hc:(l.any fun y=>y.toList == s.toList)=c)
 (hK:wpList Tryz.prog ops Q rest (a.put o.dst (.bool c)) w):wpList Tryz.prog ops Q (o :: rest) a w:=by
 obtain ⟨D,h1,h2,h3⟩:=h
 exact IO w hg m x _ hop 9 4 (Maps.string_keyed Tryz.underlying9) Tryz.underlying114 Tryz.underlying4 (Tryz.zeroValue4 w) b _ D hm h1 _ _ hx (Y4 Tryz.underlying9 hs) c (by rw [h3,hc]) hK
theorem Ld (w:World) {ops:Array Oper} {rest:List Oper} {o:Oper} {a:Act} {Q:Exit→Act→World→Prop} (b:Nat) (l:List ByteArray) (s:ByteArray)
 (hg:o.guard=none) (m x v:Operand) (hop:o.op=Op.mapUpdate 114 m x v) (hm:a.eval m=.map (some b)) (hx:a.eval x=.string s) (hv:a.eval v=.bool true) (h:Dd w b l) (hl:l.length≤1000000) (hs:s.size≤maxLen)
 (hK:∀ w',Dd w' b (l ++ [s])→Fx (·=b) w w'→wpList Tryz.prog ops Q rest (a.put o.dst undef) w'):wpList Tryz.prog ops Q (o :: rest) a w:=by
 obtain ⟨D,h1,h2,h3⟩:=h
 refine wpList_mapUpdate_own w hg m x v _ hop 9 4 (Maps.string_keyed Tryz.underlying9) Tryz.underlying114 _ b _ D hm h1 (by unfold maxLen; omega) _ _ _ hx hv (Y4 Tryz.underlying9 hs) _ [] (plainElem_bool Tryz.underlying4 true) ?_
 intro w' hown hg
 refine hK w' ⟨_,by rw [At]; exact hown,h2.put _ _,fun t=>?_⟩ ((Fx.of_grown hg).mono (fun k e=>by injection e with e; exact e.symm))
 rw [List.any_append]
 by_cases e:t.data.toList=s.data.toList
 ·rw [e,Maps.atKey_put_same (k:=.string s.data.toList) h2 trivial]
  have:(s.toList == t.toList)=true:=by rw [CA,CA,e,Ez]
  simp [this]
 ·rw [Maps.atKey_put_other (fun h=>e (by injection h with h)),h3]
  have:(s.toList == t.toList)=false:=by
   rw [Is]
   intro h
   rw [CA,CA] at h
   exact e h.symm
  simp [this]
attribute [local go_sem ↓] AQ AR
theorem Qi (m:List (List Int)) (a:Option Addr) (cap n:Nat) (w:World) (hm:BS w a m) (hr:BU n m) (hl:m.length≤1000000) (he:∀ r,r ∈ m→Dk r=0) (hn:n≤1000000) :
 Calls Tryz.prog 161 #[.slice a m.length cap,.int .i64 n] w fun e w'=>e=.returned (.int .i64 0)∧Fr w w':=by
 replace hm:=hZ hm
 replace hr:=hZ hr
 replace he:=hZ he
 go_enter Tryz.func161,Tryz.ntmps161
 go_wp2_with fail
 go_loopg [10] m.length (fun k s10 wr=>∃ j:Nat,s10=.int .i64 j∧j+k=m.length∧Fr w wr)
 case atStart=>exact ⟨0,rfl,by omega,Fr.refl _⟩
 case round=>
  obtain ⟨j,rfl,hjk,hf⟩:=hrel
  by_cases hlt:j < m.length
  ·obtain ⟨b,o,a',c',rfl,hc,hel⟩:=(hm.out.fr hf).at hlt
   have hck:=D1 m[j] a' c' wr hel (by rw [hr.out.row hlt]; omega)
   rw [he.out _ (AK hlt)] at hck
   rw [hr.out.row hlt] at hc hck
   clear hel
   have z0:(0:Int)≤(j:Int):=Ag _
   have z1:(j:Int) < (m.length:Int):=by omega
   go_wp2_with fail
   refine hck.mono ?_
   clear hck
   rintro e w2 ⟨rfl,hf2⟩
   go_wp2_with fail
   go_roundg (gk - 1)
   case measure=>omega
   case rel=>exact ⟨j+1,by go_num,by omega,hf.trans hf2⟩
  ·have hd:decide (j < m.length)=false:=Ab hlt
   go_wp2_with fail
   go_ret
   exact ⟨rfl,hf⟩
theorem KL (m:List (List Int)) (a:Option Addr) (cap n:Nat) (w:World) (hm:BS w a m) (hr:BU n m) (hl:m.length≤12) (he:∀ r,r ∈ m→Dk r=0) (hn:n≤12) :
 Calls Tryz.prog 98 #[.int .i64 n,.slice a m.length cap] w fun e w'=>e=.returned (.int .i64 0)∧Fr w w':=by
 have hc:=Qi m a cap n w hm hr (by omega) he (by omega)
 clear hm he
 have d1:decide ((n:Int) < 0)=false:=Ab (by omega)
 go_enter Tryz.func98,Tryz.ntmps98
 go_wp2_with fail
 refine hc.mono ?_
 clear hc
 rintro e w2 ⟨rfl,hf2⟩
 go_wp2_with fail
 go_ret
 exact ⟨rfl,hf2⟩
def Yg (w:World) (xs:List Int) (e:Ending) (w':World):Prop:=∃ g c,e=.returned (.slice (some ⟨g,0,none⟩) xs.length c)∧Fr w w'∧w'.ownsRow w.heap.size 56 1 (.slice (some ⟨g,0,none⟩) xs.length c) xs.length (xs.map sv)
theorem QO (xs:List Int) (a:Option Addr) (cap:Nat) (w:World) (hG:G w) (hx:El w iv a xs) (hl:xs.length≤1000000) (hb:∀ x,x ∈ xs→Sm x) :
 Calls Tryz.prog 162 #[.slice a xs.length cap] w (Yg w xs):=by
 obtain ⟨i0,hi,hz0,hz1,hz2⟩:=AG GC
 obtain ⟨n,hn⟩:∃ n,n=xs.length:=⟨_,rfl⟩
 rw [← hn] at hl
 replace hn:=hZ hn
 replace hx:=hZ hx
 replace hb:=hZ hb
 replace hG:=hZ hG
 go_enter Tryz.func162,Tryz.ntmps162
 rw [← hn.out]
 go_wp2_with (at_make; refine MD _ rfl _ _ 224 rfl w.heap.size 56 i0 _ 1 Tryz.underlying224 hi hz0 hz1 _ _ _ n (by rfl) (by rfl) (by omega) (by rw [hz2]; omega) (by unfold maxLen; omega) (Af _) ?_; intro w2 hown2 hgr2)
 have hf2:Fr w w2:=(Fr.refl w).grown hgr2 (fun k e=>by cases e)
 replace hown2:=hZ hown2
 clear hgr2
 go_loopg [3,11] n (fun k s3 s11 wr=>∃ t:Nat,s11=.int .i64 t∧t+k=n∧Fr w wr∧wr.ownsRow w.heap.size 56 1 s3 t ((xs.take t).map sv)∧s3≠.slice none 0 0)
 case atStart=>exact ⟨0,rfl,by omega,hf2,by simpa using hown2.out,by simp⟩
 case round=>
  obtain ⟨t,rfl,htk,hf,hown,hnn⟩:=hrel
  by_cases ht:t < n
  ·obtain ⟨b2,o2,x,rfl,hbl2,hxt,hcell2⟩:=(hx.out.fr hf).at (i:=t) (by rw [← hn.out]; exact ht)
   have hGr:=hG.out.fr hf
   have hsx:=hb.out x (Ac hxt)
   unfold Sm at hsx
   have hsn2:=hZ (Bh hxt)
   replace hxt:=hZ hxt
   go_wp2_with fail
   refine (Dm _ (by omega) (by omega) _ hGr).mono ?_
   rintro e w3 ⟨rfl,hf3⟩
   go_wp2_with (at_builtin; refine As _ rfl _ _ 224 (by rfl) _ 56 _ _ 1 16 Tryz.underlying224 hi hz0 hz1 hz2 rfl (by decide) _ t _ (by rfl) (Av (A3 hown hf3) _) ⟨w3.heap.size,0,none⟩ 1 1 [sv x] (by rfl) rfl (AD _ _ _ _ (by simp)) (by simp [Value.oneCell']) (by decide) (by unfold maxLen; omega) (by omega) (by have:=(hf.trans hf3).size; simp; omega) (w3.heap.size+1) (by simp) ?_; intro gA capA wA hownA hgrowA hatA hltA)
   go_wp2_with fail
   go_roundg (gk - 1)
   case measure=>omega
   case rel=>exact ⟨t+1,by go_num,by omega,((hf.trans hf3).alloc _).grown hgrowA (fun k e=>(hown.lt k e).1),by rw [hsn2.out,Ax]; exact hownA,by simp⟩
  ·have hd:decide (t < n)=false:=Ab ht
   obtain rfl:t=n:=by omega
   obtain ⟨gb7,cp7,rfl⟩:=I3 hown hnn
   rw [Ai (by rw [← hn.out]; omega)] at hown
   clear hnn
   go_wp2_with fail
   go_ret
   exact ⟨gb7,cp7,by rw [← hn.out]; rfl,hf,by rw [← hn.out]; exact hown⟩
theorem UL:(Tryz.prog.info? 224).map (fun i=>(i.zero,i.size,i.bytes))=some (some (.slice none 0 0),1,24):=by kernel_rfl
theorem Pn (m:List (List Int)) (a:Option Addr) (cap:Nat) (w:World) (hG:G w) (hm:BS w a m) (hr:∀ r,r ∈ m→r.length≤1000000) (hl:m.length≤1000000) (hb:∀ r,r ∈ m→∀ x,x ∈ r→Sm x) :
 Calls Tryz.prog 99 #[.slice a m.length cap] w (Xd w 224 m):=by
 have hgn:=Ch hG
 obtain ⟨i1,ji,jz0,jz1,jz2⟩:=AG UL
 replace hm:=hZ hm
 replace hr:=hZ hr
 replace hb:=hZ hb
 replace hG:=hZ hG
 go_enter Tryz.func99,Tryz.ntmps99
 go_wp2_with fail
 go_loopg [3,8] m.length (fun k s3 s8 wr=>∃ (j:Nat) (hs:List (Nat×Nat×Nat)),s8=.int .i64 j∧j+k=m.length∧Fr w wr∧GG wr w.heap.size 224 s3 hs (m.take j)∧Hid (∀ h,h ∈ hs→w.heap.size≤h.1))
 case atStart=>exact ⟨0,[],rfl,by omega,Fr.refl _,GG.nil _ _ _ hgn,fun h hm=>by simp at hm⟩
 case round=>
  obtain ⟨j,hs,rfl,hjk,hf,hgg,hnew⟩:=hrel
  by_cases hlt:j < m.length
  ·obtain ⟨b,o,a',c',rfl,hc,hel⟩:=(hm.out.fr hf).at hlt
   have hsn:=Bh (Aa hlt)
   have hrj:=hr.out _ (AK hlt)
   have hlong:=QO m[j] a' c' wr (hG.out.fr hf) hel hrj (hb.out _ (AK hlt))
   have hgl:(m.take j).length=j:=by rw [AB]; omega
   generalize m[j]=row at *
   obtain ⟨n,hn⟩:∃ n,n=row.length:=⟨_,rfl⟩
   rw [← hn] at hc hlong
   replace hn:=hZ hn
   replace hsn:=hZ hsn
   replace hgl:=hZ hgl
   replace hgg:=hZ hgg
   clear hel
   go_wp2_with fail
   refine hlong.mono ?_
   clear hlong
   rintro e w2 ⟨g,c,rfl,hf2,hown2⟩
   obtain ⟨hO,-,-,hgb,hcp⟩:=CG (Aw hgn hf.size) hown2
   have hgg2:=hgg.out.fr hf2
   have hne:u3.ownBlock≠some g:=fun e=>by have h9:=(hgg.out.own.lt g e).2; omega
   have hne2:∀ h',h' ∈ hs→h'.1≠g:=fun h' hm e2=>by have h9:=hgg.out.lt h' hm; omega
   have hown3:=hgg2.own
   rw [hgl.out] at hown3
   rw [← hn.out]
   replace hgg2:=hZ hgg2
   replace hown2:=hZ hown2
   go_wp2_with (at_builtin; refine As _ rfl _ _ 159 (by rfl) _ 224 _ _ 1 24 Tryz.underlying159 ji jz0 jz1 jz2 rfl (by decide) _ j _ (by rfl) (Av hown3 _) ⟨w2.heap.size,0,none⟩ 1 1 [.slice (some ⟨g,0,none⟩) n c] (by rfl) rfl (AD _ _ _ _ (by simp)) (by simp [Value.oneCell']) (by decide) (by unfold maxLen; omega) (by omega) (by have:=(hf.trans hf2).size; simp; omega) (w2.heap.size+1) (by simp) ?_; intro gA capA wA hownA hgrowA hatA hltA)
   have hpush:=(hgg2.out.fr ((Fr.refl _).alloc _)).pushN (hd:=(g,0,c)) (hO.fr ((Fr.refl _).alloc _)) hne2 hne hgl.out (by unfold Kj; rw [← hn.out]) hownA hgrowA (hatA.imp id (fun e=>by rw [e]; simp))
   rw [← hsn.out] at hpush
   have hfrA:Fr w wA:=(((hf.trans hf2).alloc _)).grown hgrowA (fun k e=>(hgg2.out.own.lt k e).1)
   go_roundg (gk - 1)
   case measure=>omega
   case rel=>exact ⟨j+1,_,by go_num,by omega,hfrA,hpush,fun h hm=>by rcases A4.1 hm with h1 | h1; exact hnew.out h h1; (simp at h1; subst h1; exact Aw hf.size hgb)⟩
  ·have hd:decide (j < m.length)=false:=Ab hlt
   have hjm:m.take j=m:=Ai (by omega)
   rw [hjm] at hgg
   replace hjm:=hZ hjm
   go_wp2_with fail
   go_ret
   exact ⟨_,hs,rfl,hgg,hnew,hf⟩
def Sb (w:World) (xs:List Int) (e:Ending) (w':World):Prop:=∃ g c,e=.returned (.tuple #[.slice (some ⟨g,0,none⟩) xs.length c,.int .i64 0])∧Fr w w'∧w'.ownsRow w.heap.size 3 1 (.slice (some ⟨g,0,none⟩) xs.length c) xs.length (xs.map iv)
theorem NY (xs:List Int) (b o c:Nat) (w:World) (hG:G w) (hx:E5 w b o xs) (hl:xs.length≤1000000) (hb:∀ x,x ∈ xs→Bk x=true) :
 Calls Tryz.prog 168 #[.slice (some ⟨b,o,none⟩) xs.length c] w (Sb w xs):=by
 obtain ⟨i0,hi,hz0,hz1,hz2⟩:=AG CS
 obtain ⟨n,hn⟩:∃ n,n=xs.length:=⟨_,rfl⟩
 rw [← hn] at hl
 replace hn:=hZ hn
 replace hx:=hZ hx
 replace hb:=hZ hb
 replace hG:=hZ hG
 go_enter Tryz.func168,Tryz.ntmps168
 rw [← hn.out]
 go_wp2_with (at_make; refine MD _ rfl _ _ 29 rfl w.heap.size 3 i0 _ 1 Tryz.underlying29 hi hz0 hz1 _ _ _ n (by rfl) (by rfl) (by omega) (by rw [hz2]; omega) (by unfold maxLen; omega) (Af _) ?_; intro w2 hown2 hgr2)
 have hf2:Fr w w2:=(Fr.refl w).grown hgr2 (fun k e=>by cases e)
 replace hown2:=hZ hown2
 clear hgr2
 go_loopg [4,14] n (fun k s4 s14 wr=>∃ t:Nat,s14=.int .i64 t∧t+k=n∧Fr w wr∧wr.ownsRow w.heap.size 3 1 s4 t ((xs.take t).map iv)∧s4≠.slice none 0 0)
 case atStart=>exact ⟨0,rfl,by omega,hf2,by simpa using hown2.out,by simp⟩
 case round=>
  obtain ⟨t,rfl,htk,hf,hown,hnn⟩:=hrel
  by_cases ht:t < n
  ·obtain ⟨b2,o2,x,hae,hbl2,hxt,hcell2⟩:=(hx.out.el.fr hf).at (i:=t) (by rw [← hn.out]; exact ht)
   injection hae with hae; injection hae with hb2 ho2
   subst hb2; subst ho2
   have hfx:=hb.out x (Ac hxt)
   unfold Bk at hfx
   have hfx:=Au hfx
   obtain ⟨x1,x2⟩:=hfx
   have hd1:decide ((1000000000:Int) < x)=false:=Ab (by omega)
   have hd2:decide (x < -1000000000)=false:=Ab (by omega)
   have hsn2:=hZ (Bh hxt)
   replace hxt:=hZ hxt
   go_wp2_with fail
   refine (H3 x (by omega) (by omega) _).mono ?_
   rintro e w3 ⟨rfl,hf3⟩
   go_wp2_with (at_builtin; refine As _ rfl _ _ 29 (by rfl) _ 3 _ _ 1 8 Tryz.underlying29 hi hz0 hz1 hz2 rfl (by decide) _ t _ (by rfl) (Av (A3 hown hf3) _) ⟨w3.heap.size,0,none⟩ 1 1 [iv x] (by rfl) rfl (AD _ _ _ _ (by simp)) (by simp [Value.oneCell']) (by decide) (by unfold maxLen; omega) (by omega) (by have:=(hf.trans hf3).size; simp; omega) (w3.heap.size+1) (by simp) ?_; intro gA capA wA hownA hgrowA hatA hltA)
   go_wp2_with fail
   go_roundg (gk - 1)
   case measure=>omega
   case rel=>exact ⟨t+1,by go_num,by omega,((hf.trans hf3).alloc _).grown hgrowA (fun k e=>(hown.lt k e).1),by rw [hsn2.out,Ax]; exact hownA,by simp⟩
  ·have hd:decide (t < n)=false:=Ab ht
   obtain rfl:t=n:=by omega
   obtain ⟨gb7,cp7,rfl⟩:=I3 hown hnn
   rw [Ai (by rw [← hn.out]; omega)] at hown
   clear hnn
   go_wp2_with fail
   go_ret2
   exact ⟨gb7,cp7,by rw [← hn.out]; rfl,hf,by rw [← hn.out]; exact hown⟩
structure TO (w:World) (B n:Nat) (v:Value):Prop where
 a0:∃ x,w.cell? ⟨B,0,none⟩=some x
 a1:∃ x,w.cell? ⟨B,1,none⟩=some x
 fa0:w.frozen? ⟨B,0,none⟩=false
 fa1:w.frozen? ⟨B,1,none⟩=false
 b0:w.cell? ⟨B+1,0,none⟩=some (.int .i64 n)
 b1:w.cell? ⟨B+1,1,none⟩=some v
 fb0:w.frozen? ⟨B+1,0,none⟩=false
 fb1:w.frozen? ⟨B+1,1,none⟩=false
theorem TO.fx {w w':World} {B n:Nat} {v:Value} {p:Nat→Prop} (h:TO w B n v) (k:Fx p w w') (h0:¬ p B) (h1:¬ p (B+1)):TO w' B n v:=by
 obtain ⟨⟨x,hx⟩,⟨y,hy⟩,fa0,fa1,b0,b1,fb0,fb1⟩:=h
 exact ⟨⟨x,k.keep hx h0⟩,⟨y,k.keep hy h0⟩,k.keepf hx fa0 h0,k.keepf hy fa1 h0,k.keep b0 h1,k.keep b1 h1,k.keepf b0 fb0 h1,k.keepf b1 fb1 h1⟩
theorem TO.set {w:World} {B n:Nat} {v:Value} (h:TO w B n v) (u:Value):TO (w.setCell ⟨B+1,1,none⟩ u) B n u:=by
 obtain ⟨⟨x,hx⟩,⟨y,hy⟩,fa0,fa1,b0,b1,fb0,fb1⟩:=h
 have e1:(⟨B+1,1,none⟩:Addr)≠⟨B,0,none⟩:=fun e=>by injection e with e; omega
 have e2:(⟨B+1,1,none⟩:Addr)≠⟨B,1,none⟩:=fun e=>by injection e with e; omega
 have e3:(⟨B+1,1,none⟩:Addr)≠⟨B+1,0,none⟩:=fun e=>by injection e with _ e; omega
 refine ⟨⟨x, ?_⟩,⟨y, ?_⟩, ?_, ?_, ?_, ?_, ?_, ?_⟩
 ·rw [Ae _ _ _ _ e1]; exact hx
 ·rw [Ae _ _ _ _ e2]; exact hy
 ·rw [Ao]; exact fa0
 ·rw [Ao]; exact fa1
 ·rw [Ae _ _ _ _ e3]; exact b0
 ·exact Ap _ _ _ (by rw [b1]; rfl)
 ·rw [Ao]; exact fb0
 ·rw [Ao]; exact fb1
def Gf (w:World):List Obj→World
 | []=>w
 | o :: l=>Gf (w.alloc o) l
theorem PX:∀ (l:List Obj) (w:World) (k:Nat),k < w.heap.size→(Gf w l).heap[k]?=w.heap[k]?
 | [],w,k,_=>rfl
 | o :: l,w,k,h=>by rw [Gf,PX l _ k (by simp; omega)]; exact Below.heap_alloc _ _ _ h
theorem CM:∀ (l:List Obj) (w:World) (i:Nat) (o:Obj),l[i]?=some o→(Gf w l).heap[w.heap.size+i]?=some o
 | [],w,i,o,h=>by simp at h
 | x :: l,w,0,o,h=>by
   simp at h; subst h
   rw [Gf,EK,PX l _ _ (by simp)]
   exact CJ w _
 | x :: l,w,i+1,o,h=>by
   have:=CM l (w.alloc x) i o (by simpa using h)
   rw [Az] at this
   rw [Gf,show w.heap.size+(i+1)=w.heap.size+1+i by omega]
   exact this
theorem Hp:∀ (l:List Obj) (w:World),Fr w (Gf w l)
 | [],w=>Fr.refl w
 | o :: l,w=>((Fr.refl w).alloc o).trans (Hp l (w.alloc o))
theorem Bg {W:World} {b:Nat} {cs:Array Value} {t:TypeId} (h:W.heap[b]?=some (.cells cs t (0,0))) (i:Nat):W.cell? ⟨b,i,none⟩=cs[i]?:=by
 unfold World.cell?; rw [h]; rfl
theorem I6 {W:World} {b:Nat} {o:Obj} (h:W.heap[b]?=some o):b < W.heap.size:=(DT.1 h).1
theorem El.one {W:World} {b:Nat} {x:Int} {t:TypeId} (h:W.heap[b]?=some (.cells #[.int .i64 x] t (0,0))):El W iv (some ⟨b,0,none⟩) [x] :=
 .inr ⟨b,0,rfl,I6 h,fun i y hy=>by
  match i,hy with
  | 0,hy=>simp at hy; subst hy; rw [Bg h]; rfl
  | i+1,hy=>simp at hy⟩
theorem IA.two {W:World} {b:Nat} {x y:Sy} {t:TypeId} (h:W.heap[b]?=some (.cells #[x.enc.1,x.enc.2,y.enc.1,y.enc.2] t (0,0))) (h1:El W iv x.ra x.row) (h2:El W iv y.ra y.row):IA W (some ⟨b,0,none⟩) [x,y]:=by
 refine ⟨.inr ⟨b,0,rfl,I6 h,fun i z hz=>?_⟩,fun z hz=>?_⟩
 ·match i,hz with
  | 0,hz=>simp at hz; subst hz; rw [Bg h,Bg h]; exact ⟨rfl,rfl⟩
  | 1,hz=>simp at hz; subst hz; rw [Bg h,Bg h]; exact ⟨rfl,rfl⟩
  | i+2,hz=>simp at hz
 ·simp at hz
  rcases hz with rfl | rfl
  ·exact h1
  ·exact h2
def digs (n:Nat):List Int:=if h:n=0 then [] else ((n % 1000000000:Nat):Int) :: digs (n / 1000000000)
termination_by n
decreasing_by omega
def Dg (l:List Int):Prop:=∀ d,d ∈ l→0≤d∧d < 1000000000
def val:List Int→Int
 | []=>0
 | d :: l=>d+1000000000 * val l
theorem BC:digs 0=[]:=by rw [digs]; rfl
theorem Cj {n:Nat} (h:0 < n):digs n=((n % 1000000000:Nat):Int) :: digs (n / 1000000000):=by rw [digs,Zz (by omega)]
theorem PF {n:Nat} (h:0 < n) (h2:n < 1000000000):digs n=[(n:Int)]:=by
 rw [Cj h,KY h2,Nat.div_eq_of_lt h2,BC]
theorem Gb {n:Nat}:digs n=[] ↔ n=0:=by
 constructor
 ·intro h
  by_cases h0:n=0
  ·exact h0
  ·rw [Cj (by omega)] at h; exact absurd h (by simp)
 ·rintro rfl; exact BC
theorem Dv:∀ n,Dg (digs n):=fun n=>by
 induction n using Nat.strongRecOn with
 | _ n ih=>
   by_cases h:n=0
   ·subst h; rw [BC]; intro d hd; simp at hd
   ·rw [Cj (by omega)]
    intro d hd
    rcases A2.1 hd with rfl | hd
    ·omega
    ·exact ih _ (by omega) d hd
theorem Ef:∀ n:Nat,val (digs n)=n:=fun n=>by
 induction n using Nat.strongRecOn with
 | _ n ih=>
   by_cases h:n=0
   ·subst h; rw [BC]; rfl
   ·rw [Cj (by omega)]
    show ((n % 1000000000:Nat):Int)+1000000000 * val (digs (n / 1000000000))=n
    rw [ih _ (by omega)]
    omega
theorem U5 {n m:Nat} (h:digs n=digs m):n=m:=by
 have:=Ef n; rw [h,Ef] at this; omega
theorem PG:∀ (k n:Nat),n < 1000000000 ^ k→(digs n).length≤k
 | 0,n,h=>by have:n=0:=by simpa using h
             subst this; rw [BC]; simp
 | k+1,n,h=>by
   by_cases h0:n=0
   ·subst h0; rw [BC]; simp
   ·rw [Cj (by omega)]
    have:=PG k (n / 1000000000) (by rw [ZM (by decide)]; rw [B1] at h; exact h)
    simp; omega
theorem Dg.cons {d:Int} {l:List Int} (h:Dg (d :: l)):(0≤d∧d < 1000000000)∧Dg l:=⟨h d (by simp),fun x hx=>h x (by simp [hx])⟩
theorem Dg.mk {d:Int} {l:List Int} (h:0≤d∧d < 1000000000) (k:Dg l):Dg (d :: l):=fun x hx=>by
 rcases A2.1 hx with rfl | hx
 ·exact h
 ·exact k x hx
theorem IQ:∀ {l:List Int},Dg l→0≤val l
 | [],_=>by show (0:Int)≤0; omega
 | d :: l,h=>by
   have h1:=h.cons
   have:=IQ h1.2
   show 0≤d+1000000000 * val l
   omega
def B0:List Int→List Int
 | []=>[]
 | d :: l=>if B0 l=[]∧d=0 then [] else d :: B0 l
theorem NB (x:Nat):(if digs (x / 1000000000)=[]∧((x % 1000000000:Nat):Int)=0 then [] else ((x % 1000000000:Nat):Int) :: digs (x / 1000000000))=digs x:=by
 by_cases h:x=0
 ·subst h; rw [Ak ⟨by show digs 0=[]; exact BC,by simp⟩,BC]
 ·rw [Cj (n:=x) (by omega),Aj]
  rintro ⟨h1,h2⟩
  rw [Gb] at h1
  omega
theorem F0:∀ {l:List Int},Dg l→B0 l=digs (val l).toNat
 | [],_=>by show []=digs 0; rw [BC]
 | d :: l,h=>by
   have h1:=h.cons
   have h2:=IQ h1.2
   show (if B0 l=[]∧d=0 then [] else d :: B0 l)=digs (d+1000000000 * val l).toNat
   rw [F0 h1.2,← NB (d+1000000000 * val l).toNat,show (d+1000000000 * val l).toNat / 1000000000=(val l).toNat by omega,show (((d+1000000000 * val l).toNat % 1000000000:Nat):Int)=d by omega]
theorem E8 (n:Nat):B0 (digs n)=digs n:=by rw [F0 (Dv n),Ef]; rfl
theorem Ll:∀ l:List Int,B0 (l ++ [0])=B0 l
 | []=>rfl
 | d :: l=>by
   show (if B0 (l ++ [0])=[]∧d=0 then [] else d :: B0 (l ++ [0]))=_
   rw [Ll l]; rfl
theorem Lo {d:Int} (hd:d≠0):∀ l:List Int,B0 (l ++ [d])=l ++ [d]
 | []=>by show (if B0 []=[]∧d=0 then [] else d :: B0 [])=_; rw [Aj (fun h=>hd h.2)]; rfl
 | x :: l=>by
   show (if B0 (l ++ [d])=[]∧x=0 then [] else x :: B0 (l ++ [d]))=_
   rw [Lo hd l,Aj (fun h=>by simp at h)]; rfl
def Da:List Int→List Int→Int→List Int
 | a :: az,b :: bs,c=>((c+a+b) % 1000000000) :: Da az bs ((c+a+b) / 1000000000)
 | a :: az,[],c=>((c+a) % 1000000000) :: Da az [] ((c+a) / 1000000000)
 | [],b :: bs,c=>((c+b) % 1000000000) :: Da [] bs ((c+b) / 1000000000)
 | [],[],c=>if 0 < c then [c] else []
theorem O9 (a b c:Int) (az bs:List Int):Da (a :: az) (b :: bs) c=((c+a+b) % 1000000000) :: Da az bs ((c+a+b) / 1000000000):=by rw [Da]
theorem O8 (a c:Int) (az:List Int):Da (a :: az) [] c=((c+a) % 1000000000) :: Da az [] ((c+a) / 1000000000):=by rw [Da]
theorem O7 (b c:Int) (bs:List Int):Da [] (b :: bs) c=((c+b) % 1000000000) :: Da [] bs ((c+b) / 1000000000):=by rw [Da]
theorem HP (c:Int):Da [] [] c=if 0 < c then [c] else []:=by rw [Da]
theorem QJ:∀ (s n m:Nat) (c:Nat),n+m≤s→c≤1→Da (digs n) (digs m) c=digs (n+m+c):=fun s=>by
 induction s using Nat.strongRecOn with
 | _ s ih=>
   intro n m c hs hc
   by_cases hn:n=0
   ·subst hn
    by_cases hm:m=0
    ·subst hm
     rw [BC]
     rcases (show c=0∨c=1 by omega) with rfl | rfl
     ·rw [show (0+0+0:Nat)=0 from rfl,BC,HP]; rfl
     ·rw [show (0+0+1:Nat)=1 from rfl,PF (by decide) (by decide),HP]; rfl
    ·rw [BC,Cj (n:=m) (by omega),Cj (n:=0+m+c) (by omega)]
     rw [O7]
     have e:=ih (m / 1000000000) (by omega) 0 (m / 1000000000) ((c+m % 1000000000) / 1000000000) (by omega) (by omega)
     rw [BC] at e
     rw [show ((c:Int)+((m % 1000000000:Nat):Int)) / 1000000000=(((c+m % 1000000000) / 1000000000:Nat):Int) by omega,e]
     congr 1
     ·omega
     ·congr 1; omega
   ·by_cases hm:m=0
    ·subst hm
     rw [BC,Cj (n:=n) (by omega),Cj (n:=n+0+c) (by omega)]
     rw [O8]
     have e:=ih (n / 1000000000) (by omega) (n / 1000000000) 0 ((c+n % 1000000000) / 1000000000) (by omega) (by omega)
     rw [BC] at e
     rw [show ((c:Int)+((n % 1000000000:Nat):Int)) / 1000000000=(((c+n % 1000000000) / 1000000000:Nat):Int) by omega,e]
     congr 1
     ·omega
     ·congr 1; omega
    ·rw [Cj (n:=n) (by omega),Cj (n:=m) (by omega),Cj (n:=n+m+c) (by omega)]
     rw [O9]
     have e:=ih (n / 1000000000+m / 1000000000) (by omega) (n / 1000000000) (m / 1000000000) ((c+n % 1000000000+m % 1000000000) / 1000000000) (by omega) (by omega)
     rw [show ((c:Int)+((n % 1000000000:Nat):Int)+((m % 1000000000:Nat):Int)) / 1000000000=(((c+n % 1000000000+m % 1000000000) / 1000000000:Nat):Int) by omega,e]
     congr 1
     ·omega
     ·congr 1; omega
def Hz (d:Int):Int:=if d < 0 then d+1000000000 else d
def FG (d:Int):Int:=if d < 0 then 1 else 0
def CZ:List Int→List Int→Int→List Int
 | a :: az,b :: bs,w=>Hz (a - w - b) :: CZ az bs (FG (a - w - b))
 | a :: az,[],w=>Hz (a - w) :: CZ az [] (FG (a - w))
 | [],_,_=>[]
theorem Ns (a b w:Int) (az bs:List Int):CZ (a :: az) (b :: bs) w=Hz (a - w - b) :: CZ az bs (FG (a - w - b)):=by rw [CZ]
theorem Nr (a w:Int) (az:List Int):CZ (a :: az) [] w=Hz (a - w) :: CZ az [] (FG (a - w)):=by rw [CZ]
theorem Pj (b:List Int) (w:Int):CZ [] b w=[]:=by rw [CZ]
theorem HS:∀ (n m w:Nat),m+w≤n→w≤1→B0 (CZ (digs n) (digs m) w)=digs (n - m - w):=fun n=>by
 induction n using Nat.strongRecOn with
 | _ n ih=>
   intro m w hs hw
   by_cases hn:n=0
   ·subst hn
    obtain rfl:m=0:=by omega
    obtain rfl:w=0:=by omega
    rw [BC,Pj]; rfl
   ·have key:∀ (d:Int) (r:List Int) (v:Nat),d=(n:Int) % 1000000000 - w - (m:Int) % 1000000000→FG d=v→B0 r=digs (n / 1000000000 - m / 1000000000 - v)→B0 (Hz d :: r)=digs (n - m - w):=fun d r v hd hv hr=>by
     show (if B0 r=[]∧Hz d=0 then [] else Hz d :: B0 r)=_
     rw [hr,← NB (n - m - w)]
     unfold FG at hv
     unfold Hz
     by_cases h0:d < 0
     ·rw [Ak h0] at hv ⊢
      rw [show (n - m - w) / 1000000000=n / 1000000000 - m / 1000000000 - v by omega,show (((n - m - w) % 1000000000:Nat):Int)=d+1000000000 by omega]
     ·rw [Aj h0] at hv ⊢
      rw [show (n - m - w) / 1000000000=n / 1000000000 - m / 1000000000 - v by omega,show (((n - m - w) % 1000000000:Nat):Int)=d by omega]
    by_cases hm:m=0
    ·subst hm
     rw [BC,Cj (n:=n) (by omega)]
     rw [Nr]
     obtain ⟨v,hv⟩:∃ v:Nat,FG (((n % 1000000000:Nat):Int) - w)=v:=⟨(FG (((n % 1000000000:Nat):Int) - w)).toNat,by unfold FG; split <;> rfl⟩
     have hv2:=hv
     unfold FG at hv2
     rw [hv]
     refine key _ _ v (by omega) hv ?_
     have e:=ih (n / 1000000000) (by omega) 0 v (by split at hv2 <;> omega) (by split at hv2 <;> omega)
     rw [BC] at e
     rw [e]
    ·rw [Cj (n:=n) (by omega),Cj (n:=m) (by omega)]
     rw [Ns]
     obtain ⟨v,hv⟩:∃ v:Nat,FG (((n % 1000000000:Nat):Int) - w - ((m % 1000000000:Nat):Int))=v:=⟨(FG (((n % 1000000000:Nat):Int) - w - ((m % 1000000000:Nat):Int))).toNat,by unfold FG; split <;> rfl⟩
     have hv2:=hv
     unfold FG at hv2
     rw [hv]
     refine key _ _ v (by omega) hv ?_
     exact ih (n / 1000000000) (by omega) (m / 1000000000) v (by split at hv2 <;> omega) (by split at hv2 <;> omega)
theorem JC:∀ (n m:Nat),(digs n).length < (digs m).length→n < m:=fun n=>by
 induction n using Nat.strongRecOn with
 | _ n ih=>
   intro m h
   by_cases hm:m=0
   ·subst hm; rw [BC] at h; simp at h
   ·by_cases hn:n=0
    ·omega
    ·rw [Cj (n:=n) (by omega),Cj (n:=m) (by omega)] at h
     have:=ih (n / 1000000000) (by omega) (m / 1000000000) (by simpa using h)
     omega
theorem Lg:∀ (i:Nat) (a b:List Int),Dg a→Dg b→a.length=b.length→(∀ x y,a[i]?=some x→b[i]?=some y→x < y)→i < a.length→a.drop (i+1)=b.drop (i+1)→val a < val b
 | 0,x :: a,y :: b,ha,hb,_,h,_,hd=>by
   have h1:=h x y rfl rfl
   have h2:a=b:=by simpa using hd
   subst h2
   show x+_ < y+_
   omega
 | i+1,x :: a,y :: b,ha,hb,hl,h,hi,hd=>by
   have:=Lg i a b ha.cons.2 hb.cons.2 (by simpa using hl) (fun u v hu hv=>h u v (by simpa using hu) (by simpa using hv)) (by simpa using hi) (by simpa using hd)
   have h1:=ha.cons.1
   have h2:=hb.cons.1
   show x+1000000000 * val a < y+1000000000 * val b
   omega
 | _,[],_,_,_,_,_,hi,_=>by simp at hi
 | _,_ :: _,[],_,_,hl,_,_,_=>by simp at hl
def F6 (n m:Nat):Int:=if n < m then -1 else if m < n then 1 else 0
theorem Bf (wr:World) (r:Nat) (u v u0 v0:Value) (h0:wr.cell? ⟨r,0,none⟩=some u0) (h1:wr.cell? ⟨r,1,none⟩=some v0) :
 ((wr.setCell ⟨r,0,none⟩ u).setCell ⟨r,1,none⟩ v).cell? ⟨r,0,none⟩=some u∧((wr.setCell ⟨r,0,none⟩ u).setCell ⟨r,1,none⟩ v).cell? ⟨r,1,none⟩=some v ∧
   (wr.setCell ⟨r,0,none⟩ u).cell? ⟨r,1,none⟩=some v0∧Fx (·=r) wr ((wr.setCell ⟨r,0,none⟩ u).setCell ⟨r,1,none⟩ v):=by
 have e1:(⟨r,0,none⟩:Addr)≠⟨r,1,none⟩:=fun e=>by injection e with _ e; omega
 refine ⟨?_, ?_, ?_,Fx.setCell (p:=(·=r)) (q:=⟨r,1,none⟩) (Fx.setCell (p:=(·=r)) (q:=⟨r,0,none⟩) (Fx.refl _ _) (.inl rfl) u) (.inl rfl) v⟩
 ·rw [Ae _ _ _ _ (fun e=>e1 e.symm)]; exact Ap _ _ _ (by rw [h0]; rfl)
 ·exact Ap _ _ _ (by rw [Ae _ _ _ _ e1,h1]; rfl)
 ·rw [Ae _ _ _ _ e1]; exact h1
theorem El.take {w:World} {a:Option Addr} {xs:List Int} (h:El w iv a xs) (k:Nat):El w iv a (xs.take k):=by
 rcases h with h | ⟨b,o,ha,hb,hc⟩
 ·exact .inl (by rw [h]; simp)
 ·refine .inr ⟨b,o,ha,hb,fun i x hx=>hc i x ?_⟩
  rw [BZ] at hx
  split at hx
  ·exact hx
  ·cases hx
theorem IU {l:List Int} {k:Nat} {d:Int} (h:l[k]?=some d) (hd:d=0):B0 (l.take (k+1))=B0 (l.take k):=by
 rw [Bh h,hd]; exact Ll _
theorem Lm {l:List Int} {k:Nat} {d:Int} (h:l[k]?=some d) (hd:d≠0):B0 (l.take (k+1))=l.take (k+1):=by
 rw [Bh h]; exact Lo hd _
structure Vl (neg:Bool) (a:Option Addr) (cap:Nat) (l:List Int) (wb:World) (p k:Nat) (wr:World):Prop where
 le:k≤l.length
 eq:B0 (l.take k)=B0 l
 c0:wr.cell? ⟨p,0,none⟩=some (.bool neg)
 c1:wr.cell? ⟨p,1,none⟩=some (.slice a k cap)
 f0:wr.frozen? ⟨p,0,none⟩=false
 f1:wr.frozen? ⟨p,1,none⟩=false
 fx:Fx (·=p) wb wr
theorem Vl.step {neg:Bool} {a:Option Addr} {cap:Nat} {l:List Int} {wb:World} {p k:Nat} {wr:World} (h:Vl neg a cap l wb p (k+1) wr) (hk:l[k]?=some 0):Vl neg a cap l wb p k (wr.setCell ⟨p,1,none⟩ (.slice a k cap)):=by
 have e1:(⟨p,0,none⟩:Addr)≠⟨p,1,none⟩:=fun e=>by injection e with _ e; omega
 refine ⟨by have:=h.le; omega,by rw [← h.eq]; exact (IU hk rfl).symm, ?_,Ap _ _ _ (by rw [h.c1]; rfl),by rw [Ao]; exact h.f0,by rw [Ao]; exact h.f1,Fx.setCell (p:=(·=p)) (q:=⟨p,1,none⟩) h.fx (.inl rfl) _⟩
 rw [Ae _ _ _ _ (fun e=>e1 e.symm)]; exact h.c0
theorem TW (w5:World) (p q:Nat) (x y u v:Value) (h:w5.cell? ⟨p,0,none⟩=some x∧w5.cell? ⟨p,1,none⟩=some y) (hpq:p≠q) :
 ((w5.setCell ⟨q,0,none⟩ u).setCell ⟨q,1,none⟩ v).cell? ⟨p,0,none⟩=some x∧((w5.setCell ⟨q,0,none⟩ u).setCell ⟨q,1,none⟩ v).cell? ⟨p,1,none⟩=some y:=by
 have e:∀ (i j:Nat),(⟨q,i,none⟩:Addr)≠⟨p,j,none⟩:=fun i j e=>hpq (by injection e with e; exact e.symm)
 exact ⟨by rw [Ae _ _ _ _ (e 1 0),Ae _ _ _ _ (e 0 0)]; exact h.1,by rw [Ae _ _ _ _ (e 1 1),Ae _ _ _ _ (e 0 1)]; exact h.2⟩
end Go.Proofs.YtkjemicelmabdaaGreatDoor
