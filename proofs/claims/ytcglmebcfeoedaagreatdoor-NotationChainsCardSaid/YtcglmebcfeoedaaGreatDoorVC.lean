/- Contracts and laws: VC. -/
import Derived.Test.YtcglmebcfeoedaaGreatDoorVB
import Derived.Test.YtcglmebcfeoedaaGreatDoorVA
import Derived.Maps.OwnSet
import Derived.Maps.Views
import Derived.StringKeys
import Derived.OwnWalk

set_option maxRecDepth 100000
set_option maxHeartbeats 4000000
namespace Go.Proofs.YtcglmebcfeoedaaGreatDoor
open Go.RowKit Go.Lib
def US (L:List Sy):Prop:=∀ x,x ∈ L→x.nm.size≤1000000000∧x.row.length≤1000000000
theorem Jc {H:Type} {P:Program} {e:TypeId} (he:P.underlying e=some .bool) {v:Value} {z:DataW H×List MemPlace} (h:plainElem P e v=some z):∃ c,v=.bool c∧z=(.lit (.bool c),[]):=by
 unfold plainElem at h
 rw [he] at h
 cases v <;> simp at h
 exact ⟨_,rfl,h.symm⟩
theorem I3 {H:Type} {P:Program} (w:World) {ops:Array Oper} {rest:List Oper} {o:Oper} {a:Act} {Q:Exit→Act→World→Prop}
 (hg:o.guard=none) (m x:Operand) (t:TypeId) (hop:o.op=Op.lookup t m x false)
 (k e:TypeId) (K:Maps.Keyed P k) (ht:P.underlying t=some (.map k e)) (he:P.underlying e=some .bool) (hz:(zeroValue e).run P w=.ok (.bool false) w) (b n:Nat) (D:DataW H)
 (hm:a.eval m=.map (some b)) (hown:w.ownsMap P k (plainElem P e) b n D) (key:Value) (kl:Lit) (hx:a.eval x=key) (hkey:keyOf P k key=some kl) (c:Bool) (hc:D.atKey kl (.lit (.bool false))=.lit (.bool c))
 (hK:wpList P ops Q rest (a.put o.dst (.bool c)) w) :
 wpList P ops Q (o :: rest) a w:=by
 refine wpList_plain hg fun K' hK'=>?_
 obtain ⟨v,ps,hrun,hv⟩:=hown.lookup K ht hz (plainElem_bool he false) hkey
 obtain ⟨c',rfl,h2⟩:=Jc he hv
 rw [hc] at h2
 injection h2 with h2
 injection h2 with h2
 injection h2 with h2
 subst h2
 unfold Oper.wp
 simp [execOp,hop,hm,hx,hrun,Result.andThen]
 exact hK' _ _ hK
def C7 (w:World) (b:Nat) (l:List ByteArray):Prop :=
 ∃ D:DataW Unit,w.ownsMap Tryz.prog 9 (plainElem Tryz.prog 4) b l.length D∧Maps.IsMap D∧∀ s:ByteArray,D.atKey (.string s.data.toList) (.lit (.bool false))=.lit (.bool (l.any fun y=>y.toList == s.toList))
theorem C7.nil (w:World):C7 (w.alloc (.map #[] 0)) w.heap.size [] :=
 ⟨.map [],World.ownsMap_made _ _ _ _,⟨_,rfl⟩,fun _=>rfl⟩
theorem C7.lt {w:World} {b:Nat} {l:List ByteArray} (h:C7 w b l):b < w.heap.size:=by
 obtain ⟨D,h1,-⟩:=h
 exact h1.lt
theorem C7.fx {p:Nat→Prop} {w w':World} {b:Nat} {l:List ByteArray} (h:C7 w b l) (k:Fx p w w') (hp:¬ p b):C7 w' b l:=by
 have hl:=h.lt
 obtain ⟨D,⟨es,clock,hb,r⟩,h2⟩:=h
 exact ⟨D,⟨es,clock,(k.block b hl hp).trans hb,r⟩,h2⟩
theorem C7.fr {w w':World} {b:Nat} {l:List ByteArray} (h:C7 w b l) (k:Fr w w'):C7 w' b l:=h.fx (p:=fun _=>False) (Fx.of_fr k) (fun e=>e)
theorem Gq (w:World) {ops:Array Oper} {rest:List Oper} {o:Oper} {a:Act} {Q:Exit→Act→World→Prop} (b:Nat) (l:List ByteArray) (s:ByteArray) (c:Bool)
 (hg:o.guard=none) (m x:Operand) (hop:o.op=Op.lookup 122 m x false) (hm:a.eval m=.map (some b)) (hx:a.eval x=.string s) (h:C7 w b l) (hs:s.size≤maxLen) (hc:(l.any fun y=>y.toList == s.toList)=c)
 (hK:wpList Tryz.prog ops Q rest (a.put o.dst (.bool c)) w):wpList Tryz.prog ops Q (o :: rest) a w:=by
 obtain ⟨D,h1,h2,h3⟩:=h
 exact I3 w hg m x _ hop 9 4 (Maps.string_keyed Tryz.underlying9) Tryz.underlying122 Tryz.underlying4 (Tryz.zeroValue4 w) b _ D hm h1 _ _ hx (YD Tryz.underlying9 hs) c (by rw [h3,hc]) hK
theorem Lg (w:World) {ops:Array Oper} {rest:List Oper} {o:Oper} {a:Act} {Q:Exit→Act→World→Prop} (b:Nat) (l:List ByteArray) (s:ByteArray)
 (hg:o.guard=none) (m x v:Operand) (hop:o.op=Op.mapUpdate 122 m x v) (hm:a.eval m=.map (some b)) (hx:a.eval x=.string s) (hv:a.eval v=.bool true) (h:C7 w b l) (hl:l.length≤1000000) (hs:s.size≤maxLen)
 (hK:∀ w',C7 w' b (l ++ [s])→Fx (·=b) w w'→wpList Tryz.prog ops Q rest (a.put o.dst undef) w'):wpList Tryz.prog ops Q (o :: rest) a w:=by
 obtain ⟨D,h1,h2,h3⟩:=h
 refine wpList_mapUpdate_own w hg m x v _ hop 9 4 (Maps.string_keyed Tryz.underlying9) Tryz.underlying122 _ b _ D hm h1 (by unfold maxLen; omega) _ _ _ hx hv (YD Tryz.underlying9 hs) _ [] (plainElem_bool Tryz.underlying4 true) ?_
 intro w' hown hg
 refine hK w' ⟨_,by rw [Ar]; exact hown,h2.put _ _,fun t=>?_⟩ ((Fx.of_grown hg).mono (fun k e=>by injection e with e; exact e.symm))
 rw [List.any_append]
 by_cases e:t.data.toList=s.data.toList
 ·rw [e,Maps.atKey_put_same (k:=.string s.data.toList) h2 trivial]
  have:(s.toList == t.toList)=true:=by rw [CD,CD,e,FH]
  simp [this]
 ·rw [Maps.atKey_put_other (fun h=>e (by injection h with h)),h3]
  have:(s.toList == t.toList)=false:=by
   rw [IL]
   intro h
   rw [CD,CD] at h
   exact e h.symm
  simp [this]
attribute [local go_sem ↓] AA AB
theorem PJ (m:List (List Int)) (a:Option Addr) (cap n:Nat) (w:World) (hm:BT w a m) (hr:Ce n m) (hl:m.length≤1000000) (he:∀ r,r ∈ m→Cx r=0) (hn:n≤1000000) :
 Calls Tryz.prog 169 #[.slice a m.length cap,.int .i64 n] w fun e w'=>e=.returned (.int .i64 0)∧Fr w w':=by
 replace hm:=hZ hm
 replace hr:=hZ hr
 replace he:=hZ he
 go_enter Tryz.func169,Tryz.ntmps169
 go_wp2_with fail
 go_loopg [10] m.length (fun k s10 wr=>∃ j:Nat,s10=.int .i64 j∧j+k=m.length∧Fr w wr)
 case atStart=>exact ⟨0,rfl,by omega,Fr.refl _⟩
 case round=>
  obtain ⟨j,rfl,hjk,hf⟩:=hrel
  by_cases hlt:j < m.length
  ·obtain ⟨b,o,a',c',rfl,hc,hel⟩:=(hm.out.fr hf).at hlt
   have hck:=Df m[j] a' c' wr hel (by rw [hr.out.row hlt]; omega)
   rw [he.out _ (A8 hlt)] at hck
   rw [hr.out.row hlt] at hc hck
   clear hel
   have z0:(0:Int)≤(j:Int):=Af _
   have z1:(j:Int) < (m.length:Int):=by omega
   go_wp2_with fail
   refine hck.mono ?_
   clear hck
   rintro e w2 ⟨rfl,hf2⟩
   go_wp2_with fail
   go_roundg (gk - 1)
   case measure=>omega
   case rel=>exact ⟨j+1,by go_num,by omega,hf.trans hf2⟩
  ·have hd:decide (j < m.length)=false:=Aa hlt
   go_wp2_with fail
   go_ret
   exact ⟨rfl,hf⟩
theorem O1 (m:List (List Int)) (a:Option Addr) (cap n:Nat) (w:World) (hm:BT w a m) (hr:Ce n m) (hl:m.length≤12) (he:∀ r,r ∈ m→Cx r=0) (hn:n≤12) :
 Calls Tryz.prog 101 #[.int .i64 n,.slice a m.length cap] w fun e w'=>e=.returned (.int .i64 0)∧Fr w w':=by
 have hc:=PJ m a cap n w hm hr (by omega) he (by omega)
 clear hm he
 have d1:decide ((n:Int) < 0)=false:=Aa (by omega)
 go_enter Tryz.func101,Tryz.ntmps101
 go_wp2_with fail
 refine hc.mono ?_
 clear hc
 rintro e w2 ⟨rfl,hf2⟩
 go_wp2_with fail
 go_ret
 exact ⟨rfl,hf2⟩
def XQ (w:World) (xs:List Int) (e:Ending) (w':World):Prop:=∃ g c,e=.returned (.slice (some ⟨g,0,none⟩) xs.length c)∧Fr w w'∧w'.ownsRow w.heap.size 42 1 (.slice (some ⟨g,0,none⟩) xs.length c) xs.length (xs.map sv)
theorem Qj (xs:List Int) (a:Option Addr) (cap:Nat) (w:World) (hG:G w) (hx:El w iv a xs) (hl:xs.length≤1000000) (hb:∀ x,x ∈ xs→Sm x) :
 Calls Tryz.prog 170 #[.slice a xs.length cap] w (XQ w xs):=by
 obtain ⟨i0,hi,hz0,hz1,hz2⟩:=AQ Je
 obtain ⟨n,hn⟩:∃ n,n=xs.length:=⟨_,rfl⟩
 rw [← hn] at hl
 replace hn:=hZ hn
 replace hx:=hZ hx
 replace hb:=hZ hb
 replace hG:=hZ hG
 go_enter Tryz.func170,Tryz.ntmps170
 rw [← hn.out]
 go_wp2_with (at_make; refine Is _ rfl _ _ 241 rfl w.heap.size 42 i0 _ 1 Tryz.underlying241 hi hz0 hz1 _ _ _ n (by rfl) (by rfl) (by omega) (by rw [hz2]; omega) (by unfold maxLen; omega) (Ag _) ?_; intro w2 hown2 hgr2)
 have hf2:Fr w w2:=(Fr.refl w).grown hgr2 (fun k e=>by cases e)
 replace hown2:=hZ hown2
 clear hgr2
 go_loopg [3,11] n (fun k s3 s11 wr=>∃ t:Nat,s11=.int .i64 t∧t+k=n∧Fr w wr∧wr.ownsRow w.heap.size 42 1 s3 t ((xs.take t).map sv)∧s3≠.slice none 0 0)
 case atStart=>exact ⟨0,rfl,by omega,hf2,by simpa using hown2.out,by simp⟩
 case round=>
  obtain ⟨t,rfl,htk,hf,hown,hnn⟩:=hrel
  by_cases ht:t < n
  ·obtain ⟨b2,o2,x,rfl,hbl2,hxt,hcell2⟩:=(hx.out.fr hf).at (i:=t) (by rw [← hn.out]; exact ht)
   have hGr:=hG.out.fr hf
   have hsx:=hb.out x (Ae hxt)
   unfold Sm at hsx
   have hsn2:=hZ (Bx hxt)
   replace hxt:=hZ hxt
   go_wp2_with fail
   refine (Du _ (by omega) (by omega) _ hGr).mono ?_
   rintro e w3 ⟨rfl,hf3⟩
   go_wp2_with (at_builtin; refine At _ rfl _ _ 241 (by rfl) _ 42 _ _ 1 16 Tryz.underlying241 hi hz0 hz1 hz2 rfl (by decide) _ t _ (by rfl) (Au (Ba hown hf3) _) ⟨w3.heap.size,0,none⟩ 1 1 [sv x] (by rfl) rfl (AF _ _ _ _ (by simp)) (by simp [Value.oneCell']) (by decide) (by unfold maxLen; omega) (by omega) (by have:=(hf.trans hf3).size; simp; omega) (w3.heap.size+1) (by simp) ?_; intro gA capA wA hownA hgrowA hatA hltA)
   go_wp2_with fail
   go_roundg (gk - 1)
   case measure=>omega
   case rel=>exact ⟨t+1,by go_num,by omega,((hf.trans hf3).alloc _).grown hgrowA (fun k e=>(hown.lt k e).1),by rw [hsn2.out,Aw]; exact hownA,by simp⟩
  ·have hd:decide (t < n)=false:=Aa ht
   obtain rfl:t=n:=by omega
   obtain ⟨gb7,cp7,rfl⟩:=Jd hown hnn
   rw [Ak (by rw [← hn.out]; omega)] at hown
   clear hnn
   go_wp2_with fail
   go_ret
   exact ⟨gb7,cp7,by rw [← hn.out]; rfl,hf,by rw [← hn.out]; exact hown⟩
theorem Uh:(Tryz.prog.info? 241).map (fun i=>(i.zero,i.size,i.bytes))=some (some (.slice none 0 0),1,24):=by kernel_rfl
theorem OY (m:List (List Int)) (a:Option Addr) (cap:Nat) (w:World) (hG:G w) (hm:BT w a m) (hr:∀ r,r ∈ m→r.length≤1000000) (hl:m.length≤1000000) (hb:∀ r,r ∈ m→∀ x,x ∈ r→Sm x) :
 Calls Tryz.prog 102 #[.slice a m.length cap] w (WA w 241 m):=by
 have hgn:=CS hG
 obtain ⟨i1,ji,jz0,jz1,jz2⟩:=AQ Uh
 replace hm:=hZ hm
 replace hr:=hZ hr
 replace hb:=hZ hb
 replace hG:=hZ hG
 go_enter Tryz.func102,Tryz.ntmps102
 go_wp2_with fail
 go_loopg [3,8] m.length (fun k s3 s8 wr=>∃ (j:Nat) (hs:List (Nat×Nat×Nat)),s8=.int .i64 j∧j+k=m.length∧Fr w wr∧GG wr w.heap.size 241 s3 hs (m.take j)∧Hid (∀ h,h ∈ hs→w.heap.size≤h.1))
 case atStart=>exact ⟨0,[],rfl,by omega,Fr.refl _,GG.nil _ _ _ hgn,fun h hm=>by simp at hm⟩
 case round=>
  obtain ⟨j,hs,rfl,hjk,hf,hgg,hnew⟩:=hrel
  by_cases hlt:j < m.length
  ·obtain ⟨b,o,a',c',rfl,hc,hel⟩:=(hm.out.fr hf).at hlt
   have hsn:=Bx (Ab hlt)
   have hrj:=hr.out _ (A8 hlt)
   have hlong:=Qj m[j] a' c' wr (hG.out.fr hf) hel hrj (hb.out _ (A8 hlt))
   have hgl:(m.take j).length=j:=by rw [AG]; omega
   generalize m[j]=row at *
   obtain ⟨n,hn⟩:∃ n,n=row.length:=⟨_,rfl⟩
   rw [← hn] at hc hlong
   replace hn:=hZ hn
   replace hsn:=hZ hsn
   replace hgl:=hZ hgl
   replace hgg:=hZ hgg
   clear hel
   go_wp2_with fail
   refine hlong.mono ?_
   clear hlong
   rintro e w2 ⟨g,c,rfl,hf2,hown2⟩
   obtain ⟨hO,-,-,hgb,hcp⟩:=DA (AE hgn hf.size) hown2
   have hgg2:=hgg.out.fr hf2
   have hne:u3.ownBlock≠some g:=fun e=>by have h9:=(hgg.out.own.lt g e).2; omega
   have hne2:∀ h',h' ∈ hs→h'.1≠g:=fun h' hm e2=>by have h9:=hgg.out.lt h' hm; omega
   have hown3:=hgg2.own
   rw [hgl.out] at hown3
   rw [← hn.out]
   replace hgg2:=hZ hgg2
   replace hown2:=hZ hown2
   go_wp2_with (at_builtin; refine At _ rfl _ _ 168 (by rfl) _ 241 _ _ 1 24 Tryz.underlying168 ji jz0 jz1 jz2 rfl (by decide) _ j _ (by rfl) (Au hown3 _) ⟨w2.heap.size,0,none⟩ 1 1 [.slice (some ⟨g,0,none⟩) n c] (by rfl) rfl (AF _ _ _ _ (by simp)) (by simp [Value.oneCell']) (by decide) (by unfold maxLen; omega) (by omega) (by have:=(hf.trans hf2).size; simp; omega) (w2.heap.size+1) (by simp) ?_; intro gA capA wA hownA hgrowA hatA hltA)
   have hpush:=(hgg2.out.fr ((Fr.refl _).alloc _)).pushN (hd:=(g,0,c)) (hO.fr ((Fr.refl _).alloc _)) hne2 hne hgl.out (by unfold Nn; rw [← hn.out]) hownA hgrowA (hatA.imp id (fun e=>by rw [e]; simp))
   rw [← hsn.out] at hpush
   have hfrA:Fr w wA:=(((hf.trans hf2).alloc _)).grown hgrowA (fun k e=>(hgg2.out.own.lt k e).1)
   go_roundg (gk - 1)
   case measure=>omega
   case rel=>exact ⟨j+1,_,by go_num,by omega,hfrA,hpush,fun h hm=>by rcases A5.1 hm with h1 | h1; exact hnew.out h h1; (simp at h1; subst h1; exact AE hf.size hgb)⟩
  ·have hd:decide (j < m.length)=false:=Aa hlt
   have hjm:m.take j=m:=Ak (by omega)
   rw [hjm] at hgg
   replace hjm:=hZ hjm
   go_wp2_with fail
   go_ret
   exact ⟨_,hs,rfl,hgg,hnew,hf⟩
def Wp (w:World) (xs:List Int) (e:Ending) (w':World):Prop:=∃ g c,e=.returned (.tuple #[.slice (some ⟨g,0,none⟩) xs.length c,.int .i64 0])∧Fr w w'∧w'.ownsRow w.heap.size 3 1 (.slice (some ⟨g,0,none⟩) xs.length c) xs.length (xs.map iv)
structure UR (w:World) (B n:Nat) (v:Value):Prop where
 a0:∃ x,w.cell? ⟨B,0,none⟩=some x
 a1:∃ x,w.cell? ⟨B,1,none⟩=some x
 fa0:w.frozen? ⟨B,0,none⟩=false
 fa1:w.frozen? ⟨B,1,none⟩=false
 b0:w.cell? ⟨B+1,0,none⟩=some (.int .i64 n)
 b1:w.cell? ⟨B+1,1,none⟩=some v
 fb0:w.frozen? ⟨B+1,0,none⟩=false
 fb1:w.frozen? ⟨B+1,1,none⟩=false
theorem UR.fx {w w':World} {B n:Nat} {v:Value} {p:Nat→Prop} (h:UR w B n v) (k:Fx p w w') (h0:¬ p B) (h1:¬ p (B+1)):UR w' B n v:=by
 obtain ⟨⟨x,hx⟩,⟨y,hy⟩,fa0,fa1,b0,b1,fb0,fb1⟩:=h
 exact ⟨⟨x,k.keep hx h0⟩,⟨y,k.keep hy h0⟩,k.keepf hx fa0 h0,k.keepf hy fa1 h0,k.keep b0 h1,k.keep b1 h1,k.keepf b0 fb0 h1,k.keepf b1 fb1 h1⟩
theorem UR.set {w:World} {B n:Nat} {v:Value} (h:UR w B n v) (u:Value):UR (w.setCell ⟨B+1,1,none⟩ u) B n u:=by
 obtain ⟨⟨x,hx⟩,⟨y,hy⟩,fa0,fa1,b0,b1,fb0,fb1⟩:=h
 have e1:(⟨B+1,1,none⟩:Addr)≠⟨B,0,none⟩:=fun e=>by injection e with e; omega
 have e2:(⟨B+1,1,none⟩:Addr)≠⟨B,1,none⟩:=fun e=>by injection e with e; omega
 have e3:(⟨B+1,1,none⟩:Addr)≠⟨B+1,0,none⟩:=fun e=>by injection e with _ e; omega
 refine ⟨⟨x, ?_⟩,⟨y, ?_⟩, ?_, ?_, ?_, ?_, ?_, ?_⟩
 ·rw [Ad _ _ _ _ e1]; exact hx
 ·rw [Ad _ _ _ _ e2]; exact hy
 ·rw [Ap]; exact fa0
 ·rw [Ap]; exact fa1
 ·rw [Ad _ _ _ _ e3]; exact b0
 ·exact Aq _ _ _ (by rw [b1]; rfl)
 ·rw [Ap]; exact fb0
 ·rw [Ap]; exact fb1
def G8 (w:World):List Obj→World
 | []=>w
 | o :: l=>G8 (w.alloc o) l
theorem Pt:∀ (l:List Obj) (w:World) (k:Nat),k < w.heap.size→(G8 w l).heap[k]?=w.heap[k]?
 | [],w,k,_=>rfl
 | o :: l,w,k,h=>by rw [G8,Pt l _ k (by simp; omega)]; exact Below.heap_alloc _ _ _ h
theorem C6:∀ (l:List Obj) (w:World) (i:Nat) (o:Obj),l[i]?=some o→(G8 w l).heap[w.heap.size+i]?=some o
 | [],w,i,o,h=>by simp at h
 | x :: l,w,0,o,h=>by
   simp at h; subst h
   rw [G8,C9,Pt l _ _ (by simp)]
   exact CG w _
 | x :: l,w,i+1,o,h=>by
   have:=C6 l (w.alloc x) i o (by simpa using h)
   rw [AK] at this
   rw [G8,show w.heap.size+(i+1)=w.heap.size+1+i by omega]
   exact this
theorem IJ:∀ (l:List Obj) (w:World),Fr w (G8 w l)
 | [],w=>Fr.refl w
 | o :: l,w=>((Fr.refl w).alloc o).trans (IJ l (w.alloc o))
theorem Bt {W:World} {b:Nat} {cs:Array Value} {t:TypeId} (h:W.heap[b]?=some (.cells cs t (0,0))) (i:Nat):W.cell? ⟨b,i,none⟩=cs[i]?:=by
 unfold World.cell?; rw [h]; rfl
theorem Qi {W:World} {b:Nat} {o:Obj} (h:W.heap[b]?=some o):b < W.heap.size:=(Fn.1 h).1
def digs (n:Nat):List Int:=if h:n=0 then [] else ((n % 1000000000:Nat):Int) :: digs (n / 1000000000)
termination_by n
decreasing_by omega
def Dg (l:List Int):Prop:=∀ d,d ∈ l→0≤d∧d < 1000000000
def val:List Int→Int
 | []=>0
 | d :: l=>d+1000000000 * val l
theorem Bq:digs 0=[]:=by rw [digs]; rfl
theorem B6 {n:Nat} (h:0 < n):digs n=((n % 1000000000:Nat):Int) :: digs (n / 1000000000):=by rw [digs,Y2 (by omega)]
theorem Pa {n:Nat} (h:0 < n) (h2:n < 1000000000):digs n=[(n:Int)]:=by
 rw [B6 h,CN h2,HJ h2,Bq]
theorem DL {n:Nat}:digs n=[] ↔ n=0:=by
 constructor
 ·intro h
  by_cases h0:n=0
  ·exact h0
  ·rw [B6 (by omega)] at h; exact absurd h (by simp)
 ·rintro rfl; exact Bq
theorem BE:∀ n,Dg (digs n):=fun n=>by
 induction n using Nat.strongRecOn with
 | _ n ih=>
   by_cases h:n=0
   ·subst h; rw [Bq]; intro d hd; simp at hd
   ·rw [B6 (by omega)]
    intro d hd
    rcases A1.1 hd with rfl | hd
    ·omega
    ·exact ih _ (by omega) d hd
theorem BZ:∀ n:Nat,val (digs n)=n:=fun n=>by
 induction n using Nat.strongRecOn with
 | _ n ih=>
   by_cases h:n=0
   ·subst h; rw [Bq]; rfl
   ·rw [B6 (by omega)]
    show ((n % 1000000000:Nat):Int)+1000000000 * val (digs (n / 1000000000))=n
    rw [ih _ (by omega)]
    omega
theorem Pb {n m:Nat} (h:digs n=digs m):n=m:=by
 have:=BZ n; rw [h,BZ] at this; omega
theorem Ev:∀ (k n:Nat),n < 1000000000 ^ k→(digs n).length≤k
 | 0,n,h=>by have:n=0:=by simpa using h
             subst this; rw [Bq]; simp
 | k+1,n,h=>by
   by_cases h0:n=0
   ·subst h0; rw [Bq]; simp
   ·rw [B6 (by omega)]
    have:=Ev k (n / 1000000000) (by rw [B0 (by decide)]; rw [Bj] at h; exact h)
    simp; omega
theorem Dg.cons {d:Int} {l:List Int} (h:Dg (d :: l)):(0≤d∧d < 1000000000)∧Dg l:=⟨h d (by simp),fun x hx=>h x (by simp [hx])⟩
theorem Dg.mk {d:Int} {l:List Int} (h:0≤d∧d < 1000000000) (k:Dg l):Dg (d :: l):=fun x hx=>by
 rcases A1.1 hx with rfl | hx
 ·exact h
 ·exact k x hx
theorem I4:∀ {l:List Int},Dg l→0≤val l
 | [],_=>by show (0:Int)≤0; omega
 | d :: l,h=>by
   have h1:=h.cons
   have:=I4 h1.2
   show 0≤d+1000000000 * val l
   omega
def Bu:List Int→List Int
 | []=>[]
 | d :: l=>if Bu l=[]∧d=0 then [] else d :: Bu l
theorem Nt (x:Nat):(if digs (x / 1000000000)=[]∧((x % 1000000000:Nat):Int)=0 then [] else ((x % 1000000000:Nat):Int) :: digs (x / 1000000000))=digs x:=by
 by_cases h:x=0
 ·subst h; rw [Aj ⟨by show digs 0=[]; exact Bq,by simp⟩,Bq]
 ·rw [B6 (n:=x) (by omega),Ai]
  rintro ⟨h1,h2⟩
  rw [DL] at h1
  omega
theorem DC:∀ {l:List Int},Dg l→Bu l=digs (val l).toNat
 | [],_=>by show []=digs 0; rw [Bq]
 | d :: l,h=>by
   have h1:=h.cons
   have h2:=I4 h1.2
   show (if Bu l=[]∧d=0 then [] else d :: Bu l)=digs (d+1000000000 * val l).toNat
   rw [DC h1.2,← Nt (d+1000000000 * val l).toNat,show (d+1000000000 * val l).toNat / 1000000000=(val l).toNat by omega,show (((d+1000000000 * val l).toNat % 1000000000:Nat):Int)=d by omega]
theorem EY (n:Nat):Bu (digs n)=digs n:=by rw [DC (BE n),BZ]; rfl
theorem Ll:∀ l:List Int,Bu (l ++ [0])=Bu l
 | []=>rfl
 | d :: l=>by
   show (if Bu (l ++ [0])=[]∧d=0 then [] else d :: Bu (l ++ [0]))=_
   rw [Ll l]; rfl
theorem Lm {d:Int} (hd:d≠0):∀ l:List Int,Bu (l ++ [d])=l ++ [d]
 | []=>by show (if Bu []=[]∧d=0 then [] else d :: Bu [])=_; rw [Ai (fun h=>hd h.2)]; rfl
 | x :: l=>by
   show (if Bu (l ++ [d])=[]∧x=0 then [] else x :: Bu (l ++ [d]))=_
   rw [Lm hd l,Ai (fun h=>by simp at h)]; rfl
def C5:List Int→List Int→Int→List Int
 | a :: az,b :: bs,c=>((c+a+b) % 1000000000) :: C5 az bs ((c+a+b) / 1000000000)
 | a :: az,[],c=>((c+a) % 1000000000) :: C5 az [] ((c+a) / 1000000000)
 | [],b :: bs,c=>((c+b) % 1000000000) :: C5 [] bs ((c+b) / 1000000000)
 | [],[],c=>if 0 < c then [c] else []
theorem OM (a b c:Int) (az bs:List Int):C5 (a :: az) (b :: bs) c=((c+a+b) % 1000000000) :: C5 az bs ((c+a+b) / 1000000000):=by rw [C5]
theorem OL (a c:Int) (az:List Int):C5 (a :: az) [] c=((c+a) % 1000000000) :: C5 az [] ((c+a) / 1000000000):=by rw [C5]
theorem OK (b c:Int) (bs:List Int):C5 [] (b :: bs) c=((c+b) % 1000000000) :: C5 [] bs ((c+b) / 1000000000):=by rw [C5]
theorem H8 (c:Int):C5 [] [] c=if 0 < c then [c] else []:=by rw [C5]
theorem Qa:∀ (s n m:Nat) (c:Nat),n+m≤s→c≤1→C5 (digs n) (digs m) c=digs (n+m+c):=fun s=>by
 induction s using Nat.strongRecOn with
 | _ s ih=>
   intro n m c hs hc
   by_cases hn:n=0
   ·subst hn
    by_cases hm:m=0
    ·subst hm
     rw [Bq]
     rcases (show c=0∨c=1 by omega) with rfl | rfl
     ·rw [show (0+0+0:Nat)=0 from rfl,Bq,H8]; rfl
     ·rw [show (0+0+1:Nat)=1 from rfl,Pa (by decide) (by decide),H8]; rfl
    ·rw [Bq,B6 (n:=m) (by omega),B6 (n:=0+m+c) (by omega)]
     rw [OK]
     have e:=ih (m / 1000000000) (by omega) 0 (m / 1000000000) ((c+m % 1000000000) / 1000000000) (by omega) (by omega)
     rw [Bq] at e
     rw [show ((c:Int)+((m % 1000000000:Nat):Int)) / 1000000000=(((c+m % 1000000000) / 1000000000:Nat):Int) by omega,e]
     congr 1
     ·omega
     ·congr 1; omega
   ·by_cases hm:m=0
    ·subst hm
     rw [Bq,B6 (n:=n) (by omega),B6 (n:=n+0+c) (by omega)]
     rw [OL]
     have e:=ih (n / 1000000000) (by omega) (n / 1000000000) 0 ((c+n % 1000000000) / 1000000000) (by omega) (by omega)
     rw [Bq] at e
     rw [show ((c:Int)+((n % 1000000000:Nat):Int)) / 1000000000=(((c+n % 1000000000) / 1000000000:Nat):Int) by omega,e]
     congr 1
     ·omega
     ·congr 1; omega
    ·rw [B6 (n:=n) (by omega),B6 (n:=m) (by omega),B6 (n:=n+m+c) (by omega)]
     rw [OM]
     have e:=ih (n / 1000000000+m / 1000000000) (by omega) (n / 1000000000) (m / 1000000000) ((c+n % 1000000000+m % 1000000000) / 1000000000) (by omega) (by omega)
     rw [show ((c:Int)+((n % 1000000000:Nat):Int)+((m % 1000000000:Nat):Int)) / 1000000000=(((c+n % 1000000000+m % 1000000000) / 1000000000:Nat):Int) by omega,e]
     congr 1
     ·omega
     ·congr 1; omega
def HM (d:Int):Int:=if d < 0 then d+1000000000 else d
def FO (d:Int):Int:=if d < 0 then 1 else 0
def CU:List Int→List Int→Int→List Int
 | a :: az,b :: bs,w=>HM (a - w - b) :: CU az bs (FO (a - w - b))
 | a :: az,[],w=>HM (a - w) :: CU az [] (FO (a - w))
 | [],_,_=>[]
theorem Nj (a b w:Int) (az bs:List Int):CU (a :: az) (b :: bs) w=HM (a - w - b) :: CU az bs (FO (a - w - b)):=by rw [CU]
theorem Ni (a w:Int) (az:List Int):CU (a :: az) [] w=HM (a - w) :: CU az [] (FO (a - w)):=by rw [CU]
theorem OU (b:List Int) (w:Int):CU [] b w=[]:=by rw [CU]
theorem Ib:∀ (n m w:Nat),m+w≤n→w≤1→Bu (CU (digs n) (digs m) w)=digs (n - m - w):=fun n=>by
 induction n using Nat.strongRecOn with
 | _ n ih=>
   intro m w hs hw
   by_cases hn:n=0
   ·subst hn
    obtain rfl:m=0:=by omega
    obtain rfl:w=0:=by omega
    rw [Bq,OU]; rfl
   ·have key:∀ (d:Int) (r:List Int) (v:Nat),d=(n:Int) % 1000000000 - w - (m:Int) % 1000000000→FO d=v→Bu r=digs (n / 1000000000 - m / 1000000000 - v)→Bu (HM d :: r)=digs (n - m - w):=fun d r v hd hv hr=>by
     show (if Bu r=[]∧HM d=0 then [] else HM d :: Bu r)=_
     rw [hr,← Nt (n - m - w)]
     unfold FO at hv
     unfold HM
     by_cases h0:d < 0
     ·rw [Aj h0] at hv ⊢
      rw [show (n - m - w) / 1000000000=n / 1000000000 - m / 1000000000 - v by omega,show (((n - m - w) % 1000000000:Nat):Int)=d+1000000000 by omega]
     ·rw [Ai h0] at hv ⊢
      rw [show (n - m - w) / 1000000000=n / 1000000000 - m / 1000000000 - v by omega,show (((n - m - w) % 1000000000:Nat):Int)=d by omega]
    by_cases hm:m=0
    ·subst hm
     rw [Bq,B6 (n:=n) (by omega)]
     rw [Ni]
     obtain ⟨v,hv⟩:∃ v:Nat,FO (((n % 1000000000:Nat):Int) - w)=v:=⟨(FO (((n % 1000000000:Nat):Int) - w)).toNat,by unfold FO; split <;> rfl⟩
     have hv2:=hv
     unfold FO at hv2
     rw [hv]
     refine key _ _ v (by omega) hv ?_
     have e:=ih (n / 1000000000) (by omega) 0 v (by split at hv2 <;> omega) (by split at hv2 <;> omega)
     rw [Bq] at e
     rw [e]
    ·rw [B6 (n:=n) (by omega),B6 (n:=m) (by omega)]
     rw [Nj]
     obtain ⟨v,hv⟩:∃ v:Nat,FO (((n % 1000000000:Nat):Int) - w - ((m % 1000000000:Nat):Int))=v:=⟨(FO (((n % 1000000000:Nat):Int) - w - ((m % 1000000000:Nat):Int))).toNat,by unfold FO; split <;> rfl⟩
     have hv2:=hv
     unfold FO at hv2
     rw [hv]
     refine key _ _ v (by omega) hv ?_
     exact ih (n / 1000000000) (by omega) (m / 1000000000) v (by split at hv2 <;> omega) (by split at hv2 <;> omega)
theorem G0:∀ (n m:Nat),(digs n).length < (digs m).length→n < m:=fun n=>by
 induction n using Nat.strongRecOn with
 | _ n ih=>
   intro m h
   by_cases hm:m=0
   ·subst hm; rw [Bq] at h; simp at h
   ·by_cases hn:n=0
    ·omega
    ·rw [B6 (n:=n) (by omega),B6 (n:=m) (by omega)] at h
     have:=ih (n / 1000000000) (by omega) (m / 1000000000) (by simpa using h)
     omega
theorem HU:∀ (i:Nat) (a b:List Int),Dg a→Dg b→a.length=b.length→(∀ x y,a[i]?=some x→b[i]?=some y→x < y)→i < a.length→a.drop (i+1)=b.drop (i+1)→val a < val b
 | 0,x :: a,y :: b,ha,hb,_,h,_,hd=>by
   have h1:=h x y rfl rfl
   have h2:a=b:=by simpa using hd
   subst h2
   show x+_ < y+_
   omega
 | i+1,x :: a,y :: b,ha,hb,hl,h,hi,hd=>by
   have:=HU i a b ha.cons.2 hb.cons.2 (by simpa using hl) (fun u v hu hv=>h u v (by simpa using hu) (by simpa using hv)) (by simpa using hi) (by simpa using hd)
   have h1:=ha.cons.1
   have h2:=hb.cons.1
   show x+1000000000 * val a < y+1000000000 * val b
   omega
 | _,[],_,_,_,_,_,hi,_=>by simp at hi
 | _,_ :: _,[],_,_,hl,_,_,_=>by simp at hl
def EA (n m:Nat):Int:=if n < m then -1 else if m < n then 1 else 0
theorem A7 (wr:World) (r:Nat) (u v u0 v0:Value) (h0:wr.cell? ⟨r,0,none⟩=some u0) (h1:wr.cell? ⟨r,1,none⟩=some v0) :
 ((wr.setCell ⟨r,0,none⟩ u).setCell ⟨r,1,none⟩ v).cell? ⟨r,0,none⟩=some u∧((wr.setCell ⟨r,0,none⟩ u).setCell ⟨r,1,none⟩ v).cell? ⟨r,1,none⟩=some v ∧
   (wr.setCell ⟨r,0,none⟩ u).cell? ⟨r,1,none⟩=some v0∧Fx (·=r) wr ((wr.setCell ⟨r,0,none⟩ u).setCell ⟨r,1,none⟩ v):=by
 have e1:(⟨r,0,none⟩:Addr)≠⟨r,1,none⟩:=fun e=>by injection e with _ e; omega
 refine ⟨?_, ?_, ?_,Fx.setCell (p:=(·=r)) (q:=⟨r,1,none⟩) (Fx.setCell (p:=(·=r)) (q:=⟨r,0,none⟩) (Fx.refl _ _) (.inl rfl) u) (.inl rfl) v⟩
 ·rw [Ad _ _ _ _ (fun e=>e1 e.symm)]; exact Aq _ _ _ (by rw [h0]; rfl)
 ·exact Aq _ _ _ (by rw [Ad _ _ _ _ e1,h1]; rfl)
 ·rw [Ad _ _ _ _ e1]; exact h1
theorem El.take {w:World} {a:Option Addr} {xs:List Int} (h:El w iv a xs) (k:Nat):El w iv a (xs.take k):=by
 rcases h with h | ⟨b,o,ha,hb,hc⟩
 ·exact .inl (by rw [h]; simp)
 ·refine .inr ⟨b,o,ha,hb,fun i x hx=>hc i x ?_⟩
  rw [BN] at hx
  split at hx
  ·exact hx
  ·cases hx
theorem I6 {l:List Int} {k:Nat} {d:Int} (h:l[k]?=some d) (hd:d=0):Bu (l.take (k+1))=Bu (l.take k):=by
 rw [Bx h,hd]; exact Ll _
theorem I7 {l:List Int} {k:Nat} {d:Int} (h:l[k]?=some d) (hd:d≠0):Bu (l.take (k+1))=l.take (k+1):=by
 rw [Bx h]; exact Lm hd _
theorem Ts (w5:World) (p q:Nat) (x y u v:Value) (h:w5.cell? ⟨p,0,none⟩=some x∧w5.cell? ⟨p,1,none⟩=some y) (hpq:p≠q) :
 ((w5.setCell ⟨q,0,none⟩ u).setCell ⟨q,1,none⟩ v).cell? ⟨p,0,none⟩=some x∧((w5.setCell ⟨q,0,none⟩ u).setCell ⟨q,1,none⟩ v).cell? ⟨p,1,none⟩=some y:=by
 have e:∀ (i j:Nat),(⟨q,i,none⟩:Addr)≠⟨p,j,none⟩:=fun i j e=>hpq (by injection e with e; exact e.symm)
 exact ⟨by rw [Ad _ _ _ _ (e 1 0),Ad _ _ _ _ (e 0 0)]; exact h.1,by rw [Ad _ _ _ _ (e 1 1),Ad _ _ _ _ (e 0 1)]; exact h.2⟩
end Go.Proofs.YtcglmebcfeoedaaGreatDoor
