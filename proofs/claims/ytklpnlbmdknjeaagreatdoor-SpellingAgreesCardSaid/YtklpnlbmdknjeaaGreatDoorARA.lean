/- Contracts and laws: ARA. -/
import Derived.Test.YtklpnlbmdknjeaaGreatDoorAA
import Derived.Test.YtklpnlbmdknjeaaGreatDoorAC
import Derived.Test.YtklpnlbmdknjeaaGreatDoorAB
import Derived.Deep.RegionHeld3
import Derived.Deep.Cut
import Derived.IntWalk
import Derived.Test.YtklpnlbmdknjeaaGreatDoorAEl

namespace Go.Proofs.YtklpnlbmdknjeaaGreatDoor
open Go.RowKit Go.Lib
theorem ownsRow_own_ge {w:World} {base:Nat} {e:TypeId} {size:Nat} {v:Value} {n:Nat} {xs:List Value} (h:w.ownsRow base e size v n xs) (g:Nat) (hg:v.ownBlock=some g):base≤g:=by
 rcases h.2 with ⟨rfl,_⟩ | ⟨g',cap,cur,rfl,hb,_⟩
 ·simp [Value.ownBlock] at hg
 ·have:g'=g:=by simpa [Value.ownBlock] using hg
  omega
attribute [local go_sem ↓] Go.wp_at_zero Go.wp_at_succ
theorem drop_cons {l:List Int} {j:Nat} {x:Int} (h:l[j]?=some x):l.drop j=x :: l.drop (j+1):=by
 obtain ⟨h1,rfl⟩:=List.getElem?_eq_some_iff.1 h
 exact List.drop_eq_getElem_cons h1


def tb (l:List UInt8):ByteArray:=⟨l.toArray⟩
def padk:Nat→Nat→List UInt8
 | 0,_=>[]
 | k+1,m=>padk k (m / 10) ++ [UInt8.ofNat (48+m % 10)]
theorem padk_len:∀ (k m:Nat),(padk k m).length=k
 | 0,_=>rfl
 | k+1,m=>by show (padk k (m / 10) ++ [_]).length=k+1; rw [List.length_append,padk_len k]; rfl
theorem dec_big {n:Nat} (h:10≤n):decDigits n=decDigits (n / 10) ++ [UInt8.ofNat (48+n % 10)]:=by
 rw [decDigits,dif_neg (by omega)]
theorem dec_split:∀ (k a m:Nat),0 < a→m < 10 ^ k→decDigits (a * 10 ^ k+m)=decDigits a ++ padk k m
 | 0,a,m,ha,hm=>by
   have hm:m < 1:=hm
   obtain rfl:m=0:=by omega
   show decDigits (a * 1+0)=decDigits a ++ []
   rw [List.append_nil,Nat.add_zero,Nat.mul_one]
 | k+1,a,m,ha,hm=>by
   have e:a * 10 ^ (k+1)=a * 10 ^ k * 10:=by rw [Nat.pow_succ,Nat.mul_assoc]
   have hp:0 < a * 10 ^ k:=Nat.mul_pos ha (Nat.pow_pos (by decide))
   rw [Nat.pow_succ] at hm
   have ih:=dec_split k a (m / 10) ha (by omega)
   rw [e]
   generalize a * 10 ^ k=q at *
   rw [dec_big (n:=q * 10+m) (by omega),show (q * 10+m) / 10=q+m / 10 by omega,show (q * 10+m) % 10=m % 10 by omega,ih,List.append_assoc]
   rfl
theorem dec_len (k m:Nat) (hk:1≤k) (hm:m < 10 ^ k):(decDigits m).length≤k:=by
 rw [decDigits_length]; exact nDigits_le k m hk hm
theorem padk_dig:∀ (k m:Nat),∀ c ∈ padk k m,48≤c.toNat∧c.toNat≤57
 | 0,m=>fun c hc=>by cases hc
 | k+1,m=>fun c hc=>by
   rcases List.mem_append.1 (show c ∈ padk k (m / 10) ++ [_] from hc) with h | h
   ·exact padk_dig k _ c h
   ·simp only [List.mem_singleton] at h; subst h; rw [dig_toNat (m % 10) (by omega)]; omega
theorem padk_val:∀ (k m:Nat),m < 10 ^ k→digVal 0 (padk k m)=m
 | 0,m,h=>by have h:m < 1:=h; show 0=m; omega
 | k+1,m,h=>by
   rw [Nat.pow_succ] at h
   show digVal 0 (padk k (m / 10) ++ [_])=m
   rw [digVal_append,padk_val k (m / 10) (by omega)]
   show m / 10 * 10+((UInt8.ofNat (48+m % 10)).toNat - 48)=m
   rw [dig_toNat (m % 10) (by omega)]; omega
def chunks (m:Nat):List Int:=if m < 1000000000 then [(m:Int)] else ((m % 1000000000:Nat):Int) :: chunks (m / 1000000000)
termination_by m
decreasing_by omega
theorem chunks_small {m:Nat} (h:m < 1000000000):chunks m=[(m:Int)]:=by rw [chunks,if_pos h]
theorem chunks_big {m:Nat} (h:1000000000≤m):chunks m=((m % 1000000000:Nat):Int) :: chunks (m / 1000000000):=by rw [chunks,if_neg (by omega)]
theorem dec_nine {m:Nat} (h:1000000000≤m):decDigits m=decDigits (m / 1000000000) ++ padk 9 (m % 1000000000):=by
 have:=dec_split 9 (m / 1000000000) (m % 1000000000) (by omega) (by show _ < 1000000000; omega)
 rw [← this]
 congr 1
 show m=m / 1000000000 * 1000000000+m % 1000000000
 omega
def FromI (m r:Nat) (s:List UInt8):Prop:=(r=0∧s=decDigits m)∨(0 < r∧decDigits r ++ s=decDigits m)
theorem FromI.big {m r:Nat} {s:List UInt8} (h:FromI m r s) (hr:1000000000≤r):FromI m (r / 1000000000) (padk 9 (r % 1000000000) ++ s):=by
 rcases h with ⟨h,_⟩ | ⟨h,e⟩
 ·omega
 ·exact .inr ⟨by omega,by rw [← List.append_assoc,← dec_nine hr]; exact e⟩
theorem FromI.last {m r:Nat} {s:List UInt8} (h:FromI m r s) (hr:r < 1000000000) (h0:0 < r):FromI m (r / 1000000000) (decDigits r ++ s):=by
 rcases h with ⟨h,_⟩ | ⟨h,e⟩
 ·omega
 ·exact .inl ⟨by omega,e⟩
def WI (W:World) (z:Int) (v:Value):Prop:=∃ a c,v=.agg #[.bool (decide (z < 0)),.slice a (digs z.natAbs).length c]∧El W iv a (digs z.natAbs)∧(digs z.natAbs).length≤c
theorem WI.fr {W W':World} {z:Int} {v:Value} (h:WI W z v) (k:Fr W W'):WI W' z v:=by
 obtain ⟨a,c,e,h1,h2⟩:=h
 exact ⟨a,c,e,h1.fr k,h2⟩
theorem El.fxr {W W':World} {a:Option Addr} {l:List Int} {r:Nat} (h:El W iv a l) (k:Fx (·=r) W W') (hr:∀ ad,a=some ad→ad.block≠r):El W' iv a l:=by
 rcases h with h | ⟨b,o,ha,hb,hc⟩
 ·exact .inl h
 ·exact .inr ⟨b,o,ha,Nat.lt_of_lt_of_le hb k.size,fun i x hx=>k.keep (hc i x hx) (show b≠r from hr _ ha)⟩
theorem WI.stored {w wb w3:World} {z:Int} {a:Option Addr} {c r:Nat} {W4:World} (hfb:Fr w wb) (hz3:Fr wb w3) (hfx:Fx (·=r) w3 W4) (hr:w.heap.size≤r) (he:El w3 iv a (digs z.natAbs)) (hc:(digs z.natAbs).length≤c) (hb:∀ ad,a=some ad→ad.block≠r) :
 WI W4 z (.agg #[.bool (decide (z < 0)),.slice a (digs z.natAbs).length c])∧Fr w W4 :=
 ⟨⟨a,c,rfl,he.fxr hfx hb,hc⟩,((Fx.of_fr (p:=fun q=>w.heap.size≤q) (hfb.trans hz3)).trans (hfx.mono (fun q e=>by have e:q=r:=e; omega))).toFr (fun q hq e=>by have e:w.heap.size≤q:=e; omega)⟩
def rowL (d:Int):List Int→List Int→Int→List Int
 | [],_,_=>[]
 | o :: os,[],c=>if 0 < c then ((c+o) % 1000000000) :: rowL d os [] ((c+o) / 1000000000) else o :: os
 | o :: os,b :: bs,c=>((c+o+d * b) % 1000000000) :: rowL d os bs ((c+o+d * b) / 1000000000)
theorem rowL_cc (d o b c:Int) (os bs:List Int):rowL d (o :: os) (b :: bs) c=((c+o+d * b) % 1000000000) :: rowL d os bs ((c+o+d * b) / 1000000000):=by rw [rowL]
theorem rowL_cn (d o c:Int) (os:List Int):rowL d (o :: os) [] c=if 0 < c then ((c+o) % 1000000000) :: rowL d os [] ((c+o) / 1000000000) else o :: os:=by rw [rowL]
theorem rowL_n (d c:Int) (bs:List Int):rowL d [] bs c=[]:=by rw [rowL]
def pw:Nat→Int
 | 0=>1
 | n+1=>1000000000 * pw n
theorem pw_pos:∀ n,0 < pw n
 | 0=>by show (0:Int) < 1; omega
 | n+1=>by have:=pw_pos n; show 0 < 1000000000 * pw n; omega
theorem val_lt:∀ {l:List Int},Dg l→val l < pw l.length
 | [],_=>by show (0:Int) < 1; omega
 | d :: l,h=>by
   have h1:=h.cons.1
   have:=val_lt h.cons.2
   show d+1000000000 * val l < 1000000000 * pw l.length
   omega
theorem val_append:∀ (a b:List Int),val (a ++ b)=val a+pw a.length * val b
 | [],b=>by show val b=0+1 * val b; omega
 | d :: a,b=>by
   show d+1000000000 * val (a ++ b)=d+1000000000 * val a+1000000000 * pw a.length * val b
   rw [val_append a b,Int.mul_add,Int.mul_assoc]; omega
def FitW (d:Int) (os bs:List Int) (c:Int):Prop:=val os+d * val bs+c < pw os.length
theorem FitW.step {d o b c:Int} {os bs:List Int} (h:FitW d (o :: os) (b :: bs) c):FitW d os bs ((c+o+d * b) / 1000000000):=by
 unfold FitW at *
 have e:val (o :: os)+d * val (b :: bs)+c=(c+o+d * b)+1000000000 * (val os+d * val bs):=by
  show o+1000000000 * val os+d * (b+1000000000 * val bs)+c=_
  rw [Int.mul_add,Int.mul_left_comm d]; omega
 rw [e] at h
 have h:c+o+d * b+1000000000 * (val os+d * val bs) < 1000000000 * pw os.length:=h
 generalize val os+d * val bs=V at *
 generalize d * b=q at *
 omega
theorem FitW.step0 {d o c:Int} {os:List Int} (h:FitW d (o :: os) [] c):FitW d os [] ((c+o) / 1000000000):=by
 unfold FitW at *
 have h:o+1000000000 * val os+d * 0+c < 1000000000 * pw os.length:=h
 show val os+d * 0+_ < _
 rw [Int.mul_zero] at h ⊢
 omega
theorem FitW.ne {d c:Int} {bs:List Int} (h:FitW d [] bs c) (hd:0≤d) (hb:Dg bs) (hc:0≤c):c=0:=by
 unfold FitW at h
 have h:0+d * val bs+c < 1:=h
 have:=Int.mul_nonneg hd (val_nn hb)
 omega
theorem rowL_len (d:Int):∀ (os bs:List Int) (c:Int),(rowL d os bs c).length=os.length
 | [],bs,c=>by rw [rowL_n]
 | o :: os,[],c=>by
   rw [rowL_cn]
   split
   ·rw [List.length_cons,List.length_cons,rowL_len d os]
   ·rfl
 | o :: os,b :: bs,c=>by rw [rowL_cc,List.length_cons,List.length_cons,rowL_len d os]
theorem rowL_dg {d:Int} (hd:0≤d∧d < 1000000000):∀ (os bs:List Int) (c:Int),Dg os→Dg bs→0≤c→Dg (rowL d os bs c)
 | [],bs,c,_,_,_=>by rw [rowL_n]; intro x hx; simp at hx
 | o :: os,[],c,ho,hb,hc=>by
   rw [rowL_cn]
   have h1:=ho.cons
   split
   ·exact Dg.mk (by omega) (rowL_dg hd os [] _ h1.2 hb (by omega))
   ·exact ho
 | o :: os,b :: bs,c,ho,hb,hc=>by
   rw [rowL_cc]
   have h1:=ho.cons
   have h2:=hb.cons
   have h3:=Int.mul_nonneg hd.1 h2.1.1
   exact Dg.mk (by omega) (rowL_dg hd os bs _ h1.2 h2.2 (by omega))
theorem rowL_val {d:Int} (hd:0≤d):∀ (os bs:List Int) (c:Int),Dg os→Dg bs→0≤c→FitW d os bs c→val (rowL d os bs c)=val os+d * val bs+c
 | [],bs,c,_,hb,hc,h=>by
   rw [rowL_n]
   have h0:=h.ne hd hb hc
   unfold FitW at h
   have h:0+d * val bs+c < 1:=h
   have:=Int.mul_nonneg hd (val_nn hb)
   show (0:Int)=0+d * val bs+c
   omega
 | o :: os,[],c,ho,hb,hc,h=>by
   rw [rowL_cn]
   have h1:=ho.cons
   split
   ·have ih:=rowL_val hd os [] ((c+o) / 1000000000) h1.2 hb (by omega) h.step0
    show (c+o) % 1000000000+1000000000 * val (rowL d os [] ((c+o) / 1000000000))=o+1000000000 * val os+d * 0+c
    rw [ih]
    show (c+o) % 1000000000+1000000000 * (val os+d * 0+(c+o) / 1000000000)=_
    rw [Int.mul_zero]
    omega
   ·show o+1000000000 * val os=o+1000000000 * val os+d * 0+c
    rw [Int.mul_zero]; omega
 | o :: os,b :: bs,c,ho,hb,hc,h=>by
   rw [rowL_cc]
   have h1:=ho.cons
   have h2:=hb.cons
   have h3:=Int.mul_nonneg hd h2.1.1
   have ih:=rowL_val hd os bs ((c+o+d * b) / 1000000000) h1.2 h2.2 (by omega) h.step
   show (c+o+d * b) % 1000000000+1000000000 * val (rowL d os bs ((c+o+d * b) / 1000000000))=o+1000000000 * val os+d * (b+1000000000 * val bs)+c
   rw [ih,Int.mul_add d,Int.mul_left_comm d]
   generalize d * val bs=q
   generalize d * b=r
   omega
theorem pw_add:∀ (a b:Nat),pw (a+b)=pw a * pw b
 | 0,b=>by rw [Nat.zero_add]; show pw b=1 * pw b; omega
 | a+1,b=>by
   rw [Nat.add_right_comm]
   show 1000000000 * pw (a+b)=1000000000 * pw a * pw b
   rw [pw_add a b,Int.mul_assoc]
theorem pw_mono {a b:Nat} (h:a≤b):pw a≤pw b:=by
 obtain ⟨k,rfl⟩:∃ k,b=a+k:=⟨b - a,by omega⟩
 rw [pw_add]
 have h1:=pw_pos a
 have h2:=pw_pos k
 have:=Int.mul_le_mul_of_nonneg_left (show (1:Int)≤pw k by omega) (Int.le_of_lt h1)
 omega
theorem Dg.take {l:List Int} (h:Dg l) (k:Nat):Dg (l.take k):=fun x hx=>h x (List.mem_of_mem_take hx)
theorem Dg.drop {l:List Int} (h:Dg l) (k:Nat):Dg (l.drop k):=fun x hx=>h x (List.mem_of_mem_drop hx)
structure MulI (xs ys out:List Int) (i:Nat):Prop where
 dg:Dg out
 len:out.length=xs.length+ys.length+1
 vl:val out=val (xs.take i) * val ys
theorem MulI.fit {xs ys out:List Int} {i:Nat} {d:Int} (h:MulI xs ys out i) (hx:Dg xs) (hy:Dg ys) (hd:xs[i]?=some d):FitW d (out.drop i) ys 0:=by
 obtain ⟨hi,he⟩:=List.getElem?_eq_some_iff.1 hd
 obtain ⟨d0,d1⟩:=hx d (List.mem_of_getElem? hd)
 have h1:=val_append (out.take i) (out.drop i)
 rw [List.take_append_drop,h.vl,List.length_take,h.len,Nat.min_eq_left (by omega)] at h1
 have h2:=val_lt (hx.take i)
 rw [List.length_take,Nat.min_eq_left (by omega)] at h2
 have h3:=val_lt hy
 have h4:=val_nn hy
 have h5:=val_nn (h.dg.take i)
 have h6:=val_nn (h.dg.drop i)
 have p1:=pw_pos i
 have p2:=pw_pos ys.length
 have h7:pw i * val (out.drop i) < pw i * pw ys.length:=by
  have a1:val (xs.take i) * val ys≤pw i * val ys:=Int.mul_le_mul_of_nonneg_right (by omega) h4
  have a2:pw i * val ys < pw i * pw ys.length:=Int.mul_lt_mul_of_pos_left h3 p1
  omega
 have h8:val (out.drop i) < pw ys.length:=Int.lt_of_mul_lt_mul_left h7 (Int.le_of_lt p1)
 have h9:d * val ys≤999999999 * val ys:=Int.mul_le_mul_of_nonneg_right (by omega) h4
 have h10:=pw_mono (show ys.length+1≤(out.drop i).length by rw [List.length_drop,h.len]; omega)
 have h11:pw (ys.length+1)=1000000000 * pw ys.length:=rfl
 unfold FitW
 omega
theorem MulI.step {xs ys out:List Int} {i:Nat} {d:Int} (h:MulI xs ys out i) (hx:Dg xs) (hy:Dg ys) (hd:xs[i]?=some d):MulI xs ys (out.take i ++ rowL d (out.drop i) ys 0) (i+1):=by
 have hf:=h.fit hx hy hd
 obtain ⟨hi,he⟩:=List.getElem?_eq_some_iff.1 hd
 obtain ⟨d0,d1⟩:=hx d (List.mem_of_getElem? hd)
 have hl:(out.take i).length=i:=by rw [List.length_take,h.len]; omega
 refine ⟨?_, ?_, ?_⟩
 ·intro x hx'
  rcases List.mem_append.1 hx' with h1 | h1
  ·exact h.dg.take i x h1
  ·exact rowL_dg ⟨d0,d1⟩ _ _ _ (h.dg.drop i) hy (Int.le_refl _) x h1
 ·rw [List.length_append,hl,rowL_len,List.length_drop,h.len]; omega
 ·have h1:=val_append (out.take i) (out.drop i)
  rw [List.take_append_drop,h.vl,hl] at h1
  have h2:xs.take (i+1)=xs.take i ++ [d]:=by rw [List.take_add_one,hd]; rfl
  rw [val_append,rowL_val d0 _ _ _ (h.dg.drop i) hy (Int.le_refl _) hf,hl,h2,val_append,List.length_take,Nat.min_eq_left (by omega)]
  show val (out.take i)+pw i * (val (out.drop i)+d * val ys+0)=(val (xs.take i)+pw i * (d+1000000000 * 0)) * val ys
  rw [Int.add_zero,Int.mul_zero,Int.add_zero,Int.mul_add,Int.add_mul,← Int.add_assoc,← h1,Int.mul_assoc]
def OwnJ (w:World) (b:Nat) (xs:List Int):Prop :=
 b < w.heap.size∧∀ j x,xs[j]?=some x→w.cell? ⟨b,j,none⟩=some (iv x)∧w.frozen? ⟨b,j,none⟩=false
theorem OwnJ.fx {p:Nat→Prop} {w w':World} {b:Nat} {xs:List Int} (h:OwnJ w b xs) (k:Fx p w w') (hp:¬ p b):OwnJ w' b xs :=
 ⟨Nat.lt_of_lt_of_le h.1 k.size,fun j x hx=>by rw [k.cell h.1 hp,k.frozen h.1 hp]; exact h.2 j x hx⟩
theorem OwnJ.fr {w w':World} {b:Nat} {xs:List Int} (h:OwnJ w b xs) (k:Fr w w'):OwnJ w' b xs :=
 h.fx (p:=fun _=>False) (Fx.of_fr k) (fun e=>e)
theorem OwnJ.set {w:World} {b:Nat} {xs:List Int} (h:OwnJ w b xs) {k:Nat} (hk:k < xs.length) (x:Int):OwnJ (w.setCell ⟨b,k,none⟩ (iv x)) b (xs.set k x):=by
 obtain ⟨h2,h3⟩:=h
 refine ⟨by simpa [World.setCell] using h2,fun j y hy=>?_⟩
 rw [World.frozen?_setCell]
 rw [List.getElem?_set] at hy
 by_cases e:k=j
 ·subst e
  rw [if_pos rfl,if_pos hk] at hy
  injection hy with hy; subst hy
  have h4:=h3 k xs[k] (List.getElem?_eq_getElem hk)
  exact ⟨World.cell?_setCell_same' _ _ _ (by rw [h4.1]; rfl),h4.2⟩
 ·rw [if_neg e] at hy
  have h4:=h3 j y hy
  refine ⟨?_,h4.2⟩
  rw [World.cell?_setCell_other w ⟨b,k,none⟩ ⟨b,j,none⟩ _ (fun e2=>by injection e2 with e3 e4; omega)]
  exact h4.1
theorem OwnJ.el {w:World} {b:Nat} {xs:List Int} (h:OwnJ w b xs):El w iv (some ⟨b,0,none⟩) xs :=
 .inr ⟨b,0,rfl,h.1,fun i x hx=>by rw [Nat.zero_add]; exact (h.2 i x hx).1⟩
structure RowI (d:Int) (pre F:List Int) (i N:Nat) (ys:List Int) (k:Nat) (c:Int) (cur:List Int):Prop where
 len:cur.length=N
 dg:Dg cur
 fit:FitW d (cur.drop (i+k)) (ys.drop k) c
 eq:cur.take (i+k) ++ rowL d (cur.drop (i+k)) (ys.drop k) c=pre ++ F
theorem set_take {l:List Int} {j:Nat} (h:j < l.length) (v:Int):(l.set j v).take (j+1)=l.take j ++ [v]:=by
 rw [List.take_add_one,List.take_set_of_le (Nat.le_refl _),List.getElem?_set_self h]; rfl
theorem set_drop {l:List Int} {j:Nat} (v:Int):(l.set j v).drop (j+1)=l.drop (j+1):=by
 rw [List.drop_set_of_lt (by omega)]
theorem Dg.set {l:List Int} (h:Dg l) (j:Nat) {v:Int} (hv:0≤v∧v < 1000000000):Dg (l.set j v):=fun x hx=>by
 rcases List.mem_or_eq_of_mem_set hx with h1 | rfl
 ·exact h x h1
 ·exact hv
theorem RowI.at {d:Int} {pre F:List Int} {i N:Nat} {ys:List Int} {k:Nat} {c:Int} {cur:List Int} (h:RowI d pre F i N ys k c cur) (hd:0≤d) (hy:Dg ys) (hc:0≤c) (hk:k < ys.length∧i+ys.length < N∨0 < c):i+k < N:=by
 rcases hk with h1 | h1
 ·omega
 ·by_cases hl:i+k < N
  ·exact hl
  ·have h2:=h.fit
   rw [List.drop_eq_nil_of_le (by rw [h.len]; omega)] at h2
   have:=h2.ne hd (hy.drop k) hc
   omega
theorem RowI.step0 {d:Int} {pre F:List Int} {i N:Nat} {ys:List Int} {k:Nat} {c o:Int} {cur:List Int} (h:RowI d pre F i N ys k c cur) (hc:0 < c) (hb:ys.length≤k) (ho:cur[i+k]?=some o) :
 RowI d pre F i N ys (k+1) ((c+o) / 1000000000) (cur.set (i+k) ((c+o) % 1000000000)):=by
 have hl:=(List.getElem?_eq_some_iff.1 ho).1
 have h1:=h.fit
 have h2:=h.eq
 rw [drop_cons ho,List.drop_eq_nil_of_le hb] at h1 h2
 refine ⟨by rw [List.length_set]; exact h.len,h.dg.set _ (by omega), ?_, ?_⟩
 ·rw [← Nat.add_assoc,set_drop,show ys.drop (k+1)=[] from List.drop_eq_nil_of_le (by omega)]; exact h1.step0
 ·rw [← Nat.add_assoc,set_drop,set_take hl,← h2,show ys.drop (k+1)=[] from List.drop_eq_nil_of_le (by omega),rowL_cn,if_pos hc,List.append_assoc]; rfl
theorem RowI.fin {d:Int} {pre F:List Int} {i N:Nat} {ys:List Int} {k:Nat} {cur:List Int} (h:RowI d pre F i N ys k 0 cur) (hb:ys.length≤k):cur=pre ++ F:=by
 rw [← h.eq,List.drop_eq_nil_of_le hb]
 have e:rowL d (cur.drop (i+k)) [] 0=cur.drop (i+k):=by
  cases cur.drop (i+k) with
  | nil=>rw [rowL_n]
  | cons o os=>rw [rowL_cn,if_neg (by omega)]
 rw [e,List.take_append_drop]
theorem MulI.zero (xs ys:List Int):MulI xs ys (List.replicate (xs.length+ys.length+1) 0) 0:=by
 refine ⟨fun x hx=>by have:=List.eq_of_mem_replicate hx; omega,List.length_replicate, ?_⟩
 have:∀ n,val (List.replicate n 0)=0:=fun n=>by
  induction n with
  | zero=>rfl
  | succ n ih=>show (0:Int)+1000000000 * val (List.replicate n 0)=0; rw [ih]; rfl
 rw [this]
 show (0:Int)=0 * val ys
 rw [Int.zero_mul]
structure MC (W:World) (p:Nat) (sg sh:Bool) (va vb:Value):Prop where
 c0:W.cell? ⟨p,0,none⟩=some (.bool sg)
 c1:W.cell? ⟨p,1,none⟩=some va
 c2:W.cell? ⟨p+1,0,none⟩=some (.bool sh)
 c3:W.cell? ⟨p+1,1,none⟩=some vb
 c4:W.cell? ⟨p+1+1,0,none⟩=some (.bool false)
 c5:W.cell? ⟨p+1+1,1,none⟩=some (.slice none 0 0)
 c6:W.frozen? ⟨p+1+1,0,none⟩=false
 c7:W.frozen? ⟨p+1+1,1,none⟩=false
theorem MC.fr {W W':World} {p:Nat} {sg sh:Bool} {va vb:Value} (h:MC W p sg sh va vb) (k:Fr W W'):MC W' p sg sh va vb :=
 ⟨k.keep h.c0,k.keep h.c1,k.keep h.c2,k.keep h.c3,k.keep h.c4,k.keep h.c5,k.keepf h.c4 h.c6,k.keepf h.c5 h.c7⟩



end Go.Proofs.YtklpnlbmdknjeaaGreatDoor
