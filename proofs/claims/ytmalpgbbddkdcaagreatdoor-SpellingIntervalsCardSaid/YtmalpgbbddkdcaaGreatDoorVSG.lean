/- Contracts and laws: VSG. -/
import Derived.Test.YtmalpgbbddkdcaaGreatDoorVSF
import Derived.Test.YtmalpgbbddkdcaaGreatDoorVB
import Derived.Test.YtmalpgbbddkdcaaGreatDoorLaysSort
import Derived.Shelf.SlSortCmp.NoneTotal
import Derived.Test.YtmalpgbbddkdcaaGreatDoorVRA
import Derived.Maps.OwnIn
import Derived.Stop.RegionWithIn

set_option maxRecDepth 100000
set_option maxHeartbeats 4000000
namespace Go.Proofs.YtmalpgbbddkdcaaGreatDoor
open Go.RowKit Go.Lib Go.Sort
theorem flatK_flat2 {α:Type} [Inhabited α] (f:α→Value×Value) (d:Array α):(flatK (fun x=>[(f x).1,(f x).2]) 2 d).toList=flat2 (d.toList.map f):=by
 apply List.ext_getElem?
 intro t
 rw [Array.getElem?_toList]
 by_cases ht:t < d.size * 2
 ·have hi:t / 2 < d.size:=by omega
  have h1:(flatK (fun x=>[(f x).1,(f x).2]) 2 d)[t]?=some (([(f d[t / 2]!).1,(f d[t / 2]!).2])[t % 2]!):=by
   have h2:=get_flatK (fun x=>[(f x).1,(f x).2]) 2 d t ht
   rw [← h2]
   have hs:t < (flatK (fun x=>[(f x).1,(f x).2]) 2 d).size:=by rw [size_flatK]; exact ht
   rw [Array.getElem?_eq_getElem hs,getElem!_pos _ t hs]
  rw [h1]
  have hx:(d.toList.map f)[t / 2]?=some (f d[t / 2]!):=by
   rw [List.getElem?_map,Array.getElem?_toList,Array.getElem?_eq_getElem hi,getElem!_pos d _ hi]; rfl
  obtain ⟨g1,g2⟩:=flat2_get _ _ _ hx
  rcases Nat.mod_two_eq_zero_or_one t with h | h
  ·rw [h,show t=t / 2 * 2 by omega,g1,show t / 2 * 2 / 2=t / 2 by omega]; rfl
  ·rw [h,show t=t / 2 * 2+1 by omega,g2,show (t / 2 * 2+1) / 2=t / 2 by omega]; rfl
 ·rw [Array.getElem?_eq_none (by rw [size_flatK]; omega),List.getElem?_eq_none (by rw [flat2_length,List.length_map]; simp; omega)]
theorem heap_put {w:World} {g n:Nat} {os:Array Obj} {cur:Array Value} {e:TypeId} {fr:Nat×Nat} (d:Array Value) (hb:w.heap[g]?=some (.cells cur e fr)) :
 (grow (putRow id (Sort.ahead w n) g 0 d) os).heap[g]?=some (.cells (putCells id 0 d cur) e fr):=by
 have hg:g < w.heap.size:=(Array.getElem?_eq_some_iff.1 hb).1
 rw [heap_grow_old _ _ (by simpa using hg)]
 simp [putRow,mapBlock,Sort.ahead,Array.getElem?_modify,hb,onCells]
theorem fx_put {w:World} {g n:Nat} {os:Array Obj} (d:Array Value):Fx (·=g) w (grow (putRow id (Sort.ahead w n) g 0 d) os):=by
 refine ⟨rfl,rfl,rfl,by simp,fun k hk hne=>?_⟩
 rw [heap_grow_old _ _ (by simpa using hk)]
 have:g≠k:=fun e=>hne e.symm
 simp [putRow,mapBlock,Sort.ahead,Array.getElem?_modify,this]
theorem take_put (cur F:Array Value) (h:F.size≤cur.size):(putCells id 0 F cur).toList.take F.size=F.toList:=by
 apply List.ext_getElem?
 intro j
 by_cases hj:j < F.size
 ·rw [List.getElem?_take_of_lt hj,Array.getElem?_toList,Array.getElem?_toList]
  simp [putCells,hj,show j < cur.size by omega]
 ·rw [List.getElem?_take_eq_none (by omega),Array.getElem?_toList,Array.getElem?_eq_none (by omega)]
theorem ownsRow_put {w:World} {base g cap n m size:Nat} {e:TypeId} {os:Array Obj} {xs ys:List Value} (h:w.ownsRow base e size (.slice (some ⟨g,0,none⟩) m cap) m xs) (hl:ys.length=xs.length) :
 (grow (putRow id (Sort.ahead w n) g 0 ys.toArray) os).ownsRow base e size (.slice (some ⟨g,0,none⟩) m cap) m ys:=by
 obtain ⟨h1,h2⟩:=h
 rcases h2 with ⟨h2,_⟩ | ⟨g',cap',cur,hv,hg,hh,hn,hc,hs,ht⟩
 ·cases h2
 ·injection hv with hv1 hv2 hv3
  injection hv1 with hv1; injection hv1 with hv1
  subst hv1; subst hv3
  have hsz:ys.toArray.size≤cur.size:=by
   rw [List.size_toArray,hl,h1,hs]; exact Nat.mul_le_mul_right _ hn
  refine ⟨by rw [hl,h1],.inr ⟨g,cap,_,rfl,hg,heap_put _ hh,hn,hc,by simp [putCells,hs], ?_⟩⟩
  have:=take_put cur ys.toArray hsz
  rw [List.size_toArray,hl,h1] at this
  exact this
def BX.enc2 (x:BX):Value×Value:=(.int .i64 x.i,.slice (some ⟨x.g,0,none⟩) x.cs.length x.c)
def cfB (x y:BX):Int:=ordS (stI (stripX x)) (stI (stripX y))
theorem enters_order:∀ args w,(callFunc 126 args).run Tryz.prog w=.ok (.enter 126 args) w:=enters_of Tryz.func126 (by kernel_rfl) rfl
theorem SortFunc_sp (base g cap:Nat) (K:List BX) (W:World) (hown:W.ownsRow base 76 2 (.slice (some ⟨g,0,none⟩) K.length cap) K.length (flat2 (K.map BX.enc2))) (hrow:∀ x,x ∈ K→RowAt W x) (hnd:(K.map stripX).Nodup)
 (hl:∀ x,x ∈ K→x.cs.length≤64) (hf:∀ x,x ∈ K→∀ c,c ∈ x.cs→fitB c=true) (hK:K≠[]) (hK2:K.length≤1000001) :
 Calls Tryz.prog 75 #[.slice (some ⟨g,0,none⟩) K.length cap,.func (.func 126) #[] #[]] W fun e W'=>e=.returned (.tuple #[]) ∧
  ∃ K':List BX,K'.map stripX=sortS (K.map stripX)∧K'.Perm K∧Fx (·=g) W W'∧W'.ownsRow base 76 2 (.slice (some ⟨g,0,none⟩) K.length cap) K.length (flat2 (K'.map BX.enc2)):=by
 obtain ⟨x0,hx0⟩:∃ x0,x0 ∈ K:=by
  cases K with
  | nil=>exact absurd rfl hK
  | cons x l=>exact ⟨x,List.mem_cons_self ..⟩
 haveI:Inhabited { x:BX // x ∈ K }:=⟨⟨x0,hx0⟩⟩
 obtain ⟨-,-,hgl,-,hcells⟩:=ownsRow_some hown
 have hfl:∀ (d:Array { x:BX // x ∈ K }),(flatK (fun x:{ x:BX // x ∈ K }=>[x.1.enc2.1,x.1.enc2.2]) 2 d).toList=flat2 (d.toList.map fun x=>x.1.enc2):=fun d=>flatK_flat2 (fun x:{ x:BX // x ∈ K }=>x.1.enc2) d
 have hat:(K.attach.toArray.toList.map fun x=>x.1.enc2)=K.map BX.enc2:=by
  have:(fun x:{ x:BX // x ∈ K }=>x.1.enc2)=BX.enc2 ∘ Subtype.val:=rfl
  rw [this,← List.map_map,List.attach_map_subtype_val]
 have hH:HoldsK (fun x:{ x:BX // x ∈ K }=>[x.1.enc2.1,x.1.enc2.2]) 2 W g 0 K.attach.toArray:=by
  intro j hj
  have h1:=hfl K.attach.toArray
  rw [hat] at h1
  have h2:(flat2 (K.map BX.enc2))[j]?=some (flatK (fun x:{ x:BX // x ∈ K }=>[x.1.enc2.1,x.1.enc2.2]) 2 K.attach.toArray)[j]!:=by
   rw [← h1,Array.getElem?_toList,Array.getElem?_eq_getElem hj,getElem!_pos _ j hj]
  have h3:=hcells j _ h2
  rw [Nat.zero_add]
  exact h3
 have hcmp:CmpLays Tryz.prog 126 #[] (fun x:{ x:BX // x ∈ K }=>[x.1.enc2.1,x.1.enc2.2]) 2 (fun x y=>cfB x.1 y.1) g 0 K.attach.toArray.size W:=fun m os dk hs x y=>by
  have hfx:Fx (·=g) W (sortWorldK (fun x:{ x:BX // x ∈ K }=>[x.1.enc2.1,x.1.enc2.2]) 2 W g 0 m dk os):=fx_put _
  have hel:∀ z:BX,z ∈ K→El (sortWorldK (fun x:{ x:BX // x ∈ K }=>[x.1.enc2.1,x.1.enc2.2]) 2 W g 0 m dk os) iv (some ⟨z.g,0,none⟩) z.cs:=fun z hz=>(hrow z hz).2.fx hfx (fun e=>by
   have:=(hrow z hz).ne hown
   exact this (by simp [Value.ownBlock,show z.g=g from e]))
  exact order_any (stI (stripX x.1)) (stI (stripX y.1)) (some ⟨x.1.g,0,none⟩) (some ⟨y.1.g,0,none⟩) x.1.c y.1.c _ (hel x.1 x.2) (hel y.1 y.2) (hl x.1 x.2) (hl y.1 y.2) (hf x.1 x.2) (hf y.1 y.2)
 have hO:SWO (ltOf fun x y:{ x:BX // x ∈ K }=>cfB x.1 y.1):=⟨fun x=>swoS.irrefl _,fun x y z=>swoS.trans _ _ _,fun x y z=>swoS.ntrans _ _ _⟩
 have hinj:∀ x y:{ x:BX // x ∈ K },stripX x.1=stripX y.1→x=y:=fun x y e=>by
  obtain ⟨x,hx⟩:=x; obtain ⟨y,hy⟩:=y
  obtain ⟨i,hi⟩:=List.getElem?_of_mem hx
  obtain ⟨j,hj⟩:=List.getElem?_of_mem hy
  have e2:(K.map stripX)[i]?=(K.map stripX)[j]?:=by rw [List.getElem?_map,List.getElem?_map,hi,hj]; simp only [Option.map_some]; rw [e]
  have hij:=(List.getElem?_inj (by rw [List.length_map]; exact (List.getElem?_eq_some_iff.1 hi).1) hnd).1 e2
  subst hij
  rw [hi] at hj
  injection hj with hj
  subst hj; rfl
 have hT:∀ x y:{ x:BX // x ∈ K },(ltOf fun x y:{ x:BX // x ∈ K }=>cfB x.1 y.1) x y=false→(ltOf fun x y:{ x:BX // x ∈ K }=>cfB x.1 y.1) y x=false→x=y:=fun x y h1 h2=>by
  unfold ltOf cfB at *
  have a:¬ ordS (stI (stripX x.1)) (stI (stripX y.1)) < 0:=of_decide_eq_false h1
  have b:¬ ordS (stI (stripX y.1)) (stI (stripX x.1)) < 0:=of_decide_eq_false h2
  have c:=ordS_neg (stI (stripX x.1)) (stI (stripX y.1))
  exact hinj x y (stI_inj (ordS_eq (by omega)))
 have hcon:=AnyQ.slices_SortFunc_total Tryz.sortSp 2 Tryz.isAgg76 Tryz.sizeOf76 (fun x:{ x:BX // x ∈ K }=>[x.1.enc2.1,x.1.enc2.2]) (fun _=>rfl) (fun x v hv=>by
  simp at hv; rcases hv with rfl | rfl <;> rfl) (fun x y=>cfB x.1 y.1) hO 126 #[] g 0 cap K.attach.toArray W enters_order hcmp hH hgl (by rw [List.size_toArray,List.length_attach]; omega) hT
 rw [show K.attach.toArray.size=K.length by simp] at hcon
 refine hcon.mono ?_
 rintro e W' ⟨rfl,n,os,rfl⟩
 obtain ⟨D,hD⟩:∃ D,D=(K.attach.mergeSort fun x y=>!(ltOf fun x y:{ x:BX // x ∈ K }=>cfB x.1 y.1) y x):=⟨_,rfl⟩
 have hDp:D.Perm K.attach:=by rw [hD]; exact List.mergeSort_perm _ _
 refine ⟨rfl,D.map Subtype.val, ?_, ?_,fx_put _, ?_⟩
 ·refine sortS_eq ?_ ?_
  ·rw [List.map_map,List.pairwise_map,hD]
   exact List.pairwise_mergeSort (le:=fun x y=>!(ltOf fun x y:{ x:BX // x ∈ K }=>cfB x.1 y.1) y x) (fun a b c h k=>leS_trans (stripX a.1) (stripX b.1) (stripX c.1) h k) (fun a b=>leS_total (stripX a.1) (stripX b.1)) _
  ·have:=(hDp.map Subtype.val).map stripX
   rwa [List.attach_map_subtype_val] at this
 ·have:=hDp.map Subtype.val
  rwa [List.attach_map_subtype_val] at this
 ·have h1:=hfl D.toArray
  have h2:D.toArray.toList.map (fun x=>x.1.enc2)=(D.map Subtype.val).map BX.enc2:=by rw [List.map_map]; rfl
  rw [h2] at h1
  have h3:=ownsRow_put (n:=n) (os:=os) (ys:=flat2 ((D.map Subtype.val).map BX.enc2)) hown (by rw [flat2_length,flat2_length,List.length_map,List.length_map,List.length_map,hDp.length_eq,List.length_attach])
  rw [← h1] at h3
  simp only [Array.toArray_toList] at h3
  rw [hfl] at h3
  rw [h2] at h3
  rw [hD] at h3 ⊢
  exact h3
end Go.Proofs.YtmalpgbbddkdcaaGreatDoor
namespace Go.Proofs.YtmalpgbbddkdcaaGreatDoor
open Go.RowKit Go.Lib Go.Shelf
attribute [local go_sem] Oper.semAt_some
theorem box_any (aN aA:Option Addr) (n cN k cA:Nat) (m:Int) (w:World) :
 Calls Tryz.prog 172 #[.agg #[.slice aN n cN,.slice aA k cA],.int .i64 m] w fun e w'=>e=.returned (.func (.func 234) #[] #[.pointer (some ⟨w.heap.size,0,none⟩),.pointer (some ⟨w.heap.size+1,0,none⟩)])∧(w.alloc (.cells #[.slice aN n cN,.slice aA k cA] 72)).alloc (.cells #[.int .i64 m] 3)=w':=by
 go_enter Tryz.func172,Tryz.ntmps172
 go_wp2_with fail
 go_ret
 exact ⟨rfl,rfl⟩
theorem infoSp:(Tryz.prog.info? 76).map (fun i=>(i.zero,i.size,i.bytes))=some (some (.agg #[.int .i64 0,.slice none 0 0]),2,32):=by kernel_rfl
def keepP (N A:List Sy) (R:List Int) (x:BX):Bool:=decide (sumS N A (stripX x)=R)
structure AllI (W0:World) (Bo:Nat) (p:Nat→Prop) (xs:List BX) (W:World):Prop where
 fx:Fx (·=Bo) W0 W
 pD:∀ k,p k→W0.heap.size+2≤k
 out:∃ v,W.cell? ⟨Bo,0,none⟩=some v∧W.frozen? ⟨Bo,0,none⟩=false∧W.ownsRow (W0.heap.size+2) 76 2 v xs.length (flat2 (xs.map BX.enc2))∧(∀ g,v.ownBlock=some g→¬ p g∧g < W.heap.size)∧(xs=[]→v=.slice none 0 0)
 el:∀ x,x ∈ xs→W0.heap.size+2≤x.g∧¬ p x.g∧RowAt W x
theorem AllI.step {W0:World} {Bo:Nat} {p p':Nat→Prop} {xs:List BX} {W W':World} (h:AllI W0 Bo p xs W) (hBo:Bo < W0.heap.size) (k:Fx (fun k=>p k∨k=W0.heap.size∨k=W0.heap.size+1) W W') (hp:∀ k,p' k→p k∨(W.heap.size≤k∧k < W'.heap.size)) (hp2:∀ k,p' k→W0.heap.size+2≤k):AllI W0 Bo p' xs W':=by
 obtain ⟨v,h1,h2,h3,h4,h5⟩:=h.out
 have hlow:∀ j,j < W0.heap.size→¬ (p j∨j=W0.heap.size∨j=W0.heap.size+1):=fun j hj e=>by
  rcases e with e | e | e
  ·have:=h.pD j e; omega
  ·omega
  ·omega
 refine ⟨⟨k.os.trans h.fx.os,k.tape.trans h.fx.tape,k.output.trans h.fx.output,Nat.le_trans h.fx.size k.size,fun j hj hne=>(k.block j (Nat.lt_of_lt_of_le hj h.fx.size) (hlow j hj)).trans (h.fx.block j hj hne)⟩,hp2,⟨v,k.keep h1 (hlow Bo hBo),k.keepf h1 h2 (hlow Bo hBo),ownsRow_fx h3 k (fun g hg e=>?_),fun g hg=>?_,h5⟩,fun x hx=>?_⟩
 ·have hb:=ownsRow_own_ge h3 g hg
  rcases e with e | e | e
  ·exact (h4 g hg).1 e
  ·omega
  ·omega
 ·refine ⟨fun e=>?_,Nat.lt_of_lt_of_le (h4 g hg).2 k.size⟩
  rcases hp g e with e | e
  ·exact (h4 g hg).1 e
  ·have:=(h4 g hg).2; omega
 ·obtain ⟨a,c,d⟩:=h.el x hx
  have b:=d.lt
  refine ⟨a,fun e=>?_,d.fx k (fun e=>?_)⟩
  ·rcases hp _ e with e | e
   ·exact c e
   ·omega
  ·rcases e with e | e | e
   ·exact c e
   ·omega
   ·omega
theorem AllI.push {W0 W w2 w3:World} {Bo:Nat} {p:Nat→Prop} {K:List BX} {v:Value} {o:Obj} {g9 cap9:Nat} {x:BX} {news:List Value} (hBo:Bo < W0.heap.size) (x6:Fx (·=Bo) W0 W) (x5:∀ k,p k→W0.heap.size+2≤k) (x4:∀ z,z ∈ K→W0.heap.size+2≤z.g∧¬ p z.g∧RowAt W z)
 (o4:∀ g,v.ownBlock=some g→¬ p g∧g < W.heap.size) (hp:∀ k,p k→k < W.heap.size) (hfZ:Fr W w2) (y6:w2.ownsRow (W0.heap.size+2) 76 2 v K.length (flat2 (K.map BX.enc2)))
 (hFx:Fx (fun k=>v.ownBlock=some k) (w2.alloc o) w3) (hown:w3.ownsRow (W0.heap.size+2) 76 2 (.slice (some ⟨g9,0,none⟩) (K.length+1) cap9) (K.length+1) (flat2 (K.map BX.enc2) ++ news)) (hnews:news=flat2 [x.enc2])
 (hat:(Value.slice (some ⟨g9,0,none⟩) (K.length+1) cap9).ownBlock=v.ownBlock∨(Value.slice (some ⟨g9,0,none⟩) (K.length+1) cap9).ownBlock=some (w2.alloc o).heap.size) (u1:w3.cell? ⟨Bo,0,none⟩=some v) (u2:w3.frozen? ⟨Bo,0,none⟩=false)
 (b5:W0.heap.size+2≤x.g) (b7:¬ p x.g) (b8:RowAt W x) :
 AllI W0 Bo p (K ++ [x]) (w3.setCell ⟨Bo,0,none⟩ (.slice (some ⟨g9,0,none⟩) (K.length+1) cap9))∧Fx (fun k=>v.ownBlock=some k∨k=Bo) W (w3.setCell ⟨Bo,0,none⟩ (.slice (some ⟨g9,0,none⟩) (K.length+1) cap9)):=by
 subst hnews
 have hvo:∀ k,v.ownBlock=some k→W0.heap.size+2≤k:=fun k hk=>ownsRow_own_ge y6 k hk
 have hfA:Fr W (w2.alloc o):=hfZ.alloc o
 obtain ⟨-,hg1,hg2,-,-⟩:=ownsRow_some hown
 have hF1:Fx (fun k=>v.ownBlock=some k∨k=Bo) W w3:=(Fx.of_fr hfA).trans (hFx.mono fun k e=>.inl e)
 have hF2:=hF1.setCell (q:=⟨Bo,0,none⟩) (.inl (.inr rfl)) (.slice (some ⟨g9,0,none⟩) (K.length+1) cap9)
 have hS:Fx (·=Bo) w3 (w3.setCell ⟨Bo,0,none⟩ (.slice (some ⟨g9,0,none⟩) (K.length+1) cap9)):=Fx.setCell (p:=(·=Bo)) (q:=⟨Bo,0,none⟩) (Fx.refl _ w3) (.inl rfl) _
 refine ⟨⟨⟨hF2.os.trans x6.os,hF2.tape.trans x6.tape,hF2.output.trans x6.output,Nat.le_trans x6.size hF2.size,fun j hj hne=>(hF2.block j (Nat.lt_of_lt_of_le hj x6.size) (fun e=>?_)).trans (x6.block j hj hne)⟩,x5,⟨_,World.cell?_setCell_same' _ _ _ (by rw [u1]; rfl),by rw [World.frozen?_setCell]; exact u2, ?_,fun g hg=>?_,fun h=>by simp at h⟩,fun z hz=>?_⟩,hF2⟩
 ·rcases e with e | e
  ·have:=hvo j e; omega
  ·exact hne e
 ·rw [List.map_append,flat2_append,List.length_append]
  exact ownsRow_fx hown hS (fun g hg e=>by
   have e:g=Bo:=e
   have h2:g9=g:=by simpa [Value.ownBlock] using hg
   omega)
 ·have h2:g9=g:=by simpa [Value.ownBlock] using hg
  subst h2
  refine ⟨fun e=>?_,Nat.lt_of_lt_of_le hg2 hS.size⟩
  rcases hat with h | h
  ·exact (o4 g9 (by rw [← h]; exact hg)).1 e
  ·have h3:g9=(w2.alloc o).heap.size:=by simpa [Value.ownBlock] using h
   have:=hp g9 e
   have:=hfA.size
   omega
 ·have key:∀ z:BX,W0.heap.size+2≤z.g→¬ p z.g→RowAt W z→W0.heap.size+2≤z.g∧¬ p z.g∧RowAt (w3.setCell ⟨Bo,0,none⟩ (.slice (some ⟨g9,0,none⟩) (K.length+1) cap9)) z:=fun z h1 h2 h3=>⟨h1,h2,h3.fx hF2 (fun e=>by
   rcases e with e | e
   ·exact (h3.fr hfZ).ne y6 e
   ·omega)⟩
  rcases List.mem_append.1 hz with h | h
  ·obtain ⟨z1,z2,z3⟩:=x4 z h
   exact key z z1 z2 z3
  ·simp at h
   subst h
   exact key z b5 b7 b8
theorem cell_two_new (w:World) (x y:Value) (t:TypeId):∀ (j:Nat) (u:Value),[x,y][j]?=some u→(w.alloc (.cells #[x,y] t)).cell? ((⟨w.heap.size,0,none⟩:Addr).add j)=some u:=fun j u hu=>by
 match j,hu with
 | 0,hu=>simp at hu; subst hu; exact (new2a w x y t).1
 | 1,hu=>simp at hu; subst hu; exact (new2b w x y t).1
 | j+2,hu=>simp at hu
theorem new_s (w:World) (a:Option Addr) (n c:Nat) (t:TypeId):(w.alloc (.cells #[.slice a n c] t)).cell? ⟨w.heap.size,0,none⟩=some (.slice a n c)∧(w.alloc (.cells #[.slice a n c] t)).frozen? ⟨w.heap.size,0,none⟩=false:=new1 w _ t
structure OwnSp (w:World) (base:Nat) (a:Option Addr) (c:Nat) (xs:List BX):Prop where
 own:w.ownsRow base 76 2 (.slice a xs.length c) xs.length (flat2 (xs.map BX.enc2))
 el:∀ x,x ∈ xs→base≤x.g∧x.g < w.heap.size∧(Value.slice a xs.length c).ownBlock≠some x.g∧El w iv (some ⟨x.g,0,none⟩) x.cs
def AllRet (w:World) (L:List (Nat×List Int)) (e:Ending) (w':World):Prop:=∃ a c xs,e=.returned (.slice a xs.length c)∧OwnSp w' w.heap.size a c xs∧xs.map stripX=L∧Fr w w'
theorem all_any (d:Nat) (aN aA:Option Addr) (cN cA:Nat) (N A:List Sy) (R:List Int) (ra:Option Addr) (rc m:Nat) (w:World) (hn:NotIs w aN aA cA N A) (hok:NotOk d N A) (hd:1≤d) (hR:El w iv ra R) (hRl:R.length≤1000000) (hm:m≤20000) (hbox:(boxL m A.length N.length).length≤1000000) :
 Calls Tryz.prog 120 #[.agg #[.slice aN N.length cN,.slice aA A.length cA],.slice ra R.length rc,.int .i64 m] w (AllRet w (sortS ((boxL m A.length N.length).filter fun s=>decide (sumS N A s=R)))):=by
 have hn60:=hok.n60
 have ha6:=hok.a6
 obtain ⟨i0,hi,hz0,hz1,hz2⟩:=info_parts infoSp
 refine (callsIn_wide (n:=4)).1 ?_
 refine callsIn_of_wp_marks Tryz.func120 rfl trivial ?_ rfl
 simp only [Tryz.ntmps120,List.size_toArray,List.length_cons,List.length_nil,Nat.reduceAdd,Nat.reduceSub,Array.replicate_succ,Array.replicate_zero,List.push_toArray,List.append_toArray,List.nil_append,List.cons_append]
 obtain ⟨nN,hnN⟩:∃ nN,nN=N.length:=⟨_,rfl⟩
 obtain ⟨nA,hnA⟩:∃ nA,nA=A.length:=⟨_,rfl⟩
 obtain ⟨nR,hnR⟩:∃ nR,nR=R.length:=⟨_,rfl⟩
 rw [← hnN,← hnA] at hbox
 rw [← hnN] at hn60
 rw [← hnA] at ha6
 rw [← hnR] at hRl
 rw [← hnN,← hnA,← hnR]
 replace hnN:=hZ hnN
 replace hnA:=hZ hnA
 replace hnR:=hZ hnR
 replace hn:=hZ hn
 replace hok:=hZ hok
 replace hR:=hZ hR
 obtain ⟨wA,hwA⟩:∃ wA,wA=((w.alloc (.cells #[.slice aN nN cN,.slice aA nA cA] 72)).alloc (.cells #[.slice ra nR rc] 22)).alloc (.cells #[.slice none 0 0] 83):=⟨_,rfl⟩
 have hfA:Fr w wA:=by rw [hwA]; exact (((Fr.refl w).alloc _).alloc _).alloc _
 have hsA:wA.heap.size=w.heap.size+3:=by rw [hwA]; simp
 have a1:=new2a w (.slice aN nN cN) (.slice aA nA cA) 72
 have a2:=new2b w (.slice aN nN cN) (.slice aA nA cA) 72
 have a3:=new_s (w.alloc (.cells #[.slice aN nN cN,.slice aA nA cA] 72)) ra nR rc 22
 have a4:=new_s ((w.alloc (.cells #[.slice aN nN cN,.slice aA nA cA] 72)).alloc (.cells #[.slice ra nR rc] 22)) none 0 0 83
 rw [show (w.alloc (.cells #[.slice aN nN cN,.slice aA nA cA] 72)).heap.size=w.heap.size+1 by simp] at a3
 rw [show ((w.alloc (.cells #[.slice aN nN cN,.slice aA nA cA] 72)).alloc (.cells #[.slice ra nR rc] 22)).heap.size=w.heap.size+1+1 by simp,← hwA] at a4
 have k1:Fr (w.alloc (.cells #[.slice aN nN cN,.slice aA nA cA] 72)) wA:=by rw [hwA]; exact ((Fr.refl _).alloc _).alloc _
 have k2:Fr ((w.alloc (.cells #[.slice aN nN cN,.slice aA nA cA] 72)).alloc (.cells #[.slice ra nR rc] 22)) wA:=by rw [hwA]; exact (Fr.refl _).alloc _
 replace a1:=k1.keep a1.1
 replace a2:=k1.keep a2.1
 replace a3:=k2.keep a3.1
 have hbx:=box_any aN aA nN cN nA cA m wA
 replace hbx:=hbx.mono (fun e w' h=>show e=.returned (.func (.func 234) #[] #[.pointer (some ⟨w.heap.size+3,0,none⟩),.pointer (some ⟨w.heap.size+4,0,none⟩)])∧Fr wA w'∧w'.heap.size=w.heap.size+5∧w'.cell? ⟨w.heap.size+3,0,none⟩=some (.slice aN nN cN)∧w'.cell? ⟨w.heap.size+3,1,none⟩=some (.slice aA nA cA)∧w'.cell? ⟨w.heap.size+4,0,none⟩=some (.int .i64 m) from by
  obtain ⟨rfl,rfl⟩:=h
  have b1:=new2a wA (.slice aN nN cN) (.slice aA nA cA) 72
  have b2:=new2b wA (.slice aN nN cN) (.slice aA nA cA) 72
  have b3:=new1 (wA.alloc (.cells #[.slice aN nN cN,.slice aA nA cA] 72)) (.int .i64 m) 3
  have k:=(Fr.refl (wA.alloc (.cells #[.slice aN nN cN,.slice aA nA cA] 72))).alloc (.cells #[.int .i64 m] 3)
  rw [World.size_alloc,hsA] at b3
  rw [hsA] at b1 b2 ⊢
  exact ⟨rfl,((Fr.refl wA).alloc _).alloc _,by simp [hsA],k.keep b1.1,k.keep b2.1,b3.1⟩)
 rw [hwA] at hbx
 replace hbx:=hZ hbx
 replace hwA:=hZ hwA
 clear k1 k2
 gi_wp2
 refine ⟨trivial,(callsIn_wide.2 hbx.out).mono ?_⟩
 rintro e W0 ⟨rfl,hfB,hs0,c3,c4,c5⟩
 rw [← hwA.out] at hfB
 have hf0:=hfA.trans hfB
 replace a1:=hfB.keep a1
 replace a2:=hfB.keep a2
 replace a3:=hfB.keep a3
 have a5:=hfB.keepf a4.1 a4.2
 replace a4:=hfB.keep a4.1
 replace hs0:=hZ hs0
 clear hbx hfA hfB hwA hsA
 gi_wp2
 have hBn:w.heap.size+3 < W0.heap.size:=World.block_lt_of_cell? W0 _ c3
 have hBm:w.heap.size+4 < W0.heap.size:=World.block_lt_of_cell? W0 _ c5
 have hDs:W0.heap.size=w.heap.size+5:=hs0.out
 refine wpIn_rangeX (n:=4) rfl (by omega) (gf:=234) (lb:=#[.pointer (some ⟨w.heap.size+3,0,none⟩),.pointer (some ⟨w.heap.size+4,0,none⟩)]) rfl trivial (enters_of Tryz.func234 (by kernel_rfl) rfl)
  (box_seq (w.heap.size+3) (w.heap.size+4) nN nA m aN aA cN cA W0 (by omega) (by omega) (by omega) hBn hBm c3 c4 c5 (fun k=>k≠w.heap.size+3∧k≠w.heap.size+4) (fun k h=>h)) (Fr.refl _) ⟨by omega,by omega⟩ (fun x=>rfl)
  (fun p pre W=>AllI W0 (w.heap.size+1+1) p (pre.filter (keepP N A R)) W)
  (fun p p' s W W' h1 h2 h3 h4=>h1.step (by omega) h2 h3 h4)
  ⟨Fx.refl _ _,fun k e=>e.elim,⟨_,a4,a5,World.ownsRow_nil _ _ _ _,fun g hg=>by simp [Value.ownBlock] at hg,fun _=>rfl⟩,fun x hx=>by simp at hx⟩
  (fun p pre x a' W=>∃ Bx,pre.length < (boxL m nA nN).length∧stripX x ∈ boxL m nA nN∧W0.heap.size+2≤Bx∧Bx < W.heap.size∧W.cell? ⟨Bx,0,none⟩=some (.int .i64 x.i)∧W.cell? ⟨Bx,1,none⟩=some (.slice (some ⟨x.g,0,none⟩) x.cs.length x.c)∧W0.heap.size+2≤x.g∧¬ p x.g∧RowAt W x ∧
   a'={ tmps:=#[.agg #[.slice aN nN cN,.slice aA nA cA],.slice ra nR rc,.int .i64 m,.pointer (some ⟨w.heap.size,0,none⟩),.pointer (some ⟨w.heap.size+1,0,none⟩),undef,.slice none 0 0,.pointer (some ⟨w.heap.size+1+1,0,none⟩),.pointer (some ⟨Bx,0,none⟩),.agg #[.slice aN nN cN,.slice aA nA cA],.int .i64 m,.func (.func 234) #[] #[.pointer (some ⟨w.heap.size+3,0,none⟩),.pointer (some ⟨w.heap.size+4,0,none⟩)],.agg #[.int .i64 x.i,.slice (some ⟨x.g,0,none⟩) x.cs.length x.c],undef,undef,undef,undef,undef,undef,undef,undef,undef,undef,undef,undef],defers:=[] })
  (fun p pre x a' W W' h k=>by
   obtain ⟨Bx,bl,b0,b1,b2,b3,b4,b5,b7,b8,b9⟩:=h
   exact ⟨Bx,bl,b0,b1,Nat.lt_of_lt_of_le b2 k.size,k.keep b3 (fun e=>by have e:Bx=W0.heap.size+1:=e; omega),k.keep b4 (fun e=>by have e:Bx=W0.heap.size+1:=e; omega),b5,b7,b8.fx k (fun e=>by have e:x.g=W0.heap.size+1:=e; omega),b9⟩) ?assign ?body ?done
 case assign=>
  intro l p pre x W K hW hp hfr hK
  obtain ⟨gl,g0,g1,g3,g4⟩:=hfr
  have n1:=new2a W (.int .i64 x.i) (.slice (some ⟨x.g,0,none⟩) x.cs.length x.c) 76
  have n2:=new2b W (.int .i64 x.i) (.slice (some ⟨x.g,0,none⟩) x.cs.length x.c) 76
  have hfa:Fr W (W.alloc (.cells #[.int .i64 x.i,.slice (some ⟨x.g,0,none⟩) x.cs.length x.c] 76)):=(Fr.refl W).alloc _
  have hK2:=hZ (fun a' h=>hK a' _ hfa ⟨W.heap.size,gl,g0,hW,by simp,n1.1,n2.1,g1,g3,g4.fr hfa,h⟩)
  clear hK n1 n2 hfa
  simp only [BX.enc]
  gi_wp2
  exact hK2.out _ rfl
 case body=>
  rintro l p pre x a' W hW hp hI ⟨Bx,bl,b0,b1,b2,b3,b4,b5,b7,b8,rfl⟩
  have b6:=b8.lt
  obtain ⟨v,o1,o2,o3,o4,o5⟩:=hI.out
  have hfW:Fr w W:=((Fx.of_fr hf0).trans hI.fx).toFr (fun k hk e=>by have e:k=w.heap.size+1+1:=e; omega)
  have x1:=hI.fx.keep a1 (fun e=>by have e:w.heap.size=w.heap.size+1+1:=e; omega)
  have x2:=hI.fx.keep a2 (fun e=>by have e:w.heap.size=w.heap.size+1+1:=e; omega)
  have x3:=hI.fx.keep a3 (fun e=>by have e:w.heap.size+1=w.heap.size+1+1:=e; omega)
  have x4:=hI.el
  have x5:=hI.pD
  have x6:=hI.fx
  clear hI
  obtain ⟨m1,m2,m3⟩:=boxL_mem b0
  have hsum:=fun W' (hW':Fr W W')=>sum_any d aN aA cN cA N A x.i x.cs (some ⟨x.g,0,none⟩) x.c W' (hn.out.fr (hfW.trans hW')) hok.out hd (by rw [← hnN.out]; exact m1) (b8.2.fr hW') (by rw [← hnA.out]; exact m2) (fun c hc=>by have:=m3 c hc; unfold fitB; exact decide_eq_true (by omega))
  have hSl:=sumS_length hok.out (i:=x.i) (by rw [← hnN.out]; exact m1) x.cs
  have hcsl:x.cs.length=nA:=m2
  have hcs9:=hZ hcsl.symm
  have hd12:=hok.out.d12
  have hkeep:keepP N A R x=decide (sumS N A (x.i,x.cs)=R):=rfl
  rw [← hnN.out,← hnA.out,hcsl] at hsum
  have heq:=fun W' (hW':Fr W W') a c (hel:El W' iv a (sumS N A (x.i,x.cs)))=>Equal_ints (sumS N A (x.i,x.cs)) R a ra c rc W' hel (hR.out.fr (hfW.trans hW')) (by omega) (by rw [← hnR.out]; omega)
  rw [← hnR.out] at heq
  generalize hSS:sumS N A (x.i,x.cs)=SS at *
  rw [hcsl] at b4 ⊢
  obtain ⟨q,hq⟩:∃ q,q=decide (SS=R):=⟨_,rfl⟩
  rw [← hq] at hkeep
  rw [← hq] at heq
  replace hq:=hZ hq
  replace hsum:=hZ hsum
  replace heq:=hZ heq
  replace hSl:=hZ hSl
  clear m1 m2 m3 hcsl hSS
  replace hkeep:=hZ hkeep
  replace hp:=hZ hp
  replace x4:=hZ x4
  replace x5:=hZ x5
  replace o4:=hZ o4
  replace o5:=hZ o5
  have hmx:Tryz.prog.follows .mixedOrders=true:=by kernel_rfl
  have hft:Fence.wide.fn 124:=trivial
  have hft2:Fence.wide.fn 173:=trivial
  gi_wp2
  gi_region_with (first
   | (gi_at_call 124; (with_reducible refine (CallsIn.inRound l (callsIn_wide.2 (hsum.out _ ?_))).mono ?_); (exact fr9); rintro e w1 ⟨g1,c1,rfl,hg1,hel1,hf1⟩; have y3:=hf1.keep x3)
   | (gi_at_call 173; have hFr:Fr W w1:=(by exact fr9); have h1:=CallsIn.inRound l ((callsIn_wide (n:=1)).2 (heq.out w1 hFr (some ⟨g1,0,none⟩) c1 hel1)); refine h1.mono ?_; clear h1; rintro e w2 ⟨rfl,hf2⟩))
  all_goals
   have hfZ:Fr W w2:=by exact fr9
   clear hf1 hf2 hFr y3 hel1
   have y1:=hfZ.keep o1
   have y2:=hfZ.keepf o1 o2
   have y4:=hfZ.keep b3
   have y5:=hfZ.keep b4
   have y6:=hZ (ownsRow_fr o3 hfZ)
   replace o3:=hZ o3
   have y7:=hfZ.size
   have hfl:(pre.filter (keepP N A R)).length≤pre.length:=List.length_filter_le _ _
   have hfx:Fx (fun k=>¬ p k∧(k≠w.heap.size+3∧k≠w.heap.size+4)∧k≠W0.heap.size∧k≠W0.heap.size+1) W w2:=Fx.of_fr hfZ
   have hflat:=flat2_length ((pre.filter (keepP N A R)).map BX.enc2)
   rw [List.length_map] at hflat
   cases q with
   | false=>
     have hpf:(pre ++ [x]).filter (keepP N A R)=pre.filter (keepP N A R):=by rw [List.filter_append,List.filter_cons,hkeep.out]; simp
     have hfin:=hZ (show AllI W0 (w.heap.size+1+1) p ((pre ++ [x]).filter (keepP N A R)) w2 from by
      rw [hpf]
      exact ⟨x6.fr hfZ,x5.out,⟨v,y1,y2,y6.out,fun g hg=>⟨(o4.out g hg).1,Nat.lt_of_lt_of_le (o4.out g hg).2 y7⟩,o5.out⟩,fun z hz=>by
       obtain ⟨z1,z3,z4⟩:=x4.out z hz
       exact ⟨z1,z3,z4.fr hfZ⟩⟩)
     replace hfx:=hZ hfx
     clear hpf hflat hfl
     gi_wp2
     exact ⟨hfx.out,hfin.out⟩
   | true=>
     have hpf:(pre ++ [x]).filter (keepP N A R)=pre.filter (keepP N A R) ++ [x]:=by rw [List.filter_append,List.filter_cons,hkeep.out]; simp
     obtain ⟨K,hK⟩:∃ K,K=pre.filter (keepP N A R):=⟨_,rfl⟩
     rw [← hK] at hpf hflat hfl x4 y6 o3
     replace hpf:=hZ hpf
     replace hfx:=hZ hfx
     replace hflat:=hZ hflat
     replace hK:=hZ hK
     have hKl:K.length+1≤1000001:=by omega
     clear o3 hfl
     have hvo:∀ k,v.ownBlock=some k→W0.heap.size+2≤k:=fun k hk=>ownsRow_own_ge y6.out k hk
     have hzA:Fr w2 (w2.alloc (.cells #[.int .i64 x.i,.slice (some ⟨x.g,0,none⟩) nA x.c] 76)):=(Fr.refl w2).alloc _
     have s1:=hzA.keep y1
     have s2:=hzA.keepf y1 y2
     replace hvo:=hZ hvo
     replace hzA:=hZ hzA
     replace s1:=hZ s1
     replace s2:=hZ s2
     gi_wp2_with (gi_at_builtin; refine wpListIn_append_own_at _ rfl _ _ 83 (by rfl) (W0.heap.size+2) 76 i0 _ 2 32 Tryz.underlying83 hi hz0 hz1 hz2 rfl (by decide) _ K.length _ (by rfl) (y6.out.alloc _) ⟨w2.heap.size,0,none⟩ 1 1 [.int .i64 x.i,.slice (some ⟨x.g,0,none⟩) nA x.c] (by rfl) rfl (cell_two_new _ _ _ _) (by simp [Value.oneCell']) (by unfold maxLen; omega) (by omega) (by simp; omega) ?_; intro v' w3 hown3 hgr3 _ hat3; obtain ⟨g9,cap9,rfl⟩:=ownsRow_pos hown3 (by omega); have hFx:=Fx.of_grown hgr3; have u1:=hFx.keep s1.out (fun e=>by have e9:W0.heap.size+2≤w.heap.size+1+1:=hvo.out _ e; omega); have u2:=hFx.keepf s1.out s2.out (fun e=>by have e9:W0.heap.size+2≤w.heap.size+1+1:=hvo.out _ e; omega); replace hFx:=hZ hFx; clear hgr3)
     obtain ⟨hpush,hFF⟩:=AllI.push (by omega) x6 x5.out x4.out o4.out (fun k hk=>(hp.out k hk).2) hfZ y6.out hFx.out hown3 (by rw [hcs9.out]; rfl) hat3 u1 u2 b5 b7 b8
     rw [← hpf.out] at hpush
     refine ⟨hFF.mono (fun k e=>?_),hpush⟩
     rcases e with e | e
     ·have h1:=(o4.out k e).1
      have h2:=hvo.out k e
      exact ⟨h1,⟨by omega,by omega⟩,by omega,by omega⟩
     ·exact ⟨fun h=>by have:=(hp.out k h).1; omega,⟨by omega,by omega⟩,by omega,by omega⟩
 case done=>
  intro p xs W hS hI hK
  obtain ⟨v,o1,o2,o3,o4,o5⟩:=hI.out
  have hel:=hI.el
  have hfx:=hI.fx
  clear hI
  have hKm:(xs.filter (keepP N A R)).map stripX=(boxL m nA nN).filter fun s=>decide (sumS N A s=R):=by
   rw [← hS,List.filter_map]; rfl
  have hKnd:((xs.filter (keepP N A R)).map stripX).Nodup:=by rw [hKm]; exact (boxL_nodup m nA nN).filter _
  have hKb:∀ x,x ∈ xs.filter (keepP N A R)→x.cs.length=nA∧∀ c,c ∈ x.cs→fitB c=true:=fun x hx=>by
   have h1:stripX x ∈ boxL m nA nN:=by rw [← hS]; exact List.mem_map_of_mem (List.mem_filter.1 hx).1
   obtain ⟨-,m2,m3⟩:=boxL_mem h1
   exact ⟨m2,fun c hc=>by have:=m3 c hc; unfold fitB; exact decide_eq_true (by omega)⟩
  have hKl:(xs.filter (keepP N A R)).length≤1000001:=by
   have h1:xs.length=(boxL m nA nN).length:=by rw [← hS,List.length_map]
   have:=List.length_filter_le (keepP N A R) xs
   omega
  have hfr:Fr w W:=((Fx.of_fr hf0).trans hfx).toFr (fun k hk e=>by have e:k=w.heap.size+1+1:=e; omega)
  generalize xs.filter (keepP N A R)=K at *
  replace hS:=hZ hS
  replace hKm:=hZ hKm
  replace hKnd:=hZ hKnd
  replace hel:=hZ hel
  replace hKb:=hZ hKb
  replace hfr:=hZ hfr
  replace hfx:=hZ hfx
  have hDl:W0.heap.size < W.heap.size:=(Array.getElem?_eq_some_iff.1 hK).1
  by_cases hK0:K=[]
  ·obtain rfl:=o5 hK0
   have hres:=hZ (show ∀ W',Fr w W'→AllRet w (sortS ((boxL m nA nN).filter fun s=>decide (sumS N A s=R))) (.returned (.slice none 0 0)) W' from fun W' hW'=>by
    rw [← hKm.out]
    subst hK0
    exact ⟨none,0,[],rfl,⟨⟨rfl,.inl ⟨rfl,rfl⟩⟩,fun x hx=>by simp at hx⟩,by simp [sortS],hW'⟩)
   have hsort:=hZ (fun fv=>AnyF.slices_SortFunc_none { Tryz.sortSp with } none 0 fv W)
   clear o3 o4 o5 hK0
   gi_wp2
   refine ⟨trivial,(callsIn_wide.2 (hsort.out _)).mono ?_⟩
   rintro e W1 ⟨rfl,rfl⟩
   gi_wp2
   rw [hDs] at hK
   refine ⟨by simp,.inl ⟨_,_,rfl,run_takeDeferred hK, ?_⟩⟩
   refine ⟨_,results_tmp rfl _ _ _, ?_⟩
   exact hres.out _ (((Fx.of_fr hfr.out).trans (Fx.putObj _ _ _)).toFr (fun k hk e=>by have e:k=w.heap.size+5:=e; omega))
  ·obtain ⟨g,cap,rfl⟩:=ownsRow_pos o3 (List.length_pos_iff.2 hK0)
   have hge:=ownsRow_own_ge o3 g rfl
   have hsort:=SortFunc_sp (W0.heap.size+2) g cap K W o3 (fun x hx=>(hel.out x hx).2.2) hKnd.out (fun x hx=>by rw [(hKb.out x hx).1]; omega) (fun x hx=>(hKb.out x hx).2) hK0 hKl
   replace hsort:=hZ hsort
   have hol:=hZ o3
   clear o3 o4 o5 hK0
   gi_wp2
   refine ⟨trivial,(callsIn_wide.2 hsort.out).mono ?_⟩
   rintro e W1 ⟨rfl,K',hK1,hK2,hF1,hown1⟩
   have q1:=hF1.keep o1 (fun e=>by have e:w.heap.size+1+1=g:=e; omega)
   replace hK1:=hZ hK1
   have hKD:W1.heap[w.heap.size+5]?=some (.deferred (some [])):=by rw [← hDs]; exact (hF1.block _ hDl (fun e=>by have e:W0.heap.size=g:=e; omega)).trans hK
   have hFr1:Fr w W1:=((Fx.of_fr hfr.out).trans hF1).toFr (fun k hk e=>by have e:k=g:=e; omega)
   have hres:=hZ (show ∀ W',Fx (·=w.heap.size+5) W1 W'→AllRet w (sortS ((boxL m nA nN).filter fun s=>decide (sumS N A s=R))) (.returned (.slice (some ⟨g,0,none⟩) K.length cap)) W' from fun W' hW'=>by
    rw [← hKm.out]
    have hlK:K'.length=K.length:=hK2.length_eq
    refine ⟨some ⟨g,0,none⟩,cap,K',by rw [hlK],⟨?_,fun x hx=>?_⟩,hK1.out,((Fx.of_fr hFr1).trans hW').toFr (fun k hk e=>by have e:k=w.heap.size+5:=e; omega)⟩
    ·rw [hlK]
     exact ownsRow_mono (ownsRow_fx hown1 hW' (fun k hk e=>by
      have e:k=w.heap.size+5:=e
      have h2:g=k:=by simpa [Value.ownBlock] using hk
      omega)) (by omega)
    ·obtain ⟨z1,z2,z3⟩:=hel.out x (hK2.mem_iff.1 hx)
     have hne:=z3.ne hol.out
     have hne2:¬ x.g=g:=fun e=>hne (by rw [e]; rfl)
     have z4:=(z3.fx hF1 hne2).fx hW' (fun e=>by have e:x.g=w.heap.size+5:=e; omega)
     exact ⟨by omega,z4.lt,by rw [hlK]; exact hne,z4.2⟩)
   gi_wp2
   refine ⟨by simp,.inl ⟨_,_,rfl,run_takeDeferred hKD, ?_⟩⟩
   refine ⟨_,results_tmp rfl _ _ _, ?_⟩
   exact hres.out _ (Fx.putObj _ _ _)
end Go.Proofs.YtmalpgbbddkdcaaGreatDoor
namespace Go.Proofs.YtmalpgbbddkdcaaGreatDoor
open Go.RowKit Go.Lib
def allE9 (d n a:Nat) (R:List Int) (most:Int):Int:=if rowE R≠0 then rowE R else if R.length≠d then 5 else boundE n a most
def AllRetE (w:World) (L:List (Nat×List Int)) (err:Int) (e:Ending) (w':World):Prop :=
 (err=0→∃ a c xs,e=.returned (.tuple #[.slice a xs.length c,.int .i64 0])∧OwnSp w' w.heap.size a c xs∧xs.map stripX=L)∧(err≠0→e=.returned (.tuple #[.slice none 0 0,.int .i64 err]))∧Fr w w'
def allL (N A:List Sy) (R:List Int) (m:Nat):List (Nat×List Int):=sortS ((boxL m A.length N.length).filter fun s=>decide (sumS N A s=R))
theorem OwnSp.mono {w:World} {base base':Nat} {a:Option Addr} {c:Nat} {xs:List BX} (h:OwnSp w base a c xs) (hb:base'≤base):OwnSp w base' a c xs :=
 ⟨ownsRow_mono h.own hb,fun x hx=>⟨Nat.le_trans hb (h.el x hx).1,(h.el x hx).2⟩⟩
theorem boundE_size {n a m:Nat} (hn:n≤60) (h:boundE n a m=0):n * (2 * m+1) ^ a≤20000:=by
 unfold boundE at h
 rw [if_neg (by omega)] at h
 exact bdE_size a n (by omega) h
theorem All_any (d:Nat) (aN aA:Option Addr) (cN cA:Nat) (N A:List Sy) (R:List Int) (ra:Option Addr) (rc:Nat) (most:Int) (w:World) (hn:NotIs w aN aA cA N A) (hok:NotOk d N A) (hd:1≤d) (hR:El w iv ra R) (hRl:R.length≤1000000) (hm:boundE N.length A.length most=0→most≤20000) :
 Calls Tryz.prog 64 #[.agg #[.slice aN N.length cN,.slice aA A.length cA],.slice ra R.length rc,.int .i64 most] w (AllRetE w (allL N A R most.toNat) (allE9 d N.length A.length R most)):=by
 have hn1:=hok.n1
 have hn60:=hok.n60
 have ha6:=hok.a6
 have hd12:=hok.d12
 have hchk:=fun W (hW:Fr w W)=>SCheck_ok d aN aA cN cA N A W (hn.fr hW) hok
 have hrow:=fun W (hW:Fr w W)=>Check_row R ra rc W (hR.fr hW) (by omega)
 have hbnd:=fun W=>bound_any aN aA cN cA N.length A.length most W (by omega) (by omega)
 obtain ⟨b,o,x,rfl,hbl,hxi,hc1,hc2,-⟩:=hn.noms.at hn1
 have hrl:=hok.row x (List.mem_append_left _ (List.mem_of_getElem? hxi))
 rw [hrl,Nat.zero_mul,Nat.add_zero] at hc2
 have hall:boundE N.length A.length most=0→∀ W,Fr w W→Calls Tryz.prog 120 #[.agg #[.slice (some ⟨b,o,none⟩) N.length cN,.slice aA A.length cA],.slice ra R.length rc,.int .i64 most] W (AllRet W (allL N A R most.toNat)):=fun h0 W hW=>by
  have h1:0≤most:=by
   by_cases h:most < 0
   ·unfold boundE at h0; rw [if_pos h] at h0; omega
   ·omega
  have h2:=hm h0
  obtain ⟨m,rfl⟩:∃ m:Nat,most=m:=⟨most.toNat,by omega⟩
  have h3:=boundE_size hn60 h0
  exact all_any d (some ⟨b,o,none⟩) aA cN cA N A R ra rc m W (hn.fr hW) hok hd (hR.fr hW) hRl (by omega) (by rw [boxL_size]; omega)
 obtain ⟨L,hL⟩:∃ L,L=allL N A R most.toNat:=⟨_,rfl⟩
 rw [← hL] at hall ⊢
 obtain ⟨err,herr⟩:∃ err,err=allE9 d N.length A.length R most:=⟨_,rfl⟩
 rw [← herr]
 unfold allE9 at herr
 generalize hbe:boundE N.length A.length most=be at *
 obtain ⟨nR,hnR⟩:∃ nR,nR=R.length:=⟨_,rfl⟩
 rw [← hnR] at hrow hall herr hRl ⊢
 generalize N.length=nN at *
 generalize A.length=nA at *
 generalize rowE R=re at *
 clear hn hok hR hm hxi hc1 hrl
 have p1:=new2a w (.slice (some ⟨b,o,none⟩) nN cN) (.slice aA nA cA) 72
 have p2:=new2b w (.slice (some ⟨b,o,none⟩) nN cN) (.slice aA nA cA) 72
 have hfA:Fr w (w.alloc (.cells #[.slice (some ⟨b,o,none⟩) nN cN,.slice aA nA cA] 72)):=(Fr.refl w).alloc _
 have p3:=hfA.keep hc2
 replace hfA:=hZ hfA
 replace p1:=hZ p1.1
 replace p2:=hZ p2.1
 replace p3:=hZ p3
 replace hchk:=hZ hchk
 replace hrow:=hZ hrow
 replace hbnd:=hZ hbnd
 replace hall:=hZ hall
 replace hbe:=hZ hbe
 replace hL:=hZ hL
 replace hnR:=hZ hnR
 clear hc2
 by_cases h1:re=0
 ·subst h1
  rw [if_neg (by simp)] at herr
  by_cases h2:nR=d
  ·rw [if_neg (by simp [h2])] at herr
   have q2:((nR:Int) != d)=false:=by rw [h2]; simp
   replace h2:=hZ h2
   by_cases h3:be=0
   ·subst h3
    subst herr
    go_enter Tryz.func64,Tryz.ntmps64
    go_wp2_with fail
    refine (hchk.out _ hfA.out).mono ?_
    rintro e w1 ⟨rfl,hf1⟩
    go_wp2_with fail
    refine (hrow.out _ (hfA.out.trans hf1)).mono ?_
    rintro e w2 ⟨rfl,hf2⟩
    have y1:=(hf1.trans hf2).keep p1.out
    have y2:=(hf1.trans hf2).keep p2.out
    have y3:=(hf1.trans hf2).keep p3.out
    have hfw:=hfA.out.trans (hf1.trans hf2)
    clear hf1 hf2
    go_wp2_with fail
    refine (hbnd.out _).mono ?_
    rintro e w3 ⟨rfl,hf3⟩
    replace y1:=hf3.keep y1
    replace y2:=hf3.keep y2
    go_wp2_with fail
    have hf4:=hfw.trans hf3
    refine (hall.out (by simp) _ hf4).mono ?_
    rintro e w4 ⟨a4,c4,xs,rfl,hown,hxs,hf5⟩
    have hfin:=hZ (hown.mono hf4.size)
    replace hxs:=hZ hxs
    go_wp2_with fail
    go_ret2
    exact ⟨fun _=>⟨a4,c4,xs,rfl,hfin.out,hxs.out⟩,fun h=>absurd rfl h,hf4.trans hf5⟩
   ·have q3:(be != 0)=true:=by rw [bne_iff_ne]; exact h3
    subst herr
    go_enter Tryz.func64,Tryz.ntmps64
    go_wp2_with fail
    refine (hchk.out _ hfA.out).mono ?_
    rintro e w1 ⟨rfl,hf1⟩
    go_wp2_with fail
    refine (hrow.out _ (hfA.out.trans hf1)).mono ?_
    rintro e w2 ⟨rfl,hf2⟩
    have y1:=(hf1.trans hf2).keep p1.out
    have y2:=(hf1.trans hf2).keep p2.out
    have y3:=(hf1.trans hf2).keep p3.out
    have hfw:=hfA.out.trans (hf1.trans hf2)
    clear hf1 hf2
    go_wp2_with fail
    refine (hbnd.out _).mono ?_
    rintro e w3 ⟨rfl,hf3⟩
    go_wp2_with fail
    go_ret2
    exact ⟨fun h=>absurd h h3,fun _=>rfl,hfw.trans hf3⟩
  ·rw [if_pos h2] at herr
   subst herr
   have q2:((nR:Int) != d)=true:=by rw [bne_iff_ne]; omega
   replace h2:=hZ h2
   go_enter Tryz.func64,Tryz.ntmps64
   go_wp2_with fail
   refine (hchk.out _ hfA.out).mono ?_
   rintro e w1 ⟨rfl,hf1⟩
   go_wp2_with fail
   refine (hrow.out _ (hfA.out.trans hf1)).mono ?_
   rintro e w2 ⟨rfl,hf2⟩
   have y1:=(hf1.trans hf2).keep p1.out
   have y2:=(hf1.trans hf2).keep p2.out
   have y3:=(hf1.trans hf2).keep p3.out
   have hfw:=hfA.out.trans (hf1.trans hf2)
   clear hf1 hf2
   go_wp2_with fail
   go_ret2
   exact ⟨fun h=>absurd h (by decide),fun _=>rfl,hfw⟩
 ·rw [if_pos h1] at herr
  have q1:(re != 0)=true:=by rw [bne_iff_ne]; exact h1
  subst herr
  go_enter Tryz.func64,Tryz.ntmps64
  go_wp2_with fail
  refine (hchk.out _ hfA.out).mono ?_
  rintro e w1 ⟨rfl,hf1⟩
  go_wp2_with fail
  refine (hrow.out _ (hfA.out.trans hf1)).mono ?_
  rintro e w2 ⟨rfl,hf2⟩
  go_wp2_with fail
  go_ret2
  exact ⟨fun h=>absurd h h1,fun _=>rfl,hfA.out.trans (hf1.trans hf2)⟩
end Go.Proofs.YtmalpgbbddkdcaaGreatDoor
