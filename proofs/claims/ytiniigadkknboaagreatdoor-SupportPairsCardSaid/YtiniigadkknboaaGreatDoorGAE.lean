/- Contracts and laws: GAE. -/
import Derived.Test.YtiniigadkknboaaGreatDoorGAB
import Derived.RangeFuncNested
import Derived.RangeFuncBound
import Derived.RangeFuncCalls
import Derived.RangeFuncLeaves
import Derived.Shelf.RegionOpen
import Derived.OwnWalkIn
import Derived.TacticsInMore
import Derived.LoopNIn
import Derived.LoopIn
import Derived.Shelf.SlSortCmp.Insertion
import Derived.Test.YtiniigadkknboaaGreatDoorGAC
import Derived.Shelf.SlicesE.Clone

set_option maxRecDepth 100000
namespace Go.Proofs.YtiniigadkknboaaGreatDoor
open Go.RowKit Go.Lib
theorem Fx.putObj (W:World) (l:Nat) (o:Obj):Fx (·=l) W (W.putObj l o) :=
 ⟨rfl,rfl,rfl,by simp,fun k _ hk=>World.putObj_heap_other (fun e=>hk e)⟩
def YZ {α:Type} (J:(Nat→Prop)→List α→World→Prop):Prop :=
 ∀ p p' s W W',J p s W→Fx p W W'→(∀ k,p' k→p k∨(W.heap.size≤k∧k < W'.heap.size))→J p' s W'
def YQ {α:Type} (F:Fence) (n:Nat) (P:Program) (g:Nat) (lb:Array Value) (encs:α→Array Value) (Fresh:Nat→(Nat→Prop)→List α→α→World→Prop) (S:List α→Prop) (w0:World) (q:Nat→Prop):Prop :=
 ∀ (l:Nat) (J:(Nat→Prop)→List α→World→Prop) (W:World),Fr w0 W→YZ J →
   (∀ p pre x W1,J p pre W1→(∀ k,p k→W.heap.size≤k)→Fresh W.heap.size p pre x W1→YieldAt F (n - 1) P l (encs x) W1 fun e W'=>
    e=.returned (.bool true)∧J p (pre ++ [x]) W'∧Fx (fun k=>¬ p k∧q k) W1 W') →
   J (fun _=>False) [] W →
   CallsIn F n P g (#[.func (.yield l) #[] #[]] ++ lb) W fun e W'=>(∃ v,e=.returned v)∧∃ p xs,S xs∧J p xs W'
def YB {α:Type} (D:Nat) (q:Nat→Prop) (I:(Nat→Prop)→List α→World→Prop) (p:Nat→Prop) (xs:List α) (W:World):Exit→Act→World→Prop
 | .normal,_,W'=>Fx (fun k=>¬ p k∧q k∧k≠D∧k≠D+1) W W'∧I p xs W'
 | _,_,_=>False
theorem Og {F:Fence} {n:Nat} {P:Program} {α:Type} {g:Operand} {ps:Array Tmp} {assign body:Code} {Q:Exit→Act→World→Prop} {a:Act} {w:World}
 (hro:F.round=none) (h1:1≤n) {gf:Nat} {lb:Array Value} (hg:a.eval g=.func (.func gf) #[] lb) (hFg:F.fn gf) (eg:∀ args w,(callFunc gf args).run P w=.ok (.enter gf args) w)
 {encs:α→Array Value} {Fresh:Nat→(Nat→Prop)→List α→α→World→Prop} {S:List α→Prop} {w0:World} {q:Nat→Prop} (hseq:YQ F (n - 1) P gf lb encs Fresh S w0 q) (hb0:Fr w0 w) (hqD:q (w.heap.size+1)) (hps:∀ x,(encs x).size=ps.size)
 (I:(Nat→Prop)→List α→World→Prop)
 (hI:∀ p p' s W W',I p s W→Fx (fun k=>p k∨k=w.heap.size∨k=w.heap.size+1) W W'→(∀ k,p' k→p k∨(W.heap.size≤k∧k < W'.heap.size))→(∀ k,p' k→w.heap.size+2≤k)→I p' s W')
 (h0:I (fun _=>False) [] w) (Ax:(Nat→Prop)→List α→α→Act→World→Prop) (hAx:∀ p pre x a' W W',Ax p pre x a' W→Fx (·=w.heap.size+1) W W'→Ax p pre x a' W')
 (hassign:∀ (l:Nat) (p:Nat→Prop) (pre:List α) (x:α) (W:World) (K:Act→World→Prop),w.heap.size+2≤W.heap.size→(∀ k,p k→w.heap.size+2≤k∧k < W.heap.size)→Fresh (w.heap.size+2) p pre x W →
  (∀ a' W',Fr W W'→Ax p pre x a' W'→K a' W') →
  assign.wpIn (F.inRound l) (n - 1 - 1) P (Exit.then K (fun _ _ _=>False)) { tmps:=(ps.zip (encs x)).foldl (fun t (p,v)=>t.setIfInBounds p v) a.tmps,defers:=[] } W)
 (hbody:∀ (l:Nat) (p:Nat→Prop) (pre:List α) (x:α) (a':Act) (W:World),w.heap.size+2≤W.heap.size→(∀ k,p k→w.heap.size+2≤k∧k < W.heap.size)→I p pre W→Ax p pre x a' W →
  body.wpIn (F.inRound l) (n - 1 - 1) P (YB w.heap.size q I p (pre ++ [x]) W) a' W)
 (hdone:∀ (p:Nat→Prop) (xs:List α) (W:World),S xs→I p xs W→W.heap[w.heap.size]?=some (.deferred (some []))→Q .normal { a with defers:={ target:=.collected w.heap.size,args:=#[] } :: a.defers } W) :
 (Code.rangeFunc g ps assign body).wpIn F n P Q a w:=by
 refine wpIn_rangeFunc ?_
 intro fn hfn
 rw [hro]
 obtain ⟨rec,hrec⟩:∃ rec:LoopState→Option Code→Loop,rec=fun st pe=>{ state:=st,pending:=pe,fn,tmps:=a.tmps,params:=ps,assign,body,defers:=w.heap.size }:=⟨_,rfl⟩
 obtain ⟨W1,hW1⟩:∃ W1,(w.alloc (.deferred (some []))).alloc (.loop (rec .ready none))=W1:=⟨_,rfl⟩
 have hL1:W1.heap[w.heap.size+1]?=some (.loop (rec .ready none)):=by
  rw [← hW1]; have:=World.alloc_heap_new (w.alloc (.deferred (some []))) (.loop (rec .ready none)); rwa [AF] at this
 have hK1:W1.heap[w.heap.size]?=some (.deferred (some [])):=by
  rw [← hW1]; exact (Below.heap_alloc _ _ _ (by simp)).trans (World.alloc_heap_new w _)
 have hsz1:W1.heap.size=w.heap.size+2:=by rw [← hW1]; simp
 have hfr1:Fr w W1:=by rw [← hW1]; exact ((Fr.refl w).alloc _).alloc _
 have hI1:I (fun _=>False) [] W1:=hI _ _ _ _ _ h0 (Fx.of_fr hfr1) (fun k e=>e.elim) (fun k e=>e.elim)
 refine ⟨w.heap.size+1,[{ target:=.collected w.heap.size,args:=#[] }],W1,{ target:=.fn (.func gf) lb,args:=#[.func (.yield (w.heap.size+1)) #[] #[]] },W1,gf,
  #[.func (.yield (w.heap.size+1)) #[] #[]] ++ lb,W1, ?_, ?_, ?_, ?_,fun _=>h1, ?_⟩
 ·rw [← hW1,hrec]; exact run_enterLoop_outer _ _ _ _ _
 ·simp only [resolve,hg]
  simp [go_sem]
 ·intro f' hf'; simp [Target.leads] at hf'; subst hf'; exact hFg
 ·simp [invoke,go_sem,eg]
 ·refine (hseq (w.heap.size+1)
   (fun p pre W=>I p pre W∧W.heap[w.heap.size+1]?=some (.loop (rec .ready none))∧W.heap[w.heap.size]?=some (.deferred (some []))∧∀ k,p k→w.heap.size+2≤k∧k < W.heap.size)
   W1 (hb0.trans hfr1) ?_ ?_ ⟨hI1,hL1,hK1,fun k e=>e.elim⟩).mono ?_
  ·rintro p p' s A B ⟨hi,hl,hk,hp⟩ hfx hpp
   have hlt:w.heap.size+1 < A.heap.size:=(A8.1 hl).1
   have hpp2:∀ k,p' k→w.heap.size+2≤k:=fun k e=>by
    rcases hpp k e with e | ⟨e1,e2⟩
    ·have:=hp k e; omega
    ·omega
   refine ⟨hI _ _ _ _ _ hi (hfx.mono fun k e=>.inl e) hpp hpp2,(hfx.block _ hlt (fun e=>by have:=hp _ e; omega)).trans hl,(hfx.block _ (by omega) (fun e=>by have:=hp _ e; omega)).trans hk,fun k e=>?_⟩
   have hs:=hfx.size
   rcases hpp k e with e | ⟨e1,e2⟩
   ·have:=hp k e; omega
   ·omega
  ·rintro p pre x W ⟨hi,hl,hk,hp⟩ hpn hfresh
   have hlt:w.heap.size+1 < W.heap.size:=(A8.1 hl).1
   rw [hsz1] at hfresh
   have hy:=run_yield (P:=P) (args:=encs x) hl (by rw [hrec]; exact hps x)
   rw [hrec] at hy
   refine ⟨fn,_,assign,body,hy,roundIn_of_wpIn hfn (hassign _ p pre x W _ (by omega) hp hfresh ?_)⟩
   intro a' W' hfr' hax
   have hl':W'.heap[w.heap.size+1]?=some (.loop (rec .ready none)):=(hfr'.block _ hlt).trans hl
   have hk':W'.heap[w.heap.size]?=some (.deferred (some [])):=(hfr'.block _ (by omega)).trans hk
   have hlt':w.heap.size+1 < W'.heap.size:=Aq hlt hfr'.size
   refine ⟨_,run_beginRound hl' (by rw [hrec]), ?_⟩
   generalize hW2:World.putObj W' (w.heap.size+1) _=W2
   have hl2:W2.heap[w.heap.size+1]?=some (.loop { rec .ready none with state:=.busy }):=by rw [← hW2]; exact World.putObj_heap_same hlt'
   have hk2:W2.heap[w.heap.size]?=some (.deferred (some [])):=by rw [← hW2]; exact (World.putObj_heap_other (by omega)).trans hk'
   have hf2:Fx (·=w.heap.size+1) W' W2:=by rw [← hW2]; exact Fx.putObj _ _ _
   clear hW2
   have hi2:=hI p p _ _ _ (hI p p _ _ _ hi (Fx.of_fr hfr') (fun k e=>.inl e) (fun k e=>(hp k e).1)) (hf2.mono fun k e=>.inr (.inr e)) (fun k e=>.inl e) (fun k e=>(hp k e).1)
   have hs2:=hf2.size
   have hs1:=hfr'.size
   refine wpIn_mono (hbody _ p pre x a' _ (by omega) (fun k e=>by have:=hp k e; omega) hi2 (hAx _ _ _ _ _ _ hax hf2)) ?_
   rintro e a3 W3 hq9
   cases e with
   | normal=>
     obtain ⟨hf3,hi3⟩:=hq9
     have hl3:W3.heap[w.heap.size+1]?=some (.loop { rec .ready none with state:=.busy }):=(hf3.block _ (by omega) (fun e=>e.2.2.2 rfl)).trans hl2
     have hk3:W3.heap[w.heap.size]?=some (.deferred (some [])):=(hf3.block _ (by omega) (fun e=>e.2.2.1 rfl)).trans hk2
     have hlt3:w.heap.size+1 < W3.heap.size:=(A8.1 hl3).1
     have hr:=run_endRound (P:=P) none hl3
     have hs3:=hf3.size
     have hz0:=hb0.size
     generalize hW4:World.putObj W3 (w.heap.size+1) _=W4 at hr
     have hf4:Fx (·=w.heap.size+1) W3 W4:=by rw [← hW4]; exact Fx.putObj _ _ _
     have hl4:W4.heap[w.heap.size+1]?=some (.loop (rec .ready none)):=by rw [← hW4,hrec]; exact World.putObj_heap_same hlt3
     have hk4:W4.heap[w.heap.size]?=some (.deferred (some [])):=by rw [← hW4]; exact (World.putObj_heap_other (by omega)).trans hk3
     clear hW4
     have hs4:=hf4.size
     refine ⟨_,_,hr,rfl,⟨hI p p _ _ _ hi3 (hf4.mono fun k e=>.inr (.inr e)) (fun k e=>.inl e) (fun k e=>(hp k e).1),hl4,hk4,fun k e=>by have:=hp k e; omega⟩, ?_⟩
     ·refine (((Fx.of_fr hfr').trans (hf2.mono (fun k e=>?_))).trans (hf3.mono (fun k e=>?_))).trans ?_
      ·have e:k=w.heap.size+1:=e
       exact ⟨fun h=>by have:=hp k h; omega,by rw [e]; exact hqD⟩
      ·exact ⟨e.1,e.2.1⟩
      ·refine hf4.mono (fun k e=>?_)
       have e:k=w.heap.size+1:=e
       exact ⟨fun h=>by have:=hp k h; omega,by rw [e]; exact hqD⟩
   | ret=>exact hq9.elim
   | exit id=>exact hq9.elim
   | goto t=>exact hq9.elim
   | panic ch=>exact hq9.elim
   | outgrown=>exact hq9.elim
  ·rintro e W2 ⟨⟨v,rfl⟩,p,xs,hS,hi,hl,hk,hp⟩
   refine ⟨none,_,by have:=run_endLoop (P:=P) hl (by rw [hrec]; simp); rw [hrec] at this; exact this,hdone p xs _ hS (hI p p _ _ _ hi ((Fx.putObj W2 (w.heap.size+1) _).mono fun k e=>.inr (.inr e)) (fun k e=>.inl e) (fun k e=>(hp k e).1)) ((World.putObj_heap_other (by omega)).trans hk)⟩
end Go.Proofs.YtiniigadkknboaaGreatDoor
namespace Go.Proofs.YtiniigadkknboaaGreatDoor

end Go.Proofs.YtiniigadkknboaaGreatDoor
namespace Go.Proofs.YtiniigadkknboaaGreatDoor
open Go.Sort
def cx:List Int→Int
 | []=>0
 | x :: l=>(x.natAbs:Int)+cx l

end Go.Proofs.YtiniigadkknboaaGreatDoor
namespace Go.Proofs.YtiniigadkknboaaGreatDoor
open Go.RowKit Go.Lib Go.Shelf
def JK:Go.Shelf.Ren:=⟨fun | 41=>58 | n=>n,fun | 22=>33 | 23=>3 | 4=>4 | n=>n,fun | n=>n⟩
theorem NC:Go.Proofs.SlLaysE0.n41 Tryz.prog JK:={
 mixed:=by kernel_rfl
 f41:=⟨Tryz.f58.name,by decide,Tryz.func58.trans (congrArg some (by kernel_rfl))⟩
 t4:=Tryz.underlying4
 a4:=Tryz.isAgg4
 z4:=Tryz.sizeOf4
 v4:=Tryz.zeroValue4
 t22:=Tryz.underlying33
 a22:=Tryz.isAgg33
 z22:=Tryz.sizeOf33
 v22:=Tryz.zeroValue33 }
def RV (w:World) (xs:List Int) (e:Ending) (w':World):Prop:=∃ g c,e=.returned (.slice (some ⟨g,0,none⟩) xs.length c)∧Fr w w'∧w'.ownsRow w.heap.size 3 1 (.slice (some ⟨g,0,none⟩) xs.length c) xs.length (xs.map iv)
theorem Tb (b o c:Nat) (xs:List Int) (w:World) (hl:xs.length≤1000000) (hc:∀ (j:Nat) (x:Int),xs[j]?=some x→w.cell? ⟨b,o+j,none⟩=some (iv x)) :
 Calls Tryz.prog 58 #[.slice (some ⟨b,o,none⟩) xs.length c] w (RV w xs):=by
 obtain ⟨i0,hi,hz0,hz1,hz2⟩:=AZ C6
 refine (AnyE.slices_Clone NC i0 _ 1 8 hi hz0 hz1 hz2 rfl (by decide) Tryz.sizeOf3 b o xs.length c (xs.map iv) w (by simp) (by unfold maxLen; omega) (by omega) (fun j u h=>?_) (fun u h=>?_)).mono ?_
 ·rw [At] at h
  cases hx:xs[j]? with
  | none=>rw [hx] at h; simp at h
  | some x=>rw [hx] at h; injection h with h; rw [← h]; exact hc j x hx
 ·obtain ⟨x,-,rfl⟩:=Bc.1 h; rfl
 ·rintro e w' ⟨v',rfl,hown,hne,hb⟩
  have h2:=hown.2
  rcases h2 with ⟨h0,-⟩ | ⟨g,cap,_,hv,_⟩
  ·exact absurd h0 hne
  ·subst hv
   exact ⟨g,cap,rfl,hb,hown⟩
end Go.Proofs.YtiniigadkknboaaGreatDoor
