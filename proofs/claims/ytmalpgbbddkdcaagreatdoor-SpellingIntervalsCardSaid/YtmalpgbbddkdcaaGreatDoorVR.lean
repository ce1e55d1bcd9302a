/- Contracts and laws: VR. -/
import Derived.Test.YtmalpgbbddkdcaaGreatDoorRows
import Derived.Test.YtmalpgbbddkdcaaGreatDoorVA
import Derived.ProofKit
import Derived.LaidMore
import Derived.OpenShut
import Derived.MakeChecks
import Derived.Stop.Joined
import Derived.Lib.LaidTab
import Derived.Shelf.Vars
import Derived.HandedShaped
import Derived.Lay
import Derived.Deep.Strs

set_option maxRecDepth 100000
namespace Go.Proofs.YtmalpgbbddkdcaaGreatDoor
open Go.ChangeShapes Go.WideShapes Go.ChangeAt Go.RowKit
theorem seatOwn:ownKnob Tryz.prog.godebug=none:=by kernel_rfl
theorem seatOut:laidOutB Tryz.prog=true:=by kernel_rfl
def LL:List (String×DataW Unit):=Rows.spellingIntervalsRow.laid
theorem door_met (os:Os) (args:Array Value):laidMetH Tryz.prog LL ((World.laidAll Tryz.prog os LL).forCall (fun _ _=>0) ⟨#[],args,[]⟩).memory:=by
 rw [MakeChecks.laidMetH_plain _ _ _ (by kernel_rfl)]; exact laidMet_laidAll _ (by kernel_rfl) (by kernel_rfl)
theorem tPow:(Tryz.prog.globals[2]?).map (·.type)=some 375:=by kernel_rfl
theorem cPow:Tryz.prog.cellsOf 375=20:=by kernel_rfl
theorem cU64:Tryz.prog.cellsOf 260=1:=by kernel_rfl
theorem G_of_laid {W:World} (h:laidMetH Tryz.prog LL W):G W:=by
 rw [MakeChecks.laidMetH_plain _ _ _ (by kernel_rfl)] at h
 obtain ⟨ps,⟨g0,t0,cs0,f0,p0,q0,hg0,ht0,hv0,hd0,⟨g1,t1,cs1,f1,p1,q1,hg1,ht1,hv1,hd1,⟨g2,t2,cs2,f2,p2,q2,hg2,ht2,hv2,hd2,_,_⟩,_⟩,_⟩,_,_⟩:=h
 obtain rfl:=Option.some.inj (gnum.symm.trans hg2)
 obtain rfl:=Option.some.inj (tPow.symm.trans ht2)
 unfold G Lib.TabIs
 rw [hv2,← Lib.cells_of_tab (k:=.u64) (zs:=Lib.pow10Tab) Tryz.underlying375 Tryz.underlying260 cU64 cPow hd2]
section
variable {H:Type} {enc:TypeId×Value→H}
theorem handed_and_shaped {a:Assume} {C:Checked} {os:Os} {f:FuncId} {fn:Func} {s:ChangeSpec} {conds:List PathCond} {apart fresh handsOn again:Bool} {X:World→Array Value→Prop}
 (hX:∀ (w w':World) (args:Array Value),w.heap=w'.heap→X w args→X w' args)
 (own:ownKnob C.prog.godebug=none) (started:os.Started) (noInit:C.prog.inits.idxOf? f=none) (hfn:C.prog.funcs[f]?=some fn)
 (witness:∃ (w:World) (tape:Tape) (i:Input),w.os=os∧(w.forCall tape i).Shaped C.prog∧i.vars=[]∧Input.okWide C.prog (w.forCall tape i) .any w.heap.size f i ∧
  ((s.pre enc C.prog fn conds apart (w.forCall tape i).memory i.args∧X (w.forCall tape i).memory i.args)∧sizedMet enc C.prog fn (OpenSpec.ofChange s) apart (w.forCall tape i).memory i.args)∧a.holds C.prog (lone (Frame.enter C.prog f i.args .normal) [] (w.forCall tape i)))
 (contract:∀ (W:World) (base:Nat) (args:Array Value) (ds gs:List (DataW H)) (before:List MemPlace),
  (∀ (j:Nat) t v,fn.params[j]?=some t→args[j]?=some v→Value.okWide C.prog W .any base t v) →
  DataW.Whole enc C.prog fn.params.toList s.vars apart W args.toList ds gs before →
  X W args→W.ShapedOpen C.prog →
  Calls C.prog f args W fun e W'=>∃ v,e=.returned v∧s.post enc C.prog fn apart fresh handsOn again W args v W') :
 ReturnsInHanded a C os f .any (fun w args=>(s.pre enc C.prog fn conds apart w args∧X w args)∧sizedMet enc C.prog fn (OpenSpec.ofChange s) apart w args) (s.post enc C.prog fn apart fresh handsOn again):=by
 refine returnsInHanded_of_calls own started noInit witness ?_
 intro w tape i _ hsh _ hok hpre hholds
 obtain ⟨_,_,_,fn',hfn',_,_,_,_,hval⟩:=hok
 have e:fn'=fn:=Option.some.inj (hfn'.symm.trans hfn)
 subst e
 obtain ⟨⟨⟨ds,gs,before,hw,hc⟩,hx⟩,hz⟩:=hpre
 have hw':=DataW.Whole.of_heap (w':=w.forCall tape i) (by rfl) hw
 refine (contract (w.forCall tape i) w.heap.size i.args ds gs before hval hw' (hX _ _ _ (by rfl) hx) hsh).mono fun e W' ⟨v,he,hp⟩=>?_
 subst he
 exact ChangeSpec.post_blind hp
end
open Go.ChangeShapes Go.WideShapes Go.ChangeAt Go.RowKit
theorem cInt:Tryz.prog.cellsOf 3=1:=by kernel_rfl
theorem cRow:Tryz.prog.cellsOf 24=1:=by kernel_rfl
section
variable {H:Type} {enc:TypeId×Value→H} {w:World} {base:Nat} {spare:Nat→Bool} {held:Bool}
theorem open_row {fuel:Nat} {cs:List Value} {x:DataW H×List MemPlace} (h:DataW.trod enc Tryz.prog w base spare held fuel 24 cs=some x) :
 ∃ (a:Option Addr) (xs:List Int) (cap:Nat),cs=[.slice a xs.length cap]∧El w iv a xs∧(∀ n,n ∈ xs→-9223372036854775808≤n∧n≤9223372036854775807):=by
 rcases open_ints Tryz.underlying24 Tryz.underlying3 cInt h with ⟨rfl,-⟩ | ⟨a,len,cap,zs,rfl,-,hl,-,hz,-,hc,hw⟩
 ·exact ⟨none,[],0,rfl,.inl rfl,fun n hn=>by simp at hn⟩
 ·have hlz:len≤zs.length:=by rw [hz]; split <;> omega
  have hlen:(zs.take len).length=len:=by rw [List.length_take]; omega
  refine ⟨some a,zs.take len,cap,by rw [hlen], ?_,fun n hn=>?_⟩
  ·by_cases h0:len=0
   ·exact .inl (by rw [h0,List.take_zero])
   ·have h1:=hc 0 (by omega)
    obtain ⟨b,o,s⟩:=a
    have hs:s=none:=by
     cases s with
     | none=>rfl
     | some s=>
       rw [show (⟨b,o,some s⟩:Addr).add 0=⟨b,o,some s⟩ from rfl] at h1
       unfold World.cell? at h1
       split at h1
       ·simp at h1
       ·simp at h1
    subst hs
    refine .inr ⟨b,o,rfl,World.block_lt_of_cell? w _ h1,fun i y hy=>?_⟩
    have hi:i < (zs.take len).length:=(List.getElem?_eq_some_iff.1 hy).1
    rw [hlen] at hi
    have h2:=hc i (by omega)
    rw [List.getElem?_take,if_pos hi] at hy
    rw [List.getD_eq_getElem?_getD,hy] at h2
    have e:(⟨b,o,none⟩:Addr).add i=⟨b,o+i,none⟩:=by
     unfold Addr.add
     split
     ·rename_i h; subst h; rfl
     ·rfl
    rw [e] at h2
    exact h2
  ·have h2:=hw n (List.mem_of_mem_take hn)
   simp [Lit.wf,IntKind.min,IntKind.max,IntKind.signed,IntKind.bits] at h2
   omega
end
section
variable {H:Type} {enc:TypeId×Value→H} {w:World} {base:Nat} {spare:Nat→Bool} {held:Bool}
end
end Go.Proofs.YtmalpgbbddkdcaaGreatDoor
