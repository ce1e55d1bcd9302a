/- Contracts and laws: GDR. -/
import Derived.Test.YtiniigadkknboaaGreatDoorRows
import Derived.Test.YtiniigadkknboaaGreatDoorGAA
import Derived.ProofKit
import Derived.LaidMore
import Derived.OpenShut
import Derived.MakeChecks
import Derived.Stop.Joined
import Derived.Lib.LaidTab
import Derived.Shelf.Vars
import Derived.HandedShaped
import Derived.Lay
import Derived.Deep.Strs
import Derived.Test.YtiniigadkknboaaGreatDoorGAC

set_option maxRecDepth 100000
namespace Go.Proofs.YtiniigadkknboaaGreatDoor
open Go.ChangeShapes Go.WideShapes Go.ChangeAt Go.RowKit
theorem V8:ownKnob Tryz.prog.godebug=none:=by kernel_rfl
theorem Rc:laidOutB Tryz.prog=true:=by kernel_rfl
def LL:List (String×DataW Unit):=Rows.supportEndsRow.laid
theorem UM (os:Os) (args:Array Value):laidMetH Tryz.prog LL ((World.laidAll Tryz.prog os LL).forCall (fun _ _=>0) ⟨#[],args,[]⟩).memory:=by
 rw [MakeChecks.laidMetH_plain _ _ _ (by kernel_rfl)]; exact laidMet_laidAll _ (by kernel_rfl) (by kernel_rfl)
theorem Zh:(Tryz.prog.globals[2]?).map (·.type)=some 306:=by kernel_rfl
theorem Zl:Tryz.prog.cellsOf 306=20:=by kernel_rfl
theorem Zk:Tryz.prog.cellsOf 224=1:=by kernel_rfl
theorem S5 {W:World} (h:laidMetH Tryz.prog LL W):G W:=by
 rw [MakeChecks.laidMetH_plain _ _ _ (by kernel_rfl)] at h
 obtain ⟨ps,⟨g0,t0,cs0,f0,p0,q0,hg0,ht0,hv0,hd0,⟨g1,t1,cs1,f1,p1,q1,hg1,ht1,hv1,hd1,⟨g2,t2,cs2,f2,p2,q2,hg2,ht2,hv2,hd2,_,_⟩,_⟩,_⟩,_,_⟩:=h
 obtain rfl:=Da (Ux.symm.trans hg2)
 obtain rfl:=Da (Zh.symm.trans ht2)
 unfold G Lib.TabIs
 rw [hv2,← Lib.cells_of_tab (k:=.u64) (zs:=Lib.pow10Tab) Tryz.underlying306 Tryz.underlying224 Zk Zl hd2]
section
variable {H:Type} {enc:TypeId×Value→H}
theorem Ja {a:Assume} {C:Checked} {os:Os} {f:FuncId} {fn:Func} {s:ChangeSpec} {conds:List PathCond} {apart fresh handsOn again:Bool} {X:World→Array Value→Prop}
 (hX:∀ (w w':World) (args:Array Value),w.heap=w'.heap→X w args→X w' args)
 (own:ownKnob C.prog.godebug=none) (started:os.Started) (noInit:C.prog.inits.idxOf? f=none) (hfn:C.prog.funcs[f]?=some fn)
 (witness:∃ (w:World) (tape:Tape) (i:Input),w.os=os∧(w.forCall tape i).Shaped C.prog∧i.vars=[]∧Input.okWide C.prog (w.forCall tape i) .any w.heap.size f i ∧
  ((s.pre enc C.prog fn conds apart (w.forCall tape i).memory i.args∧X (w.forCall tape i).memory i.args)∧sizedMet enc C.prog fn (OpenSpec.ofChange s) apart (w.forCall tape i).memory i.args)∧a.holds C.prog (lone (Frame.enter C.prog f i.args .normal) [] (w.forCall tape i)))
 (contract:∀ (W:World) (base:Nat) (args:Array Value) (ds gs:List (DataW H)) (before:List MemPlace),
  (∀ (j:Nat) t v,fn.params[j]?=some t→args[j]?=some v→Value.okWide C.prog W .any base t v) →
  DataW.Whole enc C.prog fn.params.toList s.vars apart W args.toList ds gs before →
  X W args→W.ShapedOpen C.prog →
  Calls C.prog f args W fun e W'=>∃ v,e=.returned v∧s.post enc C.prog fn apart fresh handsOn again W args v W') :
 ReturnsInHanded a C os f .any (fun w args=>(s.pre enc C.prog fn conds apart w args∧X w args)∧sizedMet enc C.prog fn (OpenSpec.ofChange s) apart w args) (s.post enc C.prog fn apart fresh handsOn again):=by
 refine returnsInHanded_of_calls own started noInit witness ?_
 intro w tape i _ hsh _ hok hpre hholds
 obtain ⟨_,_,_,fn',hfn',_,_,_,_,hval⟩:=hok
 have e:fn'=fn:=Da (hfn'.symm.trans hfn)
 subst e
 obtain ⟨⟨⟨ds,gs,before,hw,hc⟩,hx⟩,hz⟩:=hpre
 have hw':=DataW.Whole.of_heap (w':=w.forCall tape i) (by rfl) hw
 refine (contract (w.forCall tape i) w.heap.size i.args ds gs before hval hw' (hX _ _ _ (by rfl) hx) hsh).mono fun e W' ⟨v,he,hp⟩=>?_
 subst he
 exact ChangeSpec.post_blind hp
end
open Go.ChangeShapes Go.WideShapes Go.ChangeAt Go.RowKit
theorem YI:Tryz.prog.cellsOf 3=1:=by kernel_rfl
section
variable {H:Type} {enc:TypeId×Value→H} {w:World} {base:Nat} {spare:Nat→Bool} {held:Bool}
theorem T6 {fuel:Nat} {cs:List Value} {x:DataW H×List MemPlace} (h:DataW.trod enc Tryz.prog w base spare held fuel 33 cs=some x) :
 ∃ (a:Option Addr) (xs:List Int) (cap:Nat),cs=[.slice a xs.length cap]∧El w iv a xs∧(∀ n,n ∈ xs→-9223372036854775808≤n∧n≤9223372036854775807):=by
 rcases open_ints Tryz.underlying33 Tryz.underlying3 YI h with ⟨rfl,-⟩ | ⟨a,len,cap,zs,rfl,-,hl,-,hz,-,hc,hw⟩
 ·exact ⟨none,[],0,rfl,.inl rfl,fun n hn=>by simp at hn⟩
 ·have hlz:len≤zs.length:=by rw [hz]; split <;> omega
  have hlen:(zs.take len).length=len:=by rw [Av]; omega
  refine ⟨some a,zs.take len,cap,by rw [hlen], ?_,fun n hn=>?_⟩
  ·by_cases h0:len=0
   ·exact .inl (by rw [h0,N9])
   ·have h1:=hc 0 (by omega)
    obtain ⟨b,o,s⟩:=a
    have hs:s=none:=by
     cases s with
     | none=>rfl
     | some s=>
       rw [show (⟨b,o,some s⟩:Addr).add 0=⟨b,o,some s⟩ from rfl] at h1
       unfold World.cell? at h1
       split at h1
       ·simp at h1
       ·simp at h1
    subst hs
    refine .inr ⟨b,o,rfl,A6 w _ h1,fun i y hy=>?_⟩
    have hi:i < (zs.take len).length:=(Ae.1 hy).1
    rw [hlen] at hi
    have h2:=hc i (by omega)
    rw [Bp,Ai hi] at hy
    rw [Yd,hy] at h2
    have e:(⟨b,o,none⟩:Addr).add i=⟨b,o+i,none⟩:=by
     unfold Addr.add
     split
     ·rename_i h; subst h; rfl
     ·rfl
    rw [e] at h2
    exact h2
  ·have h2:=hw n (BZ hn)
   simp [Lit.wf,IntKind.min,IntKind.max,IntKind.signed,IntKind.bits] at h2
   omega
end
section
variable {H:Type} {enc:TypeId×Value→H} {w:World} {base:Nat} {spare:Nat→Bool} {held:Bool}
end
open Go.ChangeShapes Go.WideShapes Go.ChangeAt Go.RowKit
theorem YF : Tryz.prog.globalNamed "strconv.ErrRange" = some 1 := by kernel_rfl
theorem Zi:(Tryz.prog.globals[1]?).map (·.type)=some 181:=by kernel_rfl
theorem PL {W:World} (h:laidMetH Tryz.prog LL W):LW W:=by
 rw [MakeChecks.laidMetH_plain _ _ _ (by kernel_rfl)] at h
 obtain ⟨ps,⟨g0,t0,cs0,f0,p0,q0,hg0,ht0,hv0,hd0,⟨g1,t1,cs1,f1,p1,q1,hg1,ht1,hv1,hd1,⟨g2,t2,cs2,f2,p2,q2,hg2,ht2,hv2,hd2,⟨g3,t3,cs3,f3,p3,q3,hg3,ht3,hv3,hd3,_,_⟩,_⟩,_⟩,_⟩,_,_⟩:=h
 obtain rfl:=Da (YF.symm.trans hg3)
 obtain rfl:=Da (Zi.symm.trans ht3)
 obtain ⟨l4⟩:=cs3
 obtain ⟨f9,u9,v9,e9,-,-⟩:=iface_of_trod Tryz.underlying181 hd3
 have e8:l4=[.iface u9 v9]:=e9
 subst e8
 exact ⟨.iface u9 v9,by simpa using World.var?_cell YF hv3 0,.inr ⟨u9,v9,rfl⟩⟩
theorem WC {a b:Bool} (ha:a=true) (hb:b=true):(a && b)=true:=by rw [ha,hb]; rfl
theorem Zf {n:Int} (h:(Lit.int .u8 n).wf=true):0≤n∧n≤255:=by
 have:=h
 simp [Lit.wf,IntKind.min,IntKind.max,IntKind.signed,IntKind.bits] at this
 omega
theorem Yq {n:Int} (h:(Lit.int .u16 n).wf=true):0≤n∧n≤65535:=by
 have:=h
 simp [Lit.wf,IntKind.min,IntKind.max,IntKind.signed,IntKind.bits] at this
 omega
theorem Yr {n:Int} (h:(Lit.int .i64 n).wf=true):-9223372036854775808≤n∧n≤9223372036854775807:=by
 have:=h
 simp [Lit.wf,IntKind.min,IntKind.max,IntKind.signed,IntKind.bits] at this
 omega
section
variable {H:Type} {enc:TypeId×Value→H} {w:World} {base:Nat} {spare:Nat→Bool} {held:Bool}
theorem OK {b:Nat} {v:Value} {d:DataW H} {p:List MemPlace} (hk:Value.okWide Tryz.prog w .any b 5 v) (h:DataW.Trod enc Tryz.prog w base spare held 5 v d p):∃ n:Int,v=.int .u8 n∧0≤n∧n≤255:=by
 obtain ⟨n,rfl⟩:=okWide_int Tryz.underlying5 hk
 obtain ⟨fu,h⟩:=h
 obtain ⟨z,e,-,wz⟩:=Yh Tryz.underlying5 h
 simp [Value.cells] at e
 subst e
 exact ⟨_,rfl,Zf wz⟩
theorem Yk {b:Nat} {v:Value} {d:DataW H} {p:List MemPlace} (hk:Value.okWide Tryz.prog w .any b 71 v) (h:DataW.Trod enc Tryz.prog w base spare held 71 v d p):∃ n:Int,v=.int .u16 n∧0≤n∧n≤65535:=by
 obtain ⟨n,rfl⟩:=okWide_int Tryz.underlying71 hk
 obtain ⟨fu,h⟩:=h
 obtain ⟨z,e,-,wz⟩:=Yh Tryz.underlying71 h
 simp [Value.cells] at e
 subst e
 exact ⟨_,rfl,Yq wz⟩
theorem Yn {b:Nat} {v:Value} {d:DataW H} {p:List MemPlace} (hk:Value.okWide Tryz.prog w .any b 3 v) (h:DataW.Trod enc Tryz.prog w base spare held 3 v d p):∃ n:Int,v=.int .i64 n∧-9223372036854775808≤n∧n≤9223372036854775807:=by
 obtain ⟨n,rfl⟩:=okWide_int Tryz.underlying3 hk
 obtain ⟨fu,h⟩:=h
 obtain ⟨z,e,-,wz⟩:=Yh Tryz.underlying3 h
 simp [Value.cells] at e
 subst e
 exact ⟨_,rfl,Yr wz⟩
theorem Yl {b:Nat} {v:Value} {d:DataW H} {p:List MemPlace} (hk:Value.okWide Tryz.prog w .any b 33 v) (h:DataW.Trod enc Tryz.prog w base spare held 33 v d p):∃ (a:Option Addr) (xs:List Int) (cap:Nat),v=.slice a xs.length cap∧El w iv a xs∧(∀ n,n ∈ xs→-9223372036854775808≤n∧n≤9223372036854775807):=by
 obtain ⟨a9,n9,c9,rfl⟩:=okWide_slice Tryz.underlying33 hk
 obtain ⟨fu,h⟩:=h
 obtain ⟨a,xs,cap,e,h1,h2⟩:=T6 h
 simp [Value.cells] at e
 obtain ⟨rfl,rfl,rfl⟩:=e
 exact ⟨a9,xs,c9,rfl,h1,h2⟩
theorem Ym {b:Nat} {v:Value} {d:DataW H} {p:List MemPlace} (hk:Value.okWide Tryz.prog w .any b 24 v) (h:DataW.Trod enc Tryz.prog w base spare held 24 v d p):∃ (a:Option Addr) (xs:List Int) (cap:Nat),v=.slice a xs.length cap∧El w iv a xs:=by
 obtain ⟨a9,n9,c9,rfl⟩:=okWide_slice Tryz.underlying24 hk
 obtain ⟨fu,h⟩:=h
 have key:∃ (a:Option Addr) (xs:List Int) (cap:Nat),[Value.slice a9 n9 c9]=[.slice a xs.length cap]∧El w iv a xs:=by
  rcases open_ints Tryz.underlying24 Tryz.underlying3 YI (show DataW.trod enc Tryz.prog w base spare held fu 24 [Value.slice a9 n9 c9]=_ from h) with ⟨e,-⟩ | ⟨a,len,cap,zs,e,-,hl,-,hz,-,hc,hw⟩
  ·rw [e]; exact ⟨none,[],0,rfl,.inl rfl⟩
  ·rw [e]
   have hlz:len≤zs.length:=by rw [hz]; split <;> omega
   have hlen:(zs.take len).length=len:=by rw [Av]; omega
   refine ⟨some a,zs.take len,cap,by rw [hlen], ?_⟩
   by_cases h0:len=0
   ·exact .inl (by rw [h0,N9])
   ·have h1:=hc 0 (by omega)
    obtain ⟨b,o,s⟩:=a
    have hs:s=none:=by
     cases s with
     | none=>rfl
     | some s=>
       rw [show (⟨b,o,some s⟩:Addr).add 0=⟨b,o,some s⟩ from rfl] at h1
       unfold World.cell? at h1
       split at h1
       ·simp at h1
       ·simp at h1
    subst hs
    refine .inr ⟨b,o,rfl,A6 w _ h1,fun i y hy=>?_⟩
    have hi:i < (zs.take len).length:=(Ae.1 hy).1
    rw [hlen] at hi
    have h2:=hc i (by omega)
    rw [Bp,Ai hi] at hy
    rw [Yd,hy] at h2
    have e:(⟨b,o,none⟩:Addr).add i=⟨b,o+i,none⟩:=by
     unfold Addr.add
     split
     ·rename_i h; subst h; rfl
     ·rfl
    rw [e] at h2
    exact h2
 obtain ⟨a,xs,cap,e,h1⟩:=key
 simp at e
 obtain ⟨rfl,rfl,rfl⟩:=e
 exact ⟨a9,xs,c9,rfl,h1⟩
end
theorem TU:Tryz.prog.readableRec 5=true:=by kernel_rfl
theorem Y7:Tryz.prog.readableRec 71=true:=by kernel_rfl
theorem Y9:Tryz.prog.readableRec 3=true:=by kernel_rfl
theorem Yz:Tryz.prog.readableRec 33=true:=by kernel_rfl
theorem Y8:Tryz.prog.readableRec 24=true:=by kernel_rfl
theorem Tp:5 < Tryz.prog.types.size∧71 < Tryz.prog.types.size∧3 < Tryz.prog.types.size∧33 < Tryz.prog.types.size∧24 < Tryz.prog.types.size:=AL (by kernel_rfl)
end Go.Proofs.YtiniigadkknboaaGreatDoor
