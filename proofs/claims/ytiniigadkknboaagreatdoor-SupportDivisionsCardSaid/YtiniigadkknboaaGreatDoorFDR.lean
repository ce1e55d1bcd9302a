/- Contracts and laws: FDR. -/
import Derived.Test.YtiniigadkknboaaGreatDoorRows
import Derived.Test.YtiniigadkknboaaGreatDoorFAA
import Derived.ProofKit
import Derived.LaidMore
import Derived.OpenShut
import Derived.MakeChecks
import Derived.Stop.Joined
import Derived.Lib.LaidTab
import Derived.Shelf.Vars
import Derived.HandedShaped
import Derived.Lay
import Derived.Deep.Strs
import Derived.Test.YtiniigadkknboaaGreatDoorFAC
import Derived.Test.YtiniigadkknboaaGreatDoorFBM
import Derived.Deep.Slices

set_option maxRecDepth 100000
namespace Go.Proofs.YtiniigadkknboaaGreatDoor
open Go.ChangeShapes Go.WideShapes Go.ChangeAt Go.RowKit
theorem Oi:ownKnob Tryz.prog.godebug=none:=by kernel_rfl
theorem Gy:laidOutB Tryz.prog=true:=by kernel_rfl
def LL:List (String×DataW Unit):=Rows.supportEndsRow.laid
theorem Mv (os:Os) (args:Array Value):laidMetH Tryz.prog LL ((World.laidAll Tryz.prog os LL).forCall (fun _ _=>0) ⟨#[],args,[]⟩).memory:=by
 rw [MakeChecks.laidMetH_plain _ _ _ (by kernel_rfl)]; exact laidMet_laidAll _ (by kernel_rfl) (by kernel_rfl)
theorem Aae:(Tryz.prog.globals[2]?).map (·.type)=some 306:=by kernel_rfl
theorem Aal:Tryz.prog.cellsOf 306=20:=by kernel_rfl
theorem Aak:Tryz.prog.cellsOf 224=1:=by kernel_rfl
theorem KH {W:World} (h:laidMetH Tryz.prog LL W):G W:=by
 rw [MakeChecks.laidMetH_plain _ _ _ (by kernel_rfl)] at h
 obtain ⟨ps,⟨g0,t0,cs0,f0,p0,q0,hg0,ht0,hv0,hd0,⟨g1,t1,cs1,f1,p1,q1,hg1,ht1,hv1,hd1,⟨g2,t2,cs2,f2,p2,q2,hg2,ht2,hv2,hd2,_,_⟩,_⟩,_⟩,_,_⟩:=h
 obtain rfl:=Cm (VL.symm.trans hg2)
 obtain rfl:=Cm (Aae.symm.trans ht2)
 unfold G Lib.TabIs
 rw [hv2,← Lib.cells_of_tab (k:=.u64) (zs:=Lib.pow10Tab) Tryz.underlying306 Tryz.underlying224 Aak Aal hd2]
section
variable {H:Type} {enc:TypeId×Value→H}
theorem Fa {a:Assume} {C:Checked} {os:Os} {f:FuncId} {fn:Func} {s:ChangeSpec} {conds:List PathCond} {apart fresh handsOn again:Bool} {X:World→Array Value→Prop}
 (hX:∀ (w w':World) (args:Array Value),w.heap=w'.heap→X w args→X w' args)
 (own:ownKnob C.prog.godebug=none) (started:os.Started) (noInit:C.prog.inits.idxOf? f=none) (hfn:C.prog.funcs[f]?=some fn)
 (witness:∃ (w:World) (tape:Tape) (i:Input),w.os=os∧(w.forCall tape i).Shaped C.prog∧i.vars=[]∧Input.okWide C.prog (w.forCall tape i) .any w.heap.size f i ∧
  ((s.pre enc C.prog fn conds apart (w.forCall tape i).memory i.args∧X (w.forCall tape i).memory i.args)∧sizedMet enc C.prog fn (OpenSpec.ofChange s) apart (w.forCall tape i).memory i.args)∧a.holds C.prog (lone (Frame.enter C.prog f i.args .normal) [] (w.forCall tape i)))
 (contract:∀ (W:World) (base:Nat) (args:Array Value) (ds gs:List (DataW H)) (before:List MemPlace),
  (∀ (j:Nat) t v,fn.params[j]?=some t→args[j]?=some v→Value.okWide C.prog W .any base t v) →
  DataW.Whole enc C.prog fn.params.toList s.vars apart W args.toList ds gs before →
  X W args→W.ShapedOpen C.prog →
  Calls C.prog f args W fun e W'=>∃ v,e=.returned v∧s.post enc C.prog fn apart fresh handsOn again W args v W') :
 ReturnsInHanded a C os f .any (fun w args=>(s.pre enc C.prog fn conds apart w args∧X w args)∧sizedMet enc C.prog fn (OpenSpec.ofChange s) apart w args) (s.post enc C.prog fn apart fresh handsOn again):=by
 refine returnsInHanded_of_calls own started noInit witness ?_
 intro w tape i _ hsh _ hok hpre hholds
 obtain ⟨_,_,_,fn',hfn',_,_,_,_,hval⟩:=hok
 have e:fn'=fn:=Cm (hfn'.symm.trans hfn)
 subst e
 obtain ⟨⟨⟨ds,gs,before,hw,hc⟩,hx⟩,hz⟩:=hpre
 have hw':=DataW.Whole.of_heap (w':=w.forCall tape i) (by rfl) hw
 refine (contract (w.forCall tape i) w.heap.size i.args ds gs before hval hw' (hX _ _ _ (by rfl) hx) hsh).mono fun e W' ⟨v,he,hp⟩=>?_
 subst he
 exact ChangeSpec.post_blind hp
end
open Go.ChangeShapes Go.WideShapes Go.ChangeAt Go.RowKit
theorem ZQ:Tryz.prog.cellsOf 3=1:=by kernel_rfl
section
variable {H:Type} {enc:TypeId×Value→H} {w:World} {base:Nat} {spare:Nat→Bool} {held:Bool}
theorem Vp {fuel:Nat} {cs:List Value} {x:DataW H×List MemPlace} (h:DataW.trod enc Tryz.prog w base spare held fuel 33 cs=some x) :
 ∃ (a:Option Addr) (xs:List Int) (cap:Nat),cs=[.slice a xs.length cap]∧El w iv a xs∧(∀ n,n ∈ xs→-9223372036854775808≤n∧n≤9223372036854775807):=by
 rcases open_ints Tryz.underlying33 Tryz.underlying3 ZQ h with ⟨rfl,-⟩ | ⟨a,len,cap,zs,rfl,-,hl,-,hz,-,hc,hw⟩
 ·exact ⟨none,[],0,rfl,.inl rfl,fun n hn=>by simp at hn⟩
 ·have hlz:len≤zs.length:=by rw [hz]; split <;> omega
  have hlen:(zs.take len).length=len:=by rw [Av]; omega
  refine ⟨some a,zs.take len,cap,by rw [hlen], ?_,fun n hn=>?_⟩
  ·by_cases h0:len=0
   ·exact .inl (by rw [h0,O6])
   ·have h1:=hc 0 (by omega)
    obtain ⟨b,o,s⟩:=a
    have hs:s=none:=by
     cases s with
     | none=>rfl
     | some s=>
       rw [show (⟨b,o,some s⟩:Addr).add 0=⟨b,o,some s⟩ from rfl] at h1
       unfold World.cell? at h1
       split at h1
       ·simp at h1
       ·simp at h1
    subst hs
    refine .inr ⟨b,o,rfl,A0 w _ h1,fun i y hy=>?_⟩
    have hi:i < (zs.take len).length:=(Ag.1 hy).1
    rw [hlen] at hi
    have h2:=hc i (by omega)
    rw [Bf,Ai hi] at hy
    rw [Zi,hy] at h2
    have e:(⟨b,o,none⟩:Addr).add i=⟨b,o+i,none⟩:=by
     unfold Addr.add
     split
     ·rename_i h; subst h; rfl
     ·rfl
    rw [e] at h2
    exact h2
  ·have h2:=hw n (BW hn)
   simp [Lit.wf,IntKind.min,IntKind.max,IntKind.signed,IntKind.bits] at h2
   omega
end
section
variable {H:Type} {enc:TypeId×Value→H} {w:World} {base:Nat} {spare:Nat→Bool} {held:Bool}
end
open Go.ChangeShapes Go.WideShapes Go.ChangeAt Go.RowKit
theorem ZM : Tryz.prog.globalNamed "strconv.ErrRange" = some 1 := by kernel_rfl
theorem Aaf:(Tryz.prog.globals[1]?).map (·.type)=some 181:=by kernel_rfl
theorem Ir {W:World} (h:laidMetH Tryz.prog LL W):Jd W:=by
 rw [MakeChecks.laidMetH_plain _ _ _ (by kernel_rfl)] at h
 obtain ⟨ps,⟨g0,t0,cs0,f0,p0,q0,hg0,ht0,hv0,hd0,⟨g1,t1,cs1,f1,p1,q1,hg1,ht1,hv1,hd1,⟨g2,t2,cs2,f2,p2,q2,hg2,ht2,hv2,hd2,⟨g3,t3,cs3,f3,p3,q3,hg3,ht3,hv3,hd3,_,_⟩,_⟩,_⟩,_⟩,_,_⟩:=h
 obtain rfl:=Cm (ZM.symm.trans hg3)
 obtain rfl:=Cm (Aaf.symm.trans ht3)
 obtain ⟨l4⟩:=cs3
 obtain ⟨f9,u9,v9,e9,-,-⟩:=iface_of_trod Tryz.underlying181 hd3
 have e8:l4=[.iface u9 v9]:=e9
 subst e8
 exact ⟨.iface u9 v9,by simpa using World.var?_cell ZM hv3 0,.inr ⟨u9,v9,rfl⟩⟩
theorem OQ {a b:Bool} (ha:a=true) (hb:b=true):(a && b)=true:=by rw [ha,hb]; rfl
theorem Zs {n:Int} (h:(Lit.int .u8 n).wf=true):0≤n∧n≤255:=by
 have:=h
 simp [Lit.wf,IntKind.min,IntKind.max,IntKind.signed,IntKind.bits] at this
 omega
theorem Zt {n:Int} (h:(Lit.int .u16 n).wf=true):0≤n∧n≤65535:=by
 have:=h
 simp [Lit.wf,IntKind.min,IntKind.max,IntKind.signed,IntKind.bits] at this
 omega
theorem Zu {n:Int} (h:(Lit.int .i64 n).wf=true):-9223372036854775808≤n∧n≤9223372036854775807:=by
 have:=h
 simp [Lit.wf,IntKind.min,IntKind.max,IntKind.signed,IntKind.bits] at this
 omega
section
variable {H:Type} {enc:TypeId×Value→H} {w:World} {base:Nat} {spare:Nat→Bool} {held:Bool}
theorem Vo {b:Nat} {v:Value} {d:DataW H} {p:List MemPlace} (hk:Value.okWide Tryz.prog w .any b 5 v) (h:DataW.Trod enc Tryz.prog w base spare held 5 v d p):∃ n:Int,v=.int .u8 n∧0≤n∧n≤255:=by
 obtain ⟨n,rfl⟩:=okWide_int Tryz.underlying5 hk
 obtain ⟨fu,h⟩:=h
 obtain ⟨z,e,-,wz⟩:=DM Tryz.underlying5 h
 simp [Value.cells] at e
 subst e
 exact ⟨_,rfl,Zs wz⟩
theorem Zo {b:Nat} {v:Value} {d:DataW H} {p:List MemPlace} (hk:Value.okWide Tryz.prog w .any b 71 v) (h:DataW.Trod enc Tryz.prog w base spare held 71 v d p):∃ n:Int,v=.int .u16 n∧0≤n∧n≤65535:=by
 obtain ⟨n,rfl⟩:=okWide_int Tryz.underlying71 hk
 obtain ⟨fu,h⟩:=h
 obtain ⟨z,e,-,wz⟩:=DM Tryz.underlying71 h
 simp [Value.cells] at e
 subst e
 exact ⟨_,rfl,Zt wz⟩
theorem Ny {b:Nat} {v:Value} {d:DataW H} {p:List MemPlace} (hk:Value.okWide Tryz.prog w .any b 3 v) (h:DataW.Trod enc Tryz.prog w base spare held 3 v d p):∃ n:Int,v=.int .i64 n∧-9223372036854775808≤n∧n≤9223372036854775807:=by
 obtain ⟨n,rfl⟩:=okWide_int Tryz.underlying3 hk
 obtain ⟨fu,h⟩:=h
 obtain ⟨z,e,-,wz⟩:=DM Tryz.underlying3 h
 simp [Value.cells] at e
 subst e
 exact ⟨_,rfl,Zu wz⟩
theorem TP {b:Nat} {v:Value} {d:DataW H} {p:List MemPlace} (hk:Value.okWide Tryz.prog w .any b 33 v) (h:DataW.Trod enc Tryz.prog w base spare held 33 v d p):∃ (a:Option Addr) (xs:List Int) (cap:Nat),v=.slice a xs.length cap∧El w iv a xs∧(∀ n,n ∈ xs→-9223372036854775808≤n∧n≤9223372036854775807):=by
 obtain ⟨a9,n9,c9,rfl⟩:=okWide_slice Tryz.underlying33 hk
 obtain ⟨fu,h⟩:=h
 obtain ⟨a,xs,cap,e,h1,h2⟩:=Vp h
 simp [Value.cells] at e
 obtain ⟨rfl,rfl,rfl⟩:=e
 exact ⟨a9,xs,c9,rfl,h1,h2⟩
theorem Zp {b:Nat} {v:Value} {d:DataW H} {p:List MemPlace} (hk:Value.okWide Tryz.prog w .any b 24 v) (h:DataW.Trod enc Tryz.prog w base spare held 24 v d p):∃ (a:Option Addr) (xs:List Int) (cap:Nat),v=.slice a xs.length cap∧El w iv a xs:=by
 obtain ⟨a9,n9,c9,rfl⟩:=okWide_slice Tryz.underlying24 hk
 obtain ⟨fu,h⟩:=h
 have key:∃ (a:Option Addr) (xs:List Int) (cap:Nat),[Value.slice a9 n9 c9]=[.slice a xs.length cap]∧El w iv a xs:=by
  rcases open_ints Tryz.underlying24 Tryz.underlying3 ZQ (show DataW.trod enc Tryz.prog w base spare held fu 24 [Value.slice a9 n9 c9]=_ from h) with ⟨e,-⟩ | ⟨a,len,cap,zs,e,-,hl,-,hz,-,hc,hw⟩
  ·rw [e]; exact ⟨none,[],0,rfl,.inl rfl⟩
  ·rw [e]
   have hlz:len≤zs.length:=by rw [hz]; split <;> omega
   have hlen:(zs.take len).length=len:=by rw [Av]; omega
   refine ⟨some a,zs.take len,cap,by rw [hlen], ?_⟩
   by_cases h0:len=0
   ·exact .inl (by rw [h0,O6])
   ·have h1:=hc 0 (by omega)
    obtain ⟨b,o,s⟩:=a
    have hs:s=none:=by
     cases s with
     | none=>rfl
     | some s=>
       rw [show (⟨b,o,some s⟩:Addr).add 0=⟨b,o,some s⟩ from rfl] at h1
       unfold World.cell? at h1
       split at h1
       ·simp at h1
       ·simp at h1
    subst hs
    refine .inr ⟨b,o,rfl,A0 w _ h1,fun i y hy=>?_⟩
    have hi:i < (zs.take len).length:=(Ag.1 hy).1
    rw [hlen] at hi
    have h2:=hc i (by omega)
    rw [Bf,Ai hi] at hy
    rw [Zi,hy] at h2
    have e:(⟨b,o,none⟩:Addr).add i=⟨b,o+i,none⟩:=by
     unfold Addr.add
     split
     ·rename_i h; subst h; rfl
     ·rfl
    rw [e] at h2
    exact h2
 obtain ⟨a,xs,cap,e,h1⟩:=key
 simp at e
 obtain ⟨rfl,rfl,rfl⟩:=e
 exact ⟨a9,xs,c9,rfl,h1⟩
end
theorem YG:Tryz.prog.readableRec 5=true:=by kernel_rfl
theorem Z7:Tryz.prog.readableRec 71=true:=by kernel_rfl
theorem SA:Tryz.prog.readableRec 3=true:=by kernel_rfl
theorem Vg:Tryz.prog.readableRec 33=true:=by kernel_rfl
theorem Z8:Tryz.prog.readableRec 24=true:=by kernel_rfl
theorem N9:5 < Tryz.prog.types.size∧71 < Tryz.prog.types.size∧3 < Tryz.prog.types.size∧33 < Tryz.prog.types.size∧24 < Tryz.prog.types.size:=AV (by kernel_rfl)
open Go.ChangeShapes Go.WideShapes Go.ChangeAt Go.RowKit
theorem cI8:Tryz.prog.cellsOf 43=1:=by kernel_rfl
theorem cU8:Tryz.prog.cellsOf 5=1:=by kernel_rfl
theorem cB:Tryz.prog.cellsOf 4=1:=by kernel_rfl
theorem pl4 {α:Type} (l:List α) (h:l.length=4):∃ a b c d,l=[a,b,c,d]:=by
 match l,h with
 | [a,b,c,d],_=>exact ⟨a,b,c,d,rfl⟩
theorem XH:Tryz.prog.cellsOf 44=4:=by kernel_rfl
theorem Y1:Tryz.prog.cellsOf 40=1:=by kernel_rfl
theorem Y0:Tryz.prog.cellsOf 42=3:=by kernel_rfl
theorem SC {n:Int} (h:(Lit.int .i8 n).wf=true):-128≤n∧n≤127:=by
 have:=h
 simp [Lit.wf,IntKind.min,IntKind.max,IntKind.signed,IntKind.bits] at this
 omega
theorem pl3 {α:Type} (l:List α) (h:l.length=3):∃ a b c,l=[a,b,c]:=by
 match l,h with
 | [a,b,c],_=>exact ⟨a,b,c,rfl⟩
section
variable {H:Type} {enc:TypeId×Value→H} {w:World} {base:Nat} {spare:Nat→Bool} {held:Bool}
theorem F5 {fuel:Nat} {cs:List Value} {x:DataW H×List MemPlace} (hl:cs.length=4) (h:DataW.trod enc Tryz.prog w base spare held fuel 44 cs=some x):∃ m n k j:Int,cs=[.int .i8 m,.int .i8 n,.int .i8 k,.int .i8 j]∧(-128≤m∧m≤127)∧(-128≤n∧n≤127)∧(-128≤k∧k≤127)∧(-128≤j∧j≤127):=by
 obtain ⟨a,b,c,d,rfl⟩:=pl4 cs hl
 obtain ⟨xs,m,-,-,-,hn,hi⟩:=DataW.trod_array Tryz.underlying44 h
 have h0:=hi 0 (by decide)
 have h1:=hi 1 (by decide)
 have h2:=hi 2 (by decide)
 have h3:=hi 3 (by decide)
 rw [cI8] at h0 h1 h2 h3
 obtain ⟨y0,y1,y2,y3,rfl⟩:=pl4 xs hn
 obtain ⟨z0,e0,-,w0⟩:=DM Tryz.underlying43 (show _=some y0 from h0)
 obtain ⟨z1,e1,-,w1⟩:=DM Tryz.underlying43 (show _=some y1 from h1)
 obtain ⟨z2,e2,-,w2⟩:=DM Tryz.underlying43 (show _=some y2 from h2)
 obtain ⟨z3,e3,-,w3⟩:=DM Tryz.underlying43 (show _=some y3 from h3)
 simp at e0 e1 e2 e3
 subst e0 e1 e2 e3
 exact ⟨z0,z1,z2,z3,rfl,SC w0,SC w1,SC w2,SC w3⟩
theorem Ta (b o i:Nat):(⟨b,o,none⟩:Addr).add i=⟨b,o+i,none⟩:=by
 unfold Addr.add
 split
 ·rename_i h; subst h; rfl
 ·rfl
theorem Rm {fuel:Nat} {cs:List Value} {x:DataW H×List MemPlace} (h:DataW.trod enc Tryz.prog w base spare held fuel 40 cs=some x) :
 ∃ (a:Option Addr) (L:List (List Int)) (cap:Nat),cs=[.slice a L.length cap]∧Gj w a L∧MJ L:=by
 rcases Go.Deep.open_slice Tryz.underlying40 h with ⟨rfl,-⟩ | ⟨a,len,cap,m,n,D,Pl,rfl,-,hl,-,hm,-,hx⟩
 ·exact ⟨none,[],0,rfl,.inl rfl,fun r hr=>by cases hr⟩
 ·have hlm:len≤m:=by rw [hm]; split <;> omega
  have each:∀ i,i < len→∃ r:List Int,r.length=4∧(∀ x,x ∈ r→-128≤x∧x≤127)∧∀ (k:Nat) (x:Int),r[k]?=some x→w.cell? ((a.add (i * 4)).add k)=some (.int .i8 x):=by
   intro i hi
   obtain ⟨cs',h1,h2⟩:=hx i (by omega)
   rw [XH] at h1
   obtain ⟨-,hlen,hcell⟩:=World.cells?_some h1
   obtain ⟨p,q,k,j9,rfl,hp,hq,hk,hj9⟩:=F5 hlen h2
   refine ⟨[p,q,k,j9],rfl, ?_,fun j x hj=>?_⟩
   ·simp only [Bv,List.not_mem_nil,or_false,forall_eq_or_imp,forall_eq]
    exact ⟨hp,hq,hk,hj9⟩
   ·match j,hj with
    | 0,hj=>injection hj with hj; subst hj; exact hcell 0 (by omega)
    | 1,hj=>injection hj with hj; subst hj; exact hcell 1 (by omega)
    | 2,hj=>injection hj with hj; subst hj; exact hcell 2 (by omega)
    | 3,hj=>injection hj with hj; subst hj; exact hcell 3 (by omega)
    | j+4,hj=>cases hj
  obtain ⟨q,hq⟩:=Go.Deep.choose_lt each
  have hget:∀ i r,((List.range len).map q)[i]?=some r→i < len∧r=q i:=fun i r hr=>by
   by_cases hi:i < len
   ·rw [Au,List.getElem?_range hi] at hr
    injection hr with hr
    exact ⟨hi,hr.symm⟩
   ·rw [AG (by rw [AE,BX]; omega)] at hr
    cases hr
  refine ⟨some a,(List.range len).map q,cap,by rw [AE,BX], ?_,fun r hr=>?_⟩
  ·by_cases h0:len=0
   ·subst h0; exact .inl rfl
   ·obtain ⟨x,hx0⟩:∃ x,(q 0)[0]?=some x:=⟨_,Ac (by rw [(hq 0 (by omega)).1]; decide)⟩
    have h1:=(hq 0 (by omega)).2.2 0 x hx0
    obtain ⟨b,o,s⟩:=a
    have hs:s=none:=by
     cases s with
     | none=>rfl
     | some s=>
       rw [show ((⟨b,o,some s⟩:Addr).add (0 * 4)).add 0=⟨b,o,some s⟩ from rfl] at h1
       unfold World.cell? at h1
       split at h1
       ·simp at h1
       ·simp at h1
    subst hs
    refine .inr ⟨b,o,rfl,A0 w _ h1,fun i r hr k x hx=>?_⟩
    obtain ⟨hi,rfl⟩:=hget i r hr
    have h2:=(hq i hi).2.2 k x hx
    rw [Ta,Ta] at h2
    exact h2
  ·obtain ⟨i,hi⟩:=BF.1 hr
   obtain ⟨hi2,rfl⟩:=hget i r hi
   exact ⟨(hq i hi2).1,(hq i hi2).2.1⟩
theorem Rl {fuel:Nat} {l:List Value} {x:DataW H×List MemPlace} (h:DataW.trod enc Tryz.prog w base spare held fuel 42 l=some x) :
 ∃ (np:Int) (a:Option Addr) (L:List (List Int)) (cap:Nat) (vals:Bool),l=[.int .u8 np,.slice a L.length cap,.bool vals]∧(0≤np∧np≤255)∧Gj w a L∧MJ L:=by
 obtain ⟨xs,m,-,-,hl,hn,hi⟩:=DataW.trod_struct Tryz.underlying42 h
 rw [Y0] at hl
 obtain ⟨c0,c1,c2,rfl⟩:=pl3 l hl
 obtain ⟨y0,y1,y2,rfl⟩:=pl3 xs hn
 have h0:DataW.trod enc Tryz.prog w base spare held m 5 (([c0,c1,c2].drop 0).take (Tryz.prog.cellsOf 5))=some y0:=hi 0 _ rfl
 have h1:DataW.trod enc Tryz.prog w base spare held m 40 (([c0,c1,c2].drop 1).take (Tryz.prog.cellsOf 40))=some y1:=hi 1 _ rfl
 have h2:DataW.trod enc Tryz.prog w base spare held m 4 (([c0,c1,c2].drop 2).take (Tryz.prog.cellsOf 4))=some y2:=hi 2 _ rfl
 rw [cU8] at h0
 rw [Y1] at h1
 rw [cB] at h2
 obtain ⟨np,e0,-,w0⟩:=DM Tryz.underlying5 (show _=some y0 from h0)
 obtain ⟨a,L,cap,e1,k1,k2⟩:=Rm (show _=some y1 from h1)
 obtain ⟨vals,e2,-⟩:=DataW.trod_bool Tryz.underlying4 (show _=some y2 from h2)
 simp at e0 e1 e2
 subst e0 e1 e2
 exact ⟨np,a,L,cap,vals,rfl,Zs w0,k1,k2⟩
theorem KW {b:Nat} {v:Value} {d:DataW H} {p:List MemPlace} (hk:Value.okWide Tryz.prog w .any b 42 v) (h:DataW.Trod enc Tryz.prog w base spare held 42 v d p) :
 ∃ (np:Int) (a:Option Addr) (L:List (List Int)) (cap:Nat) (vals:Bool),v=.agg #[.int .u8 np,.slice a L.length cap,.bool vals]∧(0≤np∧np≤255)∧Gj w a L∧MJ L:=by
 obtain ⟨cs,rfl,-⟩:=okWide_struct Tryz.underlying42 hk
 obtain ⟨l⟩:=cs
 obtain ⟨fu,h⟩:=h
 obtain ⟨np,a,L,cap,vals,rfl,h1,h2,h3⟩:=Rl (l:=l) h
 exact ⟨np,a,L,cap,vals,rfl,h1,h2,h3⟩
end
theorem Nu:Tryz.prog.readableRec 42=true:=by kernel_rfl
theorem US:42 < Tryz.prog.types.size:=AV (by kernel_rfl)
open Go.ChangeShapes Go.WideShapes Go.ChangeAt Go.RowKit
theorem Y2:Tryz.prog.cellsOf 46=9:=by kernel_rfl
theorem ZR:Tryz.prog.cellsOf 78=8:=by kernel_rfl
theorem ZP:Tryz.prog.cellsOf 3=1:=by kernel_rfl
theorem pl9 {α:Type} (l:List α) (h:l.length=9):∃ a b c d e f g i j,l=[a,b,c,d,e,f,g,i,j]:=by
 match l,h with
 | [a,b,c,d,e,f,g,i,j],_=>exact ⟨a,b,c,d,e,f,g,i,j,rfl⟩
theorem pl8 {α:Type} (l:List α) (h:l.length=8):∃ a b c d e f g i,l=[a,b,c,d,e,f,g,i]:=by
 match l,h with
 | [a,b,c,d,e,f,g,i],_=>exact ⟨a,b,c,d,e,f,g,i,rfl⟩
theorem pl2 {α:Type} (l:List α) (h:l.length=2):∃ a b,l=[a,b]:=by
 match l,h with
 | [a,b],_=>exact ⟨a,b,rfl⟩
theorem JW {a b c d:Int} (h0:-128≤a∧a≤127) (h1:-128≤b∧b≤127) (h2:-128≤c∧c≤127) (h3:-128≤d∧d≤127):∀ x,x ∈ [a,b,c,d]→-128≤x∧x≤127:=by
 simp only [Bv,List.not_mem_nil,or_false,forall_eq_or_imp,forall_eq]
 exact ⟨h0,h1,h2,h3⟩
theorem KX {P:Program} {w:World} {r:Reach} {base n:Nat} {t e:TypeId} {v:Value} (ht:P.underlying t=some (.array n e)) (h:Value.okWide P w r base t v):∃ cs,v=.agg cs∧cs.size=P.cellsOf t:=by
 simp only [Value.okWide,ht] at h
 obtain ⟨cs,h1,h2,_⟩:=h
 exact ⟨cs,h1,h2⟩
section
variable {H:Type} {enc:TypeId×Value→H} {w:World} {base:Nat} {spare:Nat→Bool} {held:Bool}
theorem X5 {b:Nat} {v:Value} {d:DataW H} {p:List MemPlace} (hk:Value.okWide Tryz.prog w .any b 46 v) (h:DataW.Trod enc Tryz.prog w base spare held 46 v d p) :
 ∃ a0 a1 a2 a3 b0 b1 b2 b3 IF:Int,v=.agg #[.int .i8 a0,.int .i8 a1,.int .i8 a2,.int .i8 a3,.int .i8 b0,.int .i8 b1,.int .i8 b2,.int .i8 b3,.int .i64 IF]∧(∀ x,x ∈ [a0,a1,a2,a3]→-128≤x∧x≤127)∧∀ x,x ∈ [b0,b1,b2,b3]→-128≤x∧x≤127:=by
 obtain ⟨cs,rfl,-⟩:=okWide_struct Tryz.underlying46 hk
 obtain ⟨l⟩:=cs
 obtain ⟨fu,h⟩:=h
 obtain ⟨xs,m,-,-,hl,hn,hi⟩:=DataW.trod_struct Tryz.underlying46 h
 rw [Y2] at hl
 obtain ⟨c0,c1,c2,c3,c4,c5,c6,c7,c8,rfl⟩:=pl9 l hl
 obtain ⟨y0,y1,y2,rfl⟩:=pl3 xs hn
 have h0:DataW.trod enc Tryz.prog w base spare held m 44 (([c0,c1,c2,c3,c4,c5,c6,c7,c8].drop 0).take (Tryz.prog.cellsOf 44))=some y0:=hi 0 _ rfl
 have h1:DataW.trod enc Tryz.prog w base spare held m 44 (([c0,c1,c2,c3,c4,c5,c6,c7,c8].drop 4).take (Tryz.prog.cellsOf 44))=some y1:=hi 1 _ rfl
 have h2:DataW.trod enc Tryz.prog w base spare held m 3 (([c0,c1,c2,c3,c4,c5,c6,c7,c8].drop 8).take (Tryz.prog.cellsOf 3))=some y2:=hi 2 _ rfl
 rw [XH] at h0 h1
 rw [ZP] at h2
 obtain ⟨a0,a1,a2,a3,e0,p0,p1,p2,p3⟩:=F5 rfl (show _=some y0 from h0)
 obtain ⟨b0,b1,b2,b3,e1,q0,q1,q2,q3⟩:=F5 rfl (show _=some y1 from h1)
 obtain ⟨IF,e2,-,-⟩:=DM Tryz.underlying3 (show _=some y2 from h2)
 simp at e0 e1 e2
 obtain ⟨rfl,rfl,rfl,rfl⟩:=e0
 obtain ⟨rfl,rfl,rfl,rfl⟩:=e1
 subst e2
 exact ⟨a0,a1,a2,a3,b0,b1,b2,b3,IF,rfl,JW p0 p1 p2 p3,JW q0 q1 q2 q3⟩
theorem Rn {b:Nat} {v:Value} {d:DataW H} {p:List MemPlace} (hk:Value.okWide Tryz.prog w .any b 44 v) (h:DataW.Trod enc Tryz.prog w base spare held 44 v d p) :
 ∃ a0 a1 a2 a3:Int,v=.agg #[.int .i8 a0,.int .i8 a1,.int .i8 a2,.int .i8 a3]∧∀ x,x ∈ [a0,a1,a2,a3]→-128≤x∧x≤127:=by
 obtain ⟨cs,rfl,-⟩:=KX Tryz.underlying44 hk
 obtain ⟨l⟩:=cs
 obtain ⟨fu,h⟩:=h
 obtain ⟨xs,m,-,-,hl,-,-⟩:=DataW.trod_array Tryz.underlying44 h
 obtain ⟨a0,a1,a2,a3,rfl,p0,p1,p2,p3⟩:=F5 (cs:=l) (by rw [XH] at hl; exact hl) h
 exact ⟨a0,a1,a2,a3,rfl,JW p0 p1 p2 p3⟩
theorem PJ {b:Nat} {v:Value} {d:DataW H} {p:List MemPlace} (hk:Value.okWide Tryz.prog w .any b 78 v) (h:DataW.Trod enc Tryz.prog w base spare held 78 v d p) :
 ∃ a0 a1 a2 a3 b0 b1 b2 b3:Int,v=.agg #[.int .i8 a0,.int .i8 a1,.int .i8 a2,.int .i8 a3,.int .i8 b0,.int .i8 b1,.int .i8 b2,.int .i8 b3]∧(∀ x,x ∈ [a0,a1,a2,a3]→-128≤x∧x≤127)∧∀ x,x ∈ [b0,b1,b2,b3]→-128≤x∧x≤127:=by
 obtain ⟨cs,rfl,-⟩:=KX Tryz.underlying78 hk
 obtain ⟨l⟩:=cs
 obtain ⟨fu,h⟩:=h
 obtain ⟨xs,m,-,-,hl,hn,hi⟩:=DataW.trod_array Tryz.underlying78 h
 obtain ⟨c0,c1,c2,c3,c4,c5,c6,c7,rfl⟩:=pl8 l (by rw [ZR] at hl; exact hl)
 obtain ⟨y0,y1,rfl⟩:=pl2 xs hn
 have h0:=hi 0 (by decide)
 have h1:=hi 1 (by decide)
 rw [XH] at h0 h1
 obtain ⟨a0,a1,a2,a3,e0,p0,p1,p2,p3⟩:=F5 rfl (show _=some y0 from h0)
 obtain ⟨b0,b1,b2,b3,e1,q0,q1,q2,q3⟩:=F5 rfl (show _=some y1 from h1)
 simp at e0 e1
 obtain ⟨rfl,rfl,rfl,rfl⟩:=e0
 obtain ⟨rfl,rfl,rfl,rfl⟩:=e1
 exact ⟨a0,a1,a2,a3,b0,b1,b2,b3,rfl,JW p0 p1 p2 p3,JW q0 q1 q2 q3⟩
end
theorem Zm:Tryz.prog.readableRec 46=true:=by kernel_rfl
theorem TL:Tryz.prog.readableRec 44=true:=by kernel_rfl
theorem TM:Tryz.prog.readableRec 78=true:=by kernel_rfl
theorem UR:46 < Tryz.prog.types.size∧44 < Tryz.prog.types.size∧78 < Tryz.prog.types.size:=AV (by kernel_rfl)
end Go.Proofs.YtiniigadkknboaaGreatDoor
