/- Contracts and laws: VDoorD. -/
import Derived.Test.YtcglmebcfeoedaaGreatDoorVDoorR
import Derived.Test.YtcglmebcfeoedaaGreatDoorVMk
import Derived.Deep.Slices
import Derived.Test.YtcglmebcfeoedaaGreatDoorVRd
import Derived.ChangeMaps5
import Derived.Test.YtcglmebcfeoedaaGreatDoorVB
import Derived.Deep.SlicePairs

set_option maxRecDepth 100000
namespace Go.Proofs.YtcglmebcfeoedaaGreatDoor
open Go.ChangeShapes Go.WideShapes Go.ChangeAt Go.RowKit
section
variable {H:Type} {enc:TypeId×Value→H} {w:World} {base:Nat} {spare:Nat→Bool} {held:Bool}
end
open Go.ChangeShapes Go.WideShapes Go.ChangeAt Go.RowKit
theorem Xb : Tryz.prog.globalNamed "strconv.ErrRange" = some 1 := by kernel_rfl
theorem XD:(Tryz.prog.globals[1]?).map (·.type)=some 149:=by kernel_rfl
theorem PZ {W:World} (h:laidMetH Tryz.prog LL W):Er W:=by
 rw [MakeChecks.laidMetH_plain _ _ _ (by kernel_rfl)] at h
 obtain ⟨ps,⟨g0,t0,cs0,f0,p0,q0,hg0,ht0,hv0,hd0,⟨g1,t1,cs1,f1,p1,q1,hg1,ht1,hv1,hd1,⟨g2,t2,cs2,f2,p2,q2,hg2,ht2,hv2,hd2,⟨g3,t3,cs3,f3,p3,q3,hg3,ht3,hv3,hd3,⟨g4,t4,cs4,f4,p4,q4,hg4,ht4,hv4,hd4,_,_⟩,_⟩,_⟩,_⟩,_⟩,_,_⟩:=h
 obtain rfl:=DC (Xb.symm.trans hg4)
 obtain rfl:=DC (XD.symm.trans ht4)
 obtain ⟨l4⟩:=cs4
 obtain ⟨f9,u9,v9,e9,-,-⟩:=iface_of_trod Tryz.underlying149 hd4
 have e8:l4=[.iface u9 v9]:=e9
 subst e8
 exact ⟨.iface u9 v9,by simpa using World.var?_cell Xb hv4 0,.inr ⟨u9,v9,rfl⟩⟩
section
variable {H:Type} {enc:TypeId×Value→H} {w:World} {base:Nat} {spare:Nat→Bool} {held:Bool}
end
open Go.ChangeShapes Go.WideShapes Go.ChangeAt Go.RowKit
instance:Inhabited Sy:=⟨⟨ByteArray.empty,[],none,0⟩⟩
theorem Xf:Tryz.prog.cellsOf 29=1:=by kernel_rfl
theorem XH:Tryz.prog.cellsOf 46=2:=by kernel_rfl
theorem XL:Tryz.prog.cellsOf 31=2:=by kernel_rfl
theorem PM (b o i:Nat):(⟨b,o,none⟩:Addr).add i=⟨b,o+i,none⟩:=by
 unfold Addr.add
 split
 ·rename_i h; subst h; rfl
 ·rfl
section
variable {H:Type} {enc:TypeId×Value→H} {w:World} {base:Nat} {spare:Nat→Bool} {held:Bool}
theorem Mm {fuel:Nat} {cs:List Value} {x:DataW H×List MemPlace} (h:DataW.trod enc Tryz.prog w base spare held fuel 29 cs=some x) :
 ∃ (a:Option Addr) (xs:List Sy) (cap:Nat),cs=[.slice a xs.length cap]∧Hm w a xs∧(a=none→cap=0∧xs=[])∧xs.length≤maxLen:=by
 rcases Go.Deep.open_slice_pairs Tryz.underlying29 Tryz.underlying46 XH rfl rfl XI XJ h with ⟨rfl,-⟩ | ⟨a,len,cap,m,n,V0,V1,D0,D1,P0,P1,rfl,-,hl,hm,hmm,-,hc⟩
 ·exact ⟨none,[],0,rfl,⟨.inl rfl,fun y hy=>by simp at hy⟩,fun _=>⟨rfl,rfl⟩,BJ _⟩
 ·have hlm:len≤m:=by rw [hmm]; split <;> omega
  have each:∀ i,i < len→∃ s:Sy,w.cell? (a.add (i * 2))=some (.string s.nm)∧w.cell? (a.add (i * 2+1))=some (.slice s.ra s.row.length s.rc)∧El w iv s.ra s.row:=by
   intro i hi
   obtain ⟨h0,h1,t0,t1⟩:=hc i (by omega)
   obtain ⟨s,e0,-⟩:=DataW.trod_string Tryz.underlying9 t0
   obtain ⟨ra,rs,rc,e1,hel,-⟩:=SR t1
   simp at e0 e1
   exact ⟨⟨s,rs,ra,rc⟩,by rw [h0,e0],by rw [h1,e1],hel⟩
  obtain ⟨q,hq⟩:=Go.Deep.choose_lt each
  refine ⟨some a,(List.range len).map q,cap,by rw [Am,BV],⟨?_,fun y hy=>?_⟩,(fun e=>by cases e),by rw [Am,BV]; omega⟩
  ·by_cases h0:len=0
   ·subst h0; exact .inl rfl
   ·have h1:=(hq 0 (by omega)).1
    obtain ⟨b,o,s⟩:=a
    have hs:s=none:=by
     cases s with
     | none=>rfl
     | some s=>
       rw [show (⟨b,o,some s⟩:Addr).add (0 * 2)=⟨b,o,some s⟩ from rfl] at h1
       unfold World.cell? at h1
       split at h1
       ·simp at h1
       ·simp at h1
    subst hs
    refine .inr ⟨b,o,rfl,AY w _ h1,fun i y hy=>?_⟩
    obtain ⟨z,hz,rfl⟩:∃ z,((List.range len).map q)[i]?=some z∧z.enc=y:=by
     rw [Ap] at hy
     cases hz:((List.range len).map q)[i]? with
     | none=>rw [hz] at hy; cases hy
     | some z=>rw [hz] at hy; injection hy with hy; exact ⟨z,rfl,hy⟩
    have hi:i < len:=by
     have:=(Ag.1 hz).1
     rw [Am,BV] at this
     exact this
    rw [Ap,DX hi] at hz
    injection hz with hz
    subst hz
    obtain ⟨e0,e1,-⟩:=hq i hi
    rw [PM] at e0 e1
    exact ⟨e0,by rw [show o+i * 2+1=o+(i * 2+1) by omega]; exact e1⟩
  ·obtain ⟨i,hi,rfl⟩:=BG.1 hy
   exact (hq i (AQ.1 hi)).2.2
theorem SS {fuel:Nat} {l:List Value} {x:DataW H×List MemPlace} (h:DataW.trod enc Tryz.prog w base spare held fuel 31 l=some x) :
 ∃ (aN aA:Option Addr) (N A:List Sy) (cN cA:Nat),l=[.slice aN N.length cN,.slice aA A.length cA]∧DB w aN aA cA N A∧(aN=none→cN=0)∧N.length≤maxLen∧A.length≤maxLen:=by
 obtain ⟨ys,m,-,-,hl,hn,hi⟩:=DataW.trod_struct Tryz.underlying31 h
 rw [XL] at hl
 obtain ⟨c0,c1,rfl⟩:=XY l hl
 obtain ⟨y0,y1,rfl⟩:=XY ys hn
 have h0:DataW.trod enc Tryz.prog w base spare held m 29 (([c0,c1].drop 0).take (Tryz.prog.cellsOf 29))=some y0:=hi 0 _ rfl
 have h1:DataW.trod enc Tryz.prog w base spare held m 29 (([c0,c1].drop 1).take (Tryz.prog.cellsOf 29))=some y1:=hi 1 _ rfl
 rw [Xf] at h0 h1
 obtain ⟨aN,N,cN,e0,hN,hnN,hlN⟩:=Mm (show _=some y0 from h0)
 obtain ⟨aA,A,cA,e1,hA,hnil,hlA⟩:=Mm (show _=some y1 from h1)
 simp at e0 e1
 subst e0 e1
 exact ⟨aN,aA,N,A,cN,cA,rfl,⟨hN,hA,hnil⟩,(fun e=>(hnN e).1),hlN,hlA⟩
end
theorem UM:Tryz.prog.readableRec 31=true:=by kernel_rfl
theorem VT:31 < Tryz.prog.types.size:=Ax (by kernel_rfl)
end Go.Proofs.YtcglmebcfeoedaaGreatDoor
