/- Contracts and laws: VDoorD. -/
import Derived.Test.YtcglmebcfeoedaaGreatDoorVDoorR
import Derived.Test.YtcglmebcfeoedaaGreatDoorVMk
import Derived.Deep.Slices
import Derived.Test.YtcglmebcfeoedaaGreatDoorVRd
import Derived.ChangeMaps5

set_option maxRecDepth 100000
namespace Go.Proofs.YtcglmebcfeoedaaGreatDoor
open Go.ChangeShapes Go.WideShapes Go.ChangeAt Go.RowKit
section
variable {H:Type} {enc:TypeId×Value→H} {w:World} {base:Nat} {spare:Nat→Bool} {held:Bool}
end
open Go.ChangeShapes Go.WideShapes Go.ChangeAt Go.RowKit
theorem Ym : Tryz.prog.globalNamed "strconv.ErrRange" = some 1 := by kernel_rfl
theorem YR:(Tryz.prog.globals[1]?).map (·.type)=some 149:=by kernel_rfl
theorem QN {W:World} (h:laidMetH Tryz.prog LL W):Er W:=by
 rw [MakeChecks.laidMetH_plain _ _ _ (by kernel_rfl)] at h
 obtain ⟨ps,⟨g0,t0,cs0,f0,p0,q0,hg0,ht0,hv0,hd0,⟨g1,t1,cs1,f1,p1,q1,hg1,ht1,hv1,hd1,⟨g2,t2,cs2,f2,p2,q2,hg2,ht2,hv2,hd2,⟨g3,t3,cs3,f3,p3,q3,hg3,ht3,hv3,hd3,⟨g4,t4,cs4,f4,p4,q4,hg4,ht4,hv4,hd4,_,_⟩,_⟩,_⟩,_⟩,_⟩,_,_⟩:=h
 obtain rfl:=DU (Ym.symm.trans hg4)
 obtain rfl:=DU (YR.symm.trans ht4)
 obtain ⟨l4⟩:=cs4
 obtain ⟨f9,u9,v9,e9,-,-⟩:=iface_of_trod Tryz.underlying149 hd4
 have e8:l4=[.iface u9 v9]:=e9
 subst e8
 exact ⟨.iface u9 v9,by simpa using World.var?_cell Ym hv4 0,.inr ⟨u9,v9,rfl⟩⟩
section
variable {H:Type} {enc:TypeId×Value→H} {w:World} {base:Nat} {spare:Nat→Bool} {held:Bool}
end
open Go.ChangeShapes Go.WideShapes Go.ChangeAt Go.RowKit
theorem Zc {α:Type} (l:List α) (h:l.length=6):∃ a b c d e f,l=[a,b,c,d,e,f]:=by
 match l,h with
 | [a,b,c,d,e,f],_=>exact ⟨a,b,c,d,e,f,rfl⟩
theorem XL:Tryz.prog.cellsOf 55=1:=by kernel_rfl
theorem XM:Tryz.prog.cellsOf 57=6:=by kernel_rfl
section
variable {H:Type} {enc:TypeId×Value→H} {w:World} {base:Nat} {spare:Nat→Bool} {held:Bool}
theorem Qd {fuel:Nat} {l:List Value} {x:DataW H×List MemPlace} (h:DataW.trod enc Tryz.prog w base spare held fuel 57 l=some x) :
 ∃ (a:Option Addr) (names:List ByteArray) (c:Nat) (s:Int) (ag:Option Addr) (gs:List Int) (cg:Nat) (ae:Option Addr) (es:List Int) (ce:Nat) (sh oct:ByteArray),l=[.slice a names.length c,.int .i64 s,.slice ag gs.length cg,.slice ae es.length ce,.string sh,.string oct]∧El w Yd a names∧El w iv ag gs∧El w iv ae es:=by
 obtain ⟨ys,m,-,-,hl,hn,hi⟩:=DataW.trod_struct Tryz.underlying57 h
 rw [XM] at hl
 obtain ⟨c0,c1,c2,c3,c4,c5,rfl⟩:=Zc l hl
 obtain ⟨y0,y1,y2,y3,y4,y5,rfl⟩:=Zc ys hn
 have h0:DataW.trod enc Tryz.prog w base spare held m 55 (([c0,c1,c2,c3,c4,c5].drop 0).take (Tryz.prog.cellsOf 55))=some y0:=hi 0 _ rfl
 have h1:DataW.trod enc Tryz.prog w base spare held m 3 (([c0,c1,c2,c3,c4,c5].drop 1).take (Tryz.prog.cellsOf 3))=some y1:=hi 1 _ rfl
 have h2:DataW.trod enc Tryz.prog w base spare held m 44 (([c0,c1,c2,c3,c4,c5].drop 2).take (Tryz.prog.cellsOf 44))=some y2:=hi 2 _ rfl
 have h3:DataW.trod enc Tryz.prog w base spare held m 44 (([c0,c1,c2,c3,c4,c5].drop 3).take (Tryz.prog.cellsOf 44))=some y3:=hi 3 _ rfl
 have h4:DataW.trod enc Tryz.prog w base spare held m 9 (([c0,c1,c2,c3,c4,c5].drop 4).take (Tryz.prog.cellsOf 9))=some y4:=hi 4 _ rfl
 have h5:DataW.trod enc Tryz.prog w base spare held m 9 (([c0,c1,c2,c3,c4,c5].drop 5).take (Tryz.prog.cellsOf 9))=some y5:=hi 5 _ rfl
 rw [XL] at h0
 rw [Ys] at h1
 rw [YY] at h2 h3
 rw [Yr] at h4 h5
 obtain ⟨a,names,c,e0,hel0⟩:=Qc (show _=some y0 from h0)
 obtain ⟨s,e1,-⟩:=DataW.trod_int Tryz.underlying3 (show _=some y1 from h1)
 obtain ⟨ag,gs,cg,e2,hel2,-⟩:=OR (show _=some y2 from h2)
 obtain ⟨ae,es,ce,e3,hel3,-⟩:=OR (show _=some y3 from h3)
 obtain ⟨sh,e4,-⟩:=DataW.trod_string Tryz.underlying9 (show _=some y4 from h4)
 obtain ⟨oct,e5,-⟩:=DataW.trod_string Tryz.underlying9 (show _=some y5 from h5)
 simp at e0 e1 e2 e3 e4 e5
 subst e0 e1 e2 e3 e4 e5
 exact ⟨a,names,c,s,ag,gs,cg,ae,es,ce,sh,oct,rfl,hel0,hel2,hel3⟩
end
theorem Sd:Tryz.prog.readableRec 57=true:=by kernel_rfl
theorem VA:57 < Tryz.prog.types.size:=Av (by kernel_rfl)
end Go.Proofs.YtcglmebcfeoedaaGreatDoor
