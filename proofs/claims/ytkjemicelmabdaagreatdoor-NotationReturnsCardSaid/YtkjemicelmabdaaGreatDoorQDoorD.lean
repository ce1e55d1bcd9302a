/-
  Contracts and laws for the statements of the seat, QDoorD.
-/
import Derived.Test.YtkjemicelmabdaaGreatDoorQDoorR
import Derived.Test.YtkjemicelmabdaaGreatDoorQMk
import Derived.Deep.Slices
import Derived.Test.YtkjemicelmabdaaGreatDoorQRd
import Derived.ChangeMaps5

set_option maxRecDepth 100000
namespace Go.Proofs.YtkjemicelmabdaaGreatDoor
open Go.ChangeShapes Go.WideShapes Go.ChangeAt Go.RowKit
theorem cI8:Tryz.prog.cellsOf 23=1:=by kernel_rfl
theorem cU8:Tryz.prog.cellsOf 5=1:=by kernel_rfl
theorem cI83:Tryz.prog.cellsOf 24=3:=by kernel_rfl
theorem cI833:Tryz.prog.cellsOf 25=9:=by kernel_rfl
theorem cTri:Tryz.prog.cellsOf 22=1:=by kernel_rfl
theorem cDraft:Tryz.prog.cellsOf 27=11:=by kernel_rfl
theorem i8_wf {n:Int} (h:(Lit.int .i8 n).wf=true):-128≤n∧n≤127:=by
 have:=h
 simp [Lit.wf,IntKind.min,IntKind.max,IntKind.signed,IntKind.bits] at this
 omega
theorem u8_wf {n:Int} (h:(Lit.int .u8 n).wf=true):0≤n∧n≤255:=by
 have:=h
 simp [Lit.wf,IntKind.min,IntKind.max,IntKind.signed,IntKind.bits] at this
 omega
theorem dl3 {α:Type} (l:List α) (h:l.length=3):∃ a b c,l=[a,b,c]:=by
 match l,h with
 | [a,b,c],_=>exact ⟨a,b,c,rfl⟩
theorem dl11 {α:Type} (l:List α) (h:l.length=11):∃ c0 c1 c2 c3 c4 c5 c6 c7 c8 c9 c10,l=[c0,c1,c2,c3,c4,c5,c6,c7,c8,c9,c10]:=by
 match l,h with
 | [c0,c1,c2,c3,c4,c5,c6,c7,c8,c9,c10],_=>exact ⟨c0,c1,c2,c3,c4,c5,c6,c7,c8,c9,c10,rfl⟩
section
variable {H:Type} {enc:TypeId×Value→H} {w:World} {base:Nat} {spare:Nat→Bool} {held:Bool}
theorem open_tri {fuel:Nat} {cs:List Value} {x:DataW H×List MemPlace} (hl:cs.length=3) (h:DataW.trod enc Tryz.prog w base spare held fuel 24 cs=some x):∃ m n k:Int,cs=[.int .i8 m,.int .i8 n,.int .i8 k]∧(-128≤m∧m≤127)∧(-128≤n∧n≤127)∧(-128≤k∧k≤127):=by
 obtain ⟨a,b,c,rfl⟩:=dl3 cs hl
 obtain ⟨xs,m,-,-,-,hn,hi⟩:=DataW.trod_array Tryz.underlying24 h
 have h0:=hi 0 (by decide)
 have h1:=hi 1 (by decide)
 have h2:=hi 2 (by decide)
 rw [cI8] at h0 h1 h2
 obtain ⟨y0,y1,y2,rfl⟩:=dl3 xs hn
 obtain ⟨z0,e0,-,w0⟩:=DataW.trod_int Tryz.underlying23 (show _=some y0 from h0)
 obtain ⟨z1,e1,-,w1⟩:=DataW.trod_int Tryz.underlying23 (show _=some y1 from h1)
 obtain ⟨z2,e2,-,w2⟩:=DataW.trod_int Tryz.underlying23 (show _=some y2 from h2)
 simp at e0 e1 e2
 subst e0 e1 e2
 exact ⟨z0,z1,z2,rfl,i8_wf w0,i8_wf w1,i8_wf w2⟩
theorem add_pl (b o i:Nat):(⟨b,o,none⟩:Addr).add i=⟨b,o+i,none⟩:=by
 unfold Addr.add
 split
 ·rename_i h; subst h; rfl
 ·rfl
theorem open_tris {fuel:Nat} {cs:List Value} {x:DataW H×List MemPlace} (h:DataW.trod enc Tryz.prog w base spare held fuel 22 cs=some x) :
 ∃ (a:Option Addr) (L:List (List Int)) (cap:Nat),cs=[.slice a L.length cap]∧TriIs w a L∧Tri8 L:=by
 rcases Go.Deep.open_slice Tryz.underlying22 h with ⟨rfl,-⟩ | ⟨a,len,cap,m,n,D,Pl,rfl,-,hl,-,hm,-,hx⟩
 ·exact ⟨none,[],0,rfl,.inl rfl,fun r hr=>by cases hr⟩
 ·have hlm:len≤m:=by rw [hm]; split <;> omega
  have each:∀ i,i < len→∃ r:List Int,r.length=3∧(∀ x,x ∈ r→-128≤x∧x≤127)∧∀ (k:Nat) (x:Int),r[k]?=some x→w.cell? ((a.add (i * 3)).add k)=some (.int .i8 x):=by
   intro i hi
   obtain ⟨cs',h1,h2⟩:=hx i (by omega)
   rw [cI83] at h1
   obtain ⟨-,hlen,hcell⟩:=World.cells?_some h1
   obtain ⟨p,q,k,rfl,hp,hq,hk⟩:=open_tri hlen h2
   refine ⟨[p,q,k],rfl, ?_,fun j x hj=>?_⟩
   ·simp only [List.mem_cons,List.not_mem_nil,or_false,forall_eq_or_imp,forall_eq]
    exact ⟨hp,hq,hk⟩
   ·match j,hj with
    | 0,hj=>injection hj with hj; subst hj; exact hcell 0 (by omega)
    | 1,hj=>injection hj with hj; subst hj; exact hcell 1 (by omega)
    | 2,hj=>injection hj with hj; subst hj; exact hcell 2 (by omega)
    | j+3,hj=>cases hj
  obtain ⟨q,hq⟩:=Go.Deep.choose_lt each
  have hget:∀ i r,((List.range len).map q)[i]?=some r→i < len∧r=q i:=fun i r hr=>by
   by_cases hi:i < len
   ·rw [List.getElem?_map,List.getElem?_range hi] at hr
    injection hr with hr
    exact ⟨hi,hr.symm⟩
   ·rw [List.getElem?_eq_none (by rw [List.length_map,List.length_range]; omega)] at hr
    cases hr
  refine ⟨some a,(List.range len).map q,cap,by rw [List.length_map,List.length_range], ?_,fun r hr=>?_⟩
  ·by_cases h0:len=0
   ·subst h0; exact .inl rfl
   ·obtain ⟨x,hx0⟩:∃ x,(q 0)[0]?=some x:=⟨_,List.getElem?_eq_getElem (by rw [(hq 0 (by omega)).1]; decide)⟩
    have h1:=(hq 0 (by omega)).2.2 0 x hx0
    obtain ⟨b,o,s⟩:=a
    have hs:s=none:=by
     cases s with
     | none=>rfl
     | some s=>
       rw [show ((⟨b,o,some s⟩:Addr).add (0 * 3)).add 0=⟨b,o,some s⟩ from rfl] at h1
       unfold World.cell? at h1
       split at h1
       ·simp at h1
       ·simp at h1
    subst hs
    refine .inr ⟨b,o,rfl,World.block_lt_of_cell? w _ h1,fun i r hr k x hx=>?_⟩
    obtain ⟨hi,rfl⟩:=hget i r hr
    have h2:=(hq i hi).2.2 k x hx
    rw [add_pl,add_pl] at h2
    exact h2
  ·obtain ⟨i,hi⟩:=List.mem_iff_getElem?.1 hr
   obtain ⟨hi2,rfl⟩:=hget i r hi
   exact ⟨(hq i hi2).1,(hq i hi2).2.1⟩
theorem open_draft {fuel:Nat} {l:List Value} {x:DataW H×List MemPlace} (h:DataW.trod enc Tryz.prog w base spare held fuel 27 l=some x) :
 ∃ (R:Int) (a:Option Addr) (L:List (List Int)) (c:Nat) (b0 b1 b2 b3 b4 b5 b6 b7 b8:Int),l=[.int .u8 R,.slice a L.length c,.int .i8 b0,.int .i8 b1,.int .i8 b2,.int .i8 b3,.int .i8 b4,.int .i8 b5,.int .i8 b6,.int .i8 b7,.int .i8 b8]∧(0≤R∧R≤255)∧TriIs w a L∧Tri8 L∧Tri8 [[b0,b1,b2],[b3,b4,b5],[b6,b7,b8]]:=by
 obtain ⟨xs,m,-,-,hl,hn,hi⟩:=DataW.trod_struct Tryz.underlying27 h
 rw [cDraft] at hl
 obtain ⟨c0,c1,c2,c3,c4,c5,c6,c7,c8,c9,c10,rfl⟩:=dl11 l hl
 obtain ⟨y0,y1,y2,rfl⟩:=dl3 xs hn
 have h0:DataW.trod enc Tryz.prog w base spare held m 5 (([c0,c1,c2,c3,c4,c5,c6,c7,c8,c9,c10].drop 0).take (Tryz.prog.cellsOf 5))=some y0:=hi 0 _ rfl
 have h1:DataW.trod enc Tryz.prog w base spare held m 22 (([c0,c1,c2,c3,c4,c5,c6,c7,c8,c9,c10].drop 1).take (Tryz.prog.cellsOf 22))=some y1:=hi 1 _ rfl
 have h2:DataW.trod enc Tryz.prog w base spare held m 25 (([c0,c1,c2,c3,c4,c5,c6,c7,c8,c9,c10].drop 2).take (Tryz.prog.cellsOf 25))=some y2:=hi 2 _ rfl
 rw [cU8] at h0
 rw [cTri] at h1
 rw [cI833] at h2
 obtain ⟨R,e0,-,w0⟩:=DataW.trod_int Tryz.underlying5 (show _=some y0 from h0)
 obtain ⟨a,L,cap,e1,hL,hL8⟩:=open_tris (show _=some y1 from h1)
 have h2:DataW.trod enc Tryz.prog w base spare held m 25 [c2,c3,c4,c5,c6,c7,c8,c9,c10]=some y2:=h2
 obtain ⟨ys,m2,-,-,-,hn2,hj⟩:=DataW.trod_array Tryz.underlying25 h2
 have key:∀ i,i < 3→∃ y,DataW.trod enc Tryz.prog w base spare held m2 24 (([c2,c3,c4,c5,c6,c7,c8,c9,c10].drop (i * 3)).take 3)=some y:=fun i hi7=>by
  have:=hj i hi7
  rw [cI83,List.getElem?_eq_getElem (by omega)] at this
  exact ⟨_,this⟩
 clear hi hj h h0 h1 h2
 obtain ⟨z0,k0⟩:=key 0 (by decide)
 obtain ⟨b0,b1,b2,g0,f0,f1,f2⟩:=open_tri rfl k0
 obtain ⟨z1,k1⟩:=key 1 (by decide)
 obtain ⟨b3,b4,b5,g1,f3,f4,f5⟩:=open_tri rfl k1
 obtain ⟨z2,k2⟩:=key 2 (by decide)
 obtain ⟨b6,b7,b8,g2,f6,f7,f8⟩:=open_tri rfl k2
 simp at e0 e1 g0 g1 g2
 obtain ⟨rfl,rfl,rfl⟩:=g0
 obtain ⟨rfl,rfl,rfl⟩:=g1
 obtain ⟨rfl,rfl,rfl⟩:=g2
 subst e0 e1
 refine ⟨R,a,L,cap,b0,b1,b2,b3,b4,b5,b6,b7,b8,rfl,u8_wf w0,hL,hL8, ?_⟩
 intro r hr
 simp only [List.mem_cons,List.not_mem_nil,or_false] at hr
 rcases hr with rfl | rfl | rfl
 ·refine ⟨rfl, ?_⟩
  simp only [List.mem_cons,List.not_mem_nil,or_false,forall_eq_or_imp,forall_eq]
  exact ⟨f0,f1,f2⟩
 ·refine ⟨rfl, ?_⟩
  simp only [List.mem_cons,List.not_mem_nil,or_false,forall_eq_or_imp,forall_eq]
  exact ⟨f3,f4,f5⟩
 ·refine ⟨rfl, ?_⟩
  simp only [List.mem_cons,List.not_mem_nil,or_false,forall_eq_or_imp,forall_eq]
  exact ⟨f6,f7,f8⟩
end
theorem readDraft:Tryz.prog.readableRec 27=true:=by kernel_rfl
theorem typesDraft:27 < Tryz.prog.types.size:=of_decide_eq_true (by kernel_rfl)
open Go.ChangeShapes Go.WideShapes Go.ChangeAt Go.RowKit
theorem gErr : Tryz.prog.globalNamed "strconv.ErrRange" = some 1 := by kernel_rfl
theorem tErr:(Tryz.prog.globals[1]?).map (·.type)=some 98:=by kernel_rfl
theorem Er_of_laid {W:World} (h:laidMetH Tryz.prog LL W):Er W:=by
 rw [MakeChecks.laidMetH_plain _ _ _ (by kernel_rfl)] at h
 obtain ⟨ps,⟨g0,t0,cs0,f0,p0,q0,hg0,ht0,hv0,hd0,⟨g1,t1,cs1,f1,p1,q1,hg1,ht1,hv1,hd1,⟨g2,t2,cs2,f2,p2,q2,hg2,ht2,hv2,hd2,⟨g3,t3,cs3,f3,p3,q3,hg3,ht3,hv3,hd3,⟨g4,t4,cs4,f4,p4,q4,hg4,ht4,hv4,hd4,_,_⟩,_⟩,_⟩,_⟩,_⟩,_,_⟩:=h
 obtain rfl:=Option.some.inj (gErr.symm.trans hg4)
 obtain rfl:=Option.some.inj (tErr.symm.trans ht4)
 obtain ⟨l4⟩:=cs4
 obtain ⟨f9,u9,v9,e9,-,-⟩:=iface_of_trod Tryz.underlying98 hd4
 have e8:l4=[.iface u9 v9]:=e9
 subst e8
 exact ⟨.iface u9 v9,by simpa using World.var?_cell gErr hv4 0,.inr ⟨u9,v9,rfl⟩⟩
theorem cI84:Tryz.prog.cellsOf 50=4:=by kernel_rfl
theorem dl4Q {α:Type} (l:List α) (h:l.length=4):∃ a b c d,l=[a,b,c,d]:=by
 match l,h with
 | [a,b,c,d],_=>exact ⟨a,b,c,d,rfl⟩
section
variable {H:Type} {enc:TypeId×Value→H} {w:World} {base:Nat} {spare:Nat→Bool} {held:Bool}
theorem open_quad {fuel:Nat} {cs:List Value} {x:DataW H×List MemPlace} (hl:cs.length=4) (h:DataW.trod enc Tryz.prog w base spare held fuel 50 cs=some x):∃ m n k l:Int,cs=[.int .i8 m,.int .i8 n,.int .i8 k,.int .i8 l]∧∀ x,x ∈ [m,n,k,l]→-128≤x∧x≤127:=by
 obtain ⟨a,b,c,d,rfl⟩:=dl4Q cs hl
 obtain ⟨xs,m,-,-,-,hn,hi⟩:=DataW.trod_array Tryz.underlying50 h
 have h0:=hi 0 (by decide)
 have h1:=hi 1 (by decide)
 have h2:=hi 2 (by decide)
 have h3:=hi 3 (by decide)
 rw [cI8] at h0 h1 h2 h3
 obtain ⟨y0,y1,y2,y3,rfl⟩:=dl4Q xs hn
 obtain ⟨z0,e0,-,w0⟩:=DataW.trod_int Tryz.underlying23 (show _=some y0 from h0)
 obtain ⟨z1,e1,-,w1⟩:=DataW.trod_int Tryz.underlying23 (show _=some y1 from h1)
 obtain ⟨z2,e2,-,w2⟩:=DataW.trod_int Tryz.underlying23 (show _=some y2 from h2)
 obtain ⟨z3,e3,-,w3⟩:=DataW.trod_int Tryz.underlying23 (show _=some y3 from h3)
 simp at e0 e1 e2 e3
 subst e0 e1 e2 e3
 refine ⟨z0,z1,z2,z3,rfl,fun x hx=>?_⟩
 simp only [List.mem_cons,List.not_mem_nil,or_false] at hx
 rcases hx with rfl | rfl | rfl | rfl
 ·exact i8_wf w0
 ·exact i8_wf w1
 ·exact i8_wf w2
 ·exact i8_wf w3
end
theorem readTri:Tryz.prog.readableRec 24=true:=by kernel_rfl
theorem typesTri:24 < Tryz.prog.types.size:=of_decide_eq_true (by kernel_rfl)
theorem readQuad:Tryz.prog.readableRec 50=true:=by kernel_rfl
theorem typesQuad:50 < Tryz.prog.types.size:=of_decide_eq_true (by kernel_rfl)
end Go.Proofs.YtkjemicelmabdaaGreatDoor
