/- Contracts and laws: UDoorD. -/
import Derived.Test.YtkjemicelmabdaaGreatDoorUDoorR
import Derived.Test.YtkjemicelmabdaaGreatDoorUMk
import Derived.Deep.Slices
import Derived.Test.YtkjemicelmabdaaGreatDoorURd
import Derived.ChangeMaps5

set_option maxRecDepth 100000
namespace Go.Proofs.YtkjemicelmabdaaGreatDoor
open Go.ChangeShapes Go.WideShapes Go.ChangeAt Go.RowKit
theorem ZV:Tryz.prog.cellsOf 23=1:=by kernel_rfl
theorem ZU:Tryz.prog.cellsOf 5=1:=by kernel_rfl
theorem YQ:Tryz.prog.cellsOf 24=3:=by kernel_rfl
theorem YP:Tryz.prog.cellsOf 25=9:=by kernel_rfl
theorem Zw:Tryz.prog.cellsOf 22=1:=by kernel_rfl
theorem Yc:Tryz.prog.cellsOf 27=11:=by kernel_rfl
theorem UM {n:Int} (h:(Lit.int .i8 n).wf=true):-128≤n∧n≤127:=by
 have:=h
 simp [Lit.wf,IntKind.min,IntKind.max,IntKind.signed,IntKind.bits] at this
 omega
theorem YB {n:Int} (h:(Lit.int .u8 n).wf=true):0≤n∧n≤255:=by
 have:=h
 simp [Lit.wf,IntKind.min,IntKind.max,IntKind.signed,IntKind.bits] at this
 omega
theorem Zt {α:Type} (l:List α) (h:l.length=3):∃ a b c,l=[a,b,c]:=by
 match l,h with
 | [a,b,c],_=>exact ⟨a,b,c,rfl⟩
theorem Zu {α:Type} (l:List α) (h:l.length=11):∃ c0 c1 c2 c3 c4 c5 c6 c7 c8 c9 c10,l=[c0,c1,c2,c3,c4,c5,c6,c7,c8,c9,c10]:=by
 match l,h with
 | [c0,c1,c2,c3,c4,c5,c6,c7,c8,c9,c10],_=>exact ⟨c0,c1,c2,c3,c4,c5,c6,c7,c8,c9,c10,rfl⟩
section
variable {H:Type} {enc:TypeId×Value→H} {w:World} {base:Nat} {spare:Nat→Bool} {held:Bool}
theorem JB {fuel:Nat} {cs:List Value} {x:DataW H×List MemPlace} (hl:cs.length=3) (h:DataW.trod enc Tryz.prog w base spare held fuel 24 cs=some x):∃ m n k:Int,cs=[.int .i8 m,.int .i8 n,.int .i8 k]∧(-128≤m∧m≤127)∧(-128≤n∧n≤127)∧(-128≤k∧k≤127):=by
 obtain ⟨a,b,c,rfl⟩:=Zt cs hl
 obtain ⟨xs,m,-,-,-,hn,hi⟩:=DataW.trod_array Tryz.underlying24 h
 have h0:=hi 0 (by decide)
 have h1:=hi 1 (by decide)
 have h2:=hi 2 (by decide)
 rw [ZV] at h0 h1 h2
 obtain ⟨y0,y1,y2,rfl⟩:=Zt xs hn
 obtain ⟨z0,e0,-,w0⟩:=OJ Tryz.underlying23 (show _=some y0 from h0)
 obtain ⟨z1,e1,-,w1⟩:=OJ Tryz.underlying23 (show _=some y1 from h1)
 obtain ⟨z2,e2,-,w2⟩:=OJ Tryz.underlying23 (show _=some y2 from h2)
 simp at e0 e1 e2
 subst e0 e1 e2
 exact ⟨z0,z1,z2,rfl,UM w0,UM w1,UM w2⟩
theorem Vj (b o i:Nat):(⟨b,o,none⟩:Addr).add i=⟨b,o+i,none⟩:=by
 unfold Addr.add
 split
 ·rename_i h; subst h; rfl
 ·rfl
theorem SK {fuel:Nat} {cs:List Value} {x:DataW H×List MemPlace} (h:DataW.trod enc Tryz.prog w base spare held fuel 22 cs=some x) :
 ∃ (a:Option Addr) (L:List (List Int)) (cap:Nat),cs=[.slice a L.length cap]∧Mn w a L∧Mo L:=by
 rcases Go.Deep.open_slice Tryz.underlying22 h with ⟨rfl,-⟩ | ⟨a,len,cap,m,n,D,Pl,rfl,-,hl,-,hm,-,hx⟩
 ·exact ⟨none,[],0,rfl,.inl rfl,fun r hr=>by cases hr⟩
 ·have hlm:len≤m:=by rw [hm]; split <;> omega
  have each:∀ i,i < len→∃ r:List Int,r.length=3∧(∀ x,x ∈ r→-128≤x∧x≤127)∧∀ (k:Nat) (x:Int),r[k]?=some x→w.cell? ((a.add (i * 3)).add k)=some (.int .i8 x):=by
   intro i hi
   obtain ⟨cs',h1,h2⟩:=hx i (by omega)
   rw [YQ] at h1
   obtain ⟨-,hlen,hcell⟩:=World.cells?_some h1
   obtain ⟨p,q,k,rfl,hp,hq,hk⟩:=JB hlen h2
   refine ⟨[p,q,k],rfl, ?_,fun j x hj=>?_⟩
   ·simp only [A2,BG,D7,KX,Zc]
    exact ⟨hp,hq,hk⟩
   ·match j,hj with
    | 0,hj=>injection hj with hj; subst hj; exact hcell 0 (by omega)
    | 1,hj=>injection hj with hj; subst hj; exact hcell 1 (by omega)
    | 2,hj=>injection hj with hj; subst hj; exact hcell 2 (by omega)
    | j+3,hj=>cases hj
  obtain ⟨q,hq⟩:=Go.Deep.choose_lt each
  have hget:∀ i r,((List.range len).map q)[i]?=some r→i < len∧r=q i:=fun i r hr=>by
   by_cases hi:i < len
   ·rw [Am,DD hi] at hr
    injection hr with hr
    exact ⟨hi,hr.symm⟩
   ·rw [AJ (by rw [Al,BP]; omega)] at hr
    cases hr
  refine ⟨some a,(List.range len).map q,cap,by rw [Al,BP], ?_,fun r hr=>?_⟩
  ·by_cases h0:len=0
   ·subst h0; exact .inl rfl
   ·obtain ⟨x,hx0⟩:∃ x,(q 0)[0]?=some x:=⟨_,Aa (by rw [(hq 0 (by omega)).1]; decide)⟩
    have h1:=(hq 0 (by omega)).2.2 0 x hx0
    obtain ⟨b,o,s⟩:=a
    have hs:s=none:=by
     cases s with
     | none=>rfl
     | some s=>
       rw [show ((⟨b,o,some s⟩:Addr).add (0 * 3)).add 0=⟨b,o,some s⟩ from rfl] at h1
       unfold World.cell? at h1
       split at h1
       ·simp at h1
       ·simp at h1
    subst hs
    refine .inr ⟨b,o,rfl,AY w _ h1,fun i r hr k x hx=>?_⟩
    obtain ⟨hi,rfl⟩:=hget i r hr
    have h2:=(hq i hi).2.2 k x hx
    rw [Vj,Vj] at h2
    exact h2
  ·obtain ⟨i,hi⟩:=DV.1 hr
   obtain ⟨hi2,rfl⟩:=hget i r hi
   exact ⟨(hq i hi2).1,(hq i hi2).2.1⟩
theorem QK {fuel:Nat} {l:List Value} {x:DataW H×List MemPlace} (h:DataW.trod enc Tryz.prog w base spare held fuel 27 l=some x) :
 ∃ (R:Int) (a:Option Addr) (L:List (List Int)) (c:Nat) (b0 b1 b2 b3 b4 b5 b6 b7 b8:Int),l=[.int .u8 R,.slice a L.length c,.int .i8 b0,.int .i8 b1,.int .i8 b2,.int .i8 b3,.int .i8 b4,.int .i8 b5,.int .i8 b6,.int .i8 b7,.int .i8 b8]∧(0≤R∧R≤255)∧Mn w a L∧Mo L∧Mo [[b0,b1,b2],[b3,b4,b5],[b6,b7,b8]]:=by
 obtain ⟨xs,m,-,-,hl,hn,hi⟩:=DataW.trod_struct Tryz.underlying27 h
 rw [Yc] at hl
 obtain ⟨c0,c1,c2,c3,c4,c5,c6,c7,c8,c9,c10,rfl⟩:=Zu l hl
 obtain ⟨y0,y1,y2,rfl⟩:=Zt xs hn
 have h0:DataW.trod enc Tryz.prog w base spare held m 5 (([c0,c1,c2,c3,c4,c5,c6,c7,c8,c9,c10].drop 0).take (Tryz.prog.cellsOf 5))=some y0:=hi 0 _ rfl
 have h1:DataW.trod enc Tryz.prog w base spare held m 22 (([c0,c1,c2,c3,c4,c5,c6,c7,c8,c9,c10].drop 1).take (Tryz.prog.cellsOf 22))=some y1:=hi 1 _ rfl
 have h2:DataW.trod enc Tryz.prog w base spare held m 25 (([c0,c1,c2,c3,c4,c5,c6,c7,c8,c9,c10].drop 2).take (Tryz.prog.cellsOf 25))=some y2:=hi 2 _ rfl
 rw [ZU] at h0
 rw [Zw] at h1
 rw [YP] at h2
 obtain ⟨R,e0,-,w0⟩:=OJ Tryz.underlying5 (show _=some y0 from h0)
 obtain ⟨a,L,cap,e1,hL,hL8⟩:=SK (show _=some y1 from h1)
 have h2:DataW.trod enc Tryz.prog w base spare held m 25 [c2,c3,c4,c5,c6,c7,c8,c9,c10]=some y2:=h2
 obtain ⟨ys,m2,-,-,-,hn2,hj⟩:=DataW.trod_array Tryz.underlying25 h2
 have key:∀ i,i < 3→∃ y,DataW.trod enc Tryz.prog w base spare held m2 24 (([c2,c3,c4,c5,c6,c7,c8,c9,c10].drop (i * 3)).take 3)=some y:=fun i hi7=>by
  have:=hj i hi7
  rw [YQ,Aa (by omega)] at this
  exact ⟨_,this⟩
 clear hi hj h h0 h1 h2
 obtain ⟨z0,k0⟩:=key 0 (by decide)
 obtain ⟨b0,b1,b2,g0,f0,f1,f2⟩:=JB rfl k0
 obtain ⟨z1,k1⟩:=key 1 (by decide)
 obtain ⟨b3,b4,b5,g1,f3,f4,f5⟩:=JB rfl k1
 obtain ⟨z2,k2⟩:=key 2 (by decide)
 obtain ⟨b6,b7,b8,g2,f6,f7,f8⟩:=JB rfl k2
 simp at e0 e1 g0 g1 g2
 obtain ⟨rfl,rfl,rfl⟩:=g0
 obtain ⟨rfl,rfl,rfl⟩:=g1
 obtain ⟨rfl,rfl,rfl⟩:=g2
 subst e0 e1
 refine ⟨R,a,L,cap,b0,b1,b2,b3,b4,b5,b6,b7,b8,rfl,YB w0,hL,hL8, ?_⟩
 intro r hr
 simp only [A2,BG,D7] at hr
 rcases hr with rfl | rfl | rfl
 ·refine ⟨rfl, ?_⟩
  simp only [A2,BG,D7,KX,Zc]
  exact ⟨f0,f1,f2⟩
 ·refine ⟨rfl, ?_⟩
  simp only [A2,BG,D7,KX,Zc]
  exact ⟨f3,f4,f5⟩
 ·refine ⟨rfl, ?_⟩
  simp only [A2,BG,D7,KX,Zc]
  exact ⟨f6,f7,f8⟩
end
theorem SI:Tryz.prog.readableRec 27=true:=by kernel_rfl
theorem Qv:27 < Tryz.prog.types.size:=Au (by kernel_rfl)
open Go.ChangeShapes Go.WideShapes Go.ChangeAt Go.RowKit
theorem YJ : Tryz.prog.globalNamed "strconv.ErrRange" = some 1 := by kernel_rfl
theorem Zi:(Tryz.prog.globals[1]?).map (·.type)=some 98:=by kernel_rfl
theorem Rl {W:World} (h:laidMetH Tryz.prog LL W):Er W:=by
 rw [MakeChecks.laidMetH_plain _ _ _ (by kernel_rfl)] at h
 obtain ⟨ps,⟨g0,t0,cs0,f0,p0,q0,hg0,ht0,hv0,hd0,⟨g1,t1,cs1,f1,p1,q1,hg1,ht1,hv1,hd1,⟨g2,t2,cs2,f2,p2,q2,hg2,ht2,hv2,hd2,⟨g3,t3,cs3,f3,p3,q3,hg3,ht3,hv3,hd3,⟨g4,t4,cs4,f4,p4,q4,hg4,ht4,hv4,hd4,_,_⟩,_⟩,_⟩,_⟩,_⟩,_,_⟩:=h
 obtain rfl:=D5 (YJ.symm.trans hg4)
 obtain rfl:=D5 (Zi.symm.trans ht4)
 obtain ⟨l4⟩:=cs4
 obtain ⟨f9,u9,v9,e9,-,-⟩:=iface_of_trod Tryz.underlying98 hd4
 have e8:l4=[.iface u9 v9]:=e9
 subst e8
 exact ⟨.iface u9 v9,by simpa using World.var?_cell YJ hv4 0,.inr ⟨u9,v9,rfl⟩⟩
section
variable {H:Type} {enc:TypeId×Value→H} {w:World} {base:Nat} {spare:Nat→Bool} {held:Bool}
end
end Go.Proofs.YtkjemicelmabdaaGreatDoor
