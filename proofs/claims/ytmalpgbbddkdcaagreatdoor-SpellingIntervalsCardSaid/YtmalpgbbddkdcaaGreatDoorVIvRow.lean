/- Contracts and laws: VIvRow. -/
import Derived.Test.YtmalpgbbddkdcaaGreatDoorVR
import Derived.Test.YtmalpgbbddkdcaaGreatDoorVSI
import Derived.Test.YtmalpgbbddkdcaaGreatDoorVMK
import Derived.Deep.Slices
import Derived.ChangeMaps5
import Derived.Test.YtmalpgbbddkdcaaGreatDoorVLI

/- Arguments of law 43 opened: a plan, two numbers. -/
namespace Go.Proofs.YtmalpgbbddkdcaaGreatDoor
set_option maxRecDepth 100000
open Go.ChangeShapes Go.WideShapes Go.ChangeAt Go.RowKit

theorem cI8:Tryz.prog.cellsOf 63=1:=by kernel_rfl
theorem cU8:Tryz.prog.cellsOf 5=1:=by kernel_rfl
theorem cB:Tryz.prog.cellsOf 4=1:=by kernel_rfl
theorem cI82:Tryz.prog.cellsOf 64=2:=by kernel_rfl
theorem cI872:Tryz.prog.cellsOf 65=14:=by kernel_rfl
theorem cPlan:Tryz.prog.cellsOf 67=17:=by kernel_rfl
theorem fits8_wf {n:Int} (h:(Lit.int .i8 n).wf=true):fits8 n:=by
 have:=h
 simp [Lit.wf,IntKind.min,IntKind.max,IntKind.signed,IntKind.bits] at this
 unfold fits8
 omega
theorem u8_wf {n:Int} (h:(Lit.int .u8 n).wf=true):0≤n∧n≤255:=by
 have:=h
 simp [Lit.wf,IntKind.min,IntKind.max,IntKind.signed,IntKind.bits] at this
 omega
theorem pl2 {α:Type} (l:List α) (h:l.length=2):∃ a b,l=[a,b]:=by
 match l,h with
 | [a,b],_=>exact ⟨a,b,rfl⟩
theorem pl4 {α:Type} (l:List α) (h:l.length=4):∃ a b c d,l=[a,b,c,d]:=by
 match l,h with
 | [a,b,c,d],_=>exact ⟨a,b,c,d,rfl⟩
theorem pl17 {α:Type} (l:List α) (h:l.length=17):∃ c0 c1 c2 c3 c4 c5 c6 c7 c8 c9 c10 c11 c12 c13 c14 c15 c16,l=[c0,c1,c2,c3,c4,c5,c6,c7,c8,c9,c10,c11,c12,c13,c14,c15,c16]:=by
 match l,h with
 | [c0,c1,c2,c3,c4,c5,c6,c7,c8,c9,c10,c11,c12,c13,c14,c15,c16],_=>exact ⟨c0,c1,c2,c3,c4,c5,c6,c7,c8,c9,c10,c11,c12,c13,c14,c15,c16,rfl⟩
section
variable {H:Type} {enc:TypeId×Value→H} {w:World} {base:Nat} {spare:Nat→Bool} {held:Bool}
/-- two numbers of eight bits -/
theorem open_two {fuel:Nat} {a b:Value} {x:DataW H×List MemPlace} (h:DataW.trod enc Tryz.prog w base spare held fuel 64 [a,b]=some x):∃ m n,a=.int .i8 m∧b=.int .i8 n∧fits8 m∧fits8 n:=by
 obtain ⟨xs,m,-,-,-,hn,hi⟩:=DataW.trod_array Tryz.underlying64 h
 have h0:=hi 0 (by decide)
 have h1:=hi 1 (by decide)
 rw [cI8] at h0 h1
 obtain ⟨y0,y1,rfl⟩:=pl2 xs hn
 obtain ⟨z0,e0,-,w0⟩:=DataW.trod_int Tryz.underlying63 (show _=some y0 from h0)
 obtain ⟨z1,e1,-,w1⟩:=DataW.trod_int Tryz.underlying63 (show _=some y1 from h1)
 simp at e0 e1
 exact ⟨z0,z1,e0,e1,fits8_wf w0,fits8_wf w1⟩
/-- a plan: a bool, two bytes, seven pairs -/
theorem open_plan {fuel:Nat} {l:List Value} {x:DataW H×List MemPlace} (h:DataW.trod enc Tryz.prog w base spare held fuel 67 l=some x) :
 ∃ (two:Bool) (nn na r0 r1 r2 r3 r4 r5 r6 r7 r8 r9 r10 r11 r12 r13:Int),l=[.bool two,.int .u8 nn,.int .u8 na,.int .i8 r0,.int .i8 r1,.int .i8 r2,.int .i8 r3,.int .i8 r4,.int .i8 r5,.int .i8 r6,.int .i8 r7,.int .i8 r8,.int .i8 r9,.int .i8 r10,.int .i8 r11,.int .i8 r12,.int .i8 r13]∧(0≤nn∧nn≤255)∧(0≤na∧na≤255)∧∀ x,x ∈ [r0,r1,r2,r3,r4,r5,r6,r7,r8,r9,r10,r11,r12,r13]→fits8 x:=by
 obtain ⟨xs,m,-,-,hl,hn,hi⟩:=DataW.trod_struct Tryz.underlying67 h
 rw [cPlan] at hl
 obtain ⟨c0,c1,c2,c3,c4,c5,c6,c7,c8,c9,c10,c11,c12,c13,c14,c15,c16,rfl⟩:=pl17 l hl
 obtain ⟨y0,y1,y2,y3,rfl⟩:=pl4 xs hn
 have h0:DataW.trod enc Tryz.prog w base spare held m 4 (([c0,c1,c2,c3,c4,c5,c6,c7,c8,c9,c10,c11,c12,c13,c14,c15,c16].drop 0).take (Tryz.prog.cellsOf 4))=some y0:=hi 0 _ rfl
 have h1:DataW.trod enc Tryz.prog w base spare held m 5 (([c0,c1,c2,c3,c4,c5,c6,c7,c8,c9,c10,c11,c12,c13,c14,c15,c16].drop 1).take (Tryz.prog.cellsOf 5))=some y1:=hi 1 _ rfl
 have h2:DataW.trod enc Tryz.prog w base spare held m 5 (([c0,c1,c2,c3,c4,c5,c6,c7,c8,c9,c10,c11,c12,c13,c14,c15,c16].drop 2).take (Tryz.prog.cellsOf 5))=some y2:=hi 2 _ rfl
 have h3:DataW.trod enc Tryz.prog w base spare held m 65 (([c0,c1,c2,c3,c4,c5,c6,c7,c8,c9,c10,c11,c12,c13,c14,c15,c16].drop 3).take (Tryz.prog.cellsOf 65))=some y3:=hi 3 _ rfl
 rw [cB] at h0
 rw [cU8] at h1 h2
 rw [cI872] at h3
 obtain ⟨two,e0,-⟩:=DataW.trod_bool Tryz.underlying4 (show _=some y0 from h0)
 obtain ⟨nn,e1,-,w1⟩:=DataW.trod_int Tryz.underlying5 (show _=some y1 from h1)
 obtain ⟨na,e2,-,w2⟩:=DataW.trod_int Tryz.underlying5 (show _=some y2 from h2)
 have h3:DataW.trod enc Tryz.prog w base spare held m 65 [c3,c4,c5,c6,c7,c8,c9,c10,c11,c12,c13,c14,c15,c16]=some y3:=h3
 obtain ⟨ys,m2,-,-,-,hn2,hj⟩:=DataW.trod_array Tryz.underlying65 h3
 have key:∀ i,i < 7→∃ y,DataW.trod enc Tryz.prog w base spare held m2 64 (([c3,c4,c5,c6,c7,c8,c9,c10,c11,c12,c13,c14,c15,c16].drop (i * 2)).take 2)=some y:=fun i hi7=>by
  have:=hj i hi7
  rw [cI82,List.getElem?_eq_getElem (by omega)] at this
  exact ⟨_,this⟩
 clear hi hj h h0 h1 h2 h3
 obtain ⟨z0,k0⟩:=key 0 (by decide)
 obtain ⟨r0,r1,rfl,rfl,f0,f1⟩:=open_two (a:=c3) (b:=c4) k0
 obtain ⟨z1,k1⟩:=key 1 (by decide)
 obtain ⟨r2,r3,rfl,rfl,f2,f3⟩:=open_two (a:=c5) (b:=c6) k1
 obtain ⟨z2,k2⟩:=key 2 (by decide)
 obtain ⟨r4,r5,rfl,rfl,f4,f5⟩:=open_two (a:=c7) (b:=c8) k2
 obtain ⟨z3,k3⟩:=key 3 (by decide)
 obtain ⟨r6,r7,rfl,rfl,f6,f7⟩:=open_two (a:=c9) (b:=c10) k3
 obtain ⟨z4,k4⟩:=key 4 (by decide)
 obtain ⟨r8,r9,rfl,rfl,f8,f9⟩:=open_two (a:=c11) (b:=c12) k4
 obtain ⟨z5,k5⟩:=key 5 (by decide)
 obtain ⟨r10,r11,rfl,rfl,f10,f11⟩:=open_two (a:=c13) (b:=c14) k5
 obtain ⟨z6,k6⟩:=key 6 (by decide)
 obtain ⟨r12,r13,rfl,rfl,f12,f13⟩:=open_two (a:=c15) (b:=c16) k6
 simp at e0 e1 e2
 subst e0 e1 e2
 refine ⟨two,nn,na,r0,r1,r2,r3,r4,r5,r6,r7,r8,r9,r10,r11,r12,r13,rfl,u8_wf w1,u8_wf w2, ?_⟩
 simp only [List.mem_cons,List.not_mem_nil,or_false,forall_eq_or_imp,forall_eq]
 exact ⟨f0,f1,f2,f3,f4,f5,f6,f7,f8,f9,f10,f11,f12,f13⟩
end
theorem readPlan:Tryz.prog.readableRec 67=true:=by kernel_rfl
theorem typesPl:67 < Tryz.prog.types.size∧64 < Tryz.prog.types.size:=of_decide_eq_true (by kernel_rfl)
theorem and_mkP {a b:Bool} (ha:a=true) (hb:b=true):(a && b)=true:=by rw [ha,hb]; rfl
end Go.Proofs.YtmalpgbbddkdcaaGreatDoor

/- Readers of the row of SpellingIntervals: plans of temperaments, questions. -/
namespace Go.Proofs.YtmalpgbbddkdcaaGreatDoor
set_option maxRecDepth 100000
open Go.ChangeShapes Go.WideShapes Go.ChangeAt Go.RowKit

theorem cI84:Tryz.prog.cellsOf 112=4:=by kernel_rfl
theorem cQuads:Tryz.prog.cellsOf 53=1:=by kernel_rfl
theorem cTPlan:Tryz.prog.cellsOf 55=3:=by kernel_rfl
theorem cQuery:Tryz.prog.cellsOf 69=2:=by kernel_rfl
theorem q8_wf {n:Int} (h:(Lit.int .i8 n).wf=true):-128≤n∧n≤127:=by
 have:=h
 simp [Lit.wf,IntKind.min,IntKind.max,IntKind.signed,IntKind.bits] at this
 omega
theorem pl3 {α:Type} (l:List α) (h:l.length=3):∃ a b c,l=[a,b,c]:=by
 match l,h with
 | [a,b,c],_=>exact ⟨a,b,c,rfl⟩
section
variable {H:Type} {enc:TypeId×Value→H} {w:World} {base:Nat} {spare:Nat→Bool} {held:Bool}
/-- four numbers of eight bits -/
theorem open_quad {fuel:Nat} {cs:List Value} {x:DataW H×List MemPlace} (hl:cs.length=4) (h:DataW.trod enc Tryz.prog w base spare held fuel 112 cs=some x):∃ m n k j:Int,cs=[.int .i8 m,.int .i8 n,.int .i8 k,.int .i8 j]∧(-128≤m∧m≤127)∧(-128≤n∧n≤127)∧(-128≤k∧k≤127)∧(-128≤j∧j≤127):=by
 obtain ⟨a,b,c,d,rfl⟩:=pl4 cs hl
 obtain ⟨xs,m,-,-,-,hn,hi⟩:=DataW.trod_array Tryz.underlying112 h
 have h0:=hi 0 (by decide)
 have h1:=hi 1 (by decide)
 have h2:=hi 2 (by decide)
 have h3:=hi 3 (by decide)
 rw [cI8] at h0 h1 h2 h3
 obtain ⟨y0,y1,y2,y3,rfl⟩:=pl4 xs hn
 obtain ⟨z0,e0,-,w0⟩:=DataW.trod_int Tryz.underlying63 (show _=some y0 from h0)
 obtain ⟨z1,e1,-,w1⟩:=DataW.trod_int Tryz.underlying63 (show _=some y1 from h1)
 obtain ⟨z2,e2,-,w2⟩:=DataW.trod_int Tryz.underlying63 (show _=some y2 from h2)
 obtain ⟨z3,e3,-,w3⟩:=DataW.trod_int Tryz.underlying63 (show _=some y3 from h3)
 simp at e0 e1 e2 e3
 subst e0 e1 e2 e3
 exact ⟨z0,z1,z2,z3,rfl,q8_wf w0,q8_wf w1,q8_wf w2,q8_wf w3⟩
theorem add_plx (b o i:Nat):(⟨b,o,none⟩:Addr).add i=⟨b,o+i,none⟩:=by
 unfold Addr.add
 split
 ·rename_i h; subst h; rfl
 ·rfl
/-- a slice of such arrays -/
theorem open_quads {fuel:Nat} {cs:List Value} {x:DataW H×List MemPlace} (h:DataW.trod enc Tryz.prog w base spare held fuel 53 cs=some x) :
 ∃ (a:Option Addr) (L:List (List Int)) (cap:Nat),cs=[.slice a L.length cap]∧QuadIs w a L∧Quad8 L:=by
 rcases Go.Deep.open_slice Tryz.underlying53 h with ⟨rfl,-⟩ | ⟨a,len,cap,m,n,D,Pl,rfl,-,hl,-,hm,-,hx⟩
 ·exact ⟨none,[],0,rfl,.inl rfl,fun r hr=>by cases hr⟩
 ·have hlm:len≤m:=by rw [hm]; split <;> omega
  have each:∀ i,i < len→∃ r:List Int,r.length=4∧(∀ x,x ∈ r→-128≤x∧x≤127)∧∀ (k:Nat) (x:Int),r[k]?=some x→w.cell? ((a.add (i * 4)).add k)=some (.int .i8 x):=by
   intro i hi
   obtain ⟨cs',h1,h2⟩:=hx i (by omega)
   rw [cI84] at h1
   obtain ⟨-,hlen,hcell⟩:=World.cells?_some h1
   obtain ⟨p,q,k,j9,rfl,hp,hq,hk,hj9⟩:=open_quad hlen h2
   refine ⟨[p,q,k,j9],rfl, ?_,fun j x hj=>?_⟩
   ·simp only [List.mem_cons,List.not_mem_nil,or_false,forall_eq_or_imp,forall_eq]
    exact ⟨hp,hq,hk,hj9⟩
   ·match j,hj with
    | 0,hj=>injection hj with hj; subst hj; exact hcell 0 (by omega)
    | 1,hj=>injection hj with hj; subst hj; exact hcell 1 (by omega)
    | 2,hj=>injection hj with hj; subst hj; exact hcell 2 (by omega)
    | 3,hj=>injection hj with hj; subst hj; exact hcell 3 (by omega)
    | j+4,hj=>cases hj
  obtain ⟨q,hq⟩:=Go.Deep.choose_lt each
  have hget:∀ i r,((List.range len).map q)[i]?=some r→i < len∧r=q i:=fun i r hr=>by
   by_cases hi:i < len
   ·rw [List.getElem?_map,List.getElem?_range hi] at hr
    injection hr with hr
    exact ⟨hi,hr.symm⟩
   ·rw [List.getElem?_eq_none (by rw [List.length_map,List.length_range]; omega)] at hr
    cases hr
  refine ⟨some a,(List.range len).map q,cap,by rw [List.length_map,List.length_range], ?_,fun r hr=>?_⟩
  ·by_cases h0:len=0
   ·subst h0; exact .inl rfl
   ·obtain ⟨x,hx0⟩:∃ x,(q 0)[0]?=some x:=⟨_,List.getElem?_eq_getElem (by rw [(hq 0 (by omega)).1]; decide)⟩
    have h1:=(hq 0 (by omega)).2.2 0 x hx0
    obtain ⟨b,o,s⟩:=a
    have hs:s=none:=by
     cases s with
     | none=>rfl
     | some s=>
       rw [show ((⟨b,o,some s⟩:Addr).add (0 * 4)).add 0=⟨b,o,some s⟩ from rfl] at h1
       unfold World.cell? at h1
       split at h1
       ·simp at h1
       ·simp at h1
    subst hs
    refine .inr ⟨b,o,rfl,World.block_lt_of_cell? w _ h1,fun i r hr k x hx=>?_⟩
    obtain ⟨hi,rfl⟩:=hget i r hr
    have h2:=(hq i hi).2.2 k x hx
    rw [add_plx,add_plx] at h2
    exact h2
  ·obtain ⟨i,hi⟩:=List.mem_iff_getElem?.1 hr
   obtain ⟨hi2,rfl⟩:=hget i r hi
   exact ⟨(hq i hi2).1,(hq i hi2).2.1⟩
/-- the plan of a temperament -/
theorem open_tplan {fuel:Nat} {l:List Value} {x:DataW H×List MemPlace} (h:DataW.trod enc Tryz.prog w base spare held fuel 55 l=some x) :
 ∃ (np:Int) (a:Option Addr) (L:List (List Int)) (cap:Nat) (vals:Bool),l=[.int .u8 np,.slice a L.length cap,.bool vals]∧(0≤np∧np≤255)∧QuadIs w a L∧Quad8 L:=by
 obtain ⟨xs,m,-,-,hl,hn,hi⟩:=DataW.trod_struct Tryz.underlying55 h
 rw [cTPlan] at hl
 obtain ⟨c0,c1,c2,rfl⟩:=pl3 l hl
 obtain ⟨y0,y1,y2,rfl⟩:=pl3 xs hn
 have h0:DataW.trod enc Tryz.prog w base spare held m 5 (([c0,c1,c2].drop 0).take (Tryz.prog.cellsOf 5))=some y0:=hi 0 _ rfl
 have h1:DataW.trod enc Tryz.prog w base spare held m 53 (([c0,c1,c2].drop 1).take (Tryz.prog.cellsOf 53))=some y1:=hi 1 _ rfl
 have h2:DataW.trod enc Tryz.prog w base spare held m 4 (([c0,c1,c2].drop 2).take (Tryz.prog.cellsOf 4))=some y2:=hi 2 _ rfl
 rw [cU8] at h0
 rw [cQuads] at h1
 rw [cB] at h2
 obtain ⟨np,e0,-,w0⟩:=DataW.trod_int Tryz.underlying5 (show _=some y0 from h0)
 obtain ⟨a,L,cap,e1,k1,k2⟩:=open_quads (show _=some y1 from h1)
 obtain ⟨vals,e2,-⟩:=DataW.trod_bool Tryz.underlying4 (show _=some y2 from h2)
 simp at e0 e1 e2
 subst e0 e1 e2
 exact ⟨np,a,L,cap,vals,rfl,u8_wf w0,k1,k2⟩
/-- a question -/
theorem open_query {fuel:Nat} {l:List Value} {x:DataW H×List MemPlace} (h:DataW.trod enc Tryz.prog w base spare held fuel 69 l=some x) :
 ∃ (a:Option Addr) (xs:List Int) (cap:Nat) (most:Int),l=[.slice a xs.length cap,.int .i64 most]∧El w iv a xs:=by
 obtain ⟨xs,m,-,-,hl,hn,hi⟩:=DataW.trod_struct Tryz.underlying69 h
 rw [cQuery] at hl
 obtain ⟨c0,c1,rfl⟩:=pl2 l hl
 obtain ⟨y0,y1,rfl⟩:=pl2 xs hn
 have h0:DataW.trod enc Tryz.prog w base spare held m 24 (([c0,c1].drop 0).take (Tryz.prog.cellsOf 24))=some y0:=hi 0 _ rfl
 have h1:DataW.trod enc Tryz.prog w base spare held m 3 (([c0,c1].drop 1).take (Tryz.prog.cellsOf 3))=some y1:=hi 1 _ rfl
 rw [cRow] at h0
 rw [cInt] at h1
 obtain ⟨a,rs,cap,e0,k0,-⟩:=open_row (show _=some y0 from h0)
 obtain ⟨most,e1,-⟩:=DataW.trod_int Tryz.underlying3 (show _=some y1 from h1)
 simp at e0 e1
 subst e0 e1
 exact ⟨a,rs,cap,most,rfl,k0⟩
end
theorem readTPlan:Tryz.prog.readableRec 55=true:=by kernel_rfl
theorem readQuery:Tryz.prog.readableRec 69=true:=by kernel_rfl
theorem typesI:55 < Tryz.prog.types.size∧69 < Tryz.prog.types.size:=of_decide_eq_true (by kernel_rfl)
end Go.Proofs.YtmalpgbbddkdcaaGreatDoor

/- The joined row of schismalaw43.SpellingIntervals: proved for every input. -/
namespace Go.Proofs.YtmalpgbbddkdcaaGreatDoor
set_option maxRecDepth 100000
open Go.ChangeShapes Go.WideShapes Go.ChangeAt Go.RowKit

theorem gErr : Tryz.prog.globalNamed "strconv.ErrRange" = some 1 := by kernel_rfl
theorem tErr:(Tryz.prog.globals[1]?).map (·.type)=some 190:=by kernel_rfl
/-- the error that the row's condition lays -/
theorem ErX_of_laid {W:World} (h:laidMetH Tryz.prog LL W):ErX W:=by
 rw [MakeChecks.laidMetH_plain _ _ _ (by kernel_rfl)] at h
 obtain ⟨ps,⟨g0,t0,cs0,f0,p0,q0,hg0,ht0,hv0,hd0,⟨g1,t1,cs1,f1,p1,q1,hg1,ht1,hv1,hd1,⟨g2,t2,cs2,f2,p2,q2,hg2,ht2,hv2,hd2,⟨g3,t3,cs3,f3,p3,q3,hg3,ht3,hv3,hd3,_,_⟩,_⟩,_⟩,_⟩,_,_⟩:=h
 obtain rfl:=Option.some.inj (gErr.symm.trans hg3)
 obtain rfl:=Option.some.inj (tErr.symm.trans ht3)
 obtain ⟨l4⟩:=cs3
 obtain ⟨f9,u9,v9,e9,-,-⟩:=iface_of_trod Tryz.underlying190 hd3
 have e8:l4=[.iface u9 v9]:=e9
 subst e8
 exact ⟨.iface u9 v9,by simpa using World.var?_cell gErr hv3 0,.inr ⟨u9,v9,rfl⟩⟩
set_option maxHeartbeats 1000000 in
theorem intervals43_lifted (os:Os) (started:os.Started) (H:Type) (enc:TypeId×Value→H) :
 ReturnsInHanded {} Tryz.checked os 6 .any (fun w args=>(Rows.spellingIntervalsSpec.pre enc Tryz.prog Tryz.f6 [] false w args∧laidMetH Tryz.prog LL w)∧sizedMet enc Tryz.prog Tryz.f6 (OpenSpec.ofChange Rows.spellingIntervalsSpec) false w args)
  (Rows.spellingIntervalsSpec.post enc Tryz.prog Tryz.f6 false true false false):=by
 refine handed_and_shaped (C:=Tryz.checked) (X:=fun w _=>laidMetH Tryz.prog LL w) (fun _ _ _ hh h=>h.of_heap hh) seatOwn started (by kernel_rfl) Tryz.func6
  (ChangeSpec.witness_shaped (enc:=enc) (C:=Tryz.checked) (os:=os) (X:=fun w _=>laidMetH Tryz.prog LL w) false (World.laidAll Tryz.prog os LL) #[.agg #[.bool false,.int .u8 0,.int .u8 0,.int .i8 0,.int .i8 0,.int .i8 0,.int .i8 0,.int .i8 0,.int .i8 0,.int .i8 0,.int .i8 0,.int .i8 0,.int .i8 0,.int .i8 0,.int .i8 0,.int .i8 0,.int .i8 0],.agg #[.int .u8 0,.slice none 0 0,.bool false],.agg #[.slice none 0 0,.int .i64 0]] 8 (World.laidAll_os _ _ _) (World.shaped_of_ZipB (by kernel_rfl) (by kernel_rfl)) (by kernel_rfl) (by kernel_rfl) (by kernel_rfl) (door_met os _)) ?_
 intro W base args ds gs before hval0 hW hL _
 have hval:∀ (j:Nat) t v,Tryz.f6.params[j]?=some t→args[j]?=some v→Value.okWide Tryz.prog W .any base t v:=hval0
 have hW':=hW
 obtain ⟨p,q,hA0,hV,rfl,hfz,hnd⟩:=hW
 have hA:DataW.TrodAll enc Tryz.prog W 0 (fun _=>true) true Tryz.f6.params.toList args.toList ds p:=hA0
 rw [Tryz.params6] at hA hval
 obtain ⟨v0,v1,v2,d0,d1,d2,p0,p1,p2,rfl,rfl,rfl,h0,h1,h2⟩:=trodAll_three hA
 obtain ⟨rfl,rfl⟩:=trodVars_none hV
 obtain ⟨cs,rfl,hsz,-⟩:∃ cs,v0=.agg cs∧cs.size=Tryz.prog.cellsOf 67∧Row.okWide Tryz.prog W .any base 67 cs:=by
  have:=hval 0 67 v0 rfl rfl
  simpa [Value.okWide,Tryz.underlying67] using this
 obtain ⟨ct,rfl,hst,-⟩:∃ cs,v1=.agg cs∧cs.size=Tryz.prog.cellsOf 55∧Row.okWide Tryz.prog W .any base 55 cs:=by
  have:=hval 1 55 v1 rfl rfl
  simpa [Value.okWide,Tryz.underlying55] using this
 obtain ⟨cu,rfl,hsu,-⟩:∃ cs,v2=.agg cs∧cs.size=Tryz.prog.cellsOf 69∧Row.okWide Tryz.prog W .any base 69 cs:=by
  have:=hval 2 69 v2 rfl rfl
  simpa [Value.okWide,Tryz.underlying69] using this
 obtain ⟨l⟩:=cs
 obtain ⟨l2⟩:=ct
 obtain ⟨l3⟩:=cu
 have h0k:=h0
 have h1k:=h1
 have h2k:=h2
 obtain ⟨fu0,h0⟩:=h0
 obtain ⟨fu1,h1⟩:=h1
 obtain ⟨fu2,h2⟩:=h2
 obtain ⟨two,nn,na,r0,r1,r2,r3,r4,r5,r6,r7,r8,r9,r10,r11,r12,r13,rfl,hnn,hna,hr⟩:=open_plan (l:=l) h0
 obtain ⟨np,qa,QL,qc,vals,rfl,hnp,hQ,hQ8⟩:=open_tplan (l:=l2) h1
 obtain ⟨xa,xs,xc,most,rfl,hel⟩:=open_query (l:=l3) h2
 have hG:=G_of_laid hL
 have hE:=ErX_of_laid hL
 have hlt:=hW'.lt
 clear hA0 hval0 h0 h1 h2
 simp only [List.append_nil] at hW' hlt
 refine (SpellingIntervals_any two nn na r0 r1 r2 r3 r4 r5 r6 r7 r8 r9 r10 r11 r12 r13 np qa QL qc vals xa xs xc most W hG hE hnn hna hr hnp hQ hQ8 hel).mono fun e W' ⟨he,hw⟩=>?_
 subst he
 have hb:Below W.heap.size W W':=hw
 have t0:=Below.trod seatOut readPlan typesPl.1 h0k hb (fun z hz=>by simpa using hlt z (by simp [hz]))
 have t1:=Below.trod seatOut readTPlan typesI.1 h1k hb (fun z hz=>by simpa using hlt z (by simp [hz]))
 have t2:=Below.trod seatOut readQuery typesI.2 h2k hb (fun z hz=>by simpa using hlt z (by simp [hz]))
 refine ⟨_,rfl,_,_,_,[],p0 ++ (p1 ++ p2),[],by simpa using hW', ?_, ?_, ?_,hb.frame _,fun h=>by cases h⟩
 ·exact trodAll_mk1 (shut_bool Tryz.underlying4 true)
 ·exact trodAll_mk3 t0 t1 t2
 ·rfl

set_option maxHeartbeats 4000000 in
theorem intervals43_facts:joinedFacts Tryz.prog 6 Tryz.f6 Rows.spellingIntervalsSpec Rows.spellingIntervalsRow=true:=by
 unfold joinedFacts
 repeat' (with_reducible refine and_mkP ?_ ?_)
 all_goals (as_aux_lemma=>kernel_rfl)
set_option maxHeartbeats 4000000 in
theorem intervals43_wrap:Tryz.f6.isWrapper Tryz.prog Rows.spellingIntervalsRow.wrapper Rows.spellingIntervalsRow.mainSum:=by
 unfold Func.isWrapper
 rw [if_neg (by decide +kernel)]
 exact ⟨rfl,rfl⟩
theorem intervals43_inst:Tryz.f6.isInstance Tryz.prog Rows.spellingIntervalsRow.origin Rows.spellingIntervalsRow.targs:=of_decide_eq_true (by kernel_rfl)
theorem intervals43_named:Tryz.prog.funcNamed Rows.spellingIntervalsRow.func=some 6:=by kernel_rfl
theorem intervals43_holds:Rows.SpellingIntervalsSaid :=
 OpenClaim.holds_of_wide 6 Tryz.f6 rfl rfl rfl rfl rfl rfl rfl ⟨rfl,rfl,rfl,rfl,rfl⟩ rfl rfl rfl rfl rfl intervals43_named Tryz.func6 intervals43_facts
  intervals43_inst intervals43_wrap
  (fun os started H enc _=>intervals43_lifted os started H enc)
end Go.Proofs.YtmalpgbbddkdcaaGreatDoor
