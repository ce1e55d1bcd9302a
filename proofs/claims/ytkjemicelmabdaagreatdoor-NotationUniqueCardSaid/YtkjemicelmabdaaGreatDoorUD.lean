/- Contracts and laws: UD. -/
import Derived.Test.YtkjemicelmabdaaGreatDoorUA
import Derived.Lib.AppendIntMem
import Derived.Test.YtkjemicelmabdaaGreatDoorUC
import Derived.Deep.RegionHeld3
import Derived.Test.YtkjemicelmabdaaGreatDoorUB
import Derived.OrdersHeld
import Derived.StillTail

set_option maxRecDepth 100000
set_option maxHeartbeats 4000000
namespace Go.Proofs.YtkjemicelmabdaaGreatDoor
open Go.RowKit Go.Lib Go.Sort
theorem HQ:∀ (l:List UInt8) (acc:Nat),(∀ c ∈ l,48≤c.toNat∧c.toNat≤57)→A8 acc l < 1000000000000000000→parseUintM (2 ^ 64 - 1) acc l=.ok (A8 acc l)
 | [],acc,_,_=>rfl
 | c :: r,acc,hd,hv=>by
   have hc:=hd c Bx
   have hr:∀ x ∈ r,48≤x.toNat∧x.toNat≤57:=fun x hx=>hd x (BV _ hx)
   have e:A8 acc (c :: r)=A8 (acc * 10+(c.toNat - 48)) r:=rfl
   rw [e] at hv ⊢
   have hle:=(C3 r (acc * 10+(c.toNat - 48)) hr).1
   have hp:=VR (n:=r.length) (show 0 < 10 by decide)
   have h2:acc * 10+(c.toNat - 48)≤A8 (acc * 10+(c.toNat - 48)) r:=Aw (Ze _ hp) hle
   rw [parseUintM,Ak hc,Aj (by omega),Aj (by omega)]
   exact HQ r _ hr hv
theorem LI (u:Nat) (h:u < 1000000000000000000):parseUintB 64 (tx (u:Int)).data.toList=.ok u:=by
 rw [Fo,Ca (by omega),show (u:Int).toNat=u by omega]
 unfold parseUintB
 rw [Aj (HY u),HQ _ _ (Cn u) (by rw [Cm]; exact h),Cm]
theorem VH (u:Nat) (h:u < 1000000000000000000) (w:World) :
 Calls Tryz.prog 189 #[.string (tx (u:Int))] w fun e w'=>e=.returned (.tuple #[.int .u64 u,.bool true])∧Fr w w':=by
 have hs:=BE 18 (u:Int) (by omega) (by omega)
 have hp:∀ W:World,Calls Tryz.prog 218 #[.string (tx (u:Int)),.int .i64 10,.int .i64 64] W fun e w'=>e=.returned (.tuple #[.int .u64 u,.nilIface])∧Fr W w':=fun W=>by
  go_enter Tryz.func218,Tryz.ntmps218
  go_wp2_with fail
  refine (Tryz.internal_strconv_ParseUint_10_at64 (tx (u:Int)) (by omega) _).mono ?_
  rw [LI u h]
  rintro e w1 ⟨rfl,hw⟩
  have hf:=L3 (hw.imp id fun h=>⟨_,h⟩)
  clear hw
  unfold uintTupleM
  go_wp2_with fail
  go_ret2
  exact ⟨rfl,hf⟩
 replace hp:=hZ hp
 go_enter Tryz.func189,Tryz.ntmps189
 go_wp2_with fail
 refine (hp.out _).mono ?_
 rintro e w1 ⟨rfl,hf⟩
 go_wp2_with fail
 go_ret2
 exact ⟨rfl,hf⟩
theorem Y2 (u v:Nat) (hu:(tx (u:Int)).size≤18) (hv:(tx (v:Int)).size≤18) (h1:u < 1000000000000000000) (h2:v < 1000000000000000000) (w:World) :
 Calls Tryz.prog 141 #[.string (tx (u:Int)),.string (tx (v:Int))] w fun e w'=>e=.returned (.tuple #[.int .u64 u,.int .u64 v,.bool true])∧Fr w w':=by
 have c1:=hZ (fun W=>VH u h1 W)
 have c2:=hZ (fun W=>VH v h2 W)
 have d1:decide ((18:Int) < ((tx (u:Int)).size:Int))=false:=Ab (by omega)
 have d2:decide ((18:Int) < ((tx (v:Int)).size:Int))=false:=Ab (by omega)
 go_enter Tryz.func141,Tryz.ntmps141
 go_wp2_with fail
 refine (c1.out _).mono ?_
 rintro e w1 ⟨rfl,hf1⟩
 go_wp2_with fail
 refine (c2.out _).mono ?_
 rintro e w2 ⟨rfl,hf2⟩
 go_wp2_with fail
 go_ret3
 exact ⟨rfl,hf1.trans hf2⟩
theorem Xe (u:Nat) (hu64:u < 18446744073709551616) (w:World) (hG:G w) :
 Calls Tryz.prog 219 #[.int .u64 u,.int .i64 10] w fun e w'=>e=.returned (.string (tx (u:Int)))∧Fr w w':=by
 have hte:tx (u:Int)=⟨(decDigits u).toArray⟩:=by show (⟨(itoa (u:Int)).toArray⟩:ByteArray)=_; rw [Ca (by omega),show (u:Int).toNat=u by omega]
 by_cases h100:u < 100
 ·have d1:decide ((u:Int) < 100)=true:=Ad (by omega)
  replace hte:=hZ hte
  go_enter Tryz.func219,Tryz.ntmps219
  go_wp2_with fail
  refine (Tryz.internal_strconv_small u h100 _).mono ?_
  rintro e w1 ⟨rfl,rfl⟩
  go_wp2_with fail
  go_ret
  exact ⟨by rw [hte.out]; rfl,Fr.refl _⟩
 ·have d1:decide ((u:Int) < 100)=false:=Ab (by omega)
  have hu1:1≤u:=by omega
  have hnd20:nDigits u≤20:=by have:=numDigits_eq u hu1 hu64; split at this <;> omega
  have hb3:nDigits u≤24:=by omega
  have hal:Tryz.prog.arrayLen 270=24:=by kernel_rfl
  have hsl:∀ W,(Instr.sliceAt 270 (.pointer (some ⟨w.heap.size,0,none⟩)) none (some (.int .i64 (nDigits u:Int))) none).run Tryz.prog W=.ok (.slice (some ⟨w.heap.size,0,none⟩) (nDigits u) 24) W:=fun W=>by
   rw [run_sliceAt_array_h W 270 ⟨w.heap.size,0,none⟩ (by simp [Program.arrayLen,Program.elem,Tryz.underlying270]) .i64 (nDigits u:Int) (by omega) (by rw [hal]; omega)]
   go_simp
  have hH0:=holds_zero0 w 270 (nDigits u) (by omega)
  have hfmt:=Tryz.internal_strconv_formatBase10 w.heap.size 0 24 u (Array.replicate (nDigits u) 0) (w.alloc (.cells zeros24 270)) hH0 (by rw [HG]; exact lt_pow_nDigits u) hu64 (by rw [HG]; omega)
  rw [HG] at hfmt
  have HH0:=hZ hH0
  have hnum:=hZ (fun W (hW:G W)=>Tryz.internal_strconv_numDigits u hu1 hu64 W hW)
  replace hte:=hZ hte
  clear hH0 hal
  have hGa:Hid (G (w.alloc (.cells zeros24 270))):=tabIs_alloc hG _
  go_enter Tryz.func219,Tryz.ntmps219
  go_wp2_with (go_at_call 208; refine (hnum.out _ hGa.out).mono ?_; rintro e w' ⟨rfl,rfl⟩)
  go_at_call 209
  refine hfmt.mono ?_
  rintro e w' ⟨rfl,k,v',dk,rfl,hF⟩
  have hcv:(convert 48 9 (.slice (some ⟨w.heap.size,0,none⟩) (nDigits u) 24)).run Tryz.prog ((putRow (fun (b:UInt8)=>Value.int .u8 (b.toNat:Int)) (w.alloc (.cells zeros24 270)) w.heap.size 0 dk).drewN k)=.ok (.string ⟨(decDigits u).toArray⟩) ((putRow (fun (b:UInt8)=>Value.int .u8 (b.toNat:Int)) (w.alloc (.cells zeros24 270)) w.heap.size 0 dk).drewN k):=by
   have h:=Zy (P:=Tryz.prog) ((putRow (fun (b:UInt8)=>Value.int .u8 (b.toNat:Int)) (w.alloc (.cells zeros24 270)) w.heap.size 0 dk).drewN k) 48 9 5 ⟨w.heap.size,0,none⟩ 24 (decDigits u) Tryz.underlying48 Tryz.underlying5 Tryz.underlying9 (fun j hj=>by
    rw [row_is_numeral hF j hj,add_plain,World.cell?_drewN]
    exact cell?_putRow (fun (b:UInt8)=>Value.int .u8 (b.toNat:Int)) _ w.heap.size 0 _ dk HH0.out (by rw [hF.size,HG]) j (by rw [hF.size]; rw [decDigits_length] at hj; exact hj))
   rw [decDigits_length] at h
   exact h
  obtain ⟨os,-,eo⟩:=putRow_grow_new (fun (b:UInt8)=>Value.int .u8 (b.toNat:Int)) w #[.cells zeros24 270] w.heap.size 0 dk (Af _)
  have hfr:Fr w ((putRow (fun (b:UInt8)=>Value.int .u8 (b.toNat:Int)) (w.alloc (.cells zeros24 270)) w.heap.size 0 dk).drewN k):=by
   rw [alloc_eq_grow,eo]
   exact RW w k os
  replace hfr:=hZ hfr
  clear eo
  go_wp2
  go_ret
  exact ⟨by rw [hte.out]; rfl,hfr.out⟩
theorem ZW (u:Nat) (hu64:u < 18446744073709551616) (w:World) (hG:G w) :
 Calls Tryz.prog 142 #[.int .u64 u] w fun e w'=>e=.returned (.string (tx (u:Int)))∧Fr w w':=by
 have h1:∀ W:World,G W→Calls Tryz.prog 190 #[.int .u64 u,.int .i64 10] W fun e w'=>e=.returned (.string (tx (u:Int)))∧Fr W w':=fun W hW=>by
  go_enter Tryz.func190,Tryz.ntmps190
  go_wp2_with fail
  refine (Xe u hu64 _ hW).mono ?_
  rintro e w1 ⟨rfl,hf⟩
  go_wp2_with fail
  go_ret
  exact ⟨rfl,hf⟩
 replace h1:=hZ h1
 go_enter Tryz.func142,Tryz.ntmps142
 go_wp2_with fail
 refine (h1.out _ hG).mono ?_
 rintro e w1 ⟨rfl,hf⟩
 go_wp2_with fail
 go_ret
 exact ⟨rfl,hf⟩
theorem Y3 (u v:Nat) (hs:(tx (u:Int)).size+(tx (v:Int)).size≤18) (h1:u < 1000000000000000000) (h2:v < 1000000000000000000) (h3:u * v < 18446744073709551616) (w:World) (hG:G w) :
 Calls Tryz.prog 87 #[.string (tx (u:Int)),.string (tx (v:Int))] w fun e w'=>e=.returned (.string (tx ((u * v:Nat):Int)))∧Fr w w':=by
 have c1:=hZ (fun W=>Y2 u v (by omega) (by omega) h1 h2 W)
 have c2:=hZ (fun W (hW:G W)=>ZW (u * v) h3 W hW)
 have d1:decide (((tx (u:Int)).size:Int)+((tx (v:Int)).size:Int)≤18)=true:=Ad (by omega)
 have e3:((u:Int) * (v:Int))=((u * v:Nat):Int):=by rw [CO]
 have e4:=hZ e3
 have h4:(u:Int) * (v:Int) < 18446744073709551616:=by omega
 have h5:(0:Int)≤(u:Int) * (v:Int):=by omega
 generalize tx (u:Int)=s at *
 generalize tx (v:Int)=t at *
 go_enter Tryz.func87,Tryz.ntmps87
 go_wp2_with fail
 refine (c1.out _).mono ?_
 rintro e w1 ⟨rfl,hf1⟩
 have c3:=c2.out w1 (hG.fr hf1)
 rw [← e3] at c3
 clear e3 h3
 go_wp2_with fail
 refine c3.mono ?_
 rintro e w2 ⟨rfl,hf2⟩
 go_wp2_with fail
 go_ret
 exact ⟨by rw [← e4.out]; rfl,hf1.trans hf2⟩
theorem Yn (a b:Int) (ha:-1000000000≤a∧a≤1000000000) (hb:Ti b) (w:World) (hG:G w) :
 Calls Tryz.prog 39 #[.string (tx a),.string (tx b)] w fun e w'=>e=.returned (.string (tx (a * b)))∧Fr w w':=by
 have sb:=hb.size
 obtain ⟨b1,b2⟩:=hb
 have hm:a.natAbs * b.natAbs≤1000000000 * 100000000:=BF (by omega) (by omega)
 have hm2:(a * b).natAbs=a.natAbs * b.natAbs:=A1 a b
 have m1:-100000000000000000≤a * b:=by omega
 have m2:a * b≤100000000000000000:=by omega
 have sa:(tx a).size≤11:=BE 10 a (by omega) (by omega)
 obtain ⟨a1,a2⟩:=ha
 by_cases h9:(tx a).size≤9
 ·clear hm hm2
  go_enter Tryz.func39,Tryz.ntmps39
  go_wp2_with fail
  refine (Cg a 9 (by omega) (by omega) _ (by omega)).mono ?_; rintro e w1 ⟨rfl,hf1⟩
  go_wp2_with fail
  refine (Cg b 9 (by omega) (by omega) _ (by omega)).mono ?_; rintro e w2 ⟨rfl,hf2⟩
  go_wp2_with fail
  refine (Dm _ (by omega) (by omega) _ (hG.fr (hf1.trans hf2))).mono ?_; rintro e w3 ⟨rfl,hf3⟩
  go_wp2_with fail
  go_ret
  exact ⟨rfl,(hf1.trans hf2).trans hf3⟩
 ·have hc1:(tx (a.natAbs:Int)).size≤10:=by rw [Dq]; exact Eh 10 _ (by omega) (by omega)
  have hc2:(tx (b.natAbs:Int)).size≤8:=by rw [Dq]; exact Eh 8 _ (by omega) (by omega)
  have hp:Hid (((a.natAbs * b.natAbs:Nat):Int)=(a.natAbs:Int) * (b.natAbs:Int)):=CO _ _
  have hdm:=hZ (fun W (hW:G W)=>Y3 a.natAbs b.natAbs (by omega) (by omega) (by omega) (by omega) W hW)
  have hnn:(0:Int)≤((a.natAbs * b.natAbs:Nat):Int):=Ag _
  have hsz:(tx ((a.natAbs * b.natAbs:Nat):Int)).size≤1000000000:=by
   have:=BE 18 ((a.natAbs * b.natAbs:Nat):Int) (by omega) (by omega)
   omega
  have hli:=hZ (fun W=>Nt a 9 W (by omega) (by omega))
  have hgoal:∀ s:Bool,(s=(decide (a < 0) != decide (b < 0)))→(if s then -((a.natAbs * b.natAbs:Nat):Int) else ((a.natAbs * b.natAbs:Nat):Int))=a * b:=fun s hs=>by
   rw [hs,hp.out]
   rcases Fz a 0 with h | h <;> rcases Fz b 0 with k | k
   ·rw [Ad h,Ad k,show (a.natAbs:Int)=-a by omega,show (b.natAbs:Int)=-b by omega]; exact Int.neg_mul_neg a b
   ·rw [Ad h,Ab (by omega),show (a.natAbs:Int)=-a by omega,show (b.natAbs:Int)=b by omega]; show -(-a * b)=a * b; rw [Z4,OH]
   ·rw [Ab (by omega),Ad k,show (a.natAbs:Int)=a by omega,show (b.natAbs:Int)=-b by omega]; show -(a * -b)=a * b; rw [Int.mul_neg,OH]
   ·rw [Ab (by omega),Ab (by omega),show (a.natAbs:Int)=a by omega,show (b.natAbs:Int)=b by omega]; rfl
  have spA:∀ W:World,Calls Tryz.prog 82 #[.string (tx a)] W fun e w'=>e=.returned (.tuple #[.bool (decide (a < 0)),.string (tx (a.natAbs:Int))])∧Fr W w':=fun W=>by
   rcases Fz a 0 with h | h
   ·rw [Ad h,show (a.natAbs:Int)=-a by omega]; exact Lv a h W (by omega)
   ·rw [Ab (by omega),show (a.natAbs:Int)=a by omega]; exact Lu a h W (by omega)
  have spB:∀ W:World,Calls Tryz.prog 82 #[.string (tx b)] W fun e w'=>e=.returned (.tuple #[.bool (decide (b < 0)),.string (tx (b.natAbs:Int))])∧Fr W w':=fun W=>by
   rcases Fz b 0 with h | h
   ·rw [Ad h,show (b.natAbs:Int)=-b by omega]; exact Lv b h W (by omega)
   ·rw [Ab (by omega),show (b.natAbs:Int)=b by omega]; exact Lu b h W (by omega)
  obtain ⟨sA,hsA⟩:∃ sA,sA=decide (a < 0):=⟨_,rfl⟩
  obtain ⟨sB,hsB⟩:∃ sB,sB=decide (b < 0):=⟨_,rfl⟩
  rw [← hsA] at spA hgoal
  rw [← hsB] at spB hgoal
  have hjo:=hZ (fun W=>JD (sA != sB) _ hnn W hsz)
  replace hgoal:=hZ (hgoal (sA != sB) rfl)
  generalize ((a.natAbs * b.natAbs:Nat):Int)=p at *
  generalize tx (a.natAbs:Int)=ta at *
  generalize tx (b.natAbs:Int)=tb' at *
  replace spA:=hZ spA
  replace spB:=hZ spB
  replace hsA:=hZ hsA
  replace hsB:=hZ hsB
  clear hm hm2 hp hnn hsz
  cases sA <;> cases sB
  all_goals
   go_enter Tryz.func39,Tryz.ntmps39
   go_wp2_with fail
   refine (hli.out _).mono ?_; rintro e w1 ⟨rfl,rfl⟩
   go_wp2_with fail
   refine (spA.out _).mono ?_; rintro e w2 ⟨rfl,hf2⟩
   go_wp2_with fail
   refine (spB.out _).mono ?_; rintro e w3 ⟨rfl,hf3⟩
   go_wp2_with fail
   refine (hdm.out _ (hG.fr (hf2.trans hf3))).mono ?_; rintro e w4 ⟨rfl,hf4⟩
   go_wp2_with fail
   refine (hjo.out _).mono ?_; rintro e w5 ⟨rfl,rfl⟩
   go_wp2_with fail
   go_ret
   exact ⟨by rw [← hgoal.out]; rfl,(hf2.trans hf3).trans hf4⟩
end Go.Proofs.YtkjemicelmabdaaGreatDoor
namespace Go.Proofs.YtkjemicelmabdaaGreatDoor
open Go.RowKit Go.Lib
attribute [local go_sem ↓] AQ AR
abbrev qv (x:Rat):Value:=.agg #[sv x.num,sv (x.den:Int)]
theorem UP (a b:Int):Nat.gcd b.natAbs (a.tmod b).natAbs=Nat.gcd a.natAbs b.natAbs:=by
 rw [Int.natAbs_tmod,D8,← Z1,D8]
theorem XU (n:Int) (d:Nat) (hd:0 < d):(mkRat n d).num=n.tdiv (Nat.gcd n.natAbs d:Int):=by
 rw [Rat.num_mkRat,Aj (by omega),D8]
 exact (Zg (Int.ofNat_dvd_left.2 (Nat.gcd_dvd_left _ _))).symm
theorem XV (n:Int) (d:Nat) (hd:0 < d):((mkRat n d).den:Int)=(d:Int).tdiv (Nat.gcd n.natAbs d:Int):=by
 rw [Rat.den_mkRat,Aj (by omega),D8]
 have h:((Nat.gcd n.natAbs d:Nat):Int) ∣ (d:Int):=Int.natCast_dvd_natCast.2 (Nat.gcd_dvd_right _ _)
 rw [Zg h]
 exact Int.natCast_ediv _ _
def M4 (n:Int):Prop:=-4611686018427387904 < n∧n < 4611686018427387904
theorem OT {n g:Int} (h:M4 n):M4 (n.tdiv g):=by
 have:=Int.natAbs_tdiv_le_natAbs n g
 unfold M4 at *
 omega
theorem Uz (n:Int) (d:Nat) (hn:M4 n) (hd0:0 < d) (hd:M4 d) (w:World) (hG:G w) :
 Calls Tryz.prog 126 #[.int .i64 n,.int .i64 d] w fun e w'=>e=.returned (qv (mkRat n d))∧Fr w w':=by
 have hnum:=XU n d hd0
 have hden:=XV n d hd0
 unfold qv
 rw [hnum,hden]
 clear hnum hden
 obtain ⟨g,hg⟩:∃ g,g=Nat.gcd n.natAbs d:=⟨_,rfl⟩
 rw [← hg]
 have hg0:0 < g:=by rw [hg]; exact Ky _ hd0
 have hgd:g≤d:=by rw [hg]; exact VM _ hd0
 have hbn:=OT (g:=g) hn
 have hbd:=OT (g:=g) hd
 rw [Fk (Ag d)] at hbd
 rw [Fk (Ag d)]
 unfold M4 at hn hd hbn hbd
 have hi1:=hZ (fun W (hW:Fr w W)=>Fu (n.tdiv g) (by omega) (by omega) W (hG.fr hW))
 have hi2:=hZ (fun W (hW:Fr w W)=>Fu ((d:Int) / (g:Int)) (by omega) (by omega) W (hG.fr hW))
 replace hbn:=hZ hbn
 replace hbd:=hZ hbd
 replace hg:=hZ hg
 obtain ⟨wb,hwb⟩:∃ wb,wb=w.alloc (.cells #[.string ⟨#[]⟩,.string ⟨#[]⟩] 134):=⟨_,rfl⟩
 have hfb:Fr w wb:=by rw [hwb]; exact (Fr.refl _).alloc _
 have q4:wb.cell? ⟨w.heap.size,0,none⟩=some (.string ⟨#[]⟩):=by rw [hwb]; exact (CL _ _ _ _).1
 have q5:wb.cell? ⟨w.heap.size,1,none⟩=some (.string ⟨#[]⟩):=by rw [hwb]; exact (CK _ _ _ _).1
 have q6:wb.frozen? ⟨w.heap.size,0,none⟩=false:=by rw [hwb]; exact (CL _ _ _ _).2
 have q7:wb.frozen? ⟨w.heap.size,1,none⟩=false:=by rw [hwb]; exact (CK _ _ _ _).2
 go_enter Tryz.func126,Tryz.ntmps126
 go_upto_region 1 with (fail)
 rw [← hwb]
 clear hwb
 go_wp2_with fail
 replace q4:=hZ q4
 replace q5:=hZ q5
 replace q6:=hZ q6
 replace q7:=hZ q7
 go_loopg [5,6] d (fun gk s5 s6 wr=>∃ a b:Int,s5=.int .i64 a∧s6=.int .i64 b∧Hid (Nat.gcd a.natAbs b.natAbs=g)∧b.natAbs≤gk∧a.natAbs < 4611686018427387904∧b.natAbs < 4611686018427387904∧Qt wb wr)
 case atStart=>exact ⟨n,d,rfl,rfl,by show _=_; rw [hg.out,AA],by rw [AA]; exact Af _,by omega,by omega,Qt.refl _⟩
 case round=>
  obtain ⟨a,b,rfl,rfl,hgc,hbk,ha1,hb1,hq⟩:=hrel
  by_cases hb0:b=0
  ·subst hb0
   have hga:a.natAbs=g:=by have:=hgc.out; rw [Int.natAbs_zero,Rp] at this; exact this
   have hz1:(0:Int) < (g:Int):=by omega
   have hz2:(1:Int)≤(g:Int):=by omega
   have hfr:=hq.fr
   replace q6:=hfr.keepf q4.out q6.out
   replace q7:=hfr.keepf q5.out q7.out
   replace q4:=hfr.keep q4.out
   replace q5:=hfr.keep q5.out
   replace hfr:=hfb.trans hfr
   clear hq hfb
   replace hbk:=hZ hbk
   by_cases hneg:a < 0
   ·obtain rfl:a=-(g:Int):=by omega
    go_wp2_with fail
    have hg00:((g:Int) == 0)=false:=AF (by omega)
    have hg01:¬ (g:Int)=0:=by omega
    have hg02:¬ g=0:=by omega
    have hq1:IntKind.i64.wrap (n.tdiv (g:Int))=n.tdiv (g:Int):=AC _ (by have:=hbn.out; omega)
    have hq2:IntKind.i64.wrap ((d:Int) / (g:Int))=(d:Int) / (g:Int):=AC _ (by have:=hbd.out; omega)
    go_region_held3 (fun _=>True) (exact trivial)
     (first
      | (go_at_call 63; (with_reducible refine (hi1.out _ ?_).mono ?_); (exact BM); rintro e w3 ⟨rfl,hf3⟩; have hfz:Fr wr w3:=(by exact BM); have t4:=hfz.keep q4; have t5:=hfz.keep q5; have t6:=hfz.keepf q4 q6; have t7:=hfz.keepf q5 q7; have qs:=Bf w3 w.heap.size (sv (n.tdiv g)) (sv ((d:Int) / (g:Int))) _ _ t4 t5; have q8:=qs.2.2.1; have u0:=hZ qs.1; have u1:=hZ qs.2.1; have hfx:=hZ qs.2.2.2; clear qs)
      | (go_at_call 63; (with_reducible refine (hi2.out _ ?_).mono ?_); (exact BM); rintro e w4 ⟨rfl,hf4⟩; have hfz:Fr wr w4:=(by exact BM); have t4:=hfz.keep q4; have t5:=hfz.keep q5; have t6:=hfz.keepf q4 q6; have t7:=hfz.keepf q5 q7; have qs:=Bf w4 w.heap.size (sv (n.tdiv g)) (sv ((d:Int) / (g:Int))) _ _ t4 t5; have q8:=qs.2.2.1; have u0:=hZ qs.1; have u1:=hZ qs.2.1; have hfx:=hZ qs.2.2.2; clear qs))
    clear q8 t4 t5 t6 t7
    go_wp2_with fail
    have v0:=u0.out
    have v1:=u1.out
    refine Ay (v:=.agg #[sv (n.tdiv (g:Int)),sv ((d:Int) / (g:Int))]) (by simp [results,Tryz.results126,go_sem,v0,v1]) rfl ⟨rfl, ?_⟩
    exact ((Fx.of_fr (p:=fun q=>q=w.heap.size) (hfr.trans hfz)).trans hfx.out).toFr (fun q hq e=>by have e:q=w.heap.size:=e; omega)
   ·obtain rfl:a=(g:Int):=by omega
    go_wp2_with fail
    have hg00:((g:Int) == 0)=false:=AF (by omega)
    have hg01:¬ (g:Int)=0:=by omega
    have hg02:¬ g=0:=by omega
    have hq1:IntKind.i64.wrap (n.tdiv (g:Int))=n.tdiv (g:Int):=AC _ (by have:=hbn.out; omega)
    have hq2:IntKind.i64.wrap ((d:Int) / (g:Int))=(d:Int) / (g:Int):=AC _ (by have:=hbd.out; omega)
    go_region_held3 (fun _=>True) (exact trivial)
     (first
      | (go_at_call 63; (with_reducible refine (hi1.out _ ?_).mono ?_); (exact BM); rintro e w3 ⟨rfl,hf3⟩; have hfz:Fr wr w3:=(by exact BM); have t4:=hfz.keep q4; have t5:=hfz.keep q5; have t6:=hfz.keepf q4 q6; have t7:=hfz.keepf q5 q7; have qs:=Bf w3 w.heap.size (sv (n.tdiv g)) (sv ((d:Int) / (g:Int))) _ _ t4 t5; have q8:=qs.2.2.1; have u0:=hZ qs.1; have u1:=hZ qs.2.1; have hfx:=hZ qs.2.2.2; clear qs)
      | (go_at_call 63; (with_reducible refine (hi2.out _ ?_).mono ?_); (exact BM); rintro e w4 ⟨rfl,hf4⟩; have hfz:Fr wr w4:=(by exact BM); have t4:=hfz.keep q4; have t5:=hfz.keep q5; have t6:=hfz.keepf q4 q6; have t7:=hfz.keepf q5 q7; have qs:=Bf w4 w.heap.size (sv (n.tdiv g)) (sv ((d:Int) / (g:Int))) _ _ t4 t5; have q8:=qs.2.2.1; have u0:=hZ qs.1; have u1:=hZ qs.2.1; have hfx:=hZ qs.2.2.2; clear qs))
    clear q8 t4 t5 t6 t7
    go_wp2_with fail
    have v0:=u0.out
    have v1:=u1.out
    refine Ay (v:=.agg #[sv (n.tdiv (g:Int)),sv ((d:Int) / (g:Int))]) (by simp [results,Tryz.results126,go_sem,v0,v1]) rfl ⟨rfl, ?_⟩
    exact ((Fx.of_fr (p:=fun q=>q=w.heap.size) (hfr.trans hfz)).trans hfx.out).toFr (fun q hq e=>by have e:q=w.heap.size:=e; omega)
  ·have d1:(b != 0)=true:=BJ.2 hb0
   have d2:(b == 0)=false:=AF hb0
   have hst:=hZ ((UP a b).trans hgc.out)
   have hlt:=GK a b hb0
   replace hb0:=hZ hb0
   go_wp2_with fail
   go_region
   go_wp2_with fail
   go_roundg (gk - 1)
   case measure=>omega
   case rel=>exact ⟨b,a.tmod b,rfl,by first | rfl | (simp; exact AC _ (by omega)),hst.out,by omega,by omega,by omega,hq.drew⟩
theorem UQ (x y:Nat) (hx:x < 4611686018427387904) (hy:y < 4611686018427387904) (w:World) :
 Calls Tryz.prog 215 #[.int .i64 x,.int .i64 y] w fun e w'=>e=.returned (.int .i64 (Nat.gcd x y:Nat))∧Fr w w':=by
 obtain ⟨g,hg⟩:∃ g,g=Nat.gcd x y:=⟨_,rfl⟩
 rw [← hg]
 replace hg:=hZ hg
 go_enter Tryz.func215,Tryz.ntmps215
 go_wp2_with fail
 go_loopg [0,1] y (fun gk s0 s1 wr=>∃ a b:Nat,s0=.int .i64 a∧s1=.int .i64 b∧Hid (Nat.gcd a b=g)∧b≤gk∧a < 4611686018427387904∧b < 4611686018427387904∧Qt w wr)
 case atStart=>exact ⟨x,y,rfl,rfl,hg.out.symm,Af _,hx,hy,Qt.refl _⟩
 case round=>
  obtain ⟨a,b,rfl,rfl,hgc,hbk,ha1,hb1,hq⟩:=hrel
  by_cases hb0:b=0
  ·subst hb0
   have hga:a=g:=by have:=hgc.out; rw [Rp] at this; exact this
   have hfin:=hZ hga
   clear hga
   go_wp2_with fail
   go_ret
   exact ⟨Bp (by rw [hfin.out]),hq.fr⟩
  ·have d1:((b:Int) != 0)=true:=BJ.2 (by omega)
   have d2:((b:Int) == 0)=false:=AF (by omega)
   have hst:=hZ (show Nat.gcd b (a % b)=g by rw [← hgc.out,D8 a b,Z1 b a,D8])
   have hlt:=Hv a (show 0 < b by omega)
   have z1:(0:Int)≤(a:Int):=Ag _
   have z2:(1:Int)≤(b:Int):=by omega
   replace hb0:=hZ hb0
   go_wp2_with fail
   go_region
   go_wp2_with fail
   go_roundg (gk - 1)
   case measure=>omega
   case rel=>exact ⟨b,a % b,rfl,by go_num,hst.out,by omega,by omega,by omega,hq.drew⟩
theorem Yo (a b:Int) (ha:Sm a) (hb:Sm b) (w:World) (hG:G w) :
 Calls Tryz.prog 185 #[.string (tx a),.string (tx b)] w fun e w'=>e=.returned (.string (tx (Nat.gcd a.natAbs b.natAbs:Nat)))∧Fr w w':=by
 have sa:=ha.size
 have sb:=hb.size
 unfold Sm at ha hb
 have h1:=hZ (fun W=>OB a W (by omega))
 have h2:=hZ (fun W=>OB b W (by omega))
 have hsa:(tx (a.natAbs:Int)).size≤18:=BE 17 _ (by omega) (by omega)
 have hsb:(tx (b.natAbs:Int)).size≤18:=BE 17 _ (by omega) (by omega)
 have h3:=hZ (fun W=>Cg (a.natAbs:Int) 18 (by omega) (by omega) W (by omega))
 have h4:=hZ (fun W=>Cg (b.natAbs:Int) 18 (by omega) (by omega) W (by omega))
 have h5:=hZ (fun W=>UQ a.natAbs b.natAbs (by omega) (by omega) W)
 have hgl:Nat.gcd a.natAbs b.natAbs≤a.natAbs∨Nat.gcd a.natAbs b.natAbs≤b.natAbs:=by
  rcases Nat.eq_zero_or_pos a.natAbs with h | h
  ·exact .inr (by rw [h,Nat.gcd_zero_left]; exact Af _)
  ·exact .inl (Nat.gcd_le_left _ h)
 have h6:=hZ (fun W (hW:Fr w W)=>Dm (Nat.gcd a.natAbs b.natAbs:Nat) (by omega) (by omega) W (hG.fr hW))
 generalize Nat.gcd a.natAbs b.natAbs=g at *
 clear ha hb sa sb hsa hsb hgl
 go_enter Tryz.func185,Tryz.ntmps185
 go_wp2_with fail
 refine (h1.out _).mono ?_
 rintro e w1 ⟨rfl,hf1⟩
 go_wp2_with fail
 refine (h2.out _).mono ?_
 rintro e w2 ⟨rfl,hf2⟩
 go_wp2_with fail
 refine (h3.out _).mono ?_
 rintro e w3 ⟨rfl,hf3⟩
 go_wp2_with fail
 refine (h4.out _).mono ?_
 rintro e w4 ⟨rfl,hf4⟩
 go_wp2_with fail
 refine (h5.out _).mono ?_
 rintro e w5 ⟨rfl,hf5⟩
 have hfr:=(((hf1.trans hf2).trans hf3).trans hf4).trans hf5
 go_wp2_with fail
 refine (h6.out _ hfr).mono ?_
 rintro e w6 ⟨rfl,hf6⟩
 go_wp2_with fail
 go_ret
 exact ⟨rfl,hfr.trans hf6⟩
theorem RP (n d:Int) (hd:d≠0):(Rat.divInt n d).num=(d.sign * n).fdiv (Nat.gcd (d.sign * n).natAbs d.natAbs:Nat):=by
 have e:(Nat.gcd (d.sign * n).natAbs d.natAbs)=d.gcd n:=by
  rw [A1,Fl hd,Gj,D8]; rfl
 rw [e,Ys]
 exact (Yv _ (Ag _)).symm
theorem RQ (n d:Int) (hd:d≠0):((Rat.divInt n d).den:Int)=(d.natAbs:Int).fdiv (Nat.gcd (d.sign * n).natAbs d.natAbs:Nat):=by
 have e:(Nat.gcd (d.sign * n).natAbs d.natAbs)=d.gcd n:=by
  rw [A1,Fl hd,Gj,D8]; rfl
 rw [e,Yt,Aj hd,Yv _ (Ag _)]
 exact Int.natCast_ediv _ _
theorem Ud {d:Int} (h:Sm d):Sm (d.natAbs:Int):=by unfold Sm at *; omega
theorem I7 (n d:Int) (hn:Sm n) (hd:Sm d) (h0:d≠0) (w:World) (hG:G w) :
 Calls Tryz.prog 127 #[.string (tx n),.string (tx d)] w fun e w'=>e=.returned (qv (Rat.divInt n d))∧Fr w w':=by
 unfold qv
 rw [RP n d h0,RQ n d h0]
 obtain ⟨n2,hn2⟩:∃ n2,n2=d.sign * n:=⟨_,rfl⟩
 obtain ⟨d2,hd2⟩:∃ d2:Int,d2=d.natAbs:=⟨_,rfl⟩
 have hs2:Sm n2:=by
  rcases EM h0 with h | h
  ·rw [hn2,Int.sign_eq_neg_one_of_neg h]; unfold Sm at *; omega
  ·rw [hn2,Int.sign_eq_one_of_pos h,Dn]; exact hn
 have hsd2:Sm d2:=by rw [hd2]; exact Ud hd
 have hd20:0 < d2:=by omega
 have hg2:=Yo n2 d2 hs2 hsd2
 have hna:d2.natAbs=d.natAbs:=by rw [hd2,AA]
 rw [hna] at hg2
 rw [← hn2,← hd2]
 obtain ⟨g,hg⟩:∃ g,g=Nat.gcd n2.natAbs d.natAbs:=⟨_,rfl⟩
 rw [← hg] at hg2 ⊢
 have hgp:0 < g:=by rw [hg]; exact Ky _ (by omega)
 have hgd:g≤d.natAbs:=by rw [hg]; exact VM _ (by omega)
 have hgS:Sm (g:Int):=by unfold Sm at *; omega
 have hdn:=hZ (fun W (hW:Fr w W)=>FT n2 g hs2 hgS (by omega) W (hG.fr hW))
 have hdd:=hZ (fun W (hW:Fr w W)=>FT d2 g hsd2 hgS (by omega) W (hG.fr hW))
 replace hg2:=hZ (fun W (hW:Fr w W)=>hg2 W (hG.fr hW))
 have hsn:=hn.size
 have hsd:=hd.size
 have hN1:=hZ (fun W=>JZ n W (by omega))
 have hN2:=hZ (fun W=>JZ d W (by omega))
 have hone:((tx (g:Int)).toList == [49])=decide ((g:Int)=1):=by rw [show [49]=itoa 1 from UK.symm]; exact Lk _ _
 obtain ⟨wb,hwb⟩:∃ wb,wb=w.alloc (.cells #[.string ⟨#[]⟩,.string ⟨#[]⟩] 134):=⟨_,rfl⟩
 have hfb:Fr w wb:=by rw [hwb]; exact (Fr.refl _).alloc _
 have q4:wb.cell? ⟨w.heap.size,0,none⟩=some (.string ⟨#[]⟩):=by rw [hwb]; exact (CL _ _ _ _).1
 have q5:wb.cell? ⟨w.heap.size,1,none⟩=some (.string ⟨#[]⟩):=by rw [hwb]; exact (CK _ _ _ _).1
 have q6:wb.frozen? ⟨w.heap.size,0,none⟩=false:=by rw [hwb]; exact (CL _ _ _ _).2
 have q7:wb.frozen? ⟨w.heap.size,1,none⟩=false:=by rw [hwb]; exact (CK _ _ _ _).2
 replace hg:=hZ hg
 by_cases hneg:d < 0
 ·have e1:-n=n2:=by rw [hn2,Int.sign_eq_neg_one_of_neg hneg]; omega
  have e2:-d=d2:=by omega
  have hsg:decide (d.sign < 0)=true:=Ad (by rw [Int.sign_eq_neg_one_of_neg hneg]; omega)
  rw [e1] at hN1
  rw [e2] at hN2
  replace hn2:=hZ hn2
  replace hd2:=hZ hd2
  replace hna:=hZ hna
  replace e1:=hZ e1
  replace e2:=hZ e2
  go_enter Tryz.func127,Tryz.ntmps127
  go_upto_region 1 with (fail)
  rw [← hwb]
  clear hwb
  go_wp2_with fail
  refine (DI _ _).mono ?_
  rintro e w1 ⟨rfl,rfl⟩
  go_wp2_with fail
  refine (hN1.out _).mono ?_
  rintro e w1 ⟨rfl,hf1⟩
  go_wp2_with fail
  refine (hN2.out _).mono ?_
  rintro e w2 ⟨rfl,hf2⟩
  have hfz:=hf1.trans hf2
  replace q6:=hfz.keepf q4 q6
  replace q7:=hfz.keepf q5 q7
  replace q4:=hfz.keep q4
  replace q5:=hfz.keep q5
  replace hfb:=hfb.trans hfz
  go_wp2_with fail
  refine (hg2.out _ hfb).mono ?_
  rintro e w3 ⟨rfl,hf3⟩
  replace q6:=hf3.keepf q4 q6
  replace q7:=hf3.keepf q5 q7
  replace q4:=hf3.keep q4
  replace q5:=hf3.keep q5
  replace hfb:=hfb.trans hf3
  by_cases hg1:g=1
  ·have hb1:decide ((g:Int)=1)=true:=Ad (by omega)
   rw [hb1] at hone
   have r1:=hZ (show sv (n2.fdiv (g:Int))=sv n2 by rw [hg1,show ((1:Nat):Int)=1 from rfl,Int.fdiv_one])
   have r2:=hZ (show sv (d2.fdiv (g:Int))=sv d2 by rw [hg1,show ((1:Nat):Int)=1 from rfl,Int.fdiv_one])
   have qs:=Bf w3 w.heap.size (sv n2) (sv d2) _ _ q4 q5
   have q8:=qs.2.2.1
   have u0:=hZ qs.1
   have u1:=hZ qs.2.1
   have hfx:=hZ qs.2.2.2
   clear qs
   replace hg1:=hZ hg1
   go_wp2_with fail
   have v0:=u0.out
   have v1:=u1.out
   rw [r1.out,r2.out]
   refine Ay (v:=.agg #[sv n2,sv d2]) (by simp [results,Tryz.results127,go_sem,v0,v1]) rfl ⟨rfl, ?_⟩
   exact ((Fx.of_fr (p:=fun q=>q=w.heap.size) hfb).trans hfx.out).toFr (fun q hq e=>by have e:q=w.heap.size:=e; omega)
  ·have hb1:decide ((g:Int)=1)=false:=Ab (by omega)
   rw [hb1] at hone
   replace hg1:=hZ hg1
   go_wp2_with fail
   refine (hdn.out _ hfb).mono ?_
   rintro e w4 ⟨rfl,hf4⟩
   replace hfb:=hfb.trans hf4
   go_wp2_with fail
   refine (hdd.out _ hfb).mono ?_
   rintro e w5 ⟨rfl,hf5⟩
   replace hfb:=hfb.trans hf5
   have hf45:=hf4.trans hf5
   replace q6:=hf45.keepf q4 q6
   replace q7:=hf45.keepf q5 q7
   replace q4:=hf45.keep q4
   replace q5:=hf45.keep q5
   have qs:=Bf w5 w.heap.size (sv (n2.fdiv (g:Int))) (sv (d2.fdiv (g:Int))) _ _ q4 q5
   have q8:=qs.2.2.1
   have u0:=hZ qs.1
   have u1:=hZ qs.2.1
   have hfx:=hZ qs.2.2.2
   clear qs
   go_wp2_with fail
   have v0:=u0.out
   have v1:=u1.out
   refine Ay (v:=.agg #[sv (n2.fdiv (g:Int)),sv (d2.fdiv (g:Int))]) (by simp [results,Tryz.results127,go_sem,v0,v1]) rfl ⟨rfl, ?_⟩
   exact ((Fx.of_fr (p:=fun q=>q=w.heap.size) hfb).trans hfx.out).toFr (fun q hq e=>by have e:q=w.heap.size:=e; omega)
 ·have hen:n=n2:=by rw [hn2,Int.sign_eq_one_of_pos (by omega),Dn]
  have hed:d=d2:=by omega
  have hsg:decide (d2.sign < 0)=false:=Ab (by rw [Int.sign_eq_one_of_pos (by omega)]; omega)
  rw [hen,hed]
  replace hen:=hZ hen
  replace hed:=hZ hed
  replace hn2:=hZ hn2
  replace hd2:=hZ hd2
  replace hna:=hZ hna
  go_enter Tryz.func127,Tryz.ntmps127
  go_upto_region 1 with (fail)
  rw [← hwb]
  clear hwb
  go_wp2_with fail
  refine (DI _ _).mono ?_
  rintro e w1 ⟨rfl,rfl⟩
  have hfz:=Fr.refl wb
  replace q6:=hfz.keepf q4 q6
  replace q7:=hfz.keepf q5 q7
  replace q4:=hfz.keep q4
  replace q5:=hfz.keep q5
  replace hfb:=hfb.trans hfz
  go_wp2_with fail
  refine (hg2.out _ hfb).mono ?_
  rintro e w3 ⟨rfl,hf3⟩
  replace q6:=hf3.keepf q4 q6
  replace q7:=hf3.keepf q5 q7
  replace q4:=hf3.keep q4
  replace q5:=hf3.keep q5
  replace hfb:=hfb.trans hf3
  by_cases hg1:g=1
  ·have hb1:decide ((g:Int)=1)=true:=Ad (by omega)
   rw [hb1] at hone
   have r1:=hZ (show sv (n2.fdiv (g:Int))=sv n2 by rw [hg1,show ((1:Nat):Int)=1 from rfl,Int.fdiv_one])
   have r2:=hZ (show sv (d2.fdiv (g:Int))=sv d2 by rw [hg1,show ((1:Nat):Int)=1 from rfl,Int.fdiv_one])
   have qs:=Bf w3 w.heap.size (sv n2) (sv d2) _ _ q4 q5
   have q8:=qs.2.2.1
   have u0:=hZ qs.1
   have u1:=hZ qs.2.1
   have hfx:=hZ qs.2.2.2
   clear qs
   replace hg1:=hZ hg1
   go_wp2_with fail
   have v0:=u0.out
   have v1:=u1.out
   rw [r1.out,r2.out]
   refine Ay (v:=.agg #[sv n2,sv d2]) (by simp [results,Tryz.results127,go_sem,v0,v1]) rfl ⟨rfl, ?_⟩
   exact ((Fx.of_fr (p:=fun q=>q=w.heap.size) hfb).trans hfx.out).toFr (fun q hq e=>by have e:q=w.heap.size:=e; omega)
  ·have hb1:decide ((g:Int)=1)=false:=Ab (by omega)
   rw [hb1] at hone
   replace hg1:=hZ hg1
   go_wp2_with fail
   refine (hdn.out _ hfb).mono ?_
   rintro e w4 ⟨rfl,hf4⟩
   replace hfb:=hfb.trans hf4
   go_wp2_with fail
   refine (hdd.out _ hfb).mono ?_
   rintro e w5 ⟨rfl,hf5⟩
   replace hfb:=hfb.trans hf5
   have hf45:=hf4.trans hf5
   replace q6:=hf45.keepf q4 q6
   replace q7:=hf45.keepf q5 q7
   replace q4:=hf45.keep q4
   replace q5:=hf45.keep q5
   have qs:=Bf w5 w.heap.size (sv (n2.fdiv (g:Int))) (sv (d2.fdiv (g:Int))) _ _ q4 q5
   have q8:=qs.2.2.1
   have u0:=hZ qs.1
   have u1:=hZ qs.2.1
   have hfx:=hZ qs.2.2.2
   clear qs
   go_wp2_with fail
   have v0:=u0.out
   have v1:=u1.out
   refine Ay (v:=.agg #[sv (n2.fdiv (g:Int)),sv (d2.fdiv (g:Int))]) (by simp [results,Tryz.results127,go_sem,v0,v1]) rfl ⟨rfl, ?_⟩
   exact ((Fx.of_fr (p:=fun q=>q=w.heap.size) hfb).trans hfx.out).toFr (fun q hq e=>by have e:q=w.heap.size:=e; omega)
def Tq (x:Rat):Prop:=Ti x.num∧Ti (x.den:Int)
instance (x:Rat):Decidable (Tq x):=inferInstanceAs (Decidable ((_∧_)∧(_∧_)))
theorem Hm (x:Rat):0 < x.den:=Nat.pos_of_ne_zero x.den_nz
theorem LQ (x:Rat):x.num=0 ↔ x=0:=Rat.num_eq_zero
theorem Kr (x:Rat) (w:World) :
 Calls Tryz.prog 175 #[qv x] w fun e w'=>e=.returned (.int .i64 x.num.sign)∧Fr w w':=by
 have hfA:Fr w (w.alloc (.cells #[sv x.num,sv (x.den:Int)] 134)):=(Fr.refl w).alloc _
 unfold qv
 generalize x.num=n at *
 generalize (x.den:Int)=d at *
 replace hfA:=hZ hfA
 go_enter Tryz.func175,Tryz.ntmps175
 go_wp2_with fail
 refine (DI _ _).mono ?_
 rintro e w1 ⟨rfl,rfl⟩
 go_wp2_with fail
 go_ret
 exact ⟨rfl,hfA.out⟩
theorem P8 (x:Rat) (hx:Ti x.num) (w:World) :
 Calls Tryz.prog 176 #[qv x] w fun e w'=>e=.returned (qv (-x))∧Fr w w':=by
 unfold qv
 rw [Rat.neg_num,Rat.neg_den]
 have hsz:=hx.size
 generalize x.num=n at *
 generalize (x.den:Int)=d at *
 have hN:=hZ (fun W=>JZ n W (by omega))
 obtain ⟨wb,hwb⟩:∃ wb,wb=Gf w [(.cells #[sv n,sv d] 134),(.cells #[.string ⟨#[]⟩,.string ⟨#[]⟩] 134)]:=⟨_,rfl⟩
 have hfb:Fr w wb:=by rw [hwb]; exact Hp _ w
 have g0:wb.heap[w.heap.size]?=some (.cells #[sv n,sv d] 134 (0,0)):=by rw [hwb]; exact CM _ w 0 _ rfl
 have g1:wb.heap[w.heap.size+1]?=some (.cells #[.string ⟨#[]⟩,.string ⟨#[]⟩] 134 (0,0)):=by rw [hwb]; exact CM _ w 1 _ rfl
 have b0:wb.cell? ⟨w.heap.size,0,none⟩=some (sv n):=Bg g0 0
 have b1:wb.cell? ⟨w.heap.size,1,none⟩=some (sv d):=Bg g0 1
 have q4:wb.cell? ⟨w.heap.size+1,0,none⟩=some (.string ⟨#[]⟩):=Bg g1 0
 have q5:wb.cell? ⟨w.heap.size+1,1,none⟩=some (.string ⟨#[]⟩):=Bg g1 1
 have q6:wb.frozen? ⟨w.heap.size+1,0,none⟩=false:=by unfold World.frozen?; rw [g1]; rfl
 have q7:wb.frozen? ⟨w.heap.size+1,1,none⟩=false:=by unfold World.frozen?; rw [g1]; rfl
 clear g0 g1
 go_enter Tryz.func176,Tryz.ntmps176
 go_upto_region 1 with (fail)
 change Code.wp _ _ _ _ (Gf w [(.cells #[sv n,sv d] 134),(.cells #[.string ⟨#[]⟩,.string ⟨#[]⟩] 134)])
 rw [← hwb]
 clear hwb
 replace q4:=hZ q4
 replace q5:=hZ q5
 replace q6:=hZ q6
 replace q7:=hZ q7
 go_region_held3 (fun w'=>w'.cell? ⟨w.heap.size,0,none⟩=some (sv n)∧w'.cell? ⟨w.heap.size,1,none⟩=some (sv d))
  (first | go_keep | (go_split_ands; refine ⟨?_, ?_⟩ <;> (refine Fr.keep (by assumption) ?_; assumption)) | (refine TW _ _ _ _ _ _ _ ⟨by assumption,by assumption⟩ (by omega)))
  (first
   | (go_at_call 124; (with_reducible refine (hN.out _).mono ?_); rintro e w5 ⟨rfl,hf5⟩; have hfz:Fr wb w5:=(by exact BM); have t4:=hfz.keep q4.out; have t5:=hfz.keep q5.out; have t6:=hfz.keepf q4.out q6.out; have t7:=hfz.keepf q5.out q7.out; have qs:=Bf w5 (w.heap.size+1) (sv (-n)) (sv d) _ _ t4 t5; have q8:=qs.2.2.1; have u0:=hZ qs.1; have u1:=hZ qs.2.1; have hfx:=hZ qs.2.2.2; clear qs))
 clear q8 t4 t5 t6 t7
 go_wp2_with fail
 have v0:=u0.out
 have v1:=u1.out
 refine Ay (v:=.agg #[sv (-n),sv d]) (by simp [results,Tryz.results176,go_sem,v0,v1]) rfl ⟨rfl, ?_⟩
 exact ((Fx.of_fr (p:=fun q=>q=w.heap.size+1) (hfb.trans hfz)).trans hfx.out).toFr (fun q hq e=>by have e:q=w.heap.size+1:=e; omega)
theorem TY {a b:Int} (ha:Ti a) (hb:Ti b):-10000000000000000≤a * b∧a * b≤10000000000000000:=I5 ha hb
theorem Ru (n:Int):((tx n).toList == [49])=decide (n=1):=by rw [show [49]=itoa 1 from UK.symm]; exact Lk _ _
theorem WS (x y:Rat) (hx:(x.den:Int)=1) (hy:(y.den:Int)=1):(x+y).num=x.num+y.num∧((x+y).den:Int)=1:=by
 have e1:x.den=1:=by omega
 have e2:y.den=1:=by omega
 rw [ZA,e1,e2]
 constructor
 ·rw [Rat.num_mkRat]; simp
 ·rw [Rat.den_mkRat]; simp
theorem UA {y:Rat} (h:Tq y):Tq (-y):=by
 unfold Tq at *
 rw [Rat.neg_num,Rat.neg_den]
 unfold Ti at *
 omega
def M2 (a b:Int):Prop:=(a.natAbs < 1000000000000∧b.natAbs < 10000)∨(a.natAbs < 10000∧b.natAbs < 1000000000000)∨(a.natAbs < 100000000∧b.natAbs < 100000000)
instance (a b:Int):Decidable (M2 a b):=inferInstanceAs (Decidable (_∨_∨_))
theorem M2.sz {a b:Int} (h:M2 a b):∃ i j,1≤i∧1≤j∧i+j=16∧a.natAbs < 10 ^ i∧b.natAbs < 10 ^ j:=by
 rcases h with ⟨h,k⟩ | ⟨h,k⟩ | ⟨h,k⟩
 ·exact ⟨12,4,by decide,by decide,by decide,h,k⟩
 ·exact ⟨4,12,by decide,by decide,by decide,h,k⟩
 ·exact ⟨8,8,by decide,by decide,by decide,h,k⟩
theorem M2.prod {a b:Int} (h:M2 a b):(a * b).natAbs < 10000000000000000:=by
 obtain ⟨i,j,-,-,hij,h1,h2⟩:=h.sz
 rw [A1]
 have:10 ^ i * 10 ^ j=10000000000000000:=by rw [← ZZ,hij]
 rw [← this]
 exact Ro (It _ (Nat.le_of_lt h2)) (Nat.mul_lt_mul_of_pos_right h1 (VR (by decide)))
theorem M2.sizes {a b:Int} (h:M2 a b):(tx a).size≤13∧(tx b).size≤13:=by
 rcases h with ⟨h,k⟩ | ⟨h,k⟩ | ⟨h,k⟩ <;> exact ⟨BE 12 _ (by decide) (by show _ < 1000000000000; omega),BE 12 _ (by decide) (by show _ < 1000000000000; omega)⟩
theorem OX {n:Int} (h:(tx n).size≤9):n.natAbs < 1000000000:=by
 have h:(tx (n.natAbs:Int)).size≤9:=by
  rcases Fz n 0 with h9 | h9
  ·have:=HJ n h9
   rw [show (n.natAbs:Int)=-n by omega]; omega
  ·rw [show (n.natAbs:Int)=n by omega]; exact h
 rw [DM,Ca (Ag _),Br] at h
 have h1:=(C3 (decDigits n.natAbs) 0 (Cn _)).2
 rw [Cm,AE,Gj] at h1
 have h2:10 ^ (decDigits n.natAbs).length≤10 ^ 9:=Fh (by decide) h
 exact An h1 h2
theorem Lf (n:Int) (h:n.natAbs < 1000000000000):∃ v b,(b=true→v=n∧n.natAbs < 1000000000)∧(b=true∨b=false)∧Hid (∀ W,Calls Tryz.prog 81 #[.string (tx n),.int .i64 9] W fun e w'=>e=.returned (.tuple #[.int .i64 v,.bool b])∧Fr W w'):=by
 have hs:(tx n).size≤13:=BE 12 _ (by decide) h
 by_cases h9:(tx n).size≤9
 ·exact ⟨n,true,fun _=>⟨rfl,OX h9⟩,.inl rfl,fun W=>Cg n 9 (by omega) (by omega) W (by omega)⟩
 ·exact ⟨0,false,(fun e=>by cases e),.inr rfl,fun W=>(Nt n 9 W (by omega) (by omega)).mono (by rintro e w' ⟨rfl,rfl⟩; exact ⟨rfl,Fr.refl _⟩)⟩
theorem Mr (a b:Int) (h:M2 a b) (w:World) (hG:G w) :
 Calls Tryz.prog 39 #[.string (tx a),.string (tx b)] w fun e w'=>e=.returned (.string (tx (a * b)))∧Fr w w':=by
 have hsz:=h.sizes
 have hpr:=h.prod
 obtain ⟨i,j,hi,hj,hij,h1,h2⟩:=h.sz
 have hA:a.natAbs < 1000000000000:=by rcases h with h | h | h <;> omega
 have hB:b.natAbs < 1000000000000:=by rcases h with h | h | h <;> omega
 obtain ⟨va,ba,ha1,ha2,hla⟩:=Lf a hA
 obtain ⟨vb,bb,hb1,hb2,hlb⟩:=Lf b hB
 have hc1:(tx (a.natAbs:Int)).size≤i:=by rw [Dq]; exact Eh i _ hi h1
 have hc2:(tx (b.natAbs:Int)).size≤j:=by rw [Dq]; exact Eh j _ hj h2
 have hm2:(a * b).natAbs=a.natAbs * b.natAbs:=A1 a b
 have hp:Hid (((a.natAbs * b.natAbs:Nat):Int)=(a.natAbs:Int) * (b.natAbs:Int)):=CO _ _
 have hdm:=hZ (fun W (hW:G W)=>Y3 a.natAbs b.natAbs (by omega) (by omega) (by omega) (by omega) W hW)
 have hnn:(0:Int)≤((a.natAbs * b.natAbs:Nat):Int):=Ag _
 have hszp:(tx ((a.natAbs * b.natAbs:Nat):Int)).size≤1000000000:=by
  have:=BE 18 ((a.natAbs * b.natAbs:Nat):Int) (by omega) (by omega)
  omega
 have hof:=hZ (fun W (hW:G W)=>Dm (a * b) (by omega) (by omega) W hW)
 have hgoal:∀ s:Bool,(s=(decide (a < 0) != decide (b < 0)))→(if s then -((a.natAbs * b.natAbs:Nat):Int) else ((a.natAbs * b.natAbs:Nat):Int))=a * b:=fun s hs=>by
  rw [hs,hp.out]
  rcases Fz a 0 with h | h <;> rcases Fz b 0 with k | k
  ·rw [Ad h,Ad k,show (a.natAbs:Int)=-a by omega,show (b.natAbs:Int)=-b by omega]; exact Int.neg_mul_neg a b
  ·rw [Ad h,Ab (by omega),show (a.natAbs:Int)=-a by omega,show (b.natAbs:Int)=b by omega]; show -(-a * b)=a * b; rw [Z4,OH]
  ·rw [Ab (by omega),Ad k,show (a.natAbs:Int)=a by omega,show (b.natAbs:Int)=-b by omega]; show -(a * -b)=a * b; rw [Int.mul_neg,OH]
  ·rw [Ab (by omega),Ab (by omega),show (a.natAbs:Int)=a by omega,show (b.natAbs:Int)=b by omega]; rfl
 have sp:∀ (n:Int) (W:World),(tx n).size≤13→Calls Tryz.prog 82 #[.string (tx n)] W fun e w'=>e=.returned (.tuple #[.bool (decide (n < 0)),.string (tx (n.natAbs:Int))])∧Fr W w':=fun n W hn=>by
  rcases Fz n 0 with h | h
  ·rw [Ad h,show (n.natAbs:Int)=-n by omega]; exact Lv n h W (by omega)
  ·rw [Ab (by omega),show (n.natAbs:Int)=n by omega]; exact Lu n h W (by omega)
 have spA:=fun W=>sp a W hsz.1
 have spB:=fun W=>sp b W hsz.2
 by_cases hboth:ba=true∧bb=true
 ·obtain ⟨rfl,rfl⟩:=hboth
  obtain ⟨rfl,-⟩:=ha1 rfl
  obtain ⟨rfl,-⟩:=hb1 rfl
  have k1:IntKind.i64.wrap (va * vb)=va * vb:=AC _ (by omega)
  clear ha2 hb2 hgoal hdm hp hnn hszp spA spB sp hm2 hc1 hc2 hpr h1 h2 hA hB hij hsz h ha1 hb1
  go_enter Tryz.func39,Tryz.ntmps39
  go_wp2_with fail
  refine (hla.out _).mono ?_; rintro e w1 ⟨rfl,hf1⟩
  go_wp2_with fail
  refine (hlb.out _).mono ?_; rintro e w2 ⟨rfl,hf2⟩
  go_wp2_with fail
  refine (hof.out _ (hG.fr (hf1.trans hf2))).mono ?_; rintro e w3 ⟨rfl,hf3⟩
  go_wp2_with fail
  go_ret
  exact ⟨rfl,(hf1.trans hf2).trans hf3⟩
 ·obtain ⟨sA,hsA⟩:∃ sA,sA=decide (a < 0):=⟨_,rfl⟩
  obtain ⟨sB,hsB⟩:∃ sB,sB=decide (b < 0):=⟨_,rfl⟩
  rw [← hsA] at spA hgoal
  rw [← hsB] at spB hgoal
  have hjo:=hZ (fun W=>JD (sA != sB) _ hnn W hszp)
  replace hgoal:=hZ (hgoal (sA != sB) rfl)
  generalize ((a.natAbs * b.natAbs:Nat):Int)=p at *
  generalize tx (a.natAbs:Int)=ta at *
  generalize tx (b.natAbs:Int)=tb' at *
  replace spA:=hZ spA
  replace spB:=hZ spB
  replace hsA:=hZ hsA
  replace hsB:=hZ hsB
  clear hm2 hp hnn hszp sp hpr h1 h2 hA hB hij hsz h ha1 hb1 hof
  rcases ha2 with rfl | rfl <;> rcases hb2 with rfl | rfl
  ·exact absurd ⟨rfl,rfl⟩ hboth
  all_goals
   clear hboth
   cases sA <;> cases sB
   all_goals
    go_enter Tryz.func39,Tryz.ntmps39
    go_wp2_with fail
    refine (hla.out _).mono ?_; rintro e w1 ⟨rfl,hf1⟩
    go_wp2_with fail
    first
     | (refine (hlb.out _).mono ?_; rintro e w0 ⟨rfl,hf0⟩; replace hf1:=hf1.trans hf0; go_wp2_with fail; refine (spA.out _).mono ?_; rintro e w2 ⟨rfl,hf2⟩)
     | (refine (spA.out _).mono ?_; rintro e w2 ⟨rfl,hf2⟩)
    replace hf2:=hf1.trans hf2
    go_wp2_with fail
    refine (spB.out _).mono ?_; rintro e w3 ⟨rfl,hf3⟩
    go_wp2_with fail
    refine (hdm.out _ (hG.fr (hf2.trans hf3))).mono ?_; rintro e w4 ⟨rfl,hf4⟩
    go_wp2_with fail
    refine (hjo.out _).mono ?_; rintro e w5 ⟨rfl,rfl⟩
    go_wp2_with fail
    go_ret
    exact ⟨by rw [← hgoal.out]; rfl,(hf2.trans hf3).trans hf4⟩
theorem L4 (n:Int) (h:n.natAbs < 1000000000000):∃ v b,(b=true→v=n∧n.natAbs < 1000000000)∧(b=true∨b=false)∧Hid (∀ W,Calls Tryz.prog 184 #[.string (tx n)] W fun e w'=>e=.returned (.tuple #[.int .i64 v,.bool b])∧Fr W w'):=by
 have hs:(tx n).size≤13:=BE 12 _ (by decide) h
 by_cases h9:(tx n).size≤9
 ·refine ⟨n,true,fun _=>⟨rfl,OX h9⟩,.inl rfl,fun w=>?_⟩
  have d1:decide ((9:Int) < ((tx n).size:Int))=false:=Ab (by omega)
  have ha:=hZ (fun W=>Mj n (by omega) (by omega) W)
  clear h hs h9
  go_enter Tryz.func184,Tryz.ntmps184
  go_wp2_with fail
  refine (ha.out _).mono ?_
  rintro e w1 ⟨rfl,hf1⟩
  go_wp2_with fail
  go_quiet (fail)
  go_wp2_with fail
  go_ret2
  exact ⟨rfl,hf1.drewN _⟩
 ·refine ⟨0,false,(fun e=>by cases e),.inr rfl,fun w=>?_⟩
  have d1:decide ((9:Int) < ((tx n).size:Int))=true:=Ad (by omega)
  clear h hs h9
  go_enter Tryz.func184,Tryz.ntmps184
  go_wp2_with fail
  go_ret2
  exact ⟨rfl,Fr.refl _⟩
theorem La (n d:Int) (hn:n.natAbs < 1000000000000) (hd:d.natAbs < 1000000000000):∃ v u b,(b=true→v=n∧u=d∧n.natAbs < 1000000000∧d.natAbs < 1000000000)∧(b=true∨b=false) ∧
 Hid (∀ W,Calls Tryz.prog 125 #[.agg #[sv n,sv d]] W fun e w'=>e=.returned (.tuple #[.int .i64 v,.int .i64 u,.bool b])∧Fr W w'):=by
 obtain ⟨v,a,ha,ha2,h1⟩:=L4 n hn
 obtain ⟨u,b,hb,hb2,h2⟩:=L4 d hd
 refine ⟨v,u,a && b,fun h=>?_,by cases a <;> cases b <;> simp,fun w=>?_⟩
 ·rw [AP] at h
  exact ⟨(ha h.1).1,(hb h.2).1,(ha h.1).2,(hb h.2).2⟩
 ·have hfA:Fr w (w.alloc (.cells #[sv n,sv d] 134)):=(Fr.refl w).alloc _
  have p1:=CL w (sv n) (sv d) 134
  have p2:=CK w (sv n) (sv d) 134
  have c1:=p1.1
  have c2:=p2.1
  clear p1 p2 hn hd ha hb
  replace hfA:=hZ hfA
  rcases ha2 with rfl | rfl <;> rcases hb2 with rfl | rfl
  all_goals
   go_enter Tryz.func125,Tryz.ntmps125
   go_wp2_with fail
   refine (h1.out _).mono ?_
   rintro e w1 ⟨rfl,hf1⟩
   replace c2:=hf1.keep c2
   go_wp2_with fail
   refine (h2.out _).mono ?_
   rintro e w2 ⟨rfl,hf2⟩
   go_wp2_with fail
   go_ret3
   exact ⟨rfl,(hfA.out.trans hf1).trans hf2⟩
theorem Wt (x y:Rat):Rat.divInt (x.num * y.num) ((x.den:Int) * (y.den:Int))=x * y:=by
 rw [← G4,DR,DR]
def Y7 (x y:Rat):Prop:=M2 x.num y.num∧M2 x.den y.den
instance (x y:Rat):Decidable (Y7 x y):=inferInstanceAs (Decidable (_∧_))
theorem VD (x y:Rat) (h:Y7 x y) (w:World) (hG:G w) :
 Calls Tryz.prog 73 #[qv x,qv y] w fun e w'=>e=.returned (qv (x * y))∧Fr w w':=by
 obtain ⟨hn9,hd9⟩:=h
 have hdx:=Hm x
 have hdy:=Hm y
 have hM1:=fun W (hW:Fr w W)=>Mr x.num y.num hn9 W (hG.fr hW)
 have hM2:=fun W (hW:Fr w W)=>Mr x.den y.den hd9 W (hG.fr hW)
 have hb1:=hn9.prod
 have hb2:=hd9.prod
 have hL:=fun W (hW:Fr w W)=>I7 (x.num * y.num) ((x.den:Int) * (y.den:Int)) (by unfold Sm; omega) (by unfold Sm; omega) (FW (by omega) (by omega)) W (hG.fr hW)
 rw [Wt] at hL
 have hof:=fun W (hW:Fr w W)=>Uz (x.num * y.num) (x.den * y.den) (by unfold M4; omega) (Z0 hdx hdy) (by unfold M4; rw [CO]; omega) W (hG.fr hW)
 rw [CO,← Rat.mul_def'] at hof
 obtain ⟨v1,u1,b1,hv1,hB1,h1⟩:=La x.num x.den (by rcases hn9 with h | h | h <;> omega) (by rcases hd9 with h | h | h <;> omega)
 obtain ⟨v2,u2,b2,hv2,hB2,h2⟩:=La y.num y.den (by rcases hn9 with h | h | h <;> omega) (by rcases hd9 with h | h | h <;> omega)
 unfold qv at hL hof ⊢
 generalize (x * y).num=rn at *
 generalize ((x * y).den:Int)=rd at *
 generalize x.num=n at *
 generalize y.num=m at *
 generalize (x.den:Int)=d at *
 generalize (y.den:Int)=c at *
 have z1:IntKind.i64.wrap (n * m)=n * m:=AC _ (by omega)
 have z2:IntKind.i64.wrap (d * c)=d * c:=AC _ (by omega)
 replace hM1:=hZ hM1
 replace hM2:=hZ hM2
 replace hL:=hZ hL
 replace hof:=hZ hof
 clear hdx hdy hb1 hb2 hn9 hd9
 obtain ⟨wb,hwb⟩:∃ wb,wb=Gf w [(.cells #[sv n,sv d] 134),(.cells #[sv m,sv c] 134),(.cells #[.string ⟨#[]⟩,.string ⟨#[]⟩] 134)]:=⟨_,rfl⟩
 have hfb:Fr w wb:=by rw [hwb]; exact Hp _ w
 have g0:wb.heap[w.heap.size]?=some (.cells #[sv n,sv d] 134 (0,0)):=by rw [hwb]; exact CM _ w 0 _ rfl
 have g1:wb.heap[w.heap.size+1]?=some (.cells #[sv m,sv c] 134 (0,0)):=by rw [hwb]; exact CM _ w 1 _ rfl
 have g2:wb.heap[w.heap.size+2]?=some (.cells #[.string ⟨#[]⟩,.string ⟨#[]⟩] 134 (0,0)):=by rw [hwb]; exact CM _ w 2 _ rfl
 have b0:wb.cell? ⟨w.heap.size,0,none⟩=some (sv n):=Bg g0 0
 have b1:wb.cell? ⟨w.heap.size,1,none⟩=some (sv d):=Bg g0 1
 have b2:wb.cell? ⟨w.heap.size+1,0,none⟩=some (sv m):=Bg g1 0
 have b3:wb.cell? ⟨w.heap.size+1,1,none⟩=some (sv c):=Bg g1 1
 have q4:wb.cell? ⟨w.heap.size+1+1,0,none⟩=some (.string ⟨#[]⟩):=Bg g2 0
 have q5:wb.cell? ⟨w.heap.size+1+1,1,none⟩=some (.string ⟨#[]⟩):=Bg g2 1
 have q6:wb.frozen? ⟨w.heap.size+1+1,0,none⟩=false:=by unfold World.frozen?; rw [g2]; rfl
 have q7:wb.frozen? ⟨w.heap.size+1+1,1,none⟩=false:=by unfold World.frozen?; rw [g2]; rfl
 clear g0 g1 g2
 rcases hB1 with rfl | rfl
 ·rw [(hv1 rfl).1,(hv1 rfl).2.1] at h1
  rcases hB2 with rfl | rfl
  ·rw [(hv2 rfl).1,(hv2 rfl).2.1] at h2
   clear hv1 hv2
   go_enter Tryz.func73,Tryz.ntmps73
   go_upto_region 1 with (fail)
   change Code.wp _ _ _ _ (Gf w [(.cells #[sv n,sv d] 134),(.cells #[sv m,sv c] 134),(.cells #[.string ⟨#[]⟩,.string ⟨#[]⟩] 134)])
   rw [← hwb]
   clear hwb
   go_wp2_with fail
   refine (h1.out _).mono ?_
   rintro e w1 ⟨rfl,hf1⟩
   replace hfb:=hfb.trans hf1
   replace b0:=hf1.keep b0
   replace b1:=hf1.keep b1
   replace b2:=hf1.keep b2
   replace b3:=hf1.keep b3
   replace q6:=hf1.keepf q4 q6
   replace q7:=hf1.keepf q5 q7
   replace q4:=hf1.keep q4
   replace q5:=hf1.keep q5
   clear hf1
   go_wp2_with fail
   refine (h2.out _).mono ?_
   rintro e w2 ⟨rfl,hf2⟩
   replace hfb:=hfb.trans hf2
   replace b0:=hf2.keep b0
   replace b1:=hf2.keep b1
   replace b2:=hf2.keep b2
   replace b3:=hf2.keep b3
   replace q6:=hf2.keepf q4 q6
   replace q7:=hf2.keepf q5 q7
   replace q4:=hf2.keep q4
   replace q5:=hf2.keep q5
   clear hf2
   go_wp2_with fail
   refine (hof.out _ hfb).mono ?_
   rintro e w3 ⟨rfl,hf3⟩
   replace hfb:=hfb.trans hf3
   replace b0:=hf3.keep b0
   replace b1:=hf3.keep b1
   replace b2:=hf3.keep b2
   replace b3:=hf3.keep b3
   replace q6:=hf3.keepf q4 q6
   replace q7:=hf3.keepf q5 q7
   replace q4:=hf3.keep q4
   replace q5:=hf3.keep q5
   clear hf3
   have qs:=Bf w3 (w.heap.size+1+1) (sv rn) (sv rd) _ _ q4 q5
   have q8:=qs.2.2.1
   have u0:=hZ qs.1
   have u1:=hZ qs.2.1
   have hfx:=hZ qs.2.2.2
   clear qs
   go_wp2_with fail
   have v0:=u0.out
   have v1:=u1.out
   refine Ay (v:=.agg #[sv rn,sv rd]) (by simp [results,Tryz.results73,go_sem,v0,v1]) rfl ⟨rfl, ?_⟩
   exact ((Fx.of_fr (p:=fun q=>q=w.heap.size+1+1) hfb).trans hfx.out).toFr (fun q hq e=>by have e:q=w.heap.size+1+1:=e; omega)
  ·clear hv1 hv2
   go_enter Tryz.func73,Tryz.ntmps73
   go_upto_region 1 with (fail)
   change Code.wp _ _ _ _ (Gf w [(.cells #[sv n,sv d] 134),(.cells #[sv m,sv c] 134),(.cells #[.string ⟨#[]⟩,.string ⟨#[]⟩] 134)])
   rw [← hwb]
   clear hwb
   go_wp2_with fail
   refine (h1.out _).mono ?_
   rintro e w1 ⟨rfl,hf1⟩
   replace hfb:=hfb.trans hf1
   replace b0:=hf1.keep b0
   replace b1:=hf1.keep b1
   replace b2:=hf1.keep b2
   replace b3:=hf1.keep b3
   replace q6:=hf1.keepf q4 q6
   replace q7:=hf1.keepf q5 q7
   replace q4:=hf1.keep q4
   replace q5:=hf1.keep q5
   clear hf1
   go_wp2_with fail
   refine (h2.out _).mono ?_
   rintro e w2 ⟨rfl,hf2⟩
   replace hfb:=hfb.trans hf2
   replace b0:=hf2.keep b0
   replace b1:=hf2.keep b1
   replace b2:=hf2.keep b2
   replace b3:=hf2.keep b3
   replace q6:=hf2.keepf q4 q6
   replace q7:=hf2.keepf q5 q7
   replace q4:=hf2.keep q4
   replace q5:=hf2.keep q5
   clear hf2
   go_wp2_with fail
   replace q4:=hZ q4
   replace q5:=hZ q5
   replace q6:=hZ q6
   replace q7:=hZ q7
   go_region_held3 (fun w'=>w'.cell? ⟨w.heap.size,0,none⟩=some (sv n)∧w'.cell? ⟨w.heap.size,1,none⟩=some (sv d)∧w'.cell? ⟨w.heap.size+1,0,none⟩=some (sv m)∧w'.cell? ⟨w.heap.size+1,1,none⟩=some (sv c))
    (first | exact ⟨b0,b1,b2,b3⟩ | (go_split_ands; refine ⟨?_, ?_, ?_, ?_⟩ <;> (refine Fr.keep (by assumption) ?_; assumption)) | (go_split_ands; (try dsimp only); (repeat' apply And.intro) <;> (rw [Ae _ _ _ _ (by intro e; injection e with e; omega),Ae _ _ _ _ (by intro e; injection e with e; omega)]; assumption)) | go_keep)
    (first
     | (go_at_call 39; (with_reducible refine (hM1.out _ ?_).mono ?_); (exact BM); rintro e w3 ⟨rfl,hf3⟩)
     | (go_at_call 39; (with_reducible refine (hM2.out _ ?_).mono ?_); (exact BM); rintro e w4 ⟨rfl,hf4⟩)
     | (go_at_call 127; (with_reducible refine (hL.out _ ?_).mono ?_); (exact BM); rintro e w5 ⟨rfl,hf5⟩; have hfz:Fr w2 w5:=(by exact BM); have t4:=hfz.keep q4.out; have t5:=hfz.keep q5.out; have t6:=hfz.keepf q4.out q6.out; have t7:=hfz.keepf q5.out q7.out; have qs:=Bf w5 (w.heap.size+1+1) (sv rn) (sv rd) _ _ t4 t5; have q8:=qs.2.2.1; have u0:=hZ qs.1; have u1:=hZ qs.2.1; have hfx:=hZ qs.2.2.2; clear qs))
   clear q8 t4 t5 t6 t7
   replace hfb:=hfb.trans hfz
   go_wp2_with fail
   have v0:=u0.out
   have v1:=u1.out
   refine Ay (v:=.agg #[sv rn,sv rd]) (by simp [results,Tryz.results73,go_sem,v0,v1]) rfl ⟨rfl, ?_⟩
   exact ((Fx.of_fr (p:=fun q=>q=w.heap.size+1+1) hfb).trans hfx.out).toFr (fun q hq e=>by have e:q=w.heap.size+1+1:=e; omega)
 ·clear hv1 hv2
  go_enter Tryz.func73,Tryz.ntmps73
  go_upto_region 1 with (fail)
  change Code.wp _ _ _ _ (Gf w [(.cells #[sv n,sv d] 134),(.cells #[sv m,sv c] 134),(.cells #[.string ⟨#[]⟩,.string ⟨#[]⟩] 134)])
  rw [← hwb]
  clear hwb
  go_wp2_with fail
  refine (h1.out _).mono ?_
  rintro e w1 ⟨rfl,hf1⟩
  replace hfb:=hfb.trans hf1
  replace b0:=hf1.keep b0
  replace b1:=hf1.keep b1
  replace b2:=hf1.keep b2
  replace b3:=hf1.keep b3
  replace q6:=hf1.keepf q4 q6
  replace q7:=hf1.keepf q5 q7
  replace q4:=hf1.keep q4
  replace q5:=hf1.keep q5
  clear hf1
  go_wp2_with fail
  replace q4:=hZ q4
  replace q5:=hZ q5
  replace q6:=hZ q6
  replace q7:=hZ q7
  go_region_held3 (fun w'=>w'.cell? ⟨w.heap.size,0,none⟩=some (sv n)∧w'.cell? ⟨w.heap.size,1,none⟩=some (sv d)∧w'.cell? ⟨w.heap.size+1,0,none⟩=some (sv m)∧w'.cell? ⟨w.heap.size+1,1,none⟩=some (sv c))
   (first | exact ⟨b0,b1,b2,b3⟩ | (go_split_ands; refine ⟨?_, ?_, ?_, ?_⟩ <;> (refine Fr.keep (by assumption) ?_; assumption)) | (go_split_ands; (try dsimp only); (repeat' apply And.intro) <;> (rw [Ae _ _ _ _ (by intro e; injection e with e; omega),Ae _ _ _ _ (by intro e; injection e with e; omega)]; assumption)) | go_keep)
   (first
    | (go_at_call 39; (with_reducible refine (hM1.out _ ?_).mono ?_); (exact BM); rintro e w3 ⟨rfl,hf3⟩)
    | (go_at_call 39; (with_reducible refine (hM2.out _ ?_).mono ?_); (exact BM); rintro e w4 ⟨rfl,hf4⟩)
    | (go_at_call 127; (with_reducible refine (hL.out _ ?_).mono ?_); (exact BM); rintro e w5 ⟨rfl,hf5⟩; have hfz:Fr w1 w5:=(by exact BM); have t4:=hfz.keep q4.out; have t5:=hfz.keep q5.out; have t6:=hfz.keepf q4.out q6.out; have t7:=hfz.keepf q5.out q7.out; have qs:=Bf w5 (w.heap.size+1+1) (sv rn) (sv rd) _ _ t4 t5; have q8:=qs.2.2.1; have u0:=hZ qs.1; have u1:=hZ qs.2.1; have hfx:=hZ qs.2.2.2; clear qs))
  clear q8 t4 t5 t6 t7
  replace hfb:=hfb.trans hfz
  go_wp2_with fail
  have v0:=u0.out
  have v1:=u1.out
  refine Ay (v:=.agg #[sv rn,sv rd]) (by simp [results,Tryz.results73,go_sem,v0,v1]) rfl ⟨rfl, ?_⟩
  exact ((Fx.of_fr (p:=fun q=>q=w.heap.size+1+1) hfb).trans hfx.out).toFr (fun q hq e=>by have e:q=w.heap.size+1+1:=e; omega)
theorem WT (x y:Rat):Rat.divInt (x.num * (y.den:Int)+y.num * (x.den:Int)) ((x.den:Int) * (y.den:Int))=x+y:=by
 rw [ZA,← CO]; exact Rat.divInt_ofNat _ _
def YD (x y:Rat):Prop:=M2 x.num y.den∧M2 y.num x.den∧M2 x.den y.den
instance (x y:Rat):Decidable (YD x y):=inferInstanceAs (Decidable (_∧_))
theorem VL (x y:Rat) (h:YD x y) (w:World) (hG:G w) :
 Calls Tryz.prog 72 #[qv x,qv y] w fun e w'=>e=.returned (qv (x+y))∧Fr w w':=by
 obtain ⟨h19,h29,h39⟩:=h
 have hdx:=Hm x
 have hdy:=Hm y
 have hM1:=fun W (hW:Fr w W)=>Mr x.num y.den h19 W (hG.fr hW)
 have hM2:=fun W (hW:Fr w W)=>Mr y.num x.den h29 W (hG.fr hW)
 have hM3:=fun W (hW:Fr w W)=>Mr x.den y.den h39 W (hG.fr hW)
 have hb1:=h19.prod
 have hb2:=h29.prod
 have hb3:=h39.prod
 have hAd:=fun W (hW:Fr w W)=>OA (x.num * y.den) (y.num * x.den) (by unfold Sm; omega) (by unfold Sm; omega) W (hG.fr hW)
 have hL:=fun W (hW:Fr w W)=>I7 (x.num * y.den+y.num * x.den) ((x.den:Int) * (y.den:Int)) (by unfold Sm; omega) (by unfold Sm; omega) (FW (by omega) (by omega)) W (hG.fr hW)
 rw [WT] at hL
 have hof:=fun W (hW:Fr w W)=>Uz (x.num * y.den+y.num * x.den) (x.den * y.den) (by unfold M4; omega) (Z0 hdx hdy) (by unfold M4; rw [CO]; omega) W (hG.fr hW)
 rw [CO,← ZA] at hof
 have hs1:=hZ (fun W (hW:Fr w W)=>OA x.num y.num (by rcases h19 with h | h | h <;> unfold Sm <;> omega) (by rcases h29 with h | h | h <;> unfold Sm <;> omega) W (hG.fr hW))
 have hao:=hZ (WS x y)
 obtain ⟨v1,u1,b1,hv1,hB1,h1⟩:=La x.num x.den (by rcases h19 with h | h | h <;> omega) (by rcases h39 with h | h | h <;> omega)
 obtain ⟨v2,u2,b2,hv2,hB2,h2⟩:=La y.num y.den (by rcases h29 with h | h | h <;> omega) (by rcases h39 with h | h | h <;> omega)
 unfold qv at hL hof ⊢
 generalize (x+y).num=rn at *
 generalize ((x+y).den:Int)=rd at *
 generalize x.num=n at *
 generalize y.num=m at *
 generalize (x.den:Int)=d at *
 generalize (y.den:Int)=c at *
 have z1:IntKind.i64.wrap (n * c)=n * c:=AC _ (by omega)
 have z2:IntKind.i64.wrap (m * d)=m * d:=AC _ (by omega)
 have z3:IntKind.i64.wrap (n * c+m * d)=n * c+m * d:=AC _ (by omega)
 have z4:IntKind.i64.wrap (d * c)=d * c:=AC _ (by omega)
 have t1:=Ru d
 have t2:=Ru c
 replace hM1:=hZ hM1
 replace hM2:=hZ hM2
 replace hM3:=hZ hM3
 replace hAd:=hZ hAd
 replace hL:=hZ hL
 replace hof:=hZ hof
 clear hdx hdy hb1 hb2 hb3 h19 h29 h39
 obtain ⟨wb,hwb⟩:∃ wb,wb=Gf w [(.cells #[sv n,sv d] 134),(.cells #[sv m,sv c] 134),(.cells #[.string ⟨#[]⟩,.string ⟨#[]⟩] 134)]:=⟨_,rfl⟩
 have hfb:Fr w wb:=by rw [hwb]; exact Hp _ w
 have g0:wb.heap[w.heap.size]?=some (.cells #[sv n,sv d] 134 (0,0)):=by rw [hwb]; exact CM _ w 0 _ rfl
 have g1:wb.heap[w.heap.size+1]?=some (.cells #[sv m,sv c] 134 (0,0)):=by rw [hwb]; exact CM _ w 1 _ rfl
 have g2:wb.heap[w.heap.size+2]?=some (.cells #[.string ⟨#[]⟩,.string ⟨#[]⟩] 134 (0,0)):=by rw [hwb]; exact CM _ w 2 _ rfl
 have b0:wb.cell? ⟨w.heap.size,0,none⟩=some (sv n):=Bg g0 0
 have b1:wb.cell? ⟨w.heap.size,1,none⟩=some (sv d):=Bg g0 1
 have b2:wb.cell? ⟨w.heap.size+1,0,none⟩=some (sv m):=Bg g1 0
 have b3:wb.cell? ⟨w.heap.size+1,1,none⟩=some (sv c):=Bg g1 1
 have q4:wb.cell? ⟨w.heap.size+1+1,0,none⟩=some (.string ⟨#[]⟩):=Bg g2 0
 have q5:wb.cell? ⟨w.heap.size+1+1,1,none⟩=some (.string ⟨#[]⟩):=Bg g2 1
 have q6:wb.frozen? ⟨w.heap.size+1+1,0,none⟩=false:=by unfold World.frozen?; rw [g2]; rfl
 have q7:wb.frozen? ⟨w.heap.size+1+1,1,none⟩=false:=by unfold World.frozen?; rw [g2]; rfl
 clear g0 g1 g2
 by_cases hone:d=1∧c=1
 ·rw [Ad hone.1] at t1
  rw [Ad hone.2] at t2
  have hr:=hZ (hao.out hone.1 hone.2)
  rw [hr.out.1,hr.out.2,show sv 1=.string ⟨#[49]⟩ from by rw [sv,Gy]]
  replace hone:=hZ hone
  clear hv1 hv2 hB1 hB2
  go_enter Tryz.func72,Tryz.ntmps72
  go_upto_region 1 with (fail)
  change Code.wp _ _ _ _ (Gf w [(.cells #[sv n,sv d] 134),(.cells #[sv m,sv c] 134),(.cells #[.string ⟨#[]⟩,.string ⟨#[]⟩] 134)])
  rw [← hwb]
  clear hwb
  go_wp2_with fail
  refine (hs1.out _ hfb).mono ?_
  rintro e w3 ⟨rfl,hf3⟩
  replace hfb:=hfb.trans hf3
  replace b0:=hf3.keep b0
  replace b1:=hf3.keep b1
  replace b2:=hf3.keep b2
  replace b3:=hf3.keep b3
  replace q6:=hf3.keepf q4 q6
  replace q7:=hf3.keepf q5 q7
  replace q4:=hf3.keep q4
  replace q5:=hf3.keep q5
  clear hf3
  have qs:=Bf w3 (w.heap.size+1+1) (sv (n+m)) (.string ⟨#[49]⟩) _ _ q4 q5
  have q8:=qs.2.2.1
  have u0:=hZ qs.1
  have u1:=hZ qs.2.1
  have hfx:=hZ qs.2.2.2
  clear qs
  go_wp2_with fail
  have v0:=u0.out
  have v1:=u1.out
  refine Ay (v:=.agg #[sv (n+m),.string ⟨#[49]⟩]) (by simp [results,Tryz.results72,go_sem,v0,v1]) rfl ⟨rfl, ?_⟩
  exact ((Fx.of_fr (p:=fun q=>q=w.heap.size+1+1) hfb).trans hfx.out).toFr (fun q hq e=>by have e:q=w.heap.size+1+1:=e; omega)
 ·have hor:(((tx d).toList == [49])=true∧((tx c).toList == [49])=false)∨((tx d).toList == [49])=false:=by
   rw [t1,t2]
   by_cases h9:d=1
   ·exact .inl ⟨Ad h9,Ab fun h8=>hone ⟨h9,h8⟩⟩
   ·exact .inr (Ab h9)
  have hv1:=hZ hv1
  have hv2:=hZ hv2
  clear hone hao t1 t2 hs1
  rcases hor with ⟨t1,t2⟩ | t1 <;> rcases hB1 with rfl | rfl <;> rcases hB2 with rfl | rfl
  all_goals
   (try rw [(hv1.out rfl).1,(hv1.out rfl).2.1] at h1)
   (try rw [(hv2.out rfl).1,(hv2.out rfl).2.1] at h2)
   go_enter Tryz.func72,Tryz.ntmps72
   go_upto_region 1 with (fail)
   change Code.wp _ _ _ _ (Gf w [(.cells #[sv n,sv d] 134),(.cells #[sv m,sv c] 134),(.cells #[.string ⟨#[]⟩,.string ⟨#[]⟩] 134)])
   rw [← hwb]
   clear hwb
   go_wp2_with fail
   refine (h1.out _).mono ?_
   rintro e w1 ⟨rfl,hf1⟩
   replace hfb:=hfb.trans hf1
   replace b0:=hf1.keep b0
   replace b1:=hf1.keep b1
   replace b2:=hf1.keep b2
   replace b3:=hf1.keep b3
   replace q6:=hf1.keepf q4 q6
   replace q7:=hf1.keepf q5 q7
   replace q4:=hf1.keep q4
   replace q5:=hf1.keep q5
   clear hf1
   go_wp2_with fail
   first
    | (refine (h2.out _).mono ?_
       rintro e w2 ⟨rfl,hf2⟩
       replace hfb:=hfb.trans hf2
       replace b0:=hf2.keep b0
       replace b1:=hf2.keep b1
       replace b2:=hf2.keep b2
       replace b3:=hf2.keep b3
       replace q6:=hf2.keepf q4 q6
       replace q7:=hf2.keepf q5 q7
       replace q4:=hf2.keep q4
       replace q5:=hf2.keep q5
       clear hf2
       go_wp2_with fail
       first
        | (refine (hof.out _ hfb).mono ?_
           rintro e w3 ⟨rfl,hf3⟩
           replace hfb:=hfb.trans hf3
           replace b0:=hf3.keep b0
           replace b1:=hf3.keep b1
           replace b2:=hf3.keep b2
           replace b3:=hf3.keep b3
           replace q6:=hf3.keepf q4 q6
           replace q7:=hf3.keepf q5 q7
           replace q4:=hf3.keep q4
           replace q5:=hf3.keep q5
           clear hf3
           have qs:=Bf w3 (w.heap.size+1+1) (sv rn) (sv rd) _ _ q4 q5
           have q8:=qs.2.2.1
           have u0:=hZ qs.1
           have u1:=hZ qs.2.1
           have hfx:=hZ qs.2.2.2
           clear qs
           go_wp2_with fail
           have v0:=u0.out
           have v1:=u1.out
           refine Ay (v:=.agg #[sv rn,sv rd]) (by simp [results,Tryz.results72,go_sem,v0,v1]) rfl ⟨rfl, ?_⟩
           exact ((Fx.of_fr (p:=fun q=>q=w.heap.size+1+1) hfb).trans hfx.out).toFr (fun q hq e=>by have e:q=w.heap.size+1+1:=e; omega))
        | (skip
           replace q4:=hZ q4
           replace q5:=hZ q5
           replace q6:=hZ q6
           replace q7:=hZ q7
           go_region_held3 (fun w'=>w'.cell? ⟨w.heap.size,0,none⟩=some (sv n)∧w'.cell? ⟨w.heap.size,1,none⟩=some (sv d)∧w'.cell? ⟨w.heap.size+1,0,none⟩=some (sv m)∧w'.cell? ⟨w.heap.size+1,1,none⟩=some (sv c))
            (first | exact ⟨b0,b1,b2,b3⟩ | (go_split_ands; refine ⟨?_, ?_, ?_, ?_⟩ <;> (refine Fr.keep (by assumption) ?_; assumption)) | (go_split_ands; (try dsimp only); (repeat' apply And.intro) <;> (rw [Ae _ _ _ _ (by intro e; injection e with e; omega),Ae _ _ _ _ (by intro e; injection e with e; omega)]; assumption)) | go_keep)
            (first
             | (go_at_call 39; (with_reducible refine (hM1.out _ ?_).mono ?_); (exact BM); rintro e w3 ⟨rfl,hf3⟩)
             | (go_at_call 39; (with_reducible refine (hM2.out _ ?_).mono ?_); (exact BM); rintro e w4 ⟨rfl,hf4⟩)
             | (go_at_call 39; (with_reducible refine (hM3.out _ ?_).mono ?_); (exact BM); rintro e w6 ⟨rfl,hf6⟩)
             | (go_at_call 38; (with_reducible refine (hAd.out _ ?_).mono ?_); (exact BM); rintro e w7 ⟨rfl,hf7⟩)
             | (go_at_call 127; (with_reducible refine (hL.out _ ?_).mono ?_); (exact BM); rintro e w5 ⟨rfl,hf5⟩; have hfz:Fr w2 w5:=(by exact BM); have t4:=hfz.keep q4.out; have t5:=hfz.keep q5.out; have t6:=hfz.keepf q4.out q6.out; have t7:=hfz.keepf q5.out q7.out; have qs:=Bf w5 (w.heap.size+1+1) (sv rn) (sv rd) _ _ t4 t5; have q8:=qs.2.2.1; have u0:=hZ qs.1; have u1:=hZ qs.2.1; have hfx:=hZ qs.2.2.2; clear qs))
           clear q8 t4 t5 t6 t7
           replace hfb:=hfb.trans hfz
           go_wp2_with fail
           have v0:=u0.out
           have v1:=u1.out
           refine Ay (v:=.agg #[sv rn,sv rd]) (by simp [results,Tryz.results72,go_sem,v0,v1]) rfl ⟨rfl, ?_⟩
           exact ((Fx.of_fr (p:=fun q=>q=w.heap.size+1+1) hfb).trans hfx.out).toFr (fun q hq e=>by have e:q=w.heap.size+1+1:=e; omega)))
    | (skip
       replace q4:=hZ q4
       replace q5:=hZ q5
       replace q6:=hZ q6
       replace q7:=hZ q7
       go_region_held3 (fun w'=>w'.cell? ⟨w.heap.size,0,none⟩=some (sv n)∧w'.cell? ⟨w.heap.size,1,none⟩=some (sv d)∧w'.cell? ⟨w.heap.size+1,0,none⟩=some (sv m)∧w'.cell? ⟨w.heap.size+1,1,none⟩=some (sv c))
        (first | exact ⟨b0,b1,b2,b3⟩ | (go_split_ands; refine ⟨?_, ?_, ?_, ?_⟩ <;> (refine Fr.keep (by assumption) ?_; assumption)) | (go_split_ands; (try dsimp only); (repeat' apply And.intro) <;> (rw [Ae _ _ _ _ (by intro e; injection e with e; omega),Ae _ _ _ _ (by intro e; injection e with e; omega)]; assumption)) | go_keep)
        (first
         | (go_at_call 39; (with_reducible refine (hM1.out _ ?_).mono ?_); (exact BM); rintro e w3 ⟨rfl,hf3⟩)
         | (go_at_call 39; (with_reducible refine (hM2.out _ ?_).mono ?_); (exact BM); rintro e w4 ⟨rfl,hf4⟩)
         | (go_at_call 39; (with_reducible refine (hM3.out _ ?_).mono ?_); (exact BM); rintro e w6 ⟨rfl,hf6⟩)
         | (go_at_call 38; (with_reducible refine (hAd.out _ ?_).mono ?_); (exact BM); rintro e w7 ⟨rfl,hf7⟩)
         | (go_at_call 127; (with_reducible refine (hL.out _ ?_).mono ?_); (exact BM); rintro e w5 ⟨rfl,hf5⟩; have hfz:Fr w1 w5:=(by exact BM); have t4:=hfz.keep q4.out; have t5:=hfz.keep q5.out; have t6:=hfz.keepf q4.out q6.out; have t7:=hfz.keepf q5.out q7.out; have qs:=Bf w5 (w.heap.size+1+1) (sv rn) (sv rd) _ _ t4 t5; have q8:=qs.2.2.1; have u0:=hZ qs.1; have u1:=hZ qs.2.1; have hfx:=hZ qs.2.2.2; clear qs))
       clear q8 t4 t5 t6 t7
       replace hfb:=hfb.trans hfz
       go_wp2_with fail
       have v0:=u0.out
       have v1:=u1.out
       refine Ay (v:=.agg #[sv rn,sv rd]) (by simp [results,Tryz.results72,go_sem,v0,v1]) rfl ⟨rfl, ?_⟩
       exact ((Fx.of_fr (p:=fun q=>q=w.heap.size+1+1) hfb).trans hfx.out).toFr (fun q hq e=>by have e:q=w.heap.size+1+1:=e; omega))
theorem XF {x y:Rat} (hx:Tq x) (hy:Tq y):YD x y:=by
 obtain ⟨⟨h1,h2⟩,h3,h4⟩:=hx
 obtain ⟨⟨k1,k2⟩,k3,k4⟩:=hy
 exact ⟨.inr (.inr ⟨by omega,by omega⟩),.inr (.inr ⟨by omega,by omega⟩),.inr (.inr ⟨by omega,by omega⟩)⟩
theorem Vn (x y:Rat) (hx:Tq x) (hy:Tq y) (w:World) (hG:G w) :
 Calls Tryz.prog 178 #[qv x,qv y] w fun e w'=>e=.returned (qv (x - y))∧Fr w w':=by
 rw [Rat.sub_eq_add_neg]
 have hN:=fun W=>P8 y hy.1 W
 have hA:=fun W (hW:Fr w W)=>VL x (-y) (XF hx (UA hy)) W (hG.fr hW)
 unfold qv at hN hA ⊢
 generalize (x+-y).num=rn at *
 generalize ((x+-y).den:Int)=rd at *
 generalize (-y).num=mn at *
 generalize ((-y).den:Int)=md at *
 generalize x.num=n at *
 generalize y.num=m at *
 generalize (x.den:Int)=d at *
 generalize (y.den:Int)=c at *
 replace hN:=hZ hN
 replace hA:=hZ hA
 obtain ⟨wb,hwb⟩:∃ wb,wb=Gf w [(.cells #[sv n,sv d] 134),(.cells #[sv m,sv c] 134),(.cells #[.string ⟨#[]⟩,.string ⟨#[]⟩] 134)]:=⟨_,rfl⟩
 have hfb:Fr w wb:=by rw [hwb]; exact Hp _ w
 have g0:wb.heap[w.heap.size]?=some (.cells #[sv n,sv d] 134 (0,0)):=by rw [hwb]; exact CM _ w 0 _ rfl
 have g1:wb.heap[w.heap.size+1]?=some (.cells #[sv m,sv c] 134 (0,0)):=by rw [hwb]; exact CM _ w 1 _ rfl
 have g2:wb.heap[w.heap.size+2]?=some (.cells #[.string ⟨#[]⟩,.string ⟨#[]⟩] 134 (0,0)):=by rw [hwb]; exact CM _ w 2 _ rfl
 have b0:wb.cell? ⟨w.heap.size,0,none⟩=some (sv n):=Bg g0 0
 have b1:wb.cell? ⟨w.heap.size,1,none⟩=some (sv d):=Bg g0 1
 have b2:wb.cell? ⟨w.heap.size+1,0,none⟩=some (sv m):=Bg g1 0
 have b3:wb.cell? ⟨w.heap.size+1,1,none⟩=some (sv c):=Bg g1 1
 have q4:wb.cell? ⟨w.heap.size+1+1,0,none⟩=some (.string ⟨#[]⟩):=Bg g2 0
 have q5:wb.cell? ⟨w.heap.size+1+1,1,none⟩=some (.string ⟨#[]⟩):=Bg g2 1
 have q6:wb.frozen? ⟨w.heap.size+1+1,0,none⟩=false:=by unfold World.frozen?; rw [g2]; rfl
 have q7:wb.frozen? ⟨w.heap.size+1+1,1,none⟩=false:=by unfold World.frozen?; rw [g2]; rfl
 clear g0 g1 g2
 go_enter Tryz.func178,Tryz.ntmps178
 go_upto_region 1 with (fail)
 change Code.wp _ _ _ _ (Gf w [(.cells #[sv n,sv d] 134),(.cells #[sv m,sv c] 134),(.cells #[.string ⟨#[]⟩,.string ⟨#[]⟩] 134)])
 rw [← hwb]
 clear hwb
 replace q4:=hZ q4
 replace q5:=hZ q5
 replace q6:=hZ q6
 replace q7:=hZ q7
 go_region_held3 (fun w'=>w'.cell? ⟨w.heap.size,0,none⟩=some (sv n)∧w'.cell? ⟨w.heap.size,1,none⟩=some (sv d)∧w'.cell? ⟨w.heap.size+1,0,none⟩=some (sv m)∧w'.cell? ⟨w.heap.size+1,1,none⟩=some (sv c))
  (first | exact ⟨b0,b1,b2,b3⟩ | (go_split_ands; refine ⟨?_, ?_, ?_, ?_⟩ <;> (refine Fr.keep (by assumption) ?_; assumption)) | (go_split_ands; (try dsimp only); (repeat' apply And.intro) <;> (rw [Ae _ _ _ _ (by intro e; injection e with e; omega),Ae _ _ _ _ (by intro e; injection e with e; omega)]; assumption)) | go_keep)
  (first
   | (go_at_call 176; (with_reducible refine (hN.out _).mono ?_); rintro e w3 ⟨rfl,hf3⟩)
   | (go_at_call 72; (with_reducible refine (hA.out _ ?_).mono ?_); (exact BM); rintro e w5 ⟨rfl,hf5⟩; have hfz:Fr wb w5:=(by exact BM); have t4:=hfz.keep q4.out; have t5:=hfz.keep q5.out; have t6:=hfz.keepf q4.out q6.out; have t7:=hfz.keepf q5.out q7.out; have qs:=Bf w5 (w.heap.size+1+1) (sv rn) (sv rd) _ _ t4 t5; have q8:=qs.2.2.1; have u0:=hZ qs.1; have u1:=hZ qs.2.1; have hfx:=hZ qs.2.2.2; clear qs))
 clear q8 t4 t5 t6 t7
 replace hfb:=hfb.trans hfz
 go_wp2_with fail
 have v0:=u0.out
 have v1:=u1.out
 refine Ay (v:=.agg #[sv rn,sv rd]) (by simp [results,Tryz.results178,go_sem,v0,v1]) rfl ⟨rfl, ?_⟩
 exact ((Fx.of_fr (p:=fun q=>q=w.heap.size+1+1) hfb).trans hfx.out).toFr (fun q hq e=>by have e:q=w.heap.size+1+1:=e; omega)
theorem WK (x y:Rat):Rat.divInt (x.num * y.den) (x.den * y.num)=x / y:=by
 rw [HC,Rat.inv_def,← G4,DR]
theorem VG (x y:Rat) (hx:Tq x) (hy:Tq y) (h0:y≠0) (w:World) (hG:G w) :
 Calls Tryz.prog 177 #[qv x,qv y] w fun e w'=>e=.returned (.tuple #[qv (x / y),.int .i64 0])∧Fr w w':=by
 have hyn:y.num≠0:=fun h=>h0 ((LQ y).1 h)
 have hdx:=Hm x
 have hS:=fun W=>Kr y W
 have hM1:=fun W (hW:Fr w W)=>Ov x.num y.den hx.1 hy.2 W (hG.fr hW)
 have hM2:=fun W (hW:Fr w W)=>Ov x.den y.num hx.2 hy.1 W (hG.fr hW)
 have hb1:=TY hx.1 hy.2
 have hb2:=TY hx.2 hy.1
 have hL:=fun W (hW:Fr w W)=>I7 (x.num * y.den) (x.den * y.num) (by unfold Sm; omega) (by unfold Sm; omega) (FW (by omega) hyn) W (hG.fr hW)
 rw [WK] at hL
 unfold qv at hS hL ⊢
 have hsg:(y.num.sign == 0)=false:=AF (fun h=>hyn (J4.1 h))
 generalize (x / y).num=rn at *
 generalize ((x / y).den:Int)=rd at *
 generalize x.num=n at *
 generalize y.num=m at *
 generalize (x.den:Int)=d at *
 generalize (y.den:Int)=c at *
 replace hS:=hZ hS
 replace hM1:=hZ hM1
 replace hM2:=hZ hM2
 replace hL:=hZ hL
 replace hyn:=hZ hyn
 clear h0 hdx hb1 hb2 hx hy
 obtain ⟨wb,hwb⟩:∃ wb,wb=Gf w [(.cells #[sv n,sv d] 134),(.cells #[sv m,sv c] 134),(.cells #[.string ⟨#[]⟩,.string ⟨#[]⟩] 134)]:=⟨_,rfl⟩
 have hfb:Fr w wb:=by rw [hwb]; exact Hp _ w
 have g0:wb.heap[w.heap.size]?=some (.cells #[sv n,sv d] 134 (0,0)):=by rw [hwb]; exact CM _ w 0 _ rfl
 have g1:wb.heap[w.heap.size+1]?=some (.cells #[sv m,sv c] 134 (0,0)):=by rw [hwb]; exact CM _ w 1 _ rfl
 have g2:wb.heap[w.heap.size+2]?=some (.cells #[.string ⟨#[]⟩,.string ⟨#[]⟩] 134 (0,0)):=by rw [hwb]; exact CM _ w 2 _ rfl
 have b0:wb.cell? ⟨w.heap.size,0,none⟩=some (sv n):=Bg g0 0
 have b1:wb.cell? ⟨w.heap.size,1,none⟩=some (sv d):=Bg g0 1
 have b2:wb.cell? ⟨w.heap.size+1,0,none⟩=some (sv m):=Bg g1 0
 have b3:wb.cell? ⟨w.heap.size+1,1,none⟩=some (sv c):=Bg g1 1
 have q4:wb.cell? ⟨w.heap.size+1+1,0,none⟩=some (.string ⟨#[]⟩):=Bg g2 0
 have q5:wb.cell? ⟨w.heap.size+1+1,1,none⟩=some (.string ⟨#[]⟩):=Bg g2 1
 have q6:wb.frozen? ⟨w.heap.size+1+1,0,none⟩=false:=by unfold World.frozen?; rw [g2]; rfl
 have q7:wb.frozen? ⟨w.heap.size+1+1,1,none⟩=false:=by unfold World.frozen?; rw [g2]; rfl
 clear g0 g1 g2
 go_enter Tryz.func177,Tryz.ntmps177
 go_upto_region 1 with (fail)
 change Code.wp _ _ _ _ (Gf w [(.cells #[sv n,sv d] 134),(.cells #[sv m,sv c] 134),(.cells #[.string ⟨#[]⟩,.string ⟨#[]⟩] 134)])
 rw [← hwb]
 clear hwb
 go_wp2_with fail
 refine (hS.out _).mono ?_
 rintro e w1 ⟨rfl,hf1⟩
 replace hfb:=hfb.trans hf1
 replace b0:=hf1.keep b0
 replace b1:=hf1.keep b1
 replace b2:=hf1.keep b2
 replace b3:=hf1.keep b3
 replace q6:=hf1.keepf q4 q6
 replace q7:=hf1.keepf q5 q7
 replace q4:=hf1.keep q4
 replace q5:=hf1.keep q5
 clear hf1
 go_wp2_with fail
 replace q4:=hZ q4
 replace q5:=hZ q5
 replace q6:=hZ q6
 replace q7:=hZ q7
 go_region_held3 (fun w'=>w'.cell? ⟨w.heap.size,0,none⟩=some (sv n)∧w'.cell? ⟨w.heap.size,1,none⟩=some (sv d)∧w'.cell? ⟨w.heap.size+1,0,none⟩=some (sv m)∧w'.cell? ⟨w.heap.size+1,1,none⟩=some (sv c))
  (first | exact ⟨b0,b1,b2,b3⟩ | (go_split_ands; refine ⟨?_, ?_, ?_, ?_⟩ <;> (refine Fr.keep (by assumption) ?_; assumption)) | (go_split_ands; (try dsimp only); (repeat' apply And.intro) <;> (rw [Ae _ _ _ _ (by intro e; injection e with e; omega),Ae _ _ _ _ (by intro e; injection e with e; omega)]; assumption)) | go_keep)
  (first
   | (go_at_call 39; (with_reducible refine (hM1.out _ ?_).mono ?_); (exact BM); rintro e w3 ⟨rfl,hf3⟩)
   | (go_at_call 39; (with_reducible refine (hM2.out _ ?_).mono ?_); (exact BM); rintro e w4 ⟨rfl,hf4⟩)
   | (go_at_call 127; (with_reducible refine (hL.out _ ?_).mono ?_); (exact BM); rintro e w5 ⟨rfl,hf5⟩; have hfz:Fr w1 w5:=(by exact BM); have t4:=hfz.keep q4.out; have t5:=hfz.keep q5.out; have t6:=hfz.keepf q4.out q6.out; have t7:=hfz.keepf q5.out q7.out; have qs:=Bf w5 (w.heap.size+1+1) (sv rn) (sv rd) _ _ t4 t5; have q8:=qs.2.2.1; have u0:=hZ qs.1; have u1:=hZ qs.2.1; have hfx:=hZ qs.2.2.2; clear qs))
 clear q8 t4 t5 t6 t7
 replace hfb:=hfb.trans hfz
 go_wp2_with fail
 have v0:=u0.out
 have v1:=u1.out
 refine Ay (v:=.tuple #[.agg #[sv rn,sv rd],.int .i64 0]) (by simp [results,Tryz.results177,go_sem,v0,v1]) rfl ⟨rfl, ?_⟩
 exact ((Fx.of_fr (p:=fun q=>q=w.heap.size+1+1) hfb).trans hfx.out).toFr (fun q hq e=>by have e:q=w.heap.size+1+1:=e; omega)
def Ff (w:World) (b o:Nat) (xs:List Rat):Prop :=
 gN≤b∧b < w.heap.size∧∀ j x,xs[j]?=some x→(w.cell? ⟨b,o+j * 2,none⟩=some (sv x.num)∧w.frozen? ⟨b,o+j * 2,none⟩=false)∧(w.cell? ⟨b,o+j * 2+1,none⟩=some (sv (x.den:Int))∧w.frozen? ⟨b,o+j * 2+1,none⟩=false)
theorem Ff.fx {p:Nat→Prop} {w w':World} {b o:Nat} {xs:List Rat} (h:Ff w b o xs) (k:Fx p w w') (hp:¬ p b):Ff w' b o xs :=
 ⟨h.1,An h.2.1 k.size,fun j x hx=>by
  obtain ⟨⟨h1,h2⟩,h3,h4⟩:=h.2.2 j x hx
  exact ⟨⟨k.keep h1 hp,k.keepf h1 h2 hp⟩,k.keep h3 hp,k.keepf h3 h4 hp⟩⟩
theorem Ff.fr {w w':World} {b o:Nat} {xs:List Rat} (h:Ff w b o xs) (k:Fr w w'):Ff w' b o xs :=
 h.fx (p:=fun _=>False) (Fx.of_fr k) (fun e=>e)
theorem Ff.set {w:World} {b o:Nat} {xs:List Rat} (h:Ff w b o xs) {k:Nat} (hk:k < xs.length) (x:Rat):Ff ((w.setCell ⟨b,o+k * 2,none⟩ (sv x.num)).setCell ⟨b,o+k * 2+1,none⟩ (sv (x.den:Int))) b o (xs.set k x):=by
 obtain ⟨h1,h2,h3⟩:=h
 have hs:∀ (p q:Addr) (u v:Value),((w.setCell p u).setCell q v).heap.size=w.heap.size:=fun p q u v=>by rw [CQ,CQ]
 refine ⟨h1,by rw [hs]; exact h2,fun j y hy=>?_⟩
 rw [Ao,Ao,Ao,Ao]
 have ne:∀ i l:Nat,i≠l→(⟨b,i,none⟩:Addr)≠⟨b,l,none⟩:=fun i l e e2=>by injection e2 with _ e2; exact e e2
 rw [AX] at hy
 by_cases e:k=j
 ·subst e
  rw [Ak rfl,Ak hk] at hy
  injection hy with hy; subst hy
  obtain ⟨⟨a1,a2⟩,a3,a4⟩:=h3 k _ (Aa hk)
  refine ⟨⟨?_,a2⟩, ?_,a4⟩
  ·rw [Ae _ _ _ _ (ne _ _ (by omega))]; exact Ap _ _ _ (by rw [a1]; rfl)
  ·exact Ap _ _ _ (by rw [Ae _ _ _ _ (ne _ _ (by omega)),a3]; rfl)
 ·rw [Aj e] at hy
  obtain ⟨⟨a1,a2⟩,a3,a4⟩:=h3 j y hy
  refine ⟨⟨?_,a2⟩, ?_,a4⟩
  ·rw [Ae _ _ _ _ (ne _ _ (by omega)),Ae _ _ _ _ (ne _ _ (by omega))]; exact a1
  ·rw [Ae _ _ _ _ (ne _ _ (by omega)),Ae _ _ _ _ (ne _ _ (by omega))]; exact a3
def Cl (xs:List Rat):List Value:=xs.flatMap fun x=>[sv x.num,sv (x.den:Int)]
theorem EB (xs ys:List Rat):Cl (xs ++ ys)=Cl xs ++ Cl ys:=by unfold Cl; rw [Z8]
theorem Hh (xs:List Rat):(Cl xs).length=xs.length * 2:=by
 induction xs with
 | nil=>rfl
 | cons x l ih=>show ((sv x.num) :: (sv (x.den:Int)) :: Cl l).length=_; rw [A6,A6,ih,A6]; omega
theorem LF:∀ (xs:List Rat) (j:Nat) (x:Rat),xs[j]?=some x→(Cl xs)[j * 2]?=some (sv x.num)∧(Cl xs)[j * 2+1]?=some (sv (x.den:Int))
 | [],j,x,h=>by simp at h
 | y :: l,0,x,h=>by rw [KZ] at h; injection h with h; subst h; exact ⟨rfl,rfl⟩
 | y :: l,j+1,x,h=>by
   rw [B4] at h
   obtain ⟨a,b⟩:=LF l j x h
   have e:Cl (y :: l)=sv y.num :: sv (y.den:Int) :: Cl l:=rfl
   rw [e,show (j+1) * 2=j * 2+1+1 by omega,show j * 2+1+1+1=(j * 2+1)+1+1 by omega]
   exact ⟨by rw [B4,B4]; exact a,by rw [B4,B4]; exact b⟩
theorem Hg (xs:List Rat):∀ u ∈ Cl xs,u.oneCell'=true:=fun u hu=>by
 unfold Cl at hu
 obtain ⟨x,-,hx⟩:=List.mem_flatMap.1 hu
 simp at hx
 rcases hx with rfl | rfl <;> rfl
theorem Eo {w:World} {base:Nat} {e:TypeId} {g n m cap:Nat} {xs:List Rat} (hb:gN≤base) (h:w.ownsRow base e 2 (.slice (some ⟨g,0,none⟩) n cap) m (Cl xs)):Ff w g 0 xs∧n=m∧m=xs.length∧base≤g∧n≤cap:=by
 have h1:=h.1
 obtain ⟨a,b,c,d,f⟩:=BK h
 refine ⟨⟨by omega,c,fun j x hx=>?_⟩,a,by rw [Hh] at h1; omega,b,d⟩
 obtain ⟨k1,k2⟩:=LF xs j x hx
 rw [AE]
 exact ⟨f _ _ k1,f _ _ k2⟩
structure DZ (w:World) (ob oo:Nat) (hs:List (Nat×Nat×Nat)) (g:List (List Rat)):Prop where
 len:hs.length=g.length
 outer:ob < w.heap.size
 gob:gN≤ob
 cell:∀ (i:Nat) (h:Nat×Nat×Nat) (xs:List Rat),hs[i]?=some h→g[i]?=some xs→w.cell? ⟨ob,oo+i,none⟩=some (.slice (some ⟨h.1,h.2.1,none⟩) xs.length h.2.2)∧w.frozen? ⟨ob,oo+i,none⟩=false
 row:∀ (i:Nat) (h:Nat×Nat×Nat) (xs:List Rat),hs[i]?=some h→g[i]?=some xs→Ff w h.1 h.2.1 xs∧h.1≠ob
 apart:∀ (i j:Nat) (hi hj:Nat×Nat×Nat),hs[i]?=some hi→hs[j]?=some hj→i≠j→hi.1≠hj.1
theorem DZ.fx {p:Nat→Prop} {w w':World} {ob oo:Nat} {hs:List (Nat×Nat×Nat)} {g:List (List Rat)} (h:DZ w ob oo hs g) (k:Fx p w w') (hp:∀ j,gb ob hs j→¬ p j):DZ w' ob oo hs g :=
 ⟨h.len,An h.outer k.size,h.gob,
  fun i hd xs h1 h2=>by
   have:=h.cell i hd xs h1 h2
   exact ⟨k.keep this.1 (hp _ (.inl rfl)),k.keepf this.1 this.2 (hp _ (.inl rfl))⟩,
  fun i hd xs h1 h2=>by
   have:=h.row i hd xs h1 h2
   exact ⟨this.1.fx k (hp _ (.inr ⟨hd,Ac h1,rfl⟩)),this.2⟩,
  h.apart⟩
theorem DZ.fr {w w':World} {ob oo:Nat} {hs:List (Nat×Nat×Nat)} {g:List (List Rat)} (h:DZ w ob oo hs g) (k:Fr w w'):DZ w' ob oo hs g :=
 h.fx (p:=fun _=>False) (Fx.of_fr k) (fun _ _ e=>e)
theorem DZ.ge {w:World} {ob oo:Nat} {hs:List (Nat×Nat×Nat)} {g:List (List Rat)} (h:DZ w ob oo hs g):∀ k,gb ob hs k→gN≤k:=by
 rintro k (rfl | ⟨hd,hm,rfl⟩)
 ·exact h.gob
 ·obtain ⟨i,hi⟩:=AM hm
  have hlt:i < g.length:=by rw [← h.len]; exact (Ah.1 hi).1
  exact (h.row i hd _ hi (Aa hlt)).1.1
theorem DZ.at {w:World} {ob oo:Nat} {hs:List (Nat×Nat×Nat)} {g:List (List Rat)} (h:DZ w ob oo hs g) {i:Nat} (hi:i < g.length) :
 ∃ b o c,hs[i]?=some (b,o,c)∧w.cell? ⟨ob,oo+i,none⟩=some (.slice (some ⟨b,o,none⟩) (g[i]).length c)∧w.frozen? ⟨ob,oo+i,none⟩=false∧Ff w b o g[i]∧b≠ob:=by
 have hl:i < hs.length:=by rw [h.len]; exact hi
 have h1:=Aa hl
 have h2:=Aa hi
 have h3:=h.cell i _ _ h1 h2
 have h4:=h.row i _ _ h1 h2
 exact ⟨hs[i].1,hs[i].2.1,hs[i].2.2,h1,h3.1,h3.2,h4.1,h4.2⟩
theorem DZ.setRow {w w':World} {ob oo:Nat} {hs:List (Nat×Nat×Nat)} {g:List (List Rat)} (h:DZ w ob oo hs g) {i b o c:Nat} (hi:hs[i]?=some (b,o,c)) {zs:List Rat}
 (k:Fx (·=b) w w') (ho:Ff w' b o zs) (hl:∀ xs,g[i]?=some xs→zs.length=xs.length):DZ w' ob oo hs (g.set i zs):=by
 have hne:b≠ob:=by
  have hlt:i < g.length:=by rw [← h.len]; exact (Ah.1 hi).1
  exact (h.row i _ _ hi (Aa hlt)).2
 refine ⟨by simp [h.len],An h.outer k.size,h.gob,fun j hd xs h1 h2=>?_,fun j hd xs h1 h2=>?_,h.apart⟩
 ·have hj:j < g.length:=by have:=(Ah.1 h2).1; simpa using this
  have h3:=h.cell j hd _ h1 (Aa hj)
  rw [AX] at h2
  have e:xs.length=(g[j]).length:=by
   split at h2
   ·rename_i e; subst e; rw [Ak (by simpa using hj)] at h2; injection h2 with h2; subst h2; exact hl _ (Aa hj)
   ·rw [Aa hj] at h2; injection h2 with h2; rw [h2]
  rw [e]
  exact ⟨k.keep h3.1 (fun e=>hne e.symm),k.keepf h3.1 h3.2 (fun e=>hne e.symm)⟩
 ·have hj:j < g.length:=by have:=(Ah.1 h2).1; simpa using this
  have h3:=h.row j hd _ h1 (Aa hj)
  rw [AX] at h2
  refine ⟨?_,h3.2⟩
  split at h2
  ·rename_i e; subst e
   rw [Ak (by simpa using hj)] at h2; injection h2 with h2; subst h2
   rw [hi] at h1; injection h1 with h1; subst h1
   exact ho
  ·rename_i e
   rw [Aa hj] at h2; injection h2 with h2; subst h2
   exact h3.1.fx k (fun e2=>h.apart i j _ _ hi h1 e e2.symm)
theorem DZ.setRowF {w W w':World} {ob oo:Nat} {hs:List (Nat×Nat×Nat)} {g:List (List Rat)} (h:DZ w ob oo hs g) {i b o c:Nat} (hi:hs[i]?=some (b,o,c)) {zs:List Rat}
 (k:Fx (·=b) W w') (ho:Ff w' b o zs) (hl:∀ xs,g[i]?=some xs→zs.length=xs.length) (hf:Fr w W):DZ w' ob oo hs (g.set i zs) :=
 (h.fr hf).setRow hi k ho hl
theorem DZ.swap {w:World} {ob oo:Nat} {hs:List (Nat×Nat×Nat)} {g:List (List Rat)} (h:DZ w ob oo hs g) {i j:Nat} {hi hj:Nat×Nat×Nat} {xs ys:List Rat}
 (h1:hs[i]?=some hi) (h2:hs[j]?=some hj) (h3:g[i]?=some xs) (h4:g[j]?=some ys) (hij:i≠j) :
 DZ ((w.setCell ⟨ob,oo+i,none⟩ (.slice (some ⟨hj.1,hj.2.1,none⟩) ys.length hj.2.2)).setCell ⟨ob,oo+j,none⟩ (.slice (some ⟨hi.1,hi.2.1,none⟩) xs.length hi.2.2)) ob oo (swp hs i j) (swp g i j):=by
 have hf:Fx (·=ob) w ((w.setCell ⟨ob,oo+i,none⟩ (.slice (some ⟨hj.1,hj.2.1,none⟩) ys.length hj.2.2)).setCell ⟨ob,oo+j,none⟩ (.slice (some ⟨hi.1,hi.2.1,none⟩) xs.length hi.2.2)) :=
  Fx.setCell (p:=(·=ob)) (q:=⟨ob,oo+j,none⟩) (Fx.setCell (p:=(·=ob)) (q:=⟨ob,oo+i,none⟩) (Fx.refl _ w) (.inl rfl) _) (.inl rfl) _
 have ci:=h.cell i _ _ h1 h3
 have cj:=h.cell j _ _ h2 h4
 have eij:(⟨ob,oo+i,none⟩:Addr)≠⟨ob,oo+j,none⟩:=fun e=>by injection e with _ e; omega
 refine ⟨by rw [Em,Em,h.len],An h.outer hf.size,h.gob,fun k hd zs k1 k2=>?_,fun k hd zs k1 k2=>?_,fun a b ha hb k1 k2 hab=>?_⟩
 ·rw [DF hs i j h1 h2] at k1
  rw [DF g i j h3 h4] at k2
  rw [Ao,Ao]
  by_cases e:k=j
  ·subst e
   rw [Ak rfl] at k1 k2
   injection k1 with k1; injection k2 with k2; subst k1; subst k2
   refine ⟨Ap _ _ _ ?_,cj.2⟩
   rw [Ae _ _ _ _ eij,cj.1]; rfl
  ·rw [Aj e] at k1 k2
   have ekj:(⟨ob,oo+j,none⟩:Addr)≠⟨ob,oo+k,none⟩:=fun e2=>by injection e2 with _ e2; omega
   rw [Ae _ _ _ _ ekj]
   by_cases e2:k=i
   ·subst e2
    rw [Ak rfl] at k1 k2
    injection k1 with k1; injection k2 with k2; subst k1; subst k2
    exact ⟨Ap _ _ _ (by rw [ci.1]; rfl),ci.2⟩
   ·rw [Aj e2] at k1 k2
    have eki:(⟨ob,oo+i,none⟩:Addr)≠⟨ob,oo+k,none⟩:=fun e3=>by injection e3 with _ e3; omega
    rw [Ae _ _ _ _ eki]
    exact h.cell k hd zs k1 k2
 ·rw [DF hs i j h1 h2] at k1
  rw [DF g i j h3 h4] at k2
  have go:∀ (m:Nat) (hd:Nat×Nat×Nat) (zs:List Rat),hs[m]?=some hd→g[m]?=some zs→Ff ((w.setCell ⟨ob,oo+i,none⟩ (.slice (some ⟨hj.1,hj.2.1,none⟩) ys.length hj.2.2)).setCell ⟨ob,oo+j,none⟩ (.slice (some ⟨hi.1,hi.2.1,none⟩) xs.length hi.2.2)) hd.1 hd.2.1 zs∧hd.1≠ob:=fun m hd zs m1 m2=>by
   have:=h.row m hd zs m1 m2
   exact ⟨this.1.fx hf this.2,this.2⟩
  by_cases e:k=j
  ·subst e; rw [Ak rfl] at k1 k2; injection k1 with k1; injection k2 with k2; subst k1; subst k2; exact go i _ _ h1 h3
  ·rw [Aj e] at k1 k2
   by_cases e2:k=i
   ·subst e2; rw [Ak rfl] at k1 k2; injection k1 with k1; injection k2 with k2; subst k1; subst k2; exact go j _ _ h2 h4
   ·rw [Aj e2] at k1 k2; exact go k _ _ k1 k2
 ·rw [DF hs i j h1 h2] at k1 k2
  have key:∀ (k:Nat) (hd:Nat×Nat×Nat),(if k=j then some hi else if k=i then some hj else hs[k]?)=some hd→∃ m,hs[m]?=some hd∧m=(if k=j then i else if k=i then j else k):=fun k hd hk=>by
   by_cases e:k=j
   ·rw [Ak e] at hk ⊢; exact ⟨i,by rw [h1,hk],rfl⟩
   ·rw [Aj e] at hk ⊢
    by_cases e2:k=i
    ·rw [Ak e2] at hk ⊢; exact ⟨j,by rw [h2,hk],rfl⟩
    ·rw [Aj e2] at hk ⊢; exact ⟨k,hk,rfl⟩
  obtain ⟨m,m1,m2⟩:=key a ha k1
  obtain ⟨n,n1,n2⟩:=key b hb k2
  refine h.apart m n _ _ m1 n1 (fun e=>hab ?_)
  rw [m2,n2] at e
  repeat' split at e
  all_goals omega
def MQ (h:Nat×Nat×Nat) (xs:List Rat):Value:=.slice (some ⟨h.1,h.2.1,none⟩) xs.length h.2.2
def LY (hs:List (Nat×Nat×Nat)) (g:List (List Rat)):List Value:=List.zipWith MQ hs g
structure J6 (w:World) (base:Nat) (E:TypeId) (v:Value) (hs:List (Nat×Nat×Nat)) (g:List (List Rat)):Prop where
 gbase:gN≤base
 len:hs.length=g.length
 own:w.ownsRow base E 1 v g.length (LY hs g)
 row:∀ (i:Nat) (h:Nat×Nat×Nat) (xs:List Rat),hs[i]?=some h→g[i]?=some xs→Ff w h.1 h.2.1 xs∧v.ownBlock≠some h.1
 apart:∀ (i j:Nat) (hi hj:Nat×Nat×Nat),hs[i]?=some hi→hs[j]?=some hj→i≠j→hi.1≠hj.1
theorem J6.nil (w:World) (base:Nat) (E:TypeId) (h:gN≤base):J6 w base E (.slice none 0 0) [] [] :=
 ⟨h,rfl,AO _ _ _ _,fun i h xs h1=>by simp at h1,fun i j hi hj h1=>by simp at h1⟩
theorem J6.fr {w w':World} {base:Nat} {E:TypeId} {v:Value} {hs:List (Nat×Nat×Nat)} {g:List (List Rat)} (h:J6 w base E v hs g) (k:Fr w w'):J6 w' base E v hs g :=
 ⟨h.gbase,h.len,A3 h.own k,fun i hd xs h1 h2=>⟨(h.row i hd xs h1 h2).1.fr k,(h.row i hd xs h1 h2).2⟩,h.apart⟩
theorem J6.lt {w:World} {base:Nat} {E:TypeId} {v:Value} {hs:List (Nat×Nat×Nat)} {g:List (List Rat)} (h:J6 w base E v hs g):∀ hd,hd ∈ hs→hd.1 < w.heap.size:=fun hd hm=>by
 obtain ⟨i,hi⟩:=AM hm
 have hl:i < g.length:=by rw [← h.len]; exact (Ah.1 hi).1
 exact (h.row i hd _ hi (Aa hl)).1.2.1
theorem QU (hs:List (Nat×Nat×Nat)) (g:List (List Rat)) (h:Nat×Nat×Nat) (xs:List Rat) (hl:hs.length=g.length):LY (hs ++ [h]) (g ++ [xs])=LY hs g ++ [MQ h xs]:=by
 unfold LY; rw [Z6 hl]; rfl
theorem J6.push {w w':World} {base:Nat} {E:TypeId} {v:Value} {hs:List (Nat×Nat×Nat)} {g:List (List Rat)} (h:J6 w base E v hs g) {hd:Nat×Nat×Nat} {xs:List Rat} (ho:Ff w hd.1 hd.2.1 xs)
 (hne:∀ h',h' ∈ hs→h'.1≠hd.1) (hv:v.ownBlock≠some hd.1) {gb cap:Nat} (hown:w'.ownsRow base E 1 (.slice (some ⟨gb,0,none⟩) (g.length+1) cap) (g.length+1) (LY hs g ++ [MQ hd xs]))
 (hg:w.grownBy w' v.ownBlock) (hat:v.ownBlock=some gb∨w.heap.size≤gb):J6 w' base E (.slice (some ⟨gb,0,none⟩) (g.length+1) cap) (hs ++ [hd]) (g ++ [xs]):=by
 have hfx:=Fx.of_grown hg
 have hrow:∀ (i:Nat) (h0:Nat×Nat×Nat) (ys:List Rat),hs[i]?=some h0→g[i]?=some ys→Ff w' h0.1 h0.2.1 ys∧gb≠h0.1:=fun i h0 ys h1 h2=>by
  obtain ⟨a,b⟩:=h.row i h0 ys h1 h2
  refine ⟨a.fx hfx (fun e=>b e), ?_⟩
  rcases hat with e | e
  ·intro e2; rw [e2] at e; exact b e
  ·have:=a.2.1; omega
 refine ⟨h.gbase,by simp [h.len], ?_,fun i h0 ys h1 h2=>?_,fun i j hi hj h1 h2 hij=>?_⟩
 ·rw [QU _ _ _ _ h.len]; simpa using hown
 ·by_cases hi:i < g.length
  ·rw [Be (by rw [h.len]; exact hi)] at h1
   rw [Be hi] at h2
   obtain ⟨a,b⟩:=hrow i h0 ys h1 h2
   exact ⟨a,fun e=>by injection e with e; exact b e⟩
  ·rw [Bj (by omega)] at h2
   rw [Bj (by rw [h.len]; omega)] at h1
   rw [Cr] at h1 h2
   split at h1
   ·split at h2
    ·injection h1 with h1; injection h2 with h2; subst h1; subst h2
     refine ⟨ho.fx hfx (fun e=>hv e),fun e=>?_⟩
     injection e with e
     rcases hat with e2 | e2
     ·have e3:gb=hd.1:=e
      rw [e3] at e2; exact hv e2
     ·have:=ho.2.1
      have e3:gb=hd.1:=e
      omega
    ·simp at h2
   ·simp at h1
 ·have key:∀ (i:Nat) (h0:Nat×Nat×Nat),(hs ++ [hd])[i]?=some h0→(i < hs.length∧hs[i]?=some h0)∨(i=hs.length∧h0=hd):=fun i h0 h=>by
   by_cases hi:i < hs.length
   ·rw [Be hi] at h; exact .inl ⟨hi,h⟩
   ·rw [Bj (by omega),Cr] at h
    split at h
    ·injection h with h; exact .inr ⟨by omega,h.symm⟩
    ·simp at h
  rcases key i hi h1 with ⟨a1,a2⟩ | ⟨a1,a2⟩ <;> rcases key j hj h2 with ⟨b1,b2⟩ | ⟨b1,b2⟩
  ·exact h.apart i j _ _ a2 b2 hij
  ·subst b2; exact hne _ (Ac a2)
  ·subst a2; exact (hne _ (Ac b2)).symm
  ·omega
theorem J6.pushN {w w':World} {base:Nat} {E:TypeId} {v u:Value} {hs:List (Nat×Nat×Nat)} {g:List (List Rat)} (h:J6 w base E v hs g) {hd:Nat×Nat×Nat} {xs:List Rat} (ho:Ff w hd.1 hd.2.1 xs)
 (hne:∀ h',h' ∈ hs→h'.1≠hd.1) (hv:v.ownBlock≠some hd.1) {gb cap n:Nat} (hn:g.length=n) (hu:u=MQ hd xs) (hown:w'.ownsRow base E 1 (.slice (some ⟨gb,0,none⟩) (n+1) cap) (n+1) (LY hs g ++ [u]))
 (hg:w.grownBy w' v.ownBlock) (hat:v.ownBlock=some gb∨w.heap.size≤gb):J6 w' base E (.slice (some ⟨gb,0,none⟩) (n+1) cap) (hs ++ [hd]) (g ++ [xs]):=by
 subst hn; subst hu
 exact h.push ho hne hv hown hg hat
theorem J6.grid {w:World} {base:Nat} {E:TypeId} {gb n cap:Nat} {hs:List (Nat×Nat×Nat)} {g:List (List Rat)} (h:J6 w base E (.slice (some ⟨gb,0,none⟩) n cap) hs g):DZ w gb 0 hs g∧n=g.length∧base≤gb∧n≤cap:=by
 obtain ⟨a,b,c,d,f⟩:=BK h.own
 refine ⟨⟨h.len,c,Aw h.gbase b,fun i hd xs h1 h2=>?_,fun i hd xs h1 h2=>?_,h.apart⟩,a,b,d⟩
 ·have:=f i (MQ hd xs) (by unfold LY; rw [CH,h1,h2])
  simpa [MQ] using this
 ·obtain ⟨p,q⟩:=h.row i hd xs h1 h2
  exact ⟨p,fun e=>q (by simp [Value.ownBlock,e])⟩
theorem Pv:(Tryz.prog.info? 134).map (fun i=>(i.zero,i.size,i.bytes))=some (some (.agg #[.string ⟨#[]⟩,.string ⟨#[]⟩]),2,32):=by kernel_rfl
theorem N7:(Tryz.prog.info? 136).map (fun i=>(i.zero,i.size,i.bytes))=some (some (.slice none 0 0),1,24):=by kernel_rfl
theorem Es (w:World) (x y:Value) (t:TypeId) (n:Nat) (hn:w.heap.size=n):∀ (j:Nat) (u:Value),[x,y][j]?=some u→(w.alloc (.cells #[x,y] t)).cell? ((⟨n,0,none⟩:Addr).add j)=some u:=fun j u hu=>by
 subst hn
 match j,hu with
 | 0,hu=>simp at hu; subst hu; exact (CL w x y t).1
 | 1,hu=>simp at hu; subst hu; exact (CK w x y t).1
 | j+2,hu=>simp at hu
theorem M8 (w:World):Calls Tryz.prog 121 #[] w fun e w'=>e=.returned (qv 0)∧Fr w w':=by
 have e:qv 0=.agg #[.string ⟨#[48]⟩,.string ⟨#[49]⟩]:=by unfold qv sv; rw [show (0:Rat).num=0 from rfl,show (((0:Rat).den:Nat):Int)=1 from rfl,G7,Gy]
 rw [e]
 clear e
 go_enter Tryz.func121,Tryz.ntmps121
 go_wp2_with fail
 exact Ay (v:=.agg #[.string ⟨#[48]⟩,.string ⟨#[49]⟩]) (by simp [results,Tryz.results121,go_sem]) rfl ⟨rfl,(Fr.refl _).alloc _⟩
theorem LP (w:World):Calls Tryz.prog 122 #[] w fun e w'=>e=.returned (qv 1)∧Fr w w':=by
 have e:qv 1=.agg #[.string ⟨#[49]⟩,.string ⟨#[49]⟩]:=by unfold qv sv; rw [show (1:Rat).num=1 from rfl,show (((1:Rat).den:Nat):Int)=1 from rfl,Gy]
 rw [e]
 clear e
 go_enter Tryz.func122,Tryz.ntmps122
 go_wp2_with fail
 exact Ay (v:=.agg #[.string ⟨#[49]⟩,.string ⟨#[49]⟩]) (by simp [results,Tryz.results122,go_sem]) rfl ⟨rfl,(Fr.refl _).alloc _⟩
theorem Ph (i:Int) (w:World):Calls Tryz.prog 110 #[.int .i64 i] w fun e w'=>e=.returned (.slice none 0 0)∧Fr w w':=by
 go_enter Tryz.func110,Tryz.ntmps110
 go_wp2_with fail
 go_ret
 exact ⟨rfl,Fr.refl _⟩
def FE (m:List (List Int)):Nat:=(A7 m 0).length
theorem H8 (m:List (List Int)) (a:Option Addr) (cap:Nat) (w:World) (hm:BS w a m) :
 Calls Tryz.prog 107 #[.slice a m.length cap] w fun e w'=>e=.returned (.int .i64 (FE m))∧Fr w w':=by
 by_cases h0:m=[]
 ·subst h0
  go_enter Tryz.func107,Tryz.ntmps107
  go_wp2_with fail
  go_ret
  exact ⟨rfl,Fr.refl _⟩
 ·have hl:0 < m.length:=Cz.2 h0
  obtain ⟨b,o,a',c',rfl,hc,-⟩:=hm.at hl
  have hr:FE m=(m[0]).length:=by unfold FE; rw [BB hl]
  rw [hr]
  generalize (m[0]).length=k at *
  obtain ⟨n,hn⟩:∃ n,n=m.length:=⟨_,rfl⟩
  rw [← hn] at hl ⊢
  have d1:((n:Int) == 0)=false:=AF (by omega)
  rw [EK] at hc
  clear hr hn hm h0
  go_enter Tryz.func107,Tryz.ntmps107
  go_wp2_with fail
  go_ret
  exact ⟨rfl,Fr.refl _⟩
def CY (r:List Int):List Rat:=r.map fun n:Int=>(n:Rat)
theorem Up (n:Int):qv (n:Rat)=.agg #[sv n,.string ⟨#[49]⟩]:=by
 unfold qv; rw [EV,FU,show sv ((1:Nat):Int)=.string ⟨#[49]⟩ from by rw [show ((1:Nat):Int)=1 from rfl,sv,Gy]]
def W0 (w:World) (g:List (List Rat)) (e:Ending) (w':World):Prop:=∃ v hs,e=.returned v∧J6 w' w.heap.size 136 v hs g∧Hid (∀ h,h ∈ hs→w.heap.size≤h.1)∧Fr w w'
theorem Nj (m:List (List Int)) (a:Option Addr) (cap n:Nat) (w:World) (hG:G w) (hm:BS w a m) (hr:BU n m) (hn:1≤n) (hn2:n≤1000) (hl:m.length≤1000) (hb:∀ r,r ∈ m→∀ x,x ∈ r→Sm x) :
 Calls Tryz.prog 109 #[.slice a m.length cap,.func (.func 110) #[] #[]] w (W0 w (m.map CY)):=by
 have hG1:=hZ hG
 have hm1:=hZ hm
 have hr1:=hZ hr
 have hb1:=hZ hb
 have hgn:=Ch hG
 obtain ⟨i0,hi,hz0,hz1,hz2⟩:=AG Pv
 obtain ⟨i1,ji,jz0,jz1,jz2⟩:=AG N7
 have hno:=hZ (fun i W=>Ph i W)
 have hlen:=hZ (show (m.map CY).length=m.length by simp)
 clear hG hm hr hb
 go_enter Tryz.func109,Tryz.ntmps109
 go_wp2_with fail
 go_loopg [5,13] m.length (fun k s5 s13 wr=>∃ (j:Nat) (hs:List (Nat×Nat×Nat)),s13=.int .i64 j∧j+k=m.length∧Fr w wr∧J6 wr w.heap.size 136 s5 hs ((m.map CY).take j)∧Hid (∀ h,h ∈ hs→w.heap.size≤h.1))
 case atStart=>exact ⟨0,[],rfl,by omega,Fr.refl _,J6.nil _ _ _ hgn,fun h hm=>by simp at hm⟩
 case round=>
  obtain ⟨j,hs,rfl,hjk,hf,hgg,hnew⟩:=hrel
  by_cases hlt:j < m.length
  ·obtain ⟨b,o,a',c',rfl,hc,hel⟩:=(hm1.out.fr hf).at hlt
   have hrj:=hr1.out.row hlt
   rw [hrj] at hc
   have hgl:((m.map CY).take j).length=j:=by rw [AB,hlen.out]; omega
   have hmj:(m.map CY)[j]?=some (CY m[j]):=by rw [Am,Aa hlt]; rfl
   have hsn:=Bh hmj
   have hbj:=hb1.out _ (AK hlt)
   generalize m[j]=row at *
   replace hrj:=hZ hrj
   replace hgl:=hZ hgl
   replace hsn:=hZ hsn
   replace hbj:=hZ hbj
   replace hmj:=hZ hmj
   replace hgg:=hZ hgg
   obtain ⟨wo,rfl⟩:∃ wo:World,wo=wr:=⟨_,rfl⟩
   obtain ⟨ko,rfl⟩:∃ ko:Nat,ko=gk:=⟨_,rfl⟩
   have zj0:(0:Int)≤(j:Int):=Ag _
   have zj1:(j:Int) < (m.length:Int):=by omega
   go_wp2_with fail
   go_loopg [8,20] n (fun k s8 s20 wr2=>∃ t:Nat,s20=.int .i64 t∧t+k=n∧Fr wo wr2∧Hid (wr2.ownsRow wo.heap.size 134 2 s8 t (Cl ((CY row).take t))))
   case atStart=>exact ⟨0,rfl,by omega,Fr.refl _,AO _ _ _ _⟩
   case round=>
    obtain ⟨t,rfl,htk,hf2,hown⟩:=hrel
    by_cases ht:t < n
    ·obtain ⟨b2,o2,x,rfl,hbl2,hxt,hcell2⟩:=(hel.fr hf2).at (i:=t) (by rw [hrj.out]; exact ht)
     have hGr:=(hG1.out.fr hf).fr hf2
     have hsx:=hbj.out x (Ac hxt)
     unfold Sm at hsx
     have hxq:(CY row)[t]?=some (x:Rat):=by unfold CY; rw [Am,hxt]; rfl
     have hsn2:Hid (Cl ((CY row).take (t+1))=Cl ((CY row).take t) ++ [sv x,.string ⟨#[49]⟩]):=hZ (by
      rw [Bh hxq,EB]
      have:=Up x
      unfold qv at this
      injection this with this
      injection this with this
      show _ ++ [sv (x:Rat).num,sv ((x:Rat).den:Int)]=_
      rw [this])
     replace hxt:=hZ hxt
     replace hxq:=hZ hxq
     have zt0:(0:Int)≤(t:Int):=Ag _
     have zt1:(t:Int) < (n:Int):=by omega
     go_wp2_with fail
     refine (Dm _ (by omega) (by omega) _ hGr).mono ?_
     rintro e w2 ⟨rfl,hf3⟩
     go_wp2_with (at_builtin; refine As _ rfl _ _ 136 (by rfl) _ 134 _ _ 2 32 Tryz.underlying136 hi hz0 hz1 hz2 rfl (by decide) _ t _ (by rfl) (Av (A3 hown.out hf3) _) ⟨w2.heap.size,0,none⟩ 1 1 [sv x,.string ⟨#[49]⟩] (by rfl) rfl (Es _ _ _ _ _ (by simp)) (by simp [Value.oneCell']) (by decide) (by unfold maxLen; omega) (by omega) (by have:=(hf2.trans hf3).size; simp; omega) (w2.heap.size+1) (by simp) ?_; intro gA capA wA hownA hgrowA hatA hltA)
     go_wp2_with fail
     go_roundg (gk - 1)
     case measure=>omega
     case rel=>exact ⟨t+1,by go_num,by omega,((hf2.trans hf3).alloc _).grown hgrowA (fun k e=>(hown.out.lt k e).1),by show _; rw [hsn2.out]; exact hownA⟩
    ·have hd:decide (t < n)=false:=Ab ht
     obtain rfl:t=n:=by omega
     obtain ⟨gb,cp,rfl⟩:=CF hown.out (by omega)
     have hown9:=hown.out
     rw [Ai (by unfold CY; rw [Al,hrj.out]; omega)] at hown9
     obtain ⟨hrow,-,-,hgb,-⟩:=Eo (Aw hgn hf.size) hown9
     have hgg2:=hgg.out.fr hf2
     replace hrow:=hZ hrow
     have hne:u5.ownBlock≠some gb:=fun e=>by have h9:=(hgg.out.own.lt gb e).2; exact Ck _ (An h9 hgb)
     have hne2:∀ h',h' ∈ hs→h'.1≠gb:=fun h' hm e2=>by have h9:=hgg.out.lt h' hm; rw [e2] at h9; exact Ck _ (An h9 hgb)
     have hz9:=hf2.size
     have hz8:=hf.size
     have hnw:=hno.out j wr
     have hownB:=hZ (A3 hown.out ((Fr.refl wr)))
     go_wp2_with fail
     refine hnw.mono ?_
     rintro e w3 ⟨rfl,hf3⟩
     have hown3:=hZ (A3 hown.out hf3)
     have hgg3:=hgg2.fr hf3
     have hownG:=hgg3.own
     rw [hgl.out] at hownG
     have hz7:=hf3.size
     clear hown hown9 hownB
     go_wp2_with (first
     | (at_builtin; refine wpList_append_own_none rfl _ _ 136 (by rfl) wo.heap.size 134 i0 2 Tryz.underlying136 hi _ t _ (by rfl) hown3.out (by rfl) ?_)
     | (at_builtin; refine As _ rfl _ _ 130 (by rfl) _ 136 _ _ 1 24 Tryz.underlying130 ji jz0 jz1 jz2 rfl (by decide) _ j _ (by rfl) (Av hownG _) ⟨w3.heap.size,0,none⟩ 1 1 [.slice (some ⟨gb,0,none⟩) t cp] (by rfl) rfl (AD _ _ _ _ (by simp)) (by simp [Value.oneCell']) (by decide) (by unfold maxLen; omega) (by omega) (by skip; simp; omega) (w3.heap.size+1) (by simp) ?_; intro gB capB wB hownB hgrowB hatB hltB; skip))
     have hpush:=(hgg3.fr ((Fr.refl w3).alloc _)).pushN (hd:=(gb,0,cp)) ((hrow.out.fr hf3).fr ((Fr.refl w3).alloc _)) hne2 hne hgl.out (by unfold MQ CY; rw [Al,hrj.out]) hownB hgrowB (hatB.imp id (fun e=>by rw [e]; simp))
     rw [← hsn.out] at hpush
     have hfrB:Fr w wB:=((((hf.trans hf2).trans hf3).alloc _)).grown hgrowB (fun k e=>(hgg.out.own.lt k e).1)
     go_roundg (ko - 1)
     case measure=>omega
     case rel=>exact ⟨j+1,_,by go_num,by omega,hfrB,hpush,fun h hm=>by rcases A4.1 hm with h1 | h1; exact hnew.out h h1; (simp at h1; subst h1; exact Aw hf.size hgb)⟩
  ·have hd:decide (j < m.length)=false:=Ab hlt
   have hjm:(m.map CY).take j=m.map CY:=Ai (by rw [hlen.out]; omega)
   rw [hjm] at hgg
   replace hjm:=hZ hjm
   go_wp2_with fail
   go_ret
   exact ⟨_,hs,rfl,hgg,hnew,hf⟩
def CI (g:List (List Rat)) (i:Nat):List Rat:=(g[i]?).getD []
def BN (g:List (List Rat)) (i c:Nat):Rat:=((CI g i)[c]?).getD 0
def GJ (r:List Rat):Bool:=r.all fun x=>decide (Tq x)
def Ej (g:List (List Rat)) (c k:Nat):Nat:=k+(g.drop k).findIdx fun r=>decide ((r[c]?).getD 0≠0)
def Dr (f x y:Rat):Bool:=decide (Tq f∧Tq y∧Tq (f * y)∧Tq x)
def Dw (f:Rat):List Rat→List Rat→Option (List Rat)
 | [],_=>some []
 | x :: xs,y :: ys=>if Dr f x y then (Dw f xs ys).map ((x - f * y) :: ·) else none
 | _ :: _,[]=>none
theorem HN (f:Rat):∀ (xs ys zs:List Rat),Dw f xs ys=some zs→zs.length=xs.length∧∀ (k:Nat) (x:Rat),xs[k]?=some x→∃ y,ys[k]?=some y∧Dr f x y=true∧zs[k]?=some (x - f * y)
 | [],ys,zs,h=>by
   injection h with h; subst h
   exact ⟨rfl,fun k x hx=>by simp at hx⟩
 | x :: xs,[],zs,h=>by simp [Dw] at h
 | x :: xs,y :: ys,zs,h=>by
   simp only [Dw] at h
   split at h
   ·rename_i hok
    cases e:Dw f xs ys with
    | none=>rw [e] at h; simp at h
    | some ws=>
      rw [e] at h
      simp only [Ib,Option.some.injEq] at h
      subst h
      obtain ⟨h1,h2⟩:=HN f xs ys ws e
      refine ⟨by simp [h1],fun k z hz=>?_⟩
      cases k with
      | zero=>rw [KZ] at hz; injection hz with hz; subst hz; exact ⟨y,rfl,hok,rfl⟩
      | succ k=>rw [B4] at hz; obtain ⟨y',a,b,c⟩:=h2 k z hz; exact ⟨y',a,b,c⟩
   ·simp at h
def Cx (g:List (List Rat)) (c k:Nat):Nat→Option (List (List Rat))
 | 0=>some g
 | i+1=>(Cx g c k i).bind fun g=>if i=k∨BN g i c=0 then some g else (Dw (BN g i c) (CI g i) (CI g k)).map fun r=>g.set i r
structure RS where
 g:List (List Rat)
 lead:List Nat
 det:Rat
def BH (g:List (List Rat)) (k a:Nat):List (List Rat):=if a=k then g else swp g k a
def C5 (d:Rat) (k a:Nat):Rat:=if a=k then d else -d
def Dj (c:Nat) (s:RS):Option RS :=
 if Ej s.g c s.lead.length=s.g.length then some ⟨s.g,s.lead,0⟩ else
  if Tq s.det∧Tq (BN (BH s.g s.lead.length (Ej s.g c s.lead.length)) s.lead.length c)∧GJ (CI (BH s.g s.lead.length (Ej s.g c s.lead.length)) s.lead.length)=true then
   (Cx ((BH s.g s.lead.length (Ej s.g c s.lead.length)).set s.lead.length ((CI (BH s.g s.lead.length (Ej s.g c s.lead.length)) s.lead.length).map (· / BN (BH s.g s.lead.length (Ej s.g c s.lead.length)) s.lead.length c))) c s.lead.length s.g.length).map
    fun g3=>⟨g3,s.lead ++ [c],C5 s.det s.lead.length (Ej s.g c s.lead.length) * BN (BH s.g s.lead.length (Ej s.g c s.lead.length)) s.lead.length c⟩
  else none
def BQ (g:List (List Rat)):Nat→Option RS
 | 0=>some ⟨g,[],1⟩
 | c+1=>(BQ g c).bind (Dj c)
example:(BQ [[2,1],[4,3]] 2).map (fun s=>(s.g,s.lead,s.det))=some ([[1,0],[0,1]],[0,1],2):=by decide +kernel
def EG (n:Nat) (g:List (List Rat)):Prop:=∀ r,r ∈ g→r.length=n
theorem EG.row {n:Nat} {g:List (List Rat)} (h:EG n g) {i:Nat} (hi:i < g.length):(g[i]).length=n:=h _ (AK hi)
theorem EG.set {n:Nat} {g:List (List Rat)} (h:EG n g) {i:Nat} {r:List Rat} (hr:r.length=n):EG n (g.set i r):=fun x hx=>by
 rcases Bt hx with h1 | h1
 ·exact h x h1
 ·rw [h1]; exact hr
theorem Gm {g:List (List Rat)} {i:Nat} (hi:i < g.length):CI g i=g[i]:=by unfold CI; rw [Aa hi]; rfl
theorem K9 {g:List (List Rat)} {n i c:Nat} (h:EG n g) (hi:i < g.length) (hc:c < n):(g[i])[c]?=some (BN g i c):=by
 unfold BN; rw [Gm hi]
 have:c < (g[i]).length:=by rw [h.row hi]; exact hc
 rw [Aa this]; rfl
theorem KB {n k a:Nat} {g:List (List Rat)} (h:EG n g):EG n (BH g k a):=by
 unfold BH; split
 ·exact h
 ·exact fun r hr=>h r (K3 hr)
theorem Ha (g:List (List Rat)) (k a:Nat):(BH g k a).length=g.length:=by
 unfold BH; split
 ·rfl
 ·exact Em _ _ _
theorem HW {g:List (List Rat)} {c k n:Nat} (hr:EG n g):∀ (t:Nat) (g':List (List Rat)),Cx g c k t=some g'→t≤g.length→EG n g'∧g'.length=g.length
 | 0,g',h,_=>by injection h with h; subst h; exact ⟨hr,rfl⟩
 | t+1,g',h,hl=>by
   rw [Cx] at h
   obtain ⟨g1,h1,h2⟩:=AZ.1 h
   obtain ⟨a,b⟩:=HW hr t g1 h1 (by omega)
   split at h2
   ·injection h2 with h2; subst h2; exact ⟨a,b⟩
   ·obtain ⟨r,h3,h4⟩:=AW.1 h2
    subst h4
    have:=(HN _ _ _ _ h3).1
    exact ⟨a.set (by rw [this,Gm (by omega)]; exact a.row (by omega)),by rw [AN]; exact b⟩
theorem L7 {g:List (List Rat)} {c k:Nat}:∀ (t T:Nat) (g':List (List Rat)),Cx g c k T=some g'→t≤T→∃ g1,Cx g c k t=some g1
 | t,0,g',h,ht=>by
   have e:t=0:=by omega
   subst e
   exact ⟨g',h⟩
 | t,T+1,g',h,ht=>by
   by_cases e:t=T+1
   ·subst e; exact ⟨g',h⟩
   ·rw [Cx] at h
    obtain ⟨g1,h1,-⟩:=AZ.1 h
    exact L7 t T g1 h1 (by omega)
theorem Vh (g:List (List Rat)) (c k:Nat) (h:k≤g.length):k≤Ej g c k∧Ej g c k≤g.length:=by
 unfold Ej
 have:=ZG (p:=fun r:List Rat=>decide ((r[c]?).getD 0≠0)) (xs:=g.drop k)
 rw [B3] at this
 omega
theorem PV {g:List (List Rat)} {c i:Nat} (hi:i < g.length) (h:BN g i c=0):Ej g c (i+1)=Ej g c i:=by
 have e:g.drop i=g[i] :: g.drop (i+1):=(Cb hi)
 unfold Ej
 rw [e,List.findIdx_cons]
 have:decide (((g[i])[c]?).getD 0≠0)=false:=by
  rw [Zd,Decidable.not_not]
  unfold BN at h
  rw [Gm hi] at h
  exact h
 rw [this]
 simp only [cond_false]
 omega
theorem PW {g:List (List Rat)} {c i:Nat} (hi:i < g.length) (h:BN g i c≠0):Ej g c i=i:=by
 have e:g.drop i=g[i] :: g.drop (i+1):=(Cb hi)
 unfold Ej
 rw [e,List.findIdx_cons]
 have:decide (((g[i])[c]?).getD 0≠0)=true:=by
  rw [decide_eq_true_iff]
  unfold BN at h
  rw [Gm hi] at h
  exact h
 rw [this]
 rfl
theorem WQ {g:List (List Rat)} {c:Nat}:Ej g c g.length=g.length:=by
 unfold Ej
 rw [Fy]
 rfl
section
variable {P:Program} {ops:Array Oper} {Q:Exit→Act→World→Prop} {md:Region.Mode} {S:World→Prop} {n:Nat}
def Qr (P:Program) (md:Region.Mode) (ops:Array Oper) (Q:Exit→Act→World→Prop) (S:World→Prop) (n:Nat):Nat→Array Bool→Act→World→Prop
 | 0,listed,a,w=>Region.ready md ops listed=[]∧Q .normal a w
 | fuel+1,listed,a,w=>
   (Region.ready md ops listed=[]→Q .normal a w) ∧
   ∀ i ∈ Region.ready md ops listed,wpOp P ops Q i (fun a' w'=>(i≠n→S w')∧Qr P md ops Q S n fuel (listed.setIfInBounds i true) a' w') a w
def Fg (P:Program) (md:Region.Mode) (ops:Array Oper) (Q:Exit→Act→World→Prop) (S:World→Prop) (n fuel:Nat) (listed:Array Bool) (a:Act) (w:World) (rs:List Nat):Prop :=
 ∀ i ∈ rs,wpOp P ops Q i (fun a' w'=>(i≠n→S w')∧Qr P md ops Q S n fuel (listed.setIfInBounds i true) a' w') a w
theorem Fg.nil {fuel:Nat} {listed:Array Bool} {a:Act} {w:World}:Fg P md ops Q S n fuel listed a w []:=fun _ h=>by cases h
theorem Fg.cons {fuel:Nat} {listed:Array Bool} {a:Act} {w:World} {i:Nat} {o:Oper} {rs:List Nat} (ho:ops[i]?=some o) (hin:i≠n)
 (h:∀ K':Act→World→Prop,Shut (∀ a w,S w→(S w→Qr P md ops Q S n fuel (listed.setIfInBounds i true) a w)→K' a w)→if Region.wanted o (yielded ops a.tmps)=true then Oper.wp P o a w K' Q else K' (a.put o.dst undef) w)
 (hs:Fg P md ops Q S n fuel listed a w rs):Fg P md ops Q S n fuel listed a w (i :: rs):=fun j hj=>by
 rcases A2.1 hj with rfl | hj
 ·exact Zb ho (fun K' hK=>h K' (fun a w hS hW=>hK a w ⟨fun _=>hS,hW hS⟩))
 ·exact hs j hj
theorem Fg.last {fuel:Nat} {listed:Array Bool} {a:Act} {w:World} {o:Oper} (ho:ops[n]?=some o) (hd:Region.ready md ops (listed.setIfInBounds n true)=[])
 (h:∀ K':Act→World→Prop,Shut (∀ a w,Q .normal a w→K' a w)→if Region.wanted o (yielded ops a.tmps)=true then Oper.wp P o a w K' Q else K' (a.put o.dst undef) w):Fg P md ops Q S n fuel listed a w [n]:=fun j hj=>by
 rcases A2.1 hj with rfl | hj
 ·refine Zb ho (fun K' hK=>h K' (fun a w hq=>hK a w ⟨fun h=>absurd rfl h, ?_⟩))
  cases fuel with
  | zero=>exact ⟨hd,hq⟩
  | succ f=>exact ⟨fun _=>hq,by rw [hd]; intro i hi; cases hi⟩
 ·cases hj
end
section
variable {P:Program} {ops:Array Oper} {Q:Exit→Act→World→Prop} {md:Region.Mode} {S:World→Prop} {n:Nat}
def C2 (P:Program) (md:Region.Mode) (ops:Array Oper) (Q:Exit→Act→World→Prop) (S:World→Prop) (n:Nat):Nat→Array Bool→Act→World→Prop
 | 0,listed,a,w=>Region.ready md ops listed=[]∧Q .normal a w
 | fuel+1,listed,a,w=>
   (Region.ready md ops listed=[]→Q .normal a w) ∧
   ∀ i ∈ Region.ready md ops listed,wpOp P ops Q i (fun a' w'=>((listed.setIfInBounds i true).getD n true=false→S w')∧C2 P md ops Q S n fuel (listed.setIfInBounds i true) a' w') a w
theorem Le:∀ (fuel:Nat) (listed:Array Bool) (a:Act) (w:World),C2 P md ops Q S n fuel listed a w→wpAny P md ops Q fuel listed a w
 | 0,_,_,_,h=>h
 | fuel+1,_,_,_,h=>⟨h.1,fun i hi=>wpOp_mono (fun a' w' h'=>Le fuel _ a' w' h'.2) (h.2 i hi)⟩
theorem TQ {listed:Array Bool} {i:Nat} (hw:Region.waitsFor md ops n i=true) (hun:listed.getD i true=false):n ∉ Region.ready md ops listed:=fun hr=>by
 obtain ⟨o',ho',e,he,hb,hon⟩:=Region.waitsFor_spec hw
 obtain ⟨_,ot,hot,hall⟩:=ON.1 hr
 have:o'=ot:=D5 (ho'.symm.trans hot)
 subst this
 have h2:=hall e he hb
 rw [hon,getD_both hun] at h2
 cases h2
theorem NU {i:Nat} {oi:Oper} {v:Value} (hi:ops[i]?=some oi) (hw:Region.waitsFor md ops n i=true) (hin:i≠n) (hsel:∀ (j:Nat) (o:Oper) cs b,ops[j]?=some o→o.op≠.select cs b)
 (hQ:∀ c a w,Q (.panic c) (a.put oi.dst v) w→Q (.panic c) a w) :
 ∀ (fuel:Nat) (listed:Array Bool) (a:Act) (w:World),
   (∀ j oj,ops[j]?=some oj→j≠i→listed.getD j true=false→(∀ e ∈ oj.after,Region.binds md e=true→e.on≠i)→oi.apart ops oj=true) →
   i ∈ Region.ready md ops listed→YieldsIf P ops S oi v a→S w→listed.getD n true=false →
   C2 P md ops Q S n fuel (listed.setIfInBounds i true) (a.put oi.dst v) w→C2 P md ops Q S n (fuel+1) listed a w:=by
 have hisz:i < ops.size:=(DT.1 hi).1
 intro fuel
 induction fuel with
 | zero=>
   intro listed a w _ hr hy hS hnu H
   refine ⟨fun h=>(by rw [h] at hr; cases hr),fun j hj=>?_⟩
   by_cases hji:j=i
   ·subst hji; exact hy.wpOp hi hS ⟨fun _=>hS,H⟩
   ·have:=My hj hji
    rw [H.1] at this
    cases this
 | succ fuel ih=>
   intro listed a w hfree hr hy hS hnu H
   refine ⟨fun h=>(by rw [h] at hr; cases hr),fun j hj=>?_⟩
   by_cases hji:j=i
   ·subst hji; exact hy.wpOp hi hS ⟨fun _=>hS,H⟩
   ·have h1:=H.2 j (My hj hji)
    have hjn:j≠n:=fun e=>TQ hw (ON.1 hr).1 (e ▸ hj)
    obtain ⟨hjun,oj,hoj,hall⟩:=ON.1 hj
    have hnot:∀ e ∈ oj.after,Region.binds md e=true→e.on≠i:=fun e he hb heq=>by
     have h1:=hall e he hb
     have h0:=(ON.1 hr).1
     rw [heq,getD_both h0] at h1
     cases h1
    have h2:=wpOp_putIf hoj (hfree j oj hoj hji hjun hnot) (fun cs b=>hsel i oi cs b hi) (fun cs b=>hsel j oj cs b hoj) hQ hy h1
    have hfree':∀ k ok,ops[k]?=some ok→k≠i→(listed.setIfInBounds j true).getD k true=false →
     (∀ e ∈ ok.after,Region.binds md e=true→e.on≠i)→oi.apart ops ok=true:=fun k ok hk hki hun hno=>by
     refine hfree k ok hk hki ?_ hno
     by_cases hjk:j=k
     ·subst hjk; exact hjun
     ·rw [Gi true hjk] at hun; exact hun
    have hnj:(listed.setIfInBounds j true).getD n true=false:=by rw [Gi true hjn]; exact hnu
    have hnij:((listed.setIfInBounds i true).setIfInBounds j true).getD n true=false:=by rw [Gi true hjn,Gi true hin]; exact hnu
    refine wpOp_mono (fun a' w' h3=>⟨fun _=>h3.2.1 hnij,ih (listed.setIfInBounds j true) a' w' hfree' (My hr (Ne.symm hji)) h3.1 (h3.2.1 hnij) hnj ?_⟩) h2
    rw [KA _ _ hji]
    exact h3.2.2
theorem MI {i:Nat} {oi:Oper} {v:Value} (hi:ops[i]?=some oi) (hin:i≠n) (hsel:∀ (j:Nat) (o:Oper) cs b,ops[j]?=some o→o.op≠.select cs b)
 (hQ:∀ c a w,Q (.panic c) (a.put oi.dst v) w→Q (.panic c) a w) :
 ∀ (fuel:Nat) (listed:Array Bool) (a:Act) (w:World),
   (∀ j oj,ops[j]?=some oj→j≠i→listed.getD j true=false→(∀ e ∈ oj.after,Region.binds md e=true→e.on≠i)→oi.apart ops oj=true) →
   i ∈ Region.ready md ops listed→YieldsIf P ops (fun _=>True) oi v a→(listed.getD n true=false→S w) →
   C2 P md ops Q S n fuel (listed.setIfInBounds i true) (a.put oi.dst v) w→C2 P md ops Q S n (fuel+1) listed a w:=by
 have hisz:i < ops.size:=(DT.1 hi).1
 intro fuel
 induction fuel with
 | zero=>
   intro listed a w _ hr hy hS H
   refine ⟨fun h=>(by rw [h] at hr; cases hr),fun j hj=>?_⟩
   by_cases hji:j=i
   ·subst hji; exact hy.wpOp hi trivial ⟨fun h=>hS (by rw [Gi true hin] at h; exact h),H⟩
   ·have:=My hj hji
    rw [H.1] at this
    cases this
 | succ fuel ih=>
   intro listed a w hfree hr hy hS H
   refine ⟨fun h=>(by rw [h] at hr; cases hr),fun j hj=>?_⟩
   by_cases hji:j=i
   ·subst hji; exact hy.wpOp hi trivial ⟨fun h=>hS (by rw [Gi true hin] at h; exact h),H⟩
   ·have h1:=H.2 j (My hj hji)
    obtain ⟨hjun,oj,hoj,hall⟩:=ON.1 hj
    have hnot:∀ e ∈ oj.after,Region.binds md e=true→e.on≠i:=fun e he hb heq=>by
     have h1:=hall e he hb
     have h0:=(ON.1 hr).1
     rw [heq,getD_both h0] at h1
     cases h1
    have h2:=wpOp_putIf hoj (hfree j oj hoj hji hjun hnot) (fun cs b=>hsel i oi cs b hi) (fun cs b=>hsel j oj cs b hoj) hQ hy h1
    have hfree':∀ k ok,ops[k]?=some ok→k≠i→(listed.setIfInBounds j true).getD k true=false →
     (∀ e ∈ ok.after,Region.binds md e=true→e.on≠i)→oi.apart ops ok=true:=fun k ok hk hki hun hno=>by
     refine hfree k ok hk hki ?_ hno
     by_cases hjk:j=k
     ·subst hjk; exact hjun
     ·rw [Gi true hjk] at hun; exact hun
    have hno:(listed.setIfInBounds j true).getD n true=false→((listed.setIfInBounds i true).setIfInBounds j true).getD n true=false:=fun h=>by
     rw [KA _ _ (Ne.symm hji),Gi true hin]; exact h
    refine wpOp_mono (fun a' w' h3=>⟨fun h=>h3.2.1 (hno h),ih (listed.setIfInBounds j true) a' w' hfree' (My hr (Ne.symm hji)) h3.1 (fun h=>h3.2.1 (hno h)) ?_⟩) h2
    rw [KA _ _ hji]
    exact h3.2.2
theorem OP {i:Nat} {oi:Oper} {v:Value} {fuel:Nat} {listed:Array Bool} {a:Act} {w:World} (hi:ops[i]?=some oi) (hw:Region.waitsFor md ops n i=true) (hin:i≠n)
 (hs:Region.noSelect ops=true) (hf:Region.free md ops listed i=true) (hr:(Region.ready md ops listed).contains i=true) (hnu:listed.getD n true=false)
 (hQ:∀ c a w,Q (.panic c) (a.put oi.dst v) w→Q (.panic c) a w) (hy:YieldsIf P ops S oi v a) (hS:S w)
 (h:C2 P md ops Q S n fuel (listed.setIfInBounds i true) (a.put oi.dst v) w):C2 P md ops Q S n (fuel+1) listed a w :=
 NU hi hw hin (ZY hs) hQ fuel listed a w (Region.free_spec hi hf) (by simpa using hr) hy hS hnu h
theorem BT {α:Type} (l:List α) (i:Nat) (a:α):l.toArray.setIfInBounds i a=(l.set i a).toArray:=List.setIfInBounds_toArray ..
theorem Cp {α:Type} (x a:α) (l:List α):(x :: l).set 0 a=a :: l:=rfl
theorem Co {α:Type} (x a:α) (l:List α) (n:Nat):(x :: l).set (n+1) a=x :: l.set n a:=rfl
def uB (md:Region.Mode) (ops:Array Oper) (i n:Nat) (listed:Array Bool):Bool:=Region.waitsFor md ops n i && !(i == n) && Region.noSelect ops && Region.free md ops listed i && (Region.ready md ops listed).contains i && !listed.getD n true
theorem uT (i:Nat) {oi:Oper} {v:Value} {fuel:Nat} {listed:Array Bool} {a:Act} {w:World} (hi:ops[i]?=some oi) (hb:uB md ops i n listed=true) (hy:YieldsIf P ops S oi v a) (hS:S w)
 (h:C2 P md ops Q S n fuel (listed.setIfInBounds i true) (a.put oi.dst v) w) (hQ:∀ c a w,Q (.panic c) (a.put oi.dst v) w→Q (.panic c) a w:=by exact fun _ _ _ h=>h):C2 P md ops Q S n (fuel+1) listed a w:=by
 unfold uB at hb
 simp only [AP,TN,Is] at hb
 obtain ⟨⟨⟨⟨⟨h1,h2⟩,h3⟩,h4⟩,h5⟩,h6⟩:=hb
 exact OP hi h1 h2 h3 h4 h5 h6 hQ hy hS h
theorem uK (i:Nat) {oi:Oper} {v:Value} {fuel:Nat} {listed:Array Bool} {a:Act} {w:World} (h:C2 P md ops Q S n fuel (listed.setIfInBounds i true) (a.put oi.dst v) w) (hi:ops[i]?=some oi:=by rfl) (hb:uB md ops i n listed=true:=by kernel_rfl) (hw:Region.wanted oi (yielded ops a.tmps)=true:=by rfl)
 (hy:∀ w,S w→(execOp a.eval oi).run P w=.ok (.value v) w:=by (intro w hSw; (try dsimp only at hSw); go_simp; try (with_reducible rfl))) (hS:S w:=by assumption) (hQ:∀ c a w,Q (.panic c) (a.put oi.dst v) w→Q (.panic c) a w:=by exact fun _ _ _ h=>h):C2 P md ops Q S n (fuel+1) listed a w :=
 uT i hi hb (.inl ⟨hw,hy⟩) hS h hQ
theorem uM (i j:Nat) {oi:Oper} {v:Value} {fuel:Nat} {listed:Array Bool} {a:Act} {w:World} (h:C2 P md ops Q S n fuel (listed.setIfInBounds i true) { a with tmps:=a.tmps.setIfInBounds j v } w) (hi:ops[i]?=some oi:=by rfl) (hd:oi.dst=some j:=by rfl) (hb:uB md ops i n listed=true:=by kernel_rfl) (hw:Region.wanted oi (yielded ops a.tmps)=true:=by rfl)
 (hy:∀ w,S w→(execOp a.eval oi).run P w=.ok (.value v) w:=by (intro w hSw; (try dsimp only at hSw); go_simp; try (with_reducible rfl))) (hS:S w:=by assumption) (hQ:∀ c a w,Q (.panic c) (a.put oi.dst v) w→Q (.panic c) a w:=by exact fun _ _ _ h=>h):C2 P md ops Q S n (fuel+1) listed a w :=
 uT i hi hb (.inl ⟨hw,hy⟩) hS (by rw [hd]; exact h) hQ
theorem NT {i:Nat} {oi:Oper} {v:Value} {fuel:Nat} {listed:Array Bool} {a:Act} {w:World} (hi:ops[i]?=some oi) (hin:i≠n)
 (hs:Region.noSelect ops=true) (hf:Region.free md ops listed i=true) (hr:(Region.ready md ops listed).contains i=true)
 (hQ:∀ c a w,Q (.panic c) (a.put oi.dst v) w→Q (.panic c) a w) (hy:YieldsIf P ops (fun _=>True) oi v a) (hS:S w)
 (h:C2 P md ops Q S n fuel (listed.setIfInBounds i true) (a.put oi.dst v) w):C2 P md ops Q S n (fuel+1) listed a w :=
 MI hi hin (ZY hs) hQ fuel listed a w (Region.free_spec hi hf) (by simpa using hr) hy (fun _=>hS) h
def Bi (P:Program) (md:Region.Mode) (ops:Array Oper) (Q:Exit→Act→World→Prop) (S:World→Prop) (n fuel:Nat) (listed:Array Bool) (a:Act) (w:World) (rs:List Nat):Prop :=
 ∀ i ∈ rs,wpOp P ops Q i (fun a' w'=>((listed.setIfInBounds i true).getD n true=false→S w')∧C2 P md ops Q S n fuel (listed.setIfInBounds i true) a' w') a w
theorem Bi.nil {fuel:Nat} {listed:Array Bool} {a:Act} {w:World}:Bi P md ops Q S n fuel listed a w []:=fun _ h=>by cases h
theorem Bi.cons {fuel:Nat} {listed:Array Bool} {a:Act} {w:World} {i:Nat} {o:Oper} {rs:List Nat} (ho:ops[i]?=some o)
 (h:∀ K':Act→World→Prop,Shut (∀ a w,S w→(S w→C2 P md ops Q S n fuel (listed.setIfInBounds i true) a w)→K' a w)→if Region.wanted o (yielded ops a.tmps)=true then Oper.wp P o a w K' Q else K' (a.put o.dst undef) w)
 (hs:Bi P md ops Q S n fuel listed a w rs):Bi P md ops Q S n fuel listed a w (i :: rs):=fun j hj=>by
 rcases A2.1 hj with rfl | hj
 ·exact Zb ho (fun K' hK=>h K' (fun a w hS hW=>hK a w ⟨fun _=>hS,hW hS⟩))
 ·exact hs j hj
theorem Bi.last {fuel:Nat} {listed:Array Bool} {a:Act} {w:World} {o:Oper} (ho:ops[n]?=some o) (hln:(listed.setIfInBounds n true).getD n true=true) (hd:Region.ready md ops (listed.setIfInBounds n true)=[])
 (h:∀ K':Act→World→Prop,Shut (∀ a w,Q .normal a w→K' a w)→if Region.wanted o (yielded ops a.tmps)=true then Oper.wp P o a w K' Q else K' (a.put o.dst undef) w):Bi P md ops Q S n fuel listed a w [n]:=fun j hj=>by
 rcases A2.1 hj with rfl | hj
 ·refine Zb ho (fun K' hK=>h K' (fun a w hq=>hK a w ⟨fun h=>(by rw [hln] at h; cases h), ?_⟩))
  cases fuel with
  | zero=>exact ⟨hd,hq⟩
  | succ f=>exact ⟨fun _=>hq,by rw [hd]; intro i hi; cases hi⟩
 ·cases hj
theorem Cf {rs:List Nat} {fuel:Nat} {listed:Array Bool} {a:Act} {w:World} (hr:Region.ready md ops listed=rs) (hne:rs≠[])
 (h:Bi P md ops Q S n fuel listed a w rs):C2 P md ops Q S n (fuel+1) listed a w :=
 ⟨fun h0=>absurd (hr ▸ h0) hne,hr ▸ h⟩
theorem uC (i:Nat) {o:Oper} {fuel:Nat} {listed:Array Bool} {a:Act} {w:World} (h:∀ K':Act→World→Prop,Shut (∀ a w,S w→(S w→C2 P md ops Q S n fuel (listed.setIfInBounds i true) a w)→K' a w)→if Region.wanted o (yielded ops a.tmps)=true then Oper.wp P o a w K' Q else K' (a.put o.dst undef) w)
 (hr:Region.ready md ops listed=[i]:=by kernel_rfl) (ho:ops[i]?=some o:=by rfl):C2 P md ops Q S n (fuel+1) listed a w :=
 Cf hr (by simp) (Bi.cons ho h Bi.nil)
theorem uL (n:Nat) {o:Oper} {fuel:Nat} {listed:Array Bool} {a:Act} {w:World} (h:∀ K':Act→World→Prop,Shut (∀ a w,Q .normal a w→K' a w)→if Region.wanted o (yielded ops a.tmps)=true then Oper.wp P o a w K' Q else K' (a.put o.dst undef) w)
 (hr:Region.ready md ops listed=[n]:=by kernel_rfl) (ho:ops[n]?=some o:=by rfl) (hln:(listed.setIfInBounds n true).getD n true=true:=by kernel_rfl) (hd:Region.ready md ops (listed.setIfInBounds n true)=[]:=by kernel_rfl):C2 P md ops Q S n (fuel+1) listed a w :=
 Cf hr (by simp) (Bi.last ho hln hd h)
theorem hK (i:Nat) {oi:Oper} {v:Value} {fuel:Nat} {listed:Array Bool} {a:Act} {w:World} (h:wpAnyH P md ops Q S fuel (listed.setIfInBounds i true) (a.put oi.dst v) w) (hi:ops[i]?=some oi:=by rfl) (hs:Region.noSelect ops=true:=by kernel_rfl) (hf:Region.free md ops listed i=true:=by kernel_rfl) (hr:(Region.ready md ops listed).contains i=true:=by kernel_rfl)
 (hw:Region.wanted oi (yielded ops a.tmps)=true:=by rfl) (hy:∀ w,S w→(execOp a.eval oi).run P w=.ok (.value v) w:=by (intro w hSw; (try dsimp only at hSw); go_simp; try (with_reducible rfl))) (hS:S w:=by assumption) (hQ:∀ c a w,Q (.panic c) (a.put oi.dst v) w→Q (.panic c) a w:=by exact fun _ _ _ h=>h):wpAnyH P md ops Q S (fuel+1) listed a w :=
 wpAnyH_take hi hs hf hr hQ (.inl ⟨hw,hy⟩) hS h
theorem hN (i:Nat) {oi:Oper} {fuel:Nat} {listed:Array Bool} {a:Act} {w:World} (h:wpAnyH P md ops Q S fuel (listed.setIfInBounds i true) (a.put oi.dst undef) w) (hi:ops[i]?=some oi:=by rfl) (hs:Region.noSelect ops=true:=by kernel_rfl) (hf:Region.free md ops listed i=true:=by kernel_rfl) (hr:(Region.ready md ops listed).contains i=true:=by kernel_rfl)
 (hw:Region.wanted oi (yielded ops a.tmps)=false:=by rfl) (hS:S w:=by assumption) (hQ:∀ c a w,Q (.panic c) (a.put oi.dst undef) w→Q (.panic c) a w:=by exact fun _ _ _ h=>h):wpAnyH P md ops Q S (fuel+1) listed a w :=
 wpAnyH_take hi hs hf hr hQ (.inr ⟨hw,rfl⟩) hS h
theorem hC (i:Nat) {o:Oper} {fuel:Nat} {listed:Array Bool} {a:Act} {w:World} (h:∀ K':Act→World→Prop,Shut (∀ a w,S w→(S w→wpAnyH P md ops Q S fuel (listed.setIfInBounds i true) a w)→K' a w)→if Region.wanted o (yielded ops a.tmps)=true then Oper.wp P o a w K' Q else K' (a.put o.dst undef) w)
 (hr:Region.ready md ops listed=[i]:=by kernel_rfl) (ho:ops[i]?=some o:=by rfl):wpAnyH P md ops Q S (fuel+1) listed a w :=
 TE hr (by simp) (Fn ho h Qq)
theorem BL {id:Nat} {a:Act} {w:World} (n:Nat) (hm:P.follows .mixedOrders=true) (hS:S w.drew)
 (h:S w.drew→C2 P .any ops Q S n ops.size (Array.replicate ops.size false) a w.drew):(Code.region id ops true).wp P Q a w :=
 wp_region_any hm (Le _ _ _ _ (h hS))
end
end Go.Proofs.YtkjemicelmabdaaGreatDoor
