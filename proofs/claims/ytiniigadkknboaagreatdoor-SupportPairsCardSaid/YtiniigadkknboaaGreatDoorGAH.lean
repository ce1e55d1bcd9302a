/- Contracts and laws: GAH. -/
import Derived.Test.YtiniigadkknboaaGreatDoorGAG
import Derived.Test.YtiniigadkknboaaGreatDoorGAA
import Derived.Lib.AppendIntMem

set_option maxRecDepth 100000
set_option maxHeartbeats 4000000
namespace Go.Proofs.YtiniigadkknboaaGreatDoor
open Go.RowKit Go.Lib
attribute [local go_sem ↓] Go.wp_at_zero Go.wp_at_succ
theorem O9 (x y:Nat) (hx:x < 4611686018427387904) (hy:y < 4611686018427387904) (w:World) :
 Calls Tryz.prog 265 #[.int .i64 x,.int .i64 y] w fun e w'=>e=.returned (.int .i64 (Nat.gcd x y:Nat))∧Fr w w':=by
 obtain ⟨g,hg⟩:∃ g,g=Nat.gcd x y:=⟨_,rfl⟩
 rw [← hg]
 replace hg:=hZ hg
 go_enter Tryz.func265,Tryz.ntmps265
 go_wp2_with fail
 go_loopg [0,1] y (fun gk s0 s1 wr=>∃ a b:Nat,s0=.int .i64 a∧s1=.int .i64 b∧Hid (Nat.gcd a b=g)∧b≤gk∧a < 4611686018427387904∧b < 4611686018427387904∧Qt w wr)
 case atStart=>exact ⟨x,y,rfl,rfl,hg.out.symm,Ah _,hx,hy,Qt.refl _⟩
 case round=>
  obtain ⟨a,b,rfl,rfl,hgc,hbk,ha1,hb1,hq⟩:=hrel
  by_cases hb0:b=0
  ·subst hb0
   have hga:a=g:=by have:=hgc.out; rw [QW] at this; exact this
   have hfin:=hZ hga
   clear hga
   go_wp2_with fail
   go_ret
   exact ⟨Cv (by rw [hfin.out]),hq.fr⟩
  ·have d1:((b:Int) != 0)=true:=Bs.2 (by omega)
   have d2:((b:Int) == 0)=false:=A2 (by omega)
   have hst:=hZ (show Nat.gcd b (a % b)=g by rw [← hgc.out,DF a b,ZN b a,DF])
   have hlt:=CE a (show 0 < b by omega)
   have z1:(0:Int)≤(a:Int):=Aj _
   have z2:(1:Int)≤(b:Int):=by omega
   replace hb0:=hZ hb0
   go_wp2_with fail
   go_region
   go_wp2_with fail
   go_roundg (gk - 1)
   case measure=>omega
   case rel=>exact ⟨b,a % b,rfl,by go_num,hst.out,by omega,by omega,by omega,hq.drew⟩
theorem X5 (a b:Int) (ha:Sm a) (hb:Sm b) (w:World) (hG:G w) :
 Calls Tryz.prog 259 #[.string (tx a),.string (tx b)] w fun e w'=>e=.returned (.string (tx (Nat.gcd a.natAbs b.natAbs:Nat)))∧Fr w w':=by
 have sa:=ha.size
 have sb:=hb.size
 unfold Sm at ha hb
 have h1:=hZ (fun W=>H3 a W (by omega))
 have h2:=hZ (fun W=>H3 b W (by omega))
 have hsa:(tx (a.natAbs:Int)).size≤18:=Cl 17 _ (by omega) (by omega)
 have hsb:(tx (b.natAbs:Int)).size≤18:=Cl 17 _ (by omega) (by omega)
 have h3:=hZ (fun W=>BX (a.natAbs:Int) 18 (by omega) (by omega) W (by omega))
 have h4:=hZ (fun W=>BX (b.natAbs:Int) 18 (by omega) (by omega) W (by omega))
 have h5:=hZ (fun W=>O9 a.natAbs b.natAbs (by omega) (by omega) W)
 have hgl:Nat.gcd a.natAbs b.natAbs≤a.natAbs∨Nat.gcd a.natAbs b.natAbs≤b.natAbs:=by
  rcases QX a.natAbs with h | h
  ·exact .inr (by rw [h,Nat.gcd_zero_left]; exact Ah _)
  ·exact .inl (Nat.gcd_le_left _ h)
 have h6:=hZ (fun W (hW:Fr w W)=>Cs (Nat.gcd a.natAbs b.natAbs:Nat) (by omega) (by omega) W (hG.fr hW))
 generalize Nat.gcd a.natAbs b.natAbs=g at *
 clear ha hb sa sb hsa hsb hgl
 go_enter Tryz.func259,Tryz.ntmps259
 go_wp2_with fail
 refine (h1.out _).mono ?_
 rintro e w1 ⟨rfl,hf1⟩
 go_wp2_with fail
 refine (h2.out _).mono ?_
 rintro e w2 ⟨rfl,hf2⟩
 go_wp2_with fail
 refine (h3.out _).mono ?_
 rintro e w3 ⟨rfl,hf3⟩
 go_wp2_with fail
 refine (h4.out _).mono ?_
 rintro e w4 ⟨rfl,hf4⟩
 go_wp2_with fail
 refine (h5.out _).mono ?_
 rintro e w5 ⟨rfl,hf5⟩
 have hfr:=(((hf1.trans hf2).trans hf3).trans hf4).trans hf5
 go_wp2_with fail
 refine (h6.out _ hfr).mono ?_
 rintro e w6 ⟨rfl,hf6⟩
 go_wp2_with fail
 go_ret
 exact ⟨rfl,hfr.trans hf6⟩
theorem Wi (n d:Int) (hd:d≠0):(Rat.divInt n d).num=(d.sign * n).fdiv (Nat.gcd (d.sign * n).natAbs d.natAbs:Nat):=by
 have e:(Nat.gcd (d.sign * n).natAbs d.natAbs)=d.gcd n:=by
  rw [Be,Yf hd,E8,DF]; rfl
 rw [e,Rat.num_divInt]
 exact (Yg _ (Aj _)).symm
theorem Wj (n d:Int) (hd:d≠0):((Rat.divInt n d).den:Int)=(d.natAbs:Int).fdiv (Nat.gcd (d.sign * n).natAbs d.natAbs:Nat):=by
 have e:(Nat.gcd (d.sign * n).natAbs d.natAbs)=d.gcd n:=by
  rw [Be,Yf hd,E8,DF]; rfl
 rw [e,Rat.den_divInt,Ag hd,Yg _ (Aj _)]
 exact Ea _ _
end Go.Proofs.YtiniigadkknboaaGreatDoor
namespace Go.Proofs.YtiniigadkknboaaGreatDoor
open Go.RowKit Go.Lib Go.Sort
theorem Hz:∀ (l:List UInt8) (acc:Nat),(∀ c ∈ l,48≤c.toNat∧c.toNat≤57)→Bh acc l < 1000000000000000000→parseUintM (2 ^ 64 - 1) acc l=.ok (Bh acc l)
 | [],acc,_,_=>rfl
 | c :: r,acc,hd,hv=>by
   have hc:=hd c BC
   have hr:∀ x ∈ r,48≤x.toNat∧x.toNat≤57:=fun x hx=>hd x (BI _ hx)
   have e:Bh acc (c :: r)=Bh (acc * 10+(c.toNat - 48)) r:=rfl
   rw [e] at hv ⊢
   have hle:=(Cr r (acc * 10+(c.toNat - 48)) hr).1
   have hp:=E7 (n:=r.length) (show 0 < 10 by decide)
   have h2:acc * 10+(c.toNat - 48)≤Bh (acc * 10+(c.toNat - 48)) r:=As (FW _ hp) hle
   rw [parseUintM,Ai hc,Ag (by omega),Ag (by omega)]
   exact Hz r _ hr hv
theorem Lf (u:Nat) (h:u < 1000000000000000000):parseUintB 64 (tx (u:Int)).data.toList=.ok u:=by
 rw [Fy,BV (by omega),show (u:Int).toNat=u by omega]
 unfold parseUintB
 rw [Ag (EY u),Hz _ _ (B6 u) (by rw [B5]; exact h),B5]
theorem VE (u:Nat) (h:u < 1000000000000000000) (w:World) :
 Calls Tryz.prog 203 #[.string (tx (u:Int))] w fun e w'=>e=.returned (.tuple #[.int .u64 u,.bool true])∧Fr w w':=by
 have hs:=Cl 18 (u:Int) (by omega) (by omega)
 have hp:∀ W:World,Calls Tryz.prog 230 #[.string (tx (u:Int)),.int .i64 10,.int .i64 64] W fun e w'=>e=.returned (.tuple #[.int .u64 u,.nilIface])∧Fr W w':=fun W=>by
  go_enter Tryz.func230,Tryz.ntmps230
  go_wp2_with fail
  refine (Tryz.internal_strconv_ParseUint_10_at64 (tx (u:Int)) (by omega) _).mono ?_
  rw [Lf u h]
  rintro e w1 ⟨rfl,hw⟩
  have hf:=Lu (hw.imp id fun h=>⟨_,h⟩)
  clear hw
  unfold uintTupleM
  go_wp2_with fail
  go_ret2
  exact ⟨rfl,hf⟩
 replace hp:=hZ hp
 go_enter Tryz.func203,Tryz.ntmps203
 go_wp2_with fail
 refine (hp.out _).mono ?_
 rintro e w1 ⟨rfl,hf⟩
 go_wp2_with fail
 go_ret2
 exact ⟨rfl,hf⟩
theorem Xp (u v:Nat) (hu:(tx (u:Int)).size≤18) (hv:(tx (v:Int)).size≤18) (h1:u < 1000000000000000000) (h2:v < 1000000000000000000) (w:World) :
 Calls Tryz.prog 171 #[.string (tx (u:Int)),.string (tx (v:Int))] w fun e w'=>e=.returned (.tuple #[.int .u64 u,.int .u64 v,.bool true])∧Fr w w':=by
 have c1:=hZ (fun W=>VE u h1 W)
 have c2:=hZ (fun W=>VE v h2 W)
 have d1:decide ((18:Int) < ((tx (u:Int)).size:Int))=false:=Aa (by omega)
 have d2:decide ((18:Int) < ((tx (v:Int)).size:Int))=false:=Aa (by omega)
 go_enter Tryz.func171,Tryz.ntmps171
 go_wp2_with fail
 refine (c1.out _).mono ?_
 rintro e w1 ⟨rfl,hf1⟩
 go_wp2_with fail
 refine (c2.out _).mono ?_
 rintro e w2 ⟨rfl,hf2⟩
 go_wp2_with fail
 go_ret3
 exact ⟨rfl,hf1.trans hf2⟩
theorem WN (u:Nat) (hu64:u < 18446744073709551616) (w:World) (hG:G w) :
 Calls Tryz.prog 231 #[.int .u64 u,.int .i64 10] w fun e w'=>e=.returned (.string (tx (u:Int)))∧Fr w w':=by
 have hte:tx (u:Int)=⟨(decDigits u).toArray⟩:=by show (⟨(itoa (u:Int)).toArray⟩:ByteArray)=_; rw [BV (by omega),show (u:Int).toNat=u by omega]
 by_cases h100:u < 100
 ·have d1:decide ((u:Int) < 100)=true:=Ab (by omega)
  replace hte:=hZ hte
  go_enter Tryz.func231,Tryz.ntmps231
  go_wp2_with fail
  refine (Tryz.internal_strconv_small u h100 _).mono ?_
  rintro e w1 ⟨rfl,rfl⟩
  go_wp2_with fail
  go_ret
  exact ⟨by rw [hte.out]; rfl,Fr.refl _⟩
 ·have d1:decide ((u:Int) < 100)=false:=Aa (by omega)
  have hu1:1≤u:=by omega
  have hnd20:nDigits u≤20:=by have:=numDigits_eq u hu1 hu64; split at this <;> omega
  have hb3:nDigits u≤24:=by omega
  have hal:Tryz.prog.arrayLen 279=24:=by kernel_rfl
  have hsl:∀ W,(Instr.sliceAt 279 (.pointer (some ⟨w.heap.size,0,none⟩)) none (some (.int .i64 (nDigits u:Int))) none).run Tryz.prog W=.ok (.slice (some ⟨w.heap.size,0,none⟩) (nDigits u) 24) W:=fun W=>by
   rw [run_sliceAt_array_h W 279 ⟨w.heap.size,0,none⟩ (by simp [Program.arrayLen,Program.elem,Tryz.underlying279]) .i64 (nDigits u:Int) (by omega) (by rw [hal]; omega)]
   go_simp
  have hH0:=holds_zero0 w 279 (nDigits u) (by omega)
  have hfmt:=Tryz.internal_strconv_formatBase10 w.heap.size 0 24 u (Array.replicate (nDigits u) 0) (w.alloc (.cells zeros24 279)) hH0 (by rw [Hm]; exact lt_pow_nDigits u) hu64 (by rw [Hm]; omega)
  rw [Hm] at hfmt
  have HH0:=hZ hH0
  have hnum:=hZ (fun W (hW:G W)=>Tryz.internal_strconv_numDigits u hu1 hu64 W hW)
  replace hte:=hZ hte
  clear hH0 hal
  have hGa:Hid (G (w.alloc (.cells zeros24 279))):=tabIs_alloc hG _
  go_enter Tryz.func231,Tryz.ntmps231
  go_wp2_with (go_at_call 217; refine (hnum.out _ hGa.out).mono ?_; rintro e w' ⟨rfl,rfl⟩)
  go_at_call 218
  refine hfmt.mono ?_
  rintro e w' ⟨rfl,k,v',dk,rfl,hF⟩
  have hcv:(convert 177 9 (.slice (some ⟨w.heap.size,0,none⟩) (nDigits u) 24)).run Tryz.prog ((putRow (fun (b:UInt8)=>Value.int .u8 (b.toNat:Int)) (w.alloc (.cells zeros24 279)) w.heap.size 0 dk).drewN k)=.ok (.string ⟨(decDigits u).toArray⟩) ((putRow (fun (b:UInt8)=>Value.int .u8 (b.toNat:Int)) (w.alloc (.cells zeros24 279)) w.heap.size 0 dk).drewN k):=by
   have h:=Zp (P:=Tryz.prog) ((putRow (fun (b:UInt8)=>Value.int .u8 (b.toNat:Int)) (w.alloc (.cells zeros24 279)) w.heap.size 0 dk).drewN k) 177 9 5 ⟨w.heap.size,0,none⟩ 24 (decDigits u) Tryz.underlying177 Tryz.underlying5 Tryz.underlying9 (fun j hj=>by
    rw [row_is_numeral hF j hj,add_plain,World.cell?_drewN]
    exact cell?_putRow (fun (b:UInt8)=>Value.int .u8 (b.toNat:Int)) _ w.heap.size 0 _ dk HH0.out (by rw [hF.size,Hm]) j (by rw [hF.size]; rw [decDigits_length] at hj; exact hj))
   rw [decDigits_length] at h
   exact h
  obtain ⟨os,-,eo⟩:=putRow_grow_new (fun (b:UInt8)=>Value.int .u8 (b.toNat:Int)) w #[.cells zeros24 279] w.heap.size 0 dk (Ah _)
  have hfr:Fr w ((putRow (fun (b:UInt8)=>Value.int .u8 (b.toNat:Int)) (w.alloc (.cells zeros24 279)) w.heap.size 0 dk).drewN k):=by
   rw [alloc_eq_grow,eo]
   exact RA w k os
  replace hfr:=hZ hfr
  clear eo
  go_wp2
  go_ret
  exact ⟨by rw [hte.out]; rfl,hfr.out⟩
theorem Yp (u:Nat) (hu64:u < 18446744073709551616) (w:World) (hG:G w) :
 Calls Tryz.prog 172 #[.int .u64 u] w fun e w'=>e=.returned (.string (tx (u:Int)))∧Fr w w':=by
 have h1:∀ W:World,G W→Calls Tryz.prog 204 #[.int .u64 u,.int .i64 10] W fun e w'=>e=.returned (.string (tx (u:Int)))∧Fr W w':=fun W hW=>by
  go_enter Tryz.func204,Tryz.ntmps204
  go_wp2_with fail
  refine (WN u hu64 _ hW).mono ?_
  rintro e w1 ⟨rfl,hf⟩
  go_wp2_with fail
  go_ret
  exact ⟨rfl,hf⟩
 replace h1:=hZ h1
 go_enter Tryz.func172,Tryz.ntmps172
 go_wp2_with fail
 refine (h1.out _ hG).mono ?_
 rintro e w1 ⟨rfl,hf⟩
 go_wp2_with fail
 go_ret
 exact ⟨rfl,hf⟩
theorem Zn (u v:Nat) (hs:(tx (u:Int)).size+(tx (v:Int)).size≤18) (h1:u < 1000000000000000000) (h2:v < 1000000000000000000) (h3:u * v < 18446744073709551616) (w:World) (hG:G w) :
 Calls Tryz.prog 149 #[.string (tx (u:Int)),.string (tx (v:Int))] w fun e w'=>e=.returned (.string (tx ((u * v:Nat):Int)))∧Fr w w':=by
 have c1:=hZ (fun W=>Xp u v (by omega) (by omega) h1 h2 W)
 have c2:=hZ (fun W (hW:G W)=>Yp (u * v) h3 W hW)
 have d1:decide (((tx (u:Int)).size:Int)+((tx (v:Int)).size:Int)≤18)=true:=Ab (by omega)
 have e3:((u:Int) * (v:Int))=((u * v:Nat):Int):=by rw [AM]
 have e4:=hZ e3
 have h4:(u:Int) * (v:Int) < 18446744073709551616:=by omega
 have h5:(0:Int)≤(u:Int) * (v:Int):=by omega
 generalize tx (u:Int)=s at *
 generalize tx (v:Int)=t at *
 go_enter Tryz.func149,Tryz.ntmps149
 go_wp2_with fail
 refine (c1.out _).mono ?_
 rintro e w1 ⟨rfl,hf1⟩
 have c3:=c2.out w1 (hG.fr hf1)
 rw [← e3] at c3
 clear e3 h3
 go_wp2_with fail
 refine c3.mono ?_
 rintro e w2 ⟨rfl,hf2⟩
 go_wp2_with fail
 go_ret
 exact ⟨by rw [← e4.out]; rfl,hf1.trans hf2⟩
end Go.Proofs.YtiniigadkknboaaGreatDoor
namespace Go.Proofs.YtiniigadkknboaaGreatDoor
open Go.RowKit Go.Lib
attribute [local go_sem ↓] Go.wp_at_zero Go.wp_at_succ
theorem NW (x:Rat):0 < x.den:=QV x.den_nz
theorem Ub (x:Rat):x.num=0 ↔ x=0:=Rat.num_eq_zero
theorem SU (x:Rat) (w:World) :
 Calls Tryz.prog 246 #[qv x] w fun e w'=>e=.returned (.int .i64 x.num.sign)∧Fr w w':=by
 have hfA:Fr w (w.alloc (.cells #[sv x.num,sv (x.den:Int)] 221)):=(Fr.refl w).alloc _
 unfold qv
 generalize x.num=n at *
 generalize (x.den:Int)=d at *
 replace hfA:=hZ hfA
 go_enter Tryz.func246,Tryz.ntmps246
 go_wp2_with fail
 refine (C7 _ _).mono ?_
 rintro e w1 ⟨rfl,rfl⟩
 go_wp2_with fail
 go_ret
 exact ⟨rfl,hfA.out⟩
theorem VX (n:Int):((tx n).toList == [49])=decide (n=1):=by rw [show [49]=itoa 1 from Xd.symm]; exact Nn _ _
def M2 (a b:Int):Prop:=(a.natAbs < 1000000000000∧b.natAbs < 10000)∨(a.natAbs < 10000∧b.natAbs < 1000000000000)∨(a.natAbs < 100000000∧b.natAbs < 100000000)
instance (a b:Int):Decidable (M2 a b):=inferInstanceAs (Decidable (_∨_∨_))
theorem Hv {n:Int} (h:(tx n).size≤9):n.natAbs < 1000000000:=by
 have h:(tx (n.natAbs:Int)).size≤9:=by
  rcases Int.lt_or_le n 0 with h9 | h9
  ·have:=F3 n h9
   rw [show (n.natAbs:Int)=-n by omega]; omega
  ·rw [show (n.natAbs:Int)=n by omega]; exact h
 rw [Do,BV (Aj _),AR] at h
 have h1:=(Cr (decDigits n.natAbs) 0 (B6 _)).2
 rw [B5,AN,E8] at h1
 have h2:10 ^ (decDigits n.natAbs).length≤10 ^ 9:=BP (by decide) h
 exact Aq h1 h2
theorem Wg (x y:Rat):Rat.divInt (x.num * y.num) ((x.den:Int) * (y.den:Int))=x * y:=by
 rw [← Zy,QU,QU]
def ZF (x y:Rat):Prop:=M2 x.num y.num∧M2 x.den y.den
instance (x y:Rat):Decidable (ZF x y):=inferInstanceAs (Decidable (_∧_))
def ZG (x y:Rat):Prop:=M2 x.num y.den∧M2 y.num x.den∧M2 x.den y.den
instance (x y:Rat):Decidable (ZG x y):=inferInstanceAs (Decidable (_∧_))
theorem Wv (x y:Rat):Rat.divInt (x.num * y.den) (x.den * y.num)=x / y:=by
 rw [Rat.div_def,Rat.inv_def,← Zy,QU]
end Go.Proofs.YtiniigadkknboaaGreatDoor
