/- Contracts and laws: VD. -/
import Derived.Test.YtcglmebcfeoedaaGreatDoorVA
import Derived.Lib.AppendIntMem
import Derived.Test.YtcglmebcfeoedaaGreatDoorVC
import Derived.Deep.RegionHeld3
import Derived.Deep.Cut
import Derived.Test.YtcglmebcfeoedaaGreatDoorVB
import Derived.OrdersHeld
import Derived.StillTail

set_option maxRecDepth 100000
set_option maxHeartbeats 4000000
namespace Go.Proofs.YtcglmebcfeoedaaGreatDoor
open Go.RowKit Go.Lib Go.Sort
theorem Hy:∀ (l:List UInt8) (acc:Nat),(∀ c ∈ l,48≤c.toNat∧c.toNat≤57)→AU acc l < 1000000000000000000→parseUintM (2 ^ 64 - 1) acc l=.ok (AU acc l)
 | [],acc,_,_=>rfl
 | c :: r,acc,hd,hv=>by
   have hc:=hd c Dn
   have hr:∀ x ∈ r,48≤x.toNat∧x.toNat≤57:=fun x hx=>hd x (EL _ hx)
   have e:AU acc (c :: r)=AU (acc * 10+(c.toNat - 48)) r:=rfl
   rw [e] at hv ⊢
   have hle:=(Cq r (acc * 10+(c.toNat - 48)) hr).1
   have hp:=D8 (n:=r.length) (show 0 < 10 by decide)
   have h2:acc * 10+(c.toNat - 48)≤AU (acc * 10+(c.toNat - 48)) r:=AM (FT _ hp) hle
   rw [parseUintM,Al hc,Ai (by omega),Ai (by omega)]
   exact Hy r _ hr hv
theorem KW (u:Nat) (h:u < 1000000000000000000):parseUintB 64 (tx (u:Int)).data.toList=.ok u:=by
 rw [Ff,BI (by omega),show (u:Int).toNat=u by omega]
 unfold parseUintB
 rw [Ai (F9 u),Hy _ _ (B4 u) (by rw [BP]; exact h),BP]
theorem Uf (u:Nat) (h:u < 1000000000000000000) (w:World) :
 Calls Tryz.prog 245 #[.string (tx (u:Int))] w fun e w'=>e=.returned (.tuple #[.int .u64 u,.bool true])∧Fr w w':=by
 have hs:=Bw 18 (u:Int) (by omega) (by omega)
 have hp:∀ W:World,Calls Tryz.prog 287 #[.string (tx (u:Int)),.int .i64 10,.int .i64 64] W fun e w'=>e=.returned (.tuple #[.int .u64 u,.nilIface])∧Fr W w':=fun W=>by
  go_enter Tryz.func287,Tryz.ntmps287
  go_wp2_with fail
  refine (Tryz.internal_strconv_ParseUint_10_at64 (tx (u:Int)) (by omega) _).mono ?_
  rw [KW u h]
  rintro e w1 ⟨rfl,hw⟩
  have hf:=Lf (hw.imp id fun h=>⟨_,h⟩)
  clear hw
  unfold uintTupleM
  go_wp2_with fail
  go_ret2
  exact ⟨rfl,hf⟩
 replace hp:=hZ hp
 go_enter Tryz.func245,Tryz.ntmps245
 go_wp2_with fail
 refine (hp.out _).mono ?_
 rintro e w1 ⟨rfl,hf⟩
 go_wp2_with fail
 go_ret2
 exact ⟨rfl,hf⟩
theorem VN (u v:Nat) (hu:(tx (u:Int)).size≤18) (hv:(tx (v:Int)).size≤18) (h1:u < 1000000000000000000) (h2:v < 1000000000000000000) (w:World) :
 Calls Tryz.prog 202 #[.string (tx (u:Int)),.string (tx (v:Int))] w fun e w'=>e=.returned (.tuple #[.int .u64 u,.int .u64 v,.bool true])∧Fr w w':=by
 have c1:=hZ (fun W=>Uf u h1 W)
 have c2:=hZ (fun W=>Uf v h2 W)
 have d1:decide ((18:Int) < ((tx (u:Int)).size:Int))=false:=Aa (by omega)
 have d2:decide ((18:Int) < ((tx (v:Int)).size:Int))=false:=Aa (by omega)
 go_enter Tryz.func202,Tryz.ntmps202
 go_wp2_with fail
 refine (c1.out _).mono ?_
 rintro e w1 ⟨rfl,hf1⟩
 go_wp2_with fail
 refine (c2.out _).mono ?_
 rintro e w2 ⟨rfl,hf2⟩
 go_wp2_with fail
 go_ret3
 exact ⟨rfl,hf1.trans hf2⟩
theorem Vm (u:Nat) (hu64:u < 18446744073709551616) (w:World) (hG:G w) :
 Calls Tryz.prog 288 #[.int .u64 u,.int .i64 10] w fun e w'=>e=.returned (.string (tx (u:Int)))∧Fr w w':=by
 have hte:tx (u:Int)=⟨(decDigits u).toArray⟩:=by show (⟨(itoa (u:Int)).toArray⟩:ByteArray)=_; rw [BI (by omega),show (u:Int).toNat=u by omega]
 by_cases h100:u < 100
 ·have d1:decide ((u:Int) < 100)=true:=Ab (by omega)
  replace hte:=hZ hte
  go_enter Tryz.func288,Tryz.ntmps288
  go_wp2_with fail
  refine (Tryz.internal_strconv_small u h100 _).mono ?_
  rintro e w1 ⟨rfl,rfl⟩
  go_wp2_with fail
  go_ret
  exact ⟨by rw [hte.out]; rfl,Fr.refl _⟩
 ·have d1:decide ((u:Int) < 100)=false:=Aa (by omega)
  have hu1:1≤u:=by omega
  have hnd20:nDigits u≤20:=by have:=numDigits_eq u hu1 hu64; split at this <;> omega
  have hb3:nDigits u≤24:=by omega
  have hal:Tryz.prog.arrayLen 308=24:=by kernel_rfl
  have hsl:∀ W,(Instr.sliceAt 308 (.pointer (some ⟨w.heap.size,0,none⟩)) none (some (.int .i64 (nDigits u:Int))) none).run Tryz.prog W=.ok (.slice (some ⟨w.heap.size,0,none⟩) (nDigits u) 24) W:=fun W=>by
   rw [run_sliceAt_array_h W 308 ⟨w.heap.size,0,none⟩ (by simp [Program.arrayLen,Program.elem,Tryz.underlying308]) .i64 (nDigits u:Int) (by omega) (by rw [hal]; omega)]
   go_simp
  have hH0:=holds_zero0 w 308 (nDigits u) (by omega)
  have hfmt:=Tryz.internal_strconv_formatBase10 w.heap.size 0 24 u (Array.replicate (nDigits u) 0) (w.alloc (.cells zeros24 308)) hH0 (by rw [Hp]; exact lt_pow_nDigits u) hu64 (by rw [Hp]; omega)
  rw [Hp] at hfmt
  have HH0:=hZ hH0
  have hnum:=hZ (fun W (hW:G W)=>Tryz.internal_strconv_numDigits u hu1 hu64 W hW)
  replace hte:=hZ hte
  clear hH0 hal
  have hGa:Hid (G (w.alloc (.cells zeros24 308))):=tabIs_alloc hG _
  go_enter Tryz.func288,Tryz.ntmps288
  go_wp2_with (go_at_call 249; refine (hnum.out _ hGa.out).mono ?_; rintro e w' ⟨rfl,rfl⟩)
  go_at_call 250
  refine hfmt.mono ?_
  rintro e w' ⟨rfl,k,v',dk,rfl,hF⟩
  have hcv:(convert 216 9 (.slice (some ⟨w.heap.size,0,none⟩) (nDigits u) 24)).run Tryz.prog ((putRow (fun (b:UInt8)=>Value.int .u8 (b.toNat:Int)) (w.alloc (.cells zeros24 308)) w.heap.size 0 dk).drewN k)=.ok (.string ⟨(decDigits u).toArray⟩) ((putRow (fun (b:UInt8)=>Value.int .u8 (b.toNat:Int)) (w.alloc (.cells zeros24 308)) w.heap.size 0 dk).drewN k):=by
   have h:=XP (P:=Tryz.prog) ((putRow (fun (b:UInt8)=>Value.int .u8 (b.toNat:Int)) (w.alloc (.cells zeros24 308)) w.heap.size 0 dk).drewN k) 216 9 5 ⟨w.heap.size,0,none⟩ 24 (decDigits u) Tryz.underlying216 Tryz.underlying5 Tryz.underlying9 (fun j hj=>by
    rw [row_is_numeral hF j hj,add_plain,World.cell?_drewN]
    exact cell?_putRow (fun (b:UInt8)=>Value.int .u8 (b.toNat:Int)) _ w.heap.size 0 _ dk HH0.out (by rw [hF.size,Hp]) j (by rw [hF.size]; rw [decDigits_length] at hj; exact hj))
   rw [decDigits_length] at h
   exact h
  obtain ⟨os,-,eo⟩:=putRow_grow_new (fun (b:UInt8)=>Value.int .u8 (b.toNat:Int)) w #[.cells zeros24 308] w.heap.size 0 dk (Ah _)
  have hfr:Fr w ((putRow (fun (b:UInt8)=>Value.int .u8 (b.toNat:Int)) (w.alloc (.cells zeros24 308)) w.heap.size 0 dk).drewN k):=by
   rw [alloc_eq_grow,eo]
   exact QE w k os
  replace hfr:=hZ hfr
  clear eo
  go_wp2
  go_ret
  exact ⟨by rw [hte.out]; rfl,hfr.out⟩
theorem WT (u:Nat) (hu64:u < 18446744073709551616) (w:World) (hG:G w) :
 Calls Tryz.prog 203 #[.int .u64 u] w fun e w'=>e=.returned (.string (tx (u:Int)))∧Fr w w':=by
 have h1:∀ W:World,G W→Calls Tryz.prog 246 #[.int .u64 u,.int .i64 10] W fun e w'=>e=.returned (.string (tx (u:Int)))∧Fr W w':=fun W hW=>by
  go_enter Tryz.func246,Tryz.ntmps246
  go_wp2_with fail
  refine (Vm u hu64 _ hW).mono ?_
  rintro e w1 ⟨rfl,hf⟩
  go_wp2_with fail
  go_ret
  exact ⟨rfl,hf⟩
 replace h1:=hZ h1
 go_enter Tryz.func203,Tryz.ntmps203
 go_wp2_with fail
 refine (h1.out _ hG).mono ?_
 rintro e w1 ⟨rfl,hf⟩
 go_wp2_with fail
 go_ret
 exact ⟨rfl,hf⟩
theorem WF (u v:Nat) (hs:(tx (u:Int)).size+(tx (v:Int)).size≤18) (h1:u < 1000000000000000000) (h2:v < 1000000000000000000) (h3:u * v < 18446744073709551616) (w:World) (hG:G w) :
 Calls Tryz.prog 143 #[.string (tx (u:Int)),.string (tx (v:Int))] w fun e w'=>e=.returned (.string (tx ((u * v:Nat):Int)))∧Fr w w':=by
 have c1:=hZ (fun W=>VN u v (by omega) (by omega) h1 h2 W)
 have c2:=hZ (fun W (hW:G W)=>WT (u * v) h3 W hW)
 have d1:decide (((tx (u:Int)).size:Int)+((tx (v:Int)).size:Int)≤18)=true:=Ab (by omega)
 have e3:((u:Int) * (v:Int))=((u * v:Nat):Int):=by rw [AK]
 have e4:=hZ e3
 have h4:(u:Int) * (v:Int) < 18446744073709551616:=by omega
 have h5:(0:Int)≤(u:Int) * (v:Int):=by omega
 generalize tx (u:Int)=s at *
 generalize tx (v:Int)=t at *
 go_enter Tryz.func143,Tryz.ntmps143
 go_wp2_with fail
 refine (c1.out _).mono ?_
 rintro e w1 ⟨rfl,hf1⟩
 have c3:=c2.out w1 (hG.fr hf1)
 rw [← e3] at c3
 clear e3 h3
 go_wp2_with fail
 refine c3.mono ?_
 rintro e w2 ⟨rfl,hf2⟩
 go_wp2_with fail
 go_ret
 exact ⟨by rw [← e4.out]; rfl,hf1.trans hf2⟩
theorem WC (a b:Int) (ha:-1000000000≤a∧a≤1000000000) (hb:Ti b) (w:World) (hG:G w) :
 Calls Tryz.prog 80 #[.string (tx a),.string (tx b)] w fun e w'=>e=.returned (.string (tx (a * b)))∧Fr w w':=by
 have sb:=hb.size
 obtain ⟨b1,b2⟩:=hb
 have hm:a.natAbs * b.natAbs≤1000000000 * 100000000:=CS (by omega) (by omega)
 have hm2:(a * b).natAbs=a.natAbs * b.natAbs:=BB a b
 have m1:-100000000000000000≤a * b:=by omega
 have m2:a * b≤100000000000000000:=by omega
 have sa:(tx a).size≤11:=Bw 10 a (by omega) (by omega)
 obtain ⟨a1,a2⟩:=ha
 by_cases h9:(tx a).size≤9
 ·clear hm hm2
  go_enter Tryz.func80,Tryz.ntmps80
  go_wp2_with fail
  refine (Bh a 9 (by omega) (by omega) _ (by omega)).mono ?_; rintro e w1 ⟨rfl,hf1⟩
  go_wp2_with fail
  refine (Bh b 9 (by omega) (by omega) _ (by omega)).mono ?_; rintro e w2 ⟨rfl,hf2⟩
  go_wp2_with fail
  refine (B5 _ (by omega) (by omega) _ (hG.fr (hf1.trans hf2))).mono ?_; rintro e w3 ⟨rfl,hf3⟩
  go_wp2_with fail
  go_ret
  exact ⟨rfl,(hf1.trans hf2).trans hf3⟩
 ·have hc1:(tx (a.natAbs:Int)).size≤10:=by rw [B0]; exact DN 10 _ (by omega) (by omega)
  have hc2:(tx (b.natAbs:Int)).size≤8:=by rw [B0]; exact DN 8 _ (by omega) (by omega)
  have hp:Hid (((a.natAbs * b.natAbs:Nat):Int)=(a.natAbs:Int) * (b.natAbs:Int)):=AK _ _
  have hdm:=hZ (fun W (hW:G W)=>WF a.natAbs b.natAbs (by omega) (by omega) (by omega) (by omega) W hW)
  have hnn:(0:Int)≤((a.natAbs * b.natAbs:Nat):Int):=Af _
  have hsz:(tx ((a.natAbs * b.natAbs:Nat):Int)).size≤1000000000:=by
   have:=Bw 18 ((a.natAbs * b.natAbs:Nat):Int) (by omega) (by omega)
   omega
  have hli:=hZ (fun W=>JK a 9 W (by omega) (by omega))
  have hgoal:∀ s:Bool,(s=(decide (a < 0) != decide (b < 0)))→(if s then -((a.natAbs * b.natAbs:Nat):Int) else ((a.natAbs * b.natAbs:Nat):Int))=a * b:=fun s hs=>by
   rw [hs,hp.out]
   rcases EY a 0 with h | h <;> rcases EY b 0 with k | k
   ·rw [Ab h,Ab k,show (a.natAbs:Int)=-a by omega,show (b.natAbs:Int)=-b by omega]; exact Int.neg_mul_neg a b
   ·rw [Ab h,Aa (by omega),show (a.natAbs:Int)=-a by omega,show (b.natAbs:Int)=b by omega]; show -(-a * b)=a * b; rw [Int.neg_mul,Ny]
   ·rw [Aa (by omega),Ab k,show (a.natAbs:Int)=a by omega,show (b.natAbs:Int)=-b by omega]; show -(a * -b)=a * b; rw [Int.mul_neg,Ny]
   ·rw [Aa (by omega),Aa (by omega),show (a.natAbs:Int)=a by omega,show (b.natAbs:Int)=b by omega]; rfl
  have spA:∀ W:World,Calls Tryz.prog 137 #[.string (tx a)] W fun e w'=>e=.returned (.tuple #[.bool (decide (a < 0)),.string (tx (a.natAbs:Int))])∧Fr W w':=fun W=>by
   rcases EY a 0 with h | h
   ·rw [Ab h,show (a.natAbs:Int)=-a by omega]; exact IU a h W (by omega)
   ·rw [Aa (by omega),show (a.natAbs:Int)=a by omega]; exact IR a h W (by omega)
  have spB:∀ W:World,Calls Tryz.prog 137 #[.string (tx b)] W fun e w'=>e=.returned (.tuple #[.bool (decide (b < 0)),.string (tx (b.natAbs:Int))])∧Fr W w':=fun W=>by
   rcases EY b 0 with h | h
   ·rw [Ab h,show (b.natAbs:Int)=-b by omega]; exact IU b h W (by omega)
   ·rw [Aa (by omega),show (b.natAbs:Int)=b by omega]; exact IR b h W (by omega)
  obtain ⟨sA,hsA⟩:∃ sA,sA=decide (a < 0):=⟨_,rfl⟩
  obtain ⟨sB,hsB⟩:∃ sB,sB=decide (b < 0):=⟨_,rfl⟩
  rw [← hsA] at spA hgoal
  rw [← hsB] at spB hgoal
  have hjo:=hZ (fun W=>CX (sA != sB) _ hnn W hsz)
  replace hgoal:=hZ (hgoal (sA != sB) rfl)
  generalize ((a.natAbs * b.natAbs:Nat):Int)=p at *
  generalize tx (a.natAbs:Int)=ta at *
  generalize tx (b.natAbs:Int)=tb' at *
  replace spA:=hZ spA
  replace spB:=hZ spB
  replace hsA:=hZ hsA
  replace hsB:=hZ hsB
  clear hm hm2 hp hnn hsz
  cases sA <;> cases sB
  all_goals
   go_enter Tryz.func80,Tryz.ntmps80
   go_wp2_with fail
   refine (hli.out _).mono ?_; rintro e w1 ⟨rfl,rfl⟩
   go_wp2_with fail
   refine (spA.out _).mono ?_; rintro e w2 ⟨rfl,hf2⟩
   go_wp2_with fail
   refine (spB.out _).mono ?_; rintro e w3 ⟨rfl,hf3⟩
   go_wp2_with fail
   refine (hdm.out _ (hG.fr (hf2.trans hf3))).mono ?_; rintro e w4 ⟨rfl,hf4⟩
   go_wp2_with fail
   refine (hjo.out _).mono ?_; rintro e w5 ⟨rfl,rfl⟩
   go_wp2_with fail
   go_ret
   exact ⟨by rw [← hgoal.out]; rfl,(hf2.trans hf3).trans hf4⟩
end Go.Proofs.YtcglmebcfeoedaaGreatDoor
namespace Go.Proofs.YtcglmebcfeoedaaGreatDoor
open Go.RowKit Go.Lib
attribute [local go_sem ↓] AC AD
abbrev qv (x:Rat):Value:=.agg #[sv x.num,sv (x.den:Int)]
theorem Tb (a b:Int):Nat.gcd b.natAbs (a.tmod b).natAbs=Nat.gcd a.natAbs b.natAbs:=by
 rw [Int.natAbs_tmod,DG,← X8,DG]
theorem Wd (n:Int) (d:Nat) (hd:0 < d):(mkRat n d).num=n.tdiv (Nat.gcd n.natAbs d:Int):=by
 rw [Rat.num_mkRat,Ai (by omega),DG]
 exact (XA (Int.ofNat_dvd_left.2 (Nat.gcd_dvd_left _ _))).symm
theorem We (n:Int) (d:Nat) (hd:0 < d):((mkRat n d).den:Int)=(d:Int).tdiv (Nat.gcd n.natAbs d:Int):=by
 rw [Rat.den_mkRat,Ai (by omega),DG]
 have h:((Nat.gcd n.natAbs d:Nat):Int) ∣ (d:Int):=Int.natCast_dvd_natCast.2 (Nat.gcd_dvd_right _ _)
 rw [XA h]
 exact D4 _ _
def Jn (n:Int):Prop:=-4611686018427387904 < n∧n < 4611686018427387904
theorem NE {n g:Int} (h:Jn n):Jn (n.tdiv g):=by
 have:=Int.natAbs_tdiv_le_natAbs n g
 unfold Jn at *
 omega
theorem MY (n:Int) (d:Nat) (hn:Jn n) (hd0:0 < d) (hd:Jn d) (w:World) (hG:G w) :
 Calls Tryz.prog 192 #[.int .i64 n,.int .i64 d] w fun e w'=>e=.returned (qv (mkRat n d))∧Fr w w':=by
 have hnum:=Wd n d hd0
 have hden:=We n d hd0
 unfold qv
 rw [hnum,hden]
 clear hnum hden
 obtain ⟨g,hg⟩:∃ g,g=Nat.gcd n.natAbs d:=⟨_,rfl⟩
 rw [← hg]
 have hg0:0 < g:=by rw [hg]; exact JV _ hd0
 have hgd:g≤d:=by rw [hg]; exact Un _ hd0
 have hbn:=NE (g:=g) hn
 have hbd:=NE (g:=g) hd
 rw [Dp (Af d)] at hbd
 rw [Dp (Af d)]
 unfold Jn at hn hd hbn hbd
 have hi1:=hZ (fun W (hW:Fr w W)=>ES (n.tdiv g) (by omega) (by omega) W (hG.fr hW))
 have hi2:=hZ (fun W (hW:Fr w W)=>ES ((d:Int) / (g:Int)) (by omega) (by omega) W (hG.fr hW))
 replace hbn:=hZ hbn
 replace hbd:=hZ hbd
 replace hg:=hZ hg
 obtain ⟨wb,hwb⟩:∃ wb,wb=w.alloc (.cells #[.string ⟨#[]⟩,.string ⟨#[]⟩] 194):=⟨_,rfl⟩
 have hfb:Fr w wb:=by rw [hwb]; exact (Fr.refl _).alloc _
 have q4:wb.cell? ⟨w.heap.size,0,none⟩=some (.string ⟨#[]⟩):=by rw [hwb]; exact (Cw _ _ _ _).1
 have q5:wb.cell? ⟨w.heap.size,1,none⟩=some (.string ⟨#[]⟩):=by rw [hwb]; exact (Cv _ _ _ _).1
 have q6:wb.frozen? ⟨w.heap.size,0,none⟩=false:=by rw [hwb]; exact (Cw _ _ _ _).2
 have q7:wb.frozen? ⟨w.heap.size,1,none⟩=false:=by rw [hwb]; exact (Cv _ _ _ _).2
 go_enter Tryz.func192,Tryz.ntmps192
 go_upto_region 1 with (fail)
 rw [← hwb]
 clear hwb
 go_wp2_with fail
 replace q4:=hZ q4
 replace q5:=hZ q5
 replace q6:=hZ q6
 replace q7:=hZ q7
 go_loopg [5,6] d (fun gk s5 s6 wr=>∃ a b:Int,s5=.int .i64 a∧s6=.int .i64 b∧Hid (Nat.gcd a.natAbs b.natAbs=g)∧b.natAbs≤gk∧a.natAbs < 4611686018427387904∧b.natAbs < 4611686018427387904∧Qt wb wr)
 case atStart=>exact ⟨n,d,rfl,rfl,by show _=_; rw [hg.out,AA],by rw [AA]; exact Ah _,by omega,by omega,Qt.refl _⟩
 case round=>
  obtain ⟨a,b,rfl,rfl,hgc,hbk,ha1,hb1,hq⟩:=hrel
  by_cases hb0:b=0
  ·subst hb0
   have hga:a.natAbs=g:=by have:=hgc.out; rw [Int.natAbs_zero,P8] at this; exact this
   have hz1:(0:Int) < (g:Int):=by omega
   have hz2:(1:Int)≤(g:Int):=by omega
   have hfr:=hq.fr
   replace q6:=hfr.keepf q4.out q6.out
   replace q7:=hfr.keepf q5.out q7.out
   replace q4:=hfr.keep q4.out
   replace q5:=hfr.keep q5.out
   replace hfr:=hfb.trans hfr
   clear hq hfb
   replace hbk:=hZ hbk
   by_cases hneg:a < 0
   ·obtain rfl:a=-(g:Int):=by omega
    go_wp2_with fail
    have hg00:((g:Int) == 0)=false:=AB (by omega)
    have hg01:¬ (g:Int)=0:=by omega
    have hg02:¬ g=0:=by omega
    have hq1:IntKind.i64.wrap (n.tdiv (g:Int))=n.tdiv (g:Int):=Aj _ (by have:=hbn.out; omega)
    have hq2:IntKind.i64.wrap ((d:Int) / (g:Int))=(d:Int) / (g:Int):=Aj _ (by have:=hbd.out; omega)
    go_region_held3 (fun _=>True) (exact trivial)
     (first
      | (go_at_call 82; (with_reducible refine (hi1.out _ ?_).mono ?_); (exact Bq); rintro e w3 ⟨rfl,hf3⟩; have hfz:Fr wr w3:=(by exact Bq); have t4:=hfz.keep q4; have t5:=hfz.keep q5; have t6:=hfz.keepf q4 q6; have t7:=hfz.keepf q5 q7; have qs:=AO w3 w.heap.size (sv (n.tdiv g)) (sv ((d:Int) / (g:Int))) _ _ t4 t5; have q8:=qs.2.2.1; have u0:=hZ qs.1; have u1:=hZ qs.2.1; have hfx:=hZ qs.2.2.2; clear qs)
      | (go_at_call 82; (with_reducible refine (hi2.out _ ?_).mono ?_); (exact Bq); rintro e w4 ⟨rfl,hf4⟩; have hfz:Fr wr w4:=(by exact Bq); have t4:=hfz.keep q4; have t5:=hfz.keep q5; have t6:=hfz.keepf q4 q6; have t7:=hfz.keepf q5 q7; have qs:=AO w4 w.heap.size (sv (n.tdiv g)) (sv ((d:Int) / (g:Int))) _ _ t4 t5; have q8:=qs.2.2.1; have u0:=hZ qs.1; have u1:=hZ qs.2.1; have hfx:=hZ qs.2.2.2; clear qs))
    clear q8 t4 t5 t6 t7
    go_wp2_with fail
    have v0:=u0.out
    have v1:=u1.out
    refine At (v:=.agg #[sv (n.tdiv (g:Int)),sv ((d:Int) / (g:Int))]) (by simp [results,Tryz.results192,go_sem,v0,v1]) rfl ⟨rfl, ?_⟩
    exact ((Fx.of_fr (p:=fun q=>q=w.heap.size) (hfr.trans hfz)).trans hfx.out).toFr (fun q hq e=>by have e:q=w.heap.size:=e; omega)
   ·obtain rfl:a=(g:Int):=by omega
    go_wp2_with fail
    have hg00:((g:Int) == 0)=false:=AB (by omega)
    have hg01:¬ (g:Int)=0:=by omega
    have hg02:¬ g=0:=by omega
    have hq1:IntKind.i64.wrap (n.tdiv (g:Int))=n.tdiv (g:Int):=Aj _ (by have:=hbn.out; omega)
    have hq2:IntKind.i64.wrap ((d:Int) / (g:Int))=(d:Int) / (g:Int):=Aj _ (by have:=hbd.out; omega)
    go_region_held3 (fun _=>True) (exact trivial)
     (first
      | (go_at_call 82; (with_reducible refine (hi1.out _ ?_).mono ?_); (exact Bq); rintro e w3 ⟨rfl,hf3⟩; have hfz:Fr wr w3:=(by exact Bq); have t4:=hfz.keep q4; have t5:=hfz.keep q5; have t6:=hfz.keepf q4 q6; have t7:=hfz.keepf q5 q7; have qs:=AO w3 w.heap.size (sv (n.tdiv g)) (sv ((d:Int) / (g:Int))) _ _ t4 t5; have q8:=qs.2.2.1; have u0:=hZ qs.1; have u1:=hZ qs.2.1; have hfx:=hZ qs.2.2.2; clear qs)
      | (go_at_call 82; (with_reducible refine (hi2.out _ ?_).mono ?_); (exact Bq); rintro e w4 ⟨rfl,hf4⟩; have hfz:Fr wr w4:=(by exact Bq); have t4:=hfz.keep q4; have t5:=hfz.keep q5; have t6:=hfz.keepf q4 q6; have t7:=hfz.keepf q5 q7; have qs:=AO w4 w.heap.size (sv (n.tdiv g)) (sv ((d:Int) / (g:Int))) _ _ t4 t5; have q8:=qs.2.2.1; have u0:=hZ qs.1; have u1:=hZ qs.2.1; have hfx:=hZ qs.2.2.2; clear qs))
    clear q8 t4 t5 t6 t7
    go_wp2_with fail
    have v0:=u0.out
    have v1:=u1.out
    refine At (v:=.agg #[sv (n.tdiv (g:Int)),sv ((d:Int) / (g:Int))]) (by simp [results,Tryz.results192,go_sem,v0,v1]) rfl ⟨rfl, ?_⟩
    exact ((Fx.of_fr (p:=fun q=>q=w.heap.size) (hfr.trans hfz)).trans hfx.out).toFr (fun q hq e=>by have e:q=w.heap.size:=e; omega)
  ·have d1:(b != 0)=true:=Ba.2 hb0
   have d2:(b == 0)=false:=AB hb0
   have hst:=hZ ((Tb a b).trans hgc.out)
   have hlt:=FD a b hb0
   replace hb0:=hZ hb0
   go_wp2_with fail
   go_region
   go_wp2_with fail
   go_roundg (gk - 1)
   case measure=>omega
   case rel=>exact ⟨b,a.tmod b,rfl,by first | rfl | (simp; exact Aj _ (by omega)),hst.out,by omega,by omega,by omega,hq.drew⟩
theorem Og (x y:Nat) (hx:x < 4611686018427387904) (hy:y < 4611686018427387904) (w:World) :
 Calls Tryz.prog 279 #[.int .i64 x,.int .i64 y] w fun e w'=>e=.returned (.int .i64 (Nat.gcd x y:Nat))∧Fr w w':=by
 obtain ⟨g,hg⟩:∃ g,g=Nat.gcd x y:=⟨_,rfl⟩
 rw [← hg]
 replace hg:=hZ hg
 go_enter Tryz.func279,Tryz.ntmps279
 go_wp2_with fail
 go_loopg [0,1] y (fun gk s0 s1 wr=>∃ a b:Nat,s0=.int .i64 a∧s1=.int .i64 b∧Hid (Nat.gcd a b=g)∧b≤gk∧a < 4611686018427387904∧b < 4611686018427387904∧Qt w wr)
 case atStart=>exact ⟨x,y,rfl,rfl,hg.out.symm,Ah _,hx,hy,Qt.refl _⟩
 case round=>
  obtain ⟨a,b,rfl,rfl,hgc,hbk,ha1,hb1,hq⟩:=hrel
  by_cases hb0:b=0
  ·subst hb0
   have hga:a=g:=by have:=hgc.out; rw [P8] at this; exact this
   have hfin:=hZ hga
   clear hga
   go_wp2_with fail
   go_ret
   exact ⟨A7 (by rw [hfin.out]),hq.fr⟩
  ·have d1:((b:Int) != 0)=true:=Ba.2 (by omega)
   have d2:((b:Int) == 0)=false:=AB (by omega)
   have hst:=hZ (show Nat.gcd b (a % b)=g by rw [← hgc.out,DG a b,X8 b a,DG])
   have hlt:=Cy a (show 0 < b by omega)
   have z1:(0:Int)≤(a:Int):=Af _
   have z2:(1:Int)≤(b:Int):=by omega
   replace hb0:=hZ hb0
   go_wp2_with fail
   go_region
   go_wp2_with fail
   go_roundg (gk - 1)
   case measure=>omega
   case rel=>exact ⟨b,a % b,rfl,by go_num,hst.out,by omega,by omega,by omega,hq.drew⟩
theorem WE (a b:Int) (ha:Sm a) (hb:Sm b) (w:World) (hG:G w) :
 Calls Tryz.prog 237 #[.string (tx a),.string (tx b)] w fun e w'=>e=.returned (.string (tx (Nat.gcd a.natAbs b.natAbs:Nat)))∧Fr w w':=by
 have sa:=ha.size
 have sb:=hb.size
 unfold Sm at ha hb
 have h1:=hZ (fun W=>Jp a W (by omega))
 have h2:=hZ (fun W=>Jp b W (by omega))
 have hsa:(tx (a.natAbs:Int)).size≤18:=Bw 17 _ (by omega) (by omega)
 have hsb:(tx (b.natAbs:Int)).size≤18:=Bw 17 _ (by omega) (by omega)
 have h3:=hZ (fun W=>Bh (a.natAbs:Int) 18 (by omega) (by omega) W (by omega))
 have h4:=hZ (fun W=>Bh (b.natAbs:Int) 18 (by omega) (by omega) W (by omega))
 have h5:=hZ (fun W=>Og a.natAbs b.natAbs (by omega) (by omega) W)
 have hgl:Nat.gcd a.natAbs b.natAbs≤a.natAbs∨Nat.gcd a.natAbs b.natAbs≤b.natAbs:=by
  rcases Nat.eq_zero_or_pos a.natAbs with h | h
  ·exact .inr (by rw [h,Nat.gcd_zero_left]; exact Ah _)
  ·exact .inl (Nat.gcd_le_left _ h)
 have h6:=hZ (fun W (hW:Fr w W)=>B5 (Nat.gcd a.natAbs b.natAbs:Nat) (by omega) (by omega) W (hG.fr hW))
 generalize Nat.gcd a.natAbs b.natAbs=g at *
 clear ha hb sa sb hsa hsb hgl
 go_enter Tryz.func237,Tryz.ntmps237
 go_wp2_with fail
 refine (h1.out _).mono ?_
 rintro e w1 ⟨rfl,hf1⟩
 go_wp2_with fail
 refine (h2.out _).mono ?_
 rintro e w2 ⟨rfl,hf2⟩
 go_wp2_with fail
 refine (h3.out _).mono ?_
 rintro e w3 ⟨rfl,hf3⟩
 go_wp2_with fail
 refine (h4.out _).mono ?_
 rintro e w4 ⟨rfl,hf4⟩
 go_wp2_with fail
 refine (h5.out _).mono ?_
 rintro e w5 ⟨rfl,hf5⟩
 have hfr:=(((hf1.trans hf2).trans hf3).trans hf4).trans hf5
 go_wp2_with fail
 refine (h6.out _ hfr).mono ?_
 rintro e w6 ⟨rfl,hf6⟩
 go_wp2_with fail
 go_ret
 exact ⟨rfl,hfr.trans hf6⟩
theorem Qw (n d:Int) (hd:d≠0):(Rat.divInt n d).num=(d.sign * n).fdiv (Nat.gcd (d.sign * n).natAbs d.natAbs:Nat):=by
 have e:(Nat.gcd (d.sign * n).natAbs d.natAbs)=d.gcd n:=by
  rw [BB,IG hd,FR,DG]; rfl
 rw [e,Rat.num_divInt]
 exact (WQ _ (Af _)).symm
theorem Qx (n d:Int) (hd:d≠0):((Rat.divInt n d).den:Int)=(d.natAbs:Int).fdiv (Nat.gcd (d.sign * n).natAbs d.natAbs:Nat):=by
 have e:(Nat.gcd (d.sign * n).natAbs d.natAbs)=d.gcd n:=by
  rw [BB,IG hd,FR,DG]; rfl
 rw [e,Rat.den_divInt,Ai hd,WQ _ (Af _)]
 exact D4 _ _
theorem VY {d:Int} (h:Sm d):Sm (d.natAbs:Int):=by unfold Sm at *; omega
theorem K8 (n d:Int) (hn:Sm n) (hd:Sm d) (h0:d≠0) (w:World) (hG:G w) :
 Calls Tryz.prog 193 #[.string (tx n),.string (tx d)] w fun e w'=>e=.returned (qv (Rat.divInt n d))∧Fr w w':=by
 unfold qv
 rw [Qw n d h0,Qx n d h0]
 obtain ⟨n2,hn2⟩:∃ n2,n2=d.sign * n:=⟨_,rfl⟩
 obtain ⟨d2,hd2⟩:∃ d2:Int,d2=d.natAbs:=⟨_,rfl⟩
 have hs2:Sm n2:=by
  rcases IH h0 with h | h
  ·rw [hn2,Int.sign_eq_neg_one_of_neg h]; unfold Sm at *; omega
  ·rw [hn2,Int.sign_eq_one_of_pos h,Ut]; exact hn
 have hsd2:Sm d2:=by rw [hd2]; exact VY hd
 have hd20:0 < d2:=by omega
 have hg2:=WE n2 d2 hs2 hsd2
 have hna:d2.natAbs=d.natAbs:=by rw [hd2,AA]
 rw [hna] at hg2
 rw [← hn2,← hd2]
 obtain ⟨g,hg⟩:∃ g,g=Nat.gcd n2.natAbs d.natAbs:=⟨_,rfl⟩
 rw [← hg] at hg2 ⊢
 have hgp:0 < g:=by rw [hg]; exact JV _ (by omega)
 have hgd:g≤d.natAbs:=by rw [hg]; exact Un _ (by omega)
 have hgS:Sm (g:Int):=by unfold Sm at *; omega
 have hdn:=hZ (fun W (hW:Fr w W)=>Ft n2 g hs2 hgS (by omega) W (hG.fr hW))
 have hdd:=hZ (fun W (hW:Fr w W)=>Ft d2 g hsd2 hgS (by omega) W (hG.fr hW))
 replace hg2:=hZ (fun W (hW:Fr w W)=>hg2 W (hG.fr hW))
 have hsn:=hn.size
 have hsd:=hd.size
 have hN1:=hZ (fun W=>G8 n W (by omega))
 have hN2:=hZ (fun W=>G8 d W (by omega))
 have hone:((tx (g:Int)).toList == [49])=decide ((g:Int)=1):=by rw [show [49]=itoa 1 from Qz.symm]; exact Jw _ _
 obtain ⟨wb,hwb⟩:∃ wb,wb=w.alloc (.cells #[.string ⟨#[]⟩,.string ⟨#[]⟩] 194):=⟨_,rfl⟩
 have hfb:Fr w wb:=by rw [hwb]; exact (Fr.refl _).alloc _
 have q4:wb.cell? ⟨w.heap.size,0,none⟩=some (.string ⟨#[]⟩):=by rw [hwb]; exact (Cw _ _ _ _).1
 have q5:wb.cell? ⟨w.heap.size,1,none⟩=some (.string ⟨#[]⟩):=by rw [hwb]; exact (Cv _ _ _ _).1
 have q6:wb.frozen? ⟨w.heap.size,0,none⟩=false:=by rw [hwb]; exact (Cw _ _ _ _).2
 have q7:wb.frozen? ⟨w.heap.size,1,none⟩=false:=by rw [hwb]; exact (Cv _ _ _ _).2
 replace hg:=hZ hg
 by_cases hneg:d < 0
 ·have e1:-n=n2:=by rw [hn2,Int.sign_eq_neg_one_of_neg hneg]; omega
  have e2:-d=d2:=by omega
  have hsg:decide (d.sign < 0)=true:=Ab (by rw [Int.sign_eq_neg_one_of_neg hneg]; omega)
  rw [e1] at hN1
  rw [e2] at hN2
  replace hn2:=hZ hn2
  replace hd2:=hZ hd2
  replace hna:=hZ hna
  replace e1:=hZ e1
  replace e2:=hZ e2
  go_enter Tryz.func193,Tryz.ntmps193
  go_upto_region 1 with (fail)
  rw [← hwb]
  clear hwb
  go_wp2_with fail
  refine (CM _ _).mono ?_
  rintro e w1 ⟨rfl,rfl⟩
  go_wp2_with fail
  refine (hN1.out _).mono ?_
  rintro e w1 ⟨rfl,hf1⟩
  go_wp2_with fail
  refine (hN2.out _).mono ?_
  rintro e w2 ⟨rfl,hf2⟩
  have hfz:=hf1.trans hf2
  replace q6:=hfz.keepf q4 q6
  replace q7:=hfz.keepf q5 q7
  replace q4:=hfz.keep q4
  replace q5:=hfz.keep q5
  replace hfb:=hfb.trans hfz
  go_wp2_with fail
  refine (hg2.out _ hfb).mono ?_
  rintro e w3 ⟨rfl,hf3⟩
  replace q6:=hf3.keepf q4 q6
  replace q7:=hf3.keepf q5 q7
  replace q4:=hf3.keep q4
  replace q5:=hf3.keep q5
  replace hfb:=hfb.trans hf3
  by_cases hg1:g=1
  ·have hb1:decide ((g:Int)=1)=true:=Ab (by omega)
   rw [hb1] at hone
   have r1:=hZ (show sv (n2.fdiv (g:Int))=sv n2 by rw [hg1,show ((1:Nat):Int)=1 from rfl,E0])
   have r2:=hZ (show sv (d2.fdiv (g:Int))=sv d2 by rw [hg1,show ((1:Nat):Int)=1 from rfl,E0])
   have qs:=AO w3 w.heap.size (sv n2) (sv d2) _ _ q4 q5
   have q8:=qs.2.2.1
   have u0:=hZ qs.1
   have u1:=hZ qs.2.1
   have hfx:=hZ qs.2.2.2
   clear qs
   replace hg1:=hZ hg1
   go_wp2_with fail
   have v0:=u0.out
   have v1:=u1.out
   rw [r1.out,r2.out]
   refine At (v:=.agg #[sv n2,sv d2]) (by simp [results,Tryz.results193,go_sem,v0,v1]) rfl ⟨rfl, ?_⟩
   exact ((Fx.of_fr (p:=fun q=>q=w.heap.size) hfb).trans hfx.out).toFr (fun q hq e=>by have e:q=w.heap.size:=e; omega)
  ·have hb1:decide ((g:Int)=1)=false:=Aa (by omega)
   rw [hb1] at hone
   replace hg1:=hZ hg1
   go_wp2_with fail
   refine (hdn.out _ hfb).mono ?_
   rintro e w4 ⟨rfl,hf4⟩
   replace hfb:=hfb.trans hf4
   go_wp2_with fail
   refine (hdd.out _ hfb).mono ?_
   rintro e w5 ⟨rfl,hf5⟩
   replace hfb:=hfb.trans hf5
   have hf45:=hf4.trans hf5
   replace q6:=hf45.keepf q4 q6
   replace q7:=hf45.keepf q5 q7
   replace q4:=hf45.keep q4
   replace q5:=hf45.keep q5
   have qs:=AO w5 w.heap.size (sv (n2.fdiv (g:Int))) (sv (d2.fdiv (g:Int))) _ _ q4 q5
   have q8:=qs.2.2.1
   have u0:=hZ qs.1
   have u1:=hZ qs.2.1
   have hfx:=hZ qs.2.2.2
   clear qs
   go_wp2_with fail
   have v0:=u0.out
   have v1:=u1.out
   refine At (v:=.agg #[sv (n2.fdiv (g:Int)),sv (d2.fdiv (g:Int))]) (by simp [results,Tryz.results193,go_sem,v0,v1]) rfl ⟨rfl, ?_⟩
   exact ((Fx.of_fr (p:=fun q=>q=w.heap.size) hfb).trans hfx.out).toFr (fun q hq e=>by have e:q=w.heap.size:=e; omega)
 ·have hen:n=n2:=by rw [hn2,Int.sign_eq_one_of_pos (by omega),Ut]
  have hed:d=d2:=by omega
  have hsg:decide (d2.sign < 0)=false:=Aa (by rw [Int.sign_eq_one_of_pos (by omega)]; omega)
  rw [hen,hed]
  replace hen:=hZ hen
  replace hed:=hZ hed
  replace hn2:=hZ hn2
  replace hd2:=hZ hd2
  replace hna:=hZ hna
  go_enter Tryz.func193,Tryz.ntmps193
  go_upto_region 1 with (fail)
  rw [← hwb]
  clear hwb
  go_wp2_with fail
  refine (CM _ _).mono ?_
  rintro e w1 ⟨rfl,rfl⟩
  have hfz:=Fr.refl wb
  replace q6:=hfz.keepf q4 q6
  replace q7:=hfz.keepf q5 q7
  replace q4:=hfz.keep q4
  replace q5:=hfz.keep q5
  replace hfb:=hfb.trans hfz
  go_wp2_with fail
  refine (hg2.out _ hfb).mono ?_
  rintro e w3 ⟨rfl,hf3⟩
  replace q6:=hf3.keepf q4 q6
  replace q7:=hf3.keepf q5 q7
  replace q4:=hf3.keep q4
  replace q5:=hf3.keep q5
  replace hfb:=hfb.trans hf3
  by_cases hg1:g=1
  ·have hb1:decide ((g:Int)=1)=true:=Ab (by omega)
   rw [hb1] at hone
   have r1:=hZ (show sv (n2.fdiv (g:Int))=sv n2 by rw [hg1,show ((1:Nat):Int)=1 from rfl,E0])
   have r2:=hZ (show sv (d2.fdiv (g:Int))=sv d2 by rw [hg1,show ((1:Nat):Int)=1 from rfl,E0])
   have qs:=AO w3 w.heap.size (sv n2) (sv d2) _ _ q4 q5
   have q8:=qs.2.2.1
   have u0:=hZ qs.1
   have u1:=hZ qs.2.1
   have hfx:=hZ qs.2.2.2
   clear qs
   replace hg1:=hZ hg1
   go_wp2_with fail
   have v0:=u0.out
   have v1:=u1.out
   rw [r1.out,r2.out]
   refine At (v:=.agg #[sv n2,sv d2]) (by simp [results,Tryz.results193,go_sem,v0,v1]) rfl ⟨rfl, ?_⟩
   exact ((Fx.of_fr (p:=fun q=>q=w.heap.size) hfb).trans hfx.out).toFr (fun q hq e=>by have e:q=w.heap.size:=e; omega)
  ·have hb1:decide ((g:Int)=1)=false:=Aa (by omega)
   rw [hb1] at hone
   replace hg1:=hZ hg1
   go_wp2_with fail
   refine (hdn.out _ hfb).mono ?_
   rintro e w4 ⟨rfl,hf4⟩
   replace hfb:=hfb.trans hf4
   go_wp2_with fail
   refine (hdd.out _ hfb).mono ?_
   rintro e w5 ⟨rfl,hf5⟩
   replace hfb:=hfb.trans hf5
   have hf45:=hf4.trans hf5
   replace q6:=hf45.keepf q4 q6
   replace q7:=hf45.keepf q5 q7
   replace q4:=hf45.keep q4
   replace q5:=hf45.keep q5
   have qs:=AO w5 w.heap.size (sv (n2.fdiv (g:Int))) (sv (d2.fdiv (g:Int))) _ _ q4 q5
   have q8:=qs.2.2.1
   have u0:=hZ qs.1
   have u1:=hZ qs.2.1
   have hfx:=hZ qs.2.2.2
   clear qs
   go_wp2_with fail
   have v0:=u0.out
   have v1:=u1.out
   refine At (v:=.agg #[sv (n2.fdiv (g:Int)),sv (d2.fdiv (g:Int))]) (by simp [results,Tryz.results193,go_sem,v0,v1]) rfl ⟨rfl, ?_⟩
   exact ((Fx.of_fr (p:=fun q=>q=w.heap.size) hfb).trans hfx.out).toFr (fun q hq e=>by have e:q=w.heap.size:=e; omega)
theorem Fm (x:Rat):0 < x.den:=P7 x.den_nz
theorem K5 (x:Rat):x.num=0 ↔ x=0:=Rat.num_eq_zero
theorem JQ (x:Rat) (w:World) :
 Calls Tryz.prog 198 #[qv x] w fun e w'=>e=.returned (.int .i64 x.num.sign)∧Fr w w':=by
 have hfA:Fr w (w.alloc (.cells #[sv x.num,sv (x.den:Int)] 194)):=(Fr.refl w).alloc _
 unfold qv
 generalize x.num=n at *
 generalize (x.den:Int)=d at *
 replace hfA:=hZ hfA
 go_enter Tryz.func198,Tryz.ntmps198
 go_wp2_with fail
 refine (CM _ _).mono ?_
 rintro e w1 ⟨rfl,rfl⟩
 go_wp2_with fail
 go_ret
 exact ⟨rfl,hfA.out⟩
theorem Kh (n:Int):((tx n).toList == [49])=decide (n=1):=by rw [show [49]=itoa 1 from Qz.symm]; exact Jw _ _
theorem QR (x y:Rat) (hx:(x.den:Int)=1) (hy:(y.den:Int)=1):(x+y).num=x.num+y.num∧((x+y).den:Int)=1:=by
 have e1:x.den=1:=by omega
 have e2:y.den=1:=by omega
 rw [R3,e1,e2]
 constructor
 ·rw [Rat.num_mkRat]; simp
 ·rw [Rat.den_mkRat]; simp
def M2 (a b:Int):Prop:=(a.natAbs < 1000000000000∧b.natAbs < 10000)∨(a.natAbs < 10000∧b.natAbs < 1000000000000)∨(a.natAbs < 100000000∧b.natAbs < 100000000)
instance (a b:Int):Decidable (M2 a b):=inferInstanceAs (Decidable (_∨_∨_))
theorem M2.sz {a b:Int} (h:M2 a b):∃ i j,1≤i∧1≤j∧i+j=16∧a.natAbs < 10 ^ i∧b.natAbs < 10 ^ j:=by
 rcases h with ⟨h,k⟩ | ⟨h,k⟩ | ⟨h,k⟩
 ·exact ⟨12,4,by decide,by decide,by decide,h,k⟩
 ·exact ⟨4,12,by decide,by decide,by decide,h,k⟩
 ·exact ⟨8,8,by decide,by decide,by decide,h,k⟩
theorem M2.prod {a b:Int} (h:M2 a b):(a * b).natAbs < 10000000000000000:=by
 obtain ⟨i,j,-,-,hij,h1,h2⟩:=h.sz
 rw [BB]
 have:10 ^ i * 10 ^ j=10000000000000000:=by rw [← EI,hij]
 rw [← this]
 exact Bm (C8 _ (Db h2)) (VQ h1 (D8 (by decide)))
theorem M2.sizes {a b:Int} (h:M2 a b):(tx a).size≤13∧(tx b).size≤13:=by
 rcases h with ⟨h,k⟩ | ⟨h,k⟩ | ⟨h,k⟩ <;> exact ⟨Bw 12 _ (by decide) (by show _ < 1000000000000; omega),Bw 12 _ (by decide) (by show _ < 1000000000000; omega)⟩
theorem FF {n:Int} (h:(tx n).size≤9):n.natAbs < 1000000000:=by
 have h:(tx (n.natAbs:Int)).size≤9:=by
  rcases EY n 0 with h9 | h9
  ·have:=FX n h9
   rw [show (n.natAbs:Int)=-n by omega]; omega
  ·rw [show (n.natAbs:Int)=n by omega]; exact h
 rw [Di,BI (Af _),AV] at h
 have h1:=(Cq (decDigits n.natAbs) 0 (B4 _)).2
 rw [BP,Ay,FR] at h1
 have h2:10 ^ (decDigits n.natAbs).length≤10 ^ 9:=BK (by decide) h
 exact An h1 h2
theorem KA (n:Int) (h:n.natAbs < 1000000000000):∃ v b,(b=true→v=n∧n.natAbs < 1000000000)∧(b=true∨b=false)∧Hid (∀ W,Calls Tryz.prog 138 #[.string (tx n),.int .i64 9] W fun e w'=>e=.returned (.tuple #[.int .i64 v,.bool b])∧Fr W w'):=by
 have hs:(tx n).size≤13:=Bw 12 _ (by decide) h
 by_cases h9:(tx n).size≤9
 ·exact ⟨n,true,fun _=>⟨rfl,FF h9⟩,.inl rfl,fun W=>Bh n 9 (by omega) (by omega) W (by omega)⟩
 ·exact ⟨0,false,(fun e=>by cases e),.inr rfl,fun W=>(JK n 9 W (by omega) (by omega)).mono (by rintro e w' ⟨rfl,rfl⟩; exact ⟨rfl,Fr.refl _⟩)⟩
theorem LC (a b:Int) (h:M2 a b) (w:World) (hG:G w) :
 Calls Tryz.prog 80 #[.string (tx a),.string (tx b)] w fun e w'=>e=.returned (.string (tx (a * b)))∧Fr w w':=by
 have hsz:=h.sizes
 have hpr:=h.prod
 obtain ⟨i,j,hi,hj,hij,h1,h2⟩:=h.sz
 have hA:a.natAbs < 1000000000000:=by rcases h with h | h | h <;> omega
 have hB:b.natAbs < 1000000000000:=by rcases h with h | h | h <;> omega
 obtain ⟨va,ba,ha1,ha2,hla⟩:=KA a hA
 obtain ⟨vb,bb,hb1,hb2,hlb⟩:=KA b hB
 have hc1:(tx (a.natAbs:Int)).size≤i:=by rw [B0]; exact DN i _ hi h1
 have hc2:(tx (b.natAbs:Int)).size≤j:=by rw [B0]; exact DN j _ hj h2
 have hm2:(a * b).natAbs=a.natAbs * b.natAbs:=BB a b
 have hp:Hid (((a.natAbs * b.natAbs:Nat):Int)=(a.natAbs:Int) * (b.natAbs:Int)):=AK _ _
 have hdm:=hZ (fun W (hW:G W)=>WF a.natAbs b.natAbs (by omega) (by omega) (by omega) (by omega) W hW)
 have hnn:(0:Int)≤((a.natAbs * b.natAbs:Nat):Int):=Af _
 have hszp:(tx ((a.natAbs * b.natAbs:Nat):Int)).size≤1000000000:=by
  have:=Bw 18 ((a.natAbs * b.natAbs:Nat):Int) (by omega) (by omega)
  omega
 have hof:=hZ (fun W (hW:G W)=>B5 (a * b) (by omega) (by omega) W hW)
 have hgoal:∀ s:Bool,(s=(decide (a < 0) != decide (b < 0)))→(if s then -((a.natAbs * b.natAbs:Nat):Int) else ((a.natAbs * b.natAbs:Nat):Int))=a * b:=fun s hs=>by
  rw [hs,hp.out]
  rcases EY a 0 with h | h <;> rcases EY b 0 with k | k
  ·rw [Ab h,Ab k,show (a.natAbs:Int)=-a by omega,show (b.natAbs:Int)=-b by omega]; exact Int.neg_mul_neg a b
  ·rw [Ab h,Aa (by omega),show (a.natAbs:Int)=-a by omega,show (b.natAbs:Int)=b by omega]; show -(-a * b)=a * b; rw [Int.neg_mul,Ny]
  ·rw [Aa (by omega),Ab k,show (a.natAbs:Int)=a by omega,show (b.natAbs:Int)=-b by omega]; show -(a * -b)=a * b; rw [Int.mul_neg,Ny]
  ·rw [Aa (by omega),Aa (by omega),show (a.natAbs:Int)=a by omega,show (b.natAbs:Int)=b by omega]; rfl
 have sp:∀ (n:Int) (W:World),(tx n).size≤13→Calls Tryz.prog 137 #[.string (tx n)] W fun e w'=>e=.returned (.tuple #[.bool (decide (n < 0)),.string (tx (n.natAbs:Int))])∧Fr W w':=fun n W hn=>by
  rcases EY n 0 with h | h
  ·rw [Ab h,show (n.natAbs:Int)=-n by omega]; exact IU n h W (by omega)
  ·rw [Aa (by omega),show (n.natAbs:Int)=n by omega]; exact IR n h W (by omega)
 have spA:=fun W=>sp a W hsz.1
 have spB:=fun W=>sp b W hsz.2
 by_cases hboth:ba=true∧bb=true
 ·obtain ⟨rfl,rfl⟩:=hboth
  obtain ⟨rfl,-⟩:=ha1 rfl
  obtain ⟨rfl,-⟩:=hb1 rfl
  have k1:IntKind.i64.wrap (va * vb)=va * vb:=Aj _ (by omega)
  clear ha2 hb2 hgoal hdm hp hnn hszp spA spB sp hm2 hc1 hc2 hpr h1 h2 hA hB hij hsz h ha1 hb1
  go_enter Tryz.func80,Tryz.ntmps80
  go_wp2_with fail
  refine (hla.out _).mono ?_; rintro e w1 ⟨rfl,hf1⟩
  go_wp2_with fail
  refine (hlb.out _).mono ?_; rintro e w2 ⟨rfl,hf2⟩
  go_wp2_with fail
  refine (hof.out _ (hG.fr (hf1.trans hf2))).mono ?_; rintro e w3 ⟨rfl,hf3⟩
  go_wp2_with fail
  go_ret
  exact ⟨rfl,(hf1.trans hf2).trans hf3⟩
 ·obtain ⟨sA,hsA⟩:∃ sA,sA=decide (a < 0):=⟨_,rfl⟩
  obtain ⟨sB,hsB⟩:∃ sB,sB=decide (b < 0):=⟨_,rfl⟩
  rw [← hsA] at spA hgoal
  rw [← hsB] at spB hgoal
  have hjo:=hZ (fun W=>CX (sA != sB) _ hnn W hszp)
  replace hgoal:=hZ (hgoal (sA != sB) rfl)
  generalize ((a.natAbs * b.natAbs:Nat):Int)=p at *
  generalize tx (a.natAbs:Int)=ta at *
  generalize tx (b.natAbs:Int)=tb' at *
  replace spA:=hZ spA
  replace spB:=hZ spB
  replace hsA:=hZ hsA
  replace hsB:=hZ hsB
  clear hm2 hp hnn hszp sp hpr h1 h2 hA hB hij hsz h ha1 hb1 hof
  rcases ha2 with rfl | rfl <;> rcases hb2 with rfl | rfl
  ·exact absurd ⟨rfl,rfl⟩ hboth
  all_goals
   clear hboth
   cases sA <;> cases sB
   all_goals
    go_enter Tryz.func80,Tryz.ntmps80
    go_wp2_with fail
    refine (hla.out _).mono ?_; rintro e w1 ⟨rfl,hf1⟩
    go_wp2_with fail
    first
     | (refine (hlb.out _).mono ?_; rintro e w0 ⟨rfl,hf0⟩; replace hf1:=hf1.trans hf0; go_wp2_with fail; refine (spA.out _).mono ?_; rintro e w2 ⟨rfl,hf2⟩)
     | (refine (spA.out _).mono ?_; rintro e w2 ⟨rfl,hf2⟩)
    replace hf2:=hf1.trans hf2
    go_wp2_with fail
    refine (spB.out _).mono ?_; rintro e w3 ⟨rfl,hf3⟩
    go_wp2_with fail
    refine (hdm.out _ (hG.fr (hf2.trans hf3))).mono ?_; rintro e w4 ⟨rfl,hf4⟩
    go_wp2_with fail
    refine (hjo.out _).mono ?_; rintro e w5 ⟨rfl,rfl⟩
    go_wp2_with fail
    go_ret
    exact ⟨by rw [← hgoal.out]; rfl,(hf2.trans hf3).trans hf4⟩
theorem Lh (n:Int) (h:n.natAbs < 1000000000000):∃ v b,(b=true→v=n∧n.natAbs < 1000000000)∧(b=true∨b=false)∧Hid (∀ W,Calls Tryz.prog 236 #[.string (tx n)] W fun e w'=>e=.returned (.tuple #[.int .i64 v,.bool b])∧Fr W w'):=by
 have hs:(tx n).size≤13:=Bw 12 _ (by decide) h
 by_cases h9:(tx n).size≤9
 ·refine ⟨n,true,fun _=>⟨rfl,FF h9⟩,.inl rfl,fun w=>?_⟩
  have d1:decide ((9:Int) < ((tx n).size:Int))=false:=Aa (by omega)
  have ha:=hZ (fun W=>Jg n (by omega) (by omega) W)
  clear h hs h9
  go_enter Tryz.func236,Tryz.ntmps236
  go_wp2_with fail
  refine (ha.out _).mono ?_
  rintro e w1 ⟨rfl,hf1⟩
  go_wp2_with fail
  go_quiet (fail)
  go_wp2_with fail
  go_ret2
  exact ⟨rfl,hf1.drewN _⟩
 ·refine ⟨0,false,(fun e=>by cases e),.inr rfl,fun w=>?_⟩
  have d1:decide ((9:Int) < ((tx n).size:Int))=true:=Ab (by omega)
  clear h hs h9
  go_enter Tryz.func236,Tryz.ntmps236
  go_wp2_with fail
  go_ret2
  exact ⟨rfl,Fr.refl _⟩
theorem Kv (n d:Int) (hn:n.natAbs < 1000000000000) (hd:d.natAbs < 1000000000000):∃ v u b,(b=true→v=n∧u=d∧n.natAbs < 1000000000∧d.natAbs < 1000000000)∧(b=true∨b=false) ∧
 Hid (∀ W,Calls Tryz.prog 191 #[.agg #[sv n,sv d]] W fun e w'=>e=.returned (.tuple #[.int .i64 v,.int .i64 u,.bool b])∧Fr W w'):=by
 obtain ⟨v,a,ha,ha2,h1⟩:=Lh n hn
 obtain ⟨u,b,hb,hb2,h2⟩:=Lh d hd
 refine ⟨v,u,a && b,fun h=>?_,by cases a <;> cases b <;> simp,fun w=>?_⟩
 ·rw [AW] at h
  exact ⟨(ha h.1).1,(hb h.2).1,(ha h.1).2,(hb h.2).2⟩
 ·have hfA:Fr w (w.alloc (.cells #[sv n,sv d] 194)):=(Fr.refl w).alloc _
  have p1:=Cw w (sv n) (sv d) 194
  have p2:=Cv w (sv n) (sv d) 194
  have c1:=p1.1
  have c2:=p2.1
  clear p1 p2 hn hd ha hb
  replace hfA:=hZ hfA
  rcases ha2 with rfl | rfl <;> rcases hb2 with rfl | rfl
  all_goals
   go_enter Tryz.func191,Tryz.ntmps191
   go_wp2_with fail
   refine (h1.out _).mono ?_
   rintro e w1 ⟨rfl,hf1⟩
   replace c2:=hf1.keep c2
   go_wp2_with fail
   refine (h2.out _).mono ?_
   rintro e w2 ⟨rfl,hf2⟩
   go_wp2_with fail
   go_ret3
   exact ⟨rfl,(hfA.out.trans hf1).trans hf2⟩
theorem Qs (x y:Rat):Rat.divInt (x.num * y.num) ((x.den:Int) * (y.den:Int))=x * y:=by
 rw [← L8,IF,IF]
def Xu (x y:Rat):Prop:=M2 x.num y.num∧M2 x.den y.den
instance (x y:Rat):Decidable (Xu x y):=inferInstanceAs (Decidable (_∧_))
theorem WD (x y:Rat) (h:Xu x y) (w:World) (hG:G w) :
 Calls Tryz.prog 125 #[qv x,qv y] w fun e w'=>e=.returned (qv (x * y))∧Fr w w':=by
 obtain ⟨hn9,hd9⟩:=h
 have hdx:=Fm x
 have hdy:=Fm y
 have hM1:=fun W (hW:Fr w W)=>LC x.num y.num hn9 W (hG.fr hW)
 have hM2:=fun W (hW:Fr w W)=>LC x.den y.den hd9 W (hG.fr hW)
 have hb1:=hn9.prod
 have hb2:=hd9.prod
 have hL:=fun W (hW:Fr w W)=>K8 (x.num * y.num) ((x.den:Int) * (y.den:Int)) (by unfold Sm; omega) (by unfold Sm; omega) (Fw (by omega) (by omega)) W (hG.fr hW)
 rw [Qs] at hL
 have hof:=fun W (hW:Fr w W)=>MY (x.num * y.num) (x.den * y.den) (by unfold Jn; omega) (Js hdx hdy) (by unfold Jn; rw [AK]; omega) W (hG.fr hW)
 rw [AK,← Rat.mul_def'] at hof
 obtain ⟨v1,u1,b1,hv1,hB1,h1⟩:=Kv x.num x.den (by rcases hn9 with h | h | h <;> omega) (by rcases hd9 with h | h | h <;> omega)
 obtain ⟨v2,u2,b2,hv2,hB2,h2⟩:=Kv y.num y.den (by rcases hn9 with h | h | h <;> omega) (by rcases hd9 with h | h | h <;> omega)
 unfold qv at hL hof ⊢
 generalize (x * y).num=rn at *
 generalize ((x * y).den:Int)=rd at *
 generalize x.num=n at *
 generalize y.num=m at *
 generalize (x.den:Int)=d at *
 generalize (y.den:Int)=c at *
 have z1:IntKind.i64.wrap (n * m)=n * m:=Aj _ (by omega)
 have z2:IntKind.i64.wrap (d * c)=d * c:=Aj _ (by omega)
 replace hM1:=hZ hM1
 replace hM2:=hZ hM2
 replace hL:=hZ hL
 replace hof:=hZ hof
 clear hdx hdy hb1 hb2 hn9 hd9
 obtain ⟨wb,hwb⟩:∃ wb,wb=Et w [(.cells #[sv n,sv d] 194),(.cells #[sv m,sv c] 194),(.cells #[.string ⟨#[]⟩,.string ⟨#[]⟩] 194)]:=⟨_,rfl⟩
 have hfb:Fr w wb:=by rw [hwb]; exact F5 _ w
 have g0:wb.heap[w.heap.size]?=some (.cells #[sv n,sv d] 194 (0,0)):=by rw [hwb]; exact Cd _ w 0 _ rfl
 have g1:wb.heap[w.heap.size+1]?=some (.cells #[sv m,sv c] 194 (0,0)):=by rw [hwb]; exact Cd _ w 1 _ rfl
 have g2:wb.heap[w.heap.size+2]?=some (.cells #[.string ⟨#[]⟩,.string ⟨#[]⟩] 194 (0,0)):=by rw [hwb]; exact Cd _ w 2 _ rfl
 have b0:wb.cell? ⟨w.heap.size,0,none⟩=some (sv n):=A0 g0 0
 have b1:wb.cell? ⟨w.heap.size,1,none⟩=some (sv d):=A0 g0 1
 have b2:wb.cell? ⟨w.heap.size+1,0,none⟩=some (sv m):=A0 g1 0
 have b3:wb.cell? ⟨w.heap.size+1,1,none⟩=some (sv c):=A0 g1 1
 have q4:wb.cell? ⟨w.heap.size+1+1,0,none⟩=some (.string ⟨#[]⟩):=A0 g2 0
 have q5:wb.cell? ⟨w.heap.size+1+1,1,none⟩=some (.string ⟨#[]⟩):=A0 g2 1
 have q6:wb.frozen? ⟨w.heap.size+1+1,0,none⟩=false:=by unfold World.frozen?; rw [g2]; rfl
 have q7:wb.frozen? ⟨w.heap.size+1+1,1,none⟩=false:=by unfold World.frozen?; rw [g2]; rfl
 clear g0 g1 g2
 rcases hB1 with rfl | rfl
 ·rw [(hv1 rfl).1,(hv1 rfl).2.1] at h1
  rcases hB2 with rfl | rfl
  ·rw [(hv2 rfl).1,(hv2 rfl).2.1] at h2
   clear hv1 hv2
   go_enter Tryz.func125,Tryz.ntmps125
   go_upto_region 1 with (fail)
   change Code.wp _ _ _ _ (Et w [(.cells #[sv n,sv d] 194),(.cells #[sv m,sv c] 194),(.cells #[.string ⟨#[]⟩,.string ⟨#[]⟩] 194)])
   rw [← hwb]
   clear hwb
   go_wp2_with fail
   refine (h1.out _).mono ?_
   rintro e w1 ⟨rfl,hf1⟩
   replace hfb:=hfb.trans hf1
   replace b0:=hf1.keep b0
   replace b1:=hf1.keep b1
   replace b2:=hf1.keep b2
   replace b3:=hf1.keep b3
   replace q6:=hf1.keepf q4 q6
   replace q7:=hf1.keepf q5 q7
   replace q4:=hf1.keep q4
   replace q5:=hf1.keep q5
   clear hf1
   go_wp2_with fail
   refine (h2.out _).mono ?_
   rintro e w2 ⟨rfl,hf2⟩
   replace hfb:=hfb.trans hf2
   replace b0:=hf2.keep b0
   replace b1:=hf2.keep b1
   replace b2:=hf2.keep b2
   replace b3:=hf2.keep b3
   replace q6:=hf2.keepf q4 q6
   replace q7:=hf2.keepf q5 q7
   replace q4:=hf2.keep q4
   replace q5:=hf2.keep q5
   clear hf2
   go_wp2_with fail
   refine (hof.out _ hfb).mono ?_
   rintro e w3 ⟨rfl,hf3⟩
   replace hfb:=hfb.trans hf3
   replace b0:=hf3.keep b0
   replace b1:=hf3.keep b1
   replace b2:=hf3.keep b2
   replace b3:=hf3.keep b3
   replace q6:=hf3.keepf q4 q6
   replace q7:=hf3.keepf q5 q7
   replace q4:=hf3.keep q4
   replace q5:=hf3.keep q5
   clear hf3
   have qs:=AO w3 (w.heap.size+1+1) (sv rn) (sv rd) _ _ q4 q5
   have q8:=qs.2.2.1
   have u0:=hZ qs.1
   have u1:=hZ qs.2.1
   have hfx:=hZ qs.2.2.2
   clear qs
   go_wp2_with fail
   have v0:=u0.out
   have v1:=u1.out
   refine At (v:=.agg #[sv rn,sv rd]) (by simp [results,Tryz.results125,go_sem,v0,v1]) rfl ⟨rfl, ?_⟩
   exact ((Fx.of_fr (p:=fun q=>q=w.heap.size+1+1) hfb).trans hfx.out).toFr (fun q hq e=>by have e:q=w.heap.size+1+1:=e; omega)
  ·clear hv1 hv2
   go_enter Tryz.func125,Tryz.ntmps125
   go_upto_region 1 with (fail)
   change Code.wp _ _ _ _ (Et w [(.cells #[sv n,sv d] 194),(.cells #[sv m,sv c] 194),(.cells #[.string ⟨#[]⟩,.string ⟨#[]⟩] 194)])
   rw [← hwb]
   clear hwb
   go_wp2_with fail
   refine (h1.out _).mono ?_
   rintro e w1 ⟨rfl,hf1⟩
   replace hfb:=hfb.trans hf1
   replace b0:=hf1.keep b0
   replace b1:=hf1.keep b1
   replace b2:=hf1.keep b2
   replace b3:=hf1.keep b3
   replace q6:=hf1.keepf q4 q6
   replace q7:=hf1.keepf q5 q7
   replace q4:=hf1.keep q4
   replace q5:=hf1.keep q5
   clear hf1
   go_wp2_with fail
   refine (h2.out _).mono ?_
   rintro e w2 ⟨rfl,hf2⟩
   replace hfb:=hfb.trans hf2
   replace b0:=hf2.keep b0
   replace b1:=hf2.keep b1
   replace b2:=hf2.keep b2
   replace b3:=hf2.keep b3
   replace q6:=hf2.keepf q4 q6
   replace q7:=hf2.keepf q5 q7
   replace q4:=hf2.keep q4
   replace q5:=hf2.keep q5
   clear hf2
   go_wp2_with fail
   replace q4:=hZ q4
   replace q5:=hZ q5
   replace q6:=hZ q6
   replace q7:=hZ q7
   go_region_held3 (fun w'=>w'.cell? ⟨w.heap.size,0,none⟩=some (sv n)∧w'.cell? ⟨w.heap.size,1,none⟩=some (sv d)∧w'.cell? ⟨w.heap.size+1,0,none⟩=some (sv m)∧w'.cell? ⟨w.heap.size+1,1,none⟩=some (sv c))
    (first | exact ⟨b0,b1,b2,b3⟩ | (go_split_ands; refine ⟨?_, ?_, ?_, ?_⟩ <;> (refine Fr.keep (by assumption) ?_; assumption)) | (go_split_ands; (try dsimp only); (repeat' apply And.intro) <;> (rw [Ad _ _ _ _ (by intro e; injection e with e; omega),Ad _ _ _ _ (by intro e; injection e with e; omega)]; assumption)) | go_keep)
    (first
     | (go_at_call 80; (with_reducible refine (hM1.out _ ?_).mono ?_); (exact Bq); rintro e w3 ⟨rfl,hf3⟩)
     | (go_at_call 80; (with_reducible refine (hM2.out _ ?_).mono ?_); (exact Bq); rintro e w4 ⟨rfl,hf4⟩)
     | (go_at_call 193; (with_reducible refine (hL.out _ ?_).mono ?_); (exact Bq); rintro e w5 ⟨rfl,hf5⟩; have hfz:Fr w2 w5:=(by exact Bq); have t4:=hfz.keep q4.out; have t5:=hfz.keep q5.out; have t6:=hfz.keepf q4.out q6.out; have t7:=hfz.keepf q5.out q7.out; have qs:=AO w5 (w.heap.size+1+1) (sv rn) (sv rd) _ _ t4 t5; have q8:=qs.2.2.1; have u0:=hZ qs.1; have u1:=hZ qs.2.1; have hfx:=hZ qs.2.2.2; clear qs))
   clear q8 t4 t5 t6 t7
   replace hfb:=hfb.trans hfz
   go_wp2_with fail
   have v0:=u0.out
   have v1:=u1.out
   refine At (v:=.agg #[sv rn,sv rd]) (by simp [results,Tryz.results125,go_sem,v0,v1]) rfl ⟨rfl, ?_⟩
   exact ((Fx.of_fr (p:=fun q=>q=w.heap.size+1+1) hfb).trans hfx.out).toFr (fun q hq e=>by have e:q=w.heap.size+1+1:=e; omega)
 ·clear hv1 hv2
  go_enter Tryz.func125,Tryz.ntmps125
  go_upto_region 1 with (fail)
  change Code.wp _ _ _ _ (Et w [(.cells #[sv n,sv d] 194),(.cells #[sv m,sv c] 194),(.cells #[.string ⟨#[]⟩,.string ⟨#[]⟩] 194)])
  rw [← hwb]
  clear hwb
  go_wp2_with fail
  refine (h1.out _).mono ?_
  rintro e w1 ⟨rfl,hf1⟩
  replace hfb:=hfb.trans hf1
  replace b0:=hf1.keep b0
  replace b1:=hf1.keep b1
  replace b2:=hf1.keep b2
  replace b3:=hf1.keep b3
  replace q6:=hf1.keepf q4 q6
  replace q7:=hf1.keepf q5 q7
  replace q4:=hf1.keep q4
  replace q5:=hf1.keep q5
  clear hf1
  go_wp2_with fail
  replace q4:=hZ q4
  replace q5:=hZ q5
  replace q6:=hZ q6
  replace q7:=hZ q7
  go_region_held3 (fun w'=>w'.cell? ⟨w.heap.size,0,none⟩=some (sv n)∧w'.cell? ⟨w.heap.size,1,none⟩=some (sv d)∧w'.cell? ⟨w.heap.size+1,0,none⟩=some (sv m)∧w'.cell? ⟨w.heap.size+1,1,none⟩=some (sv c))
   (first | exact ⟨b0,b1,b2,b3⟩ | (go_split_ands; refine ⟨?_, ?_, ?_, ?_⟩ <;> (refine Fr.keep (by assumption) ?_; assumption)) | (go_split_ands; (try dsimp only); (repeat' apply And.intro) <;> (rw [Ad _ _ _ _ (by intro e; injection e with e; omega),Ad _ _ _ _ (by intro e; injection e with e; omega)]; assumption)) | go_keep)
   (first
    | (go_at_call 80; (with_reducible refine (hM1.out _ ?_).mono ?_); (exact Bq); rintro e w3 ⟨rfl,hf3⟩)
    | (go_at_call 80; (with_reducible refine (hM2.out _ ?_).mono ?_); (exact Bq); rintro e w4 ⟨rfl,hf4⟩)
    | (go_at_call 193; (with_reducible refine (hL.out _ ?_).mono ?_); (exact Bq); rintro e w5 ⟨rfl,hf5⟩; have hfz:Fr w1 w5:=(by exact Bq); have t4:=hfz.keep q4.out; have t5:=hfz.keep q5.out; have t6:=hfz.keepf q4.out q6.out; have t7:=hfz.keepf q5.out q7.out; have qs:=AO w5 (w.heap.size+1+1) (sv rn) (sv rd) _ _ t4 t5; have q8:=qs.2.2.1; have u0:=hZ qs.1; have u1:=hZ qs.2.1; have hfx:=hZ qs.2.2.2; clear qs))
  clear q8 t4 t5 t6 t7
  replace hfb:=hfb.trans hfz
  go_wp2_with fail
  have v0:=u0.out
  have v1:=u1.out
  refine At (v:=.agg #[sv rn,sv rd]) (by simp [results,Tryz.results125,go_sem,v0,v1]) rfl ⟨rfl, ?_⟩
  exact ((Fx.of_fr (p:=fun q=>q=w.heap.size+1+1) hfb).trans hfx.out).toFr (fun q hq e=>by have e:q=w.heap.size+1+1:=e; omega)
theorem QS (x y:Rat):Rat.divInt (x.num * (y.den:Int)+y.num * (x.den:Int)) ((x.den:Int) * (y.den:Int))=x+y:=by
 rw [R3,← AK]; exact Rat.divInt_ofNat _ _
def Xv (x y:Rat):Prop:=M2 x.num y.den∧M2 y.num x.den∧M2 x.den y.den
instance (x y:Rat):Decidable (Xv x y):=inferInstanceAs (Decidable (_∧_))
theorem WH (x y:Rat) (h:Xv x y) (w:World) (hG:G w) :
 Calls Tryz.prog 124 #[qv x,qv y] w fun e w'=>e=.returned (qv (x+y))∧Fr w w':=by
 obtain ⟨h19,h29,h39⟩:=h
 have hdx:=Fm x
 have hdy:=Fm y
 have hM1:=fun W (hW:Fr w W)=>LC x.num y.den h19 W (hG.fr hW)
 have hM2:=fun W (hW:Fr w W)=>LC y.num x.den h29 W (hG.fr hW)
 have hM3:=fun W (hW:Fr w W)=>LC x.den y.den h39 W (hG.fr hW)
 have hb1:=h19.prod
 have hb2:=h29.prod
 have hb3:=h39.prod
 have hAd:=fun W (hW:Fr w W)=>Nr (x.num * y.den) (y.num * x.den) (by unfold Sm; omega) (by unfold Sm; omega) W (hG.fr hW)
 have hL:=fun W (hW:Fr w W)=>K8 (x.num * y.den+y.num * x.den) ((x.den:Int) * (y.den:Int)) (by unfold Sm; omega) (by unfold Sm; omega) (Fw (by omega) (by omega)) W (hG.fr hW)
 rw [QS] at hL
 have hof:=fun W (hW:Fr w W)=>MY (x.num * y.den+y.num * x.den) (x.den * y.den) (by unfold Jn; omega) (Js hdx hdy) (by unfold Jn; rw [AK]; omega) W (hG.fr hW)
 rw [AK,← R3] at hof
 have hs1:=hZ (fun W (hW:Fr w W)=>Nr x.num y.num (by rcases h19 with h | h | h <;> unfold Sm <;> omega) (by rcases h29 with h | h | h <;> unfold Sm <;> omega) W (hG.fr hW))
 have hao:=hZ (QR x y)
 obtain ⟨v1,u1,b1,hv1,hB1,h1⟩:=Kv x.num x.den (by rcases h19 with h | h | h <;> omega) (by rcases h39 with h | h | h <;> omega)
 obtain ⟨v2,u2,b2,hv2,hB2,h2⟩:=Kv y.num y.den (by rcases h29 with h | h | h <;> omega) (by rcases h39 with h | h | h <;> omega)
 unfold qv at hL hof ⊢
 generalize (x+y).num=rn at *
 generalize ((x+y).den:Int)=rd at *
 generalize x.num=n at *
 generalize y.num=m at *
 generalize (x.den:Int)=d at *
 generalize (y.den:Int)=c at *
 have z1:IntKind.i64.wrap (n * c)=n * c:=Aj _ (by omega)
 have z2:IntKind.i64.wrap (m * d)=m * d:=Aj _ (by omega)
 have z3:IntKind.i64.wrap (n * c+m * d)=n * c+m * d:=Aj _ (by omega)
 have z4:IntKind.i64.wrap (d * c)=d * c:=Aj _ (by omega)
 have t1:=Kh d
 have t2:=Kh c
 replace hM1:=hZ hM1
 replace hM2:=hZ hM2
 replace hM3:=hZ hM3
 replace hAd:=hZ hAd
 replace hL:=hZ hL
 replace hof:=hZ hof
 clear hdx hdy hb1 hb2 hb3 h19 h29 h39
 obtain ⟨wb,hwb⟩:∃ wb,wb=Et w [(.cells #[sv n,sv d] 194),(.cells #[sv m,sv c] 194),(.cells #[.string ⟨#[]⟩,.string ⟨#[]⟩] 194)]:=⟨_,rfl⟩
 have hfb:Fr w wb:=by rw [hwb]; exact F5 _ w
 have g0:wb.heap[w.heap.size]?=some (.cells #[sv n,sv d] 194 (0,0)):=by rw [hwb]; exact Cd _ w 0 _ rfl
 have g1:wb.heap[w.heap.size+1]?=some (.cells #[sv m,sv c] 194 (0,0)):=by rw [hwb]; exact Cd _ w 1 _ rfl
 have g2:wb.heap[w.heap.size+2]?=some (.cells #[.string ⟨#[]⟩,.string ⟨#[]⟩] 194 (0,0)):=by rw [hwb]; exact Cd _ w 2 _ rfl
 have b0:wb.cell? ⟨w.heap.size,0,none⟩=some (sv n):=A0 g0 0
 have b1:wb.cell? ⟨w.heap.size,1,none⟩=some (sv d):=A0 g0 1
 have b2:wb.cell? ⟨w.heap.size+1,0,none⟩=some (sv m):=A0 g1 0
 have b3:wb.cell? ⟨w.heap.size+1,1,none⟩=some (sv c):=A0 g1 1
 have q4:wb.cell? ⟨w.heap.size+1+1,0,none⟩=some (.string ⟨#[]⟩):=A0 g2 0
 have q5:wb.cell? ⟨w.heap.size+1+1,1,none⟩=some (.string ⟨#[]⟩):=A0 g2 1
 have q6:wb.frozen? ⟨w.heap.size+1+1,0,none⟩=false:=by unfold World.frozen?; rw [g2]; rfl
 have q7:wb.frozen? ⟨w.heap.size+1+1,1,none⟩=false:=by unfold World.frozen?; rw [g2]; rfl
 clear g0 g1 g2
 by_cases hone:d=1∧c=1
 ·rw [Ab hone.1] at t1
  rw [Ab hone.2] at t2
  have hr:=hZ (hao.out hone.1 hone.2)
  rw [hr.out.1,hr.out.2,show sv 1=.string ⟨#[49]⟩ from by rw [sv,E1]]
  replace hone:=hZ hone
  clear hv1 hv2 hB1 hB2
  go_enter Tryz.func124,Tryz.ntmps124
  go_upto_region 1 with (fail)
  change Code.wp _ _ _ _ (Et w [(.cells #[sv n,sv d] 194),(.cells #[sv m,sv c] 194),(.cells #[.string ⟨#[]⟩,.string ⟨#[]⟩] 194)])
  rw [← hwb]
  clear hwb
  go_wp2_with fail
  refine (hs1.out _ hfb).mono ?_
  rintro e w3 ⟨rfl,hf3⟩
  replace hfb:=hfb.trans hf3
  replace b0:=hf3.keep b0
  replace b1:=hf3.keep b1
  replace b2:=hf3.keep b2
  replace b3:=hf3.keep b3
  replace q6:=hf3.keepf q4 q6
  replace q7:=hf3.keepf q5 q7
  replace q4:=hf3.keep q4
  replace q5:=hf3.keep q5
  clear hf3
  have qs:=AO w3 (w.heap.size+1+1) (sv (n+m)) (.string ⟨#[49]⟩) _ _ q4 q5
  have q8:=qs.2.2.1
  have u0:=hZ qs.1
  have u1:=hZ qs.2.1
  have hfx:=hZ qs.2.2.2
  clear qs
  go_wp2_with fail
  have v0:=u0.out
  have v1:=u1.out
  refine At (v:=.agg #[sv (n+m),.string ⟨#[49]⟩]) (by simp [results,Tryz.results124,go_sem,v0,v1]) rfl ⟨rfl, ?_⟩
  exact ((Fx.of_fr (p:=fun q=>q=w.heap.size+1+1) hfb).trans hfx.out).toFr (fun q hq e=>by have e:q=w.heap.size+1+1:=e; omega)
 ·have hor:(((tx d).toList == [49])=true∧((tx c).toList == [49])=false)∨((tx d).toList == [49])=false:=by
   rw [t1,t2]
   by_cases h9:d=1
   ·exact .inl ⟨Ab h9,Aa fun h8=>hone ⟨h9,h8⟩⟩
   ·exact .inr (Aa h9)
  have hv1:=hZ hv1
  have hv2:=hZ hv2
  clear hone hao t1 t2 hs1
  rcases hor with ⟨t1,t2⟩ | t1 <;> rcases hB1 with rfl | rfl <;> rcases hB2 with rfl | rfl
  all_goals
   (try rw [(hv1.out rfl).1,(hv1.out rfl).2.1] at h1)
   (try rw [(hv2.out rfl).1,(hv2.out rfl).2.1] at h2)
   go_enter Tryz.func124,Tryz.ntmps124
   go_upto_region 1 with (fail)
   change Code.wp _ _ _ _ (Et w [(.cells #[sv n,sv d] 194),(.cells #[sv m,sv c] 194),(.cells #[.string ⟨#[]⟩,.string ⟨#[]⟩] 194)])
   rw [← hwb]
   clear hwb
   go_wp2_with fail
   refine (h1.out _).mono ?_
   rintro e w1 ⟨rfl,hf1⟩
   replace hfb:=hfb.trans hf1
   replace b0:=hf1.keep b0
   replace b1:=hf1.keep b1
   replace b2:=hf1.keep b2
   replace b3:=hf1.keep b3
   replace q6:=hf1.keepf q4 q6
   replace q7:=hf1.keepf q5 q7
   replace q4:=hf1.keep q4
   replace q5:=hf1.keep q5
   clear hf1
   go_wp2_with fail
   first
    | (refine (h2.out _).mono ?_
       rintro e w2 ⟨rfl,hf2⟩
       replace hfb:=hfb.trans hf2
       replace b0:=hf2.keep b0
       replace b1:=hf2.keep b1
       replace b2:=hf2.keep b2
       replace b3:=hf2.keep b3
       replace q6:=hf2.keepf q4 q6
       replace q7:=hf2.keepf q5 q7
       replace q4:=hf2.keep q4
       replace q5:=hf2.keep q5
       clear hf2
       go_wp2_with fail
       first
        | (refine (hof.out _ hfb).mono ?_
           rintro e w3 ⟨rfl,hf3⟩
           replace hfb:=hfb.trans hf3
           replace b0:=hf3.keep b0
           replace b1:=hf3.keep b1
           replace b2:=hf3.keep b2
           replace b3:=hf3.keep b3
           replace q6:=hf3.keepf q4 q6
           replace q7:=hf3.keepf q5 q7
           replace q4:=hf3.keep q4
           replace q5:=hf3.keep q5
           clear hf3
           have qs:=AO w3 (w.heap.size+1+1) (sv rn) (sv rd) _ _ q4 q5
           have q8:=qs.2.2.1
           have u0:=hZ qs.1
           have u1:=hZ qs.2.1
           have hfx:=hZ qs.2.2.2
           clear qs
           go_wp2_with fail
           have v0:=u0.out
           have v1:=u1.out
           refine At (v:=.agg #[sv rn,sv rd]) (by simp [results,Tryz.results124,go_sem,v0,v1]) rfl ⟨rfl, ?_⟩
           exact ((Fx.of_fr (p:=fun q=>q=w.heap.size+1+1) hfb).trans hfx.out).toFr (fun q hq e=>by have e:q=w.heap.size+1+1:=e; omega))
        | (skip
           replace q4:=hZ q4
           replace q5:=hZ q5
           replace q6:=hZ q6
           replace q7:=hZ q7
           go_region_held3 (fun w'=>w'.cell? ⟨w.heap.size,0,none⟩=some (sv n)∧w'.cell? ⟨w.heap.size,1,none⟩=some (sv d)∧w'.cell? ⟨w.heap.size+1,0,none⟩=some (sv m)∧w'.cell? ⟨w.heap.size+1,1,none⟩=some (sv c))
            (first | exact ⟨b0,b1,b2,b3⟩ | (go_split_ands; refine ⟨?_, ?_, ?_, ?_⟩ <;> (refine Fr.keep (by assumption) ?_; assumption)) | (go_split_ands; (try dsimp only); (repeat' apply And.intro) <;> (rw [Ad _ _ _ _ (by intro e; injection e with e; omega),Ad _ _ _ _ (by intro e; injection e with e; omega)]; assumption)) | go_keep)
            (first
             | (go_at_call 80; (with_reducible refine (hM1.out _ ?_).mono ?_); (exact Bq); rintro e w3 ⟨rfl,hf3⟩)
             | (go_at_call 80; (with_reducible refine (hM2.out _ ?_).mono ?_); (exact Bq); rintro e w4 ⟨rfl,hf4⟩)
             | (go_at_call 80; (with_reducible refine (hM3.out _ ?_).mono ?_); (exact Bq); rintro e w6 ⟨rfl,hf6⟩)
             | (go_at_call 79; (with_reducible refine (hAd.out _ ?_).mono ?_); (exact Bq); rintro e w7 ⟨rfl,hf7⟩)
             | (go_at_call 193; (with_reducible refine (hL.out _ ?_).mono ?_); (exact Bq); rintro e w5 ⟨rfl,hf5⟩; have hfz:Fr w2 w5:=(by exact Bq); have t4:=hfz.keep q4.out; have t5:=hfz.keep q5.out; have t6:=hfz.keepf q4.out q6.out; have t7:=hfz.keepf q5.out q7.out; have qs:=AO w5 (w.heap.size+1+1) (sv rn) (sv rd) _ _ t4 t5; have q8:=qs.2.2.1; have u0:=hZ qs.1; have u1:=hZ qs.2.1; have hfx:=hZ qs.2.2.2; clear qs))
           clear q8 t4 t5 t6 t7
           replace hfb:=hfb.trans hfz
           go_wp2_with fail
           have v0:=u0.out
           have v1:=u1.out
           refine At (v:=.agg #[sv rn,sv rd]) (by simp [results,Tryz.results124,go_sem,v0,v1]) rfl ⟨rfl, ?_⟩
           exact ((Fx.of_fr (p:=fun q=>q=w.heap.size+1+1) hfb).trans hfx.out).toFr (fun q hq e=>by have e:q=w.heap.size+1+1:=e; omega)))
    | (skip
       replace q4:=hZ q4
       replace q5:=hZ q5
       replace q6:=hZ q6
       replace q7:=hZ q7
       go_region_held3 (fun w'=>w'.cell? ⟨w.heap.size,0,none⟩=some (sv n)∧w'.cell? ⟨w.heap.size,1,none⟩=some (sv d)∧w'.cell? ⟨w.heap.size+1,0,none⟩=some (sv m)∧w'.cell? ⟨w.heap.size+1,1,none⟩=some (sv c))
        (first | exact ⟨b0,b1,b2,b3⟩ | (go_split_ands; refine ⟨?_, ?_, ?_, ?_⟩ <;> (refine Fr.keep (by assumption) ?_; assumption)) | (go_split_ands; (try dsimp only); (repeat' apply And.intro) <;> (rw [Ad _ _ _ _ (by intro e; injection e with e; omega),Ad _ _ _ _ (by intro e; injection e with e; omega)]; assumption)) | go_keep)
        (first
         | (go_at_call 80; (with_reducible refine (hM1.out _ ?_).mono ?_); (exact Bq); rintro e w3 ⟨rfl,hf3⟩)
         | (go_at_call 80; (with_reducible refine (hM2.out _ ?_).mono ?_); (exact Bq); rintro e w4 ⟨rfl,hf4⟩)
         | (go_at_call 80; (with_reducible refine (hM3.out _ ?_).mono ?_); (exact Bq); rintro e w6 ⟨rfl,hf6⟩)
         | (go_at_call 79; (with_reducible refine (hAd.out _ ?_).mono ?_); (exact Bq); rintro e w7 ⟨rfl,hf7⟩)
         | (go_at_call 193; (with_reducible refine (hL.out _ ?_).mono ?_); (exact Bq); rintro e w5 ⟨rfl,hf5⟩; have hfz:Fr w1 w5:=(by exact Bq); have t4:=hfz.keep q4.out; have t5:=hfz.keep q5.out; have t6:=hfz.keepf q4.out q6.out; have t7:=hfz.keepf q5.out q7.out; have qs:=AO w5 (w.heap.size+1+1) (sv rn) (sv rd) _ _ t4 t5; have q8:=qs.2.2.1; have u0:=hZ qs.1; have u1:=hZ qs.2.1; have hfx:=hZ qs.2.2.2; clear qs))
       clear q8 t4 t5 t6 t7
       replace hfb:=hfb.trans hfz
       go_wp2_with fail
       have v0:=u0.out
       have v1:=u1.out
       refine At (v:=.agg #[sv rn,sv rd]) (by simp [results,Tryz.results124,go_sem,v0,v1]) rfl ⟨rfl, ?_⟩
       exact ((Fx.of_fr (p:=fun q=>q=w.heap.size+1+1) hfb).trans hfx.out).toFr (fun q hq e=>by have e:q=w.heap.size+1+1:=e; omega))
theorem U6 (x y:Rat):Rat.divInt (x.num * y.den) (x.den * y.num)=x / y:=by
 rw [Rat.div_def,Rat.inv_def,← L8,IF]
def ET (w:World) (b o:Nat) (xs:List Rat):Prop :=
 gN≤b∧b < w.heap.size∧∀ j x,xs[j]?=some x→(w.cell? ⟨b,o+j * 2,none⟩=some (sv x.num)∧w.frozen? ⟨b,o+j * 2,none⟩=false)∧(w.cell? ⟨b,o+j * 2+1,none⟩=some (sv (x.den:Int))∧w.frozen? ⟨b,o+j * 2+1,none⟩=false)
theorem ET.fx {p:Nat→Prop} {w w':World} {b o:Nat} {xs:List Rat} (h:ET w b o xs) (k:Fx p w w') (hp:¬ p b):ET w' b o xs :=
 ⟨h.1,An h.2.1 k.size,fun j x hx=>by
  obtain ⟨⟨h1,h2⟩,h3,h4⟩:=h.2.2 j x hx
  exact ⟨⟨k.keep h1 hp,k.keepf h1 h2 hp⟩,k.keep h3 hp,k.keepf h3 h4 hp⟩⟩
theorem ET.fr {w w':World} {b o:Nat} {xs:List Rat} (h:ET w b o xs) (k:Fr w w'):ET w' b o xs :=
 h.fx (p:=fun _=>False) (Fx.of_fr k) (fun e=>e)
theorem ET.set {w:World} {b o:Nat} {xs:List Rat} (h:ET w b o xs) {k:Nat} (hk:k < xs.length) (x:Rat):ET ((w.setCell ⟨b,o+k * 2,none⟩ (sv x.num)).setCell ⟨b,o+k * 2+1,none⟩ (sv (x.den:Int))) b o (xs.set k x):=by
 obtain ⟨h1,h2,h3⟩:=h
 have hs:∀ (p q:Addr) (u v:Value),((w.setCell p u).setCell q v).heap.size=w.heap.size:=fun p q u v=>by rw [Cf,Cf]
 refine ⟨h1,by rw [hs]; exact h2,fun j y hy=>?_⟩
 rw [Ao,Ao,Ao,Ao]
 have ne:∀ i l:Nat,i≠l→(⟨b,i,none⟩:Addr)≠⟨b,l,none⟩:=fun i l e e2=>by injection e2 with _ e2; exact e e2
 rw [BC] at hy
 by_cases e:k=j
 ·subst e
  rw [Al rfl,Al hk] at hy
  injection hy with hy; subst hy
  obtain ⟨⟨a1,a2⟩,a3,a4⟩:=h3 k _ (Ac hk)
  refine ⟨⟨?_,a2⟩, ?_,a4⟩
  ·rw [Ad _ _ _ _ (ne _ _ (by omega))]; exact Ar _ _ _ (by rw [a1]; rfl)
  ·exact Ar _ _ _ (by rw [Ad _ _ _ _ (ne _ _ (by omega)),a3]; rfl)
 ·rw [Ai e] at hy
  obtain ⟨⟨a1,a2⟩,a3,a4⟩:=h3 j y hy
  refine ⟨⟨?_,a2⟩, ?_,a4⟩
  ·rw [Ad _ _ _ _ (ne _ _ (by omega)),Ad _ _ _ _ (ne _ _ (by omega))]; exact a1
  ·rw [Ad _ _ _ _ (ne _ _ (by omega)),Ad _ _ _ _ (ne _ _ (by omega))]; exact a3
def Ck (xs:List Rat):List Value:=xs.flatMap fun x=>[sv x.num,sv (x.den:Int)]
theorem EM (xs ys:List Rat):Ck (xs ++ ys)=Ck xs ++ Ck ys:=by unfold Ck; rw [Ye]
theorem GU (xs:List Rat):(Ck xs).length=xs.length * 2:=by
 induction xs with
 | nil=>rfl
 | cons x l ih=>show ((sv x.num) :: (sv (x.den:Int)) :: Ck l).length=_; rw [A8,A8,ih,A8]; omega
theorem KU:∀ (xs:List Rat) (j:Nat) (x:Rat),xs[j]?=some x→(Ck xs)[j * 2]?=some (sv x.num)∧(Ck xs)[j * 2+1]?=some (sv (x.den:Int))
 | [],j,x,h=>by simp at h
 | y :: l,0,x,h=>by rw [Xz] at h; injection h with h; subst h; exact ⟨rfl,rfl⟩
 | y :: l,j+1,x,h=>by
   rw [BR] at h
   obtain ⟨a,b⟩:=KU l j x h
   have e:Ck (y :: l)=sv y.num :: sv (y.den:Int) :: Ck l:=rfl
   rw [e,show (j+1) * 2=j * 2+1+1 by omega,show j * 2+1+1+1=(j * 2+1)+1+1 by omega]
   exact ⟨by rw [BR,BR]; exact a,by rw [BR,BR]; exact b⟩
theorem GT (xs:List Rat):∀ u ∈ Ck xs,u.oneCell'=true:=fun u hu=>by
 unfold Ck at hu
 obtain ⟨x,-,hx⟩:=List.mem_flatMap.1 hu
 simp at hx
 rcases hx with rfl | rfl <;> rfl
theorem Eq {w:World} {base:Nat} {e:TypeId} {g n m cap:Nat} {xs:List Rat} (hb:gN≤base) (h:w.ownsRow base e 2 (.slice (some ⟨g,0,none⟩) n cap) m (Ck xs)):ET w g 0 xs∧n=m∧m=xs.length∧base≤g∧n≤cap:=by
 have h1:=h.1
 obtain ⟨a,b,c,d,f⟩:=A5 h
 refine ⟨⟨by omega,c,fun j x hx=>?_⟩,a,by rw [GU] at h1; omega,b,d⟩
 obtain ⟨k1,k2⟩:=KU xs j x hx
 rw [Ay]
 exact ⟨f _ _ k1,f _ _ k2⟩
structure DV (w:World) (ob oo:Nat) (hs:List (Nat×Nat×Nat)) (g:List (List Rat)):Prop where
 len:hs.length=g.length
 outer:ob < w.heap.size
 gob:gN≤ob
 cell:∀ (i:Nat) (h:Nat×Nat×Nat) (xs:List Rat),hs[i]?=some h→g[i]?=some xs→w.cell? ⟨ob,oo+i,none⟩=some (.slice (some ⟨h.1,h.2.1,none⟩) xs.length h.2.2)∧w.frozen? ⟨ob,oo+i,none⟩=false
 row:∀ (i:Nat) (h:Nat×Nat×Nat) (xs:List Rat),hs[i]?=some h→g[i]?=some xs→ET w h.1 h.2.1 xs∧h.1≠ob
 apart:∀ (i j:Nat) (hi hj:Nat×Nat×Nat),hs[i]?=some hi→hs[j]?=some hj→i≠j→hi.1≠hj.1
theorem DV.fx {p:Nat→Prop} {w w':World} {ob oo:Nat} {hs:List (Nat×Nat×Nat)} {g:List (List Rat)} (h:DV w ob oo hs g) (k:Fx p w w') (hp:∀ j,gb ob hs j→¬ p j):DV w' ob oo hs g :=
 ⟨h.len,An h.outer k.size,h.gob,
  fun i hd xs h1 h2=>by
   have:=h.cell i hd xs h1 h2
   exact ⟨k.keep this.1 (hp _ (.inl rfl)),k.keepf this.1 this.2 (hp _ (.inl rfl))⟩,
  fun i hd xs h1 h2=>by
   have:=h.row i hd xs h1 h2
   exact ⟨this.1.fx k (hp _ (.inr ⟨hd,Ae h1,rfl⟩)),this.2⟩,
  h.apart⟩
theorem DV.fr {w w':World} {ob oo:Nat} {hs:List (Nat×Nat×Nat)} {g:List (List Rat)} (h:DV w ob oo hs g) (k:Fr w w'):DV w' ob oo hs g :=
 h.fx (p:=fun _=>False) (Fx.of_fr k) (fun _ _ e=>e)
theorem DV.ge {w:World} {ob oo:Nat} {hs:List (Nat×Nat×Nat)} {g:List (List Rat)} (h:DV w ob oo hs g):∀ k,gb ob hs k→gN≤k:=by
 rintro k (rfl | ⟨hd,hm,rfl⟩)
 ·exact h.gob
 ·obtain ⟨i,hi⟩:=A6 hm
  have hlt:i < g.length:=by rw [← h.len]; exact (Ag.1 hi).1
  exact (h.row i hd _ hi (Ac hlt)).1.1
theorem DV.at {w:World} {ob oo:Nat} {hs:List (Nat×Nat×Nat)} {g:List (List Rat)} (h:DV w ob oo hs g) {i:Nat} (hi:i < g.length) :
 ∃ b o c,hs[i]?=some (b,o,c)∧w.cell? ⟨ob,oo+i,none⟩=some (.slice (some ⟨b,o,none⟩) (g[i]).length c)∧w.frozen? ⟨ob,oo+i,none⟩=false∧ET w b o g[i]∧b≠ob:=by
 have hl:i < hs.length:=by rw [h.len]; exact hi
 have h1:=Ac hl
 have h2:=Ac hi
 have h3:=h.cell i _ _ h1 h2
 have h4:=h.row i _ _ h1 h2
 exact ⟨hs[i].1,hs[i].2.1,hs[i].2.2,h1,h3.1,h3.2,h4.1,h4.2⟩
theorem DV.setRow {w w':World} {ob oo:Nat} {hs:List (Nat×Nat×Nat)} {g:List (List Rat)} (h:DV w ob oo hs g) {i b o c:Nat} (hi:hs[i]?=some (b,o,c)) {zs:List Rat}
 (k:Fx (·=b) w w') (ho:ET w' b o zs) (hl:∀ xs,g[i]?=some xs→zs.length=xs.length):DV w' ob oo hs (g.set i zs):=by
 have hne:b≠ob:=by
  have hlt:i < g.length:=by rw [← h.len]; exact (Ag.1 hi).1
  exact (h.row i _ _ hi (Ac hlt)).2
 refine ⟨by simp [h.len],An h.outer k.size,h.gob,fun j hd xs h1 h2=>?_,fun j hd xs h1 h2=>?_,h.apart⟩
 ·have hj:j < g.length:=by have:=(Ag.1 h2).1; simpa using this
  have h3:=h.cell j hd _ h1 (Ac hj)
  rw [BC] at h2
  have e:xs.length=(g[j]).length:=by
   split at h2
   ·rename_i e; subst e; rw [Al (by simpa using hj)] at h2; injection h2 with h2; subst h2; exact hl _ (Ac hj)
   ·rw [Ac hj] at h2; injection h2 with h2; rw [h2]
  rw [e]
  exact ⟨k.keep h3.1 (fun e=>hne e.symm),k.keepf h3.1 h3.2 (fun e=>hne e.symm)⟩
 ·have hj:j < g.length:=by have:=(Ag.1 h2).1; simpa using this
  have h3:=h.row j hd _ h1 (Ac hj)
  rw [BC] at h2
  refine ⟨?_,h3.2⟩
  split at h2
  ·rename_i e; subst e
   rw [Al (by simpa using hj)] at h2; injection h2 with h2; subst h2
   rw [hi] at h1; injection h1 with h1; subst h1
   exact ho
  ·rename_i e
   rw [Ac hj] at h2; injection h2 with h2; subst h2
   exact h3.1.fx k (fun e2=>h.apart i j _ _ hi h1 e e2.symm)
theorem DV.swap {w:World} {ob oo:Nat} {hs:List (Nat×Nat×Nat)} {g:List (List Rat)} (h:DV w ob oo hs g) {i j:Nat} {hi hj:Nat×Nat×Nat} {xs ys:List Rat}
 (h1:hs[i]?=some hi) (h2:hs[j]?=some hj) (h3:g[i]?=some xs) (h4:g[j]?=some ys) (hij:i≠j) :
 DV ((w.setCell ⟨ob,oo+i,none⟩ (.slice (some ⟨hj.1,hj.2.1,none⟩) ys.length hj.2.2)).setCell ⟨ob,oo+j,none⟩ (.slice (some ⟨hi.1,hi.2.1,none⟩) xs.length hi.2.2)) ob oo (E2 hs i j) (E2 g i j):=by
 have hf:Fx (·=ob) w ((w.setCell ⟨ob,oo+i,none⟩ (.slice (some ⟨hj.1,hj.2.1,none⟩) ys.length hj.2.2)).setCell ⟨ob,oo+j,none⟩ (.slice (some ⟨hi.1,hi.2.1,none⟩) xs.length hi.2.2)) :=
  Fx.setCell (p:=(·=ob)) (q:=⟨ob,oo+j,none⟩) (Fx.setCell (p:=(·=ob)) (q:=⟨ob,oo+i,none⟩) (Fx.refl _ w) (.inl rfl) _) (.inl rfl) _
 have ci:=h.cell i _ _ h1 h3
 have cj:=h.cell j _ _ h2 h4
 have eij:(⟨ob,oo+i,none⟩:Addr)≠⟨ob,oo+j,none⟩:=fun e=>by injection e with _ e; omega
 refine ⟨by rw [HQ,HQ,h.len],An h.outer hf.size,h.gob,fun k hd zs k1 k2=>?_,fun k hd zs k1 k2=>?_,fun a b ha hb k1 k2 hab=>?_⟩
 ·rw [Dk hs i j h1 h2] at k1
  rw [Dk g i j h3 h4] at k2
  rw [Ao,Ao]
  by_cases e:k=j
  ·subst e
   rw [Al rfl] at k1 k2
   injection k1 with k1; injection k2 with k2; subst k1; subst k2
   refine ⟨Ar _ _ _ ?_,cj.2⟩
   rw [Ad _ _ _ _ eij,cj.1]; rfl
  ·rw [Ai e] at k1 k2
   have ekj:(⟨ob,oo+j,none⟩:Addr)≠⟨ob,oo+k,none⟩:=fun e2=>by injection e2 with _ e2; omega
   rw [Ad _ _ _ _ ekj]
   by_cases e2:k=i
   ·subst e2
    rw [Al rfl] at k1 k2
    injection k1 with k1; injection k2 with k2; subst k1; subst k2
    exact ⟨Ar _ _ _ (by rw [ci.1]; rfl),ci.2⟩
   ·rw [Ai e2] at k1 k2
    have eki:(⟨ob,oo+i,none⟩:Addr)≠⟨ob,oo+k,none⟩:=fun e3=>by injection e3 with _ e3; omega
    rw [Ad _ _ _ _ eki]
    exact h.cell k hd zs k1 k2
 ·rw [Dk hs i j h1 h2] at k1
  rw [Dk g i j h3 h4] at k2
  have go:∀ (m:Nat) (hd:Nat×Nat×Nat) (zs:List Rat),hs[m]?=some hd→g[m]?=some zs→ET ((w.setCell ⟨ob,oo+i,none⟩ (.slice (some ⟨hj.1,hj.2.1,none⟩) ys.length hj.2.2)).setCell ⟨ob,oo+j,none⟩ (.slice (some ⟨hi.1,hi.2.1,none⟩) xs.length hi.2.2)) hd.1 hd.2.1 zs∧hd.1≠ob:=fun m hd zs m1 m2=>by
   have:=h.row m hd zs m1 m2
   exact ⟨this.1.fx hf this.2,this.2⟩
  by_cases e:k=j
  ·subst e; rw [Al rfl] at k1 k2; injection k1 with k1; injection k2 with k2; subst k1; subst k2; exact go i _ _ h1 h3
  ·rw [Ai e] at k1 k2
   by_cases e2:k=i
   ·subst e2; rw [Al rfl] at k1 k2; injection k1 with k1; injection k2 with k2; subst k1; subst k2; exact go j _ _ h2 h4
   ·rw [Ai e2] at k1 k2; exact go k _ _ k1 k2
 ·rw [Dk hs i j h1 h2] at k1 k2
  have key:∀ (k:Nat) (hd:Nat×Nat×Nat),(if k=j then some hi else if k=i then some hj else hs[k]?)=some hd→∃ m,hs[m]?=some hd∧m=(if k=j then i else if k=i then j else k):=fun k hd hk=>by
   by_cases e:k=j
   ·rw [Al e] at hk ⊢; exact ⟨i,by rw [h1,hk],rfl⟩
   ·rw [Ai e] at hk ⊢
    by_cases e2:k=i
    ·rw [Al e2] at hk ⊢; exact ⟨j,by rw [h2,hk],rfl⟩
    ·rw [Ai e2] at hk ⊢; exact ⟨k,hk,rfl⟩
  obtain ⟨m,m1,m2⟩:=key a ha k1
  obtain ⟨n,n1,n2⟩:=key b hb k2
  refine h.apart m n _ _ m1 n1 (fun e=>hab ?_)
  rw [m2,n2] at e
  repeat' split at e
  all_goals omega
def M8 (h:Nat×Nat×Nat) (xs:List Rat):Value:=.slice (some ⟨h.1,h.2.1,none⟩) xs.length h.2.2
def La (hs:List (Nat×Nat×Nat)) (g:List (List Rat)):List Value:=List.zipWith M8 hs g
structure Ke (w:World) (base:Nat) (E:TypeId) (v:Value) (hs:List (Nat×Nat×Nat)) (g:List (List Rat)):Prop where
 gbase:gN≤base
 len:hs.length=g.length
 own:w.ownsRow base E 1 v g.length (La hs g)
 row:∀ (i:Nat) (h:Nat×Nat×Nat) (xs:List Rat),hs[i]?=some h→g[i]?=some xs→ET w h.1 h.2.1 xs∧v.ownBlock≠some h.1
 apart:∀ (i j:Nat) (hi hj:Nat×Nat×Nat),hs[i]?=some hi→hs[j]?=some hj→i≠j→hi.1≠hj.1
theorem Ke.nil (w:World) (base:Nat) (E:TypeId) (h:gN≤base):Ke w base E (.slice none 0 0) [] [] :=
 ⟨h,rfl,AX _ _ _ _,fun i h xs h1=>by simp at h1,fun i j hi hj h1=>by simp at h1⟩
theorem Ke.fr {w w':World} {base:Nat} {E:TypeId} {v:Value} {hs:List (Nat×Nat×Nat)} {g:List (List Rat)} (h:Ke w base E v hs g) (k:Fr w w'):Ke w' base E v hs g :=
 ⟨h.gbase,h.len,AZ h.own k,fun i hd xs h1 h2=>⟨(h.row i hd xs h1 h2).1.fr k,(h.row i hd xs h1 h2).2⟩,h.apart⟩
theorem Ke.lt {w:World} {base:Nat} {E:TypeId} {v:Value} {hs:List (Nat×Nat×Nat)} {g:List (List Rat)} (h:Ke w base E v hs g):∀ hd,hd ∈ hs→hd.1 < w.heap.size:=fun hd hm=>by
 obtain ⟨i,hi⟩:=A6 hm
 have hl:i < g.length:=by rw [← h.len]; exact (Ag.1 hi).1
 exact (h.row i hd _ hi (Ac hl)).1.2.1
theorem PA (hs:List (Nat×Nat×Nat)) (g:List (List Rat)) (h:Nat×Nat×Nat) (xs:List Rat) (hl:hs.length=g.length):La (hs ++ [h]) (g ++ [xs])=La hs g ++ [M8 h xs]:=by
 unfold La; rw [Yb hl]; rfl
theorem Ke.push {w w':World} {base:Nat} {E:TypeId} {v:Value} {hs:List (Nat×Nat×Nat)} {g:List (List Rat)} (h:Ke w base E v hs g) {hd:Nat×Nat×Nat} {xs:List Rat} (ho:ET w hd.1 hd.2.1 xs)
 (hne:∀ h',h' ∈ hs→h'.1≠hd.1) (hv:v.ownBlock≠some hd.1) {gb cap:Nat} (hown:w'.ownsRow base E 1 (.slice (some ⟨gb,0,none⟩) (g.length+1) cap) (g.length+1) (La hs g ++ [M8 hd xs]))
 (hg:w.grownBy w' v.ownBlock) (hat:v.ownBlock=some gb∨w.heap.size≤gb):Ke w' base E (.slice (some ⟨gb,0,none⟩) (g.length+1) cap) (hs ++ [hd]) (g ++ [xs]):=by
 have hfx:=Fx.of_grown hg
 have hrow:∀ (i:Nat) (h0:Nat×Nat×Nat) (ys:List Rat),hs[i]?=some h0→g[i]?=some ys→ET w' h0.1 h0.2.1 ys∧gb≠h0.1:=fun i h0 ys h1 h2=>by
  obtain ⟨a,b⟩:=h.row i h0 ys h1 h2
  refine ⟨a.fx hfx (fun e=>b e), ?_⟩
  rcases hat with e | e
  ·intro e2; rw [e2] at e; exact b e
  ·have:=a.2.1; omega
 refine ⟨h.gbase,by simp [h.len], ?_,fun i h0 ys h1 h2=>?_,fun i j hi hj h1 h2 hij=>?_⟩
 ·rw [PA _ _ _ _ h.len]; simpa using hown
 ·by_cases hi:i < g.length
  ·rw [AP (by rw [h.len]; exact hi)] at h1
   rw [AP hi] at h2
   obtain ⟨a,b⟩:=hrow i h0 ys h1 h2
   exact ⟨a,fun e=>by injection e with e; exact b e⟩
  ·rw [AR (by omega)] at h2
   rw [AR (by rw [h.len]; omega)] at h1
   rw [Ce] at h1 h2
   split at h1
   ·split at h2
    ·injection h1 with h1; injection h2 with h2; subst h1; subst h2
     refine ⟨ho.fx hfx (fun e=>hv e),fun e=>?_⟩
     injection e with e
     rcases hat with e2 | e2
     ·have e3:gb=hd.1:=e
      rw [e3] at e2; exact hv e2
     ·have:=ho.2.1
      have e3:gb=hd.1:=e
      omega
    ·simp at h2
   ·simp at h1
 ·have key:∀ (i:Nat) (h0:Nat×Nat×Nat),(hs ++ [hd])[i]?=some h0→(i < hs.length∧hs[i]?=some h0)∨(i=hs.length∧h0=hd):=fun i h0 h=>by
   by_cases hi:i < hs.length
   ·rw [AP hi] at h; exact .inl ⟨hi,h⟩
   ·rw [AR (by omega),Ce] at h
    split at h
    ·injection h with h; exact .inr ⟨by omega,h.symm⟩
    ·simp at h
  rcases key i hi h1 with ⟨a1,a2⟩ | ⟨a1,a2⟩ <;> rcases key j hj h2 with ⟨b1,b2⟩ | ⟨b1,b2⟩
  ·exact h.apart i j _ _ a2 b2 hij
  ·subst b2; exact hne _ (Ae a2)
  ·subst a2; exact (hne _ (Ae b2)).symm
  ·omega
theorem Ke.pushN {w w':World} {base:Nat} {E:TypeId} {v u:Value} {hs:List (Nat×Nat×Nat)} {g:List (List Rat)} (h:Ke w base E v hs g) {hd:Nat×Nat×Nat} {xs:List Rat} (ho:ET w hd.1 hd.2.1 xs)
 (hne:∀ h',h' ∈ hs→h'.1≠hd.1) (hv:v.ownBlock≠some hd.1) {gb cap n:Nat} (hn:g.length=n) (hu:u=M8 hd xs) (hown:w'.ownsRow base E 1 (.slice (some ⟨gb,0,none⟩) (n+1) cap) (n+1) (La hs g ++ [u]))
 (hg:w.grownBy w' v.ownBlock) (hat:v.ownBlock=some gb∨w.heap.size≤gb):Ke w' base E (.slice (some ⟨gb,0,none⟩) (n+1) cap) (hs ++ [hd]) (g ++ [xs]):=by
 subst hn; subst hu
 exact h.push ho hne hv hown hg hat
theorem Ke.grid {w:World} {base:Nat} {E:TypeId} {gb n cap:Nat} {hs:List (Nat×Nat×Nat)} {g:List (List Rat)} (h:Ke w base E (.slice (some ⟨gb,0,none⟩) n cap) hs g):DV w gb 0 hs g∧n=g.length∧base≤gb∧n≤cap:=by
 obtain ⟨a,b,c,d,f⟩:=A5 h.own
 refine ⟨⟨h.len,c,AM h.gbase b,fun i hd xs h1 h2=>?_,fun i hd xs h1 h2=>?_,h.apart⟩,a,b,d⟩
 ·have:=f i (M8 hd xs) (by unfold La; rw [Ds,h1,h2])
  simpa [M8] using this
 ·obtain ⟨p,q⟩:=h.row i hd xs h1 h2
  exact ⟨p,fun e=>q (by simp [Value.ownBlock,e])⟩
theorem QB:(Tryz.prog.info? 194).map (fun i=>(i.zero,i.size,i.bytes))=some (some (.agg #[.string ⟨#[]⟩,.string ⟨#[]⟩]),2,32):=by kernel_rfl
theorem Py:(Tryz.prog.info? 196).map (fun i=>(i.zero,i.size,i.bytes))=some (some (.slice none 0 0),1,24):=by kernel_rfl
theorem GA (w:World) (x y:Value) (t:TypeId) (n:Nat) (hn:w.heap.size=n):∀ (j:Nat) (u:Value),[x,y][j]?=some u→(w.alloc (.cells #[x,y] t)).cell? ((⟨n,0,none⟩:Addr).add j)=some u:=fun j u hu=>by
 subst hn
 match j,hu with
 | 0,hu=>simp at hu; subst hu; exact (Cw w x y t).1
 | 1,hu=>simp at hu; subst hu; exact (Cv w x y t).1
 | j+2,hu=>simp at hu
theorem Ma (w:World):Calls Tryz.prog 187 #[] w fun e w'=>e=.returned (qv 0)∧Fr w w':=by
 have e:qv 0=.agg #[.string ⟨#[48]⟩,.string ⟨#[49]⟩]:=by unfold qv sv; rw [show (0:Rat).num=0 from rfl,show (((0:Rat).den:Nat):Int)=1 from rfl,HO,E1]
 rw [e]
 clear e
 go_enter Tryz.func187,Tryz.ntmps187
 go_wp2_with fail
 exact At (v:=.agg #[.string ⟨#[48]⟩,.string ⟨#[49]⟩]) (by simp [results,Tryz.results187,go_sem]) rfl ⟨rfl,(Fr.refl _).alloc _⟩
theorem K4 (w:World):Calls Tryz.prog 188 #[] w fun e w'=>e=.returned (qv 1)∧Fr w w':=by
 have e:qv 1=.agg #[.string ⟨#[49]⟩,.string ⟨#[49]⟩]:=by unfold qv sv; rw [show (1:Rat).num=1 from rfl,show (((1:Rat).den:Nat):Int)=1 from rfl,E1]
 rw [e]
 clear e
 go_enter Tryz.func188,Tryz.ntmps188
 go_wp2_with fail
 exact At (v:=.agg #[.string ⟨#[49]⟩,.string ⟨#[49]⟩]) (by simp [results,Tryz.results188,go_sem]) rfl ⟨rfl,(Fr.refl _).alloc _⟩
theorem N4 (i:Int) (w:World):Calls Tryz.prog 135 #[.int .i64 i] w fun e w'=>e=.returned (.slice none 0 0)∧Fr w w':=by
 go_enter Tryz.func135,Tryz.ntmps135
 go_wp2_with fail
 go_ret
 exact ⟨rfl,Fr.refl _⟩
def Ew (m:List (List Int)):Nat:=(B8 m 0).length
theorem HL (m:List (List Int)) (a:Option Addr) (cap:Nat) (w:World) (hm:Ca w a m) :
 Calls Tryz.prog 136 #[.slice a m.length cap] w fun e w'=>e=.returned (.int .i64 (Ew m))∧Fr w w':=by
 by_cases h0:m=[]
 ·subst h0
  go_enter Tryz.func136,Tryz.ntmps136
  go_wp2_with fail
  go_ret
  exact ⟨rfl,Fr.refl _⟩
 ·have hl:0 < m.length:=CF.2 h0
  obtain ⟨b,o,a',c',rfl,hc,-⟩:=hm.at hl
  have hr:Ew m=(m[0]).length:=by unfold Ew; rw [B1 hl]
  rw [hr]
  generalize (m[0]).length=k at *
  obtain ⟨n,hn⟩:∃ n,n=m.length:=⟨_,rfl⟩
  rw [← hn] at hl ⊢
  have d1:((n:Int) == 0)=false:=AB (by omega)
  rw [CN] at hc
  clear hr hn hm h0
  go_enter Tryz.func136,Tryz.ntmps136
  go_wp2_with fail
  go_ret
  exact ⟨rfl,Fr.refl _⟩
def CB (r:List Int):List Rat:=r.map fun n:Int=>(n:Rat)
theorem SK (n:Int):qv (n:Rat)=.agg #[sv n,.string ⟨#[49]⟩]:=by
 unfold qv; rw [HN,Vv,show sv ((1:Nat):Int)=.string ⟨#[49]⟩ from by rw [show ((1:Nat):Int)=1 from rfl,sv,E1]]
def Vg (w:World) (g:List (List Rat)) (e:Ending) (w':World):Prop:=∃ v hs,e=.returned v∧Ke w' w.heap.size 196 v hs g∧Hid (∀ h,h ∈ hs→w.heap.size≤h.1)∧Fr w w'
theorem Mf (m:List (List Int)) (a:Option Addr) (cap n:Nat) (w:World) (hG:G w) (hm:Ca w a m) (hr:CQ n m) (hn:1≤n) (hn2:n≤1000) (hl:m.length≤1000) (hb:∀ r,r ∈ m→∀ x,x ∈ r→Sm x) :
 Calls Tryz.prog 134 #[.slice a m.length cap,.func (.func 135) #[] #[]] w (Vg w (m.map CB)):=by
 have hG1:=hZ hG
 have hm1:=hZ hm
 have hr1:=hZ hr
 have hb1:=hZ hb
 have hgn:=CG hG
 obtain ⟨i0,hi,hz0,hz1,hz2⟩:=AN QB
 obtain ⟨i1,ji,jz0,jz1,jz2⟩:=AN Py
 have hno:=hZ (fun i W=>N4 i W)
 have hlen:=hZ (show (m.map CB).length=m.length by simp)
 clear hG hm hr hb
 go_enter Tryz.func134,Tryz.ntmps134
 go_wp2_with fail
 go_loopg [5,13] m.length (fun k s5 s13 wr=>∃ (j:Nat) (hs:List (Nat×Nat×Nat)),s13=.int .i64 j∧j+k=m.length∧Fr w wr∧Ke wr w.heap.size 196 s5 hs ((m.map CB).take j)∧Hid (∀ h,h ∈ hs→w.heap.size≤h.1))
 case atStart=>exact ⟨0,[],rfl,by omega,Fr.refl _,Ke.nil _ _ _ hgn,fun h hm=>by simp at hm⟩
 case round=>
  obtain ⟨j,hs,rfl,hjk,hf,hgg,hnew⟩:=hrel
  by_cases hlt:j < m.length
  ·obtain ⟨b,o,a',c',rfl,hc,hel⟩:=(hm1.out.fr hf).at hlt
   have hrj:=hr1.out.row hlt
   rw [hrj] at hc
   have hgl:((m.map CB).take j).length=j:=by rw [AG,hlen.out]; omega
   have hmj:(m.map CB)[j]?=some (CB m[j]):=by rw [Ap,Ac hlt]; rfl
   have hsn:=Bt hmj
   have hbj:=hb1.out _ (A3 hlt)
   generalize m[j]=row at *
   replace hrj:=hZ hrj
   replace hgl:=hZ hgl
   replace hsn:=hZ hsn
   replace hbj:=hZ hbj
   replace hmj:=hZ hmj
   replace hgg:=hZ hgg
   obtain ⟨wo,rfl⟩:∃ wo:World,wo=wr:=⟨_,rfl⟩
   obtain ⟨ko,rfl⟩:∃ ko:Nat,ko=gk:=⟨_,rfl⟩
   have zj0:(0:Int)≤(j:Int):=Af _
   have zj1:(j:Int) < (m.length:Int):=by omega
   go_wp2_with fail
   go_loopg [8,20] n (fun k s8 s20 wr2=>∃ t:Nat,s20=.int .i64 t∧t+k=n∧Fr wo wr2∧Hid (wr2.ownsRow wo.heap.size 194 2 s8 t (Ck ((CB row).take t))))
   case atStart=>exact ⟨0,rfl,by omega,Fr.refl _,AX _ _ _ _⟩
   case round=>
    obtain ⟨t,rfl,htk,hf2,hown⟩:=hrel
    by_cases ht:t < n
    ·obtain ⟨b2,o2,x,rfl,hbl2,hxt,hcell2⟩:=(hel.fr hf2).at (i:=t) (by rw [hrj.out]; exact ht)
     have hGr:=(hG1.out.fr hf).fr hf2
     have hsx:=hbj.out x (Ae hxt)
     unfold Sm at hsx
     have hxq:(CB row)[t]?=some (x:Rat):=by unfold CB; rw [Ap,hxt]; rfl
     have hsn2:Hid (Ck ((CB row).take (t+1))=Ck ((CB row).take t) ++ [sv x,.string ⟨#[49]⟩]):=hZ (by
      rw [Bt hxq,EM]
      have:=SK x
      unfold qv at this
      injection this with this
      injection this with this
      show _ ++ [sv (x:Rat).num,sv ((x:Rat).den:Int)]=_
      rw [this])
     replace hxt:=hZ hxt
     replace hxq:=hZ hxq
     have zt0:(0:Int)≤(t:Int):=Af _
     have zt1:(t:Int) < (n:Int):=by omega
     go_wp2_with fail
     refine (B5 _ (by omega) (by omega) _ hGr).mono ?_
     rintro e w2 ⟨rfl,hf3⟩
     go_wp2_with (at_builtin; refine As _ rfl _ _ 196 (by rfl) _ 194 _ _ 2 32 Tryz.underlying196 hi hz0 hz1 hz2 rfl (by decide) _ t _ (by rfl) (Au (AZ hown.out hf3) _) ⟨w2.heap.size,0,none⟩ 1 1 [sv x,.string ⟨#[49]⟩] (by rfl) rfl (GA _ _ _ _ _ (by simp)) (by simp [Value.oneCell']) (by decide) (by unfold maxLen; omega) (by omega) (by have:=(hf2.trans hf3).size; simp; omega) (w2.heap.size+1) (by simp) ?_; intro gA capA wA hownA hgrowA hatA hltA)
     go_wp2_with fail
     go_roundg (gk - 1)
     case measure=>omega
     case rel=>exact ⟨t+1,by go_num,by omega,((hf2.trans hf3).alloc _).grown hgrowA (fun k e=>(hown.out.lt k e).1),by show _; rw [hsn2.out]; exact hownA⟩
    ·have hd:decide (t < n)=false:=Aa ht
     obtain rfl:t=n:=by omega
     obtain ⟨gb,cp,rfl⟩:=CW hown.out (by omega)
     have hown9:=hown.out
     rw [Ak (by unfold CB; rw [Am,hrj.out]; omega)] at hown9
     obtain ⟨hrow,-,-,hgb,-⟩:=Eq (AM hgn hf.size) hown9
     have hgg2:=hgg.out.fr hf2
     replace hrow:=hZ hrow
     have hne:u5.ownBlock≠some gb:=fun e=>by have h9:=(hgg.out.own.lt gb e).2; exact Ci _ (An h9 hgb)
     have hne2:∀ h',h' ∈ hs→h'.1≠gb:=fun h' hm e2=>by have h9:=hgg.out.lt h' hm; rw [e2] at h9; exact Ci _ (An h9 hgb)
     have hz9:=hf2.size
     have hz8:=hf.size
     have hnw:=hno.out j wr
     have hownB:=hZ (AZ hown.out ((Fr.refl wr)))
     go_wp2_with fail
     refine hnw.mono ?_
     rintro e w3 ⟨rfl,hf3⟩
     have hown3:=hZ (AZ hown.out hf3)
     have hgg3:=hgg2.fr hf3
     have hownG:=hgg3.own
     rw [hgl.out] at hownG
     have hz7:=hf3.size
     clear hown hown9 hownB
     go_wp2_with (first
     | (at_builtin; refine wpList_append_own_none rfl _ _ 196 (by rfl) wo.heap.size 194 i0 2 Tryz.underlying196 hi _ t _ (by rfl) hown3.out (by rfl) ?_)
     | (at_builtin; refine As _ rfl _ _ 190 (by rfl) _ 196 _ _ 1 24 Tryz.underlying190 ji jz0 jz1 jz2 rfl (by decide) _ j _ (by rfl) (Au hownG _) ⟨w3.heap.size,0,none⟩ 1 1 [.slice (some ⟨gb,0,none⟩) t cp] (by rfl) rfl (AE _ _ _ _ (by simp)) (by simp [Value.oneCell']) (by decide) (by unfold maxLen; omega) (by omega) (by skip; simp; omega) (w3.heap.size+1) (by simp) ?_; intro gB capB wB hownB hgrowB hatB hltB; skip))
     have hpush:=(hgg3.fr ((Fr.refl w3).alloc _)).pushN (hd:=(gb,0,cp)) ((hrow.out.fr hf3).fr ((Fr.refl w3).alloc _)) hne2 hne hgl.out (by unfold M8 CB; rw [Am,hrj.out]) hownB hgrowB (hatB.imp id (fun e=>by rw [e]; simp))
     rw [← hsn.out] at hpush
     have hfrB:Fr w wB:=((((hf.trans hf2).trans hf3).alloc _)).grown hgrowB (fun k e=>(hgg.out.own.lt k e).1)
     go_roundg (ko - 1)
     case measure=>omega
     case rel=>exact ⟨j+1,_,by go_num,by omega,hfrB,hpush,fun h hm=>by rcases Bb.1 hm with h1 | h1; exact hnew.out h h1; (simp at h1; subst h1; exact AM hf.size hgb)⟩
  ·have hd:decide (j < m.length)=false:=Aa hlt
   have hjm:(m.map CB).take j=m.map CB:=Ak (by rw [hlen.out]; omega)
   rw [hjm] at hgg
   replace hjm:=hZ hjm
   go_wp2_with fail
   go_ret
   exact ⟨_,hs,rfl,hgg,hnew,hf⟩
section
variable {P:Program} {ops:Array Oper} {Q:Exit→Act→World→Prop} {md:Region.Mode} {S:World→Prop} {n:Nat}
end
section
variable {P:Program} {ops:Array Oper} {Q:Exit→Act→World→Prop} {md:Region.Mode} {S:World→Prop} {n:Nat}
def BN (P:Program) (md:Region.Mode) (ops:Array Oper) (Q:Exit→Act→World→Prop) (S:World→Prop) (n:Nat):Nat→Array Bool→Act→World→Prop
 | 0,listed,a,w=>Region.ready md ops listed=[]∧Q .normal a w
 | fuel+1,listed,a,w=>
   (Region.ready md ops listed=[]→Q .normal a w) ∧
   ∀ i ∈ Region.ready md ops listed,wpOp P ops Q i (fun a' w'=>((listed.setIfInBounds i true).getD n true=false→S w')∧BN P md ops Q S n fuel (listed.setIfInBounds i true) a' w') a w
theorem Kz:∀ (fuel:Nat) (listed:Array Bool) (a:Act) (w:World),BN P md ops Q S n fuel listed a w→wpAny P md ops Q fuel listed a w
 | 0,_,_,_,h=>h
 | fuel+1,_,_,_,h=>⟨h.1,fun i hi=>Xy (fun a' w' h'=>Kz fuel _ a' w' h'.2) (h.2 i hi)⟩
theorem KC {listed:Array Bool} {i:Nat} (hw:Region.waitsFor md ops n i=true) (hun:listed.getD i true=false):n ∉ Region.ready md ops listed:=fun hr=>by
 obtain ⟨o',ho',e,he,hb,hon⟩:=Region.waitsFor_spec hw
 obtain ⟨_,ot,hot,hall⟩:=Hb.1 hr
 have:o'=ot:=DC (ho'.symm.trans hot)
 subst this
 have h2:=hall e he hb
 rw [hon,getD_both hun] at h2
 cases h2
theorem MP {i:Nat} {oi:Oper} {v:Value} (hi:ops[i]?=some oi) (hw:Region.waitsFor md ops n i=true) (hin:i≠n) (hsel:∀ (j:Nat) (o:Oper) cs b,ops[j]?=some o→o.op≠.select cs b)
 (hQ:∀ c a w,Q (.panic c) (a.put oi.dst v) w→Q (.panic c) a w) :
 ∀ (fuel:Nat) (listed:Array Bool) (a:Act) (w:World),
   (∀ j oj,ops[j]?=some oj→j≠i→listed.getD j true=false→(∀ e ∈ oj.after,Region.binds md e=true→e.on≠i)→oi.apart ops oj=true) →
   i ∈ Region.ready md ops listed→YieldsIf P ops S oi v a→S w→listed.getD n true=false →
   BN P md ops Q S n fuel (listed.setIfInBounds i true) (a.put oi.dst v) w→BN P md ops Q S n (fuel+1) listed a w:=by
 have hisz:i < ops.size:=(Dq.1 hi).1
 intro fuel
 induction fuel with
 | zero=>
   intro listed a w _ hr hy hS hnu H
   refine ⟨fun h=>(by rw [h] at hr; cases hr),fun j hj=>?_⟩
   by_cases hji:j=i
   ·subst hji; exact hy.wpOp hi hS ⟨fun _=>hS,H⟩
   ·have:=FP hj hji
    rw [H.1] at this
    cases this
 | succ fuel ih=>
   intro listed a w hfree hr hy hS hnu H
   refine ⟨fun h=>(by rw [h] at hr; cases hr),fun j hj=>?_⟩
   by_cases hji:j=i
   ·subst hji; exact hy.wpOp hi hS ⟨fun _=>hS,H⟩
   ·have h1:=H.2 j (FP hj hji)
    have hjn:j≠n:=fun e=>KC hw (Hb.1 hr).1 (e ▸ hj)
    obtain ⟨hjun,oj,hoj,hall⟩:=Hb.1 hj
    have hnot:∀ e ∈ oj.after,Region.binds md e=true→e.on≠i:=fun e he hb heq=>by
     have h1:=hall e he hb
     have h0:=(Hb.1 hr).1
     rw [heq,getD_both h0] at h1
     cases h1
    have h2:=wpOp_putIf hoj (hfree j oj hoj hji hjun hnot) (fun cs b=>hsel i oi cs b hi) (fun cs b=>hsel j oj cs b hoj) hQ hy h1
    have hfree':∀ k ok,ops[k]?=some ok→k≠i→(listed.setIfInBounds j true).getD k true=false →
     (∀ e ∈ ok.after,Region.binds md e=true→e.on≠i)→oi.apart ops ok=true:=fun k ok hk hki hun hno=>by
     refine hfree k ok hk hki ?_ hno
     by_cases hjk:j=k
     ·subst hjk; exact hjun
     ·rw [CR true hjk] at hun; exact hun
    have hnj:(listed.setIfInBounds j true).getD n true=false:=by rw [CR true hjn]; exact hnu
    have hnij:((listed.setIfInBounds i true).setIfInBounds j true).getD n true=false:=by rw [CR true hjn,CR true hin]; exact hnu
    refine Xy (fun a' w' h3=>⟨fun _=>h3.2.1 hnij,ih (listed.setIfInBounds j true) a' w' hfree' (FP hr (Ne.symm hji)) h3.1 (h3.2.1 hnij) hnj ?_⟩) h2
    rw [Fo _ _ hji]
    exact h3.2.2
theorem LO {i:Nat} {oi:Oper} {v:Value} (hi:ops[i]?=some oi) (hin:i≠n) (hsel:∀ (j:Nat) (o:Oper) cs b,ops[j]?=some o→o.op≠.select cs b)
 (hQ:∀ c a w,Q (.panic c) (a.put oi.dst v) w→Q (.panic c) a w) :
 ∀ (fuel:Nat) (listed:Array Bool) (a:Act) (w:World),
   (∀ j oj,ops[j]?=some oj→j≠i→listed.getD j true=false→(∀ e ∈ oj.after,Region.binds md e=true→e.on≠i)→oi.apart ops oj=true) →
   i ∈ Region.ready md ops listed→YieldsIf P ops (fun _=>True) oi v a→(listed.getD n true=false→S w) →
   BN P md ops Q S n fuel (listed.setIfInBounds i true) (a.put oi.dst v) w→BN P md ops Q S n (fuel+1) listed a w:=by
 have hisz:i < ops.size:=(Dq.1 hi).1
 intro fuel
 induction fuel with
 | zero=>
   intro listed a w _ hr hy hS H
   refine ⟨fun h=>(by rw [h] at hr; cases hr),fun j hj=>?_⟩
   by_cases hji:j=i
   ·subst hji; exact hy.wpOp hi trivial ⟨fun h=>hS (by rw [CR true hin] at h; exact h),H⟩
   ·have:=FP hj hji
    rw [H.1] at this
    cases this
 | succ fuel ih=>
   intro listed a w hfree hr hy hS H
   refine ⟨fun h=>(by rw [h] at hr; cases hr),fun j hj=>?_⟩
   by_cases hji:j=i
   ·subst hji; exact hy.wpOp hi trivial ⟨fun h=>hS (by rw [CR true hin] at h; exact h),H⟩
   ·have h1:=H.2 j (FP hj hji)
    obtain ⟨hjun,oj,hoj,hall⟩:=Hb.1 hj
    have hnot:∀ e ∈ oj.after,Region.binds md e=true→e.on≠i:=fun e he hb heq=>by
     have h1:=hall e he hb
     have h0:=(Hb.1 hr).1
     rw [heq,getD_both h0] at h1
     cases h1
    have h2:=wpOp_putIf hoj (hfree j oj hoj hji hjun hnot) (fun cs b=>hsel i oi cs b hi) (fun cs b=>hsel j oj cs b hoj) hQ hy h1
    have hfree':∀ k ok,ops[k]?=some ok→k≠i→(listed.setIfInBounds j true).getD k true=false →
     (∀ e ∈ ok.after,Region.binds md e=true→e.on≠i)→oi.apart ops ok=true:=fun k ok hk hki hun hno=>by
     refine hfree k ok hk hki ?_ hno
     by_cases hjk:j=k
     ·subst hjk; exact hjun
     ·rw [CR true hjk] at hun; exact hun
    have hno:(listed.setIfInBounds j true).getD n true=false→((listed.setIfInBounds i true).setIfInBounds j true).getD n true=false:=fun h=>by
     rw [Fo _ _ (Ne.symm hji),CR true hin]; exact h
    refine Xy (fun a' w' h3=>⟨fun h=>h3.2.1 (hno h),ih (listed.setIfInBounds j true) a' w' hfree' (FP hr (Ne.symm hji)) h3.1 (fun h=>h3.2.1 (hno h)) ?_⟩) h2
    rw [Fo _ _ hji]
    exact h3.2.2
theorem ND {i:Nat} {oi:Oper} {v:Value} {fuel:Nat} {listed:Array Bool} {a:Act} {w:World} (hi:ops[i]?=some oi) (hw:Region.waitsFor md ops n i=true) (hin:i≠n)
 (hs:Region.noSelect ops=true) (hf:Region.free md ops listed i=true) (hr:(Region.ready md ops listed).contains i=true) (hnu:listed.getD n true=false)
 (hQ:∀ c a w,Q (.panic c) (a.put oi.dst v) w→Q (.panic c) a w) (hy:YieldsIf P ops S oi v a) (hS:S w)
 (h:BN P md ops Q S n fuel (listed.setIfInBounds i true) (a.put oi.dst v) w):BN P md ops Q S n (fuel+1) listed a w :=
 MP hi hw hin (Ns hs) hQ fuel listed a w (Uk hi hf) (by simpa using hr) hy hS hnu h
theorem B7 {α:Type} (l:List α) (i:Nat) (a:α):l.toArray.setIfInBounds i a=(l.set i a).toArray:=List.setIfInBounds_toArray ..
theorem Cm {α:Type} (x a:α) (l:List α):(x :: l).set 0 a=a :: l:=rfl
theorem Cl {α:Type} (x a:α) (l:List α) (n:Nat):(x :: l).set (n+1) a=x :: l.set n a:=rfl
def uB (md:Region.Mode) (ops:Array Oper) (i n:Nat) (listed:Array Bool):Bool:=Region.waitsFor md ops n i && !(i == n) && Region.noSelect ops && Region.free md ops listed i && (Region.ready md ops listed).contains i && !listed.getD n true
theorem uT (i:Nat) {oi:Oper} {v:Value} {fuel:Nat} {listed:Array Bool} {a:Act} {w:World} (hi:ops[i]?=some oi) (hb:uB md ops i n listed=true) (hy:YieldsIf P ops S oi v a) (hS:S w)
 (h:BN P md ops Q S n fuel (listed.setIfInBounds i true) (a.put oi.dst v) w) (hQ:∀ c a w,Q (.panic c) (a.put oi.dst v) w→Q (.panic c) a w:=by exact fun _ _ _ h=>h):BN P md ops Q S n (fuel+1) listed a w:=by
 unfold uB at hb
 simp only [AW,R5,E7] at hb
 obtain ⟨⟨⟨⟨⟨h1,h2⟩,h3⟩,h4⟩,h5⟩,h6⟩:=hb
 exact ND hi h1 h2 h3 h4 h5 h6 hQ hy hS h
theorem uK (i:Nat) {oi:Oper} {v:Value} {fuel:Nat} {listed:Array Bool} {a:Act} {w:World} (h:BN P md ops Q S n fuel (listed.setIfInBounds i true) (a.put oi.dst v) w) (hi:ops[i]?=some oi:=by rfl) (hb:uB md ops i n listed=true:=by kernel_rfl) (hw:Region.wanted oi (yielded ops a.tmps)=true:=by rfl)
 (hy:∀ w,S w→(execOp a.eval oi).run P w=.ok (.value v) w:=by (intro w hSw; (try dsimp only at hSw); go_simp; try (with_reducible rfl))) (hS:S w:=by assumption) (hQ:∀ c a w,Q (.panic c) (a.put oi.dst v) w→Q (.panic c) a w:=by exact fun _ _ _ h=>h):BN P md ops Q S n (fuel+1) listed a w :=
 uT i hi hb (.inl ⟨hw,hy⟩) hS h hQ
theorem uM (i j:Nat) {oi:Oper} {v:Value} {fuel:Nat} {listed:Array Bool} {a:Act} {w:World} (h:BN P md ops Q S n fuel (listed.setIfInBounds i true) { a with tmps:=a.tmps.setIfInBounds j v } w) (hi:ops[i]?=some oi:=by rfl) (hd:oi.dst=some j:=by rfl) (hb:uB md ops i n listed=true:=by kernel_rfl) (hw:Region.wanted oi (yielded ops a.tmps)=true:=by rfl)
 (hy:∀ w,S w→(execOp a.eval oi).run P w=.ok (.value v) w:=by (intro w hSw; (try dsimp only at hSw); go_simp; try (with_reducible rfl))) (hS:S w:=by assumption) (hQ:∀ c a w,Q (.panic c) (a.put oi.dst v) w→Q (.panic c) a w:=by exact fun _ _ _ h=>h):BN P md ops Q S n (fuel+1) listed a w :=
 uT i hi hb (.inl ⟨hw,hy⟩) hS (by rw [hd]; exact h) hQ
theorem IJ {i:Nat} {oi:Oper} {v:Value} {fuel:Nat} {listed:Array Bool} {a:Act} {w:World} (hi:ops[i]?=some oi) (hin:i≠n)
 (hs:Region.noSelect ops=true) (hf:Region.free md ops listed i=true) (hr:(Region.ready md ops listed).contains i=true)
 (hQ:∀ c a w,Q (.panic c) (a.put oi.dst v) w→Q (.panic c) a w) (hy:YieldsIf P ops (fun _=>True) oi v a) (hS:S w)
 (h:BN P md ops Q S n fuel (listed.setIfInBounds i true) (a.put oi.dst v) w):BN P md ops Q S n (fuel+1) listed a w :=
 LO hi hin (Ns hs) hQ fuel listed a w (Uk hi hf) (by simpa using hr) hy (fun _=>hS) h
def A4 (P:Program) (md:Region.Mode) (ops:Array Oper) (Q:Exit→Act→World→Prop) (S:World→Prop) (n fuel:Nat) (listed:Array Bool) (a:Act) (w:World) (rs:List Nat):Prop :=
 ∀ i ∈ rs,wpOp P ops Q i (fun a' w'=>((listed.setIfInBounds i true).getD n true=false→S w')∧BN P md ops Q S n fuel (listed.setIfInBounds i true) a' w') a w
theorem A4.nil {fuel:Nat} {listed:Array Bool} {a:Act} {w:World}:A4 P md ops Q S n fuel listed a w []:=fun _ h=>by cases h
theorem A4.cons {fuel:Nat} {listed:Array Bool} {a:Act} {w:World} {i:Nat} {o:Oper} {rs:List Nat} (ho:ops[i]?=some o)
 (h:∀ K':Act→World→Prop,Shut (∀ a w,S w→(S w→BN P md ops Q S n fuel (listed.setIfInBounds i true) a w)→K' a w)→if Region.wanted o (yielded ops a.tmps)=true then Oper.wp P o a w K' Q else K' (a.put o.dst undef) w)
 (hs:A4 P md ops Q S n fuel listed a w rs):A4 P md ops Q S n fuel listed a w (i :: rs):=fun j hj=>by
 rcases Dd.1 hj with rfl | hj
 ·exact wpOp_step ho (fun K' hK=>h K' (fun a w hS hW=>hK a w ⟨fun _=>hS,hW hS⟩))
 ·exact hs j hj
theorem A4.last {fuel:Nat} {listed:Array Bool} {a:Act} {w:World} {o:Oper} (ho:ops[n]?=some o) (hln:(listed.setIfInBounds n true).getD n true=true) (hd:Region.ready md ops (listed.setIfInBounds n true)=[])
 (h:∀ K':Act→World→Prop,Shut (∀ a w,Q .normal a w→K' a w)→if Region.wanted o (yielded ops a.tmps)=true then Oper.wp P o a w K' Q else K' (a.put o.dst undef) w):A4 P md ops Q S n fuel listed a w [n]:=fun j hj=>by
 rcases Dd.1 hj with rfl | hj
 ·refine wpOp_step ho (fun K' hK=>h K' (fun a w hq=>hK a w ⟨fun h=>(by rw [hln] at h; cases h), ?_⟩))
  cases fuel with
  | zero=>exact ⟨hd,hq⟩
  | succ f=>exact ⟨fun _=>hq,by rw [hd]; intro i hi; cases hi⟩
 ·cases hj
theorem B9 {rs:List Nat} {fuel:Nat} {listed:Array Bool} {a:Act} {w:World} (hr:Region.ready md ops listed=rs) (hne:rs≠[])
 (h:A4 P md ops Q S n fuel listed a w rs):BN P md ops Q S n (fuel+1) listed a w :=
 ⟨fun h0=>absurd (hr ▸ h0) hne,hr ▸ h⟩
theorem uC (i:Nat) {o:Oper} {fuel:Nat} {listed:Array Bool} {a:Act} {w:World} (h:∀ K':Act→World→Prop,Shut (∀ a w,S w→(S w→BN P md ops Q S n fuel (listed.setIfInBounds i true) a w)→K' a w)→if Region.wanted o (yielded ops a.tmps)=true then Oper.wp P o a w K' Q else K' (a.put o.dst undef) w)
 (hr:Region.ready md ops listed=[i]:=by kernel_rfl) (ho:ops[i]?=some o:=by rfl):BN P md ops Q S n (fuel+1) listed a w :=
 B9 hr (by simp) (A4.cons ho h A4.nil)
theorem uL (n:Nat) {o:Oper} {fuel:Nat} {listed:Array Bool} {a:Act} {w:World} (h:∀ K':Act→World→Prop,Shut (∀ a w,Q .normal a w→K' a w)→if Region.wanted o (yielded ops a.tmps)=true then Oper.wp P o a w K' Q else K' (a.put o.dst undef) w)
 (hr:Region.ready md ops listed=[n]:=by kernel_rfl) (ho:ops[n]?=some o:=by rfl) (hln:(listed.setIfInBounds n true).getD n true=true:=by kernel_rfl) (hd:Region.ready md ops (listed.setIfInBounds n true)=[]:=by kernel_rfl):BN P md ops Q S n (fuel+1) listed a w :=
 B9 hr (by simp) (A4.last ho hln hd h)
theorem uD (i:Nat) {o:Oper} {fuel:Nat} {listed:Array Bool} {a:Act} {w:World} (h:∀ K':Act→World→Prop,Shut (∀ a w,BN P md ops Q S n fuel (listed.setIfInBounds i true) a w→K' a w)→if Region.wanted o (yielded ops a.tmps)=true then Oper.wp P o a w K' Q else K' (a.put o.dst undef) w)
 (hr:Region.ready md ops listed=[i]:=by kernel_rfl) (ho:ops[i]?=some o:=by rfl) (hln:(listed.setIfInBounds i true).getD n true=true:=by kernel_rfl):BN P md ops Q S n (fuel+1) listed a w :=
 ⟨fun h0=>(by rw [hr] at h0; cases h0),fun j hj=>by
  rw [hr] at hj
  rcases Dd.1 hj with rfl | hj
  ·exact wpOp_step ho (fun K' hK=>h K' (fun a w hW=>hK a w ⟨fun h=>(by rw [hln] at h; cases h),hW⟩))
  ·cases hj⟩
theorem uE {fuel:Nat} {listed:Array Bool} {a:Act} {w:World} (h:Q .normal a w) (hr:Region.ready md ops listed=[]:=by kernel_rfl):BN P md ops Q S n fuel listed a w:=by
 cases fuel with
 | zero=>exact ⟨hr,h⟩
 | succ f=>exact ⟨fun _=>h,by rw [hr]; intro i hi; cases hi⟩
theorem hK (i:Nat) {oi:Oper} {v:Value} {fuel:Nat} {listed:Array Bool} {a:Act} {w:World} (h:wpAnyH P md ops Q S fuel (listed.setIfInBounds i true) (a.put oi.dst v) w) (hi:ops[i]?=some oi:=by rfl) (hs:Region.noSelect ops=true:=by kernel_rfl) (hf:Region.free md ops listed i=true:=by kernel_rfl) (hr:(Region.ready md ops listed).contains i=true:=by kernel_rfl)
 (hw:Region.wanted oi (yielded ops a.tmps)=true:=by rfl) (hy:∀ w,S w→(execOp a.eval oi).run P w=.ok (.value v) w:=by (intro w hSw; (try dsimp only at hSw); go_simp; try (with_reducible rfl))) (hS:S w:=by assumption) (hQ:∀ c a w,Q (.panic c) (a.put oi.dst v) w→Q (.panic c) a w:=by exact fun _ _ _ h=>h):wpAnyH P md ops Q S (fuel+1) listed a w :=
 wpAnyH_take hi hs hf hr hQ (.inl ⟨hw,hy⟩) hS h
theorem hN (i:Nat) {oi:Oper} {fuel:Nat} {listed:Array Bool} {a:Act} {w:World} (h:wpAnyH P md ops Q S fuel (listed.setIfInBounds i true) (a.put oi.dst undef) w) (hi:ops[i]?=some oi:=by rfl) (hs:Region.noSelect ops=true:=by kernel_rfl) (hf:Region.free md ops listed i=true:=by kernel_rfl) (hr:(Region.ready md ops listed).contains i=true:=by kernel_rfl)
 (hw:Region.wanted oi (yielded ops a.tmps)=false:=by rfl) (hS:S w:=by assumption) (hQ:∀ c a w,Q (.panic c) (a.put oi.dst undef) w→Q (.panic c) a w:=by exact fun _ _ _ h=>h):wpAnyH P md ops Q S (fuel+1) listed a w :=
 wpAnyH_take hi hs hf hr hQ (.inr ⟨hw,rfl⟩) hS h
theorem hC (i:Nat) {o:Oper} {fuel:Nat} {listed:Array Bool} {a:Act} {w:World} (h:∀ K':Act→World→Prop,Shut (∀ a w,S w→(S w→wpAnyH P md ops Q S fuel (listed.setIfInBounds i true) a w)→K' a w)→if Region.wanted o (yielded ops a.tmps)=true then Oper.wp P o a w K' Q else K' (a.put o.dst undef) w)
 (hr:Region.ready md ops listed=[i]:=by kernel_rfl) (ho:ops[i]?=some o:=by rfl):wpAnyH P md ops Q S (fuel+1) listed a w :=
 wpAnyH_ready hr (by simp) (WR ho h AllReadyH.nil)
theorem BL {id:Nat} {a:Act} {w:World} (n:Nat) (hm:P.follows .mixedOrders=true) (hS:S w.drew)
 (h:S w.drew→BN P .any ops Q S n ops.size (Array.replicate ops.size false) a w.drew):(Code.region id ops true).wp P Q a w :=
 wp_region_any hm (Kz _ _ _ _ (h hS))
end
section
variable {P:Program} {ops:Array Oper} {Q:Exit→Act→World→Prop} {md:Region.Mode} {S:World→Prop} {n:Nat}
def Xe (md:Region.Mode) (ops:Array Oper) (n:Nat):Nat→List Nat→Bool
 | i,[]=>Region.waitsFor md ops n i
 | i,m :: C=>Region.waitsFor md ops m i && Xe md ops n m C
theorem Lu {listed:Array Bool}:∀ (C:List Nat) (i:Nat),Xe md ops n i C=true→listed.getD i true=false→(∀ m,m ∈ C→listed.getD m true=false)→∀ m,m ∈ C∨m=n→m ∉ Region.ready md ops listed
 | [],i,h,hu,_,m,hm=>by
   rcases hm with hm | rfl
   ·cases hm
   ·exact KC h hu
 | c :: C,i,h,hu,hC,m,hm=>by
   simp only [Xe,AW] at h
   rcases hm with hm | hm
   ·rcases Dd.1 hm with rfl | hm
    ·exact KC h.1 hu
    ·exact Lu C c h.2 (hC c Dn) (fun x hx=>hC x (EL _ hx)) m (.inl hm)
   ·exact Lu C c h.2 (hC c Dn) (fun x hx=>hC x (EL _ hx)) m (.inr hm)
theorem LP {i:Nat} {oi:Oper} {v:Value} (C:List Nat) (hi:ops[i]?=some oi) (hw:Xe md ops n i C=true) (hin:i≠n) (hiC:i ∉ C) (hsel:∀ (j:Nat) (o:Oper) cs b,ops[j]?=some o→o.op≠.select cs b)
 (hQ:∀ c a w,Q (.panic c) (a.put oi.dst v) w→Q (.panic c) a w) :
 ∀ (fuel:Nat) (listed:Array Bool) (a:Act) (w:World),
   (∀ j oj,ops[j]?=some oj→j≠i→listed.getD j true=false→(∀ e ∈ oj.after,Region.binds md e=true→e.on≠i)→oi.apart ops oj=true) →
   i ∈ Region.ready md ops listed→YieldsIf P ops S oi v a→S w→listed.getD n true=false→(∀ m,m ∈ C→listed.getD m true=false) →
   BN P md ops Q S n fuel (listed.setIfInBounds i true) (a.put oi.dst v) w→BN P md ops Q S n (fuel+1) listed a w:=by
 have hisz:i < ops.size:=(Dq.1 hi).1
 intro fuel
 induction fuel with
 | zero=>
   intro listed a w _ hr hy hS hnu _ H
   refine ⟨fun h=>(by rw [h] at hr; cases hr),fun j hj=>?_⟩
   by_cases hji:j=i
   ·subst hji; exact hy.wpOp hi hS ⟨fun _=>hS,H⟩
   ·have:=FP hj hji
    rw [H.1] at this
    cases this
 | succ fuel ih=>
   intro listed a w hfree hr hy hS hnu hC H
   refine ⟨fun h=>(by rw [h] at hr; cases hr),fun j hj=>?_⟩
   by_cases hji:j=i
   ·subst hji; exact hy.wpOp hi hS ⟨fun _=>hS,H⟩
   ·have h1:=H.2 j (FP hj hji)
    have hno:=Lu C i hw (Hb.1 hr).1 hC
    have hjn:j≠n:=fun e=>hno n (.inr rfl) (e ▸ hj)
    have hjC:∀ m,m ∈ C→j≠m:=fun m hm e=>hno m (.inl hm) (e ▸ hj)
    obtain ⟨hjun,oj,hoj,hall⟩:=Hb.1 hj
    have hnot:∀ e ∈ oj.after,Region.binds md e=true→e.on≠i:=fun e he hb heq=>by
     have h1:=hall e he hb
     have h0:=(Hb.1 hr).1
     rw [heq,getD_both h0] at h1
     cases h1
    have h2:=wpOp_putIf hoj (hfree j oj hoj hji hjun hnot) (fun cs b=>hsel i oi cs b hi) (fun cs b=>hsel j oj cs b hoj) hQ hy h1
    have hfree':∀ k ok,ops[k]?=some ok→k≠i→(listed.setIfInBounds j true).getD k true=false →
     (∀ e ∈ ok.after,Region.binds md e=true→e.on≠i)→oi.apart ops ok=true:=fun k ok hk hki hun hno=>by
     refine hfree k ok hk hki ?_ hno
     by_cases hjk:j=k
     ·subst hjk; exact hjun
     ·rw [CR true hjk] at hun; exact hun
    have hnj:(listed.setIfInBounds j true).getD n true=false:=by rw [CR true hjn]; exact hnu
    have hCj:∀ m,m ∈ C→(listed.setIfInBounds j true).getD m true=false:=fun m hm=>by rw [CR true (hjC m hm)]; exact hC m hm
    have hnij:((listed.setIfInBounds i true).setIfInBounds j true).getD n true=false:=by rw [CR true hjn,CR true hin]; exact hnu
    refine Xy (fun a' w' h3=>⟨fun _=>h3.2.1 hnij,ih (listed.setIfInBounds j true) a' w' hfree' (FP hr (Ne.symm hji)) h3.1 (h3.2.1 hnij) hnj hCj ?_⟩) h2
    rw [Fo _ _ hji]
    exact h3.2.2
def vB (md:Region.Mode) (ops:Array Oper) (i n:Nat) (C:List Nat) (listed:Array Bool):Bool:=Xe md ops n i C && !(i == n) && !C.contains i && Region.noSelect ops && Region.free md ops listed i && (Region.ready md ops listed).contains i && !listed.getD n true && C.all fun m=>!listed.getD m true
theorem uV (i j:Nat) (C:List Nat) {oi:Oper} {v:Value} {fuel:Nat} {listed:Array Bool} {a:Act} {w:World} (h:BN P md ops Q S n fuel (listed.setIfInBounds i true) { a with tmps:=a.tmps.setIfInBounds j v } w) (hi:ops[i]?=some oi:=by rfl) (hd:oi.dst=some j:=by rfl) (hb:vB md ops i n C listed=true:=by kernel_rfl) (hw:Region.wanted oi (yielded ops a.tmps)=true:=by rfl)
 (hy:∀ w,S w→(execOp a.eval oi).run P w=.ok (.value v) w:=by (intro w hSw; (try dsimp only at hSw); go_simp; try (with_reducible rfl))) (hS:S w:=by assumption) (hQ:∀ c a w,Q (.panic c) (a.put oi.dst v) w→Q (.panic c) a w:=by exact fun _ _ _ h=>h):BN P md ops Q S n (fuel+1) listed a w:=by
 unfold vB at hb
 simp only [AW,R5,E7,Aw] at hb
 obtain ⟨⟨⟨⟨⟨⟨⟨h1,h2⟩,h3⟩,h4⟩,h5⟩,h6⟩,h7⟩,h8⟩:=hb
 exact LP C hi h1 h2 (by simpa using h3) (Ns h4) hQ fuel listed a w (Uk hi h5) (by simpa using h6) (.inl ⟨hw,hy⟩) hS h7 h8 (by rw [hd]; exact h)
end
end Go.Proofs.YtcglmebcfeoedaaGreatDoor
