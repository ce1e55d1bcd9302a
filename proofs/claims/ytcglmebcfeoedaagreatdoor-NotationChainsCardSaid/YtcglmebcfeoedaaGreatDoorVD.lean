/- Contracts and laws: VD. -/
import Derived.Test.YtcglmebcfeoedaaGreatDoorVA
import Derived.Lib.AppendIntMem
import Derived.Test.YtcglmebcfeoedaaGreatDoorVC
import Derived.Deep.RegionHeld3
import Derived.Deep.Cut
import Derived.Test.YtcglmebcfeoedaaGreatDoorVB
import Derived.OrdersHeld
import Derived.StillTail

set_option maxRecDepth 100000
set_option maxHeartbeats 4000000
namespace Go.Proofs.YtcglmebcfeoedaaGreatDoor
open Go.RowKit Go.Lib Go.Sort
theorem H9:∀ (l:List UInt8) (acc:Nat),(∀ c ∈ l,48≤c.toNat∧c.toNat≤57)→A4 acc l < 1000000000000000000→parseUintM (2 ^ 64 - 1) acc l=.ok (A4 acc l)
 | [],acc,_,_=>rfl
 | c :: r,acc,hd,hv=>by
   have hc:=hd c Bp
   have hr:∀ x ∈ r,48≤x.toNat∧x.toNat≤57:=fun x hx=>hd x (BX _ hx)
   have e:A4 acc (c :: r)=A4 (acc * 10+(c.toNat - 48)) r:=rfl
   rw [e] at hv ⊢
   have hle:=(CB r (acc * 10+(c.toNat - 48)) hr).1
   have hp:=Fh (n:=r.length) (show 0 < 10 by decide)
   have h2:acc * 10+(c.toNat - 48)≤A4 (acc * 10+(c.toNat - 48)) r:=AE (Eo _ hp) hle
   rw [parseUintM,Aj hc,Ai (by omega),Ai (by omega)]
   exact H9 r _ hr hv
theorem LE (u:Nat) (h:u < 1000000000000000000):parseUintB 64 (tx (u:Int)).data.toList=.ok u:=by
 rw [Fo,BS (by omega),show (u:Int).toNat=u by omega]
 unfold parseUintB
 rw [Ai (GJ u),H9 _ _ (B2 u) (by rw [B1]; exact h),B1]
theorem Vj (u:Nat) (h:u < 1000000000000000000) (w:World) :
 Calls Tryz.prog 245 #[.string (tx (u:Int))] w fun e w'=>e=.returned (.tuple #[.int .u64 u,.bool true])∧Fr w w':=by
 have hs:=CT 18 (u:Int) (by omega) (by omega)
 have hp:∀ W:World,Calls Tryz.prog 287 #[.string (tx (u:Int)),.int .i64 10,.int .i64 64] W fun e w'=>e=.returned (.tuple #[.int .u64 u,.nilIface])∧Fr W w':=fun W=>by
  go_enter Tryz.func287,Tryz.ntmps287
  go_wp2_with fail
  refine (Tryz.internal_strconv_ParseUint_10_at64 (tx (u:Int)) (by omega) _).mono ?_
  rw [LE u h]
  rintro e w1 ⟨rfl,hw⟩
  have hf:=LX (hw.imp id fun h=>⟨_,h⟩)
  clear hw
  unfold uintTupleM
  go_wp2_with fail
  go_ret2
  exact ⟨rfl,hf⟩
 replace hp:=hZ hp
 go_enter Tryz.func245,Tryz.ntmps245
 go_wp2_with fail
 refine (hp.out _).mono ?_
 rintro e w1 ⟨rfl,hf⟩
 go_wp2_with fail
 go_ret2
 exact ⟨rfl,hf⟩
theorem WY (u v:Nat) (hu:(tx (u:Int)).size≤18) (hv:(tx (v:Int)).size≤18) (h1:u < 1000000000000000000) (h2:v < 1000000000000000000) (w:World) :
 Calls Tryz.prog 202 #[.string (tx (u:Int)),.string (tx (v:Int))] w fun e w'=>e=.returned (.tuple #[.int .u64 u,.int .u64 v,.bool true])∧Fr w w':=by
 have c1:=hZ (fun W=>Vj u h1 W)
 have c2:=hZ (fun W=>Vj v h2 W)
 have d1:decide ((18:Int) < ((tx (u:Int)).size:Int))=false:=Aa (by omega)
 have d2:decide ((18:Int) < ((tx (v:Int)).size:Int))=false:=Aa (by omega)
 go_enter Tryz.func202,Tryz.ntmps202
 go_wp2_with fail
 refine (c1.out _).mono ?_
 rintro e w1 ⟨rfl,hf1⟩
 go_wp2_with fail
 refine (c2.out _).mono ?_
 rintro e w2 ⟨rfl,hf2⟩
 go_wp2_with fail
 go_ret3
 exact ⟨rfl,hf1.trans hf2⟩
theorem WB (u:Nat) (hu64:u < 18446744073709551616) (w:World) (hG:G w) :
 Calls Tryz.prog 288 #[.int .u64 u,.int .i64 10] w fun e w'=>e=.returned (.string (tx (u:Int)))∧Fr w w':=by
 have hte:tx (u:Int)=⟨(decDigits u).toArray⟩:=by show (⟨(itoa (u:Int)).toArray⟩:ByteArray)=_; rw [BS (by omega),show (u:Int).toNat=u by omega]
 by_cases h100:u < 100
 ·have d1:decide ((u:Int) < 100)=true:=Ac (by omega)
  replace hte:=hZ hte
  go_enter Tryz.func288,Tryz.ntmps288
  go_wp2_with fail
  refine (Tryz.internal_strconv_small u h100 _).mono ?_
  rintro e w1 ⟨rfl,rfl⟩
  go_wp2_with fail
  go_ret
  exact ⟨by rw [hte.out]; rfl,Fr.refl _⟩
 ·have d1:decide ((u:Int) < 100)=false:=Aa (by omega)
  have hu1:1≤u:=by omega
  have hnd20:nDigits u≤20:=by have:=numDigits_eq u hu1 hu64; split at this <;> omega
  have hb3:nDigits u≤24:=by omega
  have hal:Tryz.prog.arrayLen 308=24:=by kernel_rfl
  have hsl:∀ W,(Instr.sliceAt 308 (.pointer (some ⟨w.heap.size,0,none⟩)) none (some (.int .i64 (nDigits u:Int))) none).run Tryz.prog W=.ok (.slice (some ⟨w.heap.size,0,none⟩) (nDigits u) 24) W:=fun W=>by
   rw [run_sliceAt_array_h W 308 ⟨w.heap.size,0,none⟩ (by simp [Program.arrayLen,Program.elem,Tryz.underlying308]) .i64 (nDigits u:Int) (by omega) (by rw [hal]; omega)]
   go_simp
  have hH0:=holds_zero0 w 308 (nDigits u) (by omega)
  have hfmt:=Tryz.internal_strconv_formatBase10 w.heap.size 0 24 u (Array.replicate (nDigits u) 0) (w.alloc (.cells zeros24 308)) hH0 (by rw [HT]; exact lt_pow_nDigits u) hu64 (by rw [HT]; omega)
  rw [HT] at hfmt
  have HH0:=hZ hH0
  have hnum:=hZ (fun W (hW:G W)=>Tryz.internal_strconv_numDigits u hu1 hu64 W hW)
  replace hte:=hZ hte
  clear hH0 hal
  have hGa:Hid (G (w.alloc (.cells zeros24 308))):=tabIs_alloc hG _
  go_enter Tryz.func288,Tryz.ntmps288
  go_wp2_with (go_at_call 249; refine (hnum.out _ hGa.out).mono ?_; rintro e w' ⟨rfl,rfl⟩)
  go_at_call 250
  refine hfmt.mono ?_
  rintro e w' ⟨rfl,k,v',dk,rfl,hF⟩
  have hcv:(convert 216 9 (.slice (some ⟨w.heap.size,0,none⟩) (nDigits u) 24)).run Tryz.prog ((putRow (fun (b:UInt8)=>Value.int .u8 (b.toNat:Int)) (w.alloc (.cells zeros24 308)) w.heap.size 0 dk).drewN k)=.ok (.string ⟨(decDigits u).toArray⟩) ((putRow (fun (b:UInt8)=>Value.int .u8 (b.toNat:Int)) (w.alloc (.cells zeros24 308)) w.heap.size 0 dk).drewN k):=by
   have h:=Y1 (P:=Tryz.prog) ((putRow (fun (b:UInt8)=>Value.int .u8 (b.toNat:Int)) (w.alloc (.cells zeros24 308)) w.heap.size 0 dk).drewN k) 216 9 5 ⟨w.heap.size,0,none⟩ 24 (decDigits u) Tryz.underlying216 Tryz.underlying5 Tryz.underlying9 (fun j hj=>by
    rw [row_is_numeral hF j hj,add_plain,World.cell?_drewN]
    exact cell?_putRow (fun (b:UInt8)=>Value.int .u8 (b.toNat:Int)) _ w.heap.size 0 _ dk HH0.out (by rw [hF.size,HT]) j (by rw [hF.size]; rw [decDigits_length] at hj; exact hj))
   rw [decDigits_length] at h
   exact h
  obtain ⟨os,-,eo⟩:=putRow_grow_new (fun (b:UInt8)=>Value.int .u8 (b.toNat:Int)) w #[.cells zeros24 308] w.heap.size 0 dk (Ag _)
  have hfr:Fr w ((putRow (fun (b:UInt8)=>Value.int .u8 (b.toNat:Int)) (w.alloc (.cells zeros24 308)) w.heap.size 0 dk).drewN k):=by
   rw [alloc_eq_grow,eo]
   exact Rp w k os
  replace hfr:=hZ hfr
  clear eo
  go_wp2
  go_ret
  exact ⟨by rw [hte.out]; rfl,hfr.out⟩
theorem X9 (u:Nat) (hu64:u < 18446744073709551616) (w:World) (hG:G w) :
 Calls Tryz.prog 203 #[.int .u64 u] w fun e w'=>e=.returned (.string (tx (u:Int)))∧Fr w w':=by
 have h1:∀ W:World,G W→Calls Tryz.prog 246 #[.int .u64 u,.int .i64 10] W fun e w'=>e=.returned (.string (tx (u:Int)))∧Fr W w':=fun W hW=>by
  go_enter Tryz.func246,Tryz.ntmps246
  go_wp2_with fail
  refine (WB u hu64 _ hW).mono ?_
  rintro e w1 ⟨rfl,hf⟩
  go_wp2_with fail
  go_ret
  exact ⟨rfl,hf⟩
 replace h1:=hZ h1
 go_enter Tryz.func203,Tryz.ntmps203
 go_wp2_with fail
 refine (h1.out _ hG).mono ?_
 rintro e w1 ⟨rfl,hf⟩
 go_wp2_with fail
 go_ret
 exact ⟨rfl,hf⟩
theorem Y0 (u v:Nat) (hs:(tx (u:Int)).size+(tx (v:Int)).size≤18) (h1:u < 1000000000000000000) (h2:v < 1000000000000000000) (h3:u * v < 18446744073709551616) (w:World) (hG:G w) :
 Calls Tryz.prog 143 #[.string (tx (u:Int)),.string (tx (v:Int))] w fun e w'=>e=.returned (.string (tx ((u * v:Nat):Int)))∧Fr w w':=by
 have c1:=hZ (fun W=>WY u v (by omega) (by omega) h1 h2 W)
 have c2:=hZ (fun W (hW:G W)=>X9 (u * v) h3 W hW)
 have d1:decide (((tx (u:Int)).size:Int)+((tx (v:Int)).size:Int)≤18)=true:=Ac (by omega)
 have e3:((u:Int) * (v:Int))=((u * v:Nat):Int):=by rw [AU]
 have e4:=hZ e3
 have h4:(u:Int) * (v:Int) < 18446744073709551616:=by omega
 have h5:(0:Int)≤(u:Int) * (v:Int):=by omega
 generalize tx (u:Int)=s at *
 generalize tx (v:Int)=t at *
 go_enter Tryz.func143,Tryz.ntmps143
 go_wp2_with fail
 refine (c1.out _).mono ?_
 rintro e w1 ⟨rfl,hf1⟩
 have c3:=c2.out w1 (hG.fr hf1)
 rw [← e3] at c3
 clear e3 h3
 go_wp2_with fail
 refine c3.mono ?_
 rintro e w2 ⟨rfl,hf2⟩
 go_wp2_with fail
 go_ret
 exact ⟨by rw [← e4.out]; rfl,hf1.trans hf2⟩
end Go.Proofs.YtcglmebcfeoedaaGreatDoor
namespace Go.Proofs.YtcglmebcfeoedaaGreatDoor
open Go.RowKit Go.Lib
attribute [local go_sem ↓] AA AB
abbrev qv (x:Rat):Value:=.agg #[sv x.num,sv (x.den:Int)]
theorem Un (a b:Int):Nat.gcd b.natAbs (a.tmod b).natAbs=Nat.gcd a.natAbs b.natAbs:=by
 rw [Int.natAbs_tmod,DY,← Zv,DY]
theorem Xt (n:Int) (d:Nat) (hd:0 < d):(mkRat n d).num=n.tdiv (Nat.gcd n.natAbs d:Int):=by
 rw [Rat.num_mkRat,Ai (by omega),DY]
 exact (YP (Int.ofNat_dvd_left.2 (Nat.gcd_dvd_left _ _))).symm
theorem Xu (n:Int) (d:Nat) (hd:0 < d):((mkRat n d).den:Int)=(d:Int).tdiv (Nat.gcd n.natAbs d:Int):=by
 rw [Rat.den_mkRat,Ai (by omega),DY]
 have h:((Nat.gcd n.natAbs d:Nat):Int) ∣ (d:Int):=Int.natCast_dvd_natCast.2 (Nat.gcd_dvd_right _ _)
 rw [YP h]
 exact Eq _ _
def MT (n:Int):Prop:=-4611686018427387904 < n∧n < 4611686018427387904
theorem Ou {n g:Int} (h:MT n):MT (n.tdiv g):=by
 have:=Int.natAbs_tdiv_le_natAbs n g
 unfold MT at *
 omega
theorem T4 (n:Int) (d:Nat) (hn:MT n) (hd0:0 < d) (hd:MT d) (w:World) (hG:G w) :
 Calls Tryz.prog 192 #[.int .i64 n,.int .i64 d] w fun e w'=>e=.returned (qv (mkRat n d))∧Fr w w':=by
 have hnum:=Xt n d hd0
 have hden:=Xu n d hd0
 unfold qv
 rw [hnum,hden]
 clear hnum hden
 obtain ⟨g,hg⟩:∃ g,g=Nat.gcd n.natAbs d:=⟨_,rfl⟩
 rw [← hg]
 have hg0:0 < g:=by rw [hg]; exact YE _ hd0
 have hgd:g≤d:=by rw [hg]; exact Nat.gcd_le_right _ hd0
 have hbn:=Ou (g:=g) hn
 have hbd:=Ou (g:=g) hd
 rw [DH (Af d)] at hbd
 rw [DH (Af d)]
 unfold MT at hn hd hbn hbd
 have hi1:=hZ (fun W (hW:Fr w W)=>FC (n.tdiv g) (by omega) (by omega) W (hG.fr hW))
 have hi2:=hZ (fun W (hW:Fr w W)=>FC ((d:Int) / (g:Int)) (by omega) (by omega) W (hG.fr hW))
 replace hbn:=hZ hbn
 replace hbd:=hZ hbd
 replace hg:=hZ hg
 obtain ⟨wb,hwb⟩:∃ wb,wb=w.alloc (.cells #[.string ⟨#[]⟩,.string ⟨#[]⟩] 194):=⟨_,rfl⟩
 have hfb:Fr w wb:=by rw [hwb]; exact (Fr.refl _).alloc _
 have q4:wb.cell? ⟨w.heap.size,0,none⟩=some (.string ⟨#[]⟩):=by rw [hwb]; exact (CZ _ _ _ _).1
 have q5:wb.cell? ⟨w.heap.size,1,none⟩=some (.string ⟨#[]⟩):=by rw [hwb]; exact (CY _ _ _ _).1
 have q6:wb.frozen? ⟨w.heap.size,0,none⟩=false:=by rw [hwb]; exact (CZ _ _ _ _).2
 have q7:wb.frozen? ⟨w.heap.size,1,none⟩=false:=by rw [hwb]; exact (CY _ _ _ _).2
 go_enter Tryz.func192,Tryz.ntmps192
 go_upto_region 1 with (fail)
 rw [← hwb]
 clear hwb
 go_wp2_with fail
 replace q4:=hZ q4
 replace q5:=hZ q5
 replace q6:=hZ q6
 replace q7:=hZ q7
 go_loopg [5,6] d (fun gk s5 s6 wr=>∃ a b:Int,s5=.int .i64 a∧s6=.int .i64 b∧Hid (Nat.gcd a.natAbs b.natAbs=g)∧b.natAbs≤gk∧a.natAbs < 4611686018427387904∧b.natAbs < 4611686018427387904∧Qt wb wr)
 case atStart=>exact ⟨n,d,rfl,rfl,by show _=_; rw [hg.out,AC],by rw [AC]; exact Ag _,by omega,by omega,Qt.refl _⟩
 case round=>
  obtain ⟨a,b,rfl,rfl,hgc,hbk,ha1,hb1,hq⟩:=hrel
  by_cases hb0:b=0
  ·subst hb0
   have hga:a.natAbs=g:=by have:=hgc.out; rw [Int.natAbs_zero,QS] at this; exact this
   have hz1:(0:Int) < (g:Int):=by omega
   have hz2:(1:Int)≤(g:Int):=by omega
   have hfr:=hq.fr
   replace q6:=hfr.keepf q4.out q6.out
   replace q7:=hfr.keepf q5.out q7.out
   replace q4:=hfr.keep q4.out
   replace q5:=hfr.keep q5.out
   replace hfr:=hfb.trans hfr
   clear hq hfb
   replace hbk:=hZ hbk
   by_cases hneg:a < 0
   ·obtain rfl:a=-(g:Int):=by omega
    go_wp2_with fail
    have hg00:((g:Int) == 0)=false:=Ay (by omega)
    have hg01:¬ (g:Int)=0:=by omega
    have hg02:¬ g=0:=by omega
    have hq1:IntKind.i64.wrap (n.tdiv (g:Int))=n.tdiv (g:Int):=Al _ (by have:=hbn.out; omega)
    have hq2:IntKind.i64.wrap ((d:Int) / (g:Int))=(d:Int) / (g:Int):=Al _ (by have:=hbd.out; omega)
    go_region_held3 (fun _=>True) (exact trivial)
     (first
      | (go_at_call 82; (with_reducible refine (hi1.out _ ?_).mono ?_); (exact BR); rintro e w3 ⟨rfl,hf3⟩; have hfz:Fr wr w3:=(by exact BR); have t4:=hfz.keep q4; have t5:=hfz.keep q5; have t6:=hfz.keepf q4 q6; have t7:=hfz.keepf q5 q7; have qs:=A7 w3 w.heap.size (sv (n.tdiv g)) (sv ((d:Int) / (g:Int))) _ _ t4 t5; have q8:=qs.2.2.1; have u0:=hZ qs.1; have u1:=hZ qs.2.1; have hfx:=hZ qs.2.2.2; clear qs)
      | (go_at_call 82; (with_reducible refine (hi2.out _ ?_).mono ?_); (exact BR); rintro e w4 ⟨rfl,hf4⟩; have hfz:Fr wr w4:=(by exact BR); have t4:=hfz.keep q4; have t5:=hfz.keep q5; have t6:=hfz.keepf q4 q6; have t7:=hfz.keepf q5 q7; have qs:=A7 w4 w.heap.size (sv (n.tdiv g)) (sv ((d:Int) / (g:Int))) _ _ t4 t5; have q8:=qs.2.2.1; have u0:=hZ qs.1; have u1:=hZ qs.2.1; have hfx:=hZ qs.2.2.2; clear qs))
    clear q8 t4 t5 t6 t7
    go_wp2_with fail
    have v0:=u0.out
    have v1:=u1.out
    refine Ax (v:=.agg #[sv (n.tdiv (g:Int)),sv ((d:Int) / (g:Int))]) (by simp [results,Tryz.results192,go_sem,v0,v1]) rfl ⟨rfl, ?_⟩
    exact ((Fx.of_fr (p:=fun q=>q=w.heap.size) (hfr.trans hfz)).trans hfx.out).toFr (fun q hq e=>by have e:q=w.heap.size:=e; omega)
   ·obtain rfl:a=(g:Int):=by omega
    go_wp2_with fail
    have hg00:((g:Int) == 0)=false:=Ay (by omega)
    have hg01:¬ (g:Int)=0:=by omega
    have hg02:¬ g=0:=by omega
    have hq1:IntKind.i64.wrap (n.tdiv (g:Int))=n.tdiv (g:Int):=Al _ (by have:=hbn.out; omega)
    have hq2:IntKind.i64.wrap ((d:Int) / (g:Int))=(d:Int) / (g:Int):=Al _ (by have:=hbd.out; omega)
    go_region_held3 (fun _=>True) (exact trivial)
     (first
      | (go_at_call 82; (with_reducible refine (hi1.out _ ?_).mono ?_); (exact BR); rintro e w3 ⟨rfl,hf3⟩; have hfz:Fr wr w3:=(by exact BR); have t4:=hfz.keep q4; have t5:=hfz.keep q5; have t6:=hfz.keepf q4 q6; have t7:=hfz.keepf q5 q7; have qs:=A7 w3 w.heap.size (sv (n.tdiv g)) (sv ((d:Int) / (g:Int))) _ _ t4 t5; have q8:=qs.2.2.1; have u0:=hZ qs.1; have u1:=hZ qs.2.1; have hfx:=hZ qs.2.2.2; clear qs)
      | (go_at_call 82; (with_reducible refine (hi2.out _ ?_).mono ?_); (exact BR); rintro e w4 ⟨rfl,hf4⟩; have hfz:Fr wr w4:=(by exact BR); have t4:=hfz.keep q4; have t5:=hfz.keep q5; have t6:=hfz.keepf q4 q6; have t7:=hfz.keepf q5 q7; have qs:=A7 w4 w.heap.size (sv (n.tdiv g)) (sv ((d:Int) / (g:Int))) _ _ t4 t5; have q8:=qs.2.2.1; have u0:=hZ qs.1; have u1:=hZ qs.2.1; have hfx:=hZ qs.2.2.2; clear qs))
    clear q8 t4 t5 t6 t7
    go_wp2_with fail
    have v0:=u0.out
    have v1:=u1.out
    refine Ax (v:=.agg #[sv (n.tdiv (g:Int)),sv ((d:Int) / (g:Int))]) (by simp [results,Tryz.results192,go_sem,v0,v1]) rfl ⟨rfl, ?_⟩
    exact ((Fx.of_fr (p:=fun q=>q=w.heap.size) (hfr.trans hfz)).trans hfx.out).toFr (fun q hq e=>by have e:q=w.heap.size:=e; omega)
  ·have d1:(b != 0)=true:=Bl.2 hb0
   have d2:(b == 0)=false:=Ay hb0
   have hst:=hZ ((Un a b).trans hgc.out)
   have hlt:=GQ a b hb0
   replace hb0:=hZ hb0
   go_wp2_with fail
   go_region
   go_wp2_with fail
   go_roundg (gk - 1)
   case measure=>omega
   case rel=>exact ⟨b,a.tmod b,rfl,by first | rfl | (simp; exact Al _ (by omega)),hst.out,by omega,by omega,by omega,hq.drew⟩
theorem Uo (x y:Nat) (hx:x < 4611686018427387904) (hy:y < 4611686018427387904) (w:World) :
 Calls Tryz.prog 279 #[.int .i64 x,.int .i64 y] w fun e w'=>e=.returned (.int .i64 (Nat.gcd x y:Nat))∧Fr w w':=by
 obtain ⟨g,hg⟩:∃ g,g=Nat.gcd x y:=⟨_,rfl⟩
 rw [← hg]
 replace hg:=hZ hg
 go_enter Tryz.func279,Tryz.ntmps279
 go_wp2_with fail
 go_loopg [0,1] y (fun gk s0 s1 wr=>∃ a b:Nat,s0=.int .i64 a∧s1=.int .i64 b∧Hid (Nat.gcd a b=g)∧b≤gk∧a < 4611686018427387904∧b < 4611686018427387904∧Qt w wr)
 case atStart=>exact ⟨x,y,rfl,rfl,hg.out.symm,Ag _,hx,hy,Qt.refl _⟩
 case round=>
  obtain ⟨a,b,rfl,rfl,hgc,hbk,ha1,hb1,hq⟩:=hrel
  by_cases hb0:b=0
  ·subst hb0
   have hga:a=g:=by have:=hgc.out; rw [QS] at this; exact this
   have hfin:=hZ hga
   clear hga
   go_wp2_with fail
   go_ret
   exact ⟨Bk (by rw [hfin.out]),hq.fr⟩
  ·have d1:((b:Int) != 0)=true:=Bl.2 (by omega)
   have d2:((b:Int) == 0)=false:=Ay (by omega)
   have hst:=hZ (show Nat.gcd b (a % b)=g by rw [← hgc.out,DY a b,Zv b a,DY])
   have hlt:=CL a (show 0 < b by omega)
   have z1:(0:Int)≤(a:Int):=Af _
   have z2:(1:Int)≤(b:Int):=by omega
   replace hb0:=hZ hb0
   go_wp2_with fail
   go_region
   go_wp2_with fail
   go_roundg (gk - 1)
   case measure=>omega
   case rel=>exact ⟨b,a % b,rfl,by go_num,hst.out,by omega,by omega,by omega,hq.drew⟩
theorem VW (n d:Int) (hd:d≠0):(Rat.divInt n d).num=(d.sign * n).fdiv (Nat.gcd (d.sign * n).natAbs d.natAbs:Nat):=by
 have e:(Nat.gcd (d.sign * n).natAbs d.natAbs)=d.gcd n:=by
  rw [BD,Fl hd,Ex,DY]; rfl
 rw [e,XW]
 exact (X4 _ (Af _)).symm
theorem VX (n d:Int) (hd:d≠0):((Rat.divInt n d).den:Int)=(d.natAbs:Int).fdiv (Nat.gcd (d.sign * n).natAbs d.natAbs:Nat):=by
 have e:(Nat.gcd (d.sign * n).natAbs d.natAbs)=d.gcd n:=by
  rw [BD,Fl hd,Ex,DY]; rfl
 rw [e,XX,Ai hd,X4 _ (Af _)]
 exact Eq _ _
theorem JS (x:Rat):0 < x.den:=QR x.den_nz
theorem LN (x:Rat):x.num=0 ↔ x=0:=Rat.num_eq_zero
theorem Ky (x:Rat) (w:World) :
 Calls Tryz.prog 198 #[qv x] w fun e w'=>e=.returned (.int .i64 x.num.sign)∧Fr w w':=by
 have hfA:Fr w (w.alloc (.cells #[sv x.num,sv (x.den:Int)] 194)):=(Fr.refl w).alloc _
 unfold qv
 generalize x.num=n at *
 generalize (x.den:Int)=d at *
 replace hfA:=hZ hfA
 go_enter Tryz.func198,Tryz.ntmps198
 go_wp2_with fail
 refine (Dt _ _).mono ?_
 rintro e w1 ⟨rfl,rfl⟩
 go_wp2_with fail
 go_ret
 exact ⟨rfl,hfA.out⟩
theorem NJ (n:Int):((tx n).toList == [49])=decide (n=1):=by rw [show [49]=itoa 1 from Ug.symm]; exact Lj _ _
theorem Wl (x y:Rat) (hx:(x.den:Int)=1) (hy:(y.den:Int)=1):(x+y).num=x.num+y.num∧((x+y).den:Int)=1:=by
 have e1:x.den=1:=by omega
 have e2:y.den=1:=by omega
 rw [Y3,e1,e2]
 constructor
 ·rw [Rat.num_mkRat]; simp
 ·rw [Rat.den_mkRat]; simp
def M2 (a b:Int):Prop:=(a.natAbs < 1000000000000∧b.natAbs < 10000)∨(a.natAbs < 10000∧b.natAbs < 1000000000000)∨(a.natAbs < 100000000∧b.natAbs < 100000000)
instance (a b:Int):Decidable (M2 a b):=inferInstanceAs (Decidable (_∨_∨_))
theorem H6 {n:Int} (h:(tx n).size≤9):n.natAbs < 1000000000:=by
 have h:(tx (n.natAbs:Int)).size≤9:=by
  rcases Int.lt_or_le n 0 with h9 | h9
  ·have:=Gt n h9
   rw [show (n.natAbs:Int)=-n by omega]; omega
  ·rw [show (n.natAbs:Int)=n by omega]; exact h
 rw [DB,BS (Af _),AW] at h
 have h1:=(CB (decDigits n.natAbs) 0 (B2 _)).2
 rw [B1,Az,Ex] at h1
 have h2:10 ^ (decDigits n.natAbs).length≤10 ^ 9:=BW (by decide) h
 exact An h1 h2
theorem VT (x y:Rat):Rat.divInt (x.num * y.num) ((x.den:Int) * (y.den:Int))=x * y:=by
 rw [← MV,Jq,Jq]
def Zl (x y:Rat):Prop:=M2 x.num y.num∧M2 x.den y.den
instance (x y:Rat):Decidable (Zl x y):=inferInstanceAs (Decidable (_∧_))
theorem Wm (x y:Rat):Rat.divInt (x.num * (y.den:Int)+y.num * (x.den:Int)) ((x.den:Int) * (y.den:Int))=x+y:=by
 rw [Y3,← AU]; exact Rat.divInt_ofNat _ _
def Zm (x y:Rat):Prop:=M2 x.num y.den∧M2 y.num x.den∧M2 x.den y.den
instance (x y:Rat):Decidable (Zm x y):=inferInstanceAs (Decidable (_∧_))
theorem Wb (x y:Rat):Rat.divInt (x.num * y.den) (x.den * y.num)=x / y:=by
 rw [Rat.div_def,Rat.inv_def,← MV,Jq]
def FG (w:World) (b o:Nat) (xs:List Rat):Prop :=
 gN≤b∧b < w.heap.size∧∀ j x,xs[j]?=some x→(w.cell? ⟨b,o+j * 2,none⟩=some (sv x.num)∧w.frozen? ⟨b,o+j * 2,none⟩=false)∧(w.cell? ⟨b,o+j * 2+1,none⟩=some (sv (x.den:Int))∧w.frozen? ⟨b,o+j * 2+1,none⟩=false)
theorem FG.fx {p:Nat→Prop} {w w':World} {b o:Nat} {xs:List Rat} (h:FG w b o xs) (k:Fx p w w') (hp:¬ p b):FG w' b o xs :=
 ⟨h.1,An h.2.1 k.size,fun j x hx=>by
  obtain ⟨⟨h1,h2⟩,h3,h4⟩:=h.2.2 j x hx
  exact ⟨⟨k.keep h1 hp,k.keepf h1 h2 hp⟩,k.keep h3 hp,k.keepf h3 h4 hp⟩⟩
theorem FG.fr {w w':World} {b o:Nat} {xs:List Rat} (h:FG w b o xs) (k:Fr w w'):FG w' b o xs :=
 h.fx (p:=fun _=>False) (Fx.of_fr k) (fun e=>e)
theorem FG.set {w:World} {b o:Nat} {xs:List Rat} (h:FG w b o xs) {k:Nat} (hk:k < xs.length) (x:Rat):FG ((w.setCell ⟨b,o+k * 2,none⟩ (sv x.num)).setCell ⟨b,o+k * 2+1,none⟩ (sv (x.den:Int))) b o (xs.set k x):=by
 obtain ⟨h1,h2,h3⟩:=h
 have hs:∀ (p q:Addr) (u v:Value),((w.setCell p u).setCell q v).heap.size=w.heap.size:=fun p q u v=>by rw [Cs,Cs]
 refine ⟨h1,by rw [hs]; exact h2,fun j y hy=>?_⟩
 rw [Ap,Ap,Ap,Ap]
 have ne:∀ i l:Nat,i≠l→(⟨b,i,none⟩:Addr)≠⟨b,l,none⟩:=fun i l e e2=>by injection e2 with _ e2; exact e e2
 rw [BA] at hy
 by_cases e:k=j
 ·subst e
  rw [Aj rfl,Aj hk] at hy
  injection hy with hy; subst hy
  obtain ⟨⟨a1,a2⟩,a3,a4⟩:=h3 k _ (Ab hk)
  refine ⟨⟨?_,a2⟩, ?_,a4⟩
  ·rw [Ad _ _ _ _ (ne _ _ (by omega))]; exact Aq _ _ _ (by rw [a1]; rfl)
  ·exact Aq _ _ _ (by rw [Ad _ _ _ _ (ne _ _ (by omega)),a3]; rfl)
 ·rw [Ai e] at hy
  obtain ⟨⟨a1,a2⟩,a3,a4⟩:=h3 j y hy
  refine ⟨⟨?_,a2⟩, ?_,a4⟩
  ·rw [Ad _ _ _ _ (ne _ _ (by omega)),Ad _ _ _ _ (ne _ _ (by omega))]; exact a1
  ·rw [Ad _ _ _ _ (ne _ _ (by omega)),Ad _ _ _ _ (ne _ _ (by omega))]; exact a3
def Cy (xs:List Rat):List Value:=xs.flatMap fun x=>[sv x.num,sv (x.den:Int)]
theorem Fs (xs ys:List Rat):Cy (xs ++ ys)=Cy xs ++ Cy ys:=by unfold Cy; rw [ZD]
theorem Hp (xs:List Rat):(Cy xs).length=xs.length * 2:=by
 induction xs with
 | nil=>rfl
 | cons x l ih=>show ((sv x.num) :: (sv (x.den:Int)) :: Cy l).length=_; rw [A3,A3,ih,A3]; omega
theorem LD:∀ (xs:List Rat) (j:Nat) (x:Rat),xs[j]?=some x→(Cy xs)[j * 2]?=some (sv x.num)∧(Cy xs)[j * 2+1]?=some (sv (x.den:Int))
 | [],j,x,h=>by simp at h
 | y :: l,0,x,h=>by rw [K2] at h; injection h with h; subst h; exact ⟨rfl,rfl⟩
 | y :: l,j+1,x,h=>by
   rw [B4] at h
   obtain ⟨a,b⟩:=LD l j x h
   have e:Cy (y :: l)=sv y.num :: sv (y.den:Int) :: Cy l:=rfl
   rw [e,show (j+1) * 2=j * 2+1+1 by omega,show j * 2+1+1+1=(j * 2+1)+1+1 by omega]
   exact ⟨by rw [B4,B4]; exact a,by rw [B4,B4]; exact b⟩
theorem Ho (xs:List Rat):∀ u ∈ Cy xs,u.oneCell'=true:=fun u hu=>by
 unfold Cy at hu
 obtain ⟨x,-,hx⟩:=List.mem_flatMap.1 hu
 simp at hx
 rcases hx with rfl | rfl <;> rfl
theorem EO {w:World} {base:Nat} {e:TypeId} {g n m cap:Nat} {xs:List Rat} (hb:gN≤base) (h:w.ownsRow base e 2 (.slice (some ⟨g,0,none⟩) n cap) m (Cy xs)):FG w g 0 xs∧n=m∧m=xs.length∧base≤g∧n≤cap:=by
 have h1:=h.1
 obtain ⟨a,b,c,d,f⟩:=Bf h
 refine ⟨⟨by omega,c,fun j x hx=>?_⟩,a,by rw [Hp] at h1; omega,b,d⟩
 obtain ⟨k1,k2⟩:=LD xs j x hx
 rw [Az]
 exact ⟨f _ _ k1,f _ _ k2⟩
structure Ew (w:World) (ob oo:Nat) (hs:List (Nat×Nat×Nat)) (g:List (List Rat)):Prop where
 len:hs.length=g.length
 outer:ob < w.heap.size
 gob:gN≤ob
 cell:∀ (i:Nat) (h:Nat×Nat×Nat) (xs:List Rat),hs[i]?=some h→g[i]?=some xs→w.cell? ⟨ob,oo+i,none⟩=some (.slice (some ⟨h.1,h.2.1,none⟩) xs.length h.2.2)∧w.frozen? ⟨ob,oo+i,none⟩=false
 row:∀ (i:Nat) (h:Nat×Nat×Nat) (xs:List Rat),hs[i]?=some h→g[i]?=some xs→FG w h.1 h.2.1 xs∧h.1≠ob
 apart:∀ (i j:Nat) (hi hj:Nat×Nat×Nat),hs[i]?=some hi→hs[j]?=some hj→i≠j→hi.1≠hj.1
theorem Ew.fx {p:Nat→Prop} {w w':World} {ob oo:Nat} {hs:List (Nat×Nat×Nat)} {g:List (List Rat)} (h:Ew w ob oo hs g) (k:Fx p w w') (hp:∀ j,gb ob hs j→¬ p j):Ew w' ob oo hs g :=
 ⟨h.len,An h.outer k.size,h.gob,
  fun i hd xs h1 h2=>by
   have:=h.cell i hd xs h1 h2
   exact ⟨k.keep this.1 (hp _ (.inl rfl)),k.keepf this.1 this.2 (hp _ (.inl rfl))⟩,
  fun i hd xs h1 h2=>by
   have:=h.row i hd xs h1 h2
   exact ⟨this.1.fx k (hp _ (.inr ⟨hd,Ae h1,rfl⟩)),this.2⟩,
  h.apart⟩
theorem Ew.fr {w w':World} {ob oo:Nat} {hs:List (Nat×Nat×Nat)} {g:List (List Rat)} (h:Ew w ob oo hs g) (k:Fr w w'):Ew w' ob oo hs g :=
 h.fx (p:=fun _=>False) (Fx.of_fr k) (fun _ _ e=>e)
theorem Ew.ge {w:World} {ob oo:Nat} {hs:List (Nat×Nat×Nat)} {g:List (List Rat)} (h:Ew w ob oo hs g):∀ k,gb ob hs k→gN≤k:=by
 rintro k (rfl | ⟨hd,hm,rfl⟩)
 ·exact h.gob
 ·obtain ⟨i,hi⟩:=AO hm
  have hlt:i < g.length:=by rw [← h.len]; exact (Ah.1 hi).1
  exact (h.row i hd _ hi (Ab hlt)).1.1
theorem Ew.at {w:World} {ob oo:Nat} {hs:List (Nat×Nat×Nat)} {g:List (List Rat)} (h:Ew w ob oo hs g) {i:Nat} (hi:i < g.length) :
 ∃ b o c,hs[i]?=some (b,o,c)∧w.cell? ⟨ob,oo+i,none⟩=some (.slice (some ⟨b,o,none⟩) (g[i]).length c)∧w.frozen? ⟨ob,oo+i,none⟩=false∧FG w b o g[i]∧b≠ob:=by
 have hl:i < hs.length:=by rw [h.len]; exact hi
 have h1:=Ab hl
 have h2:=Ab hi
 have h3:=h.cell i _ _ h1 h2
 have h4:=h.row i _ _ h1 h2
 exact ⟨hs[i].1,hs[i].2.1,hs[i].2.2,h1,h3.1,h3.2,h4.1,h4.2⟩
theorem Ew.setRow {w w':World} {ob oo:Nat} {hs:List (Nat×Nat×Nat)} {g:List (List Rat)} (h:Ew w ob oo hs g) {i b o c:Nat} (hi:hs[i]?=some (b,o,c)) {zs:List Rat}
 (k:Fx (·=b) w w') (ho:FG w' b o zs) (hl:∀ xs,g[i]?=some xs→zs.length=xs.length):Ew w' ob oo hs (g.set i zs):=by
 have hne:b≠ob:=by
  have hlt:i < g.length:=by rw [← h.len]; exact (Ah.1 hi).1
  exact (h.row i _ _ hi (Ab hlt)).2
 refine ⟨by simp [h.len],An h.outer k.size,h.gob,fun j hd xs h1 h2=>?_,fun j hd xs h1 h2=>?_,h.apart⟩
 ·have hj:j < g.length:=by have:=(Ah.1 h2).1; simpa using this
  have h3:=h.cell j hd _ h1 (Ab hj)
  rw [BA] at h2
  have e:xs.length=(g[j]).length:=by
   split at h2
   ·rename_i e; subst e; rw [Aj (by simpa using hj)] at h2; injection h2 with h2; subst h2; exact hl _ (Ab hj)
   ·rw [Ab hj] at h2; injection h2 with h2; rw [h2]
  rw [e]
  exact ⟨k.keep h3.1 (fun e=>hne e.symm),k.keepf h3.1 h3.2 (fun e=>hne e.symm)⟩
 ·have hj:j < g.length:=by have:=(Ah.1 h2).1; simpa using this
  have h3:=h.row j hd _ h1 (Ab hj)
  rw [BA] at h2
  refine ⟨?_,h3.2⟩
  split at h2
  ·rename_i e; subst e
   rw [Aj (by simpa using hj)] at h2; injection h2 with h2; subst h2
   rw [hi] at h1; injection h1 with h1; subst h1
   exact ho
  ·rename_i e
   rw [Ab hj] at h2; injection h2 with h2; subst h2
   exact h3.1.fx k (fun e2=>h.apart i j _ _ hi h1 e e2.symm)
theorem Ew.swap {w:World} {ob oo:Nat} {hs:List (Nat×Nat×Nat)} {g:List (List Rat)} (h:Ew w ob oo hs g) {i j:Nat} {hi hj:Nat×Nat×Nat} {xs ys:List Rat}
 (h1:hs[i]?=some hi) (h2:hs[j]?=some hj) (h3:g[i]?=some xs) (h4:g[j]?=some ys) (hij:i≠j) :
 Ew ((w.setCell ⟨ob,oo+i,none⟩ (.slice (some ⟨hj.1,hj.2.1,none⟩) ys.length hj.2.2)).setCell ⟨ob,oo+j,none⟩ (.slice (some ⟨hi.1,hi.2.1,none⟩) xs.length hi.2.2)) ob oo (swp hs i j) (swp g i j):=by
 have hf:Fx (·=ob) w ((w.setCell ⟨ob,oo+i,none⟩ (.slice (some ⟨hj.1,hj.2.1,none⟩) ys.length hj.2.2)).setCell ⟨ob,oo+j,none⟩ (.slice (some ⟨hi.1,hi.2.1,none⟩) xs.length hi.2.2)) :=
  Fx.setCell (p:=(·=ob)) (q:=⟨ob,oo+j,none⟩) (Fx.setCell (p:=(·=ob)) (q:=⟨ob,oo+i,none⟩) (Fx.refl _ w) (.inl rfl) _) (.inl rfl) _
 have ci:=h.cell i _ _ h1 h3
 have cj:=h.cell j _ _ h2 h4
 have eij:(⟨ob,oo+i,none⟩:Addr)≠⟨ob,oo+j,none⟩:=fun e=>by injection e with _ e; omega
 refine ⟨by rw [Fp,Fp,h.len],An h.outer hf.size,h.gob,fun k hd zs k1 k2=>?_,fun k hd zs k1 k2=>?_,fun a b ha hb k1 k2 hab=>?_⟩
 ·rw [Dp hs i j h1 h2] at k1
  rw [Dp g i j h3 h4] at k2
  rw [Ap,Ap]
  by_cases e:k=j
  ·subst e
   rw [Aj rfl] at k1 k2
   injection k1 with k1; injection k2 with k2; subst k1; subst k2
   refine ⟨Aq _ _ _ ?_,cj.2⟩
   rw [Ad _ _ _ _ eij,cj.1]; rfl
  ·rw [Ai e] at k1 k2
   have ekj:(⟨ob,oo+j,none⟩:Addr)≠⟨ob,oo+k,none⟩:=fun e2=>by injection e2 with _ e2; omega
   rw [Ad _ _ _ _ ekj]
   by_cases e2:k=i
   ·subst e2
    rw [Aj rfl] at k1 k2
    injection k1 with k1; injection k2 with k2; subst k1; subst k2
    exact ⟨Aq _ _ _ (by rw [ci.1]; rfl),ci.2⟩
   ·rw [Ai e2] at k1 k2
    have eki:(⟨ob,oo+i,none⟩:Addr)≠⟨ob,oo+k,none⟩:=fun e3=>by injection e3 with _ e3; omega
    rw [Ad _ _ _ _ eki]
    exact h.cell k hd zs k1 k2
 ·rw [Dp hs i j h1 h2] at k1
  rw [Dp g i j h3 h4] at k2
  have go:∀ (m:Nat) (hd:Nat×Nat×Nat) (zs:List Rat),hs[m]?=some hd→g[m]?=some zs→FG ((w.setCell ⟨ob,oo+i,none⟩ (.slice (some ⟨hj.1,hj.2.1,none⟩) ys.length hj.2.2)).setCell ⟨ob,oo+j,none⟩ (.slice (some ⟨hi.1,hi.2.1,none⟩) xs.length hi.2.2)) hd.1 hd.2.1 zs∧hd.1≠ob:=fun m hd zs m1 m2=>by
   have:=h.row m hd zs m1 m2
   exact ⟨this.1.fx hf this.2,this.2⟩
  by_cases e:k=j
  ·subst e; rw [Aj rfl] at k1 k2; injection k1 with k1; injection k2 with k2; subst k1; subst k2; exact go i _ _ h1 h3
  ·rw [Ai e] at k1 k2
   by_cases e2:k=i
   ·subst e2; rw [Aj rfl] at k1 k2; injection k1 with k1; injection k2 with k2; subst k1; subst k2; exact go j _ _ h2 h4
   ·rw [Ai e2] at k1 k2; exact go k _ _ k1 k2
 ·rw [Dp hs i j h1 h2] at k1 k2
  have key:∀ (k:Nat) (hd:Nat×Nat×Nat),(if k=j then some hi else if k=i then some hj else hs[k]?)=some hd→∃ m,hs[m]?=some hd∧m=(if k=j then i else if k=i then j else k):=fun k hd hk=>by
   by_cases e:k=j
   ·rw [Aj e] at hk ⊢; exact ⟨i,by rw [h1,hk],rfl⟩
   ·rw [Ai e] at hk ⊢
    by_cases e2:k=i
    ·rw [Aj e2] at hk ⊢; exact ⟨j,by rw [h2,hk],rfl⟩
    ·rw [Ai e2] at hk ⊢; exact ⟨k,hk,rfl⟩
  obtain ⟨m,m1,m2⟩:=key a ha k1
  obtain ⟨n,n1,n2⟩:=key b hb k2
  refine h.apart m n _ _ m1 n1 (fun e=>hab ?_)
  rw [m2,n2] at e
  repeat' split at e
  all_goals omega
def NY (h:Nat×Nat×Nat) (xs:List Rat):Value:=.slice (some ⟨h.1,h.2.1,none⟩) xs.length h.2.2
def LS (hs:List (Nat×Nat×Nat)) (g:List (List Rat)):List Value:=List.zipWith NY hs g
structure K1 (w:World) (base:Nat) (E:TypeId) (v:Value) (hs:List (Nat×Nat×Nat)) (g:List (List Rat)):Prop where
 gbase:gN≤base
 len:hs.length=g.length
 own:w.ownsRow base E 1 v g.length (LS hs g)
 row:∀ (i:Nat) (h:Nat×Nat×Nat) (xs:List Rat),hs[i]?=some h→g[i]?=some xs→FG w h.1 h.2.1 xs∧v.ownBlock≠some h.1
 apart:∀ (i j:Nat) (hi hj:Nat×Nat×Nat),hs[i]?=some hi→hs[j]?=some hj→i≠j→hi.1≠hj.1
theorem K1.nil (w:World) (base:Nat) (E:TypeId) (h:gN≤base):K1 w base E (.slice none 0 0) [] [] :=
 ⟨h,rfl,A6 _ _ _ _,fun i h xs h1=>by simp at h1,fun i j hi hj h1=>by simp at h1⟩
theorem K1.fr {w w':World} {base:Nat} {E:TypeId} {v:Value} {hs:List (Nat×Nat×Nat)} {g:List (List Rat)} (h:K1 w base E v hs g) (k:Fr w w'):K1 w' base E v hs g :=
 ⟨h.gbase,h.len,Ba h.own k,fun i hd xs h1 h2=>⟨(h.row i hd xs h1 h2).1.fr k,(h.row i hd xs h1 h2).2⟩,h.apart⟩
theorem K1.lt {w:World} {base:Nat} {E:TypeId} {v:Value} {hs:List (Nat×Nat×Nat)} {g:List (List Rat)} (h:K1 w base E v hs g):∀ hd,hd ∈ hs→hd.1 < w.heap.size:=fun hd hm=>by
 obtain ⟨i,hi⟩:=AO hm
 have hl:i < g.length:=by rw [← h.len]; exact (Ah.1 hi).1
 exact (h.row i hd _ hi (Ab hl)).1.2.1
theorem Qq (hs:List (Nat×Nat×Nat)) (g:List (List Rat)) (h:Nat×Nat×Nat) (xs:List Rat) (hl:hs.length=g.length):LS (hs ++ [h]) (g ++ [xs])=LS hs g ++ [NY h xs]:=by
 unfold LS; rw [ZA hl]; rfl
theorem K1.push {w w':World} {base:Nat} {E:TypeId} {v:Value} {hs:List (Nat×Nat×Nat)} {g:List (List Rat)} (h:K1 w base E v hs g) {hd:Nat×Nat×Nat} {xs:List Rat} (ho:FG w hd.1 hd.2.1 xs)
 (hne:∀ h',h' ∈ hs→h'.1≠hd.1) (hv:v.ownBlock≠some hd.1) {gb cap:Nat} (hown:w'.ownsRow base E 1 (.slice (some ⟨gb,0,none⟩) (g.length+1) cap) (g.length+1) (LS hs g ++ [NY hd xs]))
 (hg:w.grownBy w' v.ownBlock) (hat:v.ownBlock=some gb∨w.heap.size≤gb):K1 w' base E (.slice (some ⟨gb,0,none⟩) (g.length+1) cap) (hs ++ [hd]) (g ++ [xs]):=by
 have hfx:=Fx.of_grown hg
 have hrow:∀ (i:Nat) (h0:Nat×Nat×Nat) (ys:List Rat),hs[i]?=some h0→g[i]?=some ys→FG w' h0.1 h0.2.1 ys∧gb≠h0.1:=fun i h0 ys h1 h2=>by
  obtain ⟨a,b⟩:=h.row i h0 ys h1 h2
  refine ⟨a.fx hfx (fun e=>b e), ?_⟩
  rcases hat with e | e
  ·intro e2; rw [e2] at e; exact b e
  ·have:=a.2.1; omega
 refine ⟨h.gbase,by simp [h.len], ?_,fun i h0 ys h1 h2=>?_,fun i j hi hj h1 h2 hij=>?_⟩
 ·rw [Qq _ _ _ _ h.len]; simpa using hown
 ·by_cases hi:i < g.length
  ·rw [A0 (by rw [h.len]; exact hi)] at h1
   rw [A0 hi] at h2
   obtain ⟨a,b⟩:=hrow i h0 ys h1 h2
   exact ⟨a,fun e=>by injection e with e; exact b e⟩
  ·rw [AR (by omega)] at h2
   rw [AR (by rw [h.len]; omega)] at h1
   rw [Cp] at h1 h2
   split at h1
   ·split at h2
    ·injection h1 with h1; injection h2 with h2; subst h1; subst h2
     refine ⟨ho.fx hfx (fun e=>hv e),fun e=>?_⟩
     injection e with e
     rcases hat with e2 | e2
     ·have e3:gb=hd.1:=e
      rw [e3] at e2; exact hv e2
     ·have:=ho.2.1
      have e3:gb=hd.1:=e
      omega
    ·simp at h2
   ·simp at h1
 ·have key:∀ (i:Nat) (h0:Nat×Nat×Nat),(hs ++ [hd])[i]?=some h0→(i < hs.length∧hs[i]?=some h0)∨(i=hs.length∧h0=hd):=fun i h0 h=>by
   by_cases hi:i < hs.length
   ·rw [A0 hi] at h; exact .inl ⟨hi,h⟩
   ·rw [AR (by omega),Cp] at h
    split at h
    ·injection h with h; exact .inr ⟨by omega,h.symm⟩
    ·simp at h
  rcases key i hi h1 with ⟨a1,a2⟩ | ⟨a1,a2⟩ <;> rcases key j hj h2 with ⟨b1,b2⟩ | ⟨b1,b2⟩
  ·exact h.apart i j _ _ a2 b2 hij
  ·subst b2; exact hne _ (Ae a2)
  ·subst a2; exact (hne _ (Ae b2)).symm
  ·omega
theorem K1.pushN {w w':World} {base:Nat} {E:TypeId} {v u:Value} {hs:List (Nat×Nat×Nat)} {g:List (List Rat)} (h:K1 w base E v hs g) {hd:Nat×Nat×Nat} {xs:List Rat} (ho:FG w hd.1 hd.2.1 xs)
 (hne:∀ h',h' ∈ hs→h'.1≠hd.1) (hv:v.ownBlock≠some hd.1) {gb cap n:Nat} (hn:g.length=n) (hu:u=NY hd xs) (hown:w'.ownsRow base E 1 (.slice (some ⟨gb,0,none⟩) (n+1) cap) (n+1) (LS hs g ++ [u]))
 (hg:w.grownBy w' v.ownBlock) (hat:v.ownBlock=some gb∨w.heap.size≤gb):K1 w' base E (.slice (some ⟨gb,0,none⟩) (n+1) cap) (hs ++ [hd]) (g ++ [xs]):=by
 subst hn; subst hu
 exact h.push ho hne hv hown hg hat
theorem K1.grid {w:World} {base:Nat} {E:TypeId} {gb n cap:Nat} {hs:List (Nat×Nat×Nat)} {g:List (List Rat)} (h:K1 w base E (.slice (some ⟨gb,0,none⟩) n cap) hs g):Ew w gb 0 hs g∧n=g.length∧base≤gb∧n≤cap:=by
 obtain ⟨a,b,c,d,f⟩:=Bf h.own
 refine ⟨⟨h.len,c,AE h.gbase b,fun i hd xs h1 h2=>?_,fun i hd xs h1 h2=>?_,h.apart⟩,a,b,d⟩
 ·have:=f i (NY hd xs) (by unfold LS; rw [DJ,h1,h2])
  simpa [NY] using this
 ·obtain ⟨p,q⟩:=h.row i hd xs h1 h2
  exact ⟨p,fun e=>q (by simp [Value.ownBlock,e])⟩
theorem Rm:(Tryz.prog.info? 194).map (fun i=>(i.zero,i.size,i.bytes))=some (some (.agg #[.string ⟨#[]⟩,.string ⟨#[]⟩]),2,32):=by kernel_rfl
theorem Qo:(Tryz.prog.info? 196).map (fun i=>(i.zero,i.size,i.bytes))=some (some (.slice none 0 0),1,24):=by kernel_rfl
theorem FW (w:World) (x y:Value) (t:TypeId) (n:Nat) (hn:w.heap.size=n):∀ (j:Nat) (u:Value),[x,y][j]?=some u→(w.alloc (.cells #[x,y] t)).cell? ((⟨n,0,none⟩:Addr).add j)=some u:=fun j u hu=>by
 subst hn
 match j,hu with
 | 0,hu=>simp at hu; subst hu; exact (CZ w x y t).1
 | 1,hu=>simp at hu; subst hu; exact (CY w x y t).1
 | j+2,hu=>simp at hu
theorem MZ (w:World):Calls Tryz.prog 187 #[] w fun e w'=>e=.returned (qv 0)∧Fr w w':=by
 have e:qv 0=.agg #[.string ⟨#[48]⟩,.string ⟨#[49]⟩]:=by unfold qv sv; rw [show (0:Rat).num=0 from rfl,show (((0:Rat).den:Nat):Int)=1 from rfl,Ix,GA]
 rw [e]
 clear e
 go_enter Tryz.func187,Tryz.ntmps187
 go_wp2_with fail
 exact Ax (v:=.agg #[.string ⟨#[48]⟩,.string ⟨#[49]⟩]) (by simp [results,Tryz.results187,go_sem]) rfl ⟨rfl,(Fr.refl _).alloc _⟩
theorem LM (w:World):Calls Tryz.prog 188 #[] w fun e w'=>e=.returned (qv 1)∧Fr w w':=by
 have e:qv 1=.agg #[.string ⟨#[49]⟩,.string ⟨#[49]⟩]:=by unfold qv sv; rw [show (1:Rat).num=1 from rfl,show (((1:Rat).den:Nat):Int)=1 from rfl,GA]
 rw [e]
 clear e
 go_enter Tryz.func188,Tryz.ntmps188
 go_wp2_with fail
 exact Ax (v:=.agg #[.string ⟨#[49]⟩,.string ⟨#[49]⟩]) (by simp [results,Tryz.results188,go_sem]) rfl ⟨rfl,(Fr.refl _).alloc _⟩
theorem OT (i:Int) (w:World):Calls Tryz.prog 135 #[.int .i64 i] w fun e w'=>e=.returned (.slice none 0 0)∧Fr w w':=by
 go_enter Tryz.func135,Tryz.ntmps135
 go_wp2_with fail
 go_ret
 exact ⟨rfl,Fr.refl _⟩
def G6 (m:List (List Int)):Nat:=(Bv m 0).length
theorem KU (m:List (List Int)) (a:Option Addr) (cap:Nat) (w:World) (hm:BT w a m) :
 Calls Tryz.prog 136 #[.slice a m.length cap] w fun e w'=>e=.returned (.int .i64 (G6 m))∧Fr w w':=by
 by_cases h0:m=[]
 ·subst h0
  go_enter Tryz.func136,Tryz.ntmps136
  go_wp2_with fail
  go_ret
  exact ⟨rfl,Fr.refl _⟩
 ·have hl:0 < m.length:=CX.2 h0
  obtain ⟨b,o,a',c',rfl,hc,-⟩:=hm.at hl
  have hr:G6 m=(m[0]).length:=by unfold G6; rw [Cb hl]
  rw [hr]
  generalize (m[0]).length=k at *
  obtain ⟨n,hn⟩:∃ n,n=m.length:=⟨_,rfl⟩
  rw [← hn] at hl ⊢
  have d1:((n:Int) == 0)=false:=Ay (by omega)
  rw [C9] at hc
  clear hr hn hm h0
  go_enter Tryz.func136,Tryz.ntmps136
  go_wp2_with fail
  go_ret
  exact ⟨rfl,Fr.refl _⟩
def CM (r:List Int):List Rat:=r.map fun n:Int=>(n:Rat)
theorem TT (n:Int):qv (n:Rat)=.agg #[sv n,.string ⟨#[49]⟩]:=by
 unfold qv; rw [Iu,Iv,show sv ((1:Nat):Int)=.string ⟨#[49]⟩ from by rw [show ((1:Nat):Int)=1 from rfl,sv,GA]]
def Wv (w:World) (g:List (List Rat)) (e:Ending) (w':World):Prop:=∃ v hs,e=.returned v∧K1 w' w.heap.size 196 v hs g∧Hid (∀ h,h ∈ hs→w.heap.size≤h.1)∧Fr w w'
theorem Sa (m:List (List Int)) (a:Option Addr) (cap n:Nat) (w:World) (hG:G w) (hm:BT w a m) (hr:Ce n m) (hn:1≤n) (hn2:n≤1000) (hl:m.length≤1000) (hb:∀ r,r ∈ m→∀ x,x ∈ r→Sm x) :
 Calls Tryz.prog 134 #[.slice a m.length cap,.func (.func 135) #[] #[]] w (Wv w (m.map CM)):=by
 have hG1:=hZ hG
 have hm1:=hZ hm
 have hr1:=hZ hr
 have hb1:=hZ hb
 have hgn:=CS hG
 obtain ⟨i0,hi,hz0,hz1,hz2⟩:=AQ Rm
 obtain ⟨i1,ji,jz0,jz1,jz2⟩:=AQ Qo
 have hno:=hZ (fun i W=>OT i W)
 have hlen:=hZ (show (m.map CM).length=m.length by simp)
 clear hG hm hr hb
 go_enter Tryz.func134,Tryz.ntmps134
 go_wp2_with fail
 go_loopg [5,13] m.length (fun k s5 s13 wr=>∃ (j:Nat) (hs:List (Nat×Nat×Nat)),s13=.int .i64 j∧j+k=m.length∧Fr w wr∧K1 wr w.heap.size 196 s5 hs ((m.map CM).take j)∧Hid (∀ h,h ∈ hs→w.heap.size≤h.1))
 case atStart=>exact ⟨0,[],rfl,by omega,Fr.refl _,K1.nil _ _ _ hgn,fun h hm=>by simp at hm⟩
 case round=>
  obtain ⟨j,hs,rfl,hjk,hf,hgg,hnew⟩:=hrel
  by_cases hlt:j < m.length
  ·obtain ⟨b,o,a',c',rfl,hc,hel⟩:=(hm1.out.fr hf).at hlt
   have hrj:=hr1.out.row hlt
   rw [hrj] at hc
   have hgl:((m.map CM).take j).length=j:=by rw [AG,hlen.out]; omega
   have hmj:(m.map CM)[j]?=some (CM m[j]):=by rw [Ao,Ab hlt]; rfl
   have hsn:=Bx hmj
   have hbj:=hb1.out _ (A8 hlt)
   generalize m[j]=row at *
   replace hrj:=hZ hrj
   replace hgl:=hZ hgl
   replace hsn:=hZ hsn
   replace hbj:=hZ hbj
   replace hmj:=hZ hmj
   replace hgg:=hZ hgg
   obtain ⟨wo,rfl⟩:∃ wo:World,wo=wr:=⟨_,rfl⟩
   obtain ⟨ko,rfl⟩:∃ ko:Nat,ko=gk:=⟨_,rfl⟩
   have zj0:(0:Int)≤(j:Int):=Af _
   have zj1:(j:Int) < (m.length:Int):=by omega
   go_wp2_with fail
   go_loopg [8,20] n (fun k s8 s20 wr2=>∃ t:Nat,s20=.int .i64 t∧t+k=n∧Fr wo wr2∧Hid (wr2.ownsRow wo.heap.size 194 2 s8 t (Cy ((CM row).take t))))
   case atStart=>exact ⟨0,rfl,by omega,Fr.refl _,A6 _ _ _ _⟩
   case round=>
    obtain ⟨t,rfl,htk,hf2,hown⟩:=hrel
    by_cases ht:t < n
    ·obtain ⟨b2,o2,x,rfl,hbl2,hxt,hcell2⟩:=(hel.fr hf2).at (i:=t) (by rw [hrj.out]; exact ht)
     have hGr:=(hG1.out.fr hf).fr hf2
     have hsx:=hbj.out x (Ae hxt)
     unfold Sm at hsx
     have hxq:(CM row)[t]?=some (x:Rat):=by unfold CM; rw [Ao,hxt]; rfl
     have hsn2:Hid (Cy ((CM row).take (t+1))=Cy ((CM row).take t) ++ [sv x,.string ⟨#[49]⟩]):=hZ (by
      rw [Bx hxq,Fs]
      have:=TT x
      unfold qv at this
      injection this with this
      injection this with this
      show _ ++ [sv (x:Rat).num,sv ((x:Rat).den:Int)]=_
      rw [this])
     replace hxt:=hZ hxt
     replace hxq:=hZ hxq
     have zt0:(0:Int)≤(t:Int):=Af _
     have zt1:(t:Int) < (n:Int):=by omega
     go_wp2_with fail
     refine (Du _ (by omega) (by omega) _ hGr).mono ?_
     rintro e w2 ⟨rfl,hf3⟩
     go_wp2_with (at_builtin; refine At _ rfl _ _ 196 (by rfl) _ 194 _ _ 2 32 Tryz.underlying196 hi hz0 hz1 hz2 rfl (by decide) _ t _ (by rfl) (Au (Ba hown.out hf3) _) ⟨w2.heap.size,0,none⟩ 1 1 [sv x,.string ⟨#[49]⟩] (by rfl) rfl (FW _ _ _ _ _ (by simp)) (by simp [Value.oneCell']) (by decide) (by unfold maxLen; omega) (by omega) (by have:=(hf2.trans hf3).size; simp; omega) (w2.heap.size+1) (by simp) ?_; intro gA capA wA hownA hgrowA hatA hltA)
     go_wp2_with fail
     go_roundg (gk - 1)
     case measure=>omega
     case rel=>exact ⟨t+1,by go_num,by omega,((hf2.trans hf3).alloc _).grown hgrowA (fun k e=>(hown.out.lt k e).1),by show _; rw [hsn2.out]; exact hownA⟩
    ·have hd:decide (t < n)=false:=Aa ht
     obtain rfl:t=n:=by omega
     obtain ⟨gb,cp,rfl⟩:=Dh hown.out (by omega)
     have hown9:=hown.out
     rw [Ak (by unfold CM; rw [Am,hrj.out]; omega)] at hown9
     obtain ⟨hrow,-,-,hgb,-⟩:=EO (AE hgn hf.size) hown9
     have hgg2:=hgg.out.fr hf2
     replace hrow:=hZ hrow
     have hne:u5.ownBlock≠some gb:=fun e=>by have h9:=(hgg.out.own.lt gb e).2; exact Cw _ (An h9 hgb)
     have hne2:∀ h',h' ∈ hs→h'.1≠gb:=fun h' hm e2=>by have h9:=hgg.out.lt h' hm; rw [e2] at h9; exact Cw _ (An h9 hgb)
     have hz9:=hf2.size
     have hz8:=hf.size
     have hnw:=hno.out j wr
     have hownB:=hZ (Ba hown.out ((Fr.refl wr)))
     go_wp2_with fail
     refine hnw.mono ?_
     rintro e w3 ⟨rfl,hf3⟩
     have hown3:=hZ (Ba hown.out hf3)
     have hgg3:=hgg2.fr hf3
     have hownG:=hgg3.own
     rw [hgl.out] at hownG
     have hz7:=hf3.size
     clear hown hown9 hownB
     go_wp2_with (first
     | (at_builtin; refine wpList_append_own_none rfl _ _ 196 (by rfl) wo.heap.size 194 i0 2 Tryz.underlying196 hi _ t _ (by rfl) hown3.out (by rfl) ?_)
     | (at_builtin; refine At _ rfl _ _ 190 (by rfl) _ 196 _ _ 1 24 Tryz.underlying190 ji jz0 jz1 jz2 rfl (by decide) _ j _ (by rfl) (Au hownG _) ⟨w3.heap.size,0,none⟩ 1 1 [.slice (some ⟨gb,0,none⟩) t cp] (by rfl) rfl (AF _ _ _ _ (by simp)) (by simp [Value.oneCell']) (by decide) (by unfold maxLen; omega) (by omega) (by skip; simp; omega) (w3.heap.size+1) (by simp) ?_; intro gB capB wB hownB hgrowB hatB hltB; skip))
     have hpush:=(hgg3.fr ((Fr.refl w3).alloc _)).pushN (hd:=(gb,0,cp)) ((hrow.out.fr hf3).fr ((Fr.refl w3).alloc _)) hne2 hne hgl.out (by unfold NY CM; rw [Am,hrj.out]) hownB hgrowB (hatB.imp id (fun e=>by rw [e]; simp))
     rw [← hsn.out] at hpush
     have hfrB:Fr w wB:=((((hf.trans hf2).trans hf3).alloc _)).grown hgrowB (fun k e=>(hgg.out.own.lt k e).1)
     go_roundg (ko - 1)
     case measure=>omega
     case rel=>exact ⟨j+1,_,by go_num,by omega,hfrB,hpush,fun h hm=>by rcases A5.1 hm with h1 | h1; exact hnew.out h h1; (simp at h1; subst h1; exact AE hf.size hgb)⟩
  ·have hd:decide (j < m.length)=false:=Aa hlt
   have hjm:(m.map CM).take j=m.map CM:=Ak (by rw [hlen.out]; omega)
   rw [hjm] at hgg
   replace hjm:=hZ hjm
   go_wp2_with fail
   go_ret
   exact ⟨_,hs,rfl,hgg,hnew,hf⟩
section
variable {P:Program} {ops:Array Oper} {Q:Exit→Act→World→Prop} {md:Region.Mode} {S:World→Prop} {n:Nat}
end
section
variable {P:Program} {ops:Array Oper} {Q:Exit→Act→World→Prop} {md:Region.Mode} {S:World→Prop} {n:Nat}
def Cj (P:Program) (md:Region.Mode) (ops:Array Oper) (Q:Exit→Act→World→Prop) (S:World→Prop) (n:Nat):Nat→Array Bool→Act→World→Prop
 | 0,listed,a,w=>Region.ready md ops listed=[]∧Q .normal a w
 | fuel+1,listed,a,w=>
   (Region.ready md ops listed=[]→Q .normal a w) ∧
   ∀ i ∈ Region.ready md ops listed,wpOp P ops Q i (fun a' w'=>((listed.setIfInBounds i true).getD n true=false→S w')∧Cj P md ops Q S n fuel (listed.setIfInBounds i true) a' w') a w
theorem Lh:∀ (fuel:Nat) (listed:Array Bool) (a:Act) (w:World),Cj P md ops Q S n fuel listed a w→wpAny P md ops Q fuel listed a w
 | 0,_,_,_,h=>h
 | fuel+1,_,_,_,h=>⟨h.1,fun i hi=>wpOp_mono (fun a' w' h'=>Lh fuel _ a' w' h'.2) (h.2 i hi)⟩
theorem Tl {listed:Array Bool} {i:Nat} (hw:Region.waitsFor md ops n i=true) (hun:listed.getD i true=false):n ∉ Region.ready md ops listed:=fun hr=>by
 obtain ⟨o',ho',e,he,hb,hon⟩:=Region.waitsFor_spec hw
 obtain ⟨_,ot,hot,hall⟩:=On.1 hr
 have:o'=ot:=DU (ho'.symm.trans hot)
 subst this
 have h2:=hall e he hb
 rw [hon,getD_both hun] at h2
 cases h2
theorem NG {i:Nat} {oi:Oper} {v:Value} (hi:ops[i]?=some oi) (hw:Region.waitsFor md ops n i=true) (hin:i≠n) (hsel:∀ (j:Nat) (o:Oper) cs b,ops[j]?=some o→o.op≠.select cs b)
 (hQ:∀ c a w,Q (.panic c) (a.put oi.dst v) w→Q (.panic c) a w) :
 ∀ (fuel:Nat) (listed:Array Bool) (a:Act) (w:World),
   (∀ j oj,ops[j]?=some oj→j≠i→listed.getD j true=false→(∀ e ∈ oj.after,Region.binds md e=true→e.on≠i)→oi.apart ops oj=true) →
   i ∈ Region.ready md ops listed→YieldsIf P ops S oi v a→S w→listed.getD n true=false →
   Cj P md ops Q S n fuel (listed.setIfInBounds i true) (a.put oi.dst v) w→Cj P md ops Q S n (fuel+1) listed a w:=by
 have hisz:i < ops.size:=(Fn.1 hi).1
 intro fuel
 induction fuel with
 | zero=>
   intro listed a w _ hr hy hS hnu H
   refine ⟨fun h=>(by rw [h] at hr; cases hr),fun j hj=>?_⟩
   by_cases hji:j=i
   ·subst hji; exact hy.wpOp hi hS ⟨fun _=>hS,H⟩
   ·have:=Mt hj hji
    rw [H.1] at this
    cases this
 | succ fuel ih=>
   intro listed a w hfree hr hy hS hnu H
   refine ⟨fun h=>(by rw [h] at hr; cases hr),fun j hj=>?_⟩
   by_cases hji:j=i
   ·subst hji; exact hy.wpOp hi hS ⟨fun _=>hS,H⟩
   ·have h1:=H.2 j (Mt hj hji)
    have hjn:j≠n:=fun e=>Tl hw (On.1 hr).1 (e ▸ hj)
    obtain ⟨hjun,oj,hoj,hall⟩:=On.1 hj
    have hnot:∀ e ∈ oj.after,Region.binds md e=true→e.on≠i:=fun e he hb heq=>by
     have h1:=hall e he hb
     have h0:=(On.1 hr).1
     rw [heq,getD_both h0] at h1
     cases h1
    have h2:=wpOp_putIf hoj (hfree j oj hoj hji hjun hnot) (fun cs b=>hsel i oi cs b hi) (fun cs b=>hsel j oj cs b hoj) hQ hy h1
    have hfree':∀ k ok,ops[k]?=some ok→k≠i→(listed.setIfInBounds j true).getD k true=false →
     (∀ e ∈ ok.after,Region.binds md e=true→e.on≠i)→oi.apart ops ok=true:=fun k ok hk hki hun hno=>by
     refine hfree k ok hk hki ?_ hno
     by_cases hjk:j=k
     ·subst hjk; exact hjun
     ·rw [Gj true hjk] at hun; exact hun
    have hnj:(listed.setIfInBounds j true).getD n true=false:=by rw [Gj true hjn]; exact hnu
    have hnij:((listed.setIfInBounds i true).setIfInBounds j true).getD n true=false:=by rw [Gj true hjn,Gj true hin]; exact hnu
    refine wpOp_mono (fun a' w' h3=>⟨fun _=>h3.2.1 hnij,ih (listed.setIfInBounds j true) a' w' hfree' (Mt hr (Ne.symm hji)) h3.1 (h3.2.1 hnij) hnj ?_⟩) h2
    rw [KE _ _ hji]
    exact h3.2.2
theorem MC {i:Nat} {oi:Oper} {v:Value} (hi:ops[i]?=some oi) (hin:i≠n) (hsel:∀ (j:Nat) (o:Oper) cs b,ops[j]?=some o→o.op≠.select cs b)
 (hQ:∀ c a w,Q (.panic c) (a.put oi.dst v) w→Q (.panic c) a w) :
 ∀ (fuel:Nat) (listed:Array Bool) (a:Act) (w:World),
   (∀ j oj,ops[j]?=some oj→j≠i→listed.getD j true=false→(∀ e ∈ oj.after,Region.binds md e=true→e.on≠i)→oi.apart ops oj=true) →
   i ∈ Region.ready md ops listed→YieldsIf P ops (fun _=>True) oi v a→(listed.getD n true=false→S w) →
   Cj P md ops Q S n fuel (listed.setIfInBounds i true) (a.put oi.dst v) w→Cj P md ops Q S n (fuel+1) listed a w:=by
 have hisz:i < ops.size:=(Fn.1 hi).1
 intro fuel
 induction fuel with
 | zero=>
   intro listed a w _ hr hy hS H
   refine ⟨fun h=>(by rw [h] at hr; cases hr),fun j hj=>?_⟩
   by_cases hji:j=i
   ·subst hji; exact hy.wpOp hi trivial ⟨fun h=>hS (by rw [Gj true hin] at h; exact h),H⟩
   ·have:=Mt hj hji
    rw [H.1] at this
    cases this
 | succ fuel ih=>
   intro listed a w hfree hr hy hS H
   refine ⟨fun h=>(by rw [h] at hr; cases hr),fun j hj=>?_⟩
   by_cases hji:j=i
   ·subst hji; exact hy.wpOp hi trivial ⟨fun h=>hS (by rw [Gj true hin] at h; exact h),H⟩
   ·have h1:=H.2 j (Mt hj hji)
    obtain ⟨hjun,oj,hoj,hall⟩:=On.1 hj
    have hnot:∀ e ∈ oj.after,Region.binds md e=true→e.on≠i:=fun e he hb heq=>by
     have h1:=hall e he hb
     have h0:=(On.1 hr).1
     rw [heq,getD_both h0] at h1
     cases h1
    have h2:=wpOp_putIf hoj (hfree j oj hoj hji hjun hnot) (fun cs b=>hsel i oi cs b hi) (fun cs b=>hsel j oj cs b hoj) hQ hy h1
    have hfree':∀ k ok,ops[k]?=some ok→k≠i→(listed.setIfInBounds j true).getD k true=false →
     (∀ e ∈ ok.after,Region.binds md e=true→e.on≠i)→oi.apart ops ok=true:=fun k ok hk hki hun hno=>by
     refine hfree k ok hk hki ?_ hno
     by_cases hjk:j=k
     ·subst hjk; exact hjun
     ·rw [Gj true hjk] at hun; exact hun
    have hno:(listed.setIfInBounds j true).getD n true=false→((listed.setIfInBounds i true).setIfInBounds j true).getD n true=false:=fun h=>by
     rw [KE _ _ (Ne.symm hji),Gj true hin]; exact h
    refine wpOp_mono (fun a' w' h3=>⟨fun h=>h3.2.1 (hno h),ih (listed.setIfInBounds j true) a' w' hfree' (Mt hr (Ne.symm hji)) h3.1 (fun h=>h3.2.1 (hno h)) ?_⟩) h2
    rw [KE _ _ hji]
    exact h3.2.2
theorem Oq {i:Nat} {oi:Oper} {v:Value} {fuel:Nat} {listed:Array Bool} {a:Act} {w:World} (hi:ops[i]?=some oi) (hw:Region.waitsFor md ops n i=true) (hin:i≠n)
 (hs:Region.noSelect ops=true) (hf:Region.free md ops listed i=true) (hr:(Region.ready md ops listed).contains i=true) (hnu:listed.getD n true=false)
 (hQ:∀ c a w,Q (.panic c) (a.put oi.dst v) w→Q (.panic c) a w) (hy:YieldsIf P ops S oi v a) (hS:S w)
 (h:Cj P md ops Q S n fuel (listed.setIfInBounds i true) (a.put oi.dst v) w):Cj P md ops Q S n (fuel+1) listed a w :=
 NG hi hw hin (Zt hs) hQ fuel listed a w (Region.free_spec hi hf) (by simpa using hr) hy hS hnu h
theorem BL {α:Type} (l:List α) (i:Nat) (a:α):l.toArray.setIfInBounds i a=(l.set i a).toArray:=List.setIfInBounds_toArray ..
theorem BV {α:Type} (x a:α) (l:List α):(x :: l).set 0 a=a :: l:=rfl
theorem BU {α:Type} (x a:α) (l:List α) (n:Nat):(x :: l).set (n+1) a=x :: l.set n a:=rfl
def uB (md:Region.Mode) (ops:Array Oper) (i n:Nat) (listed:Array Bool):Bool:=Region.waitsFor md ops n i && !(i == n) && Region.noSelect ops && Region.free md ops listed i && (Region.ready md ops listed).contains i && !listed.getD n true
theorem uT (i:Nat) {oi:Oper} {v:Value} {fuel:Nat} {listed:Array Bool} {a:Act} {w:World} (hi:ops[i]?=some oi) (hb:uB md ops i n listed=true) (hy:YieldsIf P ops S oi v a) (hS:S w)
 (h:Cj P md ops Q S n fuel (listed.setIfInBounds i true) (a.put oi.dst v) w) (hQ:∀ c a w,Q (.panic c) (a.put oi.dst v) w→Q (.panic c) a w:=by exact fun _ _ _ h=>h):Cj P md ops Q S n (fuel+1) listed a w:=by
 unfold uB at hb
 simp only [Bb,Tf,IL] at hb
 obtain ⟨⟨⟨⟨⟨h1,h2⟩,h3⟩,h4⟩,h5⟩,h6⟩:=hb
 exact Oq hi h1 h2 h3 h4 h5 h6 hQ hy hS h
theorem uK (i:Nat) {oi:Oper} {v:Value} {fuel:Nat} {listed:Array Bool} {a:Act} {w:World} (h:Cj P md ops Q S n fuel (listed.setIfInBounds i true) (a.put oi.dst v) w) (hi:ops[i]?=some oi:=by rfl) (hb:uB md ops i n listed=true:=by kernel_rfl) (hw:Region.wanted oi (yielded ops a.tmps)=true:=by rfl)
 (hy:∀ w,S w→(execOp a.eval oi).run P w=.ok (.value v) w:=by (intro w hSw; (try dsimp only at hSw); go_simp; try (with_reducible rfl))) (hS:S w:=by assumption) (hQ:∀ c a w,Q (.panic c) (a.put oi.dst v) w→Q (.panic c) a w:=by exact fun _ _ _ h=>h):Cj P md ops Q S n (fuel+1) listed a w :=
 uT i hi hb (.inl ⟨hw,hy⟩) hS h hQ
theorem uM (i j:Nat) {oi:Oper} {v:Value} {fuel:Nat} {listed:Array Bool} {a:Act} {w:World} (h:Cj P md ops Q S n fuel (listed.setIfInBounds i true) { a with tmps:=a.tmps.setIfInBounds j v } w) (hi:ops[i]?=some oi:=by rfl) (hd:oi.dst=some j:=by rfl) (hb:uB md ops i n listed=true:=by kernel_rfl) (hw:Region.wanted oi (yielded ops a.tmps)=true:=by rfl)
 (hy:∀ w,S w→(execOp a.eval oi).run P w=.ok (.value v) w:=by (intro w hSw; (try dsimp only at hSw); go_simp; try (with_reducible rfl))) (hS:S w:=by assumption) (hQ:∀ c a w,Q (.panic c) (a.put oi.dst v) w→Q (.panic c) a w:=by exact fun _ _ _ h=>h):Cj P md ops Q S n (fuel+1) listed a w :=
 uT i hi hb (.inl ⟨hw,hy⟩) hS (by rw [hd]; exact h) hQ
theorem Js {i:Nat} {oi:Oper} {v:Value} {fuel:Nat} {listed:Array Bool} {a:Act} {w:World} (hi:ops[i]?=some oi) (hin:i≠n)
 (hs:Region.noSelect ops=true) (hf:Region.free md ops listed i=true) (hr:(Region.ready md ops listed).contains i=true)
 (hQ:∀ c a w,Q (.panic c) (a.put oi.dst v) w→Q (.panic c) a w) (hy:YieldsIf P ops (fun _=>True) oi v a) (hS:S w)
 (h:Cj P md ops Q S n fuel (listed.setIfInBounds i true) (a.put oi.dst v) w):Cj P md ops Q S n (fuel+1) listed a w :=
 MC hi hin (Zt hs) hQ fuel listed a w (Region.free_spec hi hf) (by simpa using hr) hy (fun _=>hS) h
def Bc (P:Program) (md:Region.Mode) (ops:Array Oper) (Q:Exit→Act→World→Prop) (S:World→Prop) (n fuel:Nat) (listed:Array Bool) (a:Act) (w:World) (rs:List Nat):Prop :=
 ∀ i ∈ rs,wpOp P ops Q i (fun a' w'=>((listed.setIfInBounds i true).getD n true=false→S w')∧Cj P md ops Q S n fuel (listed.setIfInBounds i true) a' w') a w
theorem Bc.nil {fuel:Nat} {listed:Array Bool} {a:Act} {w:World}:Bc P md ops Q S n fuel listed a w []:=fun _ h=>by cases h
theorem Bc.cons {fuel:Nat} {listed:Array Bool} {a:Act} {w:World} {i:Nat} {o:Oper} {rs:List Nat} (ho:ops[i]?=some o)
 (h:∀ K':Act→World→Prop,Shut (∀ a w,S w→(S w→Cj P md ops Q S n fuel (listed.setIfInBounds i true) a w)→K' a w)→if Region.wanted o (yielded ops a.tmps)=true then Oper.wp P o a w K' Q else K' (a.put o.dst undef) w)
 (hs:Bc P md ops Q S n fuel listed a w rs):Bc P md ops Q S n fuel listed a w (i :: rs):=fun j hj=>by
 rcases A1.1 hj with rfl | hj
 ·exact wpOp_step ho (fun K' hK=>h K' (fun a w hS hW=>hK a w ⟨fun _=>hS,hW hS⟩))
 ·exact hs j hj
theorem Bc.last {fuel:Nat} {listed:Array Bool} {a:Act} {w:World} {o:Oper} (ho:ops[n]?=some o) (hln:(listed.setIfInBounds n true).getD n true=true) (hd:Region.ready md ops (listed.setIfInBounds n true)=[])
 (h:∀ K':Act→World→Prop,Shut (∀ a w,Q .normal a w→K' a w)→if Region.wanted o (yielded ops a.tmps)=true then Oper.wp P o a w K' Q else K' (a.put o.dst undef) w):Bc P md ops Q S n fuel listed a w [n]:=fun j hj=>by
 rcases A1.1 hj with rfl | hj
 ·refine wpOp_step ho (fun K' hK=>h K' (fun a w hq=>hK a w ⟨fun h=>(by rw [hln] at h; cases h), ?_⟩))
  cases fuel with
  | zero=>exact ⟨hd,hq⟩
  | succ f=>exact ⟨fun _=>hq,by rw [hd]; intro i hi; cases hi⟩
 ·cases hj
theorem Ci {rs:List Nat} {fuel:Nat} {listed:Array Bool} {a:Act} {w:World} (hr:Region.ready md ops listed=rs) (hne:rs≠[])
 (h:Bc P md ops Q S n fuel listed a w rs):Cj P md ops Q S n (fuel+1) listed a w :=
 ⟨fun h0=>absurd (hr ▸ h0) hne,hr ▸ h⟩
theorem uC (i:Nat) {o:Oper} {fuel:Nat} {listed:Array Bool} {a:Act} {w:World} (h:∀ K':Act→World→Prop,Shut (∀ a w,S w→(S w→Cj P md ops Q S n fuel (listed.setIfInBounds i true) a w)→K' a w)→if Region.wanted o (yielded ops a.tmps)=true then Oper.wp P o a w K' Q else K' (a.put o.dst undef) w)
 (hr:Region.ready md ops listed=[i]:=by kernel_rfl) (ho:ops[i]?=some o:=by rfl):Cj P md ops Q S n (fuel+1) listed a w :=
 Ci hr (by simp) (Bc.cons ho h Bc.nil)
theorem uL (n:Nat) {o:Oper} {fuel:Nat} {listed:Array Bool} {a:Act} {w:World} (h:∀ K':Act→World→Prop,Shut (∀ a w,Q .normal a w→K' a w)→if Region.wanted o (yielded ops a.tmps)=true then Oper.wp P o a w K' Q else K' (a.put o.dst undef) w)
 (hr:Region.ready md ops listed=[n]:=by kernel_rfl) (ho:ops[n]?=some o:=by rfl) (hln:(listed.setIfInBounds n true).getD n true=true:=by kernel_rfl) (hd:Region.ready md ops (listed.setIfInBounds n true)=[]:=by kernel_rfl):Cj P md ops Q S n (fuel+1) listed a w :=
 Ci hr (by simp) (Bc.last ho hln hd h)
theorem uD (i:Nat) {o:Oper} {fuel:Nat} {listed:Array Bool} {a:Act} {w:World} (h:∀ K':Act→World→Prop,Shut (∀ a w,Cj P md ops Q S n fuel (listed.setIfInBounds i true) a w→K' a w)→if Region.wanted o (yielded ops a.tmps)=true then Oper.wp P o a w K' Q else K' (a.put o.dst undef) w)
 (hr:Region.ready md ops listed=[i]:=by kernel_rfl) (ho:ops[i]?=some o:=by rfl) (hln:(listed.setIfInBounds i true).getD n true=true:=by kernel_rfl):Cj P md ops Q S n (fuel+1) listed a w :=
 ⟨fun h0=>(by rw [hr] at h0; cases h0),fun j hj=>by
  rw [hr] at hj
  rcases A1.1 hj with rfl | hj
  ·exact wpOp_step ho (fun K' hK=>h K' (fun a w hW=>hK a w ⟨fun h=>(by rw [hln] at h; cases h),hW⟩))
  ·cases hj⟩
theorem uE {fuel:Nat} {listed:Array Bool} {a:Act} {w:World} (h:Q .normal a w) (hr:Region.ready md ops listed=[]:=by kernel_rfl):Cj P md ops Q S n fuel listed a w:=by
 cases fuel with
 | zero=>exact ⟨hr,h⟩
 | succ f=>exact ⟨fun _=>h,by rw [hr]; intro i hi; cases hi⟩
theorem hK (i:Nat) {oi:Oper} {v:Value} {fuel:Nat} {listed:Array Bool} {a:Act} {w:World} (h:wpAnyH P md ops Q S fuel (listed.setIfInBounds i true) (a.put oi.dst v) w) (hi:ops[i]?=some oi:=by rfl) (hs:Region.noSelect ops=true:=by kernel_rfl) (hf:Region.free md ops listed i=true:=by kernel_rfl) (hr:(Region.ready md ops listed).contains i=true:=by kernel_rfl)
 (hw:Region.wanted oi (yielded ops a.tmps)=true:=by rfl) (hy:∀ w,S w→(execOp a.eval oi).run P w=.ok (.value v) w:=by (intro w hSw; (try dsimp only at hSw); go_simp; try (with_reducible rfl))) (hS:S w:=by assumption) (hQ:∀ c a w,Q (.panic c) (a.put oi.dst v) w→Q (.panic c) a w:=by exact fun _ _ _ h=>h):wpAnyH P md ops Q S (fuel+1) listed a w :=
 wpAnyH_take hi hs hf hr hQ (.inl ⟨hw,hy⟩) hS h
theorem hN (i:Nat) {oi:Oper} {fuel:Nat} {listed:Array Bool} {a:Act} {w:World} (h:wpAnyH P md ops Q S fuel (listed.setIfInBounds i true) (a.put oi.dst undef) w) (hi:ops[i]?=some oi:=by rfl) (hs:Region.noSelect ops=true:=by kernel_rfl) (hf:Region.free md ops listed i=true:=by kernel_rfl) (hr:(Region.ready md ops listed).contains i=true:=by kernel_rfl)
 (hw:Region.wanted oi (yielded ops a.tmps)=false:=by rfl) (hS:S w:=by assumption) (hQ:∀ c a w,Q (.panic c) (a.put oi.dst undef) w→Q (.panic c) a w:=by exact fun _ _ _ h=>h):wpAnyH P md ops Q S (fuel+1) listed a w :=
 wpAnyH_take hi hs hf hr hQ (.inr ⟨hw,rfl⟩) hS h
theorem hC (i:Nat) {o:Oper} {fuel:Nat} {listed:Array Bool} {a:Act} {w:World} (h:∀ K':Act→World→Prop,Shut (∀ a w,S w→(S w→wpAnyH P md ops Q S fuel (listed.setIfInBounds i true) a w)→K' a w)→if Region.wanted o (yielded ops a.tmps)=true then Oper.wp P o a w K' Q else K' (a.put o.dst undef) w)
 (hr:Region.ready md ops listed=[i]:=by kernel_rfl) (ho:ops[i]?=some o:=by rfl):wpAnyH P md ops Q S (fuel+1) listed a w :=
 wpAnyH_ready hr (by simp) (X5 ho h AllReadyH.nil)
theorem BP {id:Nat} {a:Act} {w:World} (n:Nat) (hm:P.follows .mixedOrders=true) (hS:S w.drew)
 (h:S w.drew→Cj P .any ops Q S n ops.size (Array.replicate ops.size false) a w.drew):(Code.region id ops true).wp P Q a w :=
 wp_region_any hm (Lh _ _ _ _ (h hS))
end
end Go.Proofs.YtcglmebcfeoedaaGreatDoor
