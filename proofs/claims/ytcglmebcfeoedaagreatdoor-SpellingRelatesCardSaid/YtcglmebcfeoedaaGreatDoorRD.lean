/- Contracts and laws: RD. -/
import Derived.Test.YtcglmebcfeoedaaGreatDoorRA
import Derived.Lib.AppendIntMem
import Derived.Test.YtcglmebcfeoedaaGreatDoorRC
import Derived.Deep.RegionHeld3
import Derived.Deep.Cut
import Derived.Test.YtcglmebcfeoedaaGreatDoorRB
import Derived.OrdersHeld
import Derived.StillTail

set_option maxRecDepth 100000
set_option maxHeartbeats 4000000
namespace Go.Proofs.YtcglmebcfeoedaaGreatDoor
open Go.RowKit Go.Lib Go.Sort
theorem parseUintM_dig:∀ (l:List UInt8) (acc:Nat),(∀ c ∈ l,48≤c.toNat∧c.toNat≤57)→digVal acc l < 1000000000000000000→parseUintM (2 ^ 64 - 1) acc l=.ok (digVal acc l)
 | [],acc,_,_=>rfl
 | c :: r,acc,hd,hv=>by
   have hc:=hd c List.mem_cons_self
   have hr:∀ x ∈ r,48≤x.toNat∧x.toNat≤57:=fun x hx=>hd x (List.mem_cons_of_mem _ hx)
   have e:digVal acc (c :: r)=digVal (acc * 10+(c.toNat - 48)) r:=rfl
   rw [e] at hv ⊢
   have hle:=(digVal_bound r (acc * 10+(c.toNat - 48)) hr).1
   have hp:=Nat.pow_pos (n:=r.length) (show 0 < 10 by decide)
   have h2:acc * 10+(c.toNat - 48)≤digVal (acc * 10+(c.toNat - 48)) r:=Nat.le_trans (Nat.le_mul_of_pos_right _ hp) hle
   rw [parseUintM,if_pos hc,if_neg (by omega),if_neg (by omega)]
   exact parseUintM_dig r _ hr hv
theorem parseUintB_dec (u:Nat) (h:u < 1000000000000000000):parseUintB 64 (tx (u:Int)).data.toList=.ok u:=by
 rw [tx_list,itoa_nn (by omega),show (u:Int).toNat=u by omega]
 unfold parseUintB
 rw [if_neg (dec_ne u),parseUintM_dig _ _ (dec_digits u) (by rw [digVal_dec]; exact h),digVal_dec]
theorem DSmall (u:Nat) (h:u < 1000000000000000000) (w:World) :
 Calls Tryz.prog 245 #[.string (tx (u:Int))] w fun e w'=>e=.returned (.tuple #[.int .u64 u,.bool true])∧Fr w w':=by
 have hs:=tx_size_le 18 (u:Int) (by omega) (by omega)
 have hp:∀ W:World,Calls Tryz.prog 287 #[.string (tx (u:Int)),.int .i64 10,.int .i64 64] W fun e w'=>e=.returned (.tuple #[.int .u64 u,.nilIface])∧Fr W w':=fun W=>by
  go_enter Tryz.func287,Tryz.ntmps287
  go_wp2_with fail
  refine (Tryz.internal_strconv_ParseUint_10_at64 (tx (u:Int)) (by omega) _).mono ?_
  rw [parseUintB_dec u h]
  rintro e w1 ⟨rfl,hw⟩
  have hf:=fr_bytes (hw.imp id fun h=>⟨_,h⟩)
  clear hw
  unfold uintTupleM
  go_wp2_with fail
  go_ret2
  exact ⟨rfl,hf⟩
 replace hp:=hZ hp
 go_enter Tryz.func245,Tryz.ntmps245
 go_wp2_with fail
 refine (hp.out _).mono ?_
 rintro e w1 ⟨rfl,hf⟩
 go_wp2_with fail
 go_ret2
 exact ⟨rfl,hf⟩
theorem Dboth (u v:Nat) (hu:(tx (u:Int)).size≤18) (hv:(tx (v:Int)).size≤18) (h1:u < 1000000000000000000) (h2:v < 1000000000000000000) (w:World) :
 Calls Tryz.prog 202 #[.string (tx (u:Int)),.string (tx (v:Int))] w fun e w'=>e=.returned (.tuple #[.int .u64 u,.int .u64 v,.bool true])∧Fr w w':=by
 have c1:=hZ (fun W=>DSmall u h1 W)
 have c2:=hZ (fun W=>DSmall v h2 W)
 have d1:decide ((18:Int) < ((tx (u:Int)).size:Int))=false:=decide_eq_false (by omega)
 have d2:decide ((18:Int) < ((tx (v:Int)).size:Int))=false:=decide_eq_false (by omega)
 go_enter Tryz.func202,Tryz.ntmps202
 go_wp2_with fail
 refine (c1.out _).mono ?_
 rintro e w1 ⟨rfl,hf1⟩
 go_wp2_with fail
 refine (c2.out _).mono ?_
 rintro e w2 ⟨rfl,hf2⟩
 go_wp2_with fail
 go_ret3
 exact ⟨rfl,hf1.trans hf2⟩
theorem FormatU (u:Nat) (hu64:u < 18446744073709551616) (w:World) (hG:G w) :
 Calls Tryz.prog 288 #[.int .u64 u,.int .i64 10] w fun e w'=>e=.returned (.string (tx (u:Int)))∧Fr w w':=by
 have hte:tx (u:Int)=⟨(decDigits u).toArray⟩:=by show (⟨(itoa (u:Int)).toArray⟩:ByteArray)=_; rw [itoa_nn (by omega),show (u:Int).toNat=u by omega]
 by_cases h100:u < 100
 ·have d1:decide ((u:Int) < 100)=true:=decide_eq_true (by omega)
  replace hte:=hZ hte
  go_enter Tryz.func288,Tryz.ntmps288
  go_wp2_with fail
  refine (Tryz.internal_strconv_small u h100 _).mono ?_
  rintro e w1 ⟨rfl,rfl⟩
  go_wp2_with fail
  go_ret
  exact ⟨by rw [hte.out]; rfl,Fr.refl _⟩
 ·have d1:decide ((u:Int) < 100)=false:=decide_eq_false (by omega)
  have hu1:1≤u:=by omega
  have hnd20:nDigits u≤20:=by have:=numDigits_eq u hu1 hu64; split at this <;> omega
  have hb3:nDigits u≤24:=by omega
  have hal:Tryz.prog.arrayLen 308=24:=by kernel_rfl
  have hsl:∀ W,(Instr.sliceAt 308 (.pointer (some ⟨w.heap.size,0,none⟩)) none (some (.int .i64 (nDigits u:Int))) none).run Tryz.prog W=.ok (.slice (some ⟨w.heap.size,0,none⟩) (nDigits u) 24) W:=fun W=>by
   rw [run_sliceAt_array_h W 308 ⟨w.heap.size,0,none⟩ (by simp [Program.arrayLen,Program.elem,Tryz.underlying308]) .i64 (nDigits u:Int) (by omega) (by rw [hal]; omega)]
   go_simp
  have hH0:=holds_zero0 w 308 (nDigits u) (by omega)
  have hfmt:=Tryz.internal_strconv_formatBase10 w.heap.size 0 24 u (Array.replicate (nDigits u) 0) (w.alloc (.cells zeros24 308)) hH0 (by rw [Array.size_replicate]; exact lt_pow_nDigits u) hu64 (by rw [Array.size_replicate]; omega)
  rw [Array.size_replicate] at hfmt
  have HH0:=hZ hH0
  have hnum:=hZ (fun W (hW:G W)=>Tryz.internal_strconv_numDigits u hu1 hu64 W hW)
  replace hte:=hZ hte
  clear hH0 hal
  have hGa:Hid (G (w.alloc (.cells zeros24 308))):=tabIs_alloc hG _
  go_enter Tryz.func288,Tryz.ntmps288
  go_wp2_with (go_at_call 249; refine (hnum.out _ hGa.out).mono ?_; rintro e w' ⟨rfl,rfl⟩)
  go_at_call 250
  refine hfmt.mono ?_
  rintro e w' ⟨rfl,k,v',dk,rfl,hF⟩
  have hcv:(convert 216 9 (.slice (some ⟨w.heap.size,0,none⟩) (nDigits u) 24)).run Tryz.prog ((putRow (fun (b:UInt8)=>Value.int .u8 (b.toNat:Int)) (w.alloc (.cells zeros24 308)) w.heap.size 0 dk).drewN k)=.ok (.string ⟨(decDigits u).toArray⟩) ((putRow (fun (b:UInt8)=>Value.int .u8 (b.toNat:Int)) (w.alloc (.cells zeros24 308)) w.heap.size 0 dk).drewN k):=by
   have h:=run_convert_bytes_back (P:=Tryz.prog) ((putRow (fun (b:UInt8)=>Value.int .u8 (b.toNat:Int)) (w.alloc (.cells zeros24 308)) w.heap.size 0 dk).drewN k) 216 9 5 ⟨w.heap.size,0,none⟩ 24 (decDigits u) Tryz.underlying216 Tryz.underlying5 Tryz.underlying9 (fun j hj=>by
    rw [row_is_numeral hF j hj,add_plain,World.cell?_drewN]
    exact cell?_putRow (fun (b:UInt8)=>Value.int .u8 (b.toNat:Int)) _ w.heap.size 0 _ dk HH0.out (by rw [hF.size,Array.size_replicate]) j (by rw [hF.size]; rw [decDigits_length] at hj; exact hj))
   rw [decDigits_length] at h
   exact h
  obtain ⟨os,-,eo⟩:=putRow_grow_new (fun (b:UInt8)=>Value.int .u8 (b.toNat:Int)) w #[.cells zeros24 308] w.heap.size 0 dk (Nat.le_refl _)
  have hfr:Fr w ((putRow (fun (b:UInt8)=>Value.int .u8 (b.toNat:Int)) (w.alloc (.cells zeros24 308)) w.heap.size 0 dk).drewN k):=by
   rw [alloc_eq_grow,eo]
   exact fr_grow w k os
  replace hfr:=hZ hfr
  clear eo
  go_wp2
  go_ret
  exact ⟨by rw [hte.out]; rfl,hfr.out⟩
theorem DOf (u:Nat) (hu64:u < 18446744073709551616) (w:World) (hG:G w) :
 Calls Tryz.prog 203 #[.int .u64 u] w fun e w'=>e=.returned (.string (tx (u:Int)))∧Fr w w':=by
 have h1:∀ W:World,G W→Calls Tryz.prog 246 #[.int .u64 u,.int .i64 10] W fun e w'=>e=.returned (.string (tx (u:Int)))∧Fr W w':=fun W hW=>by
  go_enter Tryz.func246,Tryz.ntmps246
  go_wp2_with fail
  refine (FormatU u hu64 _ hW).mono ?_
  rintro e w1 ⟨rfl,hf⟩
  go_wp2_with fail
  go_ret
  exact ⟨rfl,hf⟩
 replace h1:=hZ h1
 go_enter Tryz.func203,Tryz.ntmps203
 go_wp2_with fail
 refine (h1.out _ hG).mono ?_
 rintro e w1 ⟨rfl,hf⟩
 go_wp2_with fail
 go_ret
 exact ⟨rfl,hf⟩
theorem DMul (u v:Nat) (hs:(tx (u:Int)).size+(tx (v:Int)).size≤18) (h1:u < 1000000000000000000) (h2:v < 1000000000000000000) (h3:u * v < 18446744073709551616) (w:World) (hG:G w) :
 Calls Tryz.prog 143 #[.string (tx (u:Int)),.string (tx (v:Int))] w fun e w'=>e=.returned (.string (tx ((u * v:Nat):Int)))∧Fr w w':=by
 have c1:=hZ (fun W=>Dboth u v (by omega) (by omega) h1 h2 W)
 have c2:=hZ (fun W (hW:G W)=>DOf (u * v) h3 W hW)
 have d1:decide (((tx (u:Int)).size:Int)+((tx (v:Int)).size:Int)≤18)=true:=decide_eq_true (by omega)
 have e3:((u:Int) * (v:Int))=((u * v:Nat):Int):=by rw [Int.natCast_mul]
 have e4:=hZ e3
 have h4:(u:Int) * (v:Int) < 18446744073709551616:=by omega
 have h5:(0:Int)≤(u:Int) * (v:Int):=by omega
 generalize tx (u:Int)=s at *
 generalize tx (v:Int)=t at *
 go_enter Tryz.func143,Tryz.ntmps143
 go_wp2_with fail
 refine (c1.out _).mono ?_
 rintro e w1 ⟨rfl,hf1⟩
 have c3:=c2.out w1 (hG.fr hf1)
 rw [← e3] at c3
 clear e3 h3
 go_wp2_with fail
 refine c3.mono ?_
 rintro e w2 ⟨rfl,hf2⟩
 go_wp2_with fail
 go_ret
 exact ⟨by rw [← e4.out]; rfl,hf1.trans hf2⟩
end Go.Proofs.YtcglmebcfeoedaaGreatDoor
namespace Go.Proofs.YtcglmebcfeoedaaGreatDoor
open Go.RowKit Go.Lib
attribute [local go_sem ↓] Go.wp_at_zero Go.wp_at_succ
abbrev qv (x:Rat):Value:=.agg #[sv x.num,sv (x.den:Int)]
theorem gcd_step (a b:Int):Nat.gcd b.natAbs (a.tmod b).natAbs=Nat.gcd a.natAbs b.natAbs:=by
 rw [Int.natAbs_tmod,Nat.gcd_comm,← Nat.gcd_rec,Nat.gcd_comm]
theorem mk_num (n:Int) (d:Nat) (hd:0 < d):(mkRat n d).num=n.tdiv (Nat.gcd n.natAbs d:Int):=by
 rw [Rat.num_mkRat,if_neg (by omega),Nat.gcd_comm]
 exact (Int.tdiv_eq_ediv_of_dvd (Int.ofNat_dvd_left.2 (Nat.gcd_dvd_left _ _))).symm
theorem mk_den (n:Int) (d:Nat) (hd:0 < d):((mkRat n d).den:Int)=(d:Int).tdiv (Nat.gcd n.natAbs d:Int):=by
 rw [Rat.den_mkRat,if_neg (by omega),Nat.gcd_comm]
 have h:((Nat.gcd n.natAbs d:Nat):Int) ∣ (d:Int):=Int.natCast_dvd_natCast.2 (Nat.gcd_dvd_right _ _)
 rw [Int.tdiv_eq_ediv_of_dvd h]
 exact Int.natCast_ediv _ _
def Big9 (n:Int):Prop:=-4611686018427387904 < n∧n < 4611686018427387904
theorem tdiv_big {n g:Int} (h:Big9 n):Big9 (n.tdiv g):=by
 have:=Int.natAbs_tdiv_le_natAbs n g
 unfold Big9 at *
 omega
theorem of_any (n:Int) (d:Nat) (hn:Big9 n) (hd0:0 < d) (hd:Big9 d) (w:World) (hG:G w) :
 Calls Tryz.prog 192 #[.int .i64 n,.int .i64 d] w fun e w'=>e=.returned (qv (mkRat n d))∧Fr w w':=by
 have hnum:=mk_num n d hd0
 have hden:=mk_den n d hd0
 unfold qv
 rw [hnum,hden]
 clear hnum hden
 obtain ⟨g,hg⟩:∃ g,g=Nat.gcd n.natAbs d:=⟨_,rfl⟩
 rw [← hg]
 have hg0:0 < g:=by rw [hg]; exact Nat.gcd_pos_of_pos_right _ hd0
 have hgd:g≤d:=by rw [hg]; exact Nat.gcd_le_right _ hd0
 have hbn:=tdiv_big (g:=g) hn
 have hbd:=tdiv_big (g:=g) hd
 rw [Int.tdiv_eq_ediv_of_nonneg (Int.natCast_nonneg d)] at hbd
 rw [Int.tdiv_eq_ediv_of_nonneg (Int.natCast_nonneg d)]
 unfold Big9 at hn hd hbn hbd
 have hi1:=hZ (fun W (hW:Fr w W)=>itoa_any (n.tdiv g) (by omega) (by omega) W (hG.fr hW))
 have hi2:=hZ (fun W (hW:Fr w W)=>itoa_any ((d:Int) / (g:Int)) (by omega) (by omega) W (hG.fr hW))
 replace hbn:=hZ hbn
 replace hbd:=hZ hbd
 replace hg:=hZ hg
 obtain ⟨wb,hwb⟩:∃ wb,wb=w.alloc (.cells #[.string ⟨#[]⟩,.string ⟨#[]⟩] 194):=⟨_,rfl⟩
 have hfb:Fr w wb:=by rw [hwb]; exact (Fr.refl _).alloc _
 have q4:wb.cell? ⟨w.heap.size,0,none⟩=some (.string ⟨#[]⟩):=by rw [hwb]; exact (new2a _ _ _ _).1
 have q5:wb.cell? ⟨w.heap.size,1,none⟩=some (.string ⟨#[]⟩):=by rw [hwb]; exact (new2b _ _ _ _).1
 have q6:wb.frozen? ⟨w.heap.size,0,none⟩=false:=by rw [hwb]; exact (new2a _ _ _ _).2
 have q7:wb.frozen? ⟨w.heap.size,1,none⟩=false:=by rw [hwb]; exact (new2b _ _ _ _).2
 go_enter Tryz.func192,Tryz.ntmps192
 go_upto_region 1 with (fail)
 rw [← hwb]
 clear hwb
 go_wp2_with fail
 replace q4:=hZ q4
 replace q5:=hZ q5
 replace q6:=hZ q6
 replace q7:=hZ q7
 go_loopg [5,6] d (fun gk s5 s6 wr=>∃ a b:Int,s5=.int .i64 a∧s6=.int .i64 b∧Hid (Nat.gcd a.natAbs b.natAbs=g)∧b.natAbs≤gk∧a.natAbs < 4611686018427387904∧b.natAbs < 4611686018427387904∧Qt wb wr)
 case atStart=>exact ⟨n,d,rfl,rfl,by show _=_; rw [hg.out,Int.natAbs_natCast],by rw [Int.natAbs_natCast]; exact Nat.le_refl _,by omega,by omega,Qt.refl _⟩
 case round=>
  obtain ⟨a,b,rfl,rfl,hgc,hbk,ha1,hb1,hq⟩:=hrel
  by_cases hb0:b=0
  ·subst hb0
   have hga:a.natAbs=g:=by have:=hgc.out; rw [Int.natAbs_zero,Nat.gcd_zero_right] at this; exact this
   have hz1:(0:Int) < (g:Int):=by omega
   have hz2:(1:Int)≤(g:Int):=by omega
   have hfr:=hq.fr
   replace q6:=hfr.keepf q4.out q6.out
   replace q7:=hfr.keepf q5.out q7.out
   replace q4:=hfr.keep q4.out
   replace q5:=hfr.keep q5.out
   replace hfr:=hfb.trans hfr
   clear hq hfb
   replace hbk:=hZ hbk
   by_cases hneg:a < 0
   ·obtain rfl:a=-(g:Int):=by omega
    go_wp2_with fail
    have hg00:((g:Int) == 0)=false:=beq_false_of_ne (by omega)
    have hg01:¬ (g:Int)=0:=by omega
    have hg02:¬ g=0:=by omega
    have hq1:IntKind.i64.wrap (n.tdiv (g:Int))=n.tdiv (g:Int):=IntWalk.i64_in _ (by have:=hbn.out; omega)
    have hq2:IntKind.i64.wrap ((d:Int) / (g:Int))=(d:Int) / (g:Int):=IntWalk.i64_in _ (by have:=hbd.out; omega)
    go_region_held3 (fun _=>True) (exact trivial)
     (first
      | (go_at_call 82; (with_reducible refine (hi1.out _ ?_).mono ?_); (exact fr9); rintro e w3 ⟨rfl,hf3⟩; have hfz:Fr wr w3:=(by exact fr9); have t4:=hfz.keep q4; have t5:=hfz.keep q5; have t6:=hfz.keepf q4 q6; have t7:=hfz.keepf q5 q7; have qs:=two_store w3 w.heap.size (sv (n.tdiv g)) (sv ((d:Int) / (g:Int))) _ _ t4 t5; have q8:=qs.2.2.1; have u0:=hZ qs.1; have u1:=hZ qs.2.1; have hfx:=hZ qs.2.2.2; clear qs)
      | (go_at_call 82; (with_reducible refine (hi2.out _ ?_).mono ?_); (exact fr9); rintro e w4 ⟨rfl,hf4⟩; have hfz:Fr wr w4:=(by exact fr9); have t4:=hfz.keep q4; have t5:=hfz.keep q5; have t6:=hfz.keepf q4 q6; have t7:=hfz.keepf q5 q7; have qs:=two_store w4 w.heap.size (sv (n.tdiv g)) (sv ((d:Int) / (g:Int))) _ _ t4 t5; have q8:=qs.2.2.1; have u0:=hZ qs.1; have u1:=hZ qs.2.1; have hfx:=hZ qs.2.2.2; clear qs))
    clear q8 t4 t5 t6 t7
    go_wp2_with fail
    have v0:=u0.out
    have v1:=u1.out
    refine bodyPost_ret (v:=.agg #[sv (n.tdiv (g:Int)),sv ((d:Int) / (g:Int))]) (by simp [results,Tryz.results192,go_sem,v0,v1]) rfl ⟨rfl, ?_⟩
    exact ((Fx.of_fr (p:=fun q=>q=w.heap.size) (hfr.trans hfz)).trans hfx.out).toFr (fun q hq e=>by have e:q=w.heap.size:=e; omega)
   ·obtain rfl:a=(g:Int):=by omega
    go_wp2_with fail
    have hg00:((g:Int) == 0)=false:=beq_false_of_ne (by omega)
    have hg01:¬ (g:Int)=0:=by omega
    have hg02:¬ g=0:=by omega
    have hq1:IntKind.i64.wrap (n.tdiv (g:Int))=n.tdiv (g:Int):=IntWalk.i64_in _ (by have:=hbn.out; omega)
    have hq2:IntKind.i64.wrap ((d:Int) / (g:Int))=(d:Int) / (g:Int):=IntWalk.i64_in _ (by have:=hbd.out; omega)
    go_region_held3 (fun _=>True) (exact trivial)
     (first
      | (go_at_call 82; (with_reducible refine (hi1.out _ ?_).mono ?_); (exact fr9); rintro e w3 ⟨rfl,hf3⟩; have hfz:Fr wr w3:=(by exact fr9); have t4:=hfz.keep q4; have t5:=hfz.keep q5; have t6:=hfz.keepf q4 q6; have t7:=hfz.keepf q5 q7; have qs:=two_store w3 w.heap.size (sv (n.tdiv g)) (sv ((d:Int) / (g:Int))) _ _ t4 t5; have q8:=qs.2.2.1; have u0:=hZ qs.1; have u1:=hZ qs.2.1; have hfx:=hZ qs.2.2.2; clear qs)
      | (go_at_call 82; (with_reducible refine (hi2.out _ ?_).mono ?_); (exact fr9); rintro e w4 ⟨rfl,hf4⟩; have hfz:Fr wr w4:=(by exact fr9); have t4:=hfz.keep q4; have t5:=hfz.keep q5; have t6:=hfz.keepf q4 q6; have t7:=hfz.keepf q5 q7; have qs:=two_store w4 w.heap.size (sv (n.tdiv g)) (sv ((d:Int) / (g:Int))) _ _ t4 t5; have q8:=qs.2.2.1; have u0:=hZ qs.1; have u1:=hZ qs.2.1; have hfx:=hZ qs.2.2.2; clear qs))
    clear q8 t4 t5 t6 t7
    go_wp2_with fail
    have v0:=u0.out
    have v1:=u1.out
    refine bodyPost_ret (v:=.agg #[sv (n.tdiv (g:Int)),sv ((d:Int) / (g:Int))]) (by simp [results,Tryz.results192,go_sem,v0,v1]) rfl ⟨rfl, ?_⟩
    exact ((Fx.of_fr (p:=fun q=>q=w.heap.size) (hfr.trans hfz)).trans hfx.out).toFr (fun q hq e=>by have e:q=w.heap.size:=e; omega)
  ·have d1:(b != 0)=true:=bne_iff_ne.2 hb0
   have d2:(b == 0)=false:=beq_false_of_ne hb0
   have hst:=hZ ((gcd_step a b).trans hgc.out)
   have hlt:=tmod_abs a b hb0
   replace hb0:=hZ hb0
   go_wp2_with fail
   go_region
   go_wp2_with fail
   go_roundg (gk - 1)
   case measure=>omega
   case rel=>exact ⟨b,a.tmod b,rfl,by first | rfl | (simp; exact IntWalk.i64_in _ (by omega)),hst.out,by omega,by omega,by omega,hq.drew⟩
theorem gcdI_any (x y:Nat) (hx:x < 4611686018427387904) (hy:y < 4611686018427387904) (w:World) :
 Calls Tryz.prog 279 #[.int .i64 x,.int .i64 y] w fun e w'=>e=.returned (.int .i64 (Nat.gcd x y:Nat))∧Fr w w':=by
 obtain ⟨g,hg⟩:∃ g,g=Nat.gcd x y:=⟨_,rfl⟩
 rw [← hg]
 replace hg:=hZ hg
 go_enter Tryz.func279,Tryz.ntmps279
 go_wp2_with fail
 go_loopg [0,1] y (fun gk s0 s1 wr=>∃ a b:Nat,s0=.int .i64 a∧s1=.int .i64 b∧Hid (Nat.gcd a b=g)∧b≤gk∧a < 4611686018427387904∧b < 4611686018427387904∧Qt w wr)
 case atStart=>exact ⟨x,y,rfl,rfl,hg.out.symm,Nat.le_refl _,hx,hy,Qt.refl _⟩
 case round=>
  obtain ⟨a,b,rfl,rfl,hgc,hbk,ha1,hb1,hq⟩:=hrel
  by_cases hb0:b=0
  ·subst hb0
   have hga:a=g:=by have:=hgc.out; rw [Nat.gcd_zero_right] at this; exact this
   have hfin:=hZ hga
   clear hga
   go_wp2_with fail
   go_ret
   exact ⟨ret_int (by rw [hfin.out]),hq.fr⟩
  ·have d1:((b:Int) != 0)=true:=bne_iff_ne.2 (by omega)
   have d2:((b:Int) == 0)=false:=beq_false_of_ne (by omega)
   have hst:=hZ (show Nat.gcd b (a % b)=g by rw [← hgc.out,Nat.gcd_comm a b,Nat.gcd_rec b a,Nat.gcd_comm])
   have hlt:=Nat.mod_lt a (show 0 < b by omega)
   have z1:(0:Int)≤(a:Int):=Int.natCast_nonneg _
   have z2:(1:Int)≤(b:Int):=by omega
   replace hb0:=hZ hb0
   go_wp2_with fail
   go_region
   go_wp2_with fail
   go_roundg (gk - 1)
   case measure=>omega
   case rel=>exact ⟨b,a % b,rfl,by go_num,hst.out,by omega,by omega,by omega,hq.drew⟩
theorem Gcd_sm (a b:Int) (ha:Sm a) (hb:Sm b) (w:World) (hG:G w) :
 Calls Tryz.prog 237 #[.string (tx a),.string (tx b)] w fun e w'=>e=.returned (.string (tx (Nat.gcd a.natAbs b.natAbs:Nat)))∧Fr w w':=by
 have sa:=ha.size
 have sb:=hb.size
 unfold Sm at ha hb
 have h1:=hZ (fun W=>Abs_any a W (by omega))
 have h2:=hZ (fun W=>Abs_any b W (by omega))
 have hsa:(tx (a.natAbs:Int)).size≤18:=tx_size_le 17 _ (by omega) (by omega)
 have hsb:(tx (b.natAbs:Int)).size≤18:=tx_size_le 17 _ (by omega) (by omega)
 have h3:=hZ (fun W=>little_ok (a.natAbs:Int) 18 (by omega) (by omega) W (by omega))
 have h4:=hZ (fun W=>little_ok (b.natAbs:Int) 18 (by omega) (by omega) W (by omega))
 have h5:=hZ (fun W=>gcdI_any a.natAbs b.natAbs (by omega) (by omega) W)
 have hgl:Nat.gcd a.natAbs b.natAbs≤a.natAbs∨Nat.gcd a.natAbs b.natAbs≤b.natAbs:=by
  rcases Nat.eq_zero_or_pos a.natAbs with h | h
  ·exact .inr (by rw [h,Nat.gcd_zero_left]; exact Nat.le_refl _)
  ·exact .inl (Nat.gcd_le_left _ h)
 have h6:=hZ (fun W (hW:Fr w W)=>Of_any (Nat.gcd a.natAbs b.natAbs:Nat) (by omega) (by omega) W (hG.fr hW))
 generalize Nat.gcd a.natAbs b.natAbs=g at *
 clear ha hb sa sb hsa hsb hgl
 go_enter Tryz.func237,Tryz.ntmps237
 go_wp2_with fail
 refine (h1.out _).mono ?_
 rintro e w1 ⟨rfl,hf1⟩
 go_wp2_with fail
 refine (h2.out _).mono ?_
 rintro e w2 ⟨rfl,hf2⟩
 go_wp2_with fail
 refine (h3.out _).mono ?_
 rintro e w3 ⟨rfl,hf3⟩
 go_wp2_with fail
 refine (h4.out _).mono ?_
 rintro e w4 ⟨rfl,hf4⟩
 go_wp2_with fail
 refine (h5.out _).mono ?_
 rintro e w5 ⟨rfl,hf5⟩
 have hfr:=(((hf1.trans hf2).trans hf3).trans hf4).trans hf5
 go_wp2_with fail
 refine (h6.out _ hfr).mono ?_
 rintro e w6 ⟨rfl,hf6⟩
 go_wp2_with fail
 go_ret
 exact ⟨rfl,hfr.trans hf6⟩
theorem low_num (n d:Int) (hd:d≠0):(Rat.divInt n d).num=(d.sign * n).fdiv (Nat.gcd (d.sign * n).natAbs d.natAbs:Nat):=by
 have e:(Nat.gcd (d.sign * n).natAbs d.natAbs)=d.gcd n:=by
  rw [Int.natAbs_mul,Int.natAbs_sign_of_ne_zero hd,Nat.one_mul,Nat.gcd_comm]; rfl
 rw [e,Rat.num_divInt]
 exact (Int.fdiv_eq_ediv_of_nonneg _ (Int.natCast_nonneg _)).symm
theorem low_den (n d:Int) (hd:d≠0):((Rat.divInt n d).den:Int)=(d.natAbs:Int).fdiv (Nat.gcd (d.sign * n).natAbs d.natAbs:Nat):=by
 have e:(Nat.gcd (d.sign * n).natAbs d.natAbs)=d.gcd n:=by
  rw [Int.natAbs_mul,Int.natAbs_sign_of_ne_zero hd,Nat.one_mul,Nat.gcd_comm]; rfl
 rw [e,Rat.den_divInt,if_neg hd,Int.fdiv_eq_ediv_of_nonneg _ (Int.natCast_nonneg _)]
 exact Int.natCast_ediv _ _
theorem sm_abs {d:Int} (h:Sm d):Sm (d.natAbs:Int):=by unfold Sm at *; omega
theorem lowest_any (n d:Int) (hn:Sm n) (hd:Sm d) (h0:d≠0) (w:World) (hG:G w) :
 Calls Tryz.prog 193 #[.string (tx n),.string (tx d)] w fun e w'=>e=.returned (qv (Rat.divInt n d))∧Fr w w':=by
 unfold qv
 rw [low_num n d h0,low_den n d h0]
 obtain ⟨n2,hn2⟩:∃ n2,n2=d.sign * n:=⟨_,rfl⟩
 obtain ⟨d2,hd2⟩:∃ d2:Int,d2=d.natAbs:=⟨_,rfl⟩
 have hs2:Sm n2:=by
  rcases Int.lt_or_gt_of_ne h0 with h | h
  ·rw [hn2,Int.sign_eq_neg_one_of_neg h]; unfold Sm at *; omega
  ·rw [hn2,Int.sign_eq_one_of_pos h,Int.one_mul]; exact hn
 have hsd2:Sm d2:=by rw [hd2]; exact sm_abs hd
 have hd20:0 < d2:=by omega
 have hg2:=Gcd_sm n2 d2 hs2 hsd2
 have hna:d2.natAbs=d.natAbs:=by rw [hd2,Int.natAbs_natCast]
 rw [hna] at hg2
 rw [← hn2,← hd2]
 obtain ⟨g,hg⟩:∃ g,g=Nat.gcd n2.natAbs d.natAbs:=⟨_,rfl⟩
 rw [← hg] at hg2 ⊢
 have hgp:0 < g:=by rw [hg]; exact Nat.gcd_pos_of_pos_right _ (by omega)
 have hgd:g≤d.natAbs:=by rw [hg]; exact Nat.gcd_le_right _ (by omega)
 have hgS:Sm (g:Int):=by unfold Sm at *; omega
 have hdn:=hZ (fun W (hW:Fr w W)=>DivMod_sm n2 g hs2 hgS (by omega) W (hG.fr hW))
 have hdd:=hZ (fun W (hW:Fr w W)=>DivMod_sm d2 g hsd2 hgS (by omega) W (hG.fr hW))
 replace hg2:=hZ (fun W (hW:Fr w W)=>hg2 W (hG.fr hW))
 have hsn:=hn.size
 have hsd:=hd.size
 have hN1:=hZ (fun W=>Neg_any n W (by omega))
 have hN2:=hZ (fun W=>Neg_any d W (by omega))
 have hone:((tx (g:Int)).toList == [49])=decide ((g:Int)=1):=by rw [show [49]=itoa 1 from itoa1.symm]; exact tx_beq _ _
 obtain ⟨wb,hwb⟩:∃ wb,wb=w.alloc (.cells #[.string ⟨#[]⟩,.string ⟨#[]⟩] 194):=⟨_,rfl⟩
 have hfb:Fr w wb:=by rw [hwb]; exact (Fr.refl _).alloc _
 have q4:wb.cell? ⟨w.heap.size,0,none⟩=some (.string ⟨#[]⟩):=by rw [hwb]; exact (new2a _ _ _ _).1
 have q5:wb.cell? ⟨w.heap.size,1,none⟩=some (.string ⟨#[]⟩):=by rw [hwb]; exact (new2b _ _ _ _).1
 have q6:wb.frozen? ⟨w.heap.size,0,none⟩=false:=by rw [hwb]; exact (new2a _ _ _ _).2
 have q7:wb.frozen? ⟨w.heap.size,1,none⟩=false:=by rw [hwb]; exact (new2b _ _ _ _).2
 replace hg:=hZ hg
 by_cases hneg:d < 0
 ·have e1:-n=n2:=by rw [hn2,Int.sign_eq_neg_one_of_neg hneg]; omega
  have e2:-d=d2:=by omega
  have hsg:decide (d.sign < 0)=true:=decide_eq_true (by rw [Int.sign_eq_neg_one_of_neg hneg]; omega)
  rw [e1] at hN1
  rw [e2] at hN2
  replace hn2:=hZ hn2
  replace hd2:=hZ hd2
  replace hna:=hZ hna
  replace e1:=hZ e1
  replace e2:=hZ e2
  go_enter Tryz.func193,Tryz.ntmps193
  go_upto_region 1 with (fail)
  rw [← hwb]
  clear hwb
  go_wp2_with fail
  refine (Sign_any _ _).mono ?_
  rintro e w1 ⟨rfl,rfl⟩
  go_wp2_with fail
  refine (hN1.out _).mono ?_
  rintro e w1 ⟨rfl,hf1⟩
  go_wp2_with fail
  refine (hN2.out _).mono ?_
  rintro e w2 ⟨rfl,hf2⟩
  have hfz:=hf1.trans hf2
  replace q6:=hfz.keepf q4 q6
  replace q7:=hfz.keepf q5 q7
  replace q4:=hfz.keep q4
  replace q5:=hfz.keep q5
  replace hfb:=hfb.trans hfz
  go_wp2_with fail
  refine (hg2.out _ hfb).mono ?_
  rintro e w3 ⟨rfl,hf3⟩
  replace q6:=hf3.keepf q4 q6
  replace q7:=hf3.keepf q5 q7
  replace q4:=hf3.keep q4
  replace q5:=hf3.keep q5
  replace hfb:=hfb.trans hf3
  by_cases hg1:g=1
  ·have hb1:decide ((g:Int)=1)=true:=decide_eq_true (by omega)
   rw [hb1] at hone
   have r1:=hZ (show sv (n2.fdiv (g:Int))=sv n2 by rw [hg1,show ((1:Nat):Int)=1 from rfl,Int.fdiv_one])
   have r2:=hZ (show sv (d2.fdiv (g:Int))=sv d2 by rw [hg1,show ((1:Nat):Int)=1 from rfl,Int.fdiv_one])
   have qs:=two_store w3 w.heap.size (sv n2) (sv d2) _ _ q4 q5
   have q8:=qs.2.2.1
   have u0:=hZ qs.1
   have u1:=hZ qs.2.1
   have hfx:=hZ qs.2.2.2
   clear qs
   replace hg1:=hZ hg1
   go_wp2_with fail
   have v0:=u0.out
   have v1:=u1.out
   rw [r1.out,r2.out]
   refine bodyPost_ret (v:=.agg #[sv n2,sv d2]) (by simp [results,Tryz.results193,go_sem,v0,v1]) rfl ⟨rfl, ?_⟩
   exact ((Fx.of_fr (p:=fun q=>q=w.heap.size) hfb).trans hfx.out).toFr (fun q hq e=>by have e:q=w.heap.size:=e; omega)
  ·have hb1:decide ((g:Int)=1)=false:=decide_eq_false (by omega)
   rw [hb1] at hone
   replace hg1:=hZ hg1
   go_wp2_with fail
   refine (hdn.out _ hfb).mono ?_
   rintro e w4 ⟨rfl,hf4⟩
   replace hfb:=hfb.trans hf4
   go_wp2_with fail
   refine (hdd.out _ hfb).mono ?_
   rintro e w5 ⟨rfl,hf5⟩
   replace hfb:=hfb.trans hf5
   have hf45:=hf4.trans hf5
   replace q6:=hf45.keepf q4 q6
   replace q7:=hf45.keepf q5 q7
   replace q4:=hf45.keep q4
   replace q5:=hf45.keep q5
   have qs:=two_store w5 w.heap.size (sv (n2.fdiv (g:Int))) (sv (d2.fdiv (g:Int))) _ _ q4 q5
   have q8:=qs.2.2.1
   have u0:=hZ qs.1
   have u1:=hZ qs.2.1
   have hfx:=hZ qs.2.2.2
   clear qs
   go_wp2_with fail
   have v0:=u0.out
   have v1:=u1.out
   refine bodyPost_ret (v:=.agg #[sv (n2.fdiv (g:Int)),sv (d2.fdiv (g:Int))]) (by simp [results,Tryz.results193,go_sem,v0,v1]) rfl ⟨rfl, ?_⟩
   exact ((Fx.of_fr (p:=fun q=>q=w.heap.size) hfb).trans hfx.out).toFr (fun q hq e=>by have e:q=w.heap.size:=e; omega)
 ·have hen:n=n2:=by rw [hn2,Int.sign_eq_one_of_pos (by omega),Int.one_mul]
  have hed:d=d2:=by omega
  have hsg:decide (d2.sign < 0)=false:=decide_eq_false (by rw [Int.sign_eq_one_of_pos (by omega)]; omega)
  rw [hen,hed]
  replace hen:=hZ hen
  replace hed:=hZ hed
  replace hn2:=hZ hn2
  replace hd2:=hZ hd2
  replace hna:=hZ hna
  go_enter Tryz.func193,Tryz.ntmps193
  go_upto_region 1 with (fail)
  rw [← hwb]
  clear hwb
  go_wp2_with fail
  refine (Sign_any _ _).mono ?_
  rintro e w1 ⟨rfl,rfl⟩
  have hfz:=Fr.refl wb
  replace q6:=hfz.keepf q4 q6
  replace q7:=hfz.keepf q5 q7
  replace q4:=hfz.keep q4
  replace q5:=hfz.keep q5
  replace hfb:=hfb.trans hfz
  go_wp2_with fail
  refine (hg2.out _ hfb).mono ?_
  rintro e w3 ⟨rfl,hf3⟩
  replace q6:=hf3.keepf q4 q6
  replace q7:=hf3.keepf q5 q7
  replace q4:=hf3.keep q4
  replace q5:=hf3.keep q5
  replace hfb:=hfb.trans hf3
  by_cases hg1:g=1
  ·have hb1:decide ((g:Int)=1)=true:=decide_eq_true (by omega)
   rw [hb1] at hone
   have r1:=hZ (show sv (n2.fdiv (g:Int))=sv n2 by rw [hg1,show ((1:Nat):Int)=1 from rfl,Int.fdiv_one])
   have r2:=hZ (show sv (d2.fdiv (g:Int))=sv d2 by rw [hg1,show ((1:Nat):Int)=1 from rfl,Int.fdiv_one])
   have qs:=two_store w3 w.heap.size (sv n2) (sv d2) _ _ q4 q5
   have q8:=qs.2.2.1
   have u0:=hZ qs.1
   have u1:=hZ qs.2.1
   have hfx:=hZ qs.2.2.2
   clear qs
   replace hg1:=hZ hg1
   go_wp2_with fail
   have v0:=u0.out
   have v1:=u1.out
   rw [r1.out,r2.out]
   refine bodyPost_ret (v:=.agg #[sv n2,sv d2]) (by simp [results,Tryz.results193,go_sem,v0,v1]) rfl ⟨rfl, ?_⟩
   exact ((Fx.of_fr (p:=fun q=>q=w.heap.size) hfb).trans hfx.out).toFr (fun q hq e=>by have e:q=w.heap.size:=e; omega)
  ·have hb1:decide ((g:Int)=1)=false:=decide_eq_false (by omega)
   rw [hb1] at hone
   replace hg1:=hZ hg1
   go_wp2_with fail
   refine (hdn.out _ hfb).mono ?_
   rintro e w4 ⟨rfl,hf4⟩
   replace hfb:=hfb.trans hf4
   go_wp2_with fail
   refine (hdd.out _ hfb).mono ?_
   rintro e w5 ⟨rfl,hf5⟩
   replace hfb:=hfb.trans hf5
   have hf45:=hf4.trans hf5
   replace q6:=hf45.keepf q4 q6
   replace q7:=hf45.keepf q5 q7
   replace q4:=hf45.keep q4
   replace q5:=hf45.keep q5
   have qs:=two_store w5 w.heap.size (sv (n2.fdiv (g:Int))) (sv (d2.fdiv (g:Int))) _ _ q4 q5
   have q8:=qs.2.2.1
   have u0:=hZ qs.1
   have u1:=hZ qs.2.1
   have hfx:=hZ qs.2.2.2
   clear qs
   go_wp2_with fail
   have v0:=u0.out
   have v1:=u1.out
   refine bodyPost_ret (v:=.agg #[sv (n2.fdiv (g:Int)),sv (d2.fdiv (g:Int))]) (by simp [results,Tryz.results193,go_sem,v0,v1]) rfl ⟨rfl, ?_⟩
   exact ((Fx.of_fr (p:=fun q=>q=w.heap.size) hfb).trans hfx.out).toFr (fun q hq e=>by have e:q=w.heap.size:=e; omega)
def Tq (x:Rat):Prop:=Ti x.num∧Ti (x.den:Int)
instance (x:Rat):Decidable (Tq x):=inferInstanceAs (Decidable ((_∧_)∧(_∧_)))
theorem den_pos (x:Rat):0 < x.den:=Nat.pos_of_ne_zero x.den_nz
theorem num_zero (x:Rat):x.num=0 ↔ x=0:=Rat.num_eq_zero
theorem SignQ_any (x:Rat) (w:World) :
 Calls Tryz.prog 198 #[qv x] w fun e w'=>e=.returned (.int .i64 x.num.sign)∧Fr w w':=by
 have hfA:Fr w (w.alloc (.cells #[sv x.num,sv (x.den:Int)] 194)):=(Fr.refl w).alloc _
 unfold qv
 generalize x.num=n at *
 generalize (x.den:Int)=d at *
 replace hfA:=hZ hfA
 go_enter Tryz.func198,Tryz.ntmps198
 go_wp2_with fail
 refine (Sign_any _ _).mono ?_
 rintro e w1 ⟨rfl,rfl⟩
 go_wp2_with fail
 go_ret
 exact ⟨rfl,hfA.out⟩
theorem NegQ_any (x:Rat) (hx:Ti x.num) (w:World) :
 Calls Tryz.prog 199 #[qv x] w fun e w'=>e=.returned (qv (-x))∧Fr w w':=by
 unfold qv
 rw [Rat.neg_num,Rat.neg_den]
 have hsz:=hx.size
 generalize x.num=n at *
 generalize (x.den:Int)=d at *
 have hN:=hZ (fun W=>Neg_any n W (by omega))
 obtain ⟨wb,hwb⟩:∃ wb,wb=alls w [(.cells #[sv n,sv d] 194),(.cells #[.string ⟨#[]⟩,.string ⟨#[]⟩] 194)]:=⟨_,rfl⟩
 have hfb:Fr w wb:=by rw [hwb]; exact alls_fr _ w
 have g0:wb.heap[w.heap.size]?=some (.cells #[sv n,sv d] 194 (0,0)):=by rw [hwb]; exact alls_get _ w 0 _ rfl
 have g1:wb.heap[w.heap.size+1]?=some (.cells #[.string ⟨#[]⟩,.string ⟨#[]⟩] 194 (0,0)):=by rw [hwb]; exact alls_get _ w 1 _ rfl
 have b0:wb.cell? ⟨w.heap.size,0,none⟩=some (sv n):=cells_of g0 0
 have b1:wb.cell? ⟨w.heap.size,1,none⟩=some (sv d):=cells_of g0 1
 have q4:wb.cell? ⟨w.heap.size+1,0,none⟩=some (.string ⟨#[]⟩):=cells_of g1 0
 have q5:wb.cell? ⟨w.heap.size+1,1,none⟩=some (.string ⟨#[]⟩):=cells_of g1 1
 have q6:wb.frozen? ⟨w.heap.size+1,0,none⟩=false:=by unfold World.frozen?; rw [g1]; rfl
 have q7:wb.frozen? ⟨w.heap.size+1,1,none⟩=false:=by unfold World.frozen?; rw [g1]; rfl
 clear g0 g1
 go_enter Tryz.func199,Tryz.ntmps199
 go_upto_region 1 with (fail)
 change Code.wp _ _ _ _ (alls w [(.cells #[sv n,sv d] 194),(.cells #[.string ⟨#[]⟩,.string ⟨#[]⟩] 194)])
 rw [← hwb]
 clear hwb
 replace q4:=hZ q4
 replace q5:=hZ q5
 replace q6:=hZ q6
 replace q7:=hZ q7
 go_region_held3 (fun w'=>w'.cell? ⟨w.heap.size,0,none⟩=some (sv n)∧w'.cell? ⟨w.heap.size,1,none⟩=some (sv d))
  (first | go_keep | (go_split_ands; refine ⟨?_, ?_⟩ <;> (refine Fr.keep (by assumption) ?_; assumption)) | (refine two_keep _ _ _ _ _ _ _ ⟨by assumption,by assumption⟩ (by omega)))
  (first
   | (go_at_call 190; (with_reducible refine (hN.out _).mono ?_); rintro e w5 ⟨rfl,hf5⟩; have hfz:Fr wb w5:=(by exact fr9); have t4:=hfz.keep q4.out; have t5:=hfz.keep q5.out; have t6:=hfz.keepf q4.out q6.out; have t7:=hfz.keepf q5.out q7.out; have qs:=two_store w5 (w.heap.size+1) (sv (-n)) (sv d) _ _ t4 t5; have q8:=qs.2.2.1; have u0:=hZ qs.1; have u1:=hZ qs.2.1; have hfx:=hZ qs.2.2.2; clear qs))
 clear q8 t4 t5 t6 t7
 go_wp2_with fail
 have v0:=u0.out
 have v1:=u1.out
 refine bodyPost_ret (v:=.agg #[sv (-n),sv d]) (by simp [results,Tryz.results199,go_sem,v0,v1]) rfl ⟨rfl, ?_⟩
 exact ((Fx.of_fr (p:=fun q=>q=w.heap.size+1) (hfb.trans hfz)).trans hfx.out).toFr (fun q hq e=>by have e:q=w.heap.size+1:=e; omega)
theorem ti_mul {a b:Int} (ha:Ti a) (hb:Ti b):-10000000000000000≤a * b∧a * b≤10000000000000000:=mul_bd ha hb
theorem tx_beq1 (n:Int):((tx n).toList == [49])=decide (n=1):=by rw [show [49]=itoa 1 from itoa1.symm]; exact tx_beq _ _
theorem add_one (x y:Rat) (hx:(x.den:Int)=1) (hy:(y.den:Int)=1):(x+y).num=x.num+y.num∧((x+y).den:Int)=1:=by
 have e1:x.den=1:=by omega
 have e2:y.den=1:=by omega
 rw [Rat.add_def',e1,e2]
 constructor
 ·rw [Rat.num_mkRat]; simp
 ·rw [Rat.den_mkRat]; simp
theorem neg_tq {y:Rat} (h:Tq y):Tq (-y):=by
 unfold Tq at *
 rw [Rat.neg_num,Rat.neg_den]
 unfold Ti at *
 omega
def M2 (a b:Int):Prop:=(a.natAbs < 1000000000000∧b.natAbs < 10000)∨(a.natAbs < 10000∧b.natAbs < 1000000000000)∨(a.natAbs < 100000000∧b.natAbs < 100000000)
instance (a b:Int):Decidable (M2 a b):=inferInstanceAs (Decidable (_∨_∨_))
theorem M2.sz {a b:Int} (h:M2 a b):∃ i j,1≤i∧1≤j∧i+j=16∧a.natAbs < 10 ^ i∧b.natAbs < 10 ^ j:=by
 rcases h with ⟨h,k⟩ | ⟨h,k⟩ | ⟨h,k⟩
 ·exact ⟨12,4,by decide,by decide,by decide,h,k⟩
 ·exact ⟨4,12,by decide,by decide,by decide,h,k⟩
 ·exact ⟨8,8,by decide,by decide,by decide,h,k⟩
theorem M2.prod {a b:Int} (h:M2 a b):(a * b).natAbs < 10000000000000000:=by
 obtain ⟨i,j,-,-,hij,h1,h2⟩:=h.sz
 rw [Int.natAbs_mul]
 have:10 ^ i * 10 ^ j=10000000000000000:=by rw [← Nat.pow_add,hij]
 rw [← this]
 exact Nat.lt_of_le_of_lt (Nat.mul_le_mul_left _ (Nat.le_of_lt h2)) (Nat.mul_lt_mul_of_pos_right h1 (Nat.pow_pos (by decide)))
theorem M2.sizes {a b:Int} (h:M2 a b):(tx a).size≤13∧(tx b).size≤13:=by
 rcases h with ⟨h,k⟩ | ⟨h,k⟩ | ⟨h,k⟩ <;> exact ⟨tx_size_le 12 _ (by decide) (by show _ < 1000000000000; omega),tx_size_le 12 _ (by decide) (by show _ < 1000000000000; omega)⟩
theorem size9_lt {n:Int} (h:(tx n).size≤9):n.natAbs < 1000000000:=by
 have h:(tx (n.natAbs:Int)).size≤9:=by
  rcases Int.lt_or_le n 0 with h9 | h9
  ·have:=tx_neg_size n h9
   rw [show (n.natAbs:Int)=-n by omega]; omega
  ·rw [show (n.natAbs:Int)=n by omega]; exact h
 rw [tx_size,itoa_nn (Int.natCast_nonneg _),Int.toNat_natCast] at h
 have h1:=(digVal_bound (decDigits n.natAbs) 0 (dec_digits _)).2
 rw [digVal_dec,Nat.zero_add,Nat.one_mul] at h1
 have h2:10 ^ (decDigits n.natAbs).length≤10 ^ 9:=Nat.pow_le_pow_right (by decide) h
 exact Nat.lt_of_lt_of_le h1 h2
theorem wlittle_or (n:Int) (h:n.natAbs < 1000000000000):∃ v b,(b=true→v=n∧n.natAbs < 1000000000)∧(b=true∨b=false)∧Hid (∀ W,Calls Tryz.prog 138 #[.string (tx n),.int .i64 9] W fun e w'=>e=.returned (.tuple #[.int .i64 v,.bool b])∧Fr W w'):=by
 have hs:(tx n).size≤13:=tx_size_le 12 _ (by decide) h
 by_cases h9:(tx n).size≤9
 ·exact ⟨n,true,fun _=>⟨rfl,size9_lt h9⟩,.inl rfl,fun W=>little_ok n 9 (by omega) (by omega) W (by omega)⟩
 ·exact ⟨0,false,(fun e=>by cases e),.inr rfl,fun W=>(little_no n 9 W (by omega) (by omega)).mono (by rintro e w' ⟨rfl,rfl⟩; exact ⟨rfl,Fr.refl _⟩)⟩
theorem Mul_m2 (a b:Int) (h:M2 a b) (w:World) (hG:G w) :
 Calls Tryz.prog 80 #[.string (tx a),.string (tx b)] w fun e w'=>e=.returned (.string (tx (a * b)))∧Fr w w':=by
 have hsz:=h.sizes
 have hpr:=h.prod
 obtain ⟨i,j,hi,hj,hij,h1,h2⟩:=h.sz
 have hA:a.natAbs < 1000000000000:=by rcases h with h | h | h <;> omega
 have hB:b.natAbs < 1000000000000:=by rcases h with h | h | h <;> omega
 obtain ⟨va,ba,ha1,ha2,hla⟩:=wlittle_or a hA
 obtain ⟨vb,bb,hb1,hb2,hlb⟩:=wlittle_or b hB
 have hc1:(tx (a.natAbs:Int)).size≤i:=by rw [tx_size_nat]; exact nDigits_le i _ hi h1
 have hc2:(tx (b.natAbs:Int)).size≤j:=by rw [tx_size_nat]; exact nDigits_le j _ hj h2
 have hm2:(a * b).natAbs=a.natAbs * b.natAbs:=Int.natAbs_mul a b
 have hp:Hid (((a.natAbs * b.natAbs:Nat):Int)=(a.natAbs:Int) * (b.natAbs:Int)):=Int.natCast_mul _ _
 have hdm:=hZ (fun W (hW:G W)=>DMul a.natAbs b.natAbs (by omega) (by omega) (by omega) (by omega) W hW)
 have hnn:(0:Int)≤((a.natAbs * b.natAbs:Nat):Int):=Int.natCast_nonneg _
 have hszp:(tx ((a.natAbs * b.natAbs:Nat):Int)).size≤1000000000:=by
  have:=tx_size_le 18 ((a.natAbs * b.natAbs:Nat):Int) (by omega) (by omega)
  omega
 have hof:=hZ (fun W (hW:G W)=>Of_any (a * b) (by omega) (by omega) W hW)
 have hgoal:∀ s:Bool,(s=(decide (a < 0) != decide (b < 0)))→(if s then -((a.natAbs * b.natAbs:Nat):Int) else ((a.natAbs * b.natAbs:Nat):Int))=a * b:=fun s hs=>by
  rw [hs,hp.out]
  rcases Int.lt_or_le a 0 with h | h <;> rcases Int.lt_or_le b 0 with k | k
  ·rw [decide_eq_true h,decide_eq_true k,show (a.natAbs:Int)=-a by omega,show (b.natAbs:Int)=-b by omega]; exact Int.neg_mul_neg a b
  ·rw [decide_eq_true h,decide_eq_false (by omega),show (a.natAbs:Int)=-a by omega,show (b.natAbs:Int)=b by omega]; show -(-a * b)=a * b; rw [Int.neg_mul,Int.neg_neg]
  ·rw [decide_eq_false (by omega),decide_eq_true k,show (a.natAbs:Int)=a by omega,show (b.natAbs:Int)=-b by omega]; show -(a * -b)=a * b; rw [Int.mul_neg,Int.neg_neg]
  ·rw [decide_eq_false (by omega),decide_eq_false (by omega),show (a.natAbs:Int)=a by omega,show (b.natAbs:Int)=b by omega]; rfl
 have sp:∀ (n:Int) (W:World),(tx n).size≤13→Calls Tryz.prog 137 #[.string (tx n)] W fun e w'=>e=.returned (.tuple #[.bool (decide (n < 0)),.string (tx (n.natAbs:Int))])∧Fr W w':=fun n W hn=>by
  rcases Int.lt_or_le n 0 with h | h
  ·rw [decide_eq_true h,show (n.natAbs:Int)=-n by omega]; exact split_ng n h W (by omega)
  ·rw [decide_eq_false (by omega),show (n.natAbs:Int)=n by omega]; exact split_nn n h W (by omega)
 have spA:=fun W=>sp a W hsz.1
 have spB:=fun W=>sp b W hsz.2
 by_cases hboth:ba=true∧bb=true
 ·obtain ⟨rfl,rfl⟩:=hboth
  obtain ⟨rfl,-⟩:=ha1 rfl
  obtain ⟨rfl,-⟩:=hb1 rfl
  have k1:IntKind.i64.wrap (va * vb)=va * vb:=IntWalk.i64_in _ (by omega)
  clear ha2 hb2 hgoal hdm hp hnn hszp spA spB sp hm2 hc1 hc2 hpr h1 h2 hA hB hij hsz h ha1 hb1
  go_enter Tryz.func80,Tryz.ntmps80
  go_wp2_with fail
  refine (hla.out _).mono ?_; rintro e w1 ⟨rfl,hf1⟩
  go_wp2_with fail
  refine (hlb.out _).mono ?_; rintro e w2 ⟨rfl,hf2⟩
  go_wp2_with fail
  refine (hof.out _ (hG.fr (hf1.trans hf2))).mono ?_; rintro e w3 ⟨rfl,hf3⟩
  go_wp2_with fail
  go_ret
  exact ⟨rfl,(hf1.trans hf2).trans hf3⟩
 ·obtain ⟨sA,hsA⟩:∃ sA,sA=decide (a < 0):=⟨_,rfl⟩
  obtain ⟨sB,hsB⟩:∃ sB,sB=decide (b < 0):=⟨_,rfl⟩
  rw [← hsA] at spA hgoal
  rw [← hsB] at spB hgoal
  have hjo:=hZ (fun W=>join_any (sA != sB) _ hnn W hszp)
  replace hgoal:=hZ (hgoal (sA != sB) rfl)
  generalize ((a.natAbs * b.natAbs:Nat):Int)=p at *
  generalize tx (a.natAbs:Int)=ta at *
  generalize tx (b.natAbs:Int)=tb' at *
  replace spA:=hZ spA
  replace spB:=hZ spB
  replace hsA:=hZ hsA
  replace hsB:=hZ hsB
  clear hm2 hp hnn hszp sp hpr h1 h2 hA hB hij hsz h ha1 hb1 hof
  rcases ha2 with rfl | rfl <;> rcases hb2 with rfl | rfl
  ·exact absurd ⟨rfl,rfl⟩ hboth
  all_goals
   clear hboth
   cases sA <;> cases sB
   all_goals
    go_enter Tryz.func80,Tryz.ntmps80
    go_wp2_with fail
    refine (hla.out _).mono ?_; rintro e w1 ⟨rfl,hf1⟩
    go_wp2_with fail
    first
     | (refine (hlb.out _).mono ?_; rintro e w0 ⟨rfl,hf0⟩; replace hf1:=hf1.trans hf0; go_wp2_with fail; refine (spA.out _).mono ?_; rintro e w2 ⟨rfl,hf2⟩)
     | (refine (spA.out _).mono ?_; rintro e w2 ⟨rfl,hf2⟩)
    replace hf2:=hf1.trans hf2
    go_wp2_with fail
    refine (spB.out _).mono ?_; rintro e w3 ⟨rfl,hf3⟩
    go_wp2_with fail
    refine (hdm.out _ (hG.fr (hf2.trans hf3))).mono ?_; rintro e w4 ⟨rfl,hf4⟩
    go_wp2_with fail
    refine (hjo.out _).mono ?_; rintro e w5 ⟨rfl,rfl⟩
    go_wp2_with fail
    go_ret
    exact ⟨by rw [← hgoal.out]; rfl,(hf2.trans hf3).trans hf4⟩
theorem flittle_or (n:Int) (h:n.natAbs < 1000000000000):∃ v b,(b=true→v=n∧n.natAbs < 1000000000)∧(b=true∨b=false)∧Hid (∀ W,Calls Tryz.prog 236 #[.string (tx n)] W fun e w'=>e=.returned (.tuple #[.int .i64 v,.bool b])∧Fr W w'):=by
 have hs:(tx n).size≤13:=tx_size_le 12 _ (by decide) h
 by_cases h9:(tx n).size≤9
 ·refine ⟨n,true,fun _=>⟨rfl,size9_lt h9⟩,.inl rfl,fun w=>?_⟩
  have d1:decide ((9:Int) < ((tx n).size:Int))=false:=decide_eq_false (by omega)
  have ha:=hZ (fun W=>atoi_any n (by omega) (by omega) W)
  clear h hs h9
  go_enter Tryz.func236,Tryz.ntmps236
  go_wp2_with fail
  refine (ha.out _).mono ?_
  rintro e w1 ⟨rfl,hf1⟩
  go_wp2_with fail
  go_quiet (fail)
  go_wp2_with fail
  go_ret2
  exact ⟨rfl,hf1.drewN _⟩
 ·refine ⟨0,false,(fun e=>by cases e),.inr rfl,fun w=>?_⟩
  have d1:decide ((9:Int) < ((tx n).size:Int))=true:=decide_eq_true (by omega)
  clear h hs h9
  go_enter Tryz.func236,Tryz.ntmps236
  go_wp2_with fail
  go_ret2
  exact ⟨rfl,Fr.refl _⟩
theorem both_or (n d:Int) (hn:n.natAbs < 1000000000000) (hd:d.natAbs < 1000000000000):∃ v u b,(b=true→v=n∧u=d∧n.natAbs < 1000000000∧d.natAbs < 1000000000)∧(b=true∨b=false) ∧
 Hid (∀ W,Calls Tryz.prog 191 #[.agg #[sv n,sv d]] W fun e w'=>e=.returned (.tuple #[.int .i64 v,.int .i64 u,.bool b])∧Fr W w'):=by
 obtain ⟨v,a,ha,ha2,h1⟩:=flittle_or n hn
 obtain ⟨u,b,hb,hb2,h2⟩:=flittle_or d hd
 refine ⟨v,u,a && b,fun h=>?_,by cases a <;> cases b <;> simp,fun w=>?_⟩
 ·rw [Bool.and_eq_true] at h
  exact ⟨(ha h.1).1,(hb h.2).1,(ha h.1).2,(hb h.2).2⟩
 ·have hfA:Fr w (w.alloc (.cells #[sv n,sv d] 194)):=(Fr.refl w).alloc _
  have p1:=new2a w (sv n) (sv d) 194
  have p2:=new2b w (sv n) (sv d) 194
  have c1:=p1.1
  have c2:=p2.1
  clear p1 p2 hn hd ha hb
  replace hfA:=hZ hfA
  rcases ha2 with rfl | rfl <;> rcases hb2 with rfl | rfl
  all_goals
   go_enter Tryz.func191,Tryz.ntmps191
   go_wp2_with fail
   refine (h1.out _).mono ?_
   rintro e w1 ⟨rfl,hf1⟩
   replace c2:=hf1.keep c2
   go_wp2_with fail
   refine (h2.out _).mono ?_
   rintro e w2 ⟨rfl,hf2⟩
   go_wp2_with fail
   go_ret3
   exact ⟨rfl,(hfA.out.trans hf1).trans hf2⟩
theorem mul_low (x y:Rat):Rat.divInt (x.num * y.num) ((x.den:Int) * (y.den:Int))=x * y:=by
 rw [← Rat.divInt_mul_divInt,Rat.num_divInt_den,Rat.num_divInt_den]
def okM (x y:Rat):Prop:=M2 x.num y.num∧M2 x.den y.den
instance (x y:Rat):Decidable (okM x y):=inferInstanceAs (Decidable (_∧_))
theorem MulQ_w (x y:Rat) (h:okM x y) (w:World) (hG:G w) :
 Calls Tryz.prog 125 #[qv x,qv y] w fun e w'=>e=.returned (qv (x * y))∧Fr w w':=by
 obtain ⟨hn9,hd9⟩:=h
 have hdx:=den_pos x
 have hdy:=den_pos y
 have hM1:=fun W (hW:Fr w W)=>Mul_m2 x.num y.num hn9 W (hG.fr hW)
 have hM2:=fun W (hW:Fr w W)=>Mul_m2 x.den y.den hd9 W (hG.fr hW)
 have hb1:=hn9.prod
 have hb2:=hd9.prod
 have hL:=fun W (hW:Fr w W)=>lowest_any (x.num * y.num) ((x.den:Int) * (y.den:Int)) (by unfold Sm; omega) (by unfold Sm; omega) (Int.mul_ne_zero (by omega) (by omega)) W (hG.fr hW)
 rw [mul_low] at hL
 have hof:=fun W (hW:Fr w W)=>of_any (x.num * y.num) (x.den * y.den) (by unfold Big9; omega) (Nat.mul_pos hdx hdy) (by unfold Big9; rw [Int.natCast_mul]; omega) W (hG.fr hW)
 rw [Int.natCast_mul,← Rat.mul_def'] at hof
 obtain ⟨v1,u1,b1,hv1,hB1,h1⟩:=both_or x.num x.den (by rcases hn9 with h | h | h <;> omega) (by rcases hd9 with h | h | h <;> omega)
 obtain ⟨v2,u2,b2,hv2,hB2,h2⟩:=both_or y.num y.den (by rcases hn9 with h | h | h <;> omega) (by rcases hd9 with h | h | h <;> omega)
 unfold qv at hL hof ⊢
 generalize (x * y).num=rn at *
 generalize ((x * y).den:Int)=rd at *
 generalize x.num=n at *
 generalize y.num=m at *
 generalize (x.den:Int)=d at *
 generalize (y.den:Int)=c at *
 have z1:IntKind.i64.wrap (n * m)=n * m:=IntWalk.i64_in _ (by omega)
 have z2:IntKind.i64.wrap (d * c)=d * c:=IntWalk.i64_in _ (by omega)
 replace hM1:=hZ hM1
 replace hM2:=hZ hM2
 replace hL:=hZ hL
 replace hof:=hZ hof
 clear hdx hdy hb1 hb2 hn9 hd9
 obtain ⟨wb,hwb⟩:∃ wb,wb=alls w [(.cells #[sv n,sv d] 194),(.cells #[sv m,sv c] 194),(.cells #[.string ⟨#[]⟩,.string ⟨#[]⟩] 194)]:=⟨_,rfl⟩
 have hfb:Fr w wb:=by rw [hwb]; exact alls_fr _ w
 have g0:wb.heap[w.heap.size]?=some (.cells #[sv n,sv d] 194 (0,0)):=by rw [hwb]; exact alls_get _ w 0 _ rfl
 have g1:wb.heap[w.heap.size+1]?=some (.cells #[sv m,sv c] 194 (0,0)):=by rw [hwb]; exact alls_get _ w 1 _ rfl
 have g2:wb.heap[w.heap.size+2]?=some (.cells #[.string ⟨#[]⟩,.string ⟨#[]⟩] 194 (0,0)):=by rw [hwb]; exact alls_get _ w 2 _ rfl
 have b0:wb.cell? ⟨w.heap.size,0,none⟩=some (sv n):=cells_of g0 0
 have b1:wb.cell? ⟨w.heap.size,1,none⟩=some (sv d):=cells_of g0 1
 have b2:wb.cell? ⟨w.heap.size+1,0,none⟩=some (sv m):=cells_of g1 0
 have b3:wb.cell? ⟨w.heap.size+1,1,none⟩=some (sv c):=cells_of g1 1
 have q4:wb.cell? ⟨w.heap.size+1+1,0,none⟩=some (.string ⟨#[]⟩):=cells_of g2 0
 have q5:wb.cell? ⟨w.heap.size+1+1,1,none⟩=some (.string ⟨#[]⟩):=cells_of g2 1
 have q6:wb.frozen? ⟨w.heap.size+1+1,0,none⟩=false:=by unfold World.frozen?; rw [g2]; rfl
 have q7:wb.frozen? ⟨w.heap.size+1+1,1,none⟩=false:=by unfold World.frozen?; rw [g2]; rfl
 clear g0 g1 g2
 rcases hB1 with rfl | rfl
 ·rw [(hv1 rfl).1,(hv1 rfl).2.1] at h1
  rcases hB2 with rfl | rfl
  ·rw [(hv2 rfl).1,(hv2 rfl).2.1] at h2
   clear hv1 hv2
   go_enter Tryz.func125,Tryz.ntmps125
   go_upto_region 1 with (fail)
   change Code.wp _ _ _ _ (alls w [(.cells #[sv n,sv d] 194),(.cells #[sv m,sv c] 194),(.cells #[.string ⟨#[]⟩,.string ⟨#[]⟩] 194)])
   rw [← hwb]
   clear hwb
   go_wp2_with fail
   refine (h1.out _).mono ?_
   rintro e w1 ⟨rfl,hf1⟩
   replace hfb:=hfb.trans hf1
   replace b0:=hf1.keep b0
   replace b1:=hf1.keep b1
   replace b2:=hf1.keep b2
   replace b3:=hf1.keep b3
   replace q6:=hf1.keepf q4 q6
   replace q7:=hf1.keepf q5 q7
   replace q4:=hf1.keep q4
   replace q5:=hf1.keep q5
   clear hf1
   go_wp2_with fail
   refine (h2.out _).mono ?_
   rintro e w2 ⟨rfl,hf2⟩
   replace hfb:=hfb.trans hf2
   replace b0:=hf2.keep b0
   replace b1:=hf2.keep b1
   replace b2:=hf2.keep b2
   replace b3:=hf2.keep b3
   replace q6:=hf2.keepf q4 q6
   replace q7:=hf2.keepf q5 q7
   replace q4:=hf2.keep q4
   replace q5:=hf2.keep q5
   clear hf2
   go_wp2_with fail
   refine (hof.out _ hfb).mono ?_
   rintro e w3 ⟨rfl,hf3⟩
   replace hfb:=hfb.trans hf3
   replace b0:=hf3.keep b0
   replace b1:=hf3.keep b1
   replace b2:=hf3.keep b2
   replace b3:=hf3.keep b3
   replace q6:=hf3.keepf q4 q6
   replace q7:=hf3.keepf q5 q7
   replace q4:=hf3.keep q4
   replace q5:=hf3.keep q5
   clear hf3
   have qs:=two_store w3 (w.heap.size+1+1) (sv rn) (sv rd) _ _ q4 q5
   have q8:=qs.2.2.1
   have u0:=hZ qs.1
   have u1:=hZ qs.2.1
   have hfx:=hZ qs.2.2.2
   clear qs
   go_wp2_with fail
   have v0:=u0.out
   have v1:=u1.out
   refine bodyPost_ret (v:=.agg #[sv rn,sv rd]) (by simp [results,Tryz.results125,go_sem,v0,v1]) rfl ⟨rfl, ?_⟩
   exact ((Fx.of_fr (p:=fun q=>q=w.heap.size+1+1) hfb).trans hfx.out).toFr (fun q hq e=>by have e:q=w.heap.size+1+1:=e; omega)
  ·clear hv1 hv2
   go_enter Tryz.func125,Tryz.ntmps125
   go_upto_region 1 with (fail)
   change Code.wp _ _ _ _ (alls w [(.cells #[sv n,sv d] 194),(.cells #[sv m,sv c] 194),(.cells #[.string ⟨#[]⟩,.string ⟨#[]⟩] 194)])
   rw [← hwb]
   clear hwb
   go_wp2_with fail
   refine (h1.out _).mono ?_
   rintro e w1 ⟨rfl,hf1⟩
   replace hfb:=hfb.trans hf1
   replace b0:=hf1.keep b0
   replace b1:=hf1.keep b1
   replace b2:=hf1.keep b2
   replace b3:=hf1.keep b3
   replace q6:=hf1.keepf q4 q6
   replace q7:=hf1.keepf q5 q7
   replace q4:=hf1.keep q4
   replace q5:=hf1.keep q5
   clear hf1
   go_wp2_with fail
   refine (h2.out _).mono ?_
   rintro e w2 ⟨rfl,hf2⟩
   replace hfb:=hfb.trans hf2
   replace b0:=hf2.keep b0
   replace b1:=hf2.keep b1
   replace b2:=hf2.keep b2
   replace b3:=hf2.keep b3
   replace q6:=hf2.keepf q4 q6
   replace q7:=hf2.keepf q5 q7
   replace q4:=hf2.keep q4
   replace q5:=hf2.keep q5
   clear hf2
   go_wp2_with fail
   replace q4:=hZ q4
   replace q5:=hZ q5
   replace q6:=hZ q6
   replace q7:=hZ q7
   go_region_held3 (fun w'=>w'.cell? ⟨w.heap.size,0,none⟩=some (sv n)∧w'.cell? ⟨w.heap.size,1,none⟩=some (sv d)∧w'.cell? ⟨w.heap.size+1,0,none⟩=some (sv m)∧w'.cell? ⟨w.heap.size+1,1,none⟩=some (sv c))
    (first | exact ⟨b0,b1,b2,b3⟩ | (go_split_ands; refine ⟨?_, ?_, ?_, ?_⟩ <;> (refine Fr.keep (by assumption) ?_; assumption)) | (go_split_ands; (try dsimp only); (repeat' apply And.intro) <;> (rw [World.cell?_setCell_other _ _ _ _ (by intro e; injection e with e; omega),World.cell?_setCell_other _ _ _ _ (by intro e; injection e with e; omega)]; assumption)) | go_keep)
    (first
     | (go_at_call 80; (with_reducible refine (hM1.out _ ?_).mono ?_); (exact fr9); rintro e w3 ⟨rfl,hf3⟩)
     | (go_at_call 80; (with_reducible refine (hM2.out _ ?_).mono ?_); (exact fr9); rintro e w4 ⟨rfl,hf4⟩)
     | (go_at_call 193; (with_reducible refine (hL.out _ ?_).mono ?_); (exact fr9); rintro e w5 ⟨rfl,hf5⟩; have hfz:Fr w2 w5:=(by exact fr9); have t4:=hfz.keep q4.out; have t5:=hfz.keep q5.out; have t6:=hfz.keepf q4.out q6.out; have t7:=hfz.keepf q5.out q7.out; have qs:=two_store w5 (w.heap.size+1+1) (sv rn) (sv rd) _ _ t4 t5; have q8:=qs.2.2.1; have u0:=hZ qs.1; have u1:=hZ qs.2.1; have hfx:=hZ qs.2.2.2; clear qs))
   clear q8 t4 t5 t6 t7
   replace hfb:=hfb.trans hfz
   go_wp2_with fail
   have v0:=u0.out
   have v1:=u1.out
   refine bodyPost_ret (v:=.agg #[sv rn,sv rd]) (by simp [results,Tryz.results125,go_sem,v0,v1]) rfl ⟨rfl, ?_⟩
   exact ((Fx.of_fr (p:=fun q=>q=w.heap.size+1+1) hfb).trans hfx.out).toFr (fun q hq e=>by have e:q=w.heap.size+1+1:=e; omega)
 ·clear hv1 hv2
  go_enter Tryz.func125,Tryz.ntmps125
  go_upto_region 1 with (fail)
  change Code.wp _ _ _ _ (alls w [(.cells #[sv n,sv d] 194),(.cells #[sv m,sv c] 194),(.cells #[.string ⟨#[]⟩,.string ⟨#[]⟩] 194)])
  rw [← hwb]
  clear hwb
  go_wp2_with fail
  refine (h1.out _).mono ?_
  rintro e w1 ⟨rfl,hf1⟩
  replace hfb:=hfb.trans hf1
  replace b0:=hf1.keep b0
  replace b1:=hf1.keep b1
  replace b2:=hf1.keep b2
  replace b3:=hf1.keep b3
  replace q6:=hf1.keepf q4 q6
  replace q7:=hf1.keepf q5 q7
  replace q4:=hf1.keep q4
  replace q5:=hf1.keep q5
  clear hf1
  go_wp2_with fail
  replace q4:=hZ q4
  replace q5:=hZ q5
  replace q6:=hZ q6
  replace q7:=hZ q7
  go_region_held3 (fun w'=>w'.cell? ⟨w.heap.size,0,none⟩=some (sv n)∧w'.cell? ⟨w.heap.size,1,none⟩=some (sv d)∧w'.cell? ⟨w.heap.size+1,0,none⟩=some (sv m)∧w'.cell? ⟨w.heap.size+1,1,none⟩=some (sv c))
   (first | exact ⟨b0,b1,b2,b3⟩ | (go_split_ands; refine ⟨?_, ?_, ?_, ?_⟩ <;> (refine Fr.keep (by assumption) ?_; assumption)) | (go_split_ands; (try dsimp only); (repeat' apply And.intro) <;> (rw [World.cell?_setCell_other _ _ _ _ (by intro e; injection e with e; omega),World.cell?_setCell_other _ _ _ _ (by intro e; injection e with e; omega)]; assumption)) | go_keep)
   (first
    | (go_at_call 80; (with_reducible refine (hM1.out _ ?_).mono ?_); (exact fr9); rintro e w3 ⟨rfl,hf3⟩)
    | (go_at_call 80; (with_reducible refine (hM2.out _ ?_).mono ?_); (exact fr9); rintro e w4 ⟨rfl,hf4⟩)
    | (go_at_call 193; (with_reducible refine (hL.out _ ?_).mono ?_); (exact fr9); rintro e w5 ⟨rfl,hf5⟩; have hfz:Fr w1 w5:=(by exact fr9); have t4:=hfz.keep q4.out; have t5:=hfz.keep q5.out; have t6:=hfz.keepf q4.out q6.out; have t7:=hfz.keepf q5.out q7.out; have qs:=two_store w5 (w.heap.size+1+1) (sv rn) (sv rd) _ _ t4 t5; have q8:=qs.2.2.1; have u0:=hZ qs.1; have u1:=hZ qs.2.1; have hfx:=hZ qs.2.2.2; clear qs))
  clear q8 t4 t5 t6 t7
  replace hfb:=hfb.trans hfz
  go_wp2_with fail
  have v0:=u0.out
  have v1:=u1.out
  refine bodyPost_ret (v:=.agg #[sv rn,sv rd]) (by simp [results,Tryz.results125,go_sem,v0,v1]) rfl ⟨rfl, ?_⟩
  exact ((Fx.of_fr (p:=fun q=>q=w.heap.size+1+1) hfb).trans hfx.out).toFr (fun q hq e=>by have e:q=w.heap.size+1+1:=e; omega)
theorem add_low (x y:Rat):Rat.divInt (x.num * (y.den:Int)+y.num * (x.den:Int)) ((x.den:Int) * (y.den:Int))=x+y:=by
 rw [Rat.add_def',← Int.natCast_mul]; exact Rat.divInt_ofNat _ _
def okA (x y:Rat):Prop:=M2 x.num y.den∧M2 y.num x.den∧M2 x.den y.den
instance (x y:Rat):Decidable (okA x y):=inferInstanceAs (Decidable (_∧_))
theorem AddQ_w (x y:Rat) (h:okA x y) (w:World) (hG:G w) :
 Calls Tryz.prog 124 #[qv x,qv y] w fun e w'=>e=.returned (qv (x+y))∧Fr w w':=by
 obtain ⟨h19,h29,h39⟩:=h
 have hdx:=den_pos x
 have hdy:=den_pos y
 have hM1:=fun W (hW:Fr w W)=>Mul_m2 x.num y.den h19 W (hG.fr hW)
 have hM2:=fun W (hW:Fr w W)=>Mul_m2 y.num x.den h29 W (hG.fr hW)
 have hM3:=fun W (hW:Fr w W)=>Mul_m2 x.den y.den h39 W (hG.fr hW)
 have hb1:=h19.prod
 have hb2:=h29.prod
 have hb3:=h39.prod
 have hAd:=fun W (hW:Fr w W)=>Add_sm (x.num * y.den) (y.num * x.den) (by unfold Sm; omega) (by unfold Sm; omega) W (hG.fr hW)
 have hL:=fun W (hW:Fr w W)=>lowest_any (x.num * y.den+y.num * x.den) ((x.den:Int) * (y.den:Int)) (by unfold Sm; omega) (by unfold Sm; omega) (Int.mul_ne_zero (by omega) (by omega)) W (hG.fr hW)
 rw [add_low] at hL
 have hof:=fun W (hW:Fr w W)=>of_any (x.num * y.den+y.num * x.den) (x.den * y.den) (by unfold Big9; omega) (Nat.mul_pos hdx hdy) (by unfold Big9; rw [Int.natCast_mul]; omega) W (hG.fr hW)
 rw [Int.natCast_mul,← Rat.add_def'] at hof
 have hs1:=hZ (fun W (hW:Fr w W)=>Add_sm x.num y.num (by rcases h19 with h | h | h <;> unfold Sm <;> omega) (by rcases h29 with h | h | h <;> unfold Sm <;> omega) W (hG.fr hW))
 have hao:=hZ (add_one x y)
 obtain ⟨v1,u1,b1,hv1,hB1,h1⟩:=both_or x.num x.den (by rcases h19 with h | h | h <;> omega) (by rcases h39 with h | h | h <;> omega)
 obtain ⟨v2,u2,b2,hv2,hB2,h2⟩:=both_or y.num y.den (by rcases h29 with h | h | h <;> omega) (by rcases h39 with h | h | h <;> omega)
 unfold qv at hL hof ⊢
 generalize (x+y).num=rn at *
 generalize ((x+y).den:Int)=rd at *
 generalize x.num=n at *
 generalize y.num=m at *
 generalize (x.den:Int)=d at *
 generalize (y.den:Int)=c at *
 have z1:IntKind.i64.wrap (n * c)=n * c:=IntWalk.i64_in _ (by omega)
 have z2:IntKind.i64.wrap (m * d)=m * d:=IntWalk.i64_in _ (by omega)
 have z3:IntKind.i64.wrap (n * c+m * d)=n * c+m * d:=IntWalk.i64_in _ (by omega)
 have z4:IntKind.i64.wrap (d * c)=d * c:=IntWalk.i64_in _ (by omega)
 have t1:=tx_beq1 d
 have t2:=tx_beq1 c
 replace hM1:=hZ hM1
 replace hM2:=hZ hM2
 replace hM3:=hZ hM3
 replace hAd:=hZ hAd
 replace hL:=hZ hL
 replace hof:=hZ hof
 clear hdx hdy hb1 hb2 hb3 h19 h29 h39
 obtain ⟨wb,hwb⟩:∃ wb,wb=alls w [(.cells #[sv n,sv d] 194),(.cells #[sv m,sv c] 194),(.cells #[.string ⟨#[]⟩,.string ⟨#[]⟩] 194)]:=⟨_,rfl⟩
 have hfb:Fr w wb:=by rw [hwb]; exact alls_fr _ w
 have g0:wb.heap[w.heap.size]?=some (.cells #[sv n,sv d] 194 (0,0)):=by rw [hwb]; exact alls_get _ w 0 _ rfl
 have g1:wb.heap[w.heap.size+1]?=some (.cells #[sv m,sv c] 194 (0,0)):=by rw [hwb]; exact alls_get _ w 1 _ rfl
 have g2:wb.heap[w.heap.size+2]?=some (.cells #[.string ⟨#[]⟩,.string ⟨#[]⟩] 194 (0,0)):=by rw [hwb]; exact alls_get _ w 2 _ rfl
 have b0:wb.cell? ⟨w.heap.size,0,none⟩=some (sv n):=cells_of g0 0
 have b1:wb.cell? ⟨w.heap.size,1,none⟩=some (sv d):=cells_of g0 1
 have b2:wb.cell? ⟨w.heap.size+1,0,none⟩=some (sv m):=cells_of g1 0
 have b3:wb.cell? ⟨w.heap.size+1,1,none⟩=some (sv c):=cells_of g1 1
 have q4:wb.cell? ⟨w.heap.size+1+1,0,none⟩=some (.string ⟨#[]⟩):=cells_of g2 0
 have q5:wb.cell? ⟨w.heap.size+1+1,1,none⟩=some (.string ⟨#[]⟩):=cells_of g2 1
 have q6:wb.frozen? ⟨w.heap.size+1+1,0,none⟩=false:=by unfold World.frozen?; rw [g2]; rfl
 have q7:wb.frozen? ⟨w.heap.size+1+1,1,none⟩=false:=by unfold World.frozen?; rw [g2]; rfl
 clear g0 g1 g2
 by_cases hone:d=1∧c=1
 ·rw [decide_eq_true hone.1] at t1
  rw [decide_eq_true hone.2] at t2
  have hr:=hZ (hao.out hone.1 hone.2)
  rw [hr.out.1,hr.out.2,show sv 1=.string ⟨#[49]⟩ from by rw [sv,tx_one]]
  replace hone:=hZ hone
  clear hv1 hv2 hB1 hB2
  go_enter Tryz.func124,Tryz.ntmps124
  go_upto_region 1 with (fail)
  change Code.wp _ _ _ _ (alls w [(.cells #[sv n,sv d] 194),(.cells #[sv m,sv c] 194),(.cells #[.string ⟨#[]⟩,.string ⟨#[]⟩] 194)])
  rw [← hwb]
  clear hwb
  go_wp2_with fail
  refine (hs1.out _ hfb).mono ?_
  rintro e w3 ⟨rfl,hf3⟩
  replace hfb:=hfb.trans hf3
  replace b0:=hf3.keep b0
  replace b1:=hf3.keep b1
  replace b2:=hf3.keep b2
  replace b3:=hf3.keep b3
  replace q6:=hf3.keepf q4 q6
  replace q7:=hf3.keepf q5 q7
  replace q4:=hf3.keep q4
  replace q5:=hf3.keep q5
  clear hf3
  have qs:=two_store w3 (w.heap.size+1+1) (sv (n+m)) (.string ⟨#[49]⟩) _ _ q4 q5
  have q8:=qs.2.2.1
  have u0:=hZ qs.1
  have u1:=hZ qs.2.1
  have hfx:=hZ qs.2.2.2
  clear qs
  go_wp2_with fail
  have v0:=u0.out
  have v1:=u1.out
  refine bodyPost_ret (v:=.agg #[sv (n+m),.string ⟨#[49]⟩]) (by simp [results,Tryz.results124,go_sem,v0,v1]) rfl ⟨rfl, ?_⟩
  exact ((Fx.of_fr (p:=fun q=>q=w.heap.size+1+1) hfb).trans hfx.out).toFr (fun q hq e=>by have e:q=w.heap.size+1+1:=e; omega)
 ·have hor:(((tx d).toList == [49])=true∧((tx c).toList == [49])=false)∨((tx d).toList == [49])=false:=by
   rw [t1,t2]
   by_cases h9:d=1
   ·exact .inl ⟨decide_eq_true h9,decide_eq_false fun h8=>hone ⟨h9,h8⟩⟩
   ·exact .inr (decide_eq_false h9)
  have hv1:=hZ hv1
  have hv2:=hZ hv2
  clear hone hao t1 t2 hs1
  rcases hor with ⟨t1,t2⟩ | t1 <;> rcases hB1 with rfl | rfl <;> rcases hB2 with rfl | rfl
  all_goals
   (try rw [(hv1.out rfl).1,(hv1.out rfl).2.1] at h1)
   (try rw [(hv2.out rfl).1,(hv2.out rfl).2.1] at h2)
   go_enter Tryz.func124,Tryz.ntmps124
   go_upto_region 1 with (fail)
   change Code.wp _ _ _ _ (alls w [(.cells #[sv n,sv d] 194),(.cells #[sv m,sv c] 194),(.cells #[.string ⟨#[]⟩,.string ⟨#[]⟩] 194)])
   rw [← hwb]
   clear hwb
   go_wp2_with fail
   refine (h1.out _).mono ?_
   rintro e w1 ⟨rfl,hf1⟩
   replace hfb:=hfb.trans hf1
   replace b0:=hf1.keep b0
   replace b1:=hf1.keep b1
   replace b2:=hf1.keep b2
   replace b3:=hf1.keep b3
   replace q6:=hf1.keepf q4 q6
   replace q7:=hf1.keepf q5 q7
   replace q4:=hf1.keep q4
   replace q5:=hf1.keep q5
   clear hf1
   go_wp2_with fail
   first
    | (refine (h2.out _).mono ?_
       rintro e w2 ⟨rfl,hf2⟩
       replace hfb:=hfb.trans hf2
       replace b0:=hf2.keep b0
       replace b1:=hf2.keep b1
       replace b2:=hf2.keep b2
       replace b3:=hf2.keep b3
       replace q6:=hf2.keepf q4 q6
       replace q7:=hf2.keepf q5 q7
       replace q4:=hf2.keep q4
       replace q5:=hf2.keep q5
       clear hf2
       go_wp2_with fail
       first
        | (refine (hof.out _ hfb).mono ?_
           rintro e w3 ⟨rfl,hf3⟩
           replace hfb:=hfb.trans hf3
           replace b0:=hf3.keep b0
           replace b1:=hf3.keep b1
           replace b2:=hf3.keep b2
           replace b3:=hf3.keep b3
           replace q6:=hf3.keepf q4 q6
           replace q7:=hf3.keepf q5 q7
           replace q4:=hf3.keep q4
           replace q5:=hf3.keep q5
           clear hf3
           have qs:=two_store w3 (w.heap.size+1+1) (sv rn) (sv rd) _ _ q4 q5
           have q8:=qs.2.2.1
           have u0:=hZ qs.1
           have u1:=hZ qs.2.1
           have hfx:=hZ qs.2.2.2
           clear qs
           go_wp2_with fail
           have v0:=u0.out
           have v1:=u1.out
           refine bodyPost_ret (v:=.agg #[sv rn,sv rd]) (by simp [results,Tryz.results124,go_sem,v0,v1]) rfl ⟨rfl, ?_⟩
           exact ((Fx.of_fr (p:=fun q=>q=w.heap.size+1+1) hfb).trans hfx.out).toFr (fun q hq e=>by have e:q=w.heap.size+1+1:=e; omega))
        | (skip
           replace q4:=hZ q4
           replace q5:=hZ q5
           replace q6:=hZ q6
           replace q7:=hZ q7
           go_region_held3 (fun w'=>w'.cell? ⟨w.heap.size,0,none⟩=some (sv n)∧w'.cell? ⟨w.heap.size,1,none⟩=some (sv d)∧w'.cell? ⟨w.heap.size+1,0,none⟩=some (sv m)∧w'.cell? ⟨w.heap.size+1,1,none⟩=some (sv c))
            (first | exact ⟨b0,b1,b2,b3⟩ | (go_split_ands; refine ⟨?_, ?_, ?_, ?_⟩ <;> (refine Fr.keep (by assumption) ?_; assumption)) | (go_split_ands; (try dsimp only); (repeat' apply And.intro) <;> (rw [World.cell?_setCell_other _ _ _ _ (by intro e; injection e with e; omega),World.cell?_setCell_other _ _ _ _ (by intro e; injection e with e; omega)]; assumption)) | go_keep)
            (first
             | (go_at_call 80; (with_reducible refine (hM1.out _ ?_).mono ?_); (exact fr9); rintro e w3 ⟨rfl,hf3⟩)
             | (go_at_call 80; (with_reducible refine (hM2.out _ ?_).mono ?_); (exact fr9); rintro e w4 ⟨rfl,hf4⟩)
             | (go_at_call 80; (with_reducible refine (hM3.out _ ?_).mono ?_); (exact fr9); rintro e w6 ⟨rfl,hf6⟩)
             | (go_at_call 79; (with_reducible refine (hAd.out _ ?_).mono ?_); (exact fr9); rintro e w7 ⟨rfl,hf7⟩)
             | (go_at_call 193; (with_reducible refine (hL.out _ ?_).mono ?_); (exact fr9); rintro e w5 ⟨rfl,hf5⟩; have hfz:Fr w2 w5:=(by exact fr9); have t4:=hfz.keep q4.out; have t5:=hfz.keep q5.out; have t6:=hfz.keepf q4.out q6.out; have t7:=hfz.keepf q5.out q7.out; have qs:=two_store w5 (w.heap.size+1+1) (sv rn) (sv rd) _ _ t4 t5; have q8:=qs.2.2.1; have u0:=hZ qs.1; have u1:=hZ qs.2.1; have hfx:=hZ qs.2.2.2; clear qs))
           clear q8 t4 t5 t6 t7
           replace hfb:=hfb.trans hfz
           go_wp2_with fail
           have v0:=u0.out
           have v1:=u1.out
           refine bodyPost_ret (v:=.agg #[sv rn,sv rd]) (by simp [results,Tryz.results124,go_sem,v0,v1]) rfl ⟨rfl, ?_⟩
           exact ((Fx.of_fr (p:=fun q=>q=w.heap.size+1+1) hfb).trans hfx.out).toFr (fun q hq e=>by have e:q=w.heap.size+1+1:=e; omega)))
    | (skip
       replace q4:=hZ q4
       replace q5:=hZ q5
       replace q6:=hZ q6
       replace q7:=hZ q7
       go_region_held3 (fun w'=>w'.cell? ⟨w.heap.size,0,none⟩=some (sv n)∧w'.cell? ⟨w.heap.size,1,none⟩=some (sv d)∧w'.cell? ⟨w.heap.size+1,0,none⟩=some (sv m)∧w'.cell? ⟨w.heap.size+1,1,none⟩=some (sv c))
        (first | exact ⟨b0,b1,b2,b3⟩ | (go_split_ands; refine ⟨?_, ?_, ?_, ?_⟩ <;> (refine Fr.keep (by assumption) ?_; assumption)) | (go_split_ands; (try dsimp only); (repeat' apply And.intro) <;> (rw [World.cell?_setCell_other _ _ _ _ (by intro e; injection e with e; omega),World.cell?_setCell_other _ _ _ _ (by intro e; injection e with e; omega)]; assumption)) | go_keep)
        (first
         | (go_at_call 80; (with_reducible refine (hM1.out _ ?_).mono ?_); (exact fr9); rintro e w3 ⟨rfl,hf3⟩)
         | (go_at_call 80; (with_reducible refine (hM2.out _ ?_).mono ?_); (exact fr9); rintro e w4 ⟨rfl,hf4⟩)
         | (go_at_call 80; (with_reducible refine (hM3.out _ ?_).mono ?_); (exact fr9); rintro e w6 ⟨rfl,hf6⟩)
         | (go_at_call 79; (with_reducible refine (hAd.out _ ?_).mono ?_); (exact fr9); rintro e w7 ⟨rfl,hf7⟩)
         | (go_at_call 193; (with_reducible refine (hL.out _ ?_).mono ?_); (exact fr9); rintro e w5 ⟨rfl,hf5⟩; have hfz:Fr w1 w5:=(by exact fr9); have t4:=hfz.keep q4.out; have t5:=hfz.keep q5.out; have t6:=hfz.keepf q4.out q6.out; have t7:=hfz.keepf q5.out q7.out; have qs:=two_store w5 (w.heap.size+1+1) (sv rn) (sv rd) _ _ t4 t5; have q8:=qs.2.2.1; have u0:=hZ qs.1; have u1:=hZ qs.2.1; have hfx:=hZ qs.2.2.2; clear qs))
       clear q8 t4 t5 t6 t7
       replace hfb:=hfb.trans hfz
       go_wp2_with fail
       have v0:=u0.out
       have v1:=u1.out
       refine bodyPost_ret (v:=.agg #[sv rn,sv rd]) (by simp [results,Tryz.results124,go_sem,v0,v1]) rfl ⟨rfl, ?_⟩
       exact ((Fx.of_fr (p:=fun q=>q=w.heap.size+1+1) hfb).trans hfx.out).toFr (fun q hq e=>by have e:q=w.heap.size+1+1:=e; omega))
theorem tq_okA {x y:Rat} (hx:Tq x) (hy:Tq y):okA x y:=by
 obtain ⟨⟨h1,h2⟩,h3,h4⟩:=hx
 obtain ⟨⟨k1,k2⟩,k3,k4⟩:=hy
 exact ⟨.inr (.inr ⟨by omega,by omega⟩),.inr (.inr ⟨by omega,by omega⟩),.inr (.inr ⟨by omega,by omega⟩)⟩
theorem SubQ_any (x y:Rat) (hx:Tq x) (hy:Tq y) (w:World) (hG:G w) :
 Calls Tryz.prog 201 #[qv x,qv y] w fun e w'=>e=.returned (qv (x - y))∧Fr w w':=by
 rw [Rat.sub_eq_add_neg]
 have hN:=fun W=>NegQ_any y hy.1 W
 have hA:=fun W (hW:Fr w W)=>AddQ_w x (-y) (tq_okA hx (neg_tq hy)) W (hG.fr hW)
 unfold qv at hN hA ⊢
 generalize (x+-y).num=rn at *
 generalize ((x+-y).den:Int)=rd at *
 generalize (-y).num=mn at *
 generalize ((-y).den:Int)=md at *
 generalize x.num=n at *
 generalize y.num=m at *
 generalize (x.den:Int)=d at *
 generalize (y.den:Int)=c at *
 replace hN:=hZ hN
 replace hA:=hZ hA
 obtain ⟨wb,hwb⟩:∃ wb,wb=alls w [(.cells #[sv n,sv d] 194),(.cells #[sv m,sv c] 194),(.cells #[.string ⟨#[]⟩,.string ⟨#[]⟩] 194)]:=⟨_,rfl⟩
 have hfb:Fr w wb:=by rw [hwb]; exact alls_fr _ w
 have g0:wb.heap[w.heap.size]?=some (.cells #[sv n,sv d] 194 (0,0)):=by rw [hwb]; exact alls_get _ w 0 _ rfl
 have g1:wb.heap[w.heap.size+1]?=some (.cells #[sv m,sv c] 194 (0,0)):=by rw [hwb]; exact alls_get _ w 1 _ rfl
 have g2:wb.heap[w.heap.size+2]?=some (.cells #[.string ⟨#[]⟩,.string ⟨#[]⟩] 194 (0,0)):=by rw [hwb]; exact alls_get _ w 2 _ rfl
 have b0:wb.cell? ⟨w.heap.size,0,none⟩=some (sv n):=cells_of g0 0
 have b1:wb.cell? ⟨w.heap.size,1,none⟩=some (sv d):=cells_of g0 1
 have b2:wb.cell? ⟨w.heap.size+1,0,none⟩=some (sv m):=cells_of g1 0
 have b3:wb.cell? ⟨w.heap.size+1,1,none⟩=some (sv c):=cells_of g1 1
 have q4:wb.cell? ⟨w.heap.size+1+1,0,none⟩=some (.string ⟨#[]⟩):=cells_of g2 0
 have q5:wb.cell? ⟨w.heap.size+1+1,1,none⟩=some (.string ⟨#[]⟩):=cells_of g2 1
 have q6:wb.frozen? ⟨w.heap.size+1+1,0,none⟩=false:=by unfold World.frozen?; rw [g2]; rfl
 have q7:wb.frozen? ⟨w.heap.size+1+1,1,none⟩=false:=by unfold World.frozen?; rw [g2]; rfl
 clear g0 g1 g2
 go_enter Tryz.func201,Tryz.ntmps201
 go_upto_region 1 with (fail)
 change Code.wp _ _ _ _ (alls w [(.cells #[sv n,sv d] 194),(.cells #[sv m,sv c] 194),(.cells #[.string ⟨#[]⟩,.string ⟨#[]⟩] 194)])
 rw [← hwb]
 clear hwb
 replace q4:=hZ q4
 replace q5:=hZ q5
 replace q6:=hZ q6
 replace q7:=hZ q7
 go_region_held3 (fun w'=>w'.cell? ⟨w.heap.size,0,none⟩=some (sv n)∧w'.cell? ⟨w.heap.size,1,none⟩=some (sv d)∧w'.cell? ⟨w.heap.size+1,0,none⟩=some (sv m)∧w'.cell? ⟨w.heap.size+1,1,none⟩=some (sv c))
  (first | exact ⟨b0,b1,b2,b3⟩ | (go_split_ands; refine ⟨?_, ?_, ?_, ?_⟩ <;> (refine Fr.keep (by assumption) ?_; assumption)) | (go_split_ands; (try dsimp only); (repeat' apply And.intro) <;> (rw [World.cell?_setCell_other _ _ _ _ (by intro e; injection e with e; omega),World.cell?_setCell_other _ _ _ _ (by intro e; injection e with e; omega)]; assumption)) | go_keep)
  (first
   | (go_at_call 199; (with_reducible refine (hN.out _).mono ?_); rintro e w3 ⟨rfl,hf3⟩)
   | (go_at_call 124; (with_reducible refine (hA.out _ ?_).mono ?_); (exact fr9); rintro e w5 ⟨rfl,hf5⟩; have hfz:Fr wb w5:=(by exact fr9); have t4:=hfz.keep q4.out; have t5:=hfz.keep q5.out; have t6:=hfz.keepf q4.out q6.out; have t7:=hfz.keepf q5.out q7.out; have qs:=two_store w5 (w.heap.size+1+1) (sv rn) (sv rd) _ _ t4 t5; have q8:=qs.2.2.1; have u0:=hZ qs.1; have u1:=hZ qs.2.1; have hfx:=hZ qs.2.2.2; clear qs))
 clear q8 t4 t5 t6 t7
 replace hfb:=hfb.trans hfz
 go_wp2_with fail
 have v0:=u0.out
 have v1:=u1.out
 refine bodyPost_ret (v:=.agg #[sv rn,sv rd]) (by simp [results,Tryz.results201,go_sem,v0,v1]) rfl ⟨rfl, ?_⟩
 exact ((Fx.of_fr (p:=fun q=>q=w.heap.size+1+1) hfb).trans hfx.out).toFr (fun q hq e=>by have e:q=w.heap.size+1+1:=e; omega)
theorem div_low (x y:Rat):Rat.divInt (x.num * y.den) (x.den * y.num)=x / y:=by
 rw [Rat.div_def,Rat.inv_def,← Rat.divInt_mul_divInt,Rat.num_divInt_den]
theorem DivQ_any (x y:Rat) (hx:Tq x) (hy:Tq y) (h0:y≠0) (w:World) (hG:G w) :
 Calls Tryz.prog 200 #[qv x,qv y] w fun e w'=>e=.returned (.tuple #[qv (x / y),.int .i64 0])∧Fr w w':=by
 have hyn:y.num≠0:=fun h=>h0 ((num_zero y).1 h)
 have hdx:=den_pos x
 have hS:=fun W=>SignQ_any y W
 have hM1:=fun W (hW:Fr w W)=>Mul_ti x.num y.den hx.1 hy.2 W (hG.fr hW)
 have hM2:=fun W (hW:Fr w W)=>Mul_ti x.den y.num hx.2 hy.1 W (hG.fr hW)
 have hb1:=ti_mul hx.1 hy.2
 have hb2:=ti_mul hx.2 hy.1
 have hL:=fun W (hW:Fr w W)=>lowest_any (x.num * y.den) (x.den * y.num) (by unfold Sm; omega) (by unfold Sm; omega) (Int.mul_ne_zero (by omega) hyn) W (hG.fr hW)
 rw [div_low] at hL
 unfold qv at hS hL ⊢
 have hsg:(y.num.sign == 0)=false:=beq_false_of_ne (fun h=>hyn (Int.sign_eq_zero_iff_zero.1 h))
 generalize (x / y).num=rn at *
 generalize ((x / y).den:Int)=rd at *
 generalize x.num=n at *
 generalize y.num=m at *
 generalize (x.den:Int)=d at *
 generalize (y.den:Int)=c at *
 replace hS:=hZ hS
 replace hM1:=hZ hM1
 replace hM2:=hZ hM2
 replace hL:=hZ hL
 replace hyn:=hZ hyn
 clear h0 hdx hb1 hb2 hx hy
 obtain ⟨wb,hwb⟩:∃ wb,wb=alls w [(.cells #[sv n,sv d] 194),(.cells #[sv m,sv c] 194),(.cells #[.string ⟨#[]⟩,.string ⟨#[]⟩] 194)]:=⟨_,rfl⟩
 have hfb:Fr w wb:=by rw [hwb]; exact alls_fr _ w
 have g0:wb.heap[w.heap.size]?=some (.cells #[sv n,sv d] 194 (0,0)):=by rw [hwb]; exact alls_get _ w 0 _ rfl
 have g1:wb.heap[w.heap.size+1]?=some (.cells #[sv m,sv c] 194 (0,0)):=by rw [hwb]; exact alls_get _ w 1 _ rfl
 have g2:wb.heap[w.heap.size+2]?=some (.cells #[.string ⟨#[]⟩,.string ⟨#[]⟩] 194 (0,0)):=by rw [hwb]; exact alls_get _ w 2 _ rfl
 have b0:wb.cell? ⟨w.heap.size,0,none⟩=some (sv n):=cells_of g0 0
 have b1:wb.cell? ⟨w.heap.size,1,none⟩=some (sv d):=cells_of g0 1
 have b2:wb.cell? ⟨w.heap.size+1,0,none⟩=some (sv m):=cells_of g1 0
 have b3:wb.cell? ⟨w.heap.size+1,1,none⟩=some (sv c):=cells_of g1 1
 have q4:wb.cell? ⟨w.heap.size+1+1,0,none⟩=some (.string ⟨#[]⟩):=cells_of g2 0
 have q5:wb.cell? ⟨w.heap.size+1+1,1,none⟩=some (.string ⟨#[]⟩):=cells_of g2 1
 have q6:wb.frozen? ⟨w.heap.size+1+1,0,none⟩=false:=by unfold World.frozen?; rw [g2]; rfl
 have q7:wb.frozen? ⟨w.heap.size+1+1,1,none⟩=false:=by unfold World.frozen?; rw [g2]; rfl
 clear g0 g1 g2
 go_enter Tryz.func200,Tryz.ntmps200
 go_upto_region 1 with (fail)
 change Code.wp _ _ _ _ (alls w [(.cells #[sv n,sv d] 194),(.cells #[sv m,sv c] 194),(.cells #[.string ⟨#[]⟩,.string ⟨#[]⟩] 194)])
 rw [← hwb]
 clear hwb
 go_wp2_with fail
 refine (hS.out _).mono ?_
 rintro e w1 ⟨rfl,hf1⟩
 replace hfb:=hfb.trans hf1
 replace b0:=hf1.keep b0
 replace b1:=hf1.keep b1
 replace b2:=hf1.keep b2
 replace b3:=hf1.keep b3
 replace q6:=hf1.keepf q4 q6
 replace q7:=hf1.keepf q5 q7
 replace q4:=hf1.keep q4
 replace q5:=hf1.keep q5
 clear hf1
 go_wp2_with fail
 replace q4:=hZ q4
 replace q5:=hZ q5
 replace q6:=hZ q6
 replace q7:=hZ q7
 go_region_held3 (fun w'=>w'.cell? ⟨w.heap.size,0,none⟩=some (sv n)∧w'.cell? ⟨w.heap.size,1,none⟩=some (sv d)∧w'.cell? ⟨w.heap.size+1,0,none⟩=some (sv m)∧w'.cell? ⟨w.heap.size+1,1,none⟩=some (sv c))
  (first | exact ⟨b0,b1,b2,b3⟩ | (go_split_ands; refine ⟨?_, ?_, ?_, ?_⟩ <;> (refine Fr.keep (by assumption) ?_; assumption)) | (go_split_ands; (try dsimp only); (repeat' apply And.intro) <;> (rw [World.cell?_setCell_other _ _ _ _ (by intro e; injection e with e; omega),World.cell?_setCell_other _ _ _ _ (by intro e; injection e with e; omega)]; assumption)) | go_keep)
  (first
   | (go_at_call 80; (with_reducible refine (hM1.out _ ?_).mono ?_); (exact fr9); rintro e w3 ⟨rfl,hf3⟩)
   | (go_at_call 80; (with_reducible refine (hM2.out _ ?_).mono ?_); (exact fr9); rintro e w4 ⟨rfl,hf4⟩)
   | (go_at_call 193; (with_reducible refine (hL.out _ ?_).mono ?_); (exact fr9); rintro e w5 ⟨rfl,hf5⟩; have hfz:Fr w1 w5:=(by exact fr9); have t4:=hfz.keep q4.out; have t5:=hfz.keep q5.out; have t6:=hfz.keepf q4.out q6.out; have t7:=hfz.keepf q5.out q7.out; have qs:=two_store w5 (w.heap.size+1+1) (sv rn) (sv rd) _ _ t4 t5; have q8:=qs.2.2.1; have u0:=hZ qs.1; have u1:=hZ qs.2.1; have hfx:=hZ qs.2.2.2; clear qs))
 clear q8 t4 t5 t6 t7
 replace hfb:=hfb.trans hfz
 go_wp2_with fail
 have v0:=u0.out
 have v1:=u1.out
 refine bodyPost_ret (v:=.tuple #[.agg #[sv rn,sv rd],.int .i64 0]) (by simp [results,Tryz.results200,go_sem,v0,v1]) rfl ⟨rfl, ?_⟩
 exact ((Fx.of_fr (p:=fun q=>q=w.heap.size+1+1) hfb).trans hfx.out).toFr (fun q hq e=>by have e:q=w.heap.size+1+1:=e; omega)
def OwnQ (w:World) (b o:Nat) (xs:List Rat):Prop :=
 gN≤b∧b < w.heap.size∧∀ j x,xs[j]?=some x→(w.cell? ⟨b,o+j * 2,none⟩=some (sv x.num)∧w.frozen? ⟨b,o+j * 2,none⟩=false)∧(w.cell? ⟨b,o+j * 2+1,none⟩=some (sv (x.den:Int))∧w.frozen? ⟨b,o+j * 2+1,none⟩=false)
theorem OwnQ.fx {p:Nat→Prop} {w w':World} {b o:Nat} {xs:List Rat} (h:OwnQ w b o xs) (k:Fx p w w') (hp:¬ p b):OwnQ w' b o xs :=
 ⟨h.1,Nat.lt_of_lt_of_le h.2.1 k.size,fun j x hx=>by
  obtain ⟨⟨h1,h2⟩,h3,h4⟩:=h.2.2 j x hx
  exact ⟨⟨k.keep h1 hp,k.keepf h1 h2 hp⟩,k.keep h3 hp,k.keepf h3 h4 hp⟩⟩
theorem OwnQ.fr {w w':World} {b o:Nat} {xs:List Rat} (h:OwnQ w b o xs) (k:Fr w w'):OwnQ w' b o xs :=
 h.fx (p:=fun _=>False) (Fx.of_fr k) (fun e=>e)
theorem OwnQ.set {w:World} {b o:Nat} {xs:List Rat} (h:OwnQ w b o xs) {k:Nat} (hk:k < xs.length) (x:Rat):OwnQ ((w.setCell ⟨b,o+k * 2,none⟩ (sv x.num)).setCell ⟨b,o+k * 2+1,none⟩ (sv (x.den:Int))) b o (xs.set k x):=by
 obtain ⟨h1,h2,h3⟩:=h
 have hs:∀ (p q:Addr) (u v:Value),((w.setCell p u).setCell q v).heap.size=w.heap.size:=fun p q u v=>by rw [World.size_setCell,World.size_setCell]
 refine ⟨h1,by rw [hs]; exact h2,fun j y hy=>?_⟩
 rw [World.frozen?_setCell,World.frozen?_setCell,World.frozen?_setCell,World.frozen?_setCell]
 have ne:∀ i l:Nat,i≠l→(⟨b,i,none⟩:Addr)≠⟨b,l,none⟩:=fun i l e e2=>by injection e2 with _ e2; exact e e2
 rw [List.getElem?_set] at hy
 by_cases e:k=j
 ·subst e
  rw [if_pos rfl,if_pos hk] at hy
  injection hy with hy; subst hy
  obtain ⟨⟨a1,a2⟩,a3,a4⟩:=h3 k _ (List.getElem?_eq_getElem hk)
  refine ⟨⟨?_,a2⟩, ?_,a4⟩
  ·rw [World.cell?_setCell_other _ _ _ _ (ne _ _ (by omega))]; exact World.cell?_setCell_same' _ _ _ (by rw [a1]; rfl)
  ·exact World.cell?_setCell_same' _ _ _ (by rw [World.cell?_setCell_other _ _ _ _ (ne _ _ (by omega)),a3]; rfl)
 ·rw [if_neg e] at hy
  obtain ⟨⟨a1,a2⟩,a3,a4⟩:=h3 j y hy
  refine ⟨⟨?_,a2⟩, ?_,a4⟩
  ·rw [World.cell?_setCell_other _ _ _ _ (ne _ _ (by omega)),World.cell?_setCell_other _ _ _ _ (ne _ _ (by omega))]; exact a1
  ·rw [World.cell?_setCell_other _ _ _ _ (ne _ _ (by omega)),World.cell?_setCell_other _ _ _ _ (ne _ _ (by omega))]; exact a3
def qcells (xs:List Rat):List Value:=xs.flatMap fun x=>[sv x.num,sv (x.den:Int)]
theorem qcells_append (xs ys:List Rat):qcells (xs ++ ys)=qcells xs ++ qcells ys:=by unfold qcells; rw [List.flatMap_append]
theorem qcells_len (xs:List Rat):(qcells xs).length=xs.length * 2:=by
 induction xs with
 | nil=>rfl
 | cons x l ih=>show ((sv x.num) :: (sv (x.den:Int)) :: qcells l).length=_; rw [List.length_cons,List.length_cons,ih,List.length_cons]; omega
theorem qcells_get:∀ (xs:List Rat) (j:Nat) (x:Rat),xs[j]?=some x→(qcells xs)[j * 2]?=some (sv x.num)∧(qcells xs)[j * 2+1]?=some (sv (x.den:Int))
 | [],j,x,h=>by simp at h
 | y :: l,0,x,h=>by rw [List.getElem?_cons_zero] at h; injection h with h; subst h; exact ⟨rfl,rfl⟩
 | y :: l,j+1,x,h=>by
   rw [List.getElem?_cons_succ] at h
   obtain ⟨a,b⟩:=qcells_get l j x h
   have e:qcells (y :: l)=sv y.num :: sv (y.den:Int) :: qcells l:=rfl
   rw [e,show (j+1) * 2=j * 2+1+1 by omega,show j * 2+1+1+1=(j * 2+1)+1+1 by omega]
   exact ⟨by rw [List.getElem?_cons_succ,List.getElem?_cons_succ]; exact a,by rw [List.getElem?_cons_succ,List.getElem?_cons_succ]; exact b⟩
theorem ownsRow_ownQ {w:World} {base:Nat} {e:TypeId} {g n m cap:Nat} {xs:List Rat} (hb:gN≤base) (h:w.ownsRow base e 2 (.slice (some ⟨g,0,none⟩) n cap) m (qcells xs)):OwnQ w g 0 xs∧n=m∧m=xs.length∧base≤g∧n≤cap:=by
 have h1:=h.1
 obtain ⟨a,b,c,d,f⟩:=ownsRow_some h
 refine ⟨⟨by omega,c,fun j x hx=>?_⟩,a,by rw [qcells_len] at h1; omega,b,d⟩
 obtain ⟨k1,k2⟩:=qcells_get xs j x hx
 rw [Nat.zero_add]
 exact ⟨f _ _ k1,f _ _ k2⟩
structure GridQ (w:World) (ob oo:Nat) (hs:List (Nat×Nat×Nat)) (g:List (List Rat)):Prop where
 len:hs.length=g.length
 outer:ob < w.heap.size
 gob:gN≤ob
 cell:∀ (i:Nat) (h:Nat×Nat×Nat) (xs:List Rat),hs[i]?=some h→g[i]?=some xs→w.cell? ⟨ob,oo+i,none⟩=some (.slice (some ⟨h.1,h.2.1,none⟩) xs.length h.2.2)∧w.frozen? ⟨ob,oo+i,none⟩=false
 row:∀ (i:Nat) (h:Nat×Nat×Nat) (xs:List Rat),hs[i]?=some h→g[i]?=some xs→OwnQ w h.1 h.2.1 xs∧h.1≠ob
 apart:∀ (i j:Nat) (hi hj:Nat×Nat×Nat),hs[i]?=some hi→hs[j]?=some hj→i≠j→hi.1≠hj.1
theorem GridQ.fx {p:Nat→Prop} {w w':World} {ob oo:Nat} {hs:List (Nat×Nat×Nat)} {g:List (List Rat)} (h:GridQ w ob oo hs g) (k:Fx p w w') (hp:∀ j,gb ob hs j→¬ p j):GridQ w' ob oo hs g :=
 ⟨h.len,Nat.lt_of_lt_of_le h.outer k.size,h.gob,
  fun i hd xs h1 h2=>by
   have:=h.cell i hd xs h1 h2
   exact ⟨k.keep this.1 (hp _ (.inl rfl)),k.keepf this.1 this.2 (hp _ (.inl rfl))⟩,
  fun i hd xs h1 h2=>by
   have:=h.row i hd xs h1 h2
   exact ⟨this.1.fx k (hp _ (.inr ⟨hd,List.mem_of_getElem? h1,rfl⟩)),this.2⟩,
  h.apart⟩
theorem GridQ.fr {w w':World} {ob oo:Nat} {hs:List (Nat×Nat×Nat)} {g:List (List Rat)} (h:GridQ w ob oo hs g) (k:Fr w w'):GridQ w' ob oo hs g :=
 h.fx (p:=fun _=>False) (Fx.of_fr k) (fun _ _ e=>e)
theorem GridQ.ge {w:World} {ob oo:Nat} {hs:List (Nat×Nat×Nat)} {g:List (List Rat)} (h:GridQ w ob oo hs g):∀ k,gb ob hs k→gN≤k:=by
 rintro k (rfl | ⟨hd,hm,rfl⟩)
 ·exact h.gob
 ·obtain ⟨i,hi⟩:=List.getElem?_of_mem hm
  have hlt:i < g.length:=by rw [← h.len]; exact (List.getElem?_eq_some_iff.1 hi).1
  exact (h.row i hd _ hi (List.getElem?_eq_getElem hlt)).1.1
theorem GridQ.at {w:World} {ob oo:Nat} {hs:List (Nat×Nat×Nat)} {g:List (List Rat)} (h:GridQ w ob oo hs g) {i:Nat} (hi:i < g.length) :
 ∃ b o c,hs[i]?=some (b,o,c)∧w.cell? ⟨ob,oo+i,none⟩=some (.slice (some ⟨b,o,none⟩) (g[i]).length c)∧w.frozen? ⟨ob,oo+i,none⟩=false∧OwnQ w b o g[i]∧b≠ob:=by
 have hl:i < hs.length:=by rw [h.len]; exact hi
 have h1:=List.getElem?_eq_getElem hl
 have h2:=List.getElem?_eq_getElem hi
 have h3:=h.cell i _ _ h1 h2
 have h4:=h.row i _ _ h1 h2
 exact ⟨hs[i].1,hs[i].2.1,hs[i].2.2,h1,h3.1,h3.2,h4.1,h4.2⟩
theorem GridQ.setRow {w w':World} {ob oo:Nat} {hs:List (Nat×Nat×Nat)} {g:List (List Rat)} (h:GridQ w ob oo hs g) {i b o c:Nat} (hi:hs[i]?=some (b,o,c)) {zs:List Rat}
 (k:Fx (·=b) w w') (ho:OwnQ w' b o zs) (hl:∀ xs,g[i]?=some xs→zs.length=xs.length):GridQ w' ob oo hs (g.set i zs):=by
 have hne:b≠ob:=by
  have hlt:i < g.length:=by rw [← h.len]; exact (List.getElem?_eq_some_iff.1 hi).1
  exact (h.row i _ _ hi (List.getElem?_eq_getElem hlt)).2
 refine ⟨by simp [h.len],Nat.lt_of_lt_of_le h.outer k.size,h.gob,fun j hd xs h1 h2=>?_,fun j hd xs h1 h2=>?_,h.apart⟩
 ·have hj:j < g.length:=by have:=(List.getElem?_eq_some_iff.1 h2).1; simpa using this
  have h3:=h.cell j hd _ h1 (List.getElem?_eq_getElem hj)
  rw [List.getElem?_set] at h2
  have e:xs.length=(g[j]).length:=by
   split at h2
   ·rename_i e; subst e; rw [if_pos (by simpa using hj)] at h2; injection h2 with h2; subst h2; exact hl _ (List.getElem?_eq_getElem hj)
   ·rw [List.getElem?_eq_getElem hj] at h2; injection h2 with h2; rw [h2]
  rw [e]
  exact ⟨k.keep h3.1 (fun e=>hne e.symm),k.keepf h3.1 h3.2 (fun e=>hne e.symm)⟩
 ·have hj:j < g.length:=by have:=(List.getElem?_eq_some_iff.1 h2).1; simpa using this
  have h3:=h.row j hd _ h1 (List.getElem?_eq_getElem hj)
  rw [List.getElem?_set] at h2
  refine ⟨?_,h3.2⟩
  split at h2
  ·rename_i e; subst e
   rw [if_pos (by simpa using hj)] at h2; injection h2 with h2; subst h2
   rw [hi] at h1; injection h1 with h1; subst h1
   exact ho
  ·rename_i e
   rw [List.getElem?_eq_getElem hj] at h2; injection h2 with h2; subst h2
   exact h3.1.fx k (fun e2=>h.apart i j _ _ hi h1 e e2.symm)
theorem GridQ.setRowF {w W w':World} {ob oo:Nat} {hs:List (Nat×Nat×Nat)} {g:List (List Rat)} (h:GridQ w ob oo hs g) {i b o c:Nat} (hi:hs[i]?=some (b,o,c)) {zs:List Rat}
 (k:Fx (·=b) W w') (ho:OwnQ w' b o zs) (hl:∀ xs,g[i]?=some xs→zs.length=xs.length) (hf:Fr w W):GridQ w' ob oo hs (g.set i zs) :=
 (h.fr hf).setRow hi k ho hl
theorem GridQ.swap {w:World} {ob oo:Nat} {hs:List (Nat×Nat×Nat)} {g:List (List Rat)} (h:GridQ w ob oo hs g) {i j:Nat} {hi hj:Nat×Nat×Nat} {xs ys:List Rat}
 (h1:hs[i]?=some hi) (h2:hs[j]?=some hj) (h3:g[i]?=some xs) (h4:g[j]?=some ys) (hij:i≠j) :
 GridQ ((w.setCell ⟨ob,oo+i,none⟩ (.slice (some ⟨hj.1,hj.2.1,none⟩) ys.length hj.2.2)).setCell ⟨ob,oo+j,none⟩ (.slice (some ⟨hi.1,hi.2.1,none⟩) xs.length hi.2.2)) ob oo (swp hs i j) (swp g i j):=by
 have hf:Fx (·=ob) w ((w.setCell ⟨ob,oo+i,none⟩ (.slice (some ⟨hj.1,hj.2.1,none⟩) ys.length hj.2.2)).setCell ⟨ob,oo+j,none⟩ (.slice (some ⟨hi.1,hi.2.1,none⟩) xs.length hi.2.2)) :=
  Fx.setCell (p:=(·=ob)) (q:=⟨ob,oo+j,none⟩) (Fx.setCell (p:=(·=ob)) (q:=⟨ob,oo+i,none⟩) (Fx.refl _ w) (.inl rfl) _) (.inl rfl) _
 have ci:=h.cell i _ _ h1 h3
 have cj:=h.cell j _ _ h2 h4
 have eij:(⟨ob,oo+i,none⟩:Addr)≠⟨ob,oo+j,none⟩:=fun e=>by injection e with _ e; omega
 refine ⟨by rw [swp_len,swp_len,h.len],Nat.lt_of_lt_of_le h.outer hf.size,h.gob,fun k hd zs k1 k2=>?_,fun k hd zs k1 k2=>?_,fun a b ha hb k1 k2 hab=>?_⟩
 ·rw [swp_get hs i j h1 h2] at k1
  rw [swp_get g i j h3 h4] at k2
  rw [World.frozen?_setCell,World.frozen?_setCell]
  by_cases e:k=j
  ·subst e
   rw [if_pos rfl] at k1 k2
   injection k1 with k1; injection k2 with k2; subst k1; subst k2
   refine ⟨World.cell?_setCell_same' _ _ _ ?_,cj.2⟩
   rw [World.cell?_setCell_other _ _ _ _ eij,cj.1]; rfl
  ·rw [if_neg e] at k1 k2
   have ekj:(⟨ob,oo+j,none⟩:Addr)≠⟨ob,oo+k,none⟩:=fun e2=>by injection e2 with _ e2; omega
   rw [World.cell?_setCell_other _ _ _ _ ekj]
   by_cases e2:k=i
   ·subst e2
    rw [if_pos rfl] at k1 k2
    injection k1 with k1; injection k2 with k2; subst k1; subst k2
    exact ⟨World.cell?_setCell_same' _ _ _ (by rw [ci.1]; rfl),ci.2⟩
   ·rw [if_neg e2] at k1 k2
    have eki:(⟨ob,oo+i,none⟩:Addr)≠⟨ob,oo+k,none⟩:=fun e3=>by injection e3 with _ e3; omega
    rw [World.cell?_setCell_other _ _ _ _ eki]
    exact h.cell k hd zs k1 k2
 ·rw [swp_get hs i j h1 h2] at k1
  rw [swp_get g i j h3 h4] at k2
  have go:∀ (m:Nat) (hd:Nat×Nat×Nat) (zs:List Rat),hs[m]?=some hd→g[m]?=some zs→OwnQ ((w.setCell ⟨ob,oo+i,none⟩ (.slice (some ⟨hj.1,hj.2.1,none⟩) ys.length hj.2.2)).setCell ⟨ob,oo+j,none⟩ (.slice (some ⟨hi.1,hi.2.1,none⟩) xs.length hi.2.2)) hd.1 hd.2.1 zs∧hd.1≠ob:=fun m hd zs m1 m2=>by
   have:=h.row m hd zs m1 m2
   exact ⟨this.1.fx hf this.2,this.2⟩
  by_cases e:k=j
  ·subst e; rw [if_pos rfl] at k1 k2; injection k1 with k1; injection k2 with k2; subst k1; subst k2; exact go i _ _ h1 h3
  ·rw [if_neg e] at k1 k2
   by_cases e2:k=i
   ·subst e2; rw [if_pos rfl] at k1 k2; injection k1 with k1; injection k2 with k2; subst k1; subst k2; exact go j _ _ h2 h4
   ·rw [if_neg e2] at k1 k2; exact go k _ _ k1 k2
 ·rw [swp_get hs i j h1 h2] at k1 k2
  have key:∀ (k:Nat) (hd:Nat×Nat×Nat),(if k=j then some hi else if k=i then some hj else hs[k]?)=some hd→∃ m,hs[m]?=some hd∧m=(if k=j then i else if k=i then j else k):=fun k hd hk=>by
   by_cases e:k=j
   ·rw [if_pos e] at hk ⊢; exact ⟨i,by rw [h1,hk],rfl⟩
   ·rw [if_neg e] at hk ⊢
    by_cases e2:k=i
    ·rw [if_pos e2] at hk ⊢; exact ⟨j,by rw [h2,hk],rfl⟩
    ·rw [if_neg e2] at hk ⊢; exact ⟨k,hk,rfl⟩
  obtain ⟨m,m1,m2⟩:=key a ha k1
  obtain ⟨n,n1,n2⟩:=key b hb k2
  refine h.apart m n _ _ m1 n1 (fun e=>hab ?_)
  rw [m2,n2] at e
  repeat' split at e
  all_goals omega
def hdrQ (h:Nat×Nat×Nat) (xs:List Rat):Value:=.slice (some ⟨h.1,h.2.1,none⟩) xs.length h.2.2
def hdrsQ (hs:List (Nat×Nat×Nat)) (g:List (List Rat)):List Value:=List.zipWith hdrQ hs g
structure GGQ (w:World) (base:Nat) (E:TypeId) (v:Value) (hs:List (Nat×Nat×Nat)) (g:List (List Rat)):Prop where
 gbase:gN≤base
 len:hs.length=g.length
 own:w.ownsRow base E 1 v g.length (hdrsQ hs g)
 row:∀ (i:Nat) (h:Nat×Nat×Nat) (xs:List Rat),hs[i]?=some h→g[i]?=some xs→OwnQ w h.1 h.2.1 xs∧v.ownBlock≠some h.1
 apart:∀ (i j:Nat) (hi hj:Nat×Nat×Nat),hs[i]?=some hi→hs[j]?=some hj→i≠j→hi.1≠hj.1
theorem GGQ.nil (w:World) (base:Nat) (E:TypeId) (h:gN≤base):GGQ w base E (.slice none 0 0) [] [] :=
 ⟨h,rfl,World.ownsRow_nil _ _ _ _,fun i h xs h1=>by simp at h1,fun i j hi hj h1=>by simp at h1⟩
theorem GGQ.fr {w w':World} {base:Nat} {E:TypeId} {v:Value} {hs:List (Nat×Nat×Nat)} {g:List (List Rat)} (h:GGQ w base E v hs g) (k:Fr w w'):GGQ w' base E v hs g :=
 ⟨h.gbase,h.len,ownsRow_fr h.own k,fun i hd xs h1 h2=>⟨(h.row i hd xs h1 h2).1.fr k,(h.row i hd xs h1 h2).2⟩,h.apart⟩
theorem GGQ.lt {w:World} {base:Nat} {E:TypeId} {v:Value} {hs:List (Nat×Nat×Nat)} {g:List (List Rat)} (h:GGQ w base E v hs g):∀ hd,hd ∈ hs→hd.1 < w.heap.size:=fun hd hm=>by
 obtain ⟨i,hi⟩:=List.getElem?_of_mem hm
 have hl:i < g.length:=by rw [← h.len]; exact (List.getElem?_eq_some_iff.1 hi).1
 exact (h.row i hd _ hi (List.getElem?_eq_getElem hl)).1.2.1
theorem hdrsQ_push (hs:List (Nat×Nat×Nat)) (g:List (List Rat)) (h:Nat×Nat×Nat) (xs:List Rat) (hl:hs.length=g.length):hdrsQ (hs ++ [h]) (g ++ [xs])=hdrsQ hs g ++ [hdrQ h xs]:=by
 unfold hdrsQ; rw [List.zipWith_append hl]; rfl
theorem GGQ.push {w w':World} {base:Nat} {E:TypeId} {v:Value} {hs:List (Nat×Nat×Nat)} {g:List (List Rat)} (h:GGQ w base E v hs g) {hd:Nat×Nat×Nat} {xs:List Rat} (ho:OwnQ w hd.1 hd.2.1 xs)
 (hne:∀ h',h' ∈ hs→h'.1≠hd.1) (hv:v.ownBlock≠some hd.1) {gb cap:Nat} (hown:w'.ownsRow base E 1 (.slice (some ⟨gb,0,none⟩) (g.length+1) cap) (g.length+1) (hdrsQ hs g ++ [hdrQ hd xs]))
 (hg:w.grownBy w' v.ownBlock) (hat:v.ownBlock=some gb∨w.heap.size≤gb):GGQ w' base E (.slice (some ⟨gb,0,none⟩) (g.length+1) cap) (hs ++ [hd]) (g ++ [xs]):=by
 have hfx:=Fx.of_grown hg
 have hrow:∀ (i:Nat) (h0:Nat×Nat×Nat) (ys:List Rat),hs[i]?=some h0→g[i]?=some ys→OwnQ w' h0.1 h0.2.1 ys∧gb≠h0.1:=fun i h0 ys h1 h2=>by
  obtain ⟨a,b⟩:=h.row i h0 ys h1 h2
  refine ⟨a.fx hfx (fun e=>b e), ?_⟩
  rcases hat with e | e
  ·intro e2; rw [e2] at e; exact b e
  ·have:=a.2.1; omega
 refine ⟨h.gbase,by simp [h.len], ?_,fun i h0 ys h1 h2=>?_,fun i j hi hj h1 h2 hij=>?_⟩
 ·rw [hdrsQ_push _ _ _ _ h.len]; simpa using hown
 ·by_cases hi:i < g.length
  ·rw [List.getElem?_append_left (by rw [h.len]; exact hi)] at h1
   rw [List.getElem?_append_left hi] at h2
   obtain ⟨a,b⟩:=hrow i h0 ys h1 h2
   exact ⟨a,fun e=>by injection e with e; exact b e⟩
  ·rw [List.getElem?_append_right (by omega)] at h2
   rw [List.getElem?_append_right (by rw [h.len]; omega)] at h1
   rw [List.getElem?_singleton] at h1 h2
   split at h1
   ·split at h2
    ·injection h1 with h1; injection h2 with h2; subst h1; subst h2
     refine ⟨ho.fx hfx (fun e=>hv e),fun e=>?_⟩
     injection e with e
     rcases hat with e2 | e2
     ·have e3:gb=hd.1:=e
      rw [e3] at e2; exact hv e2
     ·have:=ho.2.1
      have e3:gb=hd.1:=e
      omega
    ·simp at h2
   ·simp at h1
 ·have key:∀ (i:Nat) (h0:Nat×Nat×Nat),(hs ++ [hd])[i]?=some h0→(i < hs.length∧hs[i]?=some h0)∨(i=hs.length∧h0=hd):=fun i h0 h=>by
   by_cases hi:i < hs.length
   ·rw [List.getElem?_append_left hi] at h; exact .inl ⟨hi,h⟩
   ·rw [List.getElem?_append_right (by omega),List.getElem?_singleton] at h
    split at h
    ·injection h with h; exact .inr ⟨by omega,h.symm⟩
    ·simp at h
  rcases key i hi h1 with ⟨a1,a2⟩ | ⟨a1,a2⟩ <;> rcases key j hj h2 with ⟨b1,b2⟩ | ⟨b1,b2⟩
  ·exact h.apart i j _ _ a2 b2 hij
  ·subst b2; exact hne _ (List.mem_of_getElem? a2)
  ·subst a2; exact (hne _ (List.mem_of_getElem? b2)).symm
  ·omega
theorem GGQ.pushN {w w':World} {base:Nat} {E:TypeId} {v u:Value} {hs:List (Nat×Nat×Nat)} {g:List (List Rat)} (h:GGQ w base E v hs g) {hd:Nat×Nat×Nat} {xs:List Rat} (ho:OwnQ w hd.1 hd.2.1 xs)
 (hne:∀ h',h' ∈ hs→h'.1≠hd.1) (hv:v.ownBlock≠some hd.1) {gb cap n:Nat} (hn:g.length=n) (hu:u=hdrQ hd xs) (hown:w'.ownsRow base E 1 (.slice (some ⟨gb,0,none⟩) (n+1) cap) (n+1) (hdrsQ hs g ++ [u]))
 (hg:w.grownBy w' v.ownBlock) (hat:v.ownBlock=some gb∨w.heap.size≤gb):GGQ w' base E (.slice (some ⟨gb,0,none⟩) (n+1) cap) (hs ++ [hd]) (g ++ [xs]):=by
 subst hn; subst hu
 exact h.push ho hne hv hown hg hat
theorem GGQ.grid {w:World} {base:Nat} {E:TypeId} {gb n cap:Nat} {hs:List (Nat×Nat×Nat)} {g:List (List Rat)} (h:GGQ w base E (.slice (some ⟨gb,0,none⟩) n cap) hs g):GridQ w gb 0 hs g∧n=g.length∧base≤gb∧n≤cap:=by
 obtain ⟨a,b,c,d,f⟩:=ownsRow_some h.own
 refine ⟨⟨h.len,c,Nat.le_trans h.gbase b,fun i hd xs h1 h2=>?_,fun i hd xs h1 h2=>?_,h.apart⟩,a,b,d⟩
 ·have:=f i (hdrQ hd xs) (by unfold hdrsQ; rw [List.getElem?_zipWith,h1,h2])
  simpa [hdrQ] using this
 ·obtain ⟨p,q⟩:=h.row i hd xs h1 h2
  exact ⟨p,fun e=>q (by simp [Value.ownBlock,e])⟩
theorem infoQ:(Tryz.prog.info? 194).map (fun i=>(i.zero,i.size,i.bytes))=some (some (.agg #[.string ⟨#[]⟩,.string ⟨#[]⟩]),2,32):=by kernel_rfl
theorem infoQs:(Tryz.prog.info? 196).map (fun i=>(i.zero,i.size,i.bytes))=some (some (.slice none 0 0),1,24):=by kernel_rfl
theorem cell_twoQ (w:World) (x y:Value) (t:TypeId) (n:Nat) (hn:w.heap.size=n):∀ (j:Nat) (u:Value),[x,y][j]?=some u→(w.alloc (.cells #[x,y] t)).cell? ((⟨n,0,none⟩:Addr).add j)=some u:=fun j u hu=>by
 subst hn
 match j,hu with
 | 0,hu=>simp at hu; subst hu; exact (new2a w x y t).1
 | 1,hu=>simp at hu; subst hu; exact (new2b w x y t).1
 | j+2,hu=>simp at hu
theorem zeroQ_any (w:World):Calls Tryz.prog 187 #[] w fun e w'=>e=.returned (qv 0)∧Fr w w':=by
 have e:qv 0=.agg #[.string ⟨#[48]⟩,.string ⟨#[49]⟩]:=by unfold qv sv; rw [show (0:Rat).num=0 from rfl,show (((0:Rat).den:Nat):Int)=1 from rfl,tx_zero,tx_one]
 rw [e]
 clear e
 go_enter Tryz.func187,Tryz.ntmps187
 go_wp2_with fail
 exact bodyPost_ret (v:=.agg #[.string ⟨#[48]⟩,.string ⟨#[49]⟩]) (by simp [results,Tryz.results187,go_sem]) rfl ⟨rfl,(Fr.refl _).alloc _⟩
theorem oneQ_any (w:World):Calls Tryz.prog 188 #[] w fun e w'=>e=.returned (qv 1)∧Fr w w':=by
 have e:qv 1=.agg #[.string ⟨#[49]⟩,.string ⟨#[49]⟩]:=by unfold qv sv; rw [show (1:Rat).num=1 from rfl,show (((1:Rat).den:Nat):Int)=1 from rfl,tx_one]
 rw [e]
 clear e
 go_enter Tryz.func188,Tryz.ntmps188
 go_wp2_with fail
 exact bodyPost_ret (v:=.agg #[.string ⟨#[49]⟩,.string ⟨#[49]⟩]) (by simp [results,Tryz.results188,go_sem]) rfl ⟨rfl,(Fr.refl _).alloc _⟩
theorem nothing_any (i:Int) (w:World):Calls Tryz.prog 135 #[.int .i64 i] w fun e w'=>e=.returned (.slice none 0 0)∧Fr w w':=by
 go_enter Tryz.func135,Tryz.ntmps135
 go_wp2_with fail
 go_ret
 exact ⟨rfl,Fr.refl _⟩
def colsN (m:List (List Int)):Nat:=(rowAt m 0).length
theorem Columns_any (m:List (List Int)) (a:Option Addr) (cap:Nat) (w:World) (hm:MatIs w a m) :
 Calls Tryz.prog 136 #[.slice a m.length cap] w fun e w'=>e=.returned (.int .i64 (colsN m))∧Fr w w':=by
 by_cases h0:m=[]
 ·subst h0
  go_enter Tryz.func136,Tryz.ntmps136
  go_wp2_with fail
  go_ret
  exact ⟨rfl,Fr.refl _⟩
 ·have hl:0 < m.length:=List.length_pos_iff.2 h0
  obtain ⟨b,o,a',c',rfl,hc,-⟩:=hm.at hl
  have hr:colsN m=(m[0]).length:=by unfold colsN; rw [rowAt_eq hl]
  rw [hr]
  generalize (m[0]).length=k at *
  obtain ⟨n,hn⟩:∃ n,n=m.length:=⟨_,rfl⟩
  rw [← hn] at hl ⊢
  have d1:((n:Int) == 0)=false:=beq_false_of_ne (by omega)
  rw [Nat.add_zero] at hc
  clear hr hn hm h0
  go_enter Tryz.func136,Tryz.ntmps136
  go_wp2_with fail
  go_ret
  exact ⟨rfl,Fr.refl _⟩
def qrow (r:List Int):List Rat:=r.map fun n:Int=>(n:Rat)
theorem qv_int (n:Int):qv (n:Rat)=.agg #[sv n,.string ⟨#[49]⟩]:=by
 unfold qv; rw [Rat.num_intCast,Rat.den_intCast,show sv ((1:Nat):Int)=.string ⟨#[49]⟩ from by rw [show ((1:Nat):Int)=1 from rfl,sv,tx_one]]
def QRowRet (w:World) (g:List (List Rat)) (e:Ending) (w':World):Prop:=∃ v hs,e=.returned v∧GGQ w' w.heap.size 196 v hs g∧Hid (∀ h,h ∈ hs→w.heap.size≤h.1)∧Fr w w'
theorem rows0_any (m:List (List Int)) (a:Option Addr) (cap n:Nat) (w:World) (hG:G w) (hm:MatIs w a m) (hr:Rect n m) (hn:1≤n) (hn2:n≤1000) (hl:m.length≤1000) (hb:∀ r,r ∈ m→∀ x,x ∈ r→Sm x) :
 Calls Tryz.prog 134 #[.slice a m.length cap,.func (.func 135) #[] #[]] w (QRowRet w (m.map qrow)):=by
 have hG1:=hZ hG
 have hm1:=hZ hm
 have hr1:=hZ hr
 have hb1:=hZ hb
 have hgn:=gN_le hG
 obtain ⟨i0,hi,hz0,hz1,hz2⟩:=info_parts infoQ
 obtain ⟨i1,ji,jz0,jz1,jz2⟩:=info_parts infoQs
 have hno:=hZ (fun i W=>nothing_any i W)
 have hlen:=hZ (show (m.map qrow).length=m.length by simp)
 clear hG hm hr hb
 go_enter Tryz.func134,Tryz.ntmps134
 go_wp2_with fail
 go_loopg [5,13] m.length (fun k s5 s13 wr=>∃ (j:Nat) (hs:List (Nat×Nat×Nat)),s13=.int .i64 j∧j+k=m.length∧Fr w wr∧GGQ wr w.heap.size 196 s5 hs ((m.map qrow).take j)∧Hid (∀ h,h ∈ hs→w.heap.size≤h.1))
 case atStart=>exact ⟨0,[],rfl,by omega,Fr.refl _,GGQ.nil _ _ _ hgn,fun h hm=>by simp at hm⟩
 case round=>
  obtain ⟨j,hs,rfl,hjk,hf,hgg,hnew⟩:=hrel
  by_cases hlt:j < m.length
  ·obtain ⟨b,o,a',c',rfl,hc,hel⟩:=(hm1.out.fr hf).at hlt
   have hrj:=hr1.out.row hlt
   rw [hrj] at hc
   have hgl:((m.map qrow).take j).length=j:=by rw [List.length_take,hlen.out]; omega
   have hmj:(m.map qrow)[j]?=some (qrow m[j]):=by rw [List.getElem?_map,List.getElem?_eq_getElem hlt]; rfl
   have hsn:=take_snoc hmj
   have hbj:=hb1.out _ (List.getElem_mem hlt)
   generalize m[j]=row at *
   replace hrj:=hZ hrj
   replace hgl:=hZ hgl
   replace hsn:=hZ hsn
   replace hbj:=hZ hbj
   replace hmj:=hZ hmj
   replace hgg:=hZ hgg
   obtain ⟨wo,rfl⟩:∃ wo:World,wo=wr:=⟨_,rfl⟩
   obtain ⟨ko,rfl⟩:∃ ko:Nat,ko=gk:=⟨_,rfl⟩
   have zj0:(0:Int)≤(j:Int):=Int.natCast_nonneg _
   have zj1:(j:Int) < (m.length:Int):=by omega
   go_wp2_with fail
   go_loopg [8,20] n (fun k s8 s20 wr2=>∃ t:Nat,s20=.int .i64 t∧t+k=n∧Fr wo wr2∧Hid (wr2.ownsRow wo.heap.size 194 2 s8 t (qcells ((qrow row).take t))))
   case atStart=>exact ⟨0,rfl,by omega,Fr.refl _,World.ownsRow_nil _ _ _ _⟩
   case round=>
    obtain ⟨t,rfl,htk,hf2,hown⟩:=hrel
    by_cases ht:t < n
    ·obtain ⟨b2,o2,x,rfl,hbl2,hxt,hcell2⟩:=(hel.fr hf2).at (i:=t) (by rw [hrj.out]; exact ht)
     have hGr:=(hG1.out.fr hf).fr hf2
     have hsx:=hbj.out x (List.mem_of_getElem? hxt)
     unfold Sm at hsx
     have hxq:(qrow row)[t]?=some (x:Rat):=by unfold qrow; rw [List.getElem?_map,hxt]; rfl
     have hsn2:Hid (qcells ((qrow row).take (t+1))=qcells ((qrow row).take t) ++ [sv x,.string ⟨#[49]⟩]):=hZ (by
      rw [take_snoc hxq,qcells_append]
      have:=qv_int x
      unfold qv at this
      injection this with this
      injection this with this
      show _ ++ [sv (x:Rat).num,sv ((x:Rat).den:Int)]=_
      rw [this])
     replace hxt:=hZ hxt
     replace hxq:=hZ hxq
     have zt0:(0:Int)≤(t:Int):=Int.natCast_nonneg _
     have zt1:(t:Int) < (n:Int):=by omega
     go_wp2_with fail
     refine (Of_any _ (by omega) (by omega) _ hGr).mono ?_
     rintro e w2 ⟨rfl,hf3⟩
     go_wp2_with (at_builtin; refine wpList_append_lies _ rfl _ _ 196 (by rfl) _ 194 _ _ 2 32 Tryz.underlying196 hi hz0 hz1 hz2 rfl (by decide) _ t _ (by rfl) (World.ownsRow.alloc (ownsRow_fr hown.out hf3) _) ⟨w2.heap.size,0,none⟩ 1 1 [sv x,.string ⟨#[49]⟩] (by rfl) rfl (cell_twoQ _ _ _ _ _ (by simp)) (by simp [Value.oneCell']) (by decide) (by unfold maxLen; omega) (by omega) (by have:=(hf2.trans hf3).size; simp; omega) (w2.heap.size+1) (by simp) ?_; intro gA capA wA hownA hgrowA hatA hltA)
     go_wp2_with fail
     go_roundg (gk - 1)
     case measure=>omega
     case rel=>exact ⟨t+1,by go_num,by omega,((hf2.trans hf3).alloc _).grown hgrowA (fun k e=>(hown.out.lt k e).1),by show _; rw [hsn2.out]; exact hownA⟩
    ·have hd:decide (t < n)=false:=decide_eq_false ht
     obtain rfl:t=n:=by omega
     obtain ⟨gb,cp,rfl⟩:=ownsRow_pos hown.out (by omega)
     have hown9:=hown.out
     rw [List.take_of_length_le (by unfold qrow; rw [List.length_map,hrj.out]; omega)] at hown9
     obtain ⟨hrow,-,-,hgb,-⟩:=ownsRow_ownQ (Nat.le_trans hgn hf.size) hown9
     have hgg2:=hgg.out.fr hf2
     replace hrow:=hZ hrow
     have hne:u5.ownBlock≠some gb:=fun e=>by have h9:=(hgg.out.own.lt gb e).2; exact Nat.lt_irrefl _ (Nat.lt_of_lt_of_le h9 hgb)
     have hne2:∀ h',h' ∈ hs→h'.1≠gb:=fun h' hm e2=>by have h9:=hgg.out.lt h' hm; rw [e2] at h9; exact Nat.lt_irrefl _ (Nat.lt_of_lt_of_le h9 hgb)
     have hz9:=hf2.size
     have hz8:=hf.size
     have hnw:=hno.out j wr
     have hownB:=hZ (ownsRow_fr hown.out ((Fr.refl wr)))
     go_wp2_with fail
     refine hnw.mono ?_
     rintro e w3 ⟨rfl,hf3⟩
     have hown3:=hZ (ownsRow_fr hown.out hf3)
     have hgg3:=hgg2.fr hf3
     have hownG:=hgg3.own
     rw [hgl.out] at hownG
     have hz7:=hf3.size
     clear hown hown9 hownB
     go_wp2_with (first
     | (at_builtin; refine wpList_append_own_none rfl _ _ 196 (by rfl) wo.heap.size 194 i0 2 Tryz.underlying196 hi _ t _ (by rfl) hown3.out (by rfl) ?_)
     | (at_builtin; refine wpList_append_lies _ rfl _ _ 190 (by rfl) _ 196 _ _ 1 24 Tryz.underlying190 ji jz0 jz1 jz2 rfl (by decide) _ j _ (by rfl) (World.ownsRow.alloc hownG _) ⟨w3.heap.size,0,none⟩ 1 1 [.slice (some ⟨gb,0,none⟩) t cp] (by rfl) rfl (cell_one_newN _ _ _ _ (by simp)) (by simp [Value.oneCell']) (by decide) (by unfold maxLen; omega) (by omega) (by skip; simp; omega) (w3.heap.size+1) (by simp) ?_; intro gB capB wB hownB hgrowB hatB hltB; skip))
     have hpush:=(hgg3.fr ((Fr.refl w3).alloc _)).pushN (hd:=(gb,0,cp)) ((hrow.out.fr hf3).fr ((Fr.refl w3).alloc _)) hne2 hne hgl.out (by unfold hdrQ qrow; rw [List.length_map,hrj.out]) hownB hgrowB (hatB.imp id (fun e=>by rw [e]; simp))
     rw [← hsn.out] at hpush
     have hfrB:Fr w wB:=((((hf.trans hf2).trans hf3).alloc _)).grown hgrowB (fun k e=>(hgg.out.own.lt k e).1)
     go_roundg (ko - 1)
     case measure=>omega
     case rel=>exact ⟨j+1,_,by go_num,by omega,hfrB,hpush,fun h hm=>by rcases List.mem_append.1 hm with h1 | h1; exact hnew.out h h1; (simp at h1; subst h1; exact Nat.le_trans hf.size hgb)⟩
  ·have hd:decide (j < m.length)=false:=decide_eq_false hlt
   have hjm:(m.map qrow).take j=m.map qrow:=List.take_of_length_le (by rw [hlen.out]; omega)
   rw [hjm] at hgg
   replace hjm:=hZ hjm
   go_wp2_with fail
   go_ret
   exact ⟨_,hs,rfl,hgg,hnew,hf⟩
def rowQ (g:List (List Rat)) (i:Nat):List Rat:=(g[i]?).getD []
def entQ (g:List (List Rat)) (i c:Nat):Rat:=((rowQ g i)[c]?).getD 0
def tqRow (r:List Rat):Bool:=r.all fun x=>decide (Tq x)
def atQ (g:List (List Rat)) (c k:Nat):Nat:=k+(g.drop k).findIdx fun r=>decide ((r[c]?).getD 0≠0)
def subOk (f x y:Rat):Bool:=decide (Tq f∧Tq y∧Tq (f * y)∧Tq x)
def subRow (f:Rat):List Rat→List Rat→Option (List Rat)
 | [],_=>some []
 | x :: xs,y :: ys=>if subOk f x y then (subRow f xs ys).map ((x - f * y) :: ·) else none
 | _ :: _,[]=>none
theorem subRow_spec (f:Rat):∀ (xs ys zs:List Rat),subRow f xs ys=some zs→zs.length=xs.length∧∀ (k:Nat) (x:Rat),xs[k]?=some x→∃ y,ys[k]?=some y∧subOk f x y=true∧zs[k]?=some (x - f * y)
 | [],ys,zs,h=>by
   injection h with h; subst h
   exact ⟨rfl,fun k x hx=>by simp at hx⟩
 | x :: xs,[],zs,h=>by simp [subRow] at h
 | x :: xs,y :: ys,zs,h=>by
   simp only [subRow] at h
   split at h
   ·rename_i hok
    cases e:subRow f xs ys with
    | none=>rw [e] at h; simp at h
    | some ws=>
      rw [e] at h
      simp only [Option.map_some,Option.some.injEq] at h
      subst h
      obtain ⟨h1,h2⟩:=subRow_spec f xs ys ws e
      refine ⟨by simp [h1],fun k z hz=>?_⟩
      cases k with
      | zero=>rw [List.getElem?_cons_zero] at hz; injection hz with hz; subst hz; exact ⟨y,rfl,hok,rfl⟩
      | succ k=>rw [List.getElem?_cons_succ] at hz; obtain ⟨y',a,b,c⟩:=h2 k z hz; exact ⟨y',a,b,c⟩
   ·simp at h
def elimQ (g:List (List Rat)) (c k:Nat):Nat→Option (List (List Rat))
 | 0=>some g
 | i+1=>(elimQ g c k i).bind fun g=>if i=k∨entQ g i c=0 then some g else (subRow (entQ g i c) (rowQ g i) (rowQ g k)).map fun r=>g.set i r
structure RS where
 g:List (List Rat)
 lead:List Nat
 det:Rat
def swapIf (g:List (List Rat)) (k a:Nat):List (List Rat):=if a=k then g else swp g k a
def negIf (d:Rat) (k a:Nat):Rat:=if a=k then d else -d
def stepQ (c:Nat) (s:RS):Option RS :=
 if atQ s.g c s.lead.length=s.g.length then some ⟨s.g,s.lead,0⟩ else
  if Tq s.det∧Tq (entQ (swapIf s.g s.lead.length (atQ s.g c s.lead.length)) s.lead.length c)∧tqRow (rowQ (swapIf s.g s.lead.length (atQ s.g c s.lead.length)) s.lead.length)=true then
   (elimQ ((swapIf s.g s.lead.length (atQ s.g c s.lead.length)).set s.lead.length ((rowQ (swapIf s.g s.lead.length (atQ s.g c s.lead.length)) s.lead.length).map (· / entQ (swapIf s.g s.lead.length (atQ s.g c s.lead.length)) s.lead.length c))) c s.lead.length s.g.length).map
    fun g3=>⟨g3,s.lead ++ [c],negIf s.det s.lead.length (atQ s.g c s.lead.length) * entQ (swapIf s.g s.lead.length (atQ s.g c s.lead.length)) s.lead.length c⟩
  else none
def redTo (g:List (List Rat)):Nat→Option RS
 | 0=>some ⟨g,[],1⟩
 | c+1=>(redTo g c).bind (stepQ c)
example:(redTo [[2,1],[4,3]] 2).map (fun s=>(s.g,s.lead,s.det))=some ([[1,0],[0,1]],[0,1],2):=by decide +kernel
def RectQ (n:Nat) (g:List (List Rat)):Prop:=∀ r,r ∈ g→r.length=n
theorem RectQ.row {n:Nat} {g:List (List Rat)} (h:RectQ n g) {i:Nat} (hi:i < g.length):(g[i]).length=n:=h _ (List.getElem_mem hi)
theorem RectQ.set {n:Nat} {g:List (List Rat)} (h:RectQ n g) {i:Nat} {r:List Rat} (hr:r.length=n):RectQ n (g.set i r):=fun x hx=>by
 rcases List.mem_or_eq_of_mem_set hx with h1 | h1
 ·exact h x h1
 ·rw [h1]; exact hr
theorem rowQ_eq {g:List (List Rat)} {i:Nat} (hi:i < g.length):rowQ g i=g[i]:=by unfold rowQ; rw [List.getElem?_eq_getElem hi]; rfl
theorem entQ_at {g:List (List Rat)} {n i c:Nat} (h:RectQ n g) (hi:i < g.length) (hc:c < n):(g[i])[c]?=some (entQ g i c):=by
 unfold entQ; rw [rowQ_eq hi]
 have:c < (g[i]).length:=by rw [h.row hi]; exact hc
 rw [List.getElem?_eq_getElem this]; rfl
theorem swapIf_rect {n k a:Nat} {g:List (List Rat)} (h:RectQ n g):RectQ n (swapIf g k a):=by
 unfold swapIf; split
 ·exact h
 ·exact fun r hr=>h r (swp_mem hr)
theorem swapIf_len (g:List (List Rat)) (k a:Nat):(swapIf g k a).length=g.length:=by
 unfold swapIf; split
 ·rfl
 ·exact swp_len _ _ _
theorem elimQ_keeps {g:List (List Rat)} {c k n:Nat} (hr:RectQ n g):∀ (t:Nat) (g':List (List Rat)),elimQ g c k t=some g'→t≤g.length→RectQ n g'∧g'.length=g.length
 | 0,g',h,_=>by injection h with h; subst h; exact ⟨hr,rfl⟩
 | t+1,g',h,hl=>by
   rw [elimQ] at h
   obtain ⟨g1,h1,h2⟩:=Option.bind_eq_some_iff.1 h
   obtain ⟨a,b⟩:=elimQ_keeps hr t g1 h1 (by omega)
   split at h2
   ·injection h2 with h2; subst h2; exact ⟨a,b⟩
   ·obtain ⟨r,h3,h4⟩:=Option.map_eq_some_iff.1 h2
    subst h4
    have:=(subRow_spec _ _ _ _ h3).1
    exact ⟨a.set (by rw [this,rowQ_eq (by omega)]; exact a.row (by omega)),by rw [List.length_set]; exact b⟩
theorem elimQ_mono {g:List (List Rat)} {c k:Nat}:∀ (t T:Nat) (g':List (List Rat)),elimQ g c k T=some g'→t≤T→∃ g1,elimQ g c k t=some g1
 | t,0,g',h,ht=>by
   have e:t=0:=by omega
   subst e
   exact ⟨g',h⟩
 | t,T+1,g',h,ht=>by
   by_cases e:t=T+1
   ·subst e; exact ⟨g',h⟩
   ·rw [elimQ] at h
    obtain ⟨g1,h1,-⟩:=Option.bind_eq_some_iff.1 h
    exact elimQ_mono t T g1 h1 (by omega)
theorem atQ_le (g:List (List Rat)) (c k:Nat) (h:k≤g.length):k≤atQ g c k∧atQ g c k≤g.length:=by
 unfold atQ
 have:=List.findIdx_le_length (p:=fun r:List Rat=>decide ((r[c]?).getD 0≠0)) (xs:=g.drop k)
 rw [List.length_drop] at this
 omega
theorem atQ_zero {g:List (List Rat)} {c i:Nat} (hi:i < g.length) (h:entQ g i c=0):atQ g c (i+1)=atQ g c i:=by
 have e:g.drop i=g[i] :: g.drop (i+1):=(List.drop_eq_getElem_cons hi)
 unfold atQ
 rw [e,List.findIdx_cons]
 have:decide (((g[i])[c]?).getD 0≠0)=false:=by
  rw [decide_eq_false_iff_not,Decidable.not_not]
  unfold entQ at h
  rw [rowQ_eq hi] at h
  exact h
 rw [this]
 simp only [cond_false]
 omega
theorem atQ_here {g:List (List Rat)} {c i:Nat} (hi:i < g.length) (h:entQ g i c≠0):atQ g c i=i:=by
 have e:g.drop i=g[i] :: g.drop (i+1):=(List.drop_eq_getElem_cons hi)
 unfold atQ
 rw [e,List.findIdx_cons]
 have:decide (((g[i])[c]?).getD 0≠0)=true:=by
  rw [decide_eq_true_iff]
  unfold entQ at h
  rw [rowQ_eq hi] at h
  exact h
 rw [this]
 rfl
theorem atQ_end {g:List (List Rat)} {c:Nat}:atQ g c g.length=g.length:=by
 unfold atQ
 rw [List.drop_length]
 rfl
section
variable {P:Program} {ops:Array Oper} {Q:Exit→Act→World→Prop} {md:Region.Mode} {S:World→Prop} {n:Nat}
def wpAnyT (P:Program) (md:Region.Mode) (ops:Array Oper) (Q:Exit→Act→World→Prop) (S:World→Prop) (n:Nat):Nat→Array Bool→Act→World→Prop
 | 0,listed,a,w=>Region.ready md ops listed=[]∧Q .normal a w
 | fuel+1,listed,a,w=>
   (Region.ready md ops listed=[]→Q .normal a w) ∧
   ∀ i ∈ Region.ready md ops listed,wpOp P ops Q i (fun a' w'=>(i≠n→S w')∧wpAnyT P md ops Q S n fuel (listed.setIfInBounds i true) a' w') a w
theorem wpAny_of_T:∀ (fuel:Nat) (listed:Array Bool) (a:Act) (w:World),wpAnyT P md ops Q S n fuel listed a w→wpAny P md ops Q fuel listed a w
 | 0,_,_,_,h=>h
 | fuel+1,_,_,_,h=>⟨h.1,fun i hi=>wpOp_mono (fun a' w' h'=>wpAny_of_T fuel _ a' w' h'.2) (h.2 i hi)⟩
def lastB (md:Region.Mode) (ops:Array Oper) (n:Nat):Bool:=(List.range ops.size).all fun i=>decide (i=n) || Region.waitsFor md ops n i
theorem last_no {listed:Array Bool} {i:Nat} (hl:lastB md ops n=true) (hi:i < ops.size) (hin:i≠n) (hun:listed.getD i true=false):n ∉ Region.ready md ops listed:=fun hr=>by
 have h1:=List.all_eq_true.1 hl i (List.mem_range.2 hi)
 simp only [Bool.or_eq_true,decide_eq_true_eq] at h1
 rcases h1 with h1 | h1
 ·exact hin h1
 ·obtain ⟨o',ho',e,he,hb,hon⟩:=Region.waitsFor_spec h1
  obtain ⟨_,ot,hot,hall⟩:=mem_ready.1 hr
  have:o'=ot:=Option.some.inj (ho'.symm.trans hot)
  subst this
  have h2:=hall e he hb
  rw [hon,getD_both hun] at h2
  cases h2
theorem wpAnyT_first {i:Nat} {oi:Oper} {v:Value} (hi:ops[i]?=some oi) (hl:lastB md ops n=true) (hin:i≠n) (hsel:∀ (j:Nat) (o:Oper) cs b,ops[j]?=some o→o.op≠.select cs b)
 (hQ:∀ c a w,Q (.panic c) (a.put oi.dst v) w→Q (.panic c) a w) :
 ∀ (fuel:Nat) (listed:Array Bool) (a:Act) (w:World),
   (∀ j oj,ops[j]?=some oj→j≠i→listed.getD j true=false→(∀ e ∈ oj.after,Region.binds md e=true→e.on≠i)→oi.apart ops oj=true) →
   i ∈ Region.ready md ops listed→YieldsIf P ops S oi v a→S w →
   wpAnyT P md ops Q S n fuel (listed.setIfInBounds i true) (a.put oi.dst v) w→wpAnyT P md ops Q S n (fuel+1) listed a w:=by
 have hisz:i < ops.size:=(Array.getElem?_eq_some_iff.1 hi).1
 intro fuel
 induction fuel with
 | zero=>
   intro listed a w _ hr hy hS H
   refine ⟨fun h=>(by rw [h] at hr; cases hr),fun j hj=>?_⟩
   by_cases hji:j=i
   ·subst hji; exact hy.wpOp hi hS ⟨fun _=>hS,H⟩
   ·have:=ready_mono hj hji
    rw [H.1] at this
    cases this
 | succ fuel ih=>
   intro listed a w hfree hr hy hS H
   refine ⟨fun h=>(by rw [h] at hr; cases hr),fun j hj=>?_⟩
   by_cases hji:j=i
   ·subst hji; exact hy.wpOp hi hS ⟨fun _=>hS,H⟩
   ·have h1:=H.2 j (ready_mono hj hji)
    have hjn:j≠n:=fun e=>last_no hl hisz hin (mem_ready.1 hr).1 (e ▸ hj)
    obtain ⟨hjun,oj,hoj,hall⟩:=mem_ready.1 hj
    have hnot:∀ e ∈ oj.after,Region.binds md e=true→e.on≠i:=fun e he hb heq=>by
     have h1:=hall e he hb
     have h0:=(mem_ready.1 hr).1
     rw [heq,getD_both h0] at h1
     cases h1
    have h2:=wpOp_putIf hoj (hfree j oj hoj hji hjun hnot) (fun cs b=>hsel i oi cs b hi) (fun cs b=>hsel j oj cs b hoj) hQ hy h1
    have hfree':∀ k ok,ops[k]?=some ok→k≠i→(listed.setIfInBounds j true).getD k true=false →
     (∀ e ∈ ok.after,Region.binds md e=true→e.on≠i)→oi.apart ops ok=true:=fun k ok hk hki hun hno=>by
     refine hfree k ok hk hki ?_ hno
     by_cases hjk:j=k
     ·subst hjk; exact hjun
     ·rw [getD_set_ne true hjk] at hun; exact hun
    refine wpOp_mono (fun a' w' h3=>⟨fun _=>h3.2.1 hjn,ih (listed.setIfInBounds j true) a' w' hfree' (ready_mono hr (Ne.symm hji)) h3.1 (h3.2.1 hjn) ?_⟩) h2
    rw [Array.setIfInBounds_comm _ _ hji]
    exact h3.2.2
theorem wpAnyT_take {i:Nat} {oi:Oper} {v:Value} {fuel:Nat} {listed:Array Bool} {a:Act} {w:World} (hi:ops[i]?=some oi) (hl:lastB md ops n=true) (hin:i≠n)
 (hs:Region.noSelect ops=true) (hf:Region.free md ops listed i=true) (hr:(Region.ready md ops listed).contains i=true)
 (hQ:∀ c a w,Q (.panic c) (a.put oi.dst v) w→Q (.panic c) a w) (hy:YieldsIf P ops S oi v a) (hS:S w)
 (h:wpAnyT P md ops Q S n fuel (listed.setIfInBounds i true) (a.put oi.dst v) w):wpAnyT P md ops Q S n (fuel+1) listed a w :=
 wpAnyT_first hi hl hin (Region.noSelect_spec hs) hQ fuel listed a w (Region.free_spec hi hf) (by simpa using hr) hy hS h
def AllReadyT (P:Program) (md:Region.Mode) (ops:Array Oper) (Q:Exit→Act→World→Prop) (S:World→Prop) (n fuel:Nat) (listed:Array Bool) (a:Act) (w:World) (rs:List Nat):Prop :=
 ∀ i ∈ rs,wpOp P ops Q i (fun a' w'=>(i≠n→S w')∧wpAnyT P md ops Q S n fuel (listed.setIfInBounds i true) a' w') a w
theorem AllReadyT.nil {fuel:Nat} {listed:Array Bool} {a:Act} {w:World}:AllReadyT P md ops Q S n fuel listed a w []:=fun _ h=>by cases h
theorem AllReadyT.cons {fuel:Nat} {listed:Array Bool} {a:Act} {w:World} {i:Nat} {o:Oper} {rs:List Nat} (ho:ops[i]?=some o) (hin:i≠n)
 (h:∀ K':Act→World→Prop,Shut (∀ a w,S w→(S w→wpAnyT P md ops Q S n fuel (listed.setIfInBounds i true) a w)→K' a w)→if Region.wanted o (yielded ops a.tmps)=true then Oper.wp P o a w K' Q else K' (a.put o.dst undef) w)
 (hs:AllReadyT P md ops Q S n fuel listed a w rs):AllReadyT P md ops Q S n fuel listed a w (i :: rs):=fun j hj=>by
 rcases List.mem_cons.1 hj with rfl | hj
 ·exact wpOp_step ho (fun K' hK=>h K' (fun a w hS hW=>hK a w ⟨fun _=>hS,hW hS⟩))
 ·exact hs j hj
theorem AllReadyT.last {fuel:Nat} {listed:Array Bool} {a:Act} {w:World} {o:Oper} (ho:ops[n]?=some o) (hd:Region.ready md ops (listed.setIfInBounds n true)=[])
 (h:∀ K':Act→World→Prop,Shut (∀ a w,Q .normal a w→K' a w)→if Region.wanted o (yielded ops a.tmps)=true then Oper.wp P o a w K' Q else K' (a.put o.dst undef) w):AllReadyT P md ops Q S n fuel listed a w [n]:=fun j hj=>by
 rcases List.mem_cons.1 hj with rfl | hj
 ·refine wpOp_step ho (fun K' hK=>h K' (fun a w hq=>hK a w ⟨fun h=>absurd rfl h, ?_⟩))
  cases fuel with
  | zero=>exact ⟨hd,hq⟩
  | succ f=>exact ⟨fun _=>hq,by rw [hd]; intro i hi; cases hi⟩
 ·cases hj
theorem wpAnyT_ready {rs:List Nat} {fuel:Nat} {listed:Array Bool} {a:Act} {w:World} (hr:Region.ready md ops listed=rs) (hne:rs≠[])
 (h:AllReadyT P md ops Q S n fuel listed a w rs):wpAnyT P md ops Q S n (fuel+1) listed a w :=
 ⟨fun h0=>absurd (hr ▸ h0) hne,hr ▸ h⟩
theorem wp_region_T {id:Nat} {a:Act} {w:World} (n:Nat) (hm:P.follows .mixedOrders=true) (hS:S w.drew)
 (h:S w.drew→wpAnyT P .any ops Q S n ops.size (Array.replicate ops.size false) a w.drew):(Code.region id ops true).wp P Q a w :=
 wp_region_any hm (wpAny_of_T _ _ _ _ (h hS))
end
section
variable {P:Program} {ops:Array Oper} {Q:Exit→Act→World→Prop} {md:Region.Mode} {S:World→Prop} {n:Nat}
def wpAnyU (P:Program) (md:Region.Mode) (ops:Array Oper) (Q:Exit→Act→World→Prop) (S:World→Prop) (n:Nat):Nat→Array Bool→Act→World→Prop
 | 0,listed,a,w=>Region.ready md ops listed=[]∧Q .normal a w
 | fuel+1,listed,a,w=>
   (Region.ready md ops listed=[]→Q .normal a w) ∧
   ∀ i ∈ Region.ready md ops listed,wpOp P ops Q i (fun a' w'=>((listed.setIfInBounds i true).getD n true=false→S w')∧wpAnyU P md ops Q S n fuel (listed.setIfInBounds i true) a' w') a w
theorem wpAny_of_U:∀ (fuel:Nat) (listed:Array Bool) (a:Act) (w:World),wpAnyU P md ops Q S n fuel listed a w→wpAny P md ops Q fuel listed a w
 | 0,_,_,_,h=>h
 | fuel+1,_,_,_,h=>⟨h.1,fun i hi=>wpOp_mono (fun a' w' h'=>wpAny_of_U fuel _ a' w' h'.2) (h.2 i hi)⟩
theorem waits_no {listed:Array Bool} {i:Nat} (hw:Region.waitsFor md ops n i=true) (hun:listed.getD i true=false):n ∉ Region.ready md ops listed:=fun hr=>by
 obtain ⟨o',ho',e,he,hb,hon⟩:=Region.waitsFor_spec hw
 obtain ⟨_,ot,hot,hall⟩:=mem_ready.1 hr
 have:o'=ot:=Option.some.inj (ho'.symm.trans hot)
 subst this
 have h2:=hall e he hb
 rw [hon,getD_both hun] at h2
 cases h2
theorem wpAnyU_first {i:Nat} {oi:Oper} {v:Value} (hi:ops[i]?=some oi) (hw:Region.waitsFor md ops n i=true) (hin:i≠n) (hsel:∀ (j:Nat) (o:Oper) cs b,ops[j]?=some o→o.op≠.select cs b)
 (hQ:∀ c a w,Q (.panic c) (a.put oi.dst v) w→Q (.panic c) a w) :
 ∀ (fuel:Nat) (listed:Array Bool) (a:Act) (w:World),
   (∀ j oj,ops[j]?=some oj→j≠i→listed.getD j true=false→(∀ e ∈ oj.after,Region.binds md e=true→e.on≠i)→oi.apart ops oj=true) →
   i ∈ Region.ready md ops listed→YieldsIf P ops S oi v a→S w→listed.getD n true=false →
   wpAnyU P md ops Q S n fuel (listed.setIfInBounds i true) (a.put oi.dst v) w→wpAnyU P md ops Q S n (fuel+1) listed a w:=by
 have hisz:i < ops.size:=(Array.getElem?_eq_some_iff.1 hi).1
 intro fuel
 induction fuel with
 | zero=>
   intro listed a w _ hr hy hS hnu H
   refine ⟨fun h=>(by rw [h] at hr; cases hr),fun j hj=>?_⟩
   by_cases hji:j=i
   ·subst hji; exact hy.wpOp hi hS ⟨fun _=>hS,H⟩
   ·have:=ready_mono hj hji
    rw [H.1] at this
    cases this
 | succ fuel ih=>
   intro listed a w hfree hr hy hS hnu H
   refine ⟨fun h=>(by rw [h] at hr; cases hr),fun j hj=>?_⟩
   by_cases hji:j=i
   ·subst hji; exact hy.wpOp hi hS ⟨fun _=>hS,H⟩
   ·have h1:=H.2 j (ready_mono hj hji)
    have hjn:j≠n:=fun e=>waits_no hw (mem_ready.1 hr).1 (e ▸ hj)
    obtain ⟨hjun,oj,hoj,hall⟩:=mem_ready.1 hj
    have hnot:∀ e ∈ oj.after,Region.binds md e=true→e.on≠i:=fun e he hb heq=>by
     have h1:=hall e he hb
     have h0:=(mem_ready.1 hr).1
     rw [heq,getD_both h0] at h1
     cases h1
    have h2:=wpOp_putIf hoj (hfree j oj hoj hji hjun hnot) (fun cs b=>hsel i oi cs b hi) (fun cs b=>hsel j oj cs b hoj) hQ hy h1
    have hfree':∀ k ok,ops[k]?=some ok→k≠i→(listed.setIfInBounds j true).getD k true=false →
     (∀ e ∈ ok.after,Region.binds md e=true→e.on≠i)→oi.apart ops ok=true:=fun k ok hk hki hun hno=>by
     refine hfree k ok hk hki ?_ hno
     by_cases hjk:j=k
     ·subst hjk; exact hjun
     ·rw [getD_set_ne true hjk] at hun; exact hun
    have hnj:(listed.setIfInBounds j true).getD n true=false:=by rw [getD_set_ne true hjn]; exact hnu
    have hnij:((listed.setIfInBounds i true).setIfInBounds j true).getD n true=false:=by rw [getD_set_ne true hjn,getD_set_ne true hin]; exact hnu
    refine wpOp_mono (fun a' w' h3=>⟨fun _=>h3.2.1 hnij,ih (listed.setIfInBounds j true) a' w' hfree' (ready_mono hr (Ne.symm hji)) h3.1 (h3.2.1 hnij) hnj ?_⟩) h2
    rw [Array.setIfInBounds_comm _ _ hji]
    exact h3.2.2
theorem wpAnyU_firstT {i:Nat} {oi:Oper} {v:Value} (hi:ops[i]?=some oi) (hin:i≠n) (hsel:∀ (j:Nat) (o:Oper) cs b,ops[j]?=some o→o.op≠.select cs b)
 (hQ:∀ c a w,Q (.panic c) (a.put oi.dst v) w→Q (.panic c) a w) :
 ∀ (fuel:Nat) (listed:Array Bool) (a:Act) (w:World),
   (∀ j oj,ops[j]?=some oj→j≠i→listed.getD j true=false→(∀ e ∈ oj.after,Region.binds md e=true→e.on≠i)→oi.apart ops oj=true) →
   i ∈ Region.ready md ops listed→YieldsIf P ops (fun _=>True) oi v a→(listed.getD n true=false→S w) →
   wpAnyU P md ops Q S n fuel (listed.setIfInBounds i true) (a.put oi.dst v) w→wpAnyU P md ops Q S n (fuel+1) listed a w:=by
 have hisz:i < ops.size:=(Array.getElem?_eq_some_iff.1 hi).1
 intro fuel
 induction fuel with
 | zero=>
   intro listed a w _ hr hy hS H
   refine ⟨fun h=>(by rw [h] at hr; cases hr),fun j hj=>?_⟩
   by_cases hji:j=i
   ·subst hji; exact hy.wpOp hi trivial ⟨fun h=>hS (by rw [getD_set_ne true hin] at h; exact h),H⟩
   ·have:=ready_mono hj hji
    rw [H.1] at this
    cases this
 | succ fuel ih=>
   intro listed a w hfree hr hy hS H
   refine ⟨fun h=>(by rw [h] at hr; cases hr),fun j hj=>?_⟩
   by_cases hji:j=i
   ·subst hji; exact hy.wpOp hi trivial ⟨fun h=>hS (by rw [getD_set_ne true hin] at h; exact h),H⟩
   ·have h1:=H.2 j (ready_mono hj hji)
    obtain ⟨hjun,oj,hoj,hall⟩:=mem_ready.1 hj
    have hnot:∀ e ∈ oj.after,Region.binds md e=true→e.on≠i:=fun e he hb heq=>by
     have h1:=hall e he hb
     have h0:=(mem_ready.1 hr).1
     rw [heq,getD_both h0] at h1
     cases h1
    have h2:=wpOp_putIf hoj (hfree j oj hoj hji hjun hnot) (fun cs b=>hsel i oi cs b hi) (fun cs b=>hsel j oj cs b hoj) hQ hy h1
    have hfree':∀ k ok,ops[k]?=some ok→k≠i→(listed.setIfInBounds j true).getD k true=false →
     (∀ e ∈ ok.after,Region.binds md e=true→e.on≠i)→oi.apart ops ok=true:=fun k ok hk hki hun hno=>by
     refine hfree k ok hk hki ?_ hno
     by_cases hjk:j=k
     ·subst hjk; exact hjun
     ·rw [getD_set_ne true hjk] at hun; exact hun
    have hno:(listed.setIfInBounds j true).getD n true=false→((listed.setIfInBounds i true).setIfInBounds j true).getD n true=false:=fun h=>by
     rw [Array.setIfInBounds_comm _ _ (Ne.symm hji),getD_set_ne true hin]; exact h
    refine wpOp_mono (fun a' w' h3=>⟨fun h=>h3.2.1 (hno h),ih (listed.setIfInBounds j true) a' w' hfree' (ready_mono hr (Ne.symm hji)) h3.1 (fun h=>h3.2.1 (hno h)) ?_⟩) h2
    rw [Array.setIfInBounds_comm _ _ hji]
    exact h3.2.2
theorem wpAnyU_take {i:Nat} {oi:Oper} {v:Value} {fuel:Nat} {listed:Array Bool} {a:Act} {w:World} (hi:ops[i]?=some oi) (hw:Region.waitsFor md ops n i=true) (hin:i≠n)
 (hs:Region.noSelect ops=true) (hf:Region.free md ops listed i=true) (hr:(Region.ready md ops listed).contains i=true) (hnu:listed.getD n true=false)
 (hQ:∀ c a w,Q (.panic c) (a.put oi.dst v) w→Q (.panic c) a w) (hy:YieldsIf P ops S oi v a) (hS:S w)
 (h:wpAnyU P md ops Q S n fuel (listed.setIfInBounds i true) (a.put oi.dst v) w):wpAnyU P md ops Q S n (fuel+1) listed a w :=
 wpAnyU_first hi hw hin (Region.noSelect_spec hs) hQ fuel listed a w (Region.free_spec hi hf) (by simpa using hr) hy hS hnu h
theorem lsT {α:Type} (l:List α) (i:Nat) (a:α):l.toArray.setIfInBounds i a=(l.set i a).toArray:=List.setIfInBounds_toArray ..
theorem ls0 {α:Type} (x a:α) (l:List α):(x :: l).set 0 a=a :: l:=rfl
theorem lsS {α:Type} (x a:α) (l:List α) (n:Nat):(x :: l).set (n+1) a=x :: l.set n a:=rfl
def uB (md:Region.Mode) (ops:Array Oper) (i n:Nat) (listed:Array Bool):Bool:=Region.waitsFor md ops n i && !(i == n) && Region.noSelect ops && Region.free md ops listed i && (Region.ready md ops listed).contains i && !listed.getD n true
theorem uT (i:Nat) {oi:Oper} {v:Value} {fuel:Nat} {listed:Array Bool} {a:Act} {w:World} (hi:ops[i]?=some oi) (hb:uB md ops i n listed=true) (hy:YieldsIf P ops S oi v a) (hS:S w)
 (h:wpAnyU P md ops Q S n fuel (listed.setIfInBounds i true) (a.put oi.dst v) w) (hQ:∀ c a w,Q (.panic c) (a.put oi.dst v) w→Q (.panic c) a w:=by exact fun _ _ _ h=>h):wpAnyU P md ops Q S n (fuel+1) listed a w:=by
 unfold uB at hb
 simp only [Bool.and_eq_true,Bool.not_eq_true',beq_eq_false_iff_ne] at hb
 obtain ⟨⟨⟨⟨⟨h1,h2⟩,h3⟩,h4⟩,h5⟩,h6⟩:=hb
 exact wpAnyU_take hi h1 h2 h3 h4 h5 h6 hQ hy hS h
theorem uK (i:Nat) {oi:Oper} {v:Value} {fuel:Nat} {listed:Array Bool} {a:Act} {w:World} (h:wpAnyU P md ops Q S n fuel (listed.setIfInBounds i true) (a.put oi.dst v) w) (hi:ops[i]?=some oi:=by rfl) (hb:uB md ops i n listed=true:=by kernel_rfl) (hw:Region.wanted oi (yielded ops a.tmps)=true:=by rfl)
 (hy:∀ w,S w→(execOp a.eval oi).run P w=.ok (.value v) w:=by (intro w hSw; (try dsimp only at hSw); go_simp; try (with_reducible rfl))) (hS:S w:=by assumption) (hQ:∀ c a w,Q (.panic c) (a.put oi.dst v) w→Q (.panic c) a w:=by exact fun _ _ _ h=>h):wpAnyU P md ops Q S n (fuel+1) listed a w :=
 uT i hi hb (.inl ⟨hw,hy⟩) hS h hQ
theorem uM (i j:Nat) {oi:Oper} {v:Value} {fuel:Nat} {listed:Array Bool} {a:Act} {w:World} (h:wpAnyU P md ops Q S n fuel (listed.setIfInBounds i true) { a with tmps:=a.tmps.setIfInBounds j v } w) (hi:ops[i]?=some oi:=by rfl) (hd:oi.dst=some j:=by rfl) (hb:uB md ops i n listed=true:=by kernel_rfl) (hw:Region.wanted oi (yielded ops a.tmps)=true:=by rfl)
 (hy:∀ w,S w→(execOp a.eval oi).run P w=.ok (.value v) w:=by (intro w hSw; (try dsimp only at hSw); go_simp; try (with_reducible rfl))) (hS:S w:=by assumption) (hQ:∀ c a w,Q (.panic c) (a.put oi.dst v) w→Q (.panic c) a w:=by exact fun _ _ _ h=>h):wpAnyU P md ops Q S n (fuel+1) listed a w :=
 uT i hi hb (.inl ⟨hw,hy⟩) hS (by rw [hd]; exact h) hQ
theorem wpAnyU_takeT {i:Nat} {oi:Oper} {v:Value} {fuel:Nat} {listed:Array Bool} {a:Act} {w:World} (hi:ops[i]?=some oi) (hin:i≠n)
 (hs:Region.noSelect ops=true) (hf:Region.free md ops listed i=true) (hr:(Region.ready md ops listed).contains i=true)
 (hQ:∀ c a w,Q (.panic c) (a.put oi.dst v) w→Q (.panic c) a w) (hy:YieldsIf P ops (fun _=>True) oi v a) (hS:S w)
 (h:wpAnyU P md ops Q S n fuel (listed.setIfInBounds i true) (a.put oi.dst v) w):wpAnyU P md ops Q S n (fuel+1) listed a w :=
 wpAnyU_firstT hi hin (Region.noSelect_spec hs) hQ fuel listed a w (Region.free_spec hi hf) (by simpa using hr) hy (fun _=>hS) h
def AllReadyU (P:Program) (md:Region.Mode) (ops:Array Oper) (Q:Exit→Act→World→Prop) (S:World→Prop) (n fuel:Nat) (listed:Array Bool) (a:Act) (w:World) (rs:List Nat):Prop :=
 ∀ i ∈ rs,wpOp P ops Q i (fun a' w'=>((listed.setIfInBounds i true).getD n true=false→S w')∧wpAnyU P md ops Q S n fuel (listed.setIfInBounds i true) a' w') a w
theorem AllReadyU.nil {fuel:Nat} {listed:Array Bool} {a:Act} {w:World}:AllReadyU P md ops Q S n fuel listed a w []:=fun _ h=>by cases h
theorem AllReadyU.cons {fuel:Nat} {listed:Array Bool} {a:Act} {w:World} {i:Nat} {o:Oper} {rs:List Nat} (ho:ops[i]?=some o)
 (h:∀ K':Act→World→Prop,Shut (∀ a w,S w→(S w→wpAnyU P md ops Q S n fuel (listed.setIfInBounds i true) a w)→K' a w)→if Region.wanted o (yielded ops a.tmps)=true then Oper.wp P o a w K' Q else K' (a.put o.dst undef) w)
 (hs:AllReadyU P md ops Q S n fuel listed a w rs):AllReadyU P md ops Q S n fuel listed a w (i :: rs):=fun j hj=>by
 rcases List.mem_cons.1 hj with rfl | hj
 ·exact wpOp_step ho (fun K' hK=>h K' (fun a w hS hW=>hK a w ⟨fun _=>hS,hW hS⟩))
 ·exact hs j hj
theorem AllReadyU.last {fuel:Nat} {listed:Array Bool} {a:Act} {w:World} {o:Oper} (ho:ops[n]?=some o) (hln:(listed.setIfInBounds n true).getD n true=true) (hd:Region.ready md ops (listed.setIfInBounds n true)=[])
 (h:∀ K':Act→World→Prop,Shut (∀ a w,Q .normal a w→K' a w)→if Region.wanted o (yielded ops a.tmps)=true then Oper.wp P o a w K' Q else K' (a.put o.dst undef) w):AllReadyU P md ops Q S n fuel listed a w [n]:=fun j hj=>by
 rcases List.mem_cons.1 hj with rfl | hj
 ·refine wpOp_step ho (fun K' hK=>h K' (fun a w hq=>hK a w ⟨fun h=>(by rw [hln] at h; cases h), ?_⟩))
  cases fuel with
  | zero=>exact ⟨hd,hq⟩
  | succ f=>exact ⟨fun _=>hq,by rw [hd]; intro i hi; cases hi⟩
 ·cases hj
theorem wpAnyU_ready {rs:List Nat} {fuel:Nat} {listed:Array Bool} {a:Act} {w:World} (hr:Region.ready md ops listed=rs) (hne:rs≠[])
 (h:AllReadyU P md ops Q S n fuel listed a w rs):wpAnyU P md ops Q S n (fuel+1) listed a w :=
 ⟨fun h0=>absurd (hr ▸ h0) hne,hr ▸ h⟩
theorem uC (i:Nat) {o:Oper} {fuel:Nat} {listed:Array Bool} {a:Act} {w:World} (h:∀ K':Act→World→Prop,Shut (∀ a w,S w→(S w→wpAnyU P md ops Q S n fuel (listed.setIfInBounds i true) a w)→K' a w)→if Region.wanted o (yielded ops a.tmps)=true then Oper.wp P o a w K' Q else K' (a.put o.dst undef) w)
 (hr:Region.ready md ops listed=[i]:=by kernel_rfl) (ho:ops[i]?=some o:=by rfl):wpAnyU P md ops Q S n (fuel+1) listed a w :=
 wpAnyU_ready hr (by simp) (AllReadyU.cons ho h AllReadyU.nil)
theorem uL (n:Nat) {o:Oper} {fuel:Nat} {listed:Array Bool} {a:Act} {w:World} (h:∀ K':Act→World→Prop,Shut (∀ a w,Q .normal a w→K' a w)→if Region.wanted o (yielded ops a.tmps)=true then Oper.wp P o a w K' Q else K' (a.put o.dst undef) w)
 (hr:Region.ready md ops listed=[n]:=by kernel_rfl) (ho:ops[n]?=some o:=by rfl) (hln:(listed.setIfInBounds n true).getD n true=true:=by kernel_rfl) (hd:Region.ready md ops (listed.setIfInBounds n true)=[]:=by kernel_rfl):wpAnyU P md ops Q S n (fuel+1) listed a w :=
 wpAnyU_ready hr (by simp) (AllReadyU.last ho hln hd h)
theorem uD (i:Nat) {o:Oper} {fuel:Nat} {listed:Array Bool} {a:Act} {w:World} (h:∀ K':Act→World→Prop,Shut (∀ a w,wpAnyU P md ops Q S n fuel (listed.setIfInBounds i true) a w→K' a w)→if Region.wanted o (yielded ops a.tmps)=true then Oper.wp P o a w K' Q else K' (a.put o.dst undef) w)
 (hr:Region.ready md ops listed=[i]:=by kernel_rfl) (ho:ops[i]?=some o:=by rfl) (hln:(listed.setIfInBounds i true).getD n true=true:=by kernel_rfl):wpAnyU P md ops Q S n (fuel+1) listed a w :=
 ⟨fun h0=>(by rw [hr] at h0; cases h0),fun j hj=>by
  rw [hr] at hj
  rcases List.mem_cons.1 hj with rfl | hj
  ·exact wpOp_step ho (fun K' hK=>h K' (fun a w hW=>hK a w ⟨fun h=>(by rw [hln] at h; cases h),hW⟩))
  ·cases hj⟩
theorem uE {fuel:Nat} {listed:Array Bool} {a:Act} {w:World} (h:Q .normal a w) (hr:Region.ready md ops listed=[]:=by kernel_rfl):wpAnyU P md ops Q S n fuel listed a w:=by
 cases fuel with
 | zero=>exact ⟨hr,h⟩
 | succ f=>exact ⟨fun _=>h,by rw [hr]; intro i hi; cases hi⟩
theorem hK (i:Nat) {oi:Oper} {v:Value} {fuel:Nat} {listed:Array Bool} {a:Act} {w:World} (h:wpAnyH P md ops Q S fuel (listed.setIfInBounds i true) (a.put oi.dst v) w) (hi:ops[i]?=some oi:=by rfl) (hs:Region.noSelect ops=true:=by kernel_rfl) (hf:Region.free md ops listed i=true:=by kernel_rfl) (hr:(Region.ready md ops listed).contains i=true:=by kernel_rfl)
 (hw:Region.wanted oi (yielded ops a.tmps)=true:=by rfl) (hy:∀ w,S w→(execOp a.eval oi).run P w=.ok (.value v) w:=by (intro w hSw; (try dsimp only at hSw); go_simp; try (with_reducible rfl))) (hS:S w:=by assumption) (hQ:∀ c a w,Q (.panic c) (a.put oi.dst v) w→Q (.panic c) a w:=by exact fun _ _ _ h=>h):wpAnyH P md ops Q S (fuel+1) listed a w :=
 wpAnyH_take hi hs hf hr hQ (.inl ⟨hw,hy⟩) hS h
theorem hN (i:Nat) {oi:Oper} {fuel:Nat} {listed:Array Bool} {a:Act} {w:World} (h:wpAnyH P md ops Q S fuel (listed.setIfInBounds i true) (a.put oi.dst undef) w) (hi:ops[i]?=some oi:=by rfl) (hs:Region.noSelect ops=true:=by kernel_rfl) (hf:Region.free md ops listed i=true:=by kernel_rfl) (hr:(Region.ready md ops listed).contains i=true:=by kernel_rfl)
 (hw:Region.wanted oi (yielded ops a.tmps)=false:=by rfl) (hS:S w:=by assumption) (hQ:∀ c a w,Q (.panic c) (a.put oi.dst undef) w→Q (.panic c) a w:=by exact fun _ _ _ h=>h):wpAnyH P md ops Q S (fuel+1) listed a w :=
 wpAnyH_take hi hs hf hr hQ (.inr ⟨hw,rfl⟩) hS h
theorem hC (i:Nat) {o:Oper} {fuel:Nat} {listed:Array Bool} {a:Act} {w:World} (h:∀ K':Act→World→Prop,Shut (∀ a w,S w→(S w→wpAnyH P md ops Q S fuel (listed.setIfInBounds i true) a w)→K' a w)→if Region.wanted o (yielded ops a.tmps)=true then Oper.wp P o a w K' Q else K' (a.put o.dst undef) w)
 (hr:Region.ready md ops listed=[i]:=by kernel_rfl) (ho:ops[i]?=some o:=by rfl):wpAnyH P md ops Q S (fuel+1) listed a w :=
 wpAnyH_ready hr (by simp) (AllReadyH.cons ho h AllReadyH.nil)
theorem wp_region_U {id:Nat} {a:Act} {w:World} (n:Nat) (hm:P.follows .mixedOrders=true) (hS:S w.drew)
 (h:S w.drew→wpAnyU P .any ops Q S n ops.size (Array.replicate ops.size false) a w.drew):(Code.region id ops true).wp P Q a w :=
 wp_region_any hm (wpAny_of_U _ _ _ _ (h hS))
end
section
variable {P:Program} {ops:Array Oper} {Q:Exit→Act→World→Prop} {md:Region.Mode} {S:World→Prop} {n:Nat}
def chB (md:Region.Mode) (ops:Array Oper) (n:Nat):Nat→List Nat→Bool
 | i,[]=>Region.waitsFor md ops n i
 | i,m :: C=>Region.waitsFor md ops m i && chB md ops n m C
theorem chain_no {listed:Array Bool}:∀ (C:List Nat) (i:Nat),chB md ops n i C=true→listed.getD i true=false→(∀ m,m ∈ C→listed.getD m true=false)→∀ m,m ∈ C∨m=n→m ∉ Region.ready md ops listed
 | [],i,h,hu,_,m,hm=>by
   rcases hm with hm | rfl
   ·cases hm
   ·exact waits_no h hu
 | c :: C,i,h,hu,hC,m,hm=>by
   simp only [chB,Bool.and_eq_true] at h
   rcases hm with hm | hm
   ·rcases List.mem_cons.1 hm with rfl | hm
    ·exact waits_no h.1 hu
    ·exact chain_no C c h.2 (hC c List.mem_cons_self) (fun x hx=>hC x (List.mem_cons_of_mem _ hx)) m (.inl hm)
   ·exact chain_no C c h.2 (hC c List.mem_cons_self) (fun x hx=>hC x (List.mem_cons_of_mem _ hx)) m (.inr hm)
theorem wpAnyU_firstC {i:Nat} {oi:Oper} {v:Value} (C:List Nat) (hi:ops[i]?=some oi) (hw:chB md ops n i C=true) (hin:i≠n) (hiC:i ∉ C) (hsel:∀ (j:Nat) (o:Oper) cs b,ops[j]?=some o→o.op≠.select cs b)
 (hQ:∀ c a w,Q (.panic c) (a.put oi.dst v) w→Q (.panic c) a w) :
 ∀ (fuel:Nat) (listed:Array Bool) (a:Act) (w:World),
   (∀ j oj,ops[j]?=some oj→j≠i→listed.getD j true=false→(∀ e ∈ oj.after,Region.binds md e=true→e.on≠i)→oi.apart ops oj=true) →
   i ∈ Region.ready md ops listed→YieldsIf P ops S oi v a→S w→listed.getD n true=false→(∀ m,m ∈ C→listed.getD m true=false) →
   wpAnyU P md ops Q S n fuel (listed.setIfInBounds i true) (a.put oi.dst v) w→wpAnyU P md ops Q S n (fuel+1) listed a w:=by
 have hisz:i < ops.size:=(Array.getElem?_eq_some_iff.1 hi).1
 intro fuel
 induction fuel with
 | zero=>
   intro listed a w _ hr hy hS hnu _ H
   refine ⟨fun h=>(by rw [h] at hr; cases hr),fun j hj=>?_⟩
   by_cases hji:j=i
   ·subst hji; exact hy.wpOp hi hS ⟨fun _=>hS,H⟩
   ·have:=ready_mono hj hji
    rw [H.1] at this
    cases this
 | succ fuel ih=>
   intro listed a w hfree hr hy hS hnu hC H
   refine ⟨fun h=>(by rw [h] at hr; cases hr),fun j hj=>?_⟩
   by_cases hji:j=i
   ·subst hji; exact hy.wpOp hi hS ⟨fun _=>hS,H⟩
   ·have h1:=H.2 j (ready_mono hj hji)
    have hno:=chain_no C i hw (mem_ready.1 hr).1 hC
    have hjn:j≠n:=fun e=>hno n (.inr rfl) (e ▸ hj)
    have hjC:∀ m,m ∈ C→j≠m:=fun m hm e=>hno m (.inl hm) (e ▸ hj)
    obtain ⟨hjun,oj,hoj,hall⟩:=mem_ready.1 hj
    have hnot:∀ e ∈ oj.after,Region.binds md e=true→e.on≠i:=fun e he hb heq=>by
     have h1:=hall e he hb
     have h0:=(mem_ready.1 hr).1
     rw [heq,getD_both h0] at h1
     cases h1
    have h2:=wpOp_putIf hoj (hfree j oj hoj hji hjun hnot) (fun cs b=>hsel i oi cs b hi) (fun cs b=>hsel j oj cs b hoj) hQ hy h1
    have hfree':∀ k ok,ops[k]?=some ok→k≠i→(listed.setIfInBounds j true).getD k true=false →
     (∀ e ∈ ok.after,Region.binds md e=true→e.on≠i)→oi.apart ops ok=true:=fun k ok hk hki hun hno=>by
     refine hfree k ok hk hki ?_ hno
     by_cases hjk:j=k
     ·subst hjk; exact hjun
     ·rw [getD_set_ne true hjk] at hun; exact hun
    have hnj:(listed.setIfInBounds j true).getD n true=false:=by rw [getD_set_ne true hjn]; exact hnu
    have hCj:∀ m,m ∈ C→(listed.setIfInBounds j true).getD m true=false:=fun m hm=>by rw [getD_set_ne true (hjC m hm)]; exact hC m hm
    have hnij:((listed.setIfInBounds i true).setIfInBounds j true).getD n true=false:=by rw [getD_set_ne true hjn,getD_set_ne true hin]; exact hnu
    refine wpOp_mono (fun a' w' h3=>⟨fun _=>h3.2.1 hnij,ih (listed.setIfInBounds j true) a' w' hfree' (ready_mono hr (Ne.symm hji)) h3.1 (h3.2.1 hnij) hnj hCj ?_⟩) h2
    rw [Array.setIfInBounds_comm _ _ hji]
    exact h3.2.2
def vB (md:Region.Mode) (ops:Array Oper) (i n:Nat) (C:List Nat) (listed:Array Bool):Bool:=chB md ops n i C && !(i == n) && !C.contains i && Region.noSelect ops && Region.free md ops listed i && (Region.ready md ops listed).contains i && !listed.getD n true && C.all fun m=>!listed.getD m true
theorem uV (i j:Nat) (C:List Nat) {oi:Oper} {v:Value} {fuel:Nat} {listed:Array Bool} {a:Act} {w:World} (h:wpAnyU P md ops Q S n fuel (listed.setIfInBounds i true) { a with tmps:=a.tmps.setIfInBounds j v } w) (hi:ops[i]?=some oi:=by rfl) (hd:oi.dst=some j:=by rfl) (hb:vB md ops i n C listed=true:=by kernel_rfl) (hw:Region.wanted oi (yielded ops a.tmps)=true:=by rfl)
 (hy:∀ w,S w→(execOp a.eval oi).run P w=.ok (.value v) w:=by (intro w hSw; (try dsimp only at hSw); go_simp; try (with_reducible rfl))) (hS:S w:=by assumption) (hQ:∀ c a w,Q (.panic c) (a.put oi.dst v) w→Q (.panic c) a w:=by exact fun _ _ _ h=>h):wpAnyU P md ops Q S n (fuel+1) listed a w:=by
 unfold vB at hb
 simp only [Bool.and_eq_true,Bool.not_eq_true',beq_eq_false_iff_ne,List.all_eq_true] at hb
 obtain ⟨⟨⟨⟨⟨⟨⟨h1,h2⟩,h3⟩,h4⟩,h5⟩,h6⟩,h7⟩,h8⟩:=hb
 exact wpAnyU_firstC C hi h1 h2 (by simpa using h3) (Region.noSelect_spec h4) hQ fuel listed a w (Region.free_spec hi h5) (by simpa using h6) (.inl ⟨hw,hy⟩) hS h7 h8 (by rw [hd]; exact h)
end
end Go.Proofs.YtcglmebcfeoedaaGreatDoor
