/-
  Contracts and laws for the statements of the seat, QNA.
-/
import Derived.Test.YtkjemicelmabdaaGreatDoorQE
import Derived.Test.YtkjemicelmabdaaGreatDoorQA
import Derived.Lib.AppendIntMem
import Derived.Test.YtkjemicelmabdaaGreatDoorQL

/- notation.back of any integers that ints hold. -/
namespace Go.Proofs.YtkjemicelmabdaaGreatDoor
open Go.RowKit Go.Lib
attribute [local go_sem ↓] Go.wp_at_zero Go.wp_at_succ

/-- a row, or no row -/
def BackRetA (w : World) (xs : List Int) (e : Ending) (w' : World) : Prop:=(xs.all fitB = true → BackRet w xs e w') ∧ (xs.all fitB = false → e = .returned (.tuple #[.slice none 0 0,.bool false]) ∧ Fr w w')
set_option maxRecDepth 100000 in
set_option maxHeartbeats 2000000 in
theorem NBack_any (xs : List Int) (a : Option Addr) (cap : Nat) (w : World) (hG : G w) (hx : El w sv a xs) (hl : xs.length ≤ 1000000) (hb : ∀ x,x ∈ xs → -9223372036854775808 ≤ x ∧ x ≤ 9223372036854775807) :
 Calls Tryz.prog 30 #[.slice a xs.length cap] w (BackRetA w xs):=by
 have hgn:=gN_le hG
 obtain ⟨i1,ji,jz0,jz1,jz2⟩:=info_parts infoInt
 obtain ⟨n,hn⟩ : ∃ n,n = xs.length:=⟨_,rfl⟩
 rw [← hn] at hl ⊢
 replace hn:=Lib.hid hn
 replace hx:=Lib.hid hx
 replace hb:=Lib.hid hb
 replace hG:=Lib.hid hG
 go_enter Tryz.func30,Tryz.ntmps30
 go_wp2_with fail
 have hf0 : Fr w (w.alloc (.cells #[] 3)):=(Fr.refl w).alloc _
 have hown0:=World.ownsRow_lit (base:=w.heap.size) (e:=3) (size:=1) w #[] 0 (Nat.le_refl _) (by decide) rfl
 go_loopg [4,12] n (fun k s4 s12 wr => ∃ i : Nat,s12 = .int .i64 i ∧ i + k = n ∧ Fr w wr ∧ Hid (wr.ownsRow w.heap.size 3 1 s4 i ((xs.take i).map iv)) ∧ Hid (s4 ≠ .slice none 0 0) ∧ Hid ((xs.take i).all fitB = true))
 case atStart => exact ⟨0,rfl,by omega,hf0,hown0,fun e => (by injection e with e; cases e),rfl⟩
 case round =>
  clear hf0 hown0
  obtain ⟨i,rfl,hik,hf,hown,hne,hfit⟩:=hrel
  by_cases hi : i < n
  ·have hdI : decide (i < n) = true:=decide_eq_true hi
   obtain ⟨b,o,x,rfl,hbl,hxi,hcell⟩:=(hx.out.fr hf).at (i:=i) (by rw [← hn.out]; exact hi)
   obtain ⟨x1,x2⟩:=hb.out x (List.mem_of_getElem? hxi)
   have htk:=take_snoc hxi
   have hmem : x ∈ xs:=List.mem_of_getElem? hxi
   replace hxi:=Lib.hid hxi
   have z0 : (0 : Int) ≤ (i : Int):=Int.natCast_nonneg _
   have z1 : (i : Int) < (n : Int):=by omega
   by_cases hfx : -1000000000 ≤ x ∧ x ≤ 1000000000
   ·have hsn : Hid ((xs.take (i + 1)).map iv = (xs.take i).map iv ++ [iv x]):=Lib.hid (by rw [htk,List.map_append]; rfl)
    have hft : Hid ((xs.take (i + 1)).all fitB = true):=Lib.hid (by
     have h1 : fitB x = true:=decide_eq_true hfx
     rw [htk,List.all_append,hfit.out]; simp [h1])
    have d1 : decide ((1000000000 : Int) < x) = false:=decide_eq_false (by omega)
    have d2 : decide (x < (-1000000000 : Int)) = false:=decide_eq_false (by omega)
    clear htk hmem
    go_wp2_with fail
    refine (Small_ok _ (by omega) (by omega) _).mono ?_
    rintro e w1 ⟨rfl,hf1⟩
    have hownG:=ownsRow_fr hown.out hf1
    have hz7:=hf.size
    have hz8:=hf1.size
    go_wp2_with (at_builtin; refine wpList_append_lies _ rfl _ _ 29 (by rfl) _ 3 _ _ 1 8 Tryz.underlying29 ji jz0 jz1 jz2 rfl (by decide) _ i _ (by rfl) (World.ownsRow.alloc hownG _) ⟨w1.heap.size,0,none⟩ 1 1 [.int .i64 x] (by rfl) rfl (cell_one_newN _ _ _ _ (by simp)) (by simp [Value.oneCell']) (by decide) (by unfold maxLen; omega) (by omega) (by skip; simp; omega) (w1.heap.size + 1) (by simp) ?_; intro gA capA wA hownA hgrowA hatA hltA)
    go_wp2_with fail
    go_roundg (gk - 1)
    case measure => omega
    case rel => exact ⟨i + 1,by go_num,by omega,((hf.trans hf1).alloc _).grown hgrowA (fun k e => (hown.out.lt k e).1),by show _; rw [hsn.out]; exact hownA,fun e => (by injection e with e; cases e),hft.out⟩
   ·have hbad : Hid (xs.all fitB = false):=Lib.hid (List.all_eq_false.2 ⟨x,hmem,by unfold fitB; rw [decide_eq_false hfx]; simp⟩)
    clear htk hmem
    by_cases hgt : (1000000000 : Int) < x
    ·have d1 : decide ((1000000000 : Int) < x) = true:=decide_eq_true hgt
     clear hfx
     go_wp2_with fail
     refine (Small_ok _ (by omega) (by omega) _).mono ?_
     rintro e w1 ⟨rfl,hf1⟩
     go_wp2_with fail
     go_ret2
     exact ⟨fun h => (by rw [hbad.out] at h; cases h),fun _ => ⟨rfl,hf.trans hf1⟩⟩
    ·have d1 : decide ((1000000000 : Int) < x) = false:=decide_eq_false hgt
     have d2 : decide (x < (-1000000000 : Int)) = true:=decide_eq_true (by omega)
     clear hfx
     go_wp2_with fail
     refine (Small_ok _ (by omega) (by omega) _).mono ?_
     rintro e w1 ⟨rfl,hf1⟩
     go_wp2_with fail
     go_ret2
     exact ⟨fun h => (by rw [hbad.out] at h; cases h),fun _ => ⟨rfl,hf.trans hf1⟩⟩
  ·have hdI : decide (i < n) = false:=decide_eq_false hi
   obtain rfl : n = i:=by omega
   have hown9:=hown.out
   rw [List.take_of_length_le (by rw [← hn.out]; exact Nat.le_refl _)] at hown9
   replace hown9:=Lib.hid hown9
   have hft:=hfit.out
   rw [List.take_of_length_le (by rw [← hn.out]; exact Nat.le_refl _)] at hft
   replace hft:=Lib.hid hft
   go_wp2_with fail
   go_ret2
   exact ⟨fun _ => ⟨_,rfl,by rw [← hn.out]; exact hown9.out,hne.out,hf⟩,fun h => (by rw [hft.out] at h; cases h)⟩
end Go.Proofs.YtkjemicelmabdaaGreatDoor

/- whole.Mul where the digits are at most 18 together: strconv.FormatUint, ParseUint; decimal.Of, Small, both, Mul. -/
namespace Go.Proofs.YtkjemicelmabdaaGreatDoor
open Go.RowKit Go.Lib Go.Sort

theorem parseUintM_dig : ∀ (l : List UInt8) (acc : Nat),(∀ c ∈ l,48 ≤ c.toNat ∧ c.toNat ≤ 57) → digVal acc l < 1000000000000000000 → parseUintM (2 ^ 64 - 1) acc l = .ok (digVal acc l)
 | [],acc,_,_ => rfl
 | c :: r,acc,hd,hv => by
   have hc:=hd c List.mem_cons_self
   have hr : ∀ x ∈ r,48 ≤ x.toNat ∧ x.toNat ≤ 57:=fun x hx => hd x (List.mem_cons_of_mem _ hx)
   have e : digVal acc (c :: r) = digVal (acc * 10 + (c.toNat - 48)) r:=rfl
   rw [e] at hv ⊢
   have hle:=(digVal_bound r (acc * 10 + (c.toNat - 48)) hr).1
   have hp:=Nat.pow_pos (n:=r.length) (show 0 < 10 by decide)
   have h2 : acc * 10 + (c.toNat - 48) ≤ digVal (acc * 10 + (c.toNat - 48)) r:=Nat.le_trans (Nat.le_mul_of_pos_right _ hp) hle
   rw [parseUintM,if_pos hc,if_neg (by omega),if_neg (by omega)]
   exact parseUintM_dig r _ hr hv
theorem parseUintB_dec (u : Nat) (h : u < 1000000000000000000) : parseUintB 64 (tx (u : Int)).data.toList = .ok u:=by
 rw [tx_list,itoa_nn (by omega),show (u : Int).toNat = u by omega]
 unfold parseUintB
 rw [if_neg (dec_ne u),parseUintM_dig _ _ (dec_digits u) (by rw [digVal_dec]; exact h),digVal_dec]
set_option maxRecDepth 100000 in
theorem DSmall (u : Nat) (h : u < 1000000000000000000) (w : World) :
 Calls Tryz.prog 189 #[.string (tx (u : Int))] w fun e w' => e = .returned (.tuple #[.int .u64 u,.bool true]) ∧ Fr w w':=by
 have hs:=tx_size_le 18 (u : Int) (by omega) (by omega)
 have hp : ∀ W : World,Calls Tryz.prog 218 #[.string (tx (u : Int)),.int .i64 10,.int .i64 64] W fun e w' => e = .returned (.tuple #[.int .u64 u,.nilIface]) ∧ Fr W w':=fun W => by
  go_enter Tryz.func218,Tryz.ntmps218
  go_wp2_with fail
  refine (Tryz.internal_strconv_ParseUint_10_at64 (tx (u : Int)) (by omega) _).mono ?_
  rw [parseUintB_dec u h]
  rintro e w1 ⟨rfl,hw⟩
  have hf:=fr_bytes (hw.imp id fun h => ⟨_,h⟩)
  clear hw
  unfold uintTupleM
  go_wp2_with fail
  go_ret2
  exact ⟨rfl,hf⟩
 replace hp:=Lib.hid hp
 go_enter Tryz.func189,Tryz.ntmps189
 go_wp2_with fail
 refine (hp.out _).mono ?_
 rintro e w1 ⟨rfl,hf⟩
 go_wp2_with fail
 go_ret2
 exact ⟨rfl,hf⟩
theorem Dboth (u v : Nat) (hu : (tx (u : Int)).size ≤ 18) (hv : (tx (v : Int)).size ≤ 18) (h1 : u < 1000000000000000000) (h2 : v < 1000000000000000000) (w : World) :
 Calls Tryz.prog 141 #[.string (tx (u : Int)),.string (tx (v : Int))] w fun e w' => e = .returned (.tuple #[.int .u64 u,.int .u64 v,.bool true]) ∧ Fr w w':=by
 have c1:=Lib.hid (fun W => DSmall u h1 W)
 have c2:=Lib.hid (fun W => DSmall v h2 W)
 have d1 : decide ((18 : Int) < ((tx (u : Int)).size : Int)) = false:=decide_eq_false (by omega)
 have d2 : decide ((18 : Int) < ((tx (v : Int)).size : Int)) = false:=decide_eq_false (by omega)
 go_enter Tryz.func141,Tryz.ntmps141
 go_wp2_with fail
 refine (c1.out _).mono ?_
 rintro e w1 ⟨rfl,hf1⟩
 go_wp2_with fail
 refine (c2.out _).mono ?_
 rintro e w2 ⟨rfl,hf2⟩
 go_wp2_with fail
 go_ret3
 exact ⟨rfl,hf1.trans hf2⟩
set_option maxRecDepth 100000 in
set_option maxHeartbeats 4000000 in
theorem FormatU (u : Nat) (hu64 : u < 18446744073709551616) (w : World) (hG : G w) :
 Calls Tryz.prog 219 #[.int .u64 u,.int .i64 10] w fun e w' => e = .returned (.string (tx (u : Int))) ∧ Fr w w':=by
 have hte : tx (u : Int) = ⟨(decDigits u).toArray⟩:=by show (⟨(itoa (u : Int)).toArray⟩ : ByteArray) = _; rw [itoa_nn (by omega),show (u : Int).toNat = u by omega]
 by_cases h100 : u < 100
 ·have d1 : decide ((u : Int) < 100) = true:=decide_eq_true (by omega)
  replace hte:=Lib.hid hte
  go_enter Tryz.func219,Tryz.ntmps219
  go_wp2_with fail
  refine (Tryz.internal_strconv_small u h100 _).mono ?_
  rintro e w1 ⟨rfl,rfl⟩
  go_wp2_with fail
  go_ret
  exact ⟨by rw [hte.out]; rfl,Fr.refl _⟩
 ·have d1 : decide ((u : Int) < 100) = false:=decide_eq_false (by omega)
  have hu1 : 1 ≤ u:=by omega
  have hnd20 : nDigits u ≤ 20:=by have:=numDigits_eq u hu1 hu64; split at this <;> omega
  have hb3 : nDigits u ≤ 24:=by omega
  have hal : Tryz.prog.arrayLen 270 = 24:=by kernel_rfl
  have hsl : ∀ W,(Instr.sliceAt 270 (.pointer (some ⟨w.heap.size,0,none⟩)) none (some (.int .i64 (nDigits u : Int))) none).run Tryz.prog W = .ok (.slice (some ⟨w.heap.size,0,none⟩) (nDigits u) 24) W:=fun W => by
   rw [run_sliceAt_array_h W 270 ⟨w.heap.size,0,none⟩ (by simp [Program.arrayLen,Program.elem,Tryz.underlying270]) .i64 (nDigits u : Int) (by omega) (by rw [hal]; omega)]
   go_simp
  have hH0:=holds_zero0 w 270 (nDigits u) (by omega)
  have hfmt:=Tryz.internal_strconv_formatBase10 w.heap.size 0 24 u (Array.replicate (nDigits u) 0) (w.alloc (.cells zeros24 270)) hH0 (by rw [Array.size_replicate]; exact lt_pow_nDigits u) hu64 (by rw [Array.size_replicate]; omega)
  rw [Array.size_replicate] at hfmt
  have HH0:=Lib.hid hH0
  have hnum:=Lib.hid (fun W (hW : G W) => Tryz.internal_strconv_numDigits u hu1 hu64 W hW)
  replace hte:=Lib.hid hte
  clear hH0 hal
  have hGa : Hid (G (w.alloc (.cells zeros24 270))):=tabIs_alloc hG _
  go_enter Tryz.func219,Tryz.ntmps219
  go_wp2_with (go_at_call 208; refine (hnum.out _ hGa.out).mono ?_; rintro e w' ⟨rfl,rfl⟩)
  go_at_call 209
  refine hfmt.mono ?_
  rintro e w' ⟨rfl,k,v',dk,rfl,hF⟩
  have hcv : (convert 48 9 (.slice (some ⟨w.heap.size,0,none⟩) (nDigits u) 24)).run Tryz.prog ((putRow (fun (b : UInt8) => Value.int .u8 (b.toNat : Int)) (w.alloc (.cells zeros24 270)) w.heap.size 0 dk).drewN k) = .ok (.string ⟨(decDigits u).toArray⟩) ((putRow (fun (b : UInt8) => Value.int .u8 (b.toNat : Int)) (w.alloc (.cells zeros24 270)) w.heap.size 0 dk).drewN k):=by
   have h:=run_convert_bytes_back (P:=Tryz.prog) ((putRow (fun (b : UInt8) => Value.int .u8 (b.toNat : Int)) (w.alloc (.cells zeros24 270)) w.heap.size 0 dk).drewN k) 48 9 5 ⟨w.heap.size,0,none⟩ 24 (decDigits u) Tryz.underlying48 Tryz.underlying5 Tryz.underlying9 (fun j hj => by
    rw [row_is_numeral hF j hj,add_plain,World.cell?_drewN]
    exact cell?_putRow (fun (b : UInt8) => Value.int .u8 (b.toNat : Int)) _ w.heap.size 0 _ dk HH0.out (by rw [hF.size,Array.size_replicate]) j (by rw [hF.size]; rw [decDigits_length] at hj; exact hj))
   rw [decDigits_length] at h
   exact h
  obtain ⟨os,-,eo⟩:=putRow_grow_new (fun (b : UInt8) => Value.int .u8 (b.toNat : Int)) w #[.cells zeros24 270] w.heap.size 0 dk (Nat.le_refl _)
  have hfr : Fr w ((putRow (fun (b : UInt8) => Value.int .u8 (b.toNat : Int)) (w.alloc (.cells zeros24 270)) w.heap.size 0 dk).drewN k):=by
   rw [alloc_eq_grow,eo]
   exact fr_grow w k os
  replace hfr:=Lib.hid hfr
  clear eo
  go_wp2
  go_ret
  exact ⟨by rw [hte.out]; rfl,hfr.out⟩
theorem DOf (u : Nat) (hu64 : u < 18446744073709551616) (w : World) (hG : G w) :
 Calls Tryz.prog 142 #[.int .u64 u] w fun e w' => e = .returned (.string (tx (u : Int))) ∧ Fr w w':=by
 have h1 : ∀ W : World,G W → Calls Tryz.prog 190 #[.int .u64 u,.int .i64 10] W fun e w' => e = .returned (.string (tx (u : Int))) ∧ Fr W w':=fun W hW => by
  go_enter Tryz.func190,Tryz.ntmps190
  go_wp2_with fail
  refine (FormatU u hu64 _ hW).mono ?_
  rintro e w1 ⟨rfl,hf⟩
  go_wp2_with fail
  go_ret
  exact ⟨rfl,hf⟩
 replace h1:=Lib.hid h1
 go_enter Tryz.func142,Tryz.ntmps142
 go_wp2_with fail
 refine (h1.out _ hG).mono ?_
 rintro e w1 ⟨rfl,hf⟩
 go_wp2_with fail
 go_ret
 exact ⟨rfl,hf⟩
theorem DMul (u v : Nat) (hs : (tx (u : Int)).size + (tx (v : Int)).size ≤ 18) (h1 : u < 1000000000000000000) (h2 : v < 1000000000000000000) (h3 : u * v < 18446744073709551616) (w : World) (hG : G w) :
 Calls Tryz.prog 87 #[.string (tx (u : Int)),.string (tx (v : Int))] w fun e w' => e = .returned (.string (tx ((u * v : Nat) : Int))) ∧ Fr w w':=by
 have c1:=Lib.hid (fun W => Dboth u v (by omega) (by omega) h1 h2 W)
 have c2:=Lib.hid (fun W (hW : G W) => DOf (u * v) h3 W hW)
 have d1 : decide (((tx (u : Int)).size : Int) + ((tx (v : Int)).size : Int) ≤ 18) = true:=decide_eq_true (by omega)
 have e3 : ((u : Int) * (v : Int)) = ((u * v : Nat) : Int):=by rw [Int.natCast_mul]
 have e4:=Lib.hid e3
 have h4 : (u : Int) * (v : Int) < 18446744073709551616:=by omega
 have h5 : (0 : Int) ≤ (u : Int) * (v : Int):=by omega
 generalize tx (u : Int) = s at *
 generalize tx (v : Int) = t at *
 go_enter Tryz.func87,Tryz.ntmps87
 go_wp2_with fail
 refine (c1.out _).mono ?_
 rintro e w1 ⟨rfl,hf1⟩
 have c3:=c2.out w1 (hG.fr hf1)
 rw [← e3] at c3
 clear e3 h3
 go_wp2_with fail
 refine c3.mono ?_
 rintro e w2 ⟨rfl,hf2⟩
 go_wp2_with fail
 go_ret
 exact ⟨by rw [← e4.out]; rfl,hf1.trans hf2⟩
/-- a number of a row times a small one -/
theorem Mul_md (a b : Int) (ha : -1000000000 ≤ a ∧ a ≤ 1000000000) (hb : Ti b) (w : World) (hG : G w) :
 Calls Tryz.prog 39 #[.string (tx a),.string (tx b)] w fun e w' => e = .returned (.string (tx (a * b))) ∧ Fr w w':=by
 have sb:=hb.size
 obtain ⟨b1,b2⟩:=hb
 have hm : a.natAbs * b.natAbs ≤ 1000000000 * 100000000:=Nat.mul_le_mul (by omega) (by omega)
 have hm2 : (a * b).natAbs = a.natAbs * b.natAbs:=Int.natAbs_mul a b
 have m1 : -100000000000000000 ≤ a * b:=by omega
 have m2 : a * b ≤ 100000000000000000:=by omega
 have sa : (tx a).size ≤ 11:=tx_size_le 10 a (by omega) (by omega)
 obtain ⟨a1,a2⟩:=ha
 by_cases h9 : (tx a).size ≤ 9
 ·clear hm hm2
  go_enter Tryz.func39,Tryz.ntmps39
  go_wp2_with fail
  refine (little_ok a 9 (by omega) (by omega) _ (by omega)).mono ?_; rintro e w1 ⟨rfl,hf1⟩
  go_wp2_with fail
  refine (little_ok b 9 (by omega) (by omega) _ (by omega)).mono ?_; rintro e w2 ⟨rfl,hf2⟩
  go_wp2_with fail
  refine (Of_any _ (by omega) (by omega) _ (hG.fr (hf1.trans hf2))).mono ?_; rintro e w3 ⟨rfl,hf3⟩
  go_wp2_with fail
  go_ret
  exact ⟨rfl,(hf1.trans hf2).trans hf3⟩
 ·have hc1 : (tx (a.natAbs : Int)).size ≤ 10:=by rw [tx_size_nat]; exact nDigits_le 10 _ (by omega) (by omega)
  have hc2 : (tx (b.natAbs : Int)).size ≤ 8:=by rw [tx_size_nat]; exact nDigits_le 8 _ (by omega) (by omega)
  have hp : Hid (((a.natAbs * b.natAbs : Nat) : Int) = (a.natAbs : Int) * (b.natAbs : Int)):=Int.natCast_mul _ _
  have hdm:=Lib.hid (fun W (hW : G W) => DMul a.natAbs b.natAbs (by omega) (by omega) (by omega) (by omega) W hW)
  have hnn : (0 : Int) ≤ ((a.natAbs * b.natAbs : Nat) : Int):=Int.natCast_nonneg _
  have hsz : (tx ((a.natAbs * b.natAbs : Nat) : Int)).size ≤ 1000000000:=by
   have:=tx_size_le 18 ((a.natAbs * b.natAbs : Nat) : Int) (by omega) (by omega)
   omega
  have hli:=Lib.hid (fun W => little_no a 9 W (by omega) (by omega))
  have hgoal : ∀ s : Bool,(s = (decide (a < 0) != decide (b < 0))) → (if s then -((a.natAbs * b.natAbs : Nat) : Int) else ((a.natAbs * b.natAbs : Nat) : Int)) = a * b:=fun s hs => by
   rw [hs,hp.out]
   rcases Int.lt_or_le a 0 with h | h <;> rcases Int.lt_or_le b 0 with k | k
   ·rw [decide_eq_true h,decide_eq_true k,show (a.natAbs : Int) = -a by omega,show (b.natAbs : Int) = -b by omega]; exact Int.neg_mul_neg a b
   ·rw [decide_eq_true h,decide_eq_false (by omega),show (a.natAbs : Int) = -a by omega,show (b.natAbs : Int) = b by omega]; show -(-a * b) = a * b; rw [Int.neg_mul,Int.neg_neg]
   ·rw [decide_eq_false (by omega),decide_eq_true k,show (a.natAbs : Int) = a by omega,show (b.natAbs : Int) = -b by omega]; show -(a * -b) = a * b; rw [Int.mul_neg,Int.neg_neg]
   ·rw [decide_eq_false (by omega),decide_eq_false (by omega),show (a.natAbs : Int) = a by omega,show (b.natAbs : Int) = b by omega]; rfl
  have spA : ∀ W : World,Calls Tryz.prog 82 #[.string (tx a)] W fun e w' => e = .returned (.tuple #[.bool (decide (a < 0)),.string (tx (a.natAbs : Int))]) ∧ Fr W w':=fun W => by
   rcases Int.lt_or_le a 0 with h | h
   ·rw [decide_eq_true h,show (a.natAbs : Int) = -a by omega]; exact split_ng a h W (by omega)
   ·rw [decide_eq_false (by omega),show (a.natAbs : Int) = a by omega]; exact split_nn a h W (by omega)
  have spB : ∀ W : World,Calls Tryz.prog 82 #[.string (tx b)] W fun e w' => e = .returned (.tuple #[.bool (decide (b < 0)),.string (tx (b.natAbs : Int))]) ∧ Fr W w':=fun W => by
   rcases Int.lt_or_le b 0 with h | h
   ·rw [decide_eq_true h,show (b.natAbs : Int) = -b by omega]; exact split_ng b h W (by omega)
   ·rw [decide_eq_false (by omega),show (b.natAbs : Int) = b by omega]; exact split_nn b h W (by omega)
  obtain ⟨sA,hsA⟩ : ∃ sA,sA = decide (a < 0):=⟨_,rfl⟩
  obtain ⟨sB,hsB⟩ : ∃ sB,sB = decide (b < 0):=⟨_,rfl⟩
  rw [← hsA] at spA hgoal
  rw [← hsB] at spB hgoal
  have hjo:=Lib.hid (fun W => join_any (sA != sB) _ hnn W hsz)
  replace hgoal:=Lib.hid (hgoal (sA != sB) rfl)
  generalize ((a.natAbs * b.natAbs : Nat) : Int) = p at *
  generalize tx (a.natAbs : Int) = ta at *
  generalize tx (b.natAbs : Int) = tb' at *
  replace spA:=Lib.hid spA
  replace spB:=Lib.hid spB
  replace hsA:=Lib.hid hsA
  replace hsB:=Lib.hid hsB
  clear hm hm2 hp hnn hsz
  cases sA <;> cases sB
  all_goals
   go_enter Tryz.func39,Tryz.ntmps39
   go_wp2_with fail
   refine (hli.out _).mono ?_; rintro e w1 ⟨rfl,rfl⟩
   go_wp2_with fail
   refine (spA.out _).mono ?_; rintro e w2 ⟨rfl,hf2⟩
   go_wp2_with fail
   refine (spB.out _).mono ?_; rintro e w3 ⟨rfl,hf3⟩
   go_wp2_with fail
   refine (hdm.out _ (hG.fr (hf2.trans hf3))).mono ?_; rintro e w4 ⟨rfl,hf4⟩
   go_wp2_with fail
   refine (hjo.out _).mono ?_; rintro e w5 ⟨rfl,rfl⟩
   go_wp2_with fail
   go_ret
   exact ⟨by rw [← hgoal.out]; rfl,(hf2.trans hf3).trans hf4⟩
end Go.Proofs.YtkjemicelmabdaaGreatDoor

/- notation.Read of a right spelling: small rows, any counts of a row. -/
namespace Go.Proofs.YtkjemicelmabdaaGreatDoor
open Go.RowKit Go.Lib
attribute [local go_sem ↓] Go.wp_at_zero Go.wp_at_succ

/-- the sum of a nominal's row and of the first accidentals -/
def rdT (RA : List (List Int)) (cs s0 : List Int) : Nat → List Int
 | 0 => s0
 | i + 1 => List.zipWith (fun a x => a + (cs[i]?).getD 0 * x) (rdT RA cs s0 i) (rowAt RA i)
instance decTi (n : Int) : Decidable (Ti n):=by unfold Ti; infer_instance
instance decSm (n : Int) : Decidable (Sm n):=by unfold Sm; infer_instance
/-- all numbers are small -/
def rdOk (RA : List (List Int)) (cs s0 : List Int) (d : Nat) : Bool :=
 (List.range d).all fun i => decide (Ti ((cs[i]?).getD 0)) && (List.range d).all fun c => decide (Sm (((rdT RA cs s0 i)[c]?).getD 0)) && decide (Ti (((rowAt RA i)[c]?).getD 0))
theorem rdOk_at {RA : List (List Int)} {cs s0 : List Int} {d i c : Nat} (h : rdOk RA cs s0 d = true) (hi : i < d) (hc : c < d) : Ti ((cs[i]?).getD 0) ∧ Sm (((rdT RA cs s0 i)[c]?).getD 0) ∧ Ti (((rowAt RA i)[c]?).getD 0):=by
 have h1:=List.all_eq_true.1 h i (List.mem_range.2 hi)
 rw [Bool.and_eq_true] at h1
 have h2:=List.all_eq_true.1 h1.2 c (List.mem_range.2 hc)
 rw [Bool.and_eq_true] at h2
 exact ⟨of_decide_eq_true h1.1,of_decide_eq_true h2.1,of_decide_eq_true h2.2⟩
theorem rdT_len {RA : List (List Int)} {cs s0 : List Int} {d : Nat} (hs : s0.length = d) (hr : ∀ i,i < d → (rowAt RA i).length = d) : ∀ i,i ≤ d → (rdT RA cs s0 i).length = d
 | 0,_ => hs
 | i + 1,h => by
   rw [rdT,List.length_zipWith,rdT_len hs hr i (by omega),hr i (by omega)]
   omega
def NRdRet (w : World) (xs : List Int) (d : Nat) (e : Ending) (w' : World) : Prop:=∃ g c,e = .returned (.tuple #[.slice (some ⟨g,0,none⟩) d c,.int .i64 0]) ∧ El w' iv (some ⟨g,0,none⟩) xs ∧ xs.length = d ∧ Fr w w'

/-- a row, or too great -/
def NRdRetA (w : World) (xs : List Int) (d : Nat) (e : Ending) (w' : World) : Prop:=(xs.all fitB = true → NRdRet w xs d e w') ∧ (xs.all fitB = false → e = .returned (.tuple #[.slice none 0 0,.int .i64 4]) ∧ Fr w w')
set_option maxRecDepth 100000 in
set_option maxHeartbeats 16000000 in
theorem NRead_any (N A : List Sy) (d i0 : Nat) (cs s0 : List Int) (ca aN aA : Option Addr) (cc cN cA : Nat) (w : World) (hG : G w) (hn : NotIs w aN aA cA N A) (d1 : 1 ≤ d) (d6 : d ≤ 6) (lenA : A.length = d) (n60 : N.length ≤ 60)
 (rowA : ∀ q,q ∈ A.map Sy.row → q.length = d ∧ ∀ x,x ∈ q → fitB x = true) (r0 : s0.length = d ∧ ∀ x,x ∈ s0 → fitB x = true) (hc : El w iv ca cs) (hcl : cs.length = d) (hcf : ∀ x,x ∈ cs → fitB x = true)
 (hi0 : i0 < N.length) (hs0 : (N.map Sy.row)[i0]? = some s0) (hzz0 : ∀ i c,i < d → c < d → Sm (((rdT (A.map Sy.row) cs s0 i)[c]?).getD 0) ∧ Ti (((rowAt (A.map Sy.row) i)[c]?).getD 0)) (hfs : ∀ x,x ∈ rdT (A.map Sy.row) cs s0 d → Sm x)
 (hck : ∀ W,Fr w W → Calls Tryz.prog 27 #[.agg #[.slice aN N.length cN,.slice aA A.length cA]] W fun e w' => e = .returned (.int .i64 0) ∧ Fr W w') :
 Calls Tryz.prog 13 #[.agg #[.slice aN N.length cN,.slice aA A.length cA],.agg #[.int .i64 i0,.slice ca d cc]] w (NRdRetA w (rdT (A.map Sy.row) cs s0 d) d):=by
 have hgn:=gN_le hG
 have n1 : 1 ≤ N.length:=by omega
 have hcs9:=fun W (hW : Fr w W) => NcheckSp_any aN aA cN cA N A i0 cs ca cc W (hc.fr hW) (by omega) (by omega) (by omega)
 have hsp : spE N A i0 cs = 0:=by
  unfold spE
  rw [if_neg (by omega),if_neg (by omega)]
  exact rowE_ok (by omega) (List.any_eq_false.2 (fun x hx => by rw [hcf x hx]; simp))
 rw [hsp] at hcs9
 rw [lenA] at hck hcs9 ⊢
 rw [hcl] at hcs9
 obtain ⟨M,hM⟩ : ∃ M,M = N.length:=⟨_,rfl⟩
 rw [← hM] at n1 n60 hck hi0 hcs9 ⊢
 obtain ⟨x0,hx0,hx0r⟩ : ∃ x0,N[i0]? = some x0 ∧ x0.row = s0:=by
  rw [List.getElem?_map] at hs0
  obtain ⟨x0,h1,h2⟩:=Option.map_eq_some_iff.1 hs0
  exact ⟨x0,h1,h2⟩
 have hx0m:=List.mem_of_getElem? hx0
 have hin:=Lib.hid (fun (W : World) (hW : Fr w W) => NInts_sm s0 x0.ra x0.rc W (hG.fr hW) (by rw [← hx0r]; exact (hn.noms.2 x0 hx0m).fr hW) (by omega) (fun x hx => fits_sm (r0.2 x hx)))
 have hrA : ∀ i,i < d → (rowAt (A.map Sy.row) i).length = d:=fun i hi => by
  have hi2 : i < (A.map Sy.row).length:=by rw [List.length_map]; omega
  rw [rowAt_eq hi2]
  exact (rowA _ (List.getElem_mem hi2)).1
 have hlen:=Lib.hid (fun i (hi : i ≤ d) => rdT_len (RA:=A.map Sy.row) (cs:=cs) r0.1 hrA i hi)
 have hat : ∀ (i : Nat) (x : Sy),A[i]? = some x → rowAt (A.map Sy.row) i = x.row ∧ x.row.length = d ∧ ∀ z,z ∈ x.row → fitB z = true:=fun i x hx => by
  have h1 : (A.map Sy.row)[i]? = some x.row:=by rw [List.getElem?_map,hx]; rfl
  have h2:=List.getElem?_eq_some_iff.1 h1
  exact ⟨by rw [rowAt_eq h2.1]; exact h2.2,rowA _ (List.mem_of_getElem? h1)⟩
 have hbk:=Lib.hid (fun (W : World) (hW : Fr w W) (g c : Nat) (h : El W sv (some ⟨g,0,none⟩) (rdT (A.map Sy.row) cs s0 d)) => NBack_any (rdT (A.map Sy.row) cs s0 d) (some ⟨g,0,none⟩) c W (hG.fr hW) h (by rw [hlen.out d (Nat.le_refl _)]; omega) (fun x hx => by obtain ⟨h1,h2⟩:=hfs x hx; omega))
 have hz : ∀ i c,i < d → c < d → (-1000000000 ≤ (cs[i]?).getD 0 ∧ (cs[i]?).getD 0 ≤ 1000000000) ∧ Sm (((rdT (A.map Sy.row) cs s0 i)[c]?).getD 0) ∧ Ti (((rowAt (A.map Sy.row) i)[c]?).getD 0):=fun i c hi hc2 => by
  refine ⟨?_,hzz0 i c hi hc2⟩
  have h9:=List.getElem?_eq_getElem (show i < cs.length by omega)
  rw [h9]
  exact of_decide_eq_true (hcf _ (List.mem_of_getElem? h9))
 have hGf:=Lib.hid (fun W (hW : Fr w W) => hG.fr hW)
 have hnm:=Lib.hid hn.noms
 have hac:=Lib.hid hn.accs
 have hl0 : x0.row.length = d:=by rw [hx0r]; exact r0.1
 rw [r0.1] at hin
 replace hat:=Lib.hid hat
 replace hz:=Lib.hid hz
 replace hc:=Lib.hid hc
 replace hcl:=Lib.hid hcl
 replace hck:=Lib.hid hck
 replace hcs9:=Lib.hid hcs9
 replace hM:=Lib.hid hM
 replace hx0:=Lib.hid hx0
 replace lenA:=Lib.hid lenA
 replace hl0:=Lib.hid hl0
 generalize A.map Sy.row = RA at *
 clear hG hn rowA hs0 hzz0 hfs hsp r0 hcf hrA hx0r hx0m
 obtain ⟨nb,hnb⟩ : ∃ nb,nb = w.heap.size:=⟨_,rfl⟩
 obtain ⟨W1,hW1⟩ : ∃ W1,W1 = (w.alloc (.cells #[.slice aN M cN,.slice aA d cA] 32)).alloc (.cells #[.int .i64 i0,.slice ca d cc] 37):=⟨_,rfl⟩
 have f1 : Fr w W1:=by rw [hW1]; exact ((Fr.refl _).alloc _).alloc _
 have hN1 : Cel2 W1 nb (.slice aN M cN) (.slice aA d cA):=by rw [hW1,hnb]; exact (Cel2.new w _ _ _).fr ((Fr.refl _).alloc _)
 have hS1 : Cel2 W1 (nb + 1) (.int .i64 i0) (.slice ca d cc):=by
  have:=Cel2.new (w.alloc (.cells #[.slice aN M cN,.slice aA d cA] 32)) (.int .i64 i0) (.slice ca d cc) 37
  rw [World.size_alloc] at this
  rw [hW1,hnb]; exact this
 go_enter Tryz.func13,Tryz.ntmps13
 go_upto_region 1 with (fail)
 rw [← hW1,← hnb]
 clear hW1
 replace hnb:=Lib.hid hnb
 have n0:=hN1.a
 have n1':=hN1.b
 have s0':=hS1.a
 have s1':=hS1.b
 replace hN1:=Lib.hid hN1
 replace hS1:=Lib.hid hS1
 go_wp2_with fail
 refine (hck.out _ f1).mono ?_
 rintro e w2 ⟨rfl,hf2⟩
 replace n0:=hf2.keep n0
 replace n1':=hf2.keep n1'
 replace s0':=hf2.keep s0'
 replace s1':=hf2.keep s1'
 have f2:=f1.trans hf2
 go_wp2_with fail
 refine (hcs9.out _ f2).mono ?_
 rintro e w3 ⟨rfl,hf3⟩
 replace n0:=hf3.keep n0
 replace n1':=hf3.keep n1'
 replace s0':=hf3.keep s0'
 replace s1':=hf3.keep s1'
 have f3:=f2.trans hf3
 have f13:=hf2.trans hf3
 obtain ⟨ab,ao,y0,rfl,hbl,hy0,hc1,hc2,-⟩:=(hnm.out.fr f3).at (i:=i0) (by rw [← hM.out]; exact hi0)
 obtain rfl : x0 = y0:=by rw [hx0.out] at hy0; injection hy0
 rw [hl0.out] at hc2
 replace hy0:=Lib.hid hy0
 have z0 : (0 : Int) ≤ (i0 : Int):=Int.natCast_nonneg _
 have z1 : (i0 : Int) < (M : Int):=by omega
 generalize x0.ra = ra0 at *
 generalize x0.rc = rc0 at *
 generalize x0.nm = nm0 at *
 go_wp2_with fail
 refine (hin.out _ f3).mono ?_
 rintro e w4 ⟨v,rfl,hown,hf4⟩
 have hsl:=hlen.out 0 (Nat.zero_le _)
 rw [show rdT RA cs s0 0 = s0 from rfl] at hsl
 rw [hsl] at hown
 obtain ⟨g,gc,rfl,-⟩:=World.ownsRow.form hown (by omega)
 have hO:=(ownsRow_own (by have:=f3.size; omega) hown).1
 have hgw:=(hown.lt g rfl).1
 have f4:=f3.trans hf4
 replace n1':=hf4.keep n1'
 clear n0 s0' s1' hc1 hc2 hown hin hck hcs9
 replace hO:=Lib.hid hO
 replace hsl:=Lib.hid hsl
 have f14:=f13.trans hf4
 have hzz : w.heap.size ≤ w3.heap.size:=f3.size
 go_wp2_with fail
 go_loopg [36] d (fun k s36 wr => ∃ i : Nat,s36 = .int .i64 i ∧ i + k = d ∧ Fx (· = g) w4 wr ∧ Hid (Own wr g 0 (rdT RA cs s0 i)))
 case atStart => exact ⟨0,rfl,by omega,Fx.refl _ _,hO.out⟩
 case round =>
  clear hO n1'
  obtain ⟨i,rfl,hik,hfx,hO⟩:=hrel
  have hF3 : Fr w3 wr:=((Fx.of_fr hf4).trans hfx).toFr (fun k hk e => by have e : k = g:=e; omega)
  have hFr:=f3.trans hF3
  obtain ⟨wo,rfl⟩ : ∃ wo : World,wo = wr:=⟨_,rfl⟩
  obtain ⟨ko,rfl⟩ : ∃ ko : Nat,ko = gk:=⟨_,rfl⟩
  by_cases hi : i < d
  ·have hdI : decide (i < d) = true:=decide_eq_true hi
   obtain ⟨bb,bo,x,hae,hbl,hxi,hc1,hc2,-⟩:=(hac.out.fr hFr).at (i:=i) (by rw [lenA.out]; exact hi)
   have hel:=hac.out.2 x (List.mem_of_getElem? hxi)
   subst hae
   obtain ⟨hx1,hx2,hx3⟩:=hat.out i x hxi
   rw [hx2] at hc2
   have y0 : (0 : Int) ≤ (i : Int):=Int.natCast_nonneg _
   have y1 : (i : Int) < (d : Int):=by omega
   obtain ⟨W6,hW6⟩ : ∃ W6,W6 = wo.alloc (.cells #[.string x.nm,.slice x.ra d x.rc] 65):=⟨_,rfl⟩
   have f6 : Fr wo W6:=by rw [hW6]; exact (Fr.refl _).alloc _
   obtain ⟨xb,hxb⟩ : ∃ xb,xb = wo.heap.size:=⟨_,rfl⟩
   have hX6 : Cel2 W6 xb (.string x.nm) (.slice x.ra d x.rc):=by rw [hW6,hxb]; exact Cel2.new _ _ _ _
   have hxg : xb ≠ g:=by have:=hO.out.2.1; omega
   have hO6:=Lib.hid (hO.out.fr f6)
   have hfx6:=hfx.fr f6
   have hel6:=Lib.hid hel
   go_upto_region 11 with (fail)
   rw [← hW6,← hxb]
   clear hW6 hc1 hc2 hel
   replace hxb:=Lib.hid hxb
   replace hxi:=Lib.hid hxi
   replace hx1:=Lib.hid hx1
   replace hx3:=Lib.hid hx3
   generalize x.ra = xa at *
   generalize x.rc = xc at *
   generalize x.nm = xn at *
   replace hX6:=Lib.hid hX6
   have hF36 : Fr w3 W6:=hF3.trans f6
   go_wp2_with fail
   go_loopg [43] d (fun k s43 wr => ∃ c : Nat,s43 = .int .i64 c ∧ c + k = d ∧ Fx (· = g) W6 wr ∧ Hid (Own wr g 0 ((rdT RA cs s0 (i + 1)).take c ++ (rdT RA cs s0 i).drop c)))
   case atStart => exact ⟨0,rfl,by omega,Fx.refl _ _,by show Own _ _ _ _; rw [List.take_zero,List.drop_zero,List.nil_append]; exact hO6.out⟩
   case round =>
    clear hO6
    obtain ⟨c,rfl,hck,hfx7,hO7⟩:=hrel
    obtain ⟨wv,rfl⟩ : ∃ wv : World,wv = wr:=⟨_,rfl⟩
    obtain ⟨kv,rfl⟩ : ∃ kv : Nat,kv = gk:=⟨_,rfl⟩
    have hl1:=hlen.out i (by omega)
    have hl2:=hlen.out (i + 1) (by omega)
    by_cases hcd : c < d
    ·have hdC : decide (c < d) = true:=decide_eq_true hcd
     obtain ⟨q1,q2,q3⟩:=hz.out i c hi hcd
     obtain ⟨kc,hkc⟩ : ∃ kc,cs[i]? = some kc:=⟨_,List.getElem?_eq_getElem (by rw [hcl.out]; exact hi)⟩
     obtain ⟨xe,hxe⟩ : ∃ xe,x.row[c]? = some xe:=⟨_,List.getElem?_eq_getElem (by omega)⟩
     obtain ⟨se,hse⟩ : ∃ se,(rdT RA cs s0 i)[c]? = some se:=⟨_,List.getElem?_eq_getElem (by omega)⟩
     have hnew : (rdT RA cs s0 (i + 1))[c]? = some (se + kc * xe):=by
      rw [rdT,List.getElem?_zipWith,hse,hx1.out,hxe,hkc]; rfl
     rw [hx1.out] at q3
     rw [hkc] at q1
     rw [hse] at q2
     rw [hxe] at q3
     simp only [Option.getD_some] at q1 q2 q3
     have hm2 : Sm (kc * xe):=by
      have h1 : kc.natAbs * xe.natAbs ≤ 1000000000 * 99999999:=Nat.mul_le_mul (by omega) (by obtain ⟨q4,q5⟩:=q3; omega)
      rw [← Int.natAbs_mul] at h1
      exact ⟨by omega,by omega⟩
     have hmid:=(mid_get (rdT RA cs s0 (i + 1)) (rdT RA cs s0 i) c (by omega) (by omega)).trans hse
     have hset:=Lib.hid (mid_set (rdT RA cs s0 (i + 1)) (rdT RA cs s0 i) c (by omega) (by omega) _ hnew)
     obtain ⟨x1,x2⟩:=hO7.out.2.2 c se hmid
     rw [Nat.zero_add] at x1 x2
     have hF37 : Fr w3 wv:=((Fx.of_fr (hf4)).trans (hfx6.trans hfx7)).toFr (fun k hk e => by have e : k = g:=e; omega)
     have hFrv:=f3.trans hF37
     obtain ⟨cb,co,kc',rfl,-,hkc',hc3⟩:=(hc.out.fr hFrv).at (i:=i) (by rw [hcl.out]; exact hi)
     obtain rfl : kc = kc':=by rw [hkc] at hkc'; injection hkc'
     have hel7:=hel6.out.fr hFrv
     obtain ⟨eb,eo,xe',hxa,hbe,hxe',hc4⟩:=hel7.at (i:=c) (by omega)
     obtain rfl : xe = xe':=by rw [hxe] at hxe'; injection hxe'
     subst hxa
     have m0:=(f13.trans hF37).keep hS1.out.b
     have m1:=hfx7.keep hX6.out.b hxg
     have hG7:=hGf.out _ hFrv
     have ho1:=Lib.hid (fun W' (hW' : Fr wv W') => Of_any kc (by omega) (by omega) W' (hG7.fr hW'))
     have ho2:=Lib.hid (fun W' (hW' : Fr wv W') => Of_any xe (by unfold Ti at q3; omega) (by unfold Ti at q3; omega) W' (hG7.fr hW'))
     have hmu:=Lib.hid (fun W' (hW' : Fr wv W') => Mul_md kc xe q1 q3 W' (hG7.fr hW'))
     have had:=Lib.hid (fun W' (hW' : Fr wv W') => Add_sm se (kc * xe) q2 hm2 W' (hG7.fr hW'))
     have u0 : (0 : Int) ≤ (c : Int):=Int.natCast_nonneg _
     have u1 : (c : Int) < (d : Int):=by omega
     have hS0:=Lib.hid (fun W' (hW' : Fr wv W') => (⟨hW'.keep m0,hW'.keep m1,hW'.keep hc3,hW'.keep hc4,hW'.keep x1⟩ : W'.cell? ⟨nb + 1,1,none⟩ = some (.slice (some ⟨cb,co,none⟩) d cc) ∧ W'.cell? ⟨xb,1,none⟩ = some (.slice (some ⟨eb,eo,none⟩) d xc) ∧ W'.cell? ⟨cb,co + i,none⟩ = some (.int .i64 kc) ∧ W'.cell? ⟨eb,eo + c,none⟩ = some (.int .i64 xe) ∧ W'.cell? ⟨g,c,none⟩ = some (sv se)))
     replace hkc:=Lib.hid hkc
     replace hxe:=Lib.hid hxe
     replace hse:=Lib.hid hse
     replace hnew:=Lib.hid hnew
     replace hmid:=Lib.hid hmid
     replace hkc':=Lib.hid hkc'
     replace hxe':=Lib.hid hxe'
     replace hl1:=Lib.hid hl1
     replace hl2:=Lib.hid hl2
     clear hm2 q1 q2 q3 hel7
     go_wp2_with fail
     refine wp_region_U (S:=fun W' => W'.cell? ⟨nb + 1,1,none⟩ = some (.slice (some ⟨cb,co,none⟩) d cc) ∧ W'.cell? ⟨xb,1,none⟩ = some (.slice (some ⟨eb,eo,none⟩) d xc) ∧ W'.cell? ⟨cb,co + i,none⟩ = some (.int .i64 kc) ∧ W'.cell? ⟨eb,eo + c,none⟩ = some (.int .i64 xe) ∧ W'.cell? ⟨g,c,none⟩ = some (sv se)) 21 (by kernel_rfl) (hS0.out _ ((Fr.refl _).drew)) (fun hHeld => ?_)
     refine uT (v:=?_) 0 rfl (by kernel_rfl) (.inl ⟨by rfl, ?_⟩) (by assumption) ?_
     rotate_left
     ·(intro w hSw; (try dsimp only at hSw); go_simp; try (with_reducible rfl))
     change wpAnyU _ _ _ _ _ _ _ _ (Act.put _ (some 46) _) _
     simp only [Act.put,lsT,ls0,lsS]
     refine uT (v:=?_) 1 rfl (by kernel_rfl) (.inl ⟨by rfl, ?_⟩) (by assumption) ?_
     rotate_left
     ·(intro w hSw; (try dsimp only at hSw); go_simp; try (with_reducible rfl))
     change wpAnyU _ _ _ _ _ _ _ _ (Act.put _ (some 47) _) _
     simp only [Act.put,lsT,ls0,lsS]
     refine uT (v:=?_) 2 rfl (by kernel_rfl) (.inl ⟨by rfl, ?_⟩) (by assumption) ?_
     rotate_left
     ·(intro w hSw; (try dsimp only at hSw); go_simp; try (with_reducible rfl))
     change wpAnyU _ _ _ _ _ _ _ _ (Act.put _ (some 48) _) _
     simp only [Act.put,lsT,ls0,lsS]
     refine uT (v:=?_) 3 rfl (by kernel_rfl) (.inl ⟨by rfl, ?_⟩) (by assumption) ?_
     rotate_left
     ·(intro w hSw; (try dsimp only at hSw); go_simp; try (with_reducible rfl))
     change wpAnyU _ _ _ _ _ _ _ _ (Act.put _ (some 49) _) _
     simp only [Act.put,lsT,ls0,lsS]
     refine uT (v:=?_) 4 rfl (by kernel_rfl) (.inl ⟨by rfl, ?_⟩) (by assumption) ?_
     rotate_left
     ·(intro w hSw; (try dsimp only at hSw); go_simp; try (with_reducible rfl))
     change wpAnyU _ _ _ _ _ _ _ _ (Act.put _ (some 50) _) _
     simp only [Act.put,lsT,ls0,lsS]
     refine uT (v:=?_) 5 rfl (by kernel_rfl) (.inl ⟨by rfl, ?_⟩) (by assumption) ?_
     rotate_left
     ·(intro w hSw; (try dsimp only at hSw); go_simp; try (with_reducible rfl))
     change wpAnyU _ _ _ _ _ _ _ _ (Act.put _ (some 51) _) _
     simp only [Act.put,lsT,ls0,lsS]
     refine uT (v:=?_) 6 rfl (by kernel_rfl) (.inl ⟨by rfl, ?_⟩) (by assumption) ?_
     rotate_left
     ·(intro w hSw; (try dsimp only at hSw); go_simp; try (with_reducible rfl))
     change wpAnyU _ _ _ _ _ _ _ _ (Act.put _ (some 52) _) _
     simp only [Act.put,lsT,ls0,lsS]
     refine uT (v:=?_) 7 rfl (by kernel_rfl) (.inl ⟨by rfl, ?_⟩) (by assumption) ?_
     rotate_left
     ·(intro w hSw; (try dsimp only at hSw); go_simp; try (with_reducible rfl))
     change wpAnyU _ _ _ _ _ _ _ _ (Act.put _ (some 53) _) _
     simp only [Act.put,lsT,ls0,lsS]
     refine uT (v:=?_) 8 rfl (by kernel_rfl) (.inl ⟨by rfl, ?_⟩) (by assumption) ?_
     rotate_left
     ·(intro w hSw; (try dsimp only at hSw); go_simp; try (with_reducible rfl))
     change wpAnyU _ _ _ _ _ _ _ _ (Act.put _ (some 54) _) _
     simp only [Act.put,lsT,ls0,lsS]
     refine uT (v:=?_) 9 rfl (by kernel_rfl) (.inl ⟨by rfl, ?_⟩) (by assumption) ?_
     rotate_left
     ·(intro w hSw; (try dsimp only at hSw); go_simp; try (with_reducible rfl))
     change wpAnyU _ _ _ _ _ _ _ _ (Act.put _ (some 55) _) _
     simp only [Act.put,lsT,ls0,lsS]
     refine uT (v:=?_) 10 rfl (by kernel_rfl) (.inl ⟨by rfl, ?_⟩) (by assumption) ?_
     rotate_left
     ·(intro w hSw; (try dsimp only at hSw); go_simp; try (with_reducible rfl))
     change wpAnyU _ _ _ _ _ _ _ _ (Act.put _ (some 56) _) _
     simp only [Act.put,lsT,ls0,lsS]
     refine uT (v:=?_) 12 rfl (by kernel_rfl) (.inl ⟨by rfl, ?_⟩) (by assumption) ?_
     rotate_left
     ·(intro w hSw; (try dsimp only at hSw); go_simp; try (with_reducible rfl))
     change wpAnyU _ _ _ _ _ _ _ _ (Act.put _ (some 58) _) _
     simp only [Act.put,lsT,ls0,lsS]
     refine uT (v:=?_) 13 rfl (by kernel_rfl) (.inl ⟨by rfl, ?_⟩) (by assumption) ?_
     rotate_left
     ·(intro w hSw; (try dsimp only at hSw); go_simp; try (with_reducible rfl))
     change wpAnyU _ _ _ _ _ _ _ _ (Act.put _ (some 59) _) _
     simp only [Act.put,lsT,ls0,lsS]
     refine uT (v:=?_) 14 rfl (by kernel_rfl) (.inl ⟨by rfl, ?_⟩) (by assumption) ?_
     rotate_left
     ·(intro w hSw; (try dsimp only at hSw); go_simp; try (with_reducible rfl))
     change wpAnyU _ _ _ _ _ _ _ _ (Act.put _ (some 60) _) _
     simp only [Act.put,lsT,ls0,lsS]
     refine uT (v:=?_) 15 rfl (by kernel_rfl) (.inl ⟨by rfl, ?_⟩) (by assumption) ?_
     rotate_left
     ·(intro w hSw; (try dsimp only at hSw); go_simp; try (with_reducible rfl))
     change wpAnyU _ _ _ _ _ _ _ _ (Act.put _ (some 61) _) _
     simp only [Act.put,lsT,ls0,lsS]
     refine uT (v:=?_) 16 rfl (by kernel_rfl) (.inl ⟨by rfl, ?_⟩) (by assumption) ?_
     rotate_left
     ·(intro w hSw; (try dsimp only at hSw); go_simp; try (with_reducible rfl))
     change wpAnyU _ _ _ _ _ _ _ _ (Act.put _ (some 62) _) _
     simp only [Act.put,lsT,ls0,lsS]
     refine wpAnyU_ready (rs:=[11]) (by kernel_rfl) (by simp) ?_
     refine AllReadyU.cons rfl (fun K hK => ?_) AllReadyU.nil
     go_simp
     (refine (ho1.out _ (by repeat (with_reducible first | assumption | exact Fr.refl _ | refine Fr.drew ?_ | refine Fr.drewN ?_ _ | refine Fr.alloc ?_ _ | (refine Fr.setCell ?_ (by simp only [World.size_alloc,World.size_drew,World.size_setCell]; omega) _) | refine Fr.trans ?_ (by assumption)))).mono ?_; rintro e w10 ⟨rfl,hf10⟩)
     go_wp2_with fail
     refine hK.out _ _ (hS0.out _ (by repeat (with_reducible first | assumption | exact Fr.refl _ | refine Fr.drew ?_ | refine Fr.drewN ?_ _ | refine Fr.alloc ?_ _ | (refine Fr.setCell ?_ (by simp only [World.size_alloc,World.size_drew,World.size_setCell]; omega) _) | refine Fr.trans ?_ (by assumption)))) (fun hHeld => ?_)
     clear hK K
     try simp only [Act.put,lsT,ls0,lsS]
     refine wpAnyU_ready (rs:=[17]) (by kernel_rfl) (by simp) ?_
     refine AllReadyU.cons rfl (fun K hK => ?_) AllReadyU.nil
     go_simp
     (refine (ho2.out _ (by repeat (with_reducible first | assumption | exact Fr.refl _ | refine Fr.drew ?_ | refine Fr.drewN ?_ _ | refine Fr.alloc ?_ _ | (refine Fr.setCell ?_ (by simp only [World.size_alloc,World.size_drew,World.size_setCell]; omega) _) | refine Fr.trans ?_ (by assumption)))).mono ?_; rintro e w11 ⟨rfl,hf11⟩)
     go_wp2_with fail
     refine hK.out _ _ (hS0.out _ (by repeat (with_reducible first | assumption | exact Fr.refl _ | refine Fr.drew ?_ | refine Fr.drewN ?_ _ | refine Fr.alloc ?_ _ | (refine Fr.setCell ?_ (by simp only [World.size_alloc,World.size_drew,World.size_setCell]; omega) _) | refine Fr.trans ?_ (by assumption)))) (fun hHeld => ?_)
     clear hK K
     try simp only [Act.put,lsT,ls0,lsS]
     refine wpAnyU_ready (rs:=[18]) (by kernel_rfl) (by simp) ?_
     refine AllReadyU.cons rfl (fun K hK => ?_) AllReadyU.nil
     go_simp
     (refine (hmu.out _ (by repeat (with_reducible first | assumption | exact Fr.refl _ | refine Fr.drew ?_ | refine Fr.drewN ?_ _ | refine Fr.alloc ?_ _ | (refine Fr.setCell ?_ (by simp only [World.size_alloc,World.size_drew,World.size_setCell]; omega) _) | refine Fr.trans ?_ (by assumption)))).mono ?_; rintro e w12 ⟨rfl,hf12⟩)
     go_wp2_with fail
     refine hK.out _ _ (hS0.out _ (by repeat (with_reducible first | assumption | exact Fr.refl _ | refine Fr.drew ?_ | refine Fr.drewN ?_ _ | refine Fr.alloc ?_ _ | (refine Fr.setCell ?_ (by simp only [World.size_alloc,World.size_drew,World.size_setCell]; omega) _) | refine Fr.trans ?_ (by assumption)))) (fun hHeld => ?_)
     clear hK K
     try simp only [Act.put,lsT,ls0,lsS]
     refine wpAnyU_ready (rs:=[19]) (by kernel_rfl) (by simp) ?_
     refine AllReadyU.cons rfl (fun K hK => ?_) AllReadyU.nil
     go_simp
     (refine (had.out _ (by repeat (with_reducible first | assumption | exact Fr.refl _ | refine Fr.drew ?_ | refine Fr.drewN ?_ _ | refine Fr.alloc ?_ _ | (refine Fr.setCell ?_ (by simp only [World.size_alloc,World.size_drew,World.size_setCell]; omega) _) | refine Fr.trans ?_ (by assumption)))).mono ?_; rintro e w13 ⟨rfl,hf13⟩)
     go_wp2_with fail
     refine hK.out _ _ (hS0.out _ (by repeat (with_reducible first | assumption | exact Fr.refl _ | refine Fr.drew ?_ | refine Fr.drewN ?_ _ | refine Fr.alloc ?_ _ | (refine Fr.setCell ?_ (by simp only [World.size_alloc,World.size_drew,World.size_setCell]; omega) _) | refine Fr.trans ?_ (by assumption)))) (fun hHeld => ?_)
     clear hK K
     try simp only [Act.put,lsT,ls0,lsS]
     have hfr8 : Fr wv w13:=((((Fr.refl wv).drew.trans hf10).trans hf11).trans hf12).trans hf13
     refine uT (v:=?_) 20 rfl (by kernel_rfl) (.inl ⟨by rfl, ?_⟩) (by assumption) ?_
     rotate_left
     ·(intro w hSw; (try dsimp only at hSw); go_simp; try (with_reducible rfl))
     change wpAnyU _ _ _ _ _ _ _ _ (Act.put _ (some 66) _) _
     simp only [Act.put,lsT,ls0,lsS]
     have z1:=hfr8.keep x1
     have z2:=hfr8.keepf x1 x2
     clear hHeld
     refine wpAnyU_ready (rs:=[21]) (by kernel_rfl) (by simp) ?_
     refine AllReadyU.last rfl (by kernel_rfl) (by kernel_rfl) (fun K hK => ?_)
     go_simp
     refine hK.out _ _ ?_
     clear hK K
     have hown8:=(hO7.out.fr hfr8).set (k:=c) (by rw [List.length_append,List.length_take,List.length_drop,hl1.out,hl2.out]; omega) (se + kc * xe)
     rw [hset.out,Nat.zero_add] at hown8
     have hf8x:=(hfx7.fr hfr8).setCell (q:=⟨g,c,none⟩) (.inl rfl) (sv (se + kc * xe))
     replace hown8:=Lib.hid hown8
     clear z1 z2
     go_wp2_with fail
     go_roundg (kv - 1)
     case measure => omega
     case rel => exact ⟨c + 1,by go_num,by omega,hf8x,hown8.out⟩
    ·have hdC : decide (c < d) = false:=decide_eq_false hcd
     obtain rfl : d = c:=by omega
     have hO8:=hO7.out
     rw [List.take_of_length_le (by omega),List.drop_of_length_le (by omega),List.append_nil] at hO8
     replace hO8:=Lib.hid hO8
     go_wp2_with fail
     go_roundg (ko - 1)
     case measure => omega
     case rel => exact ⟨i + 1,by go_num,by omega,hfx6.trans hfx7,hO8.out⟩
  ·have hdI : decide (i < d) = false:=decide_eq_false hi
   obtain rfl : d = i:=by omega
   have hb2:=hbk.out _ hFr g gc hO.out.el
   rw [hlen.out d (Nat.le_refl _)] at hb2
   replace hb2:=Lib.hid hb2
   cases hft : (rdT RA cs s0 d).all fitB with
   | true =>
     have hft9:=Lib.hid hft
     clear hft
     go_wp2_with fail
     refine hb2.out.mono ?_
     intro e wD hD
     obtain ⟨vD,rfl,hownD,-,hfD⟩:=hD.1 hft9.out
     rw [hlen.out d (Nat.le_refl _)] at hownD
     obtain ⟨gD,cD,rfl,-⟩:=World.ownsRow.form hownD (by omega)
     have helD:=Lib.hid (el_of_owns hownD)
     clear hownD
     go_wp2_with fail
     go_ret2
     exact ⟨fun _ => ⟨gD,cD,rfl,helD.out,hlen.out d (Nat.le_refl _),hFr.trans hfD⟩,fun h => (by rw [hft9.out] at h; cases h)⟩
   | false =>
     have hft9:=Lib.hid hft
     clear hft
     go_wp2_with fail
     refine hb2.out.mono ?_
     intro e wD hD
     obtain ⟨rfl,hfD⟩:=hD.2 hft9.out
     go_wp2_with fail
     go_ret2
     exact ⟨fun h => (by rw [hft9.out] at h; cases h),fun _ => ⟨rfl,hFr.trans hfD⟩⟩

theorem NRead_ok (N A : List Sy) (d i0 : Nat) (I : List (List Rat)) (cs s0 : List Int) (ca aN aA : Option Addr) (cc cN cA : Nat) (w : World) (hG : G w) (hn : NotIs w aN aA cA N A) (hU : NtOk (N.map Sy.row) (A.map Sy.row) d I) (hc : El w iv ca cs) (hcl : cs.length = d) (hcf : ∀ x,x ∈ cs → fitB x = true)
 (hi0 : i0 < N.length) (hs0 : (N.map Sy.row)[i0]? = some s0) (hok : rdOk (A.map Sy.row) cs s0 d = true) (hfin : ∀ x,x ∈ rdT (A.map Sy.row) cs s0 d → fitB x = true)
 (hck : ∀ W,Fr w W → Calls Tryz.prog 27 #[.agg #[.slice aN N.length cN,.slice aA A.length cA]] W fun e w' => e = .returned (.int .i64 0) ∧ Fr W w') :
 Calls Tryz.prog 13 #[.agg #[.slice aN N.length cN,.slice aA A.length cA],.agg #[.int .i64 i0,.slice ca d cc]] w (NRdRet w (rdT (A.map Sy.row) cs s0 d) d):=by
 obtain ⟨d1,d6,lenA,n1,n60,rowA,rowN,-,-,-⟩:=hU
 rw [List.length_map] at lenA n60
 exact (NRead_any N A d i0 cs s0 ca aN aA cc cN cA w hG hn d1 d6 lenA n60 rowA (rowN s0 (List.mem_of_getElem? hs0)) hc hcl hcf hi0 hs0 (fun i c hi hc2 => (rdOk_at hok hi hc2).2) (fun x hx => fits_sm (hfin x hx)) hck).mono fun e w' h => h.1 (List.all_eq_true.2 hfin)
end Go.Proofs.YtkjemicelmabdaaGreatDoor
