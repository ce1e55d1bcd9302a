/- Contracts and laws: UA. -/
import Derived.Lib.AtoiAll
import Derived.Lib.ItoaLen
import Derived.Lib.ItoaMem
import Derived.Lib.ParseIntB
import GoSem.Op.String
import Derived.Laws.Strings
import Derived.Test.YtkjemicelmabdaaGreatDoorProg
import Derived.WalkKit
import Derived.WalkLawsBesides
import Derived.WalkSpells
import Derived.Outline
import Derived.Lib.Hide
import Derived.BigQuiet
import Derived.Deep.QuietTactic
import Derived.Lib.LaidTab
import Derived.Test.YtkjemicelmabdaaGreatDoorShelf
import Derived.Lib.AtoiErrMem
import Derived.Lib.ParseIntBTie
import Derived.LoopTactic
import Derived.Deep.RegionHeld3
import Derived.Deep.RegionWith
import Derived.Deep.DrawnRows
import Derived.Deep.LoopGhost
import Derived.Deep.AppendLies
import Derived.Maps.AppendAt

set_option maxHeartbeats 1000000
namespace Go.Proofs.YtkjemicelmabdaaGreatDoor
open Go.Lib
theorem hZ {p:Prop} (h:p):Go.RowKit.Hid p:=h
abbrev Aa:=@List.getElem?_eq_getElem
abbrev Ab:=@decide_eq_false
abbrev Ac:=@List.mem_of_getElem?
abbrev Ad:=@decide_eq_true
abbrev Ae:=@World.cell?_setCell_other
abbrev Af:=@Nat.le_refl
abbrev Ag:=@Int.natCast_nonneg
abbrev Ah:=@List.getElem?_eq_some_iff
abbrev Ai:=@List.take_of_length_le
abbrev Aj:=@if_neg
abbrev Ak:=@if_pos
abbrev Al:=@List.length_map
abbrev Am:=@List.getElem?_map
abbrev An:=@Nat.lt_of_lt_of_le
abbrev Ao:=@World.frozen?_setCell
abbrev Ap:=@World.cell?_setCell_same'
abbrev Aq:=@List.eq_nil_of_length_eq_zero
abbrev Ar:=@List.all_eq_true
abbrev As:=@wpList_append_lies
abbrev At:=@List.length_append
abbrev Au:=@of_decide_eq_true
abbrev Av:=@World.ownsRow.alloc
abbrev Aw:=@Nat.le_trans
abbrev Ax:=@List.map_append
abbrev Ay:=@bodyPost_ret
abbrev Az:=@World.size_alloc
abbrev AA:=@Int.natAbs_natCast
abbrev AB:=@List.length_take
abbrev AC:=@IntWalk.i64_in
abbrev AE:=@Nat.zero_add
abbrev AF:=@beq_false_of_ne
abbrev AG:=@info_parts
abbrev AH:=@List.length_replicate
abbrev AJ:=@List.getElem?_eq_none
abbrev AK:=@List.getElem_mem
abbrev AL:=@List.mem_range
abbrev AM:=@List.getElem?_of_mem
abbrev AN:=@List.length_set
abbrev AO:=@World.ownsRow_nil
abbrev AP:=@Bool.and_eq_true
abbrev AQ:=@Go.wp_at_zero
abbrev AR:=@Go.wp_at_succ
abbrev AU:=@List.mem_map
abbrev AV:=@Option.bind_some
abbrev AW:=@Option.map_eq_some_iff
abbrev AX:=@List.getElem?_set
abbrev AY:=@World.block_lt_of_cell?
abbrev AZ:=@Option.bind_eq_some_iff
abbrev A0:=@List.drop_eq_nil_of_le
abbrev A1:=@Int.natAbs_mul
abbrev A2:=@List.mem_cons
abbrev A4:=@List.mem_append
abbrev A5:=@rounds_succ
abbrev A6:=@List.length_cons
abbrev Ba:=@wp_loop_rounds
abbrev Bb:=@Rat.intCast_mul
abbrev Bc:=@Nat.not_lt_zero
abbrev Be:=@List.getElem?_append_left
abbrev Bj:=@List.getElem?_append_right
abbrev Bl:=@Classical.byContradiction
abbrev Bo:=@List.mem_singleton
abbrev Bq:=@List.append_nil
abbrev Br:=@Int.toNat_natCast
abbrev Bs:=@Nat.zero_le
abbrev Bt:=@List.mem_or_eq_of_mem_set
abbrev Bv:=@List.append_assoc
abbrev Bw:=@Option.getD_some
abbrev Bx:=@List.mem_cons_self
abbrev BA:=@Rat.intCast_inj
abbrev BF:=@Nat.mul_le_mul
abbrev BG:=@List.not_mem_nil
abbrev BJ:=@bne_iff_ne
abbrev BP:=@List.length_range
abbrev BR:=@List.map_cons
abbrev BV:=@List.mem_cons_of_mem
abbrev BZ:=@List.getElem?_take
abbrev B1:=@Nat.pow_succ
abbrev B3:=@List.length_drop
abbrev B4:=@List.getElem?_cons_succ
abbrev B5:=@Int.mul_le_mul_of_nonneg_right
abbrev B8:=@Int.lt_trichotomy
abbrev Cb:=@List.drop_eq_getElem_cons
abbrev Cd:=@Int.mul_comm
abbrev Ck:=@Nat.lt_irrefl
abbrev Cr:=@List.getElem?_singleton
abbrev Cs:=@List.getElem?_replicate
abbrev Ct:=@World.ownsRow.form
abbrev Cu:=@Nat.mul_le_mul_right
abbrev Cv:=@List.mem_of_mem_take
abbrev Cy:=@List.map_congr_left
abbrev Cz:=@List.length_pos_iff
abbrev CA:=@ByteArray.toList_eq
abbrev CB:=@List.ext_getElem?
abbrev CC:=@List.any_eq_false
abbrev CH:=@List.getElem?_zipWith
abbrev CJ:=@heap_alloc_new
abbrev CN:=@List.map_map
abbrev CO:=@Int.natCast_mul
abbrev CQ:=@World.size_setCell
abbrev C0:=@decide_eq_true_eq
abbrev C1:=@Nat.min_eq_left
abbrev C7:=@ByteArray.size_append
abbrev Df:=@wpList_make_full
abbrev Dh:=@step_append_lies
abbrev Di:=@Int.mul_zero
abbrev Dn:=@Int.one_mul
abbrev Do:=@Int.mul_le_mul_of_nonneg_left
abbrev Dp:=@Decidable.of_not_not
abbrev Dx:=@Rat.intCast_sub
abbrev DC:=@wp_region_held_drew
abbrev DD:=@List.getElem?_range
abbrev DJ:=@Nat.div_div_eq_div_mul
abbrev DK:=@Int.fmod_nonneg_of_pos
abbrev DL:=@ByteArray.size_extract
abbrev DR:=@Rat.num_divInt_den
abbrev DS:=@List.length_mapIdx
abbrev DT:=@Array.getElem?_eq_some_iff
abbrev DU:=@List.take_append_drop
abbrev DV:=@List.mem_iff_getElem?
abbrev D2:=@List.findIdx?_eq_some_iff_getElem
abbrev D5:=@Option.some.inj
abbrev D6:=@wpAnyH_done
abbrev D7:=@or_false
abbrev D8:=@Nat.gcd_comm
abbrev Ea:=@List.take_succ_eq_append_getElem
abbrev Eb:=@List.take_add_one
abbrev Ec:=@List.getElem?_mapIdx
abbrev Ed:=@List.all_eq_false
abbrev Ee:=@Lib.data_getElem?
abbrev Ek:=@List.eq_of_mem_replicate
abbrev Ev:=@List.mem_map_of_mem
abbrev Ew:=@List.length_zipWith
abbrev Ex:=@List.getElem_of_mem
abbrev Ez:=@beq_self_eq_true
abbrev EA:=@Int.natAbs_neg
abbrev EK:=@Nat.add_zero
abbrev EL:=@List.drop_of_length_le
abbrev EM:=@Int.lt_or_gt_of_ne
abbrev EN:=@Int.fmod_lt_of_pos
abbrev EV:=@Rat.num_intCast
abbrev E3:=@World.ownsRow_lit
abbrev E4:=@Rat.divInt_eq_div
abbrev Fh:=@Nat.pow_le_pow_right
abbrev Fi:=@List.take_zero
abbrev Fj:=@List.drop_zero
abbrev Fk:=@Int.tdiv_eq_ediv_of_nonneg
abbrev Fl:=@Int.natAbs_sign_of_ne_zero
abbrev Fm:=@Int.mul_nonneg
abbrev Fn:=@AllReadyH.cons
abbrev Fy:=@List.drop_length
abbrev Fz:=@Int.lt_or_le
abbrev FP:=@Option.isSome_iff_exists
abbrev FU:=@Rat.den_intCast
abbrev FV:=@List.nil_append
abbrev FW:=@Int.mul_ne_zero
abbrev Gh:=@Rat.div_mul_cancel
abbrev Gi:=@getD_set_ne
abbrev Gj:=@Nat.one_mul
abbrev GE:=@ByteArray.data_extract
abbrev G4:=@Rat.divInt_mul_divInt
abbrev G5:=@Int.mul_fdiv_add_fmod
abbrev Hv:=@Nat.mod_lt
abbrev HC:=@Rat.div_def
abbrev HD:=@Int.le_refl
abbrev HE:=@Int.add_mul
abbrev HF:=@Array.toList_extract
abbrev HG:=@Array.size_replicate
abbrev Ia:=@World.size_drew
abbrev Ib:=@Option.map_some
abbrev Ic:=@Nat.div_add_mod
abbrev Is:=@beq_eq_false_iff_ne
abbrev It:=@Nat.mul_le_mul_left
abbrev IC:=@Nat.sub_self
abbrev Jg:=@List.getElem?_drop
abbrev J3:=@List.findIdx?_eq_none_iff
abbrev J4:=@Int.sign_eq_zero_iff_zero
abbrev Ky:=@Nat.gcd_pos_of_pos_right
abbrev Kz:=@List.map_take
abbrev KA:=@Array.setIfInBounds_comm
abbrev KX:=@forall_eq_or_imp
abbrev KY:=@Nat.mod_eq_of_lt
abbrev KZ:=@List.getElem?_cons_zero
abbrev K0:=@List.any_eq_true
abbrev K1:=@Int.eq_ofNat_of_zero_le
abbrev My:=@ready_mono
abbrev Mz:=@Rat.mul_comm
abbrev MA:=@Int.sub_zero
abbrev MB:=@Array.getElem?_eq_none
abbrev MD:=@wpList_make_own
abbrev ME:=@Rat.intCast_add
abbrev MF:=@Nat.div_le_self
abbrev MG:=@List.all_append
abbrev MH:=@Exit.noGoto_ret
abbrev M5:=@UInt8.lt_iff_toNat_lt
abbrev M6:=@List.mem_append_right
abbrev M7:=@ByteArray.data_append
abbrev OD:=@List.mem_of_mem_drop
abbrev OE:=@Lib.size_eq
abbrev OG:=@Int.ofNat_tdiv
abbrev OH:=@Int.neg_neg
abbrev OI:=@Int.mul_add
abbrev OJ:=@DataW.trod_int
abbrev OK:=@Calls.quiet_of
abbrev ON:=@mem_ready
abbrev OO:=@enters_of
abbrev Ql:=@Array.toList_append
abbrev Qo:=@Int.mul_assoc
abbrev Qp:=@Bool.false_or
abbrev Qq:=@AllReadyH.nil
abbrev Ro:=@Nat.lt_of_le_of_lt
abbrev Rp:=@Nat.gcd_zero_right
abbrev Rq:=@List.map_singleton
abbrev Rr:=@Int.sub_eq_add_neg
abbrev TD:=@wpList_append_own
abbrev TE:=@wpAnyH_ready
abbrev TF:=@if_false
abbrev TG:=@Rat.zero_mul
abbrev TH:=@Nat.mul_comm
abbrev TI:=@Nat.min_self
abbrev TJ:=@Nat.lt_trans
abbrev TK:=@Nat.add_comm
abbrev TL:=@List.count_append
abbrev TM:=@Int.add_zero
abbrev TN:=@Bool.not_eq_true'
abbrev TP:=@List.replicate_append_replicate
abbrev VM:=@Nat.gcd_le_right
abbrev VN:=@List.take_append
abbrev VP:=@Rat.one_mul
abbrev VQ:=@Rat.neg_mul
abbrev VR:=@Nat.pow_pos
abbrev VS:=@Nat.mul_one
abbrev VT:=@List.count_eq_zero_of_not_mem
abbrev Xl:=@UInt8.toNat_inj
abbrev XC:=@Int.sign_eq_neg_one_iff_neg
abbrev Ys:=@Rat.num_divInt
abbrev Yt:=@Rat.den_divInt
abbrev Yu:=@List.findSome?_eq_none_iff
abbrev Yv:=@Int.fdiv_eq_ediv_of_nonneg
abbrev Yz:=@Int.natAbs_ediv_le_natAbs
abbrev YA:=@Int.eq_of_mul_eq_mul_left
abbrev Y4:=@WideMaps.keyOf_string_mk
abbrev Y5:=@Nat.mul_assoc
abbrev Zb:=@wpOp_step
abbrev Zc:=@forall_eq
abbrev Zd:=@decide_eq_false_iff_not
abbrev Ze:=@Nat.le_mul_of_pos_right
abbrev Zf:=@List.length_eq_zero_iff
abbrev Zg:=@Int.tdiv_eq_ediv_of_dvd
abbrev Zy:=@run_convert_bytes_back
abbrev Zz:=@dif_neg
abbrev ZA:=@Rat.add_def'
abbrev ZB:=@Nat.zero_mul
abbrev ZC:=@Nat.pow_zero
abbrev ZD:=@Nat.le_mul_of_pos_left
abbrev ZE:=@List.zipWith_cons_cons
abbrev ZF:=@List.getElem?_set_self
abbrev ZG:=@List.findIdx_le_length
abbrev ZH:=@Int.zero_mul
abbrev ZI:=@Int.neg_tdiv
abbrev ZJ:=@Int.le_of_lt
abbrev ZM:=@Nat.div_lt_iff_lt_mul
abbrev ZN:=@List.singleton_append
abbrev ZO:=@List.length_singleton
abbrev ZP:=@List.contains_iff_mem
abbrev ZQ:=@Int.mul_tdiv_add_tmod
abbrev ZR:=@Int.fdiv_fmod_unique'
abbrev ZX:=@nDigits_pos
abbrev ZY:=@Region.noSelect_spec
abbrev ZZ:=@Nat.pow_add
abbrev Z0:=@Nat.mul_pos
abbrev Z1:=@Nat.gcd_rec
abbrev Z2:=@Nat.div_one
abbrev Z3:=@Nat.add_mul
abbrev Z4:=@Int.neg_mul
abbrev Z5:=@Int.fdiv_fmod_unique
abbrev Z6:=@List.zipWith_append
abbrev Z7:=@List.take_set_of_le
abbrev Z8:=@List.flatMap_append
abbrev Z9:=@List.drop_set_of_lt
def tx (n:Int):ByteArray:=⟨(itoa n).toArray⟩
def A8 (acc:Nat):List UInt8→Nat
 | []=>acc
 | c :: r=>A8 (acc * 10+(c.toNat - 48)) r
theorem D0 (l m:List UInt8) (a:Nat):A8 a (l ++ m)=A8 (A8 a l) m:=by
 induction l generalizing a with
 | nil=>rfl
 | cons c r ih=>exact ih _
theorem FS (k:Nat) (h:k < 10):(UInt8.ofNat (48+k)).toNat=48+k:=by
 rw [UInt8.toNat_ofNat']
 exact KY (An (show 48+k < 58 by omega) (by decide))
theorem Cm (u:Nat):A8 0 (decDigits u)=u:=by
 induction u using Nat.strongRecOn with
 | _ u ih=>
   by_cases h:u < 10
   ·rw [decDigits,dif_pos h]
    show 0 * 10+((UInt8.ofNat (48+u)).toNat - 48)=u
    rw [FS u h]; omega
   ·rw [decDigits,Zz h,D0,ih (u / 10) (by omega)]
    show u / 10 * 10+((UInt8.ofNat (48+u % 10)).toNat - 48)=u
    rw [FS (u % 10) (by omega)]; omega
theorem Cn (u:Nat):∀ c ∈ decDigits u,48≤c.toNat∧c.toNat≤57:=by
 induction u using Nat.strongRecOn with
 | _ u ih=>
   by_cases h:u < 10
   ·rw [decDigits,dif_pos h]; intro c hc
    simp only [Bo] at hc; subst hc; rw [FS u h]; omega
   ·rw [decDigits,Zz h]; intro c hc
    rcases A4.1 hc with hc | hc
    ·exact ih (u / 10) (by omega) c hc
    ·simp only [Bo] at hc; subst hc; rw [FS (u % 10) (by omega)]; omega
theorem HY (u:Nat):decDigits u≠[]:=by
 intro h
 have:=decDigits_length u
 rw [h] at this
 have:=ZX u
 simp at *; omega
theorem R2 {u v:Nat} (h:decDigits u=decDigits v):u=v:=by
 have:=Cm u; rw [h,Cm] at this; exact this.symm
theorem Pt {n m:Int} (h:itoa n=itoa m):n=m:=by
 unfold itoa at h
 have hd:∀ u c r,decDigits u=c :: r→48≤c.toNat:=fun u c r e=>(Cn u c (by rw [e]; simp)).1
 split at h <;> split at h
 ·injection h with _ h; have:=R2 h; omega
 ·have:=hd _ _ _ h.symm; simp at this
 ·have:=hd _ _ _ h; simp at this
 ·have:=R2 h; omega
theorem XD {n m:Int} (h:tx n=tx m):n=m:=by
 unfold tx at h
 injection h with h
 exact Pt (by simpa using congrArg Array.toList h)
theorem Fo (n:Int):(tx n).data.toList=itoa n:=by simp [tx]
theorem DM (n:Int):(tx n).size=(itoa n).length:=by simp [tx,ByteArray.size]
theorem Ca {n:Int} (h:0≤n):itoa n=decDigits n.toNat:=by unfold itoa; rw [Aj (by omega)]
theorem FI {n:Int} (h:n < 0):itoa n=45 :: decDigits n.natAbs:=by unfold itoa; rw [Ak h]
theorem JE (n:Int):0 < (itoa n).length:=by
 by_cases h:n < 0
 ·rw [FI h]; simp
 ·rw [Ca (by omega)]; exact Cz.2 (HY _)
theorem HI (n:Int):0 < (tx n).size:=by rw [DM]; exact JE n
theorem Eh (k u:Nat) (hk:1≤k) (h:u < 10 ^ k):nDigits u≤k:=by
 induction k generalizing u with
 | zero=>omega
 | succ k ih=>
   by_cases h9:u < 10
   ·rw [nDigits_small h9]; omega
   ·rw [nDigits_big h9]
    by_cases hk0:k=0
    ·subst hk0; simp at h; omega
    ·have:=ih (u / 10) (by omega) (by rw [B1] at h; omega)
     omega
theorem BE (k:Nat) (n:Int) (hk:1≤k) (h:n.natAbs < 10 ^ k):(tx n).size≤k+1:=by
 rw [DM]
 by_cases h0:n < 0
 ·rw [FI h0]; have:=Eh k n.natAbs hk h; simp [decDigits_length]; omega
 ·rw [Ca (by omega),decDigits_length]
  have:=Eh k n.toNat hk (by omega); omega
theorem TU {n:Int} {c:UInt8} {r:List UInt8} (h:itoa n=c :: r) (hp:0 < (tx n).size):(tx n)[0]'hp=c:=by
 have e:(tx n).data=(c :: r).toArray:=by simp [tx,h]
 show (tx n).data[0]=c
 simp [e]
theorem FZ {n:Int} (h:n < 0) (hp:0 < (tx n).size):((((tx n)[0]'hp).toNat:Int) == 45)=true:=by
 rw [TU (FI h) hp]; rfl
theorem FY {n:Int} (h:0≤n) (hp:0 < (tx n).size):((((tx n)[0]'hp).toNat:Int) == 45)=false:=by
 cases e:itoa n with
 | nil=>have:=JE n; rw [e] at this; simp at this
 | cons c r=>
   rw [TU e hp]
   have e2:=Ca h
   have:=(Cn n.toNat c (by rw [← e2,e]; simp)).1
   simp; omega
theorem H1 {a b:ByteArray} (h:a.data.toList=b.data.toList):a=b:=by
 cases a; cases b; congr; exact Array.toList_inj.1 h
theorem Jk {n:Int} (h:n < 0):(tx n).extract 1 (tx n).size=tx (-n):=by
 refine H1 ?_
 have h1:itoa n=45 :: itoa (-n):=by
  rw [FI h,Ca (by omega)]; congr 2; omega
 rw [Fo,GE,HF]
 have e:(tx n).data.toList=45 :: itoa (-n):=by rw [Fo,h1]
 have e2:(tx n).size=(itoa (-n)).length+1:=by rw [DM,h1]; rfl
 rw [e,e2]; simp [List.extract]
theorem NV {n:Int} (h:0 < n):(⟨#[45]⟩:ByteArray) ++ tx n=tx (-n):=by
 refine H1 ?_
 rw [Fo,FI (by omega),M7,Ql,Fo,Ca (by omega)]
 simp; congr 1; omega
theorem G7:tx 0=⟨#[48]⟩:=by decide +kernel
theorem Gy:tx 1=⟨#[49]⟩:=by decide +kernel
theorem Hw:∀ (l:List UInt8) (acc:Nat),(∀ c ∈ l,48≤c.toNat∧c.toNat≤57)→A8 acc l < 18446744073709551616→parseUint10 acc l=.ok (A8 acc l)
 | [],acc,_,_=>rfl
 | c :: r,acc,hd,hb=>by
   have hc:=hd c (by simp)
   have mono:∀ (l:List UInt8) (a:Nat),a≤A8 a l:=by
    intro l; induction l with
    | nil=>intro a; exact Af _
    | cons x l ih=>intro a; exact Aw (by omega) (ih (a * 10+(x.toNat - 48)))
   have hb:A8 (acc * 10+(c.toNat - 48)) r < 18446744073709551616:=hb
   show _=NumEnd.ok (A8 (acc * 10+(c.toNat - 48)) r)
   have hm:=mono r (acc * 10+(c.toNat - 48))
   rw [parseUint10,Ak hc,Aj (by omega),Aj (by omega)]
   exact Hw r _ (fun x hx=>hd x (by simp [hx])) hb
theorem JA (u:Nat) (h:u < 18446744073709551616):parseMag (decDigits u)=.ok u:=by
 unfold parseMag
 rw [Aj (HY u),Hw _ _ (Cn u) (by rw [Cm]; exact h),Cm]
theorem JV (n:Int) (h0:-9223372036854775808≤n) (h1:n≤9223372036854775807):atoiAll (tx n).data.toList=.ok n:=by
 rw [Fo]
 by_cases h:n < 0
 ·rw [FI h]
  simp only [atoiAll]
  rw [Ak (by right; rfl),JA _ (by omega)]
  have e45:(45:UInt8).toNat=45:=rfl
  simp only [e45,not_true_eq_false,false_and,TF,true_and,if_true]
  rw [Aj (by omega)]
  congr 1; omega
 ·have e:=Ca (n:=n) (by omega)
  rw [e]
  cases ed:decDigits n.toNat with
  | nil=>exact absurd ed (HY _)
  | cons c r=>
    have hc:=Cn n.toNat c (by rw [ed]; simp)
    have hp:=JA n.toNat (by omega)
    rw [ed] at hp
    simp only [atoiAll]
    rw [Aj (by omega),hp]
    have h45:¬ c.toNat=45:=by omega
    simp only [h45,not_false_eq_true,true_and,false_and,TF]
    rw [Aj (by omega)]
    congr 1; omega
theorem C3:∀ (l:List UInt8) (a:Nat),(∀ c ∈ l,48≤c.toNat∧c.toNat≤57)→a * 10 ^ l.length≤A8 a l∧A8 a l < (a+1) * 10 ^ l.length
 | [],a,_=>⟨by show a * 1≤a; omega,by show a < (a+1) * 1; omega⟩
 | c :: r,a,h=>by
   have hc:=h c (by simp)
   obtain ⟨h1,h2⟩:=C3 r (a * 10+(c.toNat - 48)) (fun x hx=>h x (by simp [hx]))
   have e:(c :: r).length=r.length+1:=rfl
   have q1:a * 10 ^ (r.length+1)=(a * 10) * 10 ^ r.length:=by rw [B1,TH (10 ^ r.length) 10,← Y5]
   have q2:(a+1) * 10 ^ (r.length+1)=(a * 10+10) * 10 ^ r.length:=by rw [B1,TH (10 ^ r.length) 10,← Y5,Z3 a 1 10]
   rw [e,q1,q2]
   exact ⟨Aw (Cu _ (by omega)) h1,An h2 (Cu _ (by omega))⟩
theorem Pr:∀ (l m:List UInt8) (a:Nat),(∀ c ∈ l,48≤c.toNat∧c.toNat≤57)→(∀ c ∈ m,48≤c.toNat∧c.toNat≤57)→l.length=m.length →
 Op.bytesLess l m=decide (A8 a l < A8 a m)
 | [],[],a,_,_,_=>by
   show false=decide (a < a); simp
 | [],_ :: _,_,_,_,h=>by simp at h
 | _ :: _,[],_,_,_,h=>by simp at h
 | c :: l,d :: m,a,hl,hm,h=>by
   have hc:=hl c (by simp)
   have hd:=hm d (by simp)
   have hl':∀ x ∈ l,48≤x.toNat∧x.toNat≤57:=fun x hx=>hl x (by simp [hx])
   have hm':∀ x ∈ m,48≤x.toNat∧x.toNat≤57:=fun x hx=>hm x (by simp [hx])
   have hlen:l.length=m.length:=by simpa using h
   obtain ⟨a1,a2⟩:=C3 l (a * 10+(c.toNat - 48)) hl'
   obtain ⟨b1,b2⟩:=C3 m (a * 10+(d.toNat - 48)) hm'
   show (decide (c < d) || (c == d && Op.bytesLess l m))=decide (A8 (a * 10+(c.toNat - 48)) l < A8 (a * 10+(d.toNat - 48)) m)
   rw [hlen] at a1 a2
   rcases Nat.lt_trichotomy c.toNat d.toNat with hlt | heq | hgt
   ·have e1:c < d:=M5.2 hlt
    have:(a * 10+(c.toNat - 48)+1) * 10 ^ m.length≤(a * 10+(d.toNat - 48)) * 10 ^ m.length:=Cu _ (by omega)
    rw [Ad e1,Bool.true_or]
    exact (Ad (An a2 (Aw this b1))).symm
   ·obtain rfl:c=d:=Xl.1 heq
    have e1:¬ c < c:=fun h=>Ck _ (M5.1 h)
    rw [Ab e1,Ez,Qp,Bool.true_and]
    exact Pr l m _ hl' hm' hlen
   ·have e1:¬ c < d:=fun h=>by have:=M5.1 h; omega
    have e2:(c == d)=false:=by
     rw [Is]; intro h; rw [h] at hgt; omega
    have:(a * 10+(d.toNat - 48)+1) * 10 ^ m.length≤(a * 10+(c.toNat - 48)) * 10 ^ m.length:=Cu _ (by omega)
    rw [Ab e1,e2,Bool.false_and,Qp]
    refine (Ab ?_).symm
    have:=An b2 (Aw this a1)
    omega
theorem UH (u v:Nat) (h:(decDigits u).length=(decDigits v).length):Op.bytesLess (decDigits u) (decDigits v)=decide (u < v):=by
 rw [Pr _ _ 0 (Cn u) (Cn v) h,Cm,Cm]
theorem Jx (u:Nat) (h:2≤nDigits u):10 ^ (nDigits u - 1)≤u:=by
 induction u using Nat.strongRecOn with
 | _ u ih=>
   by_cases h9:u < 10
   ·rw [nDigits_small h9] at h; omega
   ·rw [nDigits_big h9]
    by_cases h2:2≤nDigits (u / 10)
    ·have:=ih (u / 10) (by omega) h2
     have e:nDigits (u / 10)+1 - 1=(nDigits (u / 10) - 1)+1:=by omega
     rw [e,B1]; omega
    ·have:=ZX (u / 10)
     have e:nDigits (u / 10)=1:=by omega
     rw [e]; show 10 ^ 1≤u; omega
theorem GQ (u v:Nat) (h:nDigits u < nDigits v):u < v:=by
 have h1:=lt_pow_nDigits u
 have h2:=Jx v (by have:=ZX u; omega)
 have h3:10 ^ nDigits u≤10 ^ (nDigits v - 1):=Fh (by decide) (by omega)
 omega
theorem Id (n:Int):(tx n).toList=itoa n:=by rw [CA,Fo]
theorem Lk (n m:Int):((tx n).toList == itoa m)=decide (n=m):=by
 rw [Id]
 by_cases h:n=m
 ·subst h; simp
 ·rw [Ab h]
  rw [Is]; exact fun e=>h (Pt e)
theorem YI:itoa 0=[48]:=by decide +kernel
theorem UK:itoa 1=[49]:=by decide +kernel
theorem DE (n:Int):((tx n).toList == [48])=decide (n=0):=by rw [← YI]; exact Lk n 0
theorem VX (n m:Int):((tx n).toList == (tx m).toList)=decide (n=m):=by rw [Id m]; exact Lk n m
theorem Rt (u v:Nat) (h:(tx u).size=(tx v).size):Op.bytesLess (tx u).toList (tx v).toList=decide (u < v):=by
 rw [DM,DM,Ca (by omega),Ca (by omega)] at h
 rw [Id,Id,Ca (by omega),Ca (by omega)]
 exact UH u v h
theorem Dq (u:Nat):(tx (u:Int)).size=nDigits u:=by
 rw [DM,Ca (by omega),decDigits_length]; rfl
end Go.Proofs.YtkjemicelmabdaaGreatDoor
namespace Go.Proofs.YtkjemicelmabdaaGreatDoor
open Go.RowKit Go.Lib
def G (w : World) : Prop := TabIs Tryz.prog w "internal/strconv.uint64pow10" .u64 pow10Tab
def Fr (w w':World):Prop:=Below w.heap.size w w'
theorem Fr.refl (w:World):Fr w w:=Below.refl _ _
theorem Fr.of_eq {w w':World} (h:w=w'):Fr w w':=h ▸ Fr.refl w
theorem Fr.size {w w':World} (h:Fr w w'):w.heap.size≤w'.heap.size:=Below.size h
theorem Fr.trans {a b c:World} (h:Fr a b) (k:Fr b c):Fr a c:=Below.trans h (Below.mono k h.size)
theorem Fr.drew {a b:World} (h:Fr a b):Fr a b.drew:=Below.drew h
theorem Fr.drewN {a b:World} (h:Fr a b) (n:Nat):Fr a (b.drewN n) :=
 have h:Below a.heap.size a b:=h
 show Below a.heap.size a (b.drewN n) from ⟨h.os,h.tape,h.output,h.size,h.block⟩
theorem Fr.alloc {a b:World} (h:Fr a b) (o:Obj):Fr a (b.alloc o):=Below.alloc h h.size o
theorem Fr.setCell {a b:World} (h:Fr a b) {p:Addr} (hp:a.heap.size≤p.block) (u:Value):Fr a (b.setCell p u):=Below.setCell h hp u
theorem Fr.grown {a b c:World} {row:Option Nat} (h:Fr a b) (hg:b.grownBy c row) (hr:∀ k,row=some k→a.heap.size≤k):Fr a c :=
 Below.grown h hg h.size hr
theorem BM {a b:World} (h:Fr a b:=by repeat (with_reducible first | assumption | exact Fr.refl _ | refine Fr.drew ?_ | refine Fr.drewN ?_ _ | refine Fr.alloc ?_ _ | (refine Fr.setCell ?_ (by simp only [Az,Ia,CQ]; omega) _) | refine Fr.trans ?_ (by assumption))):Fr a b:=h
theorem Fr.cell {w w':World} (h:Fr w w') {p:Addr} (hp:p.block < w.heap.size):w'.cell? p=w.cell? p:=Below.cell h hp
theorem Fr.frozen {w w':World} (h:Fr w w') {p:Addr} (hp:p.block < w.heap.size):w'.frozen? p=w.frozen? p:=Below.frozen h hp
theorem Fr.cells {w w':World} (h:Fr w w'):(∀ b o,b < w.heap.size→w'.cell? ⟨b,o,none⟩=w.cell? ⟨b,o,none⟩)∧(∀ b o,b < w.heap.size→w'.frozen? ⟨b,o,none⟩=w.frozen? ⟨b,o,none⟩) :=
 ⟨fun b o hb=>h.cell (p:=⟨b,o,none⟩) hb,fun b o hb=>h.frozen (p:=⟨b,o,none⟩) hb⟩
theorem Fr.keep {w w':World} (h:Fr w w') {p:Addr} {v:Value} (hc:w.cell? p=some v):w'.cell? p=some v:=by
 rw [h.cell (AY w p hc)]; exact hc
theorem Fr.keepf {w w':World} (h:Fr w w') {p:Addr} {v:Value} {b:Bool} (hc:w.cell? p=some v) (hf:w.frozen? p=b):w'.frozen? p=b:=by
 rw [h.frozen (AY w p hc)]; exact hf
def Qt (w w':World):Prop:=∃ n,w'=w.drewN n
theorem Qt.refl (w:World):Qt w w:=⟨0,rfl⟩
theorem Qt.trans {a b c:World} (h:Qt a b) (k:Qt b c):Qt a c:=by
 obtain ⟨n,rfl⟩:=h; obtain ⟨m,rfl⟩:=k; exact ⟨n+m,by simp [World.drewN,Nat.add_assoc]⟩
theorem Qt.drewN {a b:World} (h:Qt a b) (n:Nat):Qt a (b.drewN n):=h.trans ⟨n,rfl⟩
theorem Qt.drew {a b:World} (h:Qt a b):Qt a b.drew:=h.trans ⟨1,rfl⟩
theorem Qt.fr {w w':World} (h:Qt w w'):Fr w w':=by obtain ⟨n,rfl⟩:=h; exact (Fr.refl w).drewN n
theorem TR {P:Program} {g:Nat} {W:World} {n:String} {cs:Array Value} (hg:P.globalNamed n=some g) (hv:W.var? P n=some cs):g < W.heap.size:=by
 unfold World.var? at hv
 simp only [hg,AV] at hv
 by_cases h:g < W.heap.size
 ·exact h
 ·rw [MB (by omega)] at hv; simp at hv
theorem S1 : Tryz.prog.globalNamed "internal/strconv.uint64pow10" = some 3 := by kernel_rfl
theorem G.fr {w w':World} (h:G w) (k:Fr w w'):G w':=var?_below k S1 (TR S1 h) h
theorem G.lt {w:World} (h:G w):3 < w.heap.size:=TR S1 h
theorem G.below {B:Nat} {w w':World} (h:G w) (hB:3 < B) (k:Below B w w'):G w':=var?_below k S1 hB h
end Go.Proofs.YtkjemicelmabdaaGreatDoor
namespace Go.Proofs.YtkjemicelmabdaaGreatDoor
open Go.RowKit Go.Lib Go.Sort
theorem RW (w:World) (k:Nat) (os:Array Obj):Fr w (grow (w.drewN k) os):=
 (show Below w.heap.size w (grow (w.drewN k) os) from ⟨rfl,rfl,rfl,by simp [grow],fun i hi=>by simp [grow,Array.getElem?_append,hi]⟩)
theorem L3 {w w':World} {e:TypeId} (h:w'=w∨∃ t,w'=bytesWorld w e t):Fr w w':=by
 rcases h with rfl | ⟨t,rfl⟩
 ·exact Fr.refl _
 ·exact bytesWorld_below w e t
theorem Fu (n:Int) (h0:-9223372036854775808≤n) (h1:n≤9223372036854775807) (w:World) (hG:G w) :
 Calls Tryz.prog 63 #[.int .i64 n] w fun e w'=>e=.returned (.string (tx n))∧Fr w w' :=
 (Tryz.strconv_Itoa n h0 h1 w hG).mono (by rintro e w' ⟨rfl,k,os,rfl⟩; exact ⟨rfl,RW _ _ _⟩)
theorem Mj (n:Int) (h0:-9223372036854775808≤n) (h1:n≤9223372036854775807) (w:World) :
 Calls Tryz.prog 47 #[.string (tx n)] w fun e w'=>e=.returned (.tuple #[.int .i64 n,.nilIface])∧Fr w w' :=
 (Tryz.strconv_Atoi_ok (tx n) (by have:=BE 19 n (by omega) (by omega); omega) n (JV n h0 h1) w).mono (by rintro e w' ⟨rfl,h⟩; exact ⟨rfl,L3 h⟩)
theorem Dm (n:Int) (h0:-9223372036854775808≤n) (h1:n≤9223372036854775807) (w:World) (hG:G w) :
 Calls Tryz.prog 40 #[.int .i64 n] w fun e w'=>e=.returned (.string (tx n))∧Fr w w':=by
 go_enter Tryz.func40,Tryz.ntmps40
 go_wp2_with (go_at_call 63; refine (Fu _ h0 h1 _ hG).mono ?_; rintro e w' ⟨rfl,hf⟩)
 go_ret
 exact ⟨rfl,hf⟩
theorem GN (n:Int) (hn:n < 0) (w:World) (hs:(tx n).size≤1000000000) :
 Calls Tryz.prog 82 #[.string (tx n)] w fun e w'=>e=.returned (.tuple #[.bool true,.string (tx (-n))])∧Qt w w':=by
 have h1:=HI n
 have h2:=FZ hn h1
 have h3:=hZ (Jk hn)
 generalize tx n=s at *
 go_enter Tryz.func82,Tryz.ntmps82
 go_wp2
 go_quiet (fail)
 go_wp2
 go_ret2
 exact ⟨by rw [h3.out]; rfl,by repeat (with_reducible first | assumption | exact Qt.refl _ | refine Qt.drew ?_ | refine Qt.drewN ?_ _ | refine Qt.trans ?_ (by assumption))⟩
theorem Lv (n:Int) (hn:n < 0) (w:World) (hs:(tx n).size≤1000000000) :
 Calls Tryz.prog 82 #[.string (tx n)] w fun e w'=>e=.returned (.tuple #[.bool true,.string (tx (-n))])∧Fr w w' :=
 (GN n hn w hs).mono fun _ _ ⟨h,k⟩=>⟨h,k.fr⟩
theorem GM (n:Int) (hn:0≤n) (w:World) (_hs:(tx n).size≤1000000000) :
 Calls Tryz.prog 82 #[.string (tx n)] w fun e w'=>e=.returned (.tuple #[.bool false,.string (tx n)])∧Qt w w':=by
 have h1:=HI n
 have h2:=FY hn h1
 generalize tx n=s at *
 go_enter Tryz.func82,Tryz.ntmps82
 go_wp2
 go_ret2
 exact ⟨rfl,Qt.refl _⟩
theorem Lu (n:Int) (hn:0≤n) (w:World) (_hs:(tx n).size≤1000000000) :
 Calls Tryz.prog 82 #[.string (tx n)] w fun e w'=>e=.returned (.tuple #[.bool false,.string (tx n)])∧Fr w w' :=
 (GM n hn w _hs).mono fun _ _ ⟨h,k⟩=>⟨h,k.fr⟩
theorem JD (b:Bool) (n:Int) (hn:0≤n) (w:World) (_hs:(tx n).size≤1000000000) :
 Calls Tryz.prog 83 #[.bool b,.string (tx n)] w fun e w'=>e=.returned (.string (tx (if b then -n else n)))∧w=w':=by
 cases b
 ·go_enter Tryz.func83,Tryz.ntmps83
  go_wp2
  go_ret
  exact ⟨by simp,rfl⟩
 ·by_cases h:n=0
  ·have hb:((tx n).toList == [48])=true:=by rw [DE]; simp [h]
   have hh:=hZ h; clear h
   go_enter Tryz.func83,Tryz.ntmps83
   go_wp2
   go_ret
   exact ⟨by rw [hh.out]; rfl,rfl⟩
  ·have hb:((tx n).toList == [48])=false:=by rw [DE]; simp [h]
   have hj:=hZ (NV (n:=n) (by omega)); clear h
   go_enter Tryz.func83,Tryz.ntmps83
   go_wp2
   go_ret
   exact ⟨by rw [hj.out]; rfl,rfl⟩
theorem Cg (n most:Int) (h0:-9223372036854775808≤n) (h1:n≤9223372036854775807) (w:World) (hs:((tx n).size:Int)≤most) :
 Calls Tryz.prog 81 #[.string (tx n),.int .i64 most] w fun e w'=>e=.returned (.tuple #[.int .i64 n,.bool true])∧Fr w w':=by
 go_enter Tryz.func81,Tryz.ntmps81
 go_wp2_with (go_at_call 47; refine (Mj _ h0 h1 _).mono ?_; rintro e w' ⟨rfl,hf⟩)
 go_quiet (fail)
 go_wp2
 go_ret2
 exact ⟨rfl,by exact BM⟩
theorem Nt (n most:Int) (w:World) (hs:most < ((tx n).size:Int)) (_hb:(tx n).size≤1000000000) :
 Calls Tryz.prog 81 #[.string (tx n),.int .i64 most] w fun e w'=>e=.returned (.tuple #[.int .i64 0,.bool false])∧w=w':=by
 go_enter Tryz.func81,Tryz.ntmps81
 go_wp2
 go_ret2
 exact ⟨rfl,rfl⟩
theorem DI (n:Int) (w:World) :
 Calls Tryz.prog 166 #[.string (tx n)] w fun e w'=>e=.returned (.int .i64 n.sign)∧w=w':=by
 have hp:=HI n
 have hb:=DE n
 rcases B8 n 0 with h | h | h
 ·have h2:=FZ h hp
  rw [Ab (by omega)] at hb
  have hs:=hZ (Int.sign_eq_neg_one_of_neg h); clear h
  go_enter Tryz.func166,Tryz.ntmps166
  go_wp2
  go_ret
  exact ⟨by rw [hs.out]; rfl,rfl⟩
 ·rw [Ad h] at hb
  have hs:=hZ h; clear h
  go_enter Tryz.func166,Tryz.ntmps166
  go_wp2
  go_ret
  exact ⟨by rw [hs.out]; rfl,rfl⟩
 ·have h2:=FY (by omega) hp
  rw [Ab (by omega)] at hb
  have hs:=hZ (Int.sign_eq_one_of_pos h); clear h
  go_enter Tryz.func166,Tryz.ntmps166
  go_wp2
  go_ret
  exact ⟨by rw [hs.out]; rfl,rfl⟩
def Iz (a b:Int):Int:=if a < b then -1 else if b < a then 1 else 0
theorem Bp {k:IntKind} {a b:Int} (h:a=b):Ending.returned (.int k a)=Ending.returned (.int k b):=by rw [h]
theorem Wd {a b:ByteArray} (h:a=b):Ending.returned (.string a)=Ending.returned (.string b):=by rw [h]
theorem WO (u v:Nat) (w:World) (hu:nDigits u < 1000000000) (hv:nDigits v < 1000000000) :
 Calls Tryz.prog 85 #[.string (tx u),.string (tx v)] w fun e w'=>e=.returned (.int .i64 (Iz u v))∧w=w':=by
 have su:=Dq u
 have sv:=Dq v
 have hl1:=Rt u v
 have hl2:=Rt v u
 have he:=VX u v
 generalize hx:tx (u:Int)=s at *
 generalize hy:tx (v:Int)=t at *
 clear hx hy
 have hu':s.size < 1000000000:=by omega
 have hv':t.size < 1000000000:=by omega
 by_cases h:s.size=t.size
 ·have l1:=hl1 h
  have l2:=hl2 h.symm
  have hne:((s.size:Int) != t.size)=false:=by rw [h]; simp
  clear hl1 hl2
  have h:=hZ h
  rcases Nat.lt_trichotomy u v with k | k | k
  ·rw [Ad k] at l1
   have hh:=hZ k; clear l2 he k su sv
   go_enter Tryz.func85,Tryz.ntmps85
   go_wp2
   go_ret
   exact ⟨Bp (by have:=hh.out; unfold Iz; rw [Ak (by omega)]),rfl⟩
  ·rw [Ab (by omega)] at l1 l2
   rw [Ad (by omega)] at he
   have hh:=hZ k; clear k su sv l2
   go_enter Tryz.func85,Tryz.ntmps85
   go_wp2
   go_ret
   exact ⟨Bp (by have:=hh.out; unfold Iz; rw [Aj (by omega),Aj (by omega)]),rfl⟩
  ·rw [Ab (by omega)] at l1
   rw [Ab (by omega)] at he
   have hh:=hZ k; clear k su sv l2
   go_enter Tryz.func85,Tryz.ntmps85
   go_wp2
   go_ret
   exact ⟨Bp (by have:=hh.out; unfold Iz; rw [Aj (by omega),Ak (by omega)]),rfl⟩
 ·have hne:((s.size:Int) != t.size)=true:=by rw [BJ]; omega
  have k1:=GQ u v
  have k2:=GQ v u
  have k1:=hZ k1
  have k2:=hZ k2
  have hh:=hZ h
  have su:=hZ su
  have sv:=hZ sv
  clear hl1 hl2 he h
  rename_i k1' k2' su' sv'
  clear k1' k2' su' sv'
  go_enter Tryz.func85,Tryz.ntmps85
  go_wp2
  go_ret
  refine ⟨Bp ?_,rfl⟩
  have k1:=k1.out; have k2:=k2.out; have hh:=hh.out; have su:=su.out; have sv:=sv.out
  show min 1 (max (-1) ((s.size:Int) - t.size))=_
  unfold Iz
  by_cases q:s.size < t.size
  ·rw [Ak (by have:=k1 (by omega); omega)]; omega
  ·rw [Aj (by have:=k2 (by omega); omega),Ak (by have:=k2 (by omega); omega)]; omega
theorem Vz (n:Int) (w:World) (hs:(tx n).size≤1000000000) :
 Calls Tryz.prog 124 #[.string (tx n)] w fun e w'=>e=.returned (.string (tx (-n)))∧Qt w w':=by
 by_cases h:n < 0
 ·have hs':(tx (-n)).size≤1000000000:=by rw [← Jk h,DL]; omega
  go_enter Tryz.func124,Tryz.ntmps124
  go_wp2_with (first | (go_at_call 82; refine (GN _ h _ hs).mono ?_; rintro e w' ⟨rfl,hf⟩) | (go_at_call 83; refine (JD false _ (by omega) _ hs').mono ?_; rintro e w' ⟨rfl,rfl⟩))
  go_ret
  exact ⟨by simp,by repeat (with_reducible first | assumption | exact Qt.refl _ | refine Qt.drew ?_ | refine Qt.drewN ?_ _ | refine Qt.trans ?_ (by assumption))⟩
 ·go_enter Tryz.func124,Tryz.ntmps124
  go_wp2_with (first | (go_at_call 82; refine (GM _ (by omega) _ hs).mono ?_; rintro e w' ⟨rfl,hf⟩) | (go_at_call 83; refine (JD true _ (by omega) _ hs).mono ?_; rintro e w' ⟨rfl,rfl⟩))
  go_ret
  exact ⟨by simp,by repeat (with_reducible first | assumption | exact Qt.refl _ | refine Qt.drew ?_ | refine Qt.drewN ?_ _ | refine Qt.trans ?_ (by assumption))⟩
theorem JZ (n:Int) (w:World) (hs:(tx n).size≤1000000000) :
 Calls Tryz.prog 124 #[.string (tx n)] w fun e w'=>e=.returned (.string (tx (-n)))∧Fr w w' :=
 (Vz n w hs).mono fun _ _ ⟨h,k⟩=>⟨h,k.fr⟩
theorem Mx (n:Int) (w:World) (hs:(tx n).size≤1000000000) :
 Calls Tryz.prog 61 #[.string (tx n)] w fun e w'=>e=.returned (.string (tx (n.natAbs:Int)))∧Qt w w':=by
 by_cases h:n < 0
 ·have e:=hZ (show (n.natAbs:Int)=-n by omega)
  go_enter Tryz.func61,Tryz.ntmps61
  go_wp2_with (go_at_call 82; refine (GN _ h _ hs).mono ?_; rintro e w' ⟨rfl,hf⟩)
  go_ret
  exact ⟨by rw [e.out]; rfl,by repeat (with_reducible first | assumption | exact Qt.refl _ | refine Qt.drew ?_ | refine Qt.drewN ?_ _ | refine Qt.trans ?_ (by assumption))⟩
 ·have e:=hZ (show (n.natAbs:Int)=n by omega)
  go_enter Tryz.func61,Tryz.ntmps61
  go_wp2_with (go_at_call 82; refine (GM _ (by omega) _ hs).mono ?_; rintro e w' ⟨rfl,hf⟩)
  go_ret
  exact ⟨by rw [e.out]; rfl,by repeat (with_reducible first | assumption | exact Qt.refl _ | refine Qt.drew ?_ | refine Qt.drewN ?_ _ | refine Qt.trans ?_ (by assumption))⟩
theorem OB (n:Int) (w:World) (hs:(tx n).size≤1000000000) :
 Calls Tryz.prog 61 #[.string (tx n)] w fun e w'=>e=.returned (.string (tx (n.natAbs:Int)))∧Fr w w' :=
 (Mx n w hs).mono fun _ _ ⟨h,k⟩=>⟨h,k.fr⟩
theorem R6 (a b:Int) (ha:0≤a) (hb:0≤b) (w:World) (hu:(tx a).size < 1000000000) (hv:(tx b).size < 1000000000) :
 Calls Tryz.prog 85 #[.string (tx a),.string (tx b)] w fun e w'=>e=.returned (.int .i64 (Iz a b))∧w=w':=by
 obtain ⟨u,rfl⟩:=K1 ha
 obtain ⟨v,rfl⟩:=K1 hb
 exact WO u v w (by rw [← Dq]; exact hu) (by rw [← Dq]; exact hv)
theorem HJ (n:Int) (h:n < 0):(tx (-n)).size+1=(tx n).size:=by
 have:=HI n
 rw [← Jk h,DL]; omega
theorem J2 (a b:Int) (w:World) (hu:(tx a).size < 1000000000) (hv:(tx b).size < 1000000000) :
 Calls Tryz.prog 163 #[.string (tx a),.string (tx b)] w fun e w'=>e=.returned (.int .i64 (Iz a b))∧Qt w w':=by
 by_cases hs:a.sign=b.sign
 ·have hne:(a.sign != b.sign)=false:=by rw [hs]; simp
  have hs':=hZ hs
  by_cases ha:a < 0
  ·have hb:b < 0:=by
    rw [Int.sign_eq_neg_one_of_neg ha] at hs
    exact XC.1 hs.symm
   have sa:=HJ a ha
   have sb:=HJ b hb
   clear hs
   go_enter Tryz.func163,Tryz.ntmps163
   go_wp2_with fail
   refine (DI a _).mono ?_; rintro e w' ⟨rfl,rfl⟩
   go_wp2_with fail
   refine (DI b _).mono ?_; rintro e w' ⟨rfl,rfl⟩
   go_wp2_with fail
   refine (GN a ha _ (by omega)).mono ?_; rintro e w1 ⟨rfl,hf1⟩
   go_wp2_with fail
   refine (GN b hb _ (by omega)).mono ?_; rintro e w2 ⟨rfl,hf2⟩
   go_wp2_with fail
   refine (R6 (-b) (-a) (by omega) (by omega) _ (by omega) (by omega)).mono ?_; rintro e w' ⟨rfl,rfl⟩
   go_wp2_with fail
   go_ret
   exact ⟨Bp (by unfold Iz; split <;> split <;> omega),by repeat (with_reducible first | assumption | exact Qt.refl _ | refine Qt.drew ?_ | refine Qt.drewN ?_ _ | refine Qt.trans ?_ (by assumption))⟩
  ·have hb:¬ b < 0:=by
    intro hb
    rw [Int.sign_eq_neg_one_of_neg hb] at hs
    exact ha (XC.1 hs)
   clear hs
   go_enter Tryz.func163,Tryz.ntmps163
   go_wp2_with fail
   refine (DI a _).mono ?_; rintro e w' ⟨rfl,rfl⟩
   go_wp2_with fail
   refine (DI b _).mono ?_; rintro e w' ⟨rfl,rfl⟩
   go_wp2_with fail
   refine (GM a (by omega) _ (by omega)).mono ?_; rintro e w1 ⟨rfl,hf1⟩
   go_wp2_with fail
   refine (GM b (by omega) _ (by omega)).mono ?_; rintro e w2 ⟨rfl,hf2⟩
   go_wp2_with fail
   refine (R6 a b (by omega) (by omega) _ hu hv).mono ?_; rintro e w' ⟨rfl,rfl⟩
   go_wp2_with fail
   go_ret
   exact ⟨rfl,by repeat (with_reducible first | assumption | exact Qt.refl _ | refine Qt.drew ?_ | refine Qt.drewN ?_ _ | refine Qt.trans ?_ (by assumption))⟩
 ·have hne:(a.sign != b.sign)=true:=by rw [BJ]; exact hs
  by_cases hl:a.sign < b.sign
  ·have hd:decide (a.sign < b.sign)=true:=Ad hl
   have hc:a < b:=by
    rcases B8 a b with h | h | h
    ·exact h
    ·subst h; exact absurd rfl hs
    ·exfalso
     have s1:0≤a - b:=by omega
     rcases B8 a 0 with p | p | p <;> rcases B8 b 0 with q | q | q <;>
      simp [Int.sign_eq_neg_one_of_neg,Int.sign_eq_one_of_pos, *] at hl <;> omega
   have hc:=hZ hc
   clear hs
   go_enter Tryz.func163,Tryz.ntmps163
   go_wp2_with fail
   refine (DI a _).mono ?_; rintro e w' ⟨rfl,rfl⟩
   go_wp2_with fail
   refine (DI b _).mono ?_; rintro e w' ⟨rfl,rfl⟩
   go_wp2_with fail
   go_ret
   exact ⟨Bp (by have:=hc.out; unfold Iz; rw [Ak this]),by repeat (with_reducible first | assumption | exact Qt.refl _ | refine Qt.drew ?_ | refine Qt.drewN ?_ _ | refine Qt.trans ?_ (by assumption))⟩
  ·have hd:decide (a.sign < b.sign)=false:=Ab hl
   have hc:b < a:=by
    rcases B8 a b with h | h | h
    ·exfalso
     rcases B8 a 0 with p | p | p <;> rcases B8 b 0 with q | q | q <;>
      simp [Int.sign_eq_neg_one_of_neg,Int.sign_eq_one_of_pos, *] at hl hs <;> omega
    ·subst h; exact absurd rfl hs
    ·exact h
   have hc:=hZ hc
   clear hs
   go_enter Tryz.func163,Tryz.ntmps163
   go_wp2_with fail
   refine (DI a _).mono ?_; rintro e w' ⟨rfl,rfl⟩
   go_wp2_with fail
   refine (DI b _).mono ?_; rintro e w' ⟨rfl,rfl⟩
   go_wp2_with fail
   go_ret
   exact ⟨Bp (by have:=hc.out; unfold Iz; rw [Aj (by omega),Ak this]),by repeat (with_reducible first | assumption | exact Qt.refl _ | refine Qt.drew ?_ | refine Qt.drewN ?_ _ | refine Qt.trans ?_ (by assumption))⟩
def Sm (n:Int):Prop:=-100000000000000000 < n∧n < 100000000000000000
def Ti (n:Int):Prop:=-100000000 < n∧n < 100000000
theorem Sm.size {n:Int} (h:Sm n):(tx n).size≤18:=by
 obtain ⟨h1,h2⟩:=h
 exact BE 17 n (by omega) (by omega)
theorem Ti.size {n:Int} (h:Ti n):(tx n).size≤9:=by
 obtain ⟨h1,h2⟩:=h
 exact BE 8 n (by omega) (by omega)
theorem Ti.sm {n:Int} (h:Ti n):Sm n:=by
 obtain ⟨h1,h2⟩:=h
 exact ⟨by omega,by omega⟩
theorem OA (a b:Int) (ha:Sm a) (hb:Sm b) (w:World) (hG:G w) :
 Calls Tryz.prog 38 #[.string (tx a),.string (tx b)] w fun e w'=>e=.returned (.string (tx (a+b)))∧Fr w w':=by
 have sa:=ha.size
 have sb:=hb.size
 obtain ⟨a1,a2⟩:=ha
 obtain ⟨b1,b2⟩:=hb
 go_enter Tryz.func38,Tryz.ntmps38
 go_wp2_with fail
 refine (Cg a 18 (by omega) (by omega) _ (by omega)).mono ?_; rintro e w1 ⟨rfl,hf1⟩
 go_wp2_with fail
 refine (Cg b 18 (by omega) (by omega) _ (by omega)).mono ?_; rintro e w2 ⟨rfl,hf2⟩
 go_wp2_with fail
 refine (Dm _ (by omega) (by omega) _ (hG.fr (hf1.trans hf2))).mono ?_; rintro e w3 ⟨rfl,hf3⟩
 go_wp2_with fail
 go_ret
 exact ⟨rfl,(hf1.trans hf2).trans hf3⟩
theorem Rd (a b:Int) (ha:Sm a) (hb:Sm b) (w:World) (hG:G w) :
 Calls Tryz.prog 71 #[.string (tx a),.string (tx b)] w fun e w'=>e=.returned (.string (tx (a - b)))∧Fr w w':=by
 have sb:=hb.size
 go_enter Tryz.func71,Tryz.ntmps71
 go_wp2_with fail
 refine (JZ b _ (by omega)).mono ?_; rintro e w1 ⟨rfl,hf1⟩
 go_wp2_with fail
 refine (OA a (-b) ha (by obtain ⟨b1,b2⟩:=hb; exact ⟨by omega,by omega⟩) _ (hG.fr hf1)).mono ?_; rintro e w2 ⟨rfl,hf2⟩
 go_wp2_with fail
 go_ret
 exact ⟨by rw [Rr]; rfl,hf1.trans hf2⟩
theorem I5 {a b:Int} (ha:Ti a) (hb:Ti b):-10000000000000000≤a * b∧a * b≤10000000000000000:=by
 obtain ⟨a1,a2⟩:=ha
 obtain ⟨b1,b2⟩:=hb
 have h:a.natAbs * b.natAbs≤100000000 * 100000000:=BF (by omega) (by omega)
 rw [← A1] at h
 omega
theorem Ov (a b:Int) (ha:Ti a) (hb:Ti b) (w:World) (hG:G w) :
 Calls Tryz.prog 39 #[.string (tx a),.string (tx b)] w fun e w'=>e=.returned (.string (tx (a * b)))∧Fr w w':=by
 have sa:=ha.size
 have sb:=hb.size
 obtain ⟨m1,m2⟩:=I5 ha hb
 obtain ⟨a1,a2⟩:=ha
 obtain ⟨b1,b2⟩:=hb
 go_enter Tryz.func39,Tryz.ntmps39
 go_wp2_with fail
 refine (Cg a 9 (by omega) (by omega) _ (by omega)).mono ?_; rintro e w1 ⟨rfl,hf1⟩
 go_wp2_with fail
 refine (Cg b 9 (by omega) (by omega) _ (by omega)).mono ?_; rintro e w2 ⟨rfl,hf2⟩
 go_wp2_with fail
 refine (Dm _ (by omega) (by omega) _ (hG.fr (hf1.trans hf2))).mono ?_; rintro e w3 ⟨rfl,hf3⟩
 go_wp2_with fail
 go_ret
 exact ⟨rfl,(hf1.trans hf2).trans hf3⟩
theorem GK (a b:Int) (hb:b≠0):(a.tmod b).natAbs < b.natAbs:=by
 rw [Int.natAbs_tmod]; exact Hv _ (by omega)
theorem EU (a b:Int) (hb:b≠0) (h:a.tmod b=0∨(a.tmod b < 0 ↔ b < 0)):a.fdiv b=a.tdiv b∧a.fmod b=a.tmod b:=by
 have e:=ZQ a b
 have m:=GK a b hb
 rcases EM hb with h1 | h1
 ·exact (ZR h1).2 ⟨by omega,by omega,by omega⟩
 ·exact (Z5 h1).2 ⟨by omega,by omega,by omega⟩
theorem GS (a b:Int) (hb:b≠0) (h0:a.tmod b≠0) (h:¬ (a.tmod b < 0 ↔ b < 0)):a.fdiv b=a.tdiv b - 1∧a.fmod b=a.tmod b+b:=by
 have e:=ZQ a b
 have m:=GK a b hb
 have e2:b * (a.tdiv b - 1)=b * a.tdiv b - b:=by rw [Int.mul_sub,Int.mul_one]
 rcases EM hb with h1 | h1
 ·exact (ZR h1).2 ⟨by omega,by omega,by omega⟩
 ·exact (Z5 h1).2 ⟨by omega,by omega,by omega⟩
theorem Lp (a b:Int):(a.tdiv b).natAbs≤a.natAbs:=by
 rw [Int.natAbs_tdiv]; exact MF _ _
theorem FT (a b:Int) (ha:Sm a) (hb:Sm b) (h0:b≠0) (w:World) (hG:G w) :
 Calls Tryz.prog 164 #[.string (tx a),.string (tx b)] w fun e w'=>e=.returned (.tuple #[.string (tx (a.fdiv b)),.string (tx (a.fmod b)),.int .i64 0])∧Fr w w':=by
 have sa:=ha.size
 have sb:=hb.size
 have hz:((tx b).toList == [48])=false:=by rw [DE]; exact Ab h0
 obtain ⟨a1,a2⟩:=ha
 obtain ⟨b1,b2⟩:=hb
 have td:=Lp a b
 have tm:=GK a b h0
 have k1:IntKind.i64.wrap (a.tdiv b)=a.tdiv b:=AC _ (by omega)
 have k2:IntKind.i64.wrap (a.tmod b)=a.tmod b:=AC _ (by omega)
 by_cases hr0:a.tmod b=0
 ·have hfin:=hZ (show a.fdiv b=a.tdiv b∧a.fmod b=0 from by have:=EU a b h0 (.inl hr0); rw [hr0] at this; exact this)
  have c1:(a.tmod b != 0)=false:=by rw [hr0]; rfl
  have tm1:-100000000000000000 < a.tmod b∧a.tmod b < 100000000000000000:=by omega
  have td1:-100000000000000000 < a.tdiv b∧a.tdiv b < 100000000000000000:=by omega
  obtain ⟨tm1,tm2⟩:=tm1
  obtain ⟨td1,td2⟩:=td1
  clear td tm
  go_enter Tryz.func164,Tryz.ntmps164
  go_wp2_with fail
  refine (Cg a 18 (by omega) (by omega) _ (by omega)).mono ?_; rintro e w1 ⟨rfl,hf1⟩
  go_wp2_with fail
  refine (Cg b 18 (by omega) (by omega) _ (by omega)).mono ?_; rintro e w2 ⟨rfl,hf2⟩
  go_wp2_with fail
  go_quiet (fail)
  clear k1 k2
  have hfq:=hf1.trans hf2
  go_wp2_with fail
  refine (Dm _ (by omega) (by omega) _ (hG.fr (by exact BM))).mono ?_; rintro e w3 ⟨rfl,hf3⟩
  go_wp2_with fail
  refine (Dm _ (by omega) (by omega) _ (hG.fr (by exact BM))).mono ?_; rintro e w4 ⟨rfl,hf4⟩
  go_wp2_with fail
  go_ret3
  exact ⟨by rw [hfin.out.1,hfin.out.2]; rfl,by exact BM⟩
 ·have c1:(a.tmod b != 0)=true:=by rw [BJ]; exact hr0
  by_cases hr:a.tmod b < 0 <;> by_cases hb:b < 0
  ·have hfin:=hZ (EU a b h0 (.inr (by simp [hr,hb])))
   have c2:(decide (a.tmod b < 0))=true:=Ad hr
   have c3:(decide (b < 0))=true:=Ad hb
   have tm1:-100000000000000000 < a.tmod b:=by omega
   have tm2:a.tmod b < 100000000000000000:=by omega
   have td1:-100000000000000000 < a.tdiv b:=by omega
   have td2:a.tdiv b < 100000000000000000:=by omega
   clear td tm hr0 hr hb
   go_enter Tryz.func164,Tryz.ntmps164
   go_wp2_with fail
   refine (Cg a 18 (by omega) (by omega) _ (by omega)).mono ?_; rintro e w1 ⟨rfl,hf1⟩
   go_wp2_with fail
   refine (Cg b 18 (by omega) (by omega) _ (by omega)).mono ?_; rintro e w2 ⟨rfl,hf2⟩
   go_wp2_with fail
   go_quiet (fail)
   clear k1 k2
   have hfq:=hf1.trans hf2
   go_wp2_with fail
   refine (Dm _ (by omega) (by omega) _ (hG.fr (by exact BM))).mono ?_; rintro e w3 ⟨rfl,hf3⟩
   go_wp2_with fail
   refine (Dm _ (by omega) (by omega) _ (hG.fr (by exact BM))).mono ?_; rintro e w4 ⟨rfl,hf4⟩
   go_wp2_with fail
   go_ret3
   exact ⟨by rw [hfin.out.1,hfin.out.2]; rfl,by exact BM⟩
  ·have hfin:=hZ (GS a b h0 hr0 (by simp [hr,hb]))
   have c2:(decide (a.tmod b < 0))=true:=Ad hr
   have c3:(decide (b < 0))=false:=Ab hb
   have tm1:-100000000000000000 < a.tmod b:=by omega
   have tm2:a.tmod b < 100000000000000000:=by omega
   have td1:-100000000000000000 < a.tdiv b:=by omega
   have td2:a.tdiv b < 100000000000000000:=by omega
   clear td tm hr0 hr hb
   go_enter Tryz.func164,Tryz.ntmps164
   go_wp2_with fail
   refine (Cg a 18 (by omega) (by omega) _ (by omega)).mono ?_; rintro e w1 ⟨rfl,hf1⟩
   go_wp2_with fail
   refine (Cg b 18 (by omega) (by omega) _ (by omega)).mono ?_; rintro e w2 ⟨rfl,hf2⟩
   go_wp2_with fail
   go_quiet (fail)
   clear k1 k2
   have hfq:=hf1.trans hf2
   go_wp2_with fail
   refine (Dm _ (by omega) (by omega) _ (hG.fr (by exact BM))).mono ?_; rintro e w3 ⟨rfl,hf3⟩
   go_wp2_with fail
   refine (Dm _ (by omega) (by omega) _ (hG.fr (by exact BM))).mono ?_; rintro e w4 ⟨rfl,hf4⟩
   go_wp2_with fail
   go_ret3
   exact ⟨by rw [hfin.out.1,hfin.out.2]; rfl,by exact BM⟩
  ·have hfin:=hZ (GS a b h0 hr0 (by simp [hr,hb]))
   have c2:(decide (a.tmod b < 0))=false:=Ab hr
   have c3:(decide (b < 0))=true:=Ad hb
   have tm1:-100000000000000000 < a.tmod b:=by omega
   have tm2:a.tmod b < 100000000000000000:=by omega
   have td1:-100000000000000000 < a.tdiv b:=by omega
   have td2:a.tdiv b < 100000000000000000:=by omega
   clear td tm hr0 hr hb
   go_enter Tryz.func164,Tryz.ntmps164
   go_wp2_with fail
   refine (Cg a 18 (by omega) (by omega) _ (by omega)).mono ?_; rintro e w1 ⟨rfl,hf1⟩
   go_wp2_with fail
   refine (Cg b 18 (by omega) (by omega) _ (by omega)).mono ?_; rintro e w2 ⟨rfl,hf2⟩
   go_wp2_with fail
   go_quiet (fail)
   clear k1 k2
   have hfq:=hf1.trans hf2
   go_wp2_with fail
   refine (Dm _ (by omega) (by omega) _ (hG.fr (by exact BM))).mono ?_; rintro e w3 ⟨rfl,hf3⟩
   go_wp2_with fail
   refine (Dm _ (by omega) (by omega) _ (hG.fr (by exact BM))).mono ?_; rintro e w4 ⟨rfl,hf4⟩
   go_wp2_with fail
   go_ret3
   exact ⟨by rw [hfin.out.1,hfin.out.2]; rfl,by exact BM⟩
  ·have hfin:=hZ (EU a b h0 (.inr (by simp [hr,hb])))
   have c2:(decide (a.tmod b < 0))=false:=Ab hr
   have c3:(decide (b < 0))=false:=Ab hb
   have tm1:-100000000000000000 < a.tmod b:=by omega
   have tm2:a.tmod b < 100000000000000000:=by omega
   have td1:-100000000000000000 < a.tdiv b:=by omega
   have td2:a.tdiv b < 100000000000000000:=by omega
   clear td tm hr0 hr hb
   go_enter Tryz.func164,Tryz.ntmps164
   go_wp2_with fail
   refine (Cg a 18 (by omega) (by omega) _ (by omega)).mono ?_; rintro e w1 ⟨rfl,hf1⟩
   go_wp2_with fail
   refine (Cg b 18 (by omega) (by omega) _ (by omega)).mono ?_; rintro e w2 ⟨rfl,hf2⟩
   go_wp2_with fail
   go_quiet (fail)
   clear k1 k2
   have hfq:=hf1.trans hf2
   go_wp2_with fail
   refine (Dm _ (by omega) (by omega) _ (hG.fr (by exact BM))).mono ?_; rintro e w3 ⟨rfl,hf3⟩
   go_wp2_with fail
   refine (Dm _ (by omega) (by omega) _ (hG.fr (by exact BM))).mono ?_; rintro e w4 ⟨rfl,hf4⟩
   go_wp2_with fail
   go_ret3
   exact ⟨by rw [hfin.out.1,hfin.out.2]; rfl,by exact BM⟩
theorem LJ (n:Int) (h0:-9223372036854775808≤n) (h1:n≤9223372036854775807):parseIntB 64 (tx n).data.toList=.ok n:=by
 rw [parseIntB_64]; exact JV n h0 h1
theorem H3 (n:Int) (h0:-9223372036854775808≤n) (h1:n≤9223372036854775807) (w:World) :
 Calls Tryz.prog 74 #[.string (tx n)] w fun e w'=>e=.returned (.tuple #[.int .i64 n,.bool true])∧Fr w w':=by
 have hs:=BE 19 n (by omega) (by omega)
 go_enter Tryz.func74,Tryz.ntmps74
 go_wp2_with fail
 refine (Tryz.strconv_ParseInt_10_at64_ok (tx n) (by omega) n (LJ n h0 h1) _).mono ?_; rintro e w1 ⟨rfl,hw⟩
 have hf:=L3 hw; clear hw
 go_wp2_with fail
 go_ret2
 exact ⟨rfl,hf⟩
end Go.Proofs.YtkjemicelmabdaaGreatDoor
namespace Go.Proofs.YtkjemicelmabdaaGreatDoor
open Go.RowKit Go.Lib
def El {α:Type} (w:World) (enc:α→Value) (a:Option Addr) (xs:List α):Prop :=
 xs=[]∨∃ b o,a=some ⟨b,o,none⟩∧b < w.heap.size∧∀ i x,xs[i]?=some x→w.cell? ⟨b,o+i,none⟩=some (enc x)
theorem El.fr {α:Type} {w w':World} {enc:α→Value} {a:Option Addr} {xs:List α} (h:El w enc a xs) (k:Fr w w'):El w' enc a xs:=by
 rcases h with h | ⟨b,o,ha,hb,hc⟩
 ·exact .inl h
 ·exact .inr ⟨b,o,ha,An hb k.size,fun i x hx=>by rw [k.cell hb]; exact hc i x hx⟩
theorem El.at {α:Type} {w:World} {enc:α→Value} {a:Option Addr} {xs:List α} (h:El w enc a xs) {i:Nat} (hi:i < xs.length) :
 ∃ b o x,a=some ⟨b,o,none⟩∧b < w.heap.size∧xs[i]?=some x∧w.cell? ⟨b,o+i,none⟩=some (enc x):=by
 rcases h with h | ⟨b,o,ha,hb,hc⟩
 ·subst h; simp at hi
 ·exact ⟨b,o,xs[i],ha,hb,Aa hi,hc i _ (Aa hi)⟩
abbrev iv:Int→Value:=fun n=>.int .i64 n
abbrev sv:Int→Value:=fun n=>.string (tx n)
def Ot {α:Type} (w:World) (g:Nat) (cap:Array Value) (enc:α→Value) (p:α→Bool) (xs:List α):Prop :=
 ∀ x W,x ∈ xs→Fr w W→Calls Tryz.prog g (#[enc x] ++ cap) W fun e W'=>e=.returned (.bool (p x))∧Fr W W'
def I8 {α:Type} (p:α→Bool) (xs:List α):Int:=match xs.findIdx? p with | some i=>i | none=>-1
theorem JG {α:Type} {p:α→Bool} {xs:List α} {k:Nat} {x:α} (h:∀ j x,j < k→xs[j]?=some x→p x=false) (hx:xs[k]?=some x) (hp:p x=false) :
 Hid (∀ j x,j < k+1→xs[j]?=some x→p x=false):=fun j y hj hy=>by
 by_cases e:j=k
 ·subst e; rw [hx] at hy; injection hy with hy; rw [← hy]; exact hp
 ·exact h j y (by omega) hy
theorem Im {α:Type} {p:α→Bool} {xs:List α} {k:Nat} {x:α} (h:∀ j x,j < k→xs[j]?=some x→p x=false) (hx:xs[k]?=some x) (hp:p x=true):I8 p xs=k:=by
 unfold I8
 have hk:k < xs.length:=(Ah.1 hx).1
 have:xs.findIdx? p=some k:=by
  rw [D2]
  refine ⟨hk, ?_,fun j hj=>?_⟩
  ·rw [(Ah.1 hx).2]; exact hp
  ·rw [h j _ hj (Aa (by omega))]; simp
 rw [this]
theorem JH {α:Type} {p:α→Bool} {xs:List α} (h:∀ j x,j < xs.length→xs[j]?=some x→p x=false):I8 p xs=-1:=by
 unfold I8
 have:xs.findIdx? p=none:=by
  rw [J3]
  intro x hx
  obtain ⟨i,hi,e⟩:=Ex hx
  exact h i x hi (by rw [Aa hi,e])
 rw [this]
theorem RV {α:Type} (p:α→Bool) (xs:List α):decide (0≤I8 p xs)=xs.any p:=by
 unfold I8
 cases e:xs.findIdx? p with
 | none=>
   rw [J3] at e
   have:xs.any p=false:=CC.2 (fun x hx=>by simp [e x hx])
   rw [this]; rfl
 | some i=>
   obtain ⟨h,hp,_⟩:=D2.1 e
   have:xs.any p=true:=K0.2 ⟨xs[i],AK h,hp⟩
   rw [this]; simp
theorem Ki {α:Type} (p:α→Bool) (xs:List α):(I8 p xs=-1∧∀ x,x ∈ xs→p x=false)∨∃ (k:Nat) (x:α),I8 p xs=k∧xs[k]?=some x∧p x=true∧∀ j y,j < k→xs[j]?=some y→p y=false:=by
 unfold I8
 cases e:xs.findIdx? p with
 | none=>
   rw [J3] at e
   exact .inl ⟨rfl,e⟩
 | some i=>
   obtain ⟨h,hp,hq⟩:=D2.1 e
   refine .inr ⟨i,xs[i],rfl,Aa h,hp,fun j y hj hy=>?_⟩
   have:=hq j hj
   obtain ⟨h2,rfl⟩:=Ah.1 hy
   simpa using this
theorem IM (xs:List Int) (a:Option Addr) (cap:Nat) (g:Nat) (lb:Array Value) (p:Int→Bool) (w:World)
 (eg:∀ args w,(callFunc g args).run Tryz.prog w=.ok (.enter g args) w) (hx:El w iv a xs) (hl:xs.length≤1000000000) (hp:Ot w g lb iv p xs) :
 Calls Tryz.prog 75 #[.slice a xs.length cap,.func (.func g) #[] lb] w fun e w'=>e=.returned (.int .i64 (I8 p xs))∧Fr w w':=by
 go_enter Tryz.func75,Tryz.ntmps75
 go_wp2
 go_loopw [5,8] (fun _ s8 wr=>∃ k:Nat,s8=.int .i64 k∧k≤xs.length∧Fr w wr∧Hid (∀ j x,j < k→xs[j]?=some x→p x=false)) (fun _ s8 _=>xs.length - (RowKit.intOf s8).toNat)
 case atStart=>exact ⟨0,rfl,Bs _,Fr.refl _,fun j x h=>absurd h (Bc _)⟩
 case round=>
  obtain ⟨k,rfl,hk,hf,hb⟩:=hrel
  by_cases hlt:k < xs.length
  ·obtain ⟨b,o,x,rfl,hbl,hxk,hcell⟩:=(hx.fr hf).at hlt
   have hpx:=hp x wr (Ac hxk) hf
   have hxk:=hZ hxk
   go_wp2_with fail
   refine hpx.mono ?_
   rintro e w1 ⟨rfl,hf1⟩
   go_wp2_with fail
   ·have hpt:p x=true:=by assumption
    go_ret
    exact ⟨Bp (Im hb.out hxk.out hpt).symm,hf.trans hf1⟩
   ·have hpf:p x=false:=by assumption
    go_roundw
    case rel=>exact ⟨k+1,by go_num,by omega,hf.trans hf1,JG hb.out hxk.out hpf⟩
    case measure=>simp [RowKit.intOf]; omega
  ·go_wp2_with fail
   go_ret
   exact ⟨Bp (JH (by rw [show xs.length=k by omega]; exact hb.out)).symm,hf⟩
theorem G3 (xs:List Int) (a:Option Addr) (cap:Nat) (g:Nat) (lb:Array Value) (p:Int→Bool) (w:World)
 (eg:∀ args w,(callFunc g args).run Tryz.prog w=.ok (.enter g args) w) (hx:El w iv a xs) (hl:xs.length≤1000000000) (hp:Ot w g lb iv p xs) :
 Calls Tryz.prog 31 #[.slice a xs.length cap,.func (.func g) #[] lb] w fun e w'=>e=.returned (.bool (xs.any p))∧Fr w w':=by
 rw [← RV]
 have hc:=IM xs a cap g lb p w eg hx hl hp
 clear hp
 go_enter Tryz.func31,Tryz.ntmps31
 go_wp2_with fail
 refine hc.mono ?_
 rintro e w' ⟨rfl,hf⟩
 go_wp2_with fail
 go_ret
 exact ⟨rfl,hf⟩
def Bk (n:Int):Bool:=decide (-1000000000≤n∧n≤1000000000)
def Dk (xs:List Int):Int:=if 64 < xs.length then 4 else if xs.any (fun n=>!Bk n) then 4 else 0
theorem SG {xs:List Int} (h:64 < xs.length):Dk xs=4:=by unfold Dk; rw [Ak h]
theorem Um {xs:List Int} (h:xs.any (fun n=>!Bk n)=true):Dk xs=4:=by unfold Dk; rw [h]; split <;> rfl
theorem Hd {xs:List Int} (h:¬ 64 < xs.length) (h2:xs.any (fun n=>!Bk n)=false):Dk xs=0:=by unfold Dk; rw [Aj h,h2]; rfl
theorem B6 {a b:Bool} (h:a=b):Ending.returned (.bool a)=Ending.returned (.bool b):=by rw [h]
theorem UU (n:Int) (w:World):Calls Tryz.prog 33 #[.int .i64 n] w fun e w'=>e=.returned (.bool (Bk n))∧w=w':=by
 by_cases h1:-1000000000≤n
 ·by_cases h2:n≤1000000000
  ·have hf:=hZ (show Bk n=true from Ad ⟨h1,h2⟩)
   go_enter Tryz.func33,Tryz.ntmps33
   go_wp2
   go_ret
   exact ⟨B6 hf.out.symm,rfl⟩
  ·have hf:=hZ (show Bk n=false from Ab (fun h=>h2 h.2))
   have d2:decide (n≤1000000000)=false:=Ab h2
   go_enter Tryz.func33,Tryz.ntmps33
   go_wp2
   go_ret
   exact ⟨B6 hf.out.symm,rfl⟩
 ·have hf:=hZ (show Bk n=false from Ab (fun h=>h1 h.1))
  have d1:decide (-1000000000≤n)=false:=Ab h1
  go_enter Tryz.func33,Tryz.ntmps33
  go_wp2
  go_ret
  exact ⟨B6 hf.out.symm,rfl⟩
theorem Qk (w:World) (xs:List Int):Ot w 32 #[] iv (fun n=>!Bk n) xs:=fun x W _ _=>by
 show Calls Tryz.prog 32 #[.int .i64 x] W _
 go_enter Tryz.func32,Tryz.ntmps32
 go_wp2_with fail
 refine (UU x _).mono ?_; rintro e w' ⟨rfl,rfl⟩
 go_wp2_with fail
 go_ret
 exact ⟨rfl,Fr.refl _⟩
theorem D1 (xs:List Int) (a:Option Addr) (cap:Nat) (w:World) (hx:El w iv a xs) (hl:xs.length≤1000000000) :
 Calls Tryz.prog 10 #[.slice a xs.length cap] w fun e w'=>e=.returned (.int .i64 (Dk xs))∧Fr w w':=by
 by_cases h:64 < xs.length
 ·have hf:=hZ (SG h)
  go_enter Tryz.func10,Tryz.ntmps10
  go_wp2_with fail
  go_ret
  exact ⟨Bp hf.out.symm,Fr.refl _⟩
 ·have eg:∀ args w,(callFunc 32 args).run Tryz.prog w=.ok (.enter 32 args) w:=OO Tryz.func32 (by kernel_rfl) rfl
  have hc:=G3 xs a cap 32 #[] (fun n=>!Bk n) w eg hx hl (Qk w xs)
  have d1:decide ((64:Int) < (xs.length:Int))=false:=Ab (by omega)
  have hh:=hZ h
  clear h eg
  cases hb:xs.any (fun n=>!Bk n)
  ·have hf:=hZ (Hd hh.out hb)
   rw [hb] at hc; clear hb
   go_enter Tryz.func10,Tryz.ntmps10
   go_wp2_with fail
   refine hc.mono ?_; rintro e w' ⟨rfl,hf1⟩
   go_wp2_with fail
   go_ret
   exact ⟨Bp hf.out.symm,hf1⟩
  ·have hf:=hZ (Um hb)
   rw [hb] at hc; clear hb
   go_enter Tryz.func10,Tryz.ntmps10
   go_wp2_with fail
   refine hc.mono ?_; rintro e w' ⟨rfl,hf1⟩
   go_wp2_with fail
   go_ret
   exact ⟨Bp hf.out.symm,hf1⟩
theorem Ss {α:Type} {xs ys:List α} {k:Nat} {x:α} (h:xs.take k=ys.take k) (hx:xs[k]?=some x) (hy:ys[k]?=some x):Hid (xs.take (k+1)=ys.take (k+1)):=by
 show _=_
 rw [Eb,Eb,h,hx,hy]
theorem TA (xs ys:List Int) (a b:Option Addr) (ca cb:Nat) (w:World) (hx:El w iv a xs) (hy:El w iv b ys) (_hl:xs.length≤1000000000) (_hm:ys.length≤1000000000) :
 Calls Tryz.prog 41 #[.slice a xs.length ca,.slice b ys.length cb] w fun e w'=>e=.returned (.bool (decide (xs=ys)))∧Fr w w':=by
 by_cases hlen:xs.length=ys.length
 ·have hne:((xs.length:Int) != ys.length)=false:=by rw [hlen]; simp
  have hlen:=hZ hlen
  rename_i hlen0
  clear hlen0
  go_enter Tryz.func41,Tryz.ntmps41
  go_wp2_with fail
  go_loopw [5,13] (fun _ s13 wr=>∃ k:Nat,s13=.int .i64 k∧k≤xs.length∧Fr w wr∧Hid (xs.take k=ys.take k)) (fun _ s13 _=>xs.length - (RowKit.intOf s13).toNat)
  case atStart=>exact ⟨0,rfl,Bs _,Fr.refl _,show _=_ by simp⟩
  case round=>
   obtain ⟨k,rfl,hk,hf,hb⟩:=hrel
   by_cases hlt:k < xs.length
   ·have hlt2:k < ys.length:=by rw [← hlen.out]; exact hlt
    obtain ⟨b1,o1,x,rfl,hbl1,hxk,hcell1⟩:=(hx.fr hf).at hlt
    obtain ⟨b2,o2,y,rfl,hbl2,hyk,hcell2⟩:=(hy.fr hf).at hlt2
    have hxk:=hZ hxk
    have hyk:=hZ hyk
    by_cases hxy:x=y
    ·have hq:(x != y)=false:=by rw [hxy]; simp
     have hxy:=hZ hxy
     rename_i hxy0; clear hxy0
     go_wp2_with fail
     go_quiet (fail)
     go_wp2_with fail
     go_roundw
     case rel=>exact ⟨k+1,by go_num,by omega,hf.drewN _,Ss hb.out hxk.out (by rw [hxy.out]; exact hyk.out)⟩
     case measure=>simp [RowKit.intOf]; omega
    ·have hq:(x != y)=true:=by rw [BJ]; exact hxy
     have hfin:=hZ (show decide (xs=ys)=false from Ab (fun e=>hxy (by have h1:=hxk.out; have h2:=hyk.out; rw [e,h2] at h1; injection h1 with h1; exact h1.symm)))
     clear hxy
     go_wp2_with fail
     go_quiet (fail)
     go_wp2_with fail
     go_ret
     exact ⟨B6 hfin.out.symm,hf.drewN _⟩
   ·have hfin:=hZ (show decide (xs=ys)=true from Ad (by have h:=hb.out; rw [Ai (by omega),Ai (by have:=hlen.out; omega)] at h; exact h))
    go_wp2_with fail
    go_ret
    exact ⟨B6 hfin.out.symm,hf⟩
 ·have hne:((xs.length:Int) != ys.length)=true:=by rw [BJ]; omega
  have hfin:=hZ (show decide (xs=ys)=false from Ab (fun e=>hlen (by rw [e])))
  clear hlen
  go_enter Tryz.func41,Tryz.ntmps41
  go_wp2_with fail
  go_ret
  exact ⟨B6 hfin.out.symm,Fr.refl _⟩
theorem CL (w:World) (x y:Value) (t:TypeId):(w.alloc (.cells #[x,y] t)).cell? ⟨w.heap.size,0,none⟩=some x∧(w.alloc (.cells #[x,y] t)).frozen? ⟨w.heap.size,0,none⟩=false:=by
 have h:=CJ w (.cells #[x,y] t (0,0))
 exact ⟨by unfold World.cell?; rw [h]; rfl,by unfold World.frozen?; rw [h]; rfl⟩
theorem CK (w:World) (x y:Value) (t:TypeId):(w.alloc (.cells #[x,y] t)).cell? ⟨w.heap.size,1,none⟩=some y∧(w.alloc (.cells #[x,y] t)).frozen? ⟨w.heap.size,1,none⟩=false:=by
 have h:=CJ w (.cells #[x,y] t (0,0))
 exact ⟨by unfold World.cell?; rw [h]; rfl,by unfold World.frozen?; rw [h]; rfl⟩
def Oq (w:World) (a:Option Addr) (xs:List (Value×Value)):Prop :=
 xs=[]∨∃ b o,a=some ⟨b,o,none⟩∧b < w.heap.size∧∀ i x,xs[i]?=some x→w.cell? ⟨b,o+i * 2,none⟩=some x.1∧w.cell? ⟨b,o+i * 2+1,none⟩=some x.2
theorem Oq.fr {w w':World} {a:Option Addr} {xs:List (Value×Value)} (h:Oq w a xs) (k:Fr w w'):Oq w' a xs:=by
 rcases h with h | ⟨b,o,ha,hb,hc⟩
 ·exact .inl h
 ·exact .inr ⟨b,o,ha,An hb k.size,fun i x hx=>by rw [k.cell hb,k.cell hb]; exact hc i x hx⟩
theorem Oq.at {w:World} {a:Option Addr} {xs:List (Value×Value)} (h:Oq w a xs) {i:Nat} (hi:i < xs.length) :
 ∃ b o x,a=some ⟨b,o,none⟩∧b < w.heap.size∧xs[i]?=some x∧w.cell? ⟨b,o+i * 2,none⟩=some x.1∧w.cell? ⟨b,o+i * 2+1,none⟩=some x.2:=by
 rcases h with h | ⟨b,o,ha,hb,hc⟩
 ·subst h; simp at hi
 ·exact ⟨b,o,xs[i],ha,hb,Aa hi,hc i _ (Aa hi)⟩
theorem Oq.take {w:World} {a:Option Addr} {xs:List (Value×Value)} (h:Oq w a xs) (n:Nat):Oq w a (xs.take n):=by
 rcases h with h | ⟨b,o,ha,hb,hc⟩
 ·subst h; exact .inl (by simp)
 ·refine .inr ⟨b,o,ha,hb,fun i x hx=>hc i x ?_⟩
  rw [BZ] at hx
  split at hx
  ·exact hx
  ·simp at hx
def Xw {α:Type} (w:World) (g:Nat) (cap:Array Value) (enc:α→Value×Value) (p:α→Bool) (xs:List α):Prop :=
 ∀ x W,x ∈ xs→Fr w W→Calls Tryz.prog g (#[.agg #[(enc x).1,(enc x).2]] ++ cap) W fun e W'=>e=.returned (.bool (p x))∧Fr W W'
theorem M1 {α:Type} (enc:α→Value×Value) (xs:List α) (a:Option Addr) (cap:Nat) (g:Nat) (lb:Array Value) (p:α→Bool) (w:World)
 (eg:∀ args w,(callFunc g args).run Tryz.prog w=.ok (.enter g args) w) (hx:Oq w a (xs.map enc)) (hl:xs.length≤1000000000) (hp:Xw w g lb enc p xs) :
 Calls Tryz.prog 90 #[.slice a xs.length cap,.func (.func g) #[] lb] w fun e w'=>e=.returned (.int .i64 (I8 p xs))∧Fr w w':=by
 go_enter Tryz.func90,Tryz.ntmps90
 go_wp2
 go_loopw [5,8] (fun _ s8 wr=>∃ k:Nat,s8=.int .i64 k∧k≤xs.length∧Fr w wr∧Hid (∀ j x,j < k→xs[j]?=some x→p x=false)) (fun _ s8 _=>xs.length - (RowKit.intOf s8).toNat)
 case atStart=>exact ⟨0,rfl,Bs _,Fr.refl _,fun j x h=>absurd h (Bc _)⟩
 case round=>
  obtain ⟨k,rfl,hk,hf,hb⟩:=hrel
  by_cases hlt:k < xs.length
  ·obtain ⟨b,o,z,rfl,hbl,hzk,hcell,hcell2⟩:=(hx.fr hf).at (i:=k) (by rw [Al]; exact hlt)
   obtain ⟨x,hxk,rfl⟩:∃ x,xs[k]?=some x∧enc x=z:=by
    rw [Am] at hzk
    cases e:xs[k]? with
    | none=>rw [e] at hzk; simp at hzk
    | some x=>rw [e] at hzk; injection hzk with hzk; exact ⟨x,rfl,hzk⟩
   have hpx:=hp x wr (Ac hxk) hf
   have hxk:=hZ hxk
   clear hzk
   go_wp2_with fail
   refine hpx.mono ?_
   rintro e w1 ⟨rfl,hf1⟩
   go_wp2_with fail
   ·have hpt:p x=true:=by assumption
    go_ret
    exact ⟨Bp (Im hb.out hxk.out hpt).symm,hf.trans hf1⟩
   ·have hpf:p x=false:=by assumption
    go_roundw
    case rel=>exact ⟨k+1,by go_num,by omega,hf.trans hf1,JG hb.out hxk.out hpf⟩
    case measure=>simp [RowKit.intOf]; omega
  ·go_wp2_with fail
   go_ret
   exact ⟨Bp (JH (by rw [show xs.length=k by omega]; exact hb.out)).symm,hf⟩
def Cc (c:UInt8):Bool:=decide (33≤c.toNat∧c.toNat≤126∧¬ (48≤c.toNat∧c.toNat≤57)∧c.toNat≠43∧c.toNat≠45)
def BI (s:ByteArray):Bool:=decide (s.size≠0∧s.size≤32) && s.data.toList.all Cc
theorem Je (s:ByteArray) (w:World) (hs:s.size≤1000000000) :
 Calls Tryz.prog 43 #[.string s] w fun e w'=>e=.returned (.bool (BI s))∧w=w':=by
 by_cases h0:s.size=0
 ·have hfin:=hZ (show BI s=false by unfold BI; rw [Ab (by omega)]; rfl)
  have e:s.toList=[]:=by
   have:s.toList.length=0:=by rw [← h0,CA]; rfl
   exact Aq this
  have e2:s.toList.isEmpty=true:=by rw [e]; rfl
  replace e:=hZ e
  clear h0
  go_enter Tryz.func43,Tryz.ntmps43
  go_wp2_with fail
  go_ret
  exact ⟨B6 hfin.out.symm,rfl⟩
 ·have e2:s.toList.isEmpty=false:=by
   have:s.toList.length=s.size:=by rw [CA]; rfl
   cases hh:s.toList with
   | nil=>rw [hh] at this; simp at this; omega
   | cons=>rfl
  by_cases h1:32 < s.size
  ·have hfin:=hZ (show BI s=false by unfold BI; rw [Ab (by omega)]; rfl)
   have d1:decide ((32:Int) < (s.size:Int))=true:=Ad (by omega)
   clear h0
   go_enter Tryz.func43,Tryz.ntmps43
   go_wp2_with fail
   go_ret
   exact ⟨B6 hfin.out.symm,rfl⟩
  ·have d1:decide ((32:Int) < (s.size:Int))=false:=Ab (by omega)
   have hsz:=hZ (show decide (s.size≠0∧s.size≤32)=true from Ad ⟨h0,by omega⟩)
   clear h0 h1
   go_enter Tryz.func43,Tryz.ntmps43
   go_wp2_with fail
   go_loopg [14] s.size (fun g s14 wr=>∃ k:Nat,s14=.int .i64 k∧k+g=s.size∧Hid ((s.data.toList.take k).all Cc=true)∧w=wr)
   case atStart=>exact ⟨0,rfl,by omega,rfl,rfl⟩
   case round=>
    obtain ⟨k,rfl,hk,hb,rfl⟩:=hrel
    by_cases hlt:k < s.size
    ·have hsn:=hZ (show s.data.toList.take (k+1)=s.data.toList.take k ++ [s[k]] by rw [Ea (by simpa using hlt)]; rfl)
     have hc:∃ c,s[k]=c:=⟨_,rfl⟩
     obtain ⟨c,hc⟩:=hc
     rw [hc] at hsn
     have hbad:=hZ (show Cc c=false→BI s=false from fun hok=>by
      unfold BI
      rw [Ed.2 ⟨c, ?_,by rw [hok]; simp⟩]
      ·simp
      ·have:c ∈ s.data.toList.take (k+1):=by rw [hsn.out]; simp
       exact Cv this)
     have hgood:=hZ (show Cc c=true→(s.data.toList.take (k+1)).all Cc=true from fun hok=>by
      rw [hsn.out,MG,hb.out]; simp [hok])
     clear hsn hb
     have z0:(0:Int)≤(k:Int):=by omega
     by_cases e43:c.toNat=43
     ·have q43:((c.toNat:Int) == 43)=true:=by rw [e43]; rfl
      have hfin:=hZ (hbad.out (by unfold Cc; exact Ab (fun h=>h.2.2.2.1 e43)))
      have e1:(33:Int)≤c.toNat:=by omega
      have e2:(c.toNat:Int)≤126:=by omega
      have e3:(c.toNat:Int) < 48:=by omega
      clear e43 hbad hgood
      go_wp2_with fail
      all_goals
       go_ret
       exact ⟨B6 hfin.out.symm,rfl⟩
     ·by_cases e45:c.toNat=45
      ·have q45:((c.toNat:Int) == 45)=true:=by rw [e45]; rfl
       have q43:((c.toNat:Int) == 43)=false:=AF (by omega)
       have hfin:=hZ (hbad.out (by unfold Cc; exact Ab (fun h=>h.2.2.2.2 e45)))
       have e1:(33:Int)≤c.toNat:=by omega
       have e2:(c.toNat:Int)≤126:=by omega
       have e3:(c.toNat:Int) < 48:=by omega
       clear e43 e45 hbad hgood
       go_wp2_with fail
       all_goals
        go_ret
        exact ⟨B6 hfin.out.symm,rfl⟩
      ·have q45:((c.toNat:Int) == 45)=false:=AF (by omega)
       have q43:((c.toNat:Int) == 43)=false:=AF (by omega)
       have e43:=hZ e43
       have e45:=hZ e45
       rename_i r1 r2
       clear r1 r2
       go_wp2_with fail
       all_goals first
        | (have hok:Cc c=true:=by
            unfold Cc
            exact Ad ⟨by omega,by omega,by omega,e43.out,e45.out⟩
           go_roundg (gk - 1)
           case measure=>omega
           case rel=>exact ⟨k+1,by go_num,by omega,hgood.out hok,rfl⟩)
        | (have hok:Cc c=false:=by
            unfold Cc
            exact Ab (fun h=>by have h1:=h.1; have h2:=h.2.1; have h3:=h.2.2.1; omega)
           go_ret
           exact ⟨B6 (hbad.out hok).symm,rfl⟩)
    ·have hfin:=hZ (show BI s=true by
      have h:=hb.out
      rw [Ai (by have:s.data.toList.length=s.size:=rfl; omega)] at h
      unfold BI
      rw [hsz.out,h]; rfl)
     have hd:decide (k < s.size)=false:=Ab hlt
     go_wp2_with fail
     go_ret
     exact ⟨B6 hfin.out.symm,rfl⟩
attribute [local go_sem ↓] AQ AR
def gN:Nat:=3+1
structure Fx (p:Nat→Prop) (w w':World):Prop where
 os:w'.os=w.os
 tape:w'.tape=w.tape
 output:w'.output=w.output
 size:w.heap.size≤w'.heap.size
 block:∀ k,k < w.heap.size→¬ p k→w'.heap[k]?=w.heap[k]?
theorem Fx.of_fr {p:Nat→Prop} {w w':World} (h:Fr w w'):Fx p w w' :=
 have h:Below w.heap.size w w':=h
 ⟨h.os,h.tape,h.output,h.size,fun k hk _=>h.block k hk⟩
theorem Fx.refl (p:Nat→Prop) (w:World):Fx p w w:=Fx.of_fr (Fr.refl w)
theorem Fx.trans {p:Nat→Prop} {a b c:World} (h:Fx p a b) (k:Fx p b c):Fx p a c :=
 ⟨k.os.trans h.os,k.tape.trans h.tape,k.output.trans h.output,Aw h.size k.size,fun i hi hp=>(k.block i (An hi h.size) hp).trans (h.block i hi hp)⟩
theorem Fx.fr {p:Nat→Prop} {a b c:World} (h:Fx p a b) (k:Fr b c):Fx p a c:=h.trans (Fx.of_fr k)
theorem Fx.drewN {p:Nat→Prop} {a b:World} (h:Fx p a b) (n:Nat):Fx p a (b.drewN n):=h.fr ((Fr.refl b).drewN n)
theorem Fx.drew {p:Nat→Prop} {a b:World} (h:Fx p a b):Fx p a b.drew:=h.fr (Fr.refl b).drew
theorem Fx.alloc {p:Nat→Prop} {a b:World} (h:Fx p a b) (o:Obj):Fx p a (b.alloc o):=h.fr ((Fr.refl b).alloc o)
theorem Fx.setCell {p:Nat→Prop} {a b:World} (h:Fx p a b) {q:Addr} (hq:p q.block∨a.heap.size≤q.block) (u:Value):Fx p a (b.setCell q u) :=
 ⟨h.os,h.tape,h.output,by simpa [World.setCell] using h.size,fun k hk hp=>by
  have e:k≠q.block:=by
   rcases hq with hq | hq
   ·intro e; rw [e] at hp; exact hp hq
   ·omega
  exact (Below.heap_setCell _ _ _ _ e).trans (h.block k hk hp)⟩
theorem Fx.cell {p:Nat→Prop} {w w':World} (h:Fx p w w') {q:Addr} (hq:q.block < w.heap.size) (hp:¬ p q.block):w'.cell? q=w.cell? q :=
 World.cell?_of_block (w:=w) (h.block q.block hq hp)
theorem Fx.frozen {p:Nat→Prop} {w w':World} (h:Fx p w w') {q:Addr} (hq:q.block < w.heap.size) (hp:¬ p q.block):w'.frozen? q=w.frozen? q :=
 World.frozen?_of_block (w:=w) (h.block q.block hq hp)
theorem Fx.mono {p q:Nat→Prop} {w w':World} (h:Fx p w w') (hpq:∀ k,p k→q k):Fx q w w' :=
 ⟨h.os,h.tape,h.output,h.size,fun k hk hp=>h.block k hk (fun e=>hp (hpq k e))⟩
theorem Fx.toFr {p:Nat→Prop} {w w':World} (h:Fx p w w') (hp:∀ k,k < w.heap.size→¬ p k):Fr w w' :=
 show Below w.heap.size w w' from ⟨h.os,h.tape,h.output,h.size,fun k hk=>h.block k hk (hp k hk)⟩
theorem G.fx {p:Nat→Prop} {w w':World} (h:G w) (k:Fx p w w') (hp:∀ k,p k→gN≤k):G w':=by
 have hl:=h.lt
 unfold G TabIs World.var? at *
 simp only [S1,AV] at h ⊢
 rw [k.block _ hl (fun e=>by have:=hp _ e; unfold gN at this; omega)]
 exact h
theorem Ch {w:World} (h:G w):gN≤w.heap.size:=h.lt
def E5 (w:World) (b o:Nat) (xs:List Int):Prop :=
 gN≤b∧b < w.heap.size∧∀ j x,xs[j]?=some x→w.cell? ⟨b,o+j,none⟩=some (sv x)∧w.frozen? ⟨b,o+j,none⟩=false
theorem E5.fx {p:Nat→Prop} {w w':World} {b o:Nat} {xs:List Int} (h:E5 w b o xs) (k:Fx p w w') (hp:¬ p b):E5 w' b o xs :=
 ⟨h.1,An h.2.1 k.size,fun j x hx=>by rw [k.cell h.2.1 hp,k.frozen h.2.1 hp]; exact h.2.2 j x hx⟩
theorem E5.fr {w w':World} {b o:Nat} {xs:List Int} (h:E5 w b o xs) (k:Fr w w'):E5 w' b o xs :=
 h.fx (p:=fun _=>False) (Fx.of_fr k) (fun e=>e)
theorem E5.set {w:World} {b o:Nat} {xs:List Int} (h:E5 w b o xs) {k:Nat} (hk:k < xs.length) (x:Int):E5 (w.setCell ⟨b,o+k,none⟩ (sv x)) b o (xs.set k x):=by
 obtain ⟨h1,h2,h3⟩:=h
 refine ⟨h1,by simpa [World.setCell] using h2,fun j y hy=>?_⟩
 rw [Ao]
 rw [AX] at hy
 by_cases e:k=j
 ·subst e
  rw [Ak rfl,Ak hk] at hy
  injection hy with hy; subst hy
  have h4:=h3 k xs[k] (Aa hk)
  exact ⟨Ap _ _ _ (by rw [h4.1]; rfl),h4.2⟩
 ·rw [Aj e] at hy
  have h4:=h3 j y hy
  refine ⟨?_,h4.2⟩
  rw [Ae w ⟨b,o+k,none⟩ ⟨b,o+j,none⟩ _ (fun e2=>by injection e2 with e3 e4; omega)]
  exact h4.1
def Wr (q x y:Int):Bool:=decide ((-100000000 < q∧q < 100000000)∧(-100000000 < y∧y < 100000000)∧(-100000000000000000 < x∧x < 100000000000000000))
theorem Uy {q x y:Int} (h:Wr q x y=true):Ti q∧Ti y∧Sm x:=by
 unfold Wr at h; have h:=Au h; exact h
def Jo (q:Int):List Int→List Int→Option (List Int)
 | [],_=>some []
 | x :: xs,y :: ys=>if Wr q x y then (Jo q xs ys).map ((x - q * y) :: ·) else none
 | _ :: _,[]=>none
def E6 (q:Int) (xs ys:List Int):Option (List Int):=if q=0 then some xs else Jo q xs ys
theorem F3 (q:Int):∀ (xs ys zs:List Int),Jo q xs ys=some zs→zs.length=xs.length∧∀ (k:Nat) (x:Int),xs[k]?=some x→∃ y,ys[k]?=some y∧Wr q x y=true∧zs[k]?=some (x - q * y)
 | [],ys,zs,h=>by
   injection h with h; subst h
   exact ⟨rfl,fun k x hx=>by simp at hx⟩
 | x :: xs,[],zs,h=>by simp [Jo] at h
 | x :: xs,y :: ys,zs,h=>by
   simp only [Jo] at h
   split at h
   ·rename_i hok
    cases e:Jo q xs ys with
    | none=>rw [e] at h; simp at h
    | some ws=>
      rw [e] at h
      simp only [Ib,Option.some.injEq] at h
      subst h
      obtain ⟨h1,h2⟩:=F3 q xs ys ws e
      refine ⟨by simp [h1],fun k z hz=>?_⟩
      cases k with
      | zero=>simp at hz; subst hz; exact ⟨y,by simp,hok,by simp⟩
      | succ k=>simpa using h2 k z (by simpa using hz)
   ·simp at h
theorem Gs {α:Type} (zs xs:List α) (k:Nat) (hl:zs.length=xs.length) (hk:k < xs.length):(zs.take k ++ xs.drop k)[k]?=xs[k]?:=by
 have h1:(zs.take k).length=k:=by rw [AB]; omega
 rw [Bj (by omega),h1,IC,Jg,EK]
theorem Gr {α:Type} (zs xs:List α) (k:Nat) (hl:zs.length=xs.length) (hk:k < xs.length) (z:α) (hz:zs[k]?=some z):(zs.take k ++ xs.drop k).set k z=zs.take (k+1) ++ xs.drop (k+1):=by
 have h1:(zs.take k).length=k:=by rw [AB]; omega
 rw [List.set_append_right _ _ (by omega),h1,IC,Eb,hz,Cb hk,Option.toList_some,List.set_cons_zero,Bv,ZN]
theorem Fx.keep {p:Nat→Prop} {w w':World} (h:Fx p w w') {q:Addr} {v:Value} (hc:w.cell? q=some v) (hp:¬ p q.block):w'.cell? q=some v:=by
 rw [h.cell (AY w q hc) hp]; exact hc
theorem Fx.keepf {p:Nat→Prop} {w w':World} (h:Fx p w w') {q:Addr} {v:Value} {b:Bool} (hc:w.cell? q=some v) (hf:w.frozen? q=b) (hp:¬ p q.block):w'.frozen? q=b:=by
 rw [h.frozen (AY w q hc) hp]; exact hf
structure Bu (w:World) (ob oo:Nat) (hs:List (Nat×Nat×Nat)) (g:List (List Int)):Prop where
 len:hs.length=g.length
 outer:ob < w.heap.size
 gob:gN≤ob
 cell:∀ (i:Nat) (h:Nat×Nat×Nat) (xs:List Int),hs[i]?=some h→g[i]?=some xs→w.cell? ⟨ob,oo+i,none⟩=some (.slice (some ⟨h.1,h.2.1,none⟩) xs.length h.2.2)∧w.frozen? ⟨ob,oo+i,none⟩=false
 row:∀ (i:Nat) (h:Nat×Nat×Nat) (xs:List Int),hs[i]?=some h→g[i]?=some xs→E5 w h.1 h.2.1 xs∧h.1≠ob
 apart:∀ (i j:Nat) (hi hj:Nat×Nat×Nat),hs[i]?=some hi→hs[j]?=some hj→i≠j→hi.1≠hj.1
def gb (ob:Nat) (hs:List (Nat×Nat×Nat)) (k:Nat):Prop:=k=ob∨∃ h,h ∈ hs∧h.1=k
theorem Bu.fx {p:Nat→Prop} {w w':World} {ob oo:Nat} {hs:List (Nat×Nat×Nat)} {g:List (List Int)} (h:Bu w ob oo hs g) (k:Fx p w w') (hp:∀ j,gb ob hs j→¬ p j):Bu w' ob oo hs g :=
 ⟨h.len,An h.outer k.size,h.gob,
  fun i hd xs h1 h2=>by
   have:=h.cell i hd xs h1 h2
   exact ⟨k.keep this.1 (hp _ (.inl rfl)),k.keepf this.1 this.2 (hp _ (.inl rfl))⟩,
  fun i hd xs h1 h2=>by
   have:=h.row i hd xs h1 h2
   exact ⟨this.1.fx k (hp _ (.inr ⟨hd,Ac h1,rfl⟩)),this.2⟩,
  h.apart⟩
theorem Bu.fr {w w':World} {ob oo:Nat} {hs:List (Nat×Nat×Nat)} {g:List (List Int)} (h:Bu w ob oo hs g) (k:Fr w w'):Bu w' ob oo hs g :=
 h.fx (p:=fun _=>False) (Fx.of_fr k) (fun _ _ e=>e)
theorem Bu.ge {w:World} {ob oo:Nat} {hs:List (Nat×Nat×Nat)} {g:List (List Int)} (h:Bu w ob oo hs g):∀ k,gb ob hs k→gN≤k:=by
 rintro k (rfl | ⟨hd,hm,rfl⟩)
 ·exact h.gob
 ·obtain ⟨i,hi⟩:=AM hm
  have hlt:i < g.length:=by rw [← h.len]; exact (Ah.1 hi).1
  exact (h.row i hd _ hi (Aa hlt)).1.1
theorem Bu.at {w:World} {ob oo:Nat} {hs:List (Nat×Nat×Nat)} {g:List (List Int)} (h:Bu w ob oo hs g) {i:Nat} (hi:i < g.length) :
 ∃ b o c,hs[i]?=some (b,o,c)∧w.cell? ⟨ob,oo+i,none⟩=some (.slice (some ⟨b,o,none⟩) (g[i]).length c)∧w.frozen? ⟨ob,oo+i,none⟩=false∧E5 w b o g[i]∧b≠ob:=by
 have hl:i < hs.length:=by rw [h.len]; exact hi
 have h1:=Aa hl
 have h2:=Aa hi
 have h3:=h.cell i _ _ h1 h2
 have h4:=h.row i _ _ h1 h2
 exact ⟨hs[i].1,hs[i].2.1,hs[i].2.2,h1,h3.1,h3.2,h4.1,h4.2⟩
theorem Bu.setRow {w w':World} {ob oo:Nat} {hs:List (Nat×Nat×Nat)} {g:List (List Int)} (h:Bu w ob oo hs g) {i b o c:Nat} (hi:hs[i]?=some (b,o,c)) {zs:List Int}
 (k:Fx (·=b) w w') (ho:E5 w' b o zs) (hl:∀ xs,g[i]?=some xs→zs.length=xs.length):Bu w' ob oo hs (g.set i zs):=by
 have hne:b≠ob:=by
  have hlt:i < g.length:=by rw [← h.len]; exact (Ah.1 hi).1
  exact (h.row i _ _ hi (Aa hlt)).2
 refine ⟨by simp [h.len],An h.outer k.size,h.gob,fun j hd xs h1 h2=>?_,fun j hd xs h1 h2=>?_,h.apart⟩
 ·have hj:j < g.length:=by have:=(Ah.1 h2).1; simpa using this
  have h3:=h.cell j hd _ h1 (Aa hj)
  rw [AX] at h2
  have e:xs.length=(g[j]).length:=by
   split at h2
   ·rename_i e; subst e; rw [Ak (by simpa using hj)] at h2; injection h2 with h2; subst h2; exact hl _ (Aa hj)
   ·rw [Aa hj] at h2; injection h2 with h2; rw [h2]
  rw [e]
  exact ⟨k.keep h3.1 (fun e=>hne e.symm),k.keepf h3.1 h3.2 (fun e=>hne e.symm)⟩
 ·have hj:j < g.length:=by have:=(Ah.1 h2).1; simpa using this
  have h3:=h.row j hd _ h1 (Aa hj)
  rw [AX] at h2
  refine ⟨?_,h3.2⟩
  split at h2
  ·rename_i e; subst e
   rw [Ak (by simpa using hj)] at h2; injection h2 with h2; subst h2
   rw [hi] at h1; injection h1 with h1; subst h1
   exact ho
  ·rename_i e
   rw [Aa hj] at h2; injection h2 with h2; subst h2
   exact h3.1.fx k (fun e2=>h.apart i j _ _ hi h1 e e2.symm)
theorem Bu.setRowF {w W w':World} {ob oo:Nat} {hs:List (Nat×Nat×Nat)} {g:List (List Int)} (h:Bu w ob oo hs g) {i b o c:Nat} (hi:hs[i]?=some (b,o,c)) {zs:List Int}
 (k:Fx (·=b) W w') (ho:E5 w' b o zs) (hl:∀ xs,g[i]?=some xs→zs.length=xs.length) (hf:Fr w W):Bu w' ob oo hs (g.set i zs) :=
 (h.fr hf).setRow hi k ho hl
theorem Fx.via {p q:Nat→Prop} {a b c d:World} (h:Fx p a b) (k:Fx q c d) (hq:∀ j,q j→p j) (hf:Fr b c):Fx p a d:=(h.fr hf).trans (k.mono hq)
theorem Oa {ob:Nat} {hs:List (Nat×Nat×Nat)} {i b o c:Nat} (hi:hs[i]?=some (b,o,c)):∀ j,j=b→gb ob hs j:=fun _ e=>.inr ⟨_,Ac hi,e.symm⟩
def swp {α:Type} (l:List α) (i j:Nat):List α:=match l[i]?,l[j]? with
 | some x,some y=>(l.set i y).set j x
 | _,_=>l
theorem Em {α:Type} (l:List α) (i j:Nat):(swp l i j).length=l.length:=by
 unfold swp; split <;> simp
theorem DF {α:Type} (l:List α) (i j:Nat) {x y:α} (hi:l[i]?=some x) (hj:l[j]?=some y) (k:Nat) :
 (swp l i j)[k]?=if k=j then some x else if k=i then some y else l[k]?:=by
 have h1:=(Ah.1 hi).1
 have h2:=(Ah.1 hj).1
 unfold swp
 rw [hi,hj]
 simp only [AX]
 by_cases e:j=k
 ·subst e; simp [h2]
 ·have e':¬ k=j:=fun h=>e h.symm
  rw [Aj e,Aj e']
  by_cases e2:i=k
  ·subst e2; simp [h1]
  ·have e2':¬ k=i:=fun h=>e2 h.symm
   rw [Aj e2,Aj e2']
theorem Bu.swap {w:World} {ob oo:Nat} {hs:List (Nat×Nat×Nat)} {g:List (List Int)} (h:Bu w ob oo hs g) {i j:Nat} {hi hj:Nat×Nat×Nat} {xs ys:List Int}
 (h1:hs[i]?=some hi) (h2:hs[j]?=some hj) (h3:g[i]?=some xs) (h4:g[j]?=some ys) (hij:i≠j) :
 Bu ((w.setCell ⟨ob,oo+i,none⟩ (.slice (some ⟨hj.1,hj.2.1,none⟩) ys.length hj.2.2)).setCell ⟨ob,oo+j,none⟩ (.slice (some ⟨hi.1,hi.2.1,none⟩) xs.length hi.2.2)) ob oo (swp hs i j) (swp g i j):=by
 have hf:Fx (·=ob) w ((w.setCell ⟨ob,oo+i,none⟩ (.slice (some ⟨hj.1,hj.2.1,none⟩) ys.length hj.2.2)).setCell ⟨ob,oo+j,none⟩ (.slice (some ⟨hi.1,hi.2.1,none⟩) xs.length hi.2.2)) :=
  Fx.setCell (p:=(·=ob)) (q:=⟨ob,oo+j,none⟩) (Fx.setCell (p:=(·=ob)) (q:=⟨ob,oo+i,none⟩) (Fx.refl _ w) (.inl rfl) _) (.inl rfl) _
 have ci:=h.cell i _ _ h1 h3
 have cj:=h.cell j _ _ h2 h4
 have eij:(⟨ob,oo+i,none⟩:Addr)≠⟨ob,oo+j,none⟩:=fun e=>by injection e with _ e; omega
 refine ⟨by rw [Em,Em,h.len],An h.outer hf.size,h.gob,fun k hd zs k1 k2=>?_,fun k hd zs k1 k2=>?_,fun a b ha hb k1 k2 hab=>?_⟩
 ·rw [DF hs i j h1 h2] at k1
  rw [DF g i j h3 h4] at k2
  rw [Ao,Ao]
  by_cases e:k=j
  ·subst e
   rw [Ak rfl] at k1 k2
   injection k1 with k1; injection k2 with k2; subst k1; subst k2
   refine ⟨Ap _ _ _ ?_,cj.2⟩
   rw [Ae _ _ _ _ eij,cj.1]; rfl
  ·rw [Aj e] at k1 k2
   have ekj:(⟨ob,oo+j,none⟩:Addr)≠⟨ob,oo+k,none⟩:=fun e2=>by injection e2 with _ e2; omega
   rw [Ae _ _ _ _ ekj]
   by_cases e2:k=i
   ·subst e2
    rw [Ak rfl] at k1 k2
    injection k1 with k1; injection k2 with k2; subst k1; subst k2
    exact ⟨Ap _ _ _ (by rw [ci.1]; rfl),ci.2⟩
   ·rw [Aj e2] at k1 k2
    have eki:(⟨ob,oo+i,none⟩:Addr)≠⟨ob,oo+k,none⟩:=fun e3=>by injection e3 with _ e3; omega
    rw [Ae _ _ _ _ eki]
    exact h.cell k hd zs k1 k2
 ·rw [DF hs i j h1 h2] at k1
  rw [DF g i j h3 h4] at k2
  have go:∀ (m:Nat) (hd:Nat×Nat×Nat) (zs:List Int),hs[m]?=some hd→g[m]?=some zs→E5 ((w.setCell ⟨ob,oo+i,none⟩ (.slice (some ⟨hj.1,hj.2.1,none⟩) ys.length hj.2.2)).setCell ⟨ob,oo+j,none⟩ (.slice (some ⟨hi.1,hi.2.1,none⟩) xs.length hi.2.2)) hd.1 hd.2.1 zs∧hd.1≠ob:=fun m hd zs m1 m2=>by
   have:=h.row m hd zs m1 m2
   exact ⟨this.1.fx hf this.2,this.2⟩
  by_cases e:k=j
  ·subst e; rw [Ak rfl] at k1 k2; injection k1 with k1; injection k2 with k2; subst k1; subst k2; exact go i _ _ h1 h3
  ·rw [Aj e] at k1 k2
   by_cases e2:k=i
   ·subst e2; rw [Ak rfl] at k1 k2; injection k1 with k1; injection k2 with k2; subst k1; subst k2; exact go j _ _ h2 h4
   ·rw [Aj e2] at k1 k2; exact go k _ _ k1 k2
 ·rw [DF hs i j h1 h2] at k1 k2
  have key:∀ (k:Nat) (hd:Nat×Nat×Nat),(if k=j then some hi else if k=i then some hj else hs[k]?)=some hd→∃ m,hs[m]?=some hd∧m=(if k=j then i else if k=i then j else k):=fun k hd hk=>by
   by_cases e:k=j
   ·rw [Ak e] at hk ⊢; exact ⟨i,by rw [h1,hk],rfl⟩
   ·rw [Aj e] at hk ⊢
    by_cases e2:k=i
    ·rw [Ak e2] at hk ⊢; exact ⟨j,by rw [h2,hk],rfl⟩
    ·rw [Aj e2] at hk ⊢; exact ⟨k,hk,rfl⟩
  obtain ⟨m,m1,m2⟩:=key a ha k1
  obtain ⟨n,n1,n2⟩:=key b hb k2
  refine h.apart m n _ _ m1 n1 (fun e=>hab ?_)
  rw [m2,n2] at e
  repeat' split at e
  all_goals omega
theorem QW {ob:Nat} {hs:List (Nat×Nat×Nat)} {i j:Nat} {hi hj:Nat×Nat×Nat} (h1:hs[i]?=some hi) (h2:hs[j]?=some hj):∀ k,gb ob (swp hs i j) k ↔ gb ob hs k:=by
 have key:∀ hd,hd ∈ swp hs i j ↔ hd ∈ hs:=fun hd=>by
  rw [DV,DV]
  constructor
  ·rintro ⟨k,hk⟩
   rw [DF hs i j h1 h2] at hk
   split at hk
   ·exact ⟨i,by rw [h1,hk]⟩
   ·split at hk
    ·exact ⟨j,by rw [h2,hk]⟩
    ·exact ⟨k,hk⟩
  ·rintro ⟨k,hk⟩
   by_cases e:k=i
   ·subst e; rw [h1] at hk; exact ⟨j,by rw [DF hs k j h1 h2,Ak rfl,hk]⟩
   ·by_cases e2:k=j
    ·subst e2; rw [h2] at hk
     refine ⟨i, ?_⟩
     rw [DF hs i k h1 h2]
     have e':¬ i=k:=fun h=>e h.symm
     rw [Aj e',Ak rfl,hk]
    ·exact ⟨k,by rw [DF hs i j h1 h2,Aj e2,Aj e,hk]⟩
 intro k
 unfold gb
 constructor
 ·rintro (h | ⟨hd,hm,e⟩)
  ·exact .inl h
  ·exact .inr ⟨hd,(key hd).1 hm,e⟩
 ·rintro (h | ⟨hd,hm,e⟩)
  ·exact .inl h
  ·exact .inr ⟨hd,(key hd).2 hm,e⟩
def A7 (g:List (List Int)) (i:Nat):List Int:=(g[i]?).getD []
def ent (g:List (List Int)) (i c:Nat):Int:=((A7 g i)[c]?).getD 0
def Ng (n:Int):Bool:=decide (-100000000000000000 < n∧n < 100000000000000000)
theorem J9 {n:Int} (h:Ng n=true):Sm n:=by unfold Ng at h; have h:=Au h; exact h
def IG (g:List (List Int)) (c t i:Nat):Option (List (List Int)) :=
 if Ng (ent g i c) && Ng (ent g t c) && ent g t c != 0 then (E6 ((ent g i c).fdiv (ent g t c)) (A7 g i) (A7 g t)).map (fun r=>g.set i r) else none
def CP (g:List (List Int)) (c t s:Nat):Nat→Option (List (List Int))
 | 0=>some g
 | j+1=>(CP g c t s j).bind fun g=>IG g c t (s+j)
def Ue (r:List Int):Bool:=r.all Ng
def Kl (g:List (List Int)) (t c:Nat):Option (List (List Int)) :=
 if ent g t c < 0 then (if Ue (A7 g t) then CP (g.set t ((A7 g t).map (fun x=>-x))) c t 0 t else none) else CP g c t 0 t
def BU (n:Nat) (g:List (List Int)):Prop:=∀ r,r ∈ g→r.length=n
theorem BU.row {n:Nat} {g:List (List Int)} (h:BU n g) {i:Nat} (hi:i < g.length):(g[i]).length=n:=h _ (AK hi)
theorem BU.set {n:Nat} {g:List (List Int)} (h:BU n g) {i:Nat} {r:List Int} (hr:r.length=n):BU n (g.set i r):=fun x hx=>by
 rcases Bt hx with h1 | h1
 ·exact h x h1
 ·rw [h1]; exact hr
theorem BB {g:List (List Int)} {i:Nat} (hi:i < g.length):A7 g i=g[i]:=by unfold A7; rw [Aa hi]; rfl
theorem Fb {g:List (List Int)} {n i c:Nat} (h:BU n g) (hi:i < g.length) (hc:c < n):(g[i])[c]?=some (ent g i c):=by
 unfold ent
 rw [BB hi]
 have:c < (g[i]).length:=by rw [h.row hi]; exact hc
 rw [Aa this]; rfl
theorem GL {q:Int} {xs ys zs:List Int} (h:E6 q xs ys=some zs):zs.length=xs.length:=by
 unfold E6 at h
 split at h
 ·injection h with h; rw [h]
 ·exact (F3 q xs ys zs h).1
theorem F9 {g g':List (List Int)} {c t i:Nat} (h:IG g c t i=some g'):Sm (ent g i c)∧Sm (ent g t c)∧ent g t c≠0∧∃ r,E6 ((ent g i c).fdiv (ent g t c)) (A7 g i) (A7 g t)=some r∧g'=g.set i r:=by
 unfold IG at h
 split at h
 ·rename_i hc
  simp only [AP,BJ] at hc
  obtain ⟨r,hr,rfl⟩:=AW.1 h
  exact ⟨J9 hc.1.1,J9 hc.1.2,hc.2,r,hr,rfl⟩
 ·simp at h
theorem Pz {g g':List (List Int)} {c t i n:Nat} (h:IG g c t i=some g') (hr:BU n g) (hi:i < g.length):BU n g'∧g'.length=g.length:=by
 obtain ⟨_,_,_,r,h1,rfl⟩:=F9 h
 exact ⟨hr.set (by rw [GL h1,BB hi,hr.row hi]),by simp⟩
theorem B7 {g:List (List Int)} {c t s n:Nat} (hr:BU n g):∀ (j:Nat) (g':List (List Int)),CP g c t s j=some g'→s+j≤g.length→BU n g'∧g'.length=g.length
 | 0,g',h,_=>by injection h with h; subst h; exact ⟨hr,rfl⟩
 | j+1,g',h,hl=>by
   obtain ⟨g1,h1,h2⟩:=AZ.1 h
   obtain ⟨a,b⟩:=B7 hr j g1 h1 (by omega)
   obtain ⟨a',b'⟩:=Pz h2 a (by omega)
   exact ⟨a',by rw [b',b]⟩
theorem Gw {g:List (List Int)} {c t s:Nat}:∀ (j k:Nat) (g':List (List Int)),CP g c t s k=some g'→j≤k→∃ g1,CP g c t s j=some g1
 | j,0,g',h,hj=>by obtain rfl:j=0:=by omega
                   exact ⟨g,rfl⟩
 | j,k+1,g',h,hj=>by
   by_cases e:j=k+1
   ·subst e; exact ⟨g',h⟩
   ·obtain ⟨g1,h1,_⟩:=AZ.1 h
    exact Gw j k g1 h1 (by omega)
theorem Sx {r:List Int} (h:Ue r=true):∀ x,x ∈ r→(tx x).size≤1000000000:=fun x hx=>by
 have:=(J9 (Ar.1 h x hx)).size; omega
def kI:Option Nat→Int
 | none=>-1
 | some k=>k
def R5 (g:List (List Int)) (c:Nat):Bool:=(List.range g.length).all fun i=>Ng (ent g i c)
def Ks (ob:Nat) (a b:List (Nat×Nat×Nat)):Prop:=(∀ k,gb ob a k ↔ gb ob b k)∧∀ h,h ∈ a→h ∈ b
theorem K3 {α:Type} {l:List α} {i j:Nat} {x:α} (h:x ∈ swp l i j):x ∈ l:=by
 unfold swp at h
 split at h
 ·rename_i a b ha hb
  rcases Bt h with h1 | h1
  ·rcases Bt h1 with h2 | h2
   ·exact h2
   ·rw [h2]; exact Ac hb
  ·rw [h1]; exact Ac ha
 ·exact h
theorem Jp {α:Type} (l:List α) (i:Nat):swp l i i=l:=by
 unfold swp
 cases h:l[i]? with
 | none=>rfl
 | some x=>
   have hi:=(Ah.1 h).1
   refine CB fun k=>?_
   simp only [AX]
   by_cases e:i=k
   ·subst e; simp [hi]; exact ((Ah.1 h).2).symm
   ·simp [e]
theorem F4 {n:Nat} {g:List (List Int)} {i j:Nat} (h:BU n g):BU n (swp g i j):=by
 unfold swp
 split
 ·rename_i x y hx hy
  exact (h.set (h _ (Ac hy))).set (h _ (Ac hx))
 ·exact h
theorem Bu.same {w:World} {ob oo:Nat} {hs:List (Nat×Nat×Nat)} {g:List (List Int)} (h:Bu w ob oo hs g) {i:Nat} {v:Value} (hv:w.cell? ⟨ob,oo+i,none⟩=some v) :
 Bu ((w.setCell ⟨ob,oo+i,none⟩ v).setCell ⟨ob,oo+i,none⟩ v) ob oo hs g:=by
 have hc:∀ q,((w.setCell ⟨ob,oo+i,none⟩ v).setCell ⟨ob,oo+i,none⟩ v).cell? q=w.cell? q:=fun q=>by
  by_cases e:(⟨ob,oo+i,none⟩:Addr)=q
  ·subst e
   rw [hv]
   refine Ap _ _ _ ?_
   rw [Ap _ _ _ (by rw [hv]; rfl)]; rfl
  ·rw [Ae _ _ _ _ e,Ae _ _ _ _ e]
 have hf:∀ q,((w.setCell ⟨ob,oo+i,none⟩ v).setCell ⟨ob,oo+i,none⟩ v).frozen? q=w.frozen? q:=fun q=>by
  rw [Ao,Ao]
 have hs':((w.setCell ⟨ob,oo+i,none⟩ v).setCell ⟨ob,oo+i,none⟩ v).heap.size=w.heap.size:=by simp [World.setCell]
 refine ⟨h.len,by rw [hs']; exact h.outer,h.gob,fun j hd xs h1 h2=>?_,fun j hd xs h1 h2=>?_,h.apart⟩
 ·rw [hc,hf]; exact h.cell j hd xs h1 h2
 ·obtain ⟨⟨a1,a2,a3⟩,a4⟩:=h.row j hd xs h1 h2
  exact ⟨⟨a1,by rw [hs']; exact a2,fun m x hx=>by rw [hc,hf]; exact a3 m x hx⟩,a4⟩
theorem Fx.of_grown {w w':World} {row:Option Nat} (h:w.grownBy w' row):Fx (fun k=>row=some k) w w' :=
 ⟨h.os,h.tape,h.output,h.size,fun k hk hp=>h.block k hk (fun e=>hp e.symm)⟩
theorem B2 {w w':World} {p:Nat→Prop} {base:Nat} {e:TypeId} {size:Nat} {v:Value} {n:Nat} {xs:List Value} (h:w.ownsRow base e size v n xs) (k:Fx p w w') (hp:∀ g,v.ownBlock=some g→¬ p g):w'.ownsRow base e size v n xs:=by
 obtain ⟨h1,h2⟩:=h
 refine ⟨h1, ?_⟩
 rcases h2 with h2 | ⟨g,cap,cur,rfl,hg,hh,r⟩
 ·exact .inl h2
 ·have hlt:g < w.heap.size:=by
   by_cases hl:g < w.heap.size
   ·exact hl
   ·rw [MB (by omega)] at hh; simp at hh
  exact .inr ⟨g,cap,cur,rfl,hg,by rw [k.block g hlt (hp g rfl)]; exact hh,r⟩
theorem A3 {w w':World} {base:Nat} {e:TypeId} {size:Nat} {v:Value} {n:Nat} {xs:List Value} (h:w.ownsRow base e size v n xs) (k:Fr w w'):w'.ownsRow base e size v n xs :=
 B2 (p:=fun _=>False) h (Fx.of_fr k) (fun _ _ e=>e)
theorem AD (w:World) (x:Value) (t:TypeId) (n:Nat) (hn:w.heap.size=n):∀ j u,[x][j]?=some u→(w.alloc (.cells #[x] t)).cell? ((⟨n,0,none⟩:Addr).add j)=some u:=by
 subst hn; exact cell_one_new w x t
theorem Du (w:World) (x:Value) (t:TypeId):(w.alloc (.cells #[x] t)).cell? ⟨w.heap.size,0,none⟩=some x:=cell_one_new w x t 0 x rfl
theorem BK {w:World} {base:Nat} {e:TypeId} {size:Nat} {g n m cap:Nat} {xs:List Value} (h:w.ownsRow base e size (.slice (some ⟨g,0,none⟩) n cap) m xs) :
 n=m∧base≤g∧g < w.heap.size∧n≤cap∧∀ j u,xs[j]?=some u→w.cell? ⟨g,j,none⟩=some u∧w.frozen? ⟨g,j,none⟩=false:=by
 obtain ⟨h1,h2⟩:=h
 rcases h2 with ⟨h2,_⟩ | ⟨g',cap',cur,hv,hg,hh,hn,hc,hs,ht⟩
 ·cases h2
 ·injection hv with hv1 hv2 hv3
  injection hv1 with hv1; injection hv1 with hv1
  subst hv1; subst hv2; subst hv3
  have hlt:g < w.heap.size:=by
   by_cases hl:g < w.heap.size
   ·exact hl
   ·rw [MB (by omega)] at hh; simp at hh
  refine ⟨rfl,hg,hlt,hn,fun j u hu=>?_⟩
  have hju:cur[j]?=some u:=by
   rw [← ht,BZ] at hu
   split at hu
   ·simpa using hu
   ·simp at hu
  exact ⟨by simp [World.cell?,hh,hju],by simp [World.frozen?,hh]⟩
theorem CG {w:World} {base:Nat} {e:TypeId} {g n m cap:Nat} {xs:List Int} (hb:gN≤base) (h:w.ownsRow base e 1 (.slice (some ⟨g,0,none⟩) n cap) m (xs.map sv)):E5 w g 0 xs∧n=m∧m=xs.length∧base≤g∧n≤cap:=by
 have h1:=h.1
 obtain ⟨a,b,c,d,f⟩:=BK h
 refine ⟨⟨by omega,c,fun j x hx=>?_⟩,a,by simpa using h1.symm,b,d⟩
 have:=f j (sv x) (by rw [Am,hx]; rfl)
 simpa using this
theorem CF {w:World} {base:Nat} {e:TypeId} {size:Nat} {v:Value} {n:Nat} {xs:List Value} (h:w.ownsRow base e size v n xs) (hn:0 < n):∃ g cap,v=.slice (some ⟨g,0,none⟩) n cap:=by
 obtain ⟨_,h2⟩:=h
 rcases h2 with ⟨_,h2⟩ | ⟨g,cap,_,hv,_⟩
 ·omega
 ·exact ⟨g,cap,hv⟩
def Kj (h:Nat×Nat×Nat) (xs:List Int):Value:=.slice (some ⟨h.1,h.2.1,none⟩) xs.length h.2.2
def LZ (hs:List (Nat×Nat×Nat)) (g:List (List Int)):List Value:=List.zipWith Kj hs g
structure GG (w:World) (base:Nat) (E:TypeId) (v:Value) (hs:List (Nat×Nat×Nat)) (g:List (List Int)):Prop where
 gbase:gN≤base
 len:hs.length=g.length
 own:w.ownsRow base E 1 v g.length (LZ hs g)
 row:∀ (i:Nat) (h:Nat×Nat×Nat) (xs:List Int),hs[i]?=some h→g[i]?=some xs→E5 w h.1 h.2.1 xs∧v.ownBlock≠some h.1
 apart:∀ (i j:Nat) (hi hj:Nat×Nat×Nat),hs[i]?=some hi→hs[j]?=some hj→i≠j→hi.1≠hj.1
theorem GG.nil (w:World) (base:Nat) (E:TypeId) (h:gN≤base):GG w base E (.slice none 0 0) [] [] :=
 ⟨h,rfl,AO _ _ _ _,fun i h xs h1=>by simp at h1,fun i j hi hj h1=>by simp at h1⟩
theorem GG.fr {w w':World} {base:Nat} {E:TypeId} {v:Value} {hs:List (Nat×Nat×Nat)} {g:List (List Int)} (h:GG w base E v hs g) (k:Fr w w'):GG w' base E v hs g :=
 ⟨h.gbase,h.len,A3 h.own k,fun i hd xs h1 h2=>⟨(h.row i hd xs h1 h2).1.fr k,(h.row i hd xs h1 h2).2⟩,h.apart⟩
theorem GG.lt {w:World} {base:Nat} {E:TypeId} {v:Value} {hs:List (Nat×Nat×Nat)} {g:List (List Int)} (h:GG w base E v hs g):∀ hd,hd ∈ hs→hd.1 < w.heap.size:=fun hd hm=>by
 obtain ⟨i,hi⟩:=AM hm
 have hl:i < g.length:=by rw [← h.len]; exact (Ah.1 hi).1
 exact (h.row i hd _ hi (Aa hl)).1.2.1
theorem Nw (hs:List (Nat×Nat×Nat)) (g:List (List Int)) (h:Nat×Nat×Nat) (xs:List Int) (hl:hs.length=g.length):LZ (hs ++ [h]) (g ++ [xs])=LZ hs g ++ [Kj h xs]:=by
 unfold LZ; rw [Z6 hl]; rfl
theorem GG.push {w w':World} {base:Nat} {E:TypeId} {v:Value} {hs:List (Nat×Nat×Nat)} {g:List (List Int)} (h:GG w base E v hs g) {hd:Nat×Nat×Nat} {xs:List Int} (ho:E5 w hd.1 hd.2.1 xs)
 (hne:∀ h',h' ∈ hs→h'.1≠hd.1) (hv:v.ownBlock≠some hd.1) {gb cap:Nat} (hown:w'.ownsRow base E 1 (.slice (some ⟨gb,0,none⟩) (g.length+1) cap) (g.length+1) (LZ hs g ++ [Kj hd xs]))
 (hg:w.grownBy w' v.ownBlock) (hat:v.ownBlock=some gb∨w.heap.size≤gb):GG w' base E (.slice (some ⟨gb,0,none⟩) (g.length+1) cap) (hs ++ [hd]) (g ++ [xs]):=by
 have hfx:=Fx.of_grown hg
 have hrow:∀ (i:Nat) (h0:Nat×Nat×Nat) (ys:List Int),hs[i]?=some h0→g[i]?=some ys→E5 w' h0.1 h0.2.1 ys∧gb≠h0.1:=fun i h0 ys h1 h2=>by
  obtain ⟨a,b⟩:=h.row i h0 ys h1 h2
  refine ⟨a.fx hfx (fun e=>b e), ?_⟩
  rcases hat with e | e
  ·intro e2; rw [e2] at e; exact b e
  ·have:=a.2.1; omega
 refine ⟨h.gbase,by simp [h.len], ?_,fun i h0 ys h1 h2=>?_,fun i j hi hj h1 h2 hij=>?_⟩
 ·rw [Nw _ _ _ _ h.len]; simpa using hown
 ·by_cases hi:i < g.length
  ·rw [Be (by rw [h.len]; exact hi)] at h1
   rw [Be hi] at h2
   obtain ⟨a,b⟩:=hrow i h0 ys h1 h2
   exact ⟨a,fun e=>by injection e with e; exact b e⟩
  ·rw [Bj (by omega)] at h2
   rw [Bj (by rw [h.len]; omega)] at h1
   rw [Cr] at h1 h2
   split at h1
   ·split at h2
    ·injection h1 with h1; injection h2 with h2; subst h1; subst h2
     refine ⟨ho.fx hfx (fun e=>hv e),fun e=>?_⟩
     injection e with e
     rcases hat with e2 | e2
     ·have e3:gb=hd.1:=e
      rw [e3] at e2; exact hv e2
     ·have:=ho.2.1
      have e3:gb=hd.1:=e
      omega
    ·simp at h2
   ·simp at h1
 ·have key:∀ (i:Nat) (h0:Nat×Nat×Nat),(hs ++ [hd])[i]?=some h0→(i < hs.length∧hs[i]?=some h0)∨(i=hs.length∧h0=hd):=fun i h0 h=>by
   by_cases hi:i < hs.length
   ·rw [Be hi] at h; exact .inl ⟨hi,h⟩
   ·rw [Bj (by omega),Cr] at h
    split at h
    ·injection h with h; exact .inr ⟨by omega,h.symm⟩
    ·simp at h
  rcases key i hi h1 with ⟨a1,a2⟩ | ⟨a1,a2⟩ <;> rcases key j hj h2 with ⟨b1,b2⟩ | ⟨b1,b2⟩
  ·exact h.apart i j _ _ a2 b2 hij
  ·subst b2; exact hne _ (Ac a2)
  ·subst a2; exact (hne _ (Ac b2)).symm
  ·omega
theorem GG.pushN {w w':World} {base:Nat} {E:TypeId} {v u:Value} {hs:List (Nat×Nat×Nat)} {g:List (List Int)} (h:GG w base E v hs g) {hd:Nat×Nat×Nat} {xs:List Int} (ho:E5 w hd.1 hd.2.1 xs)
 (hne:∀ h',h' ∈ hs→h'.1≠hd.1) (hv:v.ownBlock≠some hd.1) {gb cap n:Nat} (hn:g.length=n) (hu:u=Kj hd xs) (hown:w'.ownsRow base E 1 (.slice (some ⟨gb,0,none⟩) (n+1) cap) (n+1) (LZ hs g ++ [u]))
 (hg:w.grownBy w' v.ownBlock) (hat:v.ownBlock=some gb∨w.heap.size≤gb):GG w' base E (.slice (some ⟨gb,0,none⟩) (n+1) cap) (hs ++ [hd]) (g ++ [xs]):=by
 subst hn; subst hu
 exact h.push ho hne hv hown hg hat
theorem GG.grid {w:World} {base:Nat} {E:TypeId} {gb n cap:Nat} {hs:List (Nat×Nat×Nat)} {g:List (List Int)} (h:GG w base E (.slice (some ⟨gb,0,none⟩) n cap) hs g):Bu w gb 0 hs g∧n=g.length∧base≤gb∧n≤cap:=by
 obtain ⟨a,b,c,d,f⟩:=BK h.own
 refine ⟨⟨h.len,c,Aw h.gbase b,fun i hd xs h1 h2=>?_,fun i hd xs h1 h2=>?_,h.apart⟩,a,b,d⟩
 ·have:=f i (Kj hd xs) (by unfold LZ; rw [CH,h1,h2])
  simpa [Kj] using this
 ·obtain ⟨p,q⟩:=h.row i hd xs h1 h2
  exact ⟨p,fun e=>q (by simp [Value.ownBlock,e])⟩
theorem Dt {w:World} {base base':Nat} {e:TypeId} {size:Nat} {v:Value} {n:Nat} {xs:List Value} (h:w.ownsRow base e size v n xs) (hb:base'≤base):w.ownsRow base' e size v n xs:=by
 obtain ⟨h1,h2⟩:=h
 refine ⟨h1, ?_⟩
 rcases h2 with h2 | ⟨g,cap,cur,hv,hg,r⟩
 ·exact .inl h2
 ·exact .inr ⟨g,cap,cur,hv,Aw hb hg,r⟩
def FF (w:World) (hs:List (Nat×Nat×Nat)) (g:List (List Int)):Prop :=
 ∀ (i:Nat) (h:Nat×Nat×Nat) (xs:List Int),hs[i]?=some h→g[i]?=some xs→h.2.1=0∧w.ownsRow gN 56 1 (.slice (some ⟨h.1,0,none⟩) xs.length h.2.2) xs.length (xs.map sv)
theorem FF.nil (w:World):FF w [] []:=fun i h xs h1=>by simp at h1
theorem FF.fx {w w':World} {p:Nat→Prop} {hs:List (Nat×Nat×Nat)} {g:List (List Int)} (h:FF w hs g) (k:Fx p w w') (hp:∀ hd,hd ∈ hs→¬ p hd.1):FF w' hs g:=fun i hd xs h1 h2=>by
 obtain ⟨a,b⟩:=h i hd xs h1 h2
 refine ⟨a,B2 b k (fun g hg=>?_)⟩
 have e:hd.1=g:=by simpa [Value.ownBlock] using hg
 rw [← e]
 exact hp hd (Ac h1)
theorem FF.fr {w w':World} {hs:List (Nat×Nat×Nat)} {g:List (List Int)} (h:FF w hs g) (k:Fr w w'):FF w' hs g :=
 h.fx (p:=fun _=>False) (Fx.of_fr k) (fun _ _ e=>e)
theorem FF.push {w:World} {hs:List (Nat×Nat×Nat)} {g:List (List Int)} (h:FF w hs g) (hl:hs.length=g.length) {hd:Nat×Nat×Nat} {xs:List Int} (h0:hd.2.1=0)
 (ho:w.ownsRow gN 56 1 (.slice (some ⟨hd.1,0,none⟩) xs.length hd.2.2) xs.length (xs.map sv)):FF w (hs ++ [hd]) (g ++ [xs]):=fun i h1 ys k1 k2=>by
 by_cases hi:i < g.length
 ·rw [Be (by rw [hl]; exact hi)] at k1
  rw [Be hi] at k2
  exact h i h1 ys k1 k2
 ·rw [Bj (by omega),Cr] at k2
  rw [Bj (by rw [hl]; omega),Cr] at k1
  split at k1
  ·split at k2
   ·injection k1 with k1; injection k2 with k2; subst k1; subst k2; exact ⟨h0,ho⟩
   ·simp at k2
  ·simp at k1
theorem Bu.setHead {w w1:World} {ob oo:Nat} {hs:List (Nat×Nat×Nat)} {g:List (List Int)} (h:Bu w ob oo hs g) {i:Nat} {hd hd':Nat×Nat×Nat} {xs':List Int} (hi:hs[i]?=some hd)
 (hf:Fx (·=hd.1) w w1) (ho:E5 w1 hd'.1 hd'.2.1 xs') (hat:hd'.1=hd.1∨w.heap.size≤hd'.1) :
 Bu (w1.setCell ⟨ob,oo+i,none⟩ (Kj hd' xs')) ob oo (hs.set i hd') (g.set i xs'):=by
 have hl:i < g.length:=by rw [← h.len]; exact (Ah.1 hi).1
 have hii:=Aa hl
 have hc:=h.cell i _ _ hi hii
 have hr:=h.row i _ _ hi hii
 have hcw1:w1.cell? ⟨ob,oo+i,none⟩=_:=hf.keep hc.1 (fun e=>hr.2 e.symm)
 have hs2:Fx (·=ob) w1 (w1.setCell ⟨ob,oo+i,none⟩ (Kj hd' xs')):=Fx.setCell (p:=(·=ob)) (q:=⟨ob,oo+i,none⟩) (Fx.refl _ w1) (.inl rfl) _
 have hne':hd'.1≠ob:=by
  rcases hat with e | e
  ·rw [e]; exact hr.2
  ·have:=h.outer; omega
 refine ⟨by simp [h.len],An h.outer (Aw hf.size hs2.size),h.gob,fun j k ys k1 k2=>?_,fun j k ys k1 k2=>?_,fun a b ha hb k1 k2 hab=>?_⟩
 ·rw [AX] at k1 k2
  rw [Ao]
  by_cases e:i=j
  ·subst e
   rw [Ak rfl,Ak hl] at k2
   rw [Ak rfl,Ak (by rw [h.len]; exact hl)] at k1
   injection k1 with k1; injection k2 with k2; subst k1; subst k2
   exact ⟨Ap _ _ _ (by rw [hcw1]; rfl),hf.keepf hc.1 hc.2 (fun e=>hr.2 e.symm)⟩
  ·rw [Aj e] at k1 k2
   have e3:(⟨ob,oo+i,none⟩:Addr)≠⟨ob,oo+j,none⟩:=fun e2=>by injection e2 with _ e2; omega
   have h3:=h.cell j k ys k1 k2
   rw [Ae _ _ _ _ e3]
   exact ⟨hf.keep h3.1 (fun e=>hr.2 e.symm),hf.keepf h3.1 h3.2 (fun e=>hr.2 e.symm)⟩
 ·rw [AX] at k1 k2
  by_cases e:i=j
  ·subst e
   rw [Ak rfl,Ak hl] at k2
   rw [Ak rfl,Ak (by rw [h.len]; exact hl)] at k1
   injection k1 with k1; injection k2 with k2; subst k1; subst k2
   exact ⟨ho.fx hs2 hne',hne'⟩
  ·rw [Aj e] at k1 k2
   have h3:=h.row j k ys k1 k2
   exact ⟨(h3.1.fx hf (h.apart j i _ _ k1 hi (fun e2=>e e2.symm))).fx hs2 h3.2,h3.2⟩
 ·have key:∀ (j:Nat) (k:Nat×Nat×Nat),(hs.set i hd')[j]?=some k→(j=i∧k=hd')∨(j≠i∧hs[j]?=some k):=fun j k hk=>by
   rw [AX] at hk
   by_cases e:i=j
   ·subst e
    rw [Ak rfl,Ak (by rw [h.len]; exact hl)] at hk
    injection hk with hk; exact .inl ⟨rfl,hk.symm⟩
   ·rw [Aj e] at hk; exact .inr ⟨fun e2=>e e2.symm,hk⟩
  have far:∀ (j:Nat) (k:Nat×Nat×Nat),j≠i→hs[j]?=some k→k.1≠hd'.1:=fun j k hj hk=>by
   rcases hat with e | e
   ·rw [e]; exact h.apart j i _ _ hk hi hj
   ·have hjl:j < g.length:=by rw [← h.len]; exact (Ah.1 hk).1
    have:=(h.row j k _ hk (Aa hjl)).1.2.1
    omega
  rcases key a ha k1 with ⟨a1,a2⟩ | ⟨a1,a2⟩ <;> rcases key b hb k2 with ⟨b1,b2⟩ | ⟨b1,b2⟩
  ·omega
  ·subst a2; exact (far b hb b1 b2).symm
  ·subst b2; exact far a ha a1 a2
  ·exact h.apart a b _ _ a2 b2 hab
end Go.Proofs.YtkjemicelmabdaaGreatDoor
