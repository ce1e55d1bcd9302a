/- Contracts and laws: VA. -/
import Derived.Lib.AtoiAll
import Derived.Lib.ItoaLen
import Derived.Lib.ItoaMem
import Derived.Lib.ParseIntB
import GoSem.Op.String
import Derived.Laws.Strings
import Derived.Test.YtcglmebcfeoedaaGreatDoorProg
import Derived.WalkKit
import Derived.WalkLawsBesides
import Derived.WalkSpells
import Derived.Outline
import Derived.Lib.Hide
import Derived.BigQuiet
import Derived.Deep.QuietTactic
import Derived.Lib.LaidTab
import Derived.Test.YtcglmebcfeoedaaGreatDoorShelf
import Derived.Lib.AtoiErrMem
import Derived.Lib.ParseIntBTie
import Derived.LoopTactic
import Derived.Deep.RegionHeld3
import Derived.Deep.RegionWith
import Derived.Deep.DrawnRows
import Derived.Deep.LoopGhost
import Derived.Deep.AppendLies
import Derived.Maps.AppendAt

set_option maxHeartbeats 1000000
namespace Go.Proofs.YtcglmebcfeoedaaGreatDoor
open Go.Lib
theorem hZ {p:Prop} (h:p):Go.RowKit.Hid p:=h
abbrev Aa:=@decide_eq_false
abbrev Ab:=@List.getElem?_eq_getElem
abbrev Ac:=@decide_eq_true
abbrev Ad:=@World.cell?_setCell_other
abbrev Ae:=@List.mem_of_getElem?
abbrev Af:=@Int.natCast_nonneg
abbrev Ag:=@Nat.le_refl
abbrev Ah:=@List.getElem?_eq_some_iff
abbrev Ai:=@if_neg
abbrev Aj:=@if_pos
abbrev Ak:=@List.take_of_length_le
abbrev Al:=@IntWalk.i64_in
abbrev Am:=@List.length_map
abbrev An:=@Nat.lt_of_lt_of_le
abbrev Ao:=@List.getElem?_map
abbrev Ap:=@World.frozen?_setCell
abbrev Aq:=@World.cell?_setCell_same'
abbrev Ar:=@List.length_append
abbrev As:=@List.all_eq_true
abbrev At:=@wpList_append_lies
abbrev Au:=@World.ownsRow.alloc
abbrev Av:=@of_decide_eq_true
abbrev Aw:=@List.map_append
abbrev Ax:=@bodyPost_ret
abbrev Ay:=@beq_false_of_ne
abbrev Az:=@Nat.zero_add
abbrev AA:=@Go.wp_at_zero
abbrev AB:=@Go.wp_at_succ
abbrev AC:=@Int.natAbs_natCast
abbrev AD:=@List.eq_nil_of_length_eq_zero
abbrev AE:=@Nat.le_trans
abbrev AG:=@List.length_take
abbrev AH:=@List.length_replicate
abbrev AJ:=@IntWalk.u64_in
abbrev AK:=@World.size_alloc
abbrev AL:=@List.drop_eq_nil_of_le
abbrev AM:=@List.getElem?_eq_none
abbrev AN:=@List.length_set
abbrev AO:=@List.getElem?_of_mem
abbrev AP:=@Int.mul_le_mul_of_nonneg_right
abbrev AQ:=@info_parts
abbrev AR:=@List.getElem?_append_right
abbrev AU:=@Int.natCast_mul
abbrev AV:=@Option.map_eq_some_iff
abbrev AW:=@Int.toNat_natCast
abbrev AX:=@World.block_lt_of_cell?
abbrev AY:=@Option.bind_some
abbrev AZ:=@List.mem_range
abbrev A0:=@List.getElem?_append_left
abbrev A1:=@List.mem_cons
abbrev A2:=@Option.bind_eq_some_iff
abbrev A3:=@List.length_cons
abbrev A5:=@List.mem_append
abbrev A6:=@World.ownsRow_nil
abbrev A8:=@List.getElem_mem
abbrev Bb:=@Bool.and_eq_true
abbrev Be:=@Nat.mul_le_mul_right
abbrev Bg:=@List.mem_map
abbrev Bh:=@rounds_succ
abbrev Bj:=@Nat.pow_succ
abbrev Bl:=@bne_iff_ne
abbrev Bm:=@Nat.zero_le
abbrev Bo:=@List.mem_singleton
abbrev Bp:=@List.mem_cons_self
abbrev Bs:=@Nat.not_lt_zero
abbrev Bz:=@List.length_range
abbrev BA:=@List.getElem?_set
abbrev BB:=@List.not_mem_nil
abbrev BC:=@Nat.div_div_eq_div_mul
abbrev BD:=@Int.natAbs_mul
abbrev BF:=@List.append_assoc
abbrev BI:=@Nat.lt_of_le_of_lt
abbrev BJ:=@List.append_nil
abbrev BK:=@Decidable.byContradiction
abbrev BN:=@List.getElem?_take
abbrev BQ:=@List.map_cons
abbrev BW:=@Nat.pow_le_pow_right
abbrev BX:=@List.mem_cons_of_mem
abbrev B0:=@Nat.div_lt_iff_lt_mul
abbrev B3:=@List.length_drop
abbrev B4:=@List.getElem?_cons_succ
abbrev B7:=@Int.lt_trichotomy
abbrev B8:=@List.mem_or_eq_of_mem_set
abbrev B9:=@List.drop_eq_getElem_cons
abbrev Ca:=@Classical.byContradiction
abbrev Cm:=@List.ext_getElem?
abbrev Cp:=@List.getElem?_singleton
abbrev Cq:=@List.getElem?_replicate
abbrev Cs:=@World.size_setCell
abbrev Ct:=@World.ownsRow.form
abbrev Cu:=@List.mem_of_mem_take
abbrev Cv:=@Int.mul_nonneg
abbrev Cw:=@Nat.lt_irrefl
abbrev Cz:=@Option.getD_some
abbrev CC:=@Nat.mul_le_mul_left
abbrev CD:=@ByteArray.toList_eq
abbrev CE:=@List.any_eq_false
abbrev CG:=@heap_alloc_new
abbrev CH:=@Nat.mul_le_mul
abbrev CI:=@List.eq_of_mem_replicate
abbrev CL:=@Nat.mod_lt
abbrev CN:=@Nat.mod_eq_of_lt
abbrev CO:=@Nat.add_sub_cancel_left
abbrev CV:=@List.all_eq_false
abbrev CW:=@Int.mul_comm
abbrev CX:=@List.length_pos_iff
abbrev C1:=@Nat.div_le_self
abbrev C3:=@ByteArray.size_append
abbrev C9:=@Nat.add_zero
abbrev Da:=@List.map_map
abbrev De:=@Decidable.of_not_not
abbrev Di:=@Rat.intCast_mul
abbrev Dj:=@Nat.min_eq_left
abbrev Dm:=@wp_region_held_drew
abbrev Dn:=@List.getElem_of_mem
abbrev Do:=@List.getElem?_range
abbrev Dw:=@Int.mul_zero
abbrev Dx:=@Int.fmod_nonneg_of_pos
abbrev Dy:=@ByteArray.size_extract
abbrev Dz:=@wpList_make_full
abbrev DE:=@wp_loop_rounds
abbrev DF:=@or_false
abbrev DG:=@List.drop_zero
abbrev DH:=@Int.tdiv_eq_ediv_of_nonneg
abbrev DI:=@List.take_append_drop
abbrev DJ:=@List.getElem?_zipWith
abbrev DN:=@List.findIdx?_eq_some_iff_getElem
abbrev DT:=@Rat.intCast_inj
abbrev DU:=@Option.some.inj
abbrev DV:=@Nat.div_add_mod
abbrev DW:=@Int.natCast_add
abbrev DY:=@Nat.gcd_comm
abbrev DZ:=@List.take_succ_eq_append_getElem
abbrev D2:=@List.take_add_one
abbrev D3:=@Lib.data_getElem?
abbrev Ek:=@List.mem_map_of_mem
abbrev Em:=@List.map_congr_left
abbrev En:=@step_append_lies
abbrev Eo:=@Nat.le_mul_of_pos_right
abbrev Ep:=@List.drop_length
abbrev Eq:=@Int.natCast_ediv
abbrev Ex:=@Nat.one_mul
abbrev Ey:=@Int.one_mul
abbrev Ez:=@Int.le_refl
abbrev ED:=@Nat.sub_self
abbrev EE:=@Nat.pow_zero
abbrev EF:=@Nat.mul_comm
abbrev EG:=@Nat.add_comm
abbrev EH:=@Int.fmod_lt_of_pos
abbrev EU:=@List.mem_iff_getElem?
abbrev EV:=@World.ownsRow_lit
abbrev Fg:=@wpAnyH_done
abbrev Fh:=@Nat.pow_pos
abbrev Fi:=@Nat.mul_one
abbrev Fj:=@Nat.div_one
abbrev Fk:=@List.take_zero
abbrev Fl:=@Int.natAbs_sign_of_ne_zero
abbrev Fm:=@Int.natAbs_neg
abbrev Fn:=@Array.getElem?_eq_some_iff
abbrev FH:=@beq_self_eq_true
abbrev FI:=@Nat.le_of_lt
abbrev FS:=@List.map_take
abbrev FX:=@List.nil_append
abbrev FY:=@List.all_append
abbrev FZ:=@Int.mul_ne_zero
abbrev Gg:=@List.map_replicate
abbrev Gh:=@Int.lt_or_gt_of_ne
abbrev Gj:=@getD_set_ne
abbrev Gk:=@Nat.pow_add
abbrev Gl:=@List.length_eq_zero_iff
abbrev Gm:=@Int.add_mul
abbrev GM:=@List.map_set
abbrev GN:=@List.drop_of_length_le
abbrev GO:=@ByteArray.data_extract
abbrev He:=@List.mem_append_right
abbrev Hf:=@Int.emod_add_mul_ediv
abbrev HJ:=@Nat.div_eq_of_lt
abbrev HQ:=@List.getElem?_mapIdx
abbrev HR:=@Int.mul_le_mul_of_nonneg_left
abbrev HS:=@Array.toList_extract
abbrev HT:=@Array.size_replicate
abbrev Is:=@wpList_make_own
abbrev It:=@World.size_drew
abbrev Iu:=@Rat.num_intCast
abbrev Iv:=@Rat.den_intCast
abbrev Iw:=@Option.map_some
abbrev IL:=@beq_eq_false_iff_ne
abbrev IM:=@Array.toList_append
abbrev IQ:=@Int.le_of_lt
abbrev IR:=@Int.add_zero
abbrev Jq:=@Rat.num_divInt_den
abbrev J5:=@List.findIdx?_eq_none_iff
abbrev J6:=@Int.sign_eq_zero_iff_zero
abbrev J7:=@decide_eq_true_eq
abbrev J8:=@Nat.add_mul
abbrev J9:=@List.size_toArray
abbrev Ka:=@List.findIdx_cons
abbrev KE:=@Array.setIfInBounds_comm
abbrev K2:=@List.getElem?_cons_zero
abbrev K3:=@Int.natCast_emod
abbrev K4:=@Int.eq_ofNat_of_zero_le
abbrev Mt:=@ready_mono
abbrev Mu:=@Nat.le_mul_of_pos_left
abbrev Mv:=@Array.getElem?_eq_none
abbrev MB:=@Exit.noGoto_ret
abbrev MU:=@UInt8.lt_iff_toNat_lt
abbrev MV:=@Rat.divInt_mul_divInt
abbrev MW:=@Nat.le_div_iff_mul_le
abbrev MX:=@Int.mul_fdiv_add_fmod
abbrev MY:=@ByteArray.data_append
abbrev Oi:=@List.mem_of_mem_drop
abbrev Oj:=@Lib.size_eq
abbrev Ok:=@Int.ofNat_tdiv
abbrev Ol:=@Calls.quiet_of
abbrev On:=@mem_ready
abbrev Oo:=@enters_of
abbrev PN:=@Nat.div_mul_le_self
abbrev PS:=@Nat.mul_assoc
abbrev PT:=@IntWalk.u8_in
abbrev PU:=@Bool.false_or
abbrev QQ:=@of_decide_eq_false
abbrev QR:=@Nat.pos_of_ne_zero
abbrev QS:=@Nat.gcd_zero_right
abbrev QT:=@List.length_mapIdx
abbrev QU:=@Int.mul_nonpos_of_nonpos_of_nonneg
abbrev QV:=@Int.mul_nonpos_of_nonneg_of_nonpos
abbrev QW:=@Int.emod_lt_of_pos
abbrev S7:=@results_none
abbrev S8:=@if_false
abbrev S9:=@Option.some.injEq
abbrev Ta:=@Nat.sub_zero
abbrev Tb:=@List.count_append
abbrev Tc:=@Int.zero_mul
abbrev Td:=@Int.sub_zero
abbrev Te:=@Int.fdiv_one
abbrev Tf:=@Bool.not_eq_true'
abbrev Tg:=@Array.size_append
abbrev Tk:=@List.replicate_append_replicate
abbrev Vo:=@Nat.mul_lt_mul''
abbrev Vp:=@List.take_append
abbrev Vq:=@List.any_eq_true
abbrev Vs:=@Nat.mul_pos
abbrev Vt:=@List.count_eq_zero_of_not_mem
abbrev Vu:=@Int.mul_add
abbrev WI:=@UInt8.toNat_inj
abbrev WJ:=@Int.emod_nonneg
abbrev Xa:=@Int.sign_eq_neg_one_iff_neg
abbrev XV:=@size_zeroCells
abbrev XW:=@Rat.num_divInt
abbrev XX:=@Rat.den_divInt
abbrev XY:=@Nat.sub_le
abbrev XZ:=@Nat.mod_le
abbrev X0:=@List.take_take
abbrev X1:=@List.take_left
abbrev X2:=@List.getD_eq_getElem?_getD
abbrev X3:=@Int.tmod_eq_emod_of_nonneg
abbrev X4:=@Int.fdiv_eq_ediv_of_nonneg
abbrev X5:=@AllReadyH.cons
abbrev Ya:=@List.getElem?_eq_none_iff
abbrev Yb:=@Int.natAbs_ediv_le_natAbs
abbrev Yc:=@Int.eq_of_mul_eq_mul_left
abbrev YD:=@WideMaps.keyOf_string_mk
abbrev YE:=@Nat.gcd_pos_of_pos_right
abbrev YF:=@Int.mul_assoc
abbrev YO:=@decide_eq_false_iff_not
abbrev YP:=@Int.tdiv_eq_ediv_of_dvd
abbrev Y1:=@run_convert_bytes_back
abbrev Y2:=@dif_neg
abbrev Y3:=@Rat.add_def'
abbrev Y4:=@List.findIdx_le_length
abbrev Y5:=@Int.neg_tdiv
abbrev Zd:=@List.singleton_append
abbrev Ze:=@List.length_singleton
abbrev Zf:=@List.contains_iff_mem
abbrev Zg:=@Int.mul_tdiv_add_tmod
abbrev Zh:=@Int.fdiv_fmod_unique'
abbrev Zr:=@setRow_heap
abbrev Zs:=@nDigits_pos
abbrev Zt:=@Region.noSelect_spec
abbrev Zu:=@Nat.le_sub_one_of_lt
abbrev Zv:=@Nat.gcd_rec
abbrev Zw:=@Nat.div_pos
abbrev Zx:=@List.mem_append_left
abbrev Zy:=@Int.fdiv_fmod_unique
abbrev ZA:=@List.zipWith_append
abbrev ZB:=@List.take_set_of_le
abbrev ZC:=@List.length_zipWith
abbrev ZD:=@List.flatMap_append
abbrev ZE:=@List.drop_set_of_lt
abbrev ZF:=@Array.length_toList
def tx (n:Int):ByteArray:=⟨(itoa n).toArray⟩
def A4 (acc:Nat):List UInt8→Nat
 | []=>acc
 | c :: r=>A4 (acc * 10+(c.toNat - 48)) r
theorem DM (l m:List UInt8) (a:Nat):A4 a (l ++ m)=A4 (A4 a l) m:=by
 induction l generalizing a with
 | nil=>rfl
 | cons c r ih=>exact ih _
theorem Fc (k:Nat) (h:k < 10):(UInt8.ofNat (48+k)).toNat=48+k:=by
 rw [UInt8.toNat_ofNat']
 exact CN (An (show 48+k < 58 by omega) (by decide))
theorem B1 (u:Nat):A4 0 (decDigits u)=u:=by
 induction u using Nat.strongRecOn with
 | _ u ih=>
   by_cases h:u < 10
   ·rw [decDigits,dif_pos h]
    show 0 * 10+((UInt8.ofNat (48+u)).toNat - 48)=u
    rw [Fc u h]; omega
   ·rw [decDigits,Y2 h,DM,ih (u / 10) (by omega)]
    show u / 10 * 10+((UInt8.ofNat (48+u % 10)).toNat - 48)=u
    rw [Fc (u % 10) (by omega)]; omega
theorem B2 (u:Nat):∀ c ∈ decDigits u,48≤c.toNat∧c.toNat≤57:=by
 induction u using Nat.strongRecOn with
 | _ u ih=>
   by_cases h:u < 10
   ·rw [decDigits,dif_pos h]; intro c hc
    simp only [Bo] at hc; subst hc; rw [Fc u h]; omega
   ·rw [decDigits,Y2 h]; intro c hc
    rcases A5.1 hc with hc | hc
    ·exact ih (u / 10) (by omega) c hc
    ·simp only [Bo] at hc; subst hc; rw [Fc (u % 10) (by omega)]; omega
theorem GJ (u:Nat):decDigits u≠[]:=by
 intro h
 have:=decDigits_length u
 rw [h] at this
 have:=Zs u
 simp at *; omega
theorem RC {u v:Nat} (h:decDigits u=decDigits v):u=v:=by
 have:=B1 u; rw [h,B1] at this; exact this.symm
theorem O2 {n m:Int} (h:itoa n=itoa m):n=m:=by
 unfold itoa at h
 have hd:∀ u c r,decDigits u=c :: r→48≤c.toNat:=fun u c r e=>(B2 u c (by rw [e]; simp)).1
 split at h <;> split at h
 ·injection h with _ h; have:=RC h; omega
 ·have:=hd _ _ _ h.symm; simp at this
 ·have:=hd _ _ _ h; simp at this
 ·have:=RC h; omega
theorem Xc {n m:Int} (h:tx n=tx m):n=m:=by
 unfold tx at h
 injection h with h
 exact O2 (by simpa using congrArg Array.toList h)
theorem Fo (n:Int):(tx n).data.toList=itoa n:=by simp [tx]
theorem DB (n:Int):(tx n).size=(itoa n).length:=by simp [tx,ByteArray.size]
theorem BS {n:Int} (h:0≤n):itoa n=decDigits n.toNat:=by unfold itoa; rw [Ai (by omega)]
theorem FP {n:Int} (h:n < 0):itoa n=45 :: decDigits n.natAbs:=by unfold itoa; rw [Aj h]
theorem JJ (n:Int):0 < (itoa n).length:=by
 by_cases h:n < 0
 ·rw [FP h]; simp
 ·rw [BS (by omega)]; exact CX.2 (GJ _)
theorem HX (n:Int):0 < (tx n).size:=by rw [DB]; exact JJ n
theorem Hu (k u:Nat) (hk:1≤k) (h:u < 10 ^ k):nDigits u≤k:=by
 induction k generalizing u with
 | zero=>omega
 | succ k ih=>
   by_cases h9:u < 10
   ·rw [nDigits_small h9]; omega
   ·rw [nDigits_big h9]
    by_cases hk0:k=0
    ·subst hk0; simp at h; omega
    ·have:=ih (u / 10) (by omega) (by rw [Bj] at h; omega)
     omega
theorem CT (k:Nat) (n:Int) (hk:1≤k) (h:n.natAbs < 10 ^ k):(tx n).size≤k+1:=by
 rw [DB]
 by_cases h0:n < 0
 ·rw [FP h0]; have:=Hu k n.natAbs hk h; simp [decDigits_length]; omega
 ·rw [BS (by omega),decDigits_length]
  have:=Hu k n.toNat hk (by omega); omega
theorem Tp {n:Int} {c:UInt8} {r:List UInt8} (h:itoa n=c :: r) (hp:0 < (tx n).size):(tx n)[0]'hp=c:=by
 have e:(tx n).data=(c :: r).toArray:=by simp [tx,h]
 show (tx n).data[0]=c
 simp [e]
theorem F5 {n:Int} (h:n < 0) (hp:0 < (tx n).size):((((tx n)[0]'hp).toNat:Int) == 45)=true:=by
 rw [Tp (FP h) hp]; rfl
theorem F4 {n:Int} (h:0≤n) (hp:0 < (tx n).size):((((tx n)[0]'hp).toNat:Int) == 45)=false:=by
 cases e:itoa n with
 | nil=>have:=JJ n; rw [e] at this; simp at this
 | cons c r=>
   rw [Tp e hp]
   have e2:=BS h
   have:=(B2 n.toNat c (by rw [← e2,e]; simp)).1
   simp; omega
theorem Il {a b:ByteArray} (h:a.data.toList=b.data.toList):a=b:=by
 cases a; cases b; congr; exact Array.toList_inj.1 h
theorem Jv {n:Int} (h:n < 0):(tx n).extract 1 (tx n).size=tx (-n):=by
 refine Il ?_
 have h1:itoa n=45 :: itoa (-n):=by
  rw [FP h,BS (by omega)]; congr 2; omega
 rw [Fo,GO,HS]
 have e:(tx n).data.toList=45 :: itoa (-n):=by rw [Fo,h1]
 have e2:(tx n).size=(itoa (-n)).length+1:=by rw [DB,h1]; rfl
 rw [e,e2]; simp [List.extract]
theorem NI {n:Int} (h:0 < n):(⟨#[45]⟩:ByteArray) ++ tx n=tx (-n):=by
 refine Il ?_
 rw [Fo,FP (by omega),MY,IM,Fo,BS (by omega)]
 simp; congr 1; omega
theorem Ix:tx 0=⟨#[48]⟩:=by decide +kernel
theorem GA:tx 1=⟨#[49]⟩:=by decide +kernel
theorem HL:∀ (l:List UInt8) (acc:Nat),(∀ c ∈ l,48≤c.toNat∧c.toNat≤57)→A4 acc l < 18446744073709551616→parseUint10 acc l=.ok (A4 acc l)
 | [],acc,_,_=>rfl
 | c :: r,acc,hd,hb=>by
   have hc:=hd c (by simp)
   have mono:∀ (l:List UInt8) (a:Nat),a≤A4 a l:=by
    intro l; induction l with
    | nil=>intro a; exact Ag _
    | cons x l ih=>intro a; exact AE (by omega) (ih (a * 10+(x.toNat - 48)))
   have hb:A4 (acc * 10+(c.toNat - 48)) r < 18446744073709551616:=hb
   show _=NumEnd.ok (A4 (acc * 10+(c.toNat - 48)) r)
   have hm:=mono r (acc * 10+(c.toNat - 48))
   rw [parseUint10,Aj hc,Ai (by omega),Ai (by omega)]
   exact HL r _ (fun x hx=>hd x (by simp [hx])) hb
theorem JH (u:Nat) (h:u < 18446744073709551616):parseMag (decDigits u)=.ok u:=by
 unfold parseMag
 rw [Ai (GJ u),HL _ _ (B2 u) (by rw [B1]; exact h),B1]
theorem JW (n:Int) (h0:-9223372036854775808≤n) (h1:n≤9223372036854775807):atoiAll (tx n).data.toList=.ok n:=by
 rw [Fo]
 by_cases h:n < 0
 ·rw [FP h]
  simp only [atoiAll]
  rw [Aj (by right; rfl),JH _ (by omega)]
  have e45:(45:UInt8).toNat=45:=rfl
  simp only [e45,not_true_eq_false,false_and,S8,true_and,if_true]
  rw [Ai (by omega)]
  congr 1; omega
 ·have e:=BS (n:=n) (by omega)
  rw [e]
  cases ed:decDigits n.toNat with
  | nil=>exact absurd ed (GJ _)
  | cons c r=>
    have hc:=B2 n.toNat c (by rw [ed]; simp)
    have hp:=JH n.toNat (by omega)
    rw [ed] at hp
    simp only [atoiAll]
    rw [Ai (by omega),hp]
    have h45:¬ c.toNat=45:=by omega
    simp only [h45,not_false_eq_true,true_and,false_and,S8]
    rw [Ai (by omega)]
    congr 1; omega
theorem CB:∀ (l:List UInt8) (a:Nat),(∀ c ∈ l,48≤c.toNat∧c.toNat≤57)→a * 10 ^ l.length≤A4 a l∧A4 a l < (a+1) * 10 ^ l.length
 | [],a,_=>⟨by show a * 1≤a; omega,by show a < (a+1) * 1; omega⟩
 | c :: r,a,h=>by
   have hc:=h c (by simp)
   obtain ⟨h1,h2⟩:=CB r (a * 10+(c.toNat - 48)) (fun x hx=>h x (by simp [hx]))
   have e:(c :: r).length=r.length+1:=rfl
   have q1:a * 10 ^ (r.length+1)=(a * 10) * 10 ^ r.length:=by rw [Bj,EF (10 ^ r.length) 10,← PS]
   have q2:(a+1) * 10 ^ (r.length+1)=(a * 10+10) * 10 ^ r.length:=by rw [Bj,EF (10 ^ r.length) 10,← PS,J8 a 1 10]
   rw [e,q1,q2]
   exact ⟨AE (Be _ (by omega)) h1,An h2 (Be _ (by omega))⟩
theorem O0:∀ (l m:List UInt8) (a:Nat),(∀ c ∈ l,48≤c.toNat∧c.toNat≤57)→(∀ c ∈ m,48≤c.toNat∧c.toNat≤57)→l.length=m.length →
 Op.bytesLess l m=decide (A4 a l < A4 a m)
 | [],[],a,_,_,_=>by
   show false=decide (a < a); simp
 | [],_ :: _,_,_,_,h=>by simp at h
 | _ :: _,[],_,_,_,h=>by simp at h
 | c :: l,d :: m,a,hl,hm,h=>by
   have hc:=hl c (by simp)
   have hd:=hm d (by simp)
   have hl':∀ x ∈ l,48≤x.toNat∧x.toNat≤57:=fun x hx=>hl x (by simp [hx])
   have hm':∀ x ∈ m,48≤x.toNat∧x.toNat≤57:=fun x hx=>hm x (by simp [hx])
   have hlen:l.length=m.length:=by simpa using h
   obtain ⟨a1,a2⟩:=CB l (a * 10+(c.toNat - 48)) hl'
   obtain ⟨b1,b2⟩:=CB m (a * 10+(d.toNat - 48)) hm'
   show (decide (c < d) || (c == d && Op.bytesLess l m))=decide (A4 (a * 10+(c.toNat - 48)) l < A4 (a * 10+(d.toNat - 48)) m)
   rw [hlen] at a1 a2
   rcases Nat.lt_trichotomy c.toNat d.toNat with hlt | heq | hgt
   ·have e1:c < d:=MU.2 hlt
    have:(a * 10+(c.toNat - 48)+1) * 10 ^ m.length≤(a * 10+(d.toNat - 48)) * 10 ^ m.length:=Be _ (by omega)
    rw [Ac e1,Bool.true_or]
    exact (Ac (An a2 (AE this b1))).symm
   ·obtain rfl:c=d:=WI.1 heq
    have e1:¬ c < c:=fun h=>Cw _ (MU.1 h)
    rw [Aa e1,FH,PU,Bool.true_and]
    exact O0 l m _ hl' hm' hlen
   ·have e1:¬ c < d:=fun h=>by have:=MU.1 h; omega
    have e2:(c == d)=false:=by
     rw [IL]; intro h; rw [h] at hgt; omega
    have:(a * 10+(d.toNat - 48)+1) * 10 ^ m.length≤(a * 10+(c.toNat - 48)) * 10 ^ m.length:=Be _ (by omega)
    rw [Aa e1,e2,Bool.false_and,PU]
    refine (Aa ?_).symm
    have:=An b2 (AE this a1)
    omega
theorem Ud (u v:Nat) (h:(decDigits u).length=(decDigits v).length):Op.bytesLess (decDigits u) (decDigits v)=decide (u < v):=by
 rw [O0 _ _ 0 (B2 u) (B2 v) h,B1,B1]
theorem JF (u:Nat) (h:2≤nDigits u):10 ^ (nDigits u - 1)≤u:=by
 induction u using Nat.strongRecOn with
 | _ u ih=>
   by_cases h9:u < 10
   ·rw [nDigits_small h9] at h; omega
   ·rw [nDigits_big h9]
    by_cases h2:2≤nDigits (u / 10)
    ·have:=ih (u / 10) (by omega) h2
     have e:nDigits (u / 10)+1 - 1=(nDigits (u / 10) - 1)+1:=by omega
     rw [e,Bj]; omega
    ·have:=Zs (u / 10)
     have e:nDigits (u / 10)=1:=by omega
     rw [e]; show 10 ^ 1≤u; omega
theorem GX (u v:Nat) (h:nDigits u < nDigits v):u < v:=by
 have h1:=lt_pow_nDigits u
 have h2:=JF v (by have:=Zs u; omega)
 have h3:10 ^ nDigits u≤10 ^ (nDigits v - 1):=BW (by decide) (by omega)
 omega
theorem Iy (n:Int):(tx n).toList=itoa n:=by rw [CD,Fo]
theorem Lj (n m:Int):((tx n).toList == itoa m)=decide (n=m):=by
 rw [Iy]
 by_cases h:n=m
 ·subst h; simp
 ·rw [Aa h]
  rw [IL]; exact fun e=>h (O2 e)
theorem Yl:itoa 0=[48]:=by decide +kernel
theorem Ug:itoa 1=[49]:=by decide +kernel
theorem C8 (n:Int):((tx n).toList == [48])=decide (n=0):=by rw [← Yl]; exact Lj n 0
theorem VB (n m:Int):((tx n).toList == (tx m).toList)=decide (n=m):=by rw [Iy m]; exact Lj n m
theorem Q0 (u v:Nat) (h:(tx u).size=(tx v).size):Op.bytesLess (tx u).toList (tx v).toList=decide (u < v):=by
 rw [DB,DB,BS (by omega),BS (by omega)] at h
 rw [Iy,Iy,BS (by omega),BS (by omega)]
 exact Ud u v h
theorem CP (u:Nat):(tx (u:Int)).size=nDigits u:=by
 rw [DB,BS (by omega),decDigits_length]; rfl
end Go.Proofs.YtcglmebcfeoedaaGreatDoor
namespace Go.Proofs.YtcglmebcfeoedaaGreatDoor
open Go.RowKit Go.Lib
def G (w : World) : Prop := TabIs Tryz.prog w "internal/strconv.uint64pow10" .u64 pow10Tab
def Fr (w w':World):Prop:=Below w.heap.size w w'
theorem Fr.refl (w:World):Fr w w:=Below.refl _ _
theorem Fr.of_eq {w w':World} (h:w=w'):Fr w w':=h ▸ Fr.refl w
theorem Fr.size {w w':World} (h:Fr w w'):w.heap.size≤w'.heap.size:=Below.size h
theorem Fr.trans {a b c:World} (h:Fr a b) (k:Fr b c):Fr a c:=Below.trans h (Below.mono k h.size)
theorem Fr.drew {a b:World} (h:Fr a b):Fr a b.drew:=Below.drew h
theorem Fr.drewN {a b:World} (h:Fr a b) (n:Nat):Fr a (b.drewN n) :=
 have h:Below a.heap.size a b:=h
 show Below a.heap.size a (b.drewN n) from ⟨h.os,h.tape,h.output,h.size,h.block⟩
theorem Fr.alloc {a b:World} (h:Fr a b) (o:Obj):Fr a (b.alloc o):=Below.alloc h h.size o
theorem Fr.setCell {a b:World} (h:Fr a b) {p:Addr} (hp:a.heap.size≤p.block) (u:Value):Fr a (b.setCell p u):=Below.setCell h hp u
theorem Fr.grown {a b c:World} {row:Option Nat} (h:Fr a b) (hg:b.grownBy c row) (hr:∀ k,row=some k→a.heap.size≤k):Fr a c :=
 Below.grown h hg h.size hr
theorem BR {a b:World} (h:Fr a b:=by repeat (with_reducible first | assumption | exact Fr.refl _ | refine Fr.drew ?_ | refine Fr.drewN ?_ _ | refine Fr.alloc ?_ _ | (refine Fr.setCell ?_ (by simp only [AK,It,Cs]; omega) _) | refine Fr.trans ?_ (by assumption))):Fr a b:=h
theorem Fr.cell {w w':World} (h:Fr w w') {p:Addr} (hp:p.block < w.heap.size):w'.cell? p=w.cell? p:=Below.cell h hp
theorem Fr.frozen {w w':World} (h:Fr w w') {p:Addr} (hp:p.block < w.heap.size):w'.frozen? p=w.frozen? p:=Below.frozen h hp
theorem Fr.keep {w w':World} (h:Fr w w') {p:Addr} {v:Value} (hc:w.cell? p=some v):w'.cell? p=some v:=by
 rw [h.cell (AX w p hc)]; exact hc
theorem Fr.keepf {w w':World} (h:Fr w w') {p:Addr} {v:Value} {b:Bool} (hc:w.cell? p=some v) (hf:w.frozen? p=b):w'.frozen? p=b:=by
 rw [h.frozen (AX w p hc)]; exact hf
def Qt (w w':World):Prop:=∃ n,w'=w.drewN n
theorem Qt.refl (w:World):Qt w w:=⟨0,rfl⟩
theorem Qt.trans {a b c:World} (h:Qt a b) (k:Qt b c):Qt a c:=by
 obtain ⟨n,rfl⟩:=h; obtain ⟨m,rfl⟩:=k; exact ⟨n+m,by simp [World.drewN,Nat.add_assoc]⟩
theorem Qt.drewN {a b:World} (h:Qt a b) (n:Nat):Qt a (b.drewN n):=h.trans ⟨n,rfl⟩
theorem Qt.drew {a b:World} (h:Qt a b):Qt a b.drew:=h.trans ⟨1,rfl⟩
theorem Qt.fr {w w':World} (h:Qt w w'):Fr w w':=by obtain ⟨n,rfl⟩:=h; exact (Fr.refl w).drewN n
theorem Tm {P:Program} {g:Nat} {W:World} {n:String} {cs:Array Value} (hg:P.globalNamed n=some g) (hv:W.var? P n=some cs):g < W.heap.size:=by
 unfold World.var? at hv
 simp only [hg,AY] at hv
 by_cases h:g < W.heap.size
 ·exact h
 ·rw [Mv (by omega)] at hv; simp at hv
theorem Uj : Tryz.prog.globalNamed "internal/strconv.uint64pow10" = some 2 := by kernel_rfl
theorem G.fr {w w':World} (h:G w) (k:Fr w w'):G w':=var?_below k Uj (Tm Uj h) h
theorem G.lt {w:World} (h:G w):2 < w.heap.size:=Tm Uj h
end Go.Proofs.YtcglmebcfeoedaaGreatDoor
namespace Go.Proofs.YtcglmebcfeoedaaGreatDoor
open Go.RowKit Go.Lib Go.Sort
theorem Rp (w:World) (k:Nat) (os:Array Obj):Fr w (grow (w.drewN k) os):=
 (show Below w.heap.size w (grow (w.drewN k) os) from ⟨rfl,rfl,rfl,by simp [grow],fun i hi=>by simp [grow,Array.getElem?_append,hi]⟩)
theorem LX {w w':World} {e:TypeId} (h:w'=w∨∃ t,w'=bytesWorld w e t):Fr w w':=by
 rcases h with rfl | ⟨t,rfl⟩
 ·exact Fr.refl _
 ·exact bytesWorld_below w e t
theorem FC (n:Int) (h0:-9223372036854775808≤n) (h1:n≤9223372036854775807) (w:World) (hG:G w) :
 Calls Tryz.prog 82 #[.int .i64 n] w fun e w'=>e=.returned (.string (tx n))∧Fr w w' :=
 (Tryz.strconv_Itoa n h0 h1 w hG).mono (by rintro e w' ⟨rfl,k,os,rfl⟩; exact ⟨rfl,Rp _ _ _⟩)
theorem Mf (n:Int) (h0:-9223372036854775808≤n) (h1:n≤9223372036854775807) (w:World) :
 Calls Tryz.prog 88 #[.string (tx n)] w fun e w'=>e=.returned (.tuple #[.int .i64 n,.nilIface])∧Fr w w' :=
 (Tryz.strconv_Atoi_ok (tx n) (by have:=CT 19 n (by omega) (by omega); omega) n (JW n h0 h1) w).mono (by rintro e w' ⟨rfl,h⟩; exact ⟨rfl,LX h⟩)
theorem Du (n:Int) (h0:-9223372036854775808≤n) (h1:n≤9223372036854775807) (w:World) (hG:G w) :
 Calls Tryz.prog 81 #[.int .i64 n] w fun e w'=>e=.returned (.string (tx n))∧Fr w w':=by
 go_enter Tryz.func81,Tryz.ntmps81
 go_wp2_with (go_at_call 82; refine (FC _ h0 h1 _ hG).mono ?_; rintro e w' ⟨rfl,hf⟩)
 go_ret
 exact ⟨rfl,hf⟩
theorem GT (n:Int) (hn:n < 0) (w:World) (hs:(tx n).size≤1000000000) :
 Calls Tryz.prog 137 #[.string (tx n)] w fun e w'=>e=.returned (.tuple #[.bool true,.string (tx (-n))])∧Qt w w':=by
 have h1:=HX n
 have h2:=F5 hn h1
 have h3:=hZ (Jv hn)
 generalize tx n=s at *
 go_enter Tryz.func137,Tryz.ntmps137
 go_wp2
 go_quiet (fail)
 go_wp2
 go_ret2
 exact ⟨by rw [h3.out]; rfl,by repeat (with_reducible first | assumption | exact Qt.refl _ | refine Qt.drew ?_ | refine Qt.drewN ?_ _ | refine Qt.trans ?_ (by assumption))⟩
theorem TG (n:Int) (hn:n < 0) (w:World) (hs:(tx n).size≤1000000000) :
 Calls Tryz.prog 137 #[.string (tx n)] w fun e w'=>e=.returned (.tuple #[.bool true,.string (tx (-n))])∧Fr w w' :=
 (GT n hn w hs).mono fun _ _ ⟨h,k⟩=>⟨h,k.fr⟩
theorem GS (n:Int) (hn:0≤n) (w:World) (_hs:(tx n).size≤1000000000) :
 Calls Tryz.prog 137 #[.string (tx n)] w fun e w'=>e=.returned (.tuple #[.bool false,.string (tx n)])∧Qt w w':=by
 have h1:=HX n
 have h2:=F4 hn h1
 generalize tx n=s at *
 go_enter Tryz.func137,Tryz.ntmps137
 go_wp2
 go_ret2
 exact ⟨rfl,Qt.refl _⟩
theorem TF (n:Int) (hn:0≤n) (w:World) (_hs:(tx n).size≤1000000000) :
 Calls Tryz.prog 137 #[.string (tx n)] w fun e w'=>e=.returned (.tuple #[.bool false,.string (tx n)])∧Fr w w' :=
 (GS n hn w _hs).mono fun _ _ ⟨h,k⟩=>⟨h,k.fr⟩
theorem DK (b:Bool) (n:Int) (hn:0≤n) (w:World) (_hs:(tx n).size≤1000000000) :
 Calls Tryz.prog 139 #[.bool b,.string (tx n)] w fun e w'=>e=.returned (.string (tx (if b then -n else n)))∧w=w':=by
 cases b
 ·go_enter Tryz.func139,Tryz.ntmps139
  go_wp2
  go_ret
  exact ⟨by simp,rfl⟩
 ·by_cases h:n=0
  ·have hb:((tx n).toList == [48])=true:=by rw [C8]; simp [h]
   have hh:=hZ h; clear h
   go_enter Tryz.func139,Tryz.ntmps139
   go_wp2
   go_ret
   exact ⟨by rw [hh.out]; rfl,rfl⟩
  ·have hb:((tx n).toList == [48])=false:=by rw [C8]; simp [h]
   have hj:=hZ (NI (n:=n) (by omega)); clear h
   go_enter Tryz.func139,Tryz.ntmps139
   go_wp2
   go_ret
   exact ⟨by rw [hj.out]; rfl,rfl⟩
theorem Dr (n most:Int) (h0:-9223372036854775808≤n) (h1:n≤9223372036854775807) (w:World) (hs:((tx n).size:Int)≤most) :
 Calls Tryz.prog 138 #[.string (tx n),.int .i64 most] w fun e w'=>e=.returned (.tuple #[.int .i64 n,.bool true])∧Fr w w':=by
 go_enter Tryz.func138,Tryz.ntmps138
 go_wp2_with (go_at_call 88; refine (Mf _ h0 h1 _).mono ?_; rintro e w' ⟨rfl,hf⟩)
 go_quiet (fail)
 go_wp2
 go_ret2
 exact ⟨rfl,by exact BR⟩
theorem Sg (n most:Int) (w:World) (hs:most < ((tx n).size:Int)) (_hb:(tx n).size≤1000000000) :
 Calls Tryz.prog 138 #[.string (tx n),.int .i64 most] w fun e w'=>e=.returned (.tuple #[.int .i64 0,.bool false])∧w=w':=by
 go_enter Tryz.func138,Tryz.ntmps138
 go_wp2
 go_ret2
 exact ⟨rfl,rfl⟩
theorem Dt (n:Int) (w:World) :
 Calls Tryz.prog 174 #[.string (tx n)] w fun e w'=>e=.returned (.int .i64 n.sign)∧w=w':=by
 have hp:=HX n
 have hb:=C8 n
 rcases B7 n 0 with h | h | h
 ·have h2:=F5 h hp
  rw [Aa (by omega)] at hb
  have hs:=hZ (Int.sign_eq_neg_one_of_neg h); clear h
  go_enter Tryz.func174,Tryz.ntmps174
  go_wp2
  go_ret
  exact ⟨by rw [hs.out]; rfl,rfl⟩
 ·rw [Ac h] at hb
  have hs:=hZ h; clear h
  go_enter Tryz.func174,Tryz.ntmps174
  go_wp2
  go_ret
  exact ⟨by rw [hs.out]; rfl,rfl⟩
 ·have h2:=F4 (by omega) hp
  rw [Aa (by omega)] at hb
  have hs:=hZ (Int.sign_eq_one_of_pos h); clear h
  go_enter Tryz.func174,Tryz.ntmps174
  go_wp2
  go_ret
  exact ⟨by rw [hs.out]; rfl,rfl⟩
def FR (a b:Int):Int:=if a < b then -1 else if b < a then 1 else 0
theorem Bk {k:IntKind} {a b:Int} (h:a=b):Ending.returned (.int k a)=Ending.returned (.int k b):=by rw [h]
theorem VK {a b:ByteArray} (h:a=b):Ending.returned (.string a)=Ending.returned (.string b):=by rw [h]
theorem Lc (u v:Nat) (w:World) (hu:nDigits u < 1000000000) (hv:nDigits v < 1000000000) :
 Calls Tryz.prog 141 #[.string (tx u),.string (tx v)] w fun e w'=>e=.returned (.int .i64 (FR u v))∧w=w':=by
 have su:=CP u
 have sv:=CP v
 have hl1:=Q0 u v
 have hl2:=Q0 v u
 have he:=VB u v
 generalize hx:tx (u:Int)=s at *
 generalize hy:tx (v:Int)=t at *
 clear hx hy
 have hu':s.size < 1000000000:=by omega
 have hv':t.size < 1000000000:=by omega
 by_cases h:s.size=t.size
 ·have l1:=hl1 h
  have l2:=hl2 h.symm
  have hne:((s.size:Int) != t.size)=false:=by rw [h]; simp
  clear hl1 hl2
  have h:=hZ h
  rcases Nat.lt_trichotomy u v with k | k | k
  ·rw [Ac k] at l1
   have hh:=hZ k; clear l2 he k su sv
   go_enter Tryz.func141,Tryz.ntmps141
   go_wp2
   go_ret
   exact ⟨Bk (by have:=hh.out; unfold FR; rw [Aj (by omega)]),rfl⟩
  ·rw [Aa (by omega)] at l1 l2
   rw [Ac (by omega)] at he
   have hh:=hZ k; clear k su sv l2
   go_enter Tryz.func141,Tryz.ntmps141
   go_wp2
   go_ret
   exact ⟨Bk (by have:=hh.out; unfold FR; rw [Ai (by omega),Ai (by omega)]),rfl⟩
  ·rw [Aa (by omega)] at l1
   rw [Aa (by omega)] at he
   have hh:=hZ k; clear k su sv l2
   go_enter Tryz.func141,Tryz.ntmps141
   go_wp2
   go_ret
   exact ⟨Bk (by have:=hh.out; unfold FR; rw [Ai (by omega),Aj (by omega)]),rfl⟩
 ·have hne:((s.size:Int) != t.size)=true:=by rw [Bl]; omega
  have k1:=GX u v
  have k2:=GX v u
  have k1:=hZ k1
  have k2:=hZ k2
  have hh:=hZ h
  have su:=hZ su
  have sv:=hZ sv
  clear hl1 hl2 he h
  rename_i k1' k2' su' sv'
  clear k1' k2' su' sv'
  go_enter Tryz.func141,Tryz.ntmps141
  go_wp2
  go_ret
  refine ⟨Bk ?_,rfl⟩
  have k1:=k1.out; have k2:=k2.out; have hh:=hh.out; have su:=su.out; have sv:=sv.out
  show min 1 (max (-1) ((s.size:Int) - t.size))=_
  unfold FR
  by_cases q:s.size < t.size
  ·rw [Aj (by have:=k1 (by omega); omega)]; omega
  ·rw [Ai (by have:=k2 (by omega); omega),Aj (by have:=k2 (by omega); omega)]; omega
theorem U5 (n:Int) (w:World) (hs:(tx n).size≤1000000000) :
 Calls Tryz.prog 190 #[.string (tx n)] w fun e w'=>e=.returned (.string (tx (-n)))∧Qt w w':=by
 by_cases h:n < 0
 ·have hs':(tx (-n)).size≤1000000000:=by rw [← Jv h,Dy]; omega
  go_enter Tryz.func190,Tryz.ntmps190
  go_wp2_with (first | (go_at_call 137; refine (GT _ h _ hs).mono ?_; rintro e w' ⟨rfl,hf⟩) | (go_at_call 139; refine (DK false _ (by omega) _ hs').mono ?_; rintro e w' ⟨rfl,rfl⟩))
  go_ret
  exact ⟨by simp,by repeat (with_reducible first | assumption | exact Qt.refl _ | refine Qt.drew ?_ | refine Qt.drewN ?_ _ | refine Qt.trans ?_ (by assumption))⟩
 ·go_enter Tryz.func190,Tryz.ntmps190
  go_wp2_with (first | (go_at_call 137; refine (GS _ (by omega) _ hs).mono ?_; rintro e w' ⟨rfl,hf⟩) | (go_at_call 139; refine (DK true _ (by omega) _ hs).mono ?_; rintro e w' ⟨rfl,rfl⟩))
  go_ret
  exact ⟨by simp,by repeat (with_reducible first | assumption | exact Qt.refl _ | refine Qt.drew ?_ | refine Qt.drewN ?_ _ | refine Qt.trans ?_ (by assumption))⟩
theorem JY (n:Int) (w:World) (hs:(tx n).size≤1000000000) :
 Calls Tryz.prog 190 #[.string (tx n)] w fun e w'=>e=.returned (.string (tx (-n)))∧Fr w w' :=
 (U5 n w hs).mono fun _ _ ⟨h,k⟩=>⟨h,k.fr⟩
theorem Ms (n:Int) (w:World) (hs:(tx n).size≤1000000000) :
 Calls Tryz.prog 77 #[.string (tx n)] w fun e w'=>e=.returned (.string (tx (n.natAbs:Int)))∧Qt w w':=by
 by_cases h:n < 0
 ·have e:=hZ (show (n.natAbs:Int)=-n by omega)
  go_enter Tryz.func77,Tryz.ntmps77
  go_wp2_with (go_at_call 137; refine (GT _ h _ hs).mono ?_; rintro e w' ⟨rfl,hf⟩)
  go_ret
  exact ⟨by rw [e.out]; rfl,by repeat (with_reducible first | assumption | exact Qt.refl _ | refine Qt.drew ?_ | refine Qt.drewN ?_ _ | refine Qt.trans ?_ (by assumption))⟩
 ·have e:=hZ (show (n.natAbs:Int)=n by omega)
  go_enter Tryz.func77,Tryz.ntmps77
  go_wp2_with (go_at_call 137; refine (GS _ (by omega) _ hs).mono ?_; rintro e w' ⟨rfl,hf⟩)
  go_ret
  exact ⟨by rw [e.out]; rfl,by repeat (with_reducible first | assumption | exact Qt.refl _ | refine Qt.drew ?_ | refine Qt.drewN ?_ _ | refine Qt.trans ?_ (by assumption))⟩
theorem RY (n:Int) (w:World) (hs:(tx n).size≤1000000000) :
 Calls Tryz.prog 77 #[.string (tx n)] w fun e w'=>e=.returned (.string (tx (n.natAbs:Int)))∧Fr w w' :=
 (Ms n w hs).mono fun _ _ ⟨h,k⟩=>⟨h,k.fr⟩
theorem RE (a b:Int) (ha:0≤a) (hb:0≤b) (w:World) (hu:(tx a).size < 1000000000) (hv:(tx b).size < 1000000000) :
 Calls Tryz.prog 141 #[.string (tx a),.string (tx b)] w fun e w'=>e=.returned (.int .i64 (FR a b))∧w=w':=by
 obtain ⟨u,rfl⟩:=K4 ha
 obtain ⟨v,rfl⟩:=K4 hb
 exact Lc u v w (by rw [← CP]; exact hu) (by rw [← CP]; exact hv)
theorem Gt (n:Int) (h:n < 0):(tx (-n)).size+1=(tx n).size:=by
 have:=HX n
 rw [← Jv h,Dy]; omega
theorem J3 (a b:Int) (w:World) (hu:(tx a).size < 1000000000) (hv:(tx b).size < 1000000000) :
 Calls Tryz.prog 171 #[.string (tx a),.string (tx b)] w fun e w'=>e=.returned (.int .i64 (FR a b))∧Qt w w':=by
 by_cases hs:a.sign=b.sign
 ·have hne:(a.sign != b.sign)=false:=by rw [hs]; simp
  have hs':=hZ hs
  by_cases ha:a < 0
  ·have hb:b < 0:=by
    rw [Int.sign_eq_neg_one_of_neg ha] at hs
    exact Xa.1 hs.symm
   have sa:=Gt a ha
   have sb:=Gt b hb
   clear hs
   go_enter Tryz.func171,Tryz.ntmps171
   go_wp2_with fail
   refine (Dt a _).mono ?_; rintro e w' ⟨rfl,rfl⟩
   go_wp2_with fail
   refine (Dt b _).mono ?_; rintro e w' ⟨rfl,rfl⟩
   go_wp2_with fail
   refine (GT a ha _ (by omega)).mono ?_; rintro e w1 ⟨rfl,hf1⟩
   go_wp2_with fail
   refine (GT b hb _ (by omega)).mono ?_; rintro e w2 ⟨rfl,hf2⟩
   go_wp2_with fail
   refine (RE (-b) (-a) (by omega) (by omega) _ (by omega) (by omega)).mono ?_; rintro e w' ⟨rfl,rfl⟩
   go_wp2_with fail
   go_ret
   exact ⟨Bk (by unfold FR; split <;> split <;> omega),by repeat (with_reducible first | assumption | exact Qt.refl _ | refine Qt.drew ?_ | refine Qt.drewN ?_ _ | refine Qt.trans ?_ (by assumption))⟩
  ·have hb:¬ b < 0:=by
    intro hb
    rw [Int.sign_eq_neg_one_of_neg hb] at hs
    exact ha (Xa.1 hs)
   clear hs
   go_enter Tryz.func171,Tryz.ntmps171
   go_wp2_with fail
   refine (Dt a _).mono ?_; rintro e w' ⟨rfl,rfl⟩
   go_wp2_with fail
   refine (Dt b _).mono ?_; rintro e w' ⟨rfl,rfl⟩
   go_wp2_with fail
   refine (GS a (by omega) _ (by omega)).mono ?_; rintro e w1 ⟨rfl,hf1⟩
   go_wp2_with fail
   refine (GS b (by omega) _ (by omega)).mono ?_; rintro e w2 ⟨rfl,hf2⟩
   go_wp2_with fail
   refine (RE a b (by omega) (by omega) _ hu hv).mono ?_; rintro e w' ⟨rfl,rfl⟩
   go_wp2_with fail
   go_ret
   exact ⟨rfl,by repeat (with_reducible first | assumption | exact Qt.refl _ | refine Qt.drew ?_ | refine Qt.drewN ?_ _ | refine Qt.trans ?_ (by assumption))⟩
 ·have hne:(a.sign != b.sign)=true:=by rw [Bl]; exact hs
  by_cases hl:a.sign < b.sign
  ·have hd:decide (a.sign < b.sign)=true:=Ac hl
   have hc:a < b:=by
    rcases B7 a b with h | h | h
    ·exact h
    ·subst h; exact absurd rfl hs
    ·exfalso
     have s1:0≤a - b:=by omega
     rcases B7 a 0 with p | p | p <;> rcases B7 b 0 with q | q | q <;>
      simp [Int.sign_eq_neg_one_of_neg,Int.sign_eq_one_of_pos, *] at hl <;> omega
   have hc:=hZ hc
   clear hs
   go_enter Tryz.func171,Tryz.ntmps171
   go_wp2_with fail
   refine (Dt a _).mono ?_; rintro e w' ⟨rfl,rfl⟩
   go_wp2_with fail
   refine (Dt b _).mono ?_; rintro e w' ⟨rfl,rfl⟩
   go_wp2_with fail
   go_ret
   exact ⟨Bk (by have:=hc.out; unfold FR; rw [Aj this]),by repeat (with_reducible first | assumption | exact Qt.refl _ | refine Qt.drew ?_ | refine Qt.drewN ?_ _ | refine Qt.trans ?_ (by assumption))⟩
  ·have hd:decide (a.sign < b.sign)=false:=Aa hl
   have hc:b < a:=by
    rcases B7 a b with h | h | h
    ·exfalso
     rcases B7 a 0 with p | p | p <;> rcases B7 b 0 with q | q | q <;>
      simp [Int.sign_eq_neg_one_of_neg,Int.sign_eq_one_of_pos, *] at hl hs <;> omega
    ·subst h; exact absurd rfl hs
    ·exact h
   have hc:=hZ hc
   clear hs
   go_enter Tryz.func171,Tryz.ntmps171
   go_wp2_with fail
   refine (Dt a _).mono ?_; rintro e w' ⟨rfl,rfl⟩
   go_wp2_with fail
   refine (Dt b _).mono ?_; rintro e w' ⟨rfl,rfl⟩
   go_wp2_with fail
   go_ret
   exact ⟨Bk (by have:=hc.out; unfold FR; rw [Ai (by omega),Aj this]),by repeat (with_reducible first | assumption | exact Qt.refl _ | refine Qt.drew ?_ | refine Qt.drewN ?_ _ | refine Qt.trans ?_ (by assumption))⟩
def Sm (n:Int):Prop:=-100000000000000000 < n∧n < 100000000000000000
def Ti (n:Int):Prop:=-100000000 < n∧n < 100000000
theorem Sm.size {n:Int} (h:Sm n):(tx n).size≤18:=by
 obtain ⟨h1,h2⟩:=h
 exact CT 17 n (by omega) (by omega)
theorem Ti.size {n:Int} (h:Ti n):(tx n).size≤9:=by
 obtain ⟨h1,h2⟩:=h
 exact CT 8 n (by omega) (by omega)
theorem GQ (a b:Int) (hb:b≠0):(a.tmod b).natAbs < b.natAbs:=by
 rw [Int.natAbs_tmod]; exact CL _ (by omega)
theorem Ec (a b:Int) (hb:b≠0) (h:a.tmod b=0∨(a.tmod b < 0 ↔ b < 0)):a.fdiv b=a.tdiv b∧a.fmod b=a.tmod b:=by
 have e:=Zg a b
 have m:=GQ a b hb
 rcases Gh hb with h1 | h1
 ·exact (Zh h1).2 ⟨by omega,by omega,by omega⟩
 ·exact (Zy h1).2 ⟨by omega,by omega,by omega⟩
theorem FV (a b:Int) (hb:b≠0) (h0:a.tmod b≠0) (h:¬ (a.tmod b < 0 ↔ b < 0)):a.fdiv b=a.tdiv b - 1∧a.fmod b=a.tmod b+b:=by
 have e:=Zg a b
 have m:=GQ a b hb
 have e2:b * (a.tdiv b - 1)=b * a.tdiv b - b:=by rw [Int.mul_sub,Int.mul_one]
 rcases Gh hb with h1 | h1
 ·exact (Zh h1).2 ⟨by omega,by omega,by omega⟩
 ·exact (Zy h1).2 ⟨by omega,by omega,by omega⟩
theorem Lp (a b:Int):(a.tdiv b).natAbs≤a.natAbs:=by
 rw [Int.natAbs_tdiv]; exact C1 _ _
theorem LF (n:Int) (h0:-9223372036854775808≤n) (h1:n≤9223372036854775807):parseIntB 64 (tx n).data.toList=.ok n:=by
 rw [parseIntB_64]; exact JW n h0 h1
theorem ES (n:Int) (h0:-9223372036854775808≤n) (h1:n≤9223372036854775807) (w:World) :
 Calls Tryz.prog 126 #[.string (tx n)] w fun e w'=>e=.returned (.tuple #[.int .i64 n,.bool true])∧Fr w w':=by
 have hs:=CT 19 n (by omega) (by omega)
 go_enter Tryz.func126,Tryz.ntmps126
 go_wp2_with fail
 refine (Tryz.strconv_ParseInt_10_at64_ok (tx n) (by omega) n (LF n h0 h1) _).mono ?_; rintro e w1 ⟨rfl,hw⟩
 have hf:=LX hw; clear hw
 go_wp2_with fail
 go_ret2
 exact ⟨rfl,hf⟩
end Go.Proofs.YtcglmebcfeoedaaGreatDoor
namespace Go.Proofs.YtcglmebcfeoedaaGreatDoor
open Go.RowKit Go.Lib
def El {α:Type} (w:World) (enc:α→Value) (a:Option Addr) (xs:List α):Prop :=
 xs=[]∨∃ b o,a=some ⟨b,o,none⟩∧b < w.heap.size∧∀ i x,xs[i]?=some x→w.cell? ⟨b,o+i,none⟩=some (enc x)
theorem El.fr {α:Type} {w w':World} {enc:α→Value} {a:Option Addr} {xs:List α} (h:El w enc a xs) (k:Fr w w'):El w' enc a xs:=by
 rcases h with h | ⟨b,o,ha,hb,hc⟩
 ·exact .inl h
 ·exact .inr ⟨b,o,ha,An hb k.size,fun i x hx=>by rw [k.cell hb]; exact hc i x hx⟩
theorem El.at {α:Type} {w:World} {enc:α→Value} {a:Option Addr} {xs:List α} (h:El w enc a xs) {i:Nat} (hi:i < xs.length) :
 ∃ b o x,a=some ⟨b,o,none⟩∧b < w.heap.size∧xs[i]?=some x∧w.cell? ⟨b,o+i,none⟩=some (enc x):=by
 rcases h with h | ⟨b,o,ha,hb,hc⟩
 ·subst h; simp at hi
 ·exact ⟨b,o,xs[i],ha,hb,Ab hi,hc i _ (Ab hi)⟩
abbrev iv:Int→Value:=fun n=>.int .i64 n
abbrev sv:Int→Value:=fun n=>.string (tx n)
def Ob {α:Type} (w:World) (g:Nat) (cap:Array Value) (enc:α→Value) (p:α→Bool) (xs:List α):Prop :=
 ∀ x W,x ∈ xs→Fr w W→Calls Tryz.prog g (#[enc x] ++ cap) W fun e W'=>e=.returned (.bool (p x))∧Fr W W'
def Jf {α:Type} (p:α→Bool) (xs:List α):Int:=match xs.findIdx? p with | some i=>i | none=>-1
theorem JL {α:Type} {p:α→Bool} {xs:List α} {k:Nat} {x:α} (h:∀ j x,j < k→xs[j]?=some x→p x=false) (hx:xs[k]?=some x) (hp:p x=false) :
 Hid (∀ j x,j < k+1→xs[j]?=some x→p x=false):=fun j y hj hy=>by
 by_cases e:j=k
 ·subst e; rw [hx] at hy; injection hy with hy; rw [← hy]; exact hp
 ·exact h j y (by omega) hy
theorem IG {α:Type} {p:α→Bool} {xs:List α} {k:Nat} {x:α} (h:∀ j x,j < k→xs[j]?=some x→p x=false) (hx:xs[k]?=some x) (hp:p x=true):Jf p xs=k:=by
 unfold Jf
 have hk:k < xs.length:=(Ah.1 hx).1
 have:xs.findIdx? p=some k:=by
  rw [DN]
  refine ⟨hk, ?_,fun j hj=>?_⟩
  ·rw [(Ah.1 hx).2]; exact hp
  ·rw [h j _ hj (Ab (by omega))]; simp
 rw [this]
theorem JM {α:Type} {p:α→Bool} {xs:List α} (h:∀ j x,j < xs.length→xs[j]?=some x→p x=false):Jf p xs=-1:=by
 unfold Jf
 have:xs.findIdx? p=none:=by
  rw [J5]
  intro x hx
  obtain ⟨i,hi,e⟩:=Dn hx
  exact h i x hi (by rw [Ab hi,e])
 rw [this]
theorem Rn {α:Type} (p:α→Bool) (xs:List α):decide (0≤Jf p xs)=xs.any p:=by
 unfold Jf
 cases e:xs.findIdx? p with
 | none=>
   rw [J5] at e
   have:xs.any p=false:=CE.2 (fun x hx=>by simp [e x hx])
   rw [this]; rfl
 | some i=>
   obtain ⟨h,hp,_⟩:=DN.1 e
   have:xs.any p=true:=Vq.2 ⟨xs[i],A8 h,hp⟩
   rw [this]; simp
theorem Ks {α:Type} (p:α→Bool) (xs:List α):(Jf p xs=-1∧∀ x,x ∈ xs→p x=false)∨∃ (k:Nat) (x:α),Jf p xs=k∧xs[k]?=some x∧p x=true∧∀ j y,j < k→xs[j]?=some y→p y=false:=by
 unfold Jf
 cases e:xs.findIdx? p with
 | none=>
   rw [J5] at e
   exact .inl ⟨rfl,e⟩
 | some i=>
   obtain ⟨h,hp,hq⟩:=DN.1 e
   refine .inr ⟨i,xs[i],rfl,Ab h,hp,fun j y hj hy=>?_⟩
   have:=hq j hj
   obtain ⟨h2,rfl⟩:=Ah.1 hy
   simpa using this
theorem I2 (xs:List Int) (a:Option Addr) (cap:Nat) (g:Nat) (lb:Array Value) (p:Int→Bool) (w:World)
 (eg:∀ args w,(callFunc g args).run Tryz.prog w=.ok (.enter g args) w) (hx:El w iv a xs) (hl:xs.length≤1000000000) (hp:Ob w g lb iv p xs) :
 Calls Tryz.prog 49 #[.slice a xs.length cap,.func (.func g) #[] lb] w fun e w'=>e=.returned (.int .i64 (Jf p xs))∧Fr w w':=by
 go_enter Tryz.func49,Tryz.ntmps49
 go_wp2
 go_loopw [5,8] (fun _ s8 wr=>∃ k:Nat,s8=.int .i64 k∧k≤xs.length∧Fr w wr∧Hid (∀ j x,j < k→xs[j]?=some x→p x=false)) (fun _ s8 _=>xs.length - (RowKit.intOf s8).toNat)
 case atStart=>exact ⟨0,rfl,Bm _,Fr.refl _,fun j x h=>absurd h (Bs _)⟩
 case round=>
  obtain ⟨k,rfl,hk,hf,hb⟩:=hrel
  by_cases hlt:k < xs.length
  ·obtain ⟨b,o,x,rfl,hbl,hxk,hcell⟩:=(hx.fr hf).at hlt
   have hpx:=hp x wr (Ae hxk) hf
   have hxk:=hZ hxk
   go_wp2_with fail
   refine hpx.mono ?_
   rintro e w1 ⟨rfl,hf1⟩
   go_wp2_with fail
   ·have hpt:p x=true:=by assumption
    go_ret
    exact ⟨Bk (IG hb.out hxk.out hpt).symm,hf.trans hf1⟩
   ·have hpf:p x=false:=by assumption
    go_roundw
    case rel=>exact ⟨k+1,by go_num,by omega,hf.trans hf1,JL hb.out hxk.out hpf⟩
    case measure=>simp [RowKit.intOf]; omega
  ·go_wp2_with fail
   go_ret
   exact ⟨Bk (JM (by rw [show xs.length=k by omega]; exact hb.out)).symm,hf⟩
theorem Hd (xs:List Int) (a:Option Addr) (cap:Nat) (g:Nat) (lb:Array Value) (p:Int→Bool) (w:World)
 (eg:∀ args w,(callFunc g args).run Tryz.prog w=.ok (.enter g args) w) (hx:El w iv a xs) (hl:xs.length≤1000000000) (hp:Ob w g lb iv p xs) :
 Calls Tryz.prog 13 #[.slice a xs.length cap,.func (.func g) #[] lb] w fun e w'=>e=.returned (.bool (xs.any p))∧Fr w w':=by
 rw [← Rn]
 have hc:=I2 xs a cap g lb p w eg hx hl hp
 clear hp
 go_enter Tryz.func13,Tryz.ntmps13
 go_wp2_with fail
 refine hc.mono ?_
 rintro e w' ⟨rfl,hf⟩
 go_wp2_with fail
 go_ret
 exact ⟨rfl,hf⟩
def Bi (n:Int):Bool:=decide (-1000000000≤n∧n≤1000000000)
def Cx (xs:List Int):Int:=if 64 < xs.length then 4 else if xs.any (fun n=>!Bi n) then 4 else 0
theorem Sc {xs:List Int} (h:64 < xs.length):Cx xs=4:=by unfold Cx; rw [Aj h]
theorem TQ {xs:List Int} (h:xs.any (fun n=>!Bi n)=true):Cx xs=4:=by unfold Cx; rw [h]; split <;> rfl
theorem Hm {xs:List Int} (h:¬ 64 < xs.length) (h2:xs.any (fun n=>!Bi n)=false):Cx xs=0:=by unfold Cx; rw [Ai h,h2]; rfl
theorem Co {a b:Bool} (h:a=b):Ending.returned (.bool a)=Ending.returned (.bool b):=by rw [h]
theorem Uq (n:Int) (w:World):Calls Tryz.prog 56 #[.int .i64 n] w fun e w'=>e=.returned (.bool (Bi n))∧w=w':=by
 by_cases h1:-1000000000≤n
 ·by_cases h2:n≤1000000000
  ·have hf:=hZ (show Bi n=true from Ac ⟨h1,h2⟩)
   go_enter Tryz.func56,Tryz.ntmps56
   go_wp2
   go_ret
   exact ⟨Co hf.out.symm,rfl⟩
  ·have hf:=hZ (show Bi n=false from Aa (fun h=>h2 h.2))
   have d2:decide (n≤1000000000)=false:=Aa h2
   go_enter Tryz.func56,Tryz.ntmps56
   go_wp2
   go_ret
   exact ⟨Co hf.out.symm,rfl⟩
 ·have hf:=hZ (show Bi n=false from Aa (fun h=>h1 h.1))
  have d1:decide (-1000000000≤n)=false:=Aa h1
  go_enter Tryz.func56,Tryz.ntmps56
  go_wp2
  go_ret
  exact ⟨Co hf.out.symm,rfl⟩
theorem PL (w:World) (xs:List Int):Ob w 55 #[] iv (fun n=>!Bi n) xs:=fun x W _ _=>by
 show Calls Tryz.prog 55 #[.int .i64 x] W _
 go_enter Tryz.func55,Tryz.ntmps55
 go_wp2_with fail
 refine (Uq x _).mono ?_; rintro e w' ⟨rfl,rfl⟩
 go_wp2_with fail
 go_ret
 exact ⟨rfl,Fr.refl _⟩
theorem Df (xs:List Int) (a:Option Addr) (cap:Nat) (w:World) (hx:El w iv a xs) (hl:xs.length≤1000000000) :
 Calls Tryz.prog 17 #[.slice a xs.length cap] w fun e w'=>e=.returned (.int .i64 (Cx xs))∧Fr w w':=by
 by_cases h:64 < xs.length
 ·have hf:=hZ (Sc h)
  go_enter Tryz.func17,Tryz.ntmps17
  go_wp2_with fail
  go_ret
  exact ⟨Bk hf.out.symm,Fr.refl _⟩
 ·have eg:∀ args w,(callFunc 55 args).run Tryz.prog w=.ok (.enter 55 args) w:=Oo Tryz.func55 (by kernel_rfl) rfl
  have hc:=Hd xs a cap 55 #[] (fun n=>!Bi n) w eg hx hl (PL w xs)
  have d1:decide ((64:Int) < (xs.length:Int))=false:=Aa (by omega)
  have hh:=hZ h
  clear h eg
  cases hb:xs.any (fun n=>!Bi n)
  ·have hf:=hZ (Hm hh.out hb)
   rw [hb] at hc; clear hb
   go_enter Tryz.func17,Tryz.ntmps17
   go_wp2_with fail
   refine hc.mono ?_; rintro e w' ⟨rfl,hf1⟩
   go_wp2_with fail
   go_ret
   exact ⟨Bk hf.out.symm,hf1⟩
  ·have hf:=hZ (TQ hb)
   rw [hb] at hc; clear hb
   go_enter Tryz.func17,Tryz.ntmps17
   go_wp2_with fail
   refine hc.mono ?_; rintro e w' ⟨rfl,hf1⟩
   go_wp2_with fail
   go_ret
   exact ⟨Bk hf.out.symm,hf1⟩
theorem R1 {α:Type} {xs ys:List α} {k:Nat} {x:α} (h:xs.take k=ys.take k) (hx:xs[k]?=some x) (hy:ys[k]?=some x):Hid (xs.take (k+1)=ys.take (k+1)):=by
 show _=_
 rw [D2,D2,h,hx,hy]
theorem S2 (xs ys:List Int) (a b:Option Addr) (ca cb:Nat) (w:World) (hx:El w iv a xs) (hy:El w iv b ys) (_hl:xs.length≤1000000000) (_hm:ys.length≤1000000000) :
 Calls Tryz.prog 38 #[.slice a xs.length ca,.slice b ys.length cb] w fun e w'=>e=.returned (.bool (decide (xs=ys)))∧Fr w w':=by
 by_cases hlen:xs.length=ys.length
 ·have hne:((xs.length:Int) != ys.length)=false:=by rw [hlen]; simp
  have hlen:=hZ hlen
  rename_i hlen0
  clear hlen0
  go_enter Tryz.func38,Tryz.ntmps38
  go_wp2_with fail
  go_loopw [5,13] (fun _ s13 wr=>∃ k:Nat,s13=.int .i64 k∧k≤xs.length∧Fr w wr∧Hid (xs.take k=ys.take k)) (fun _ s13 _=>xs.length - (RowKit.intOf s13).toNat)
  case atStart=>exact ⟨0,rfl,Bm _,Fr.refl _,show _=_ by simp⟩
  case round=>
   obtain ⟨k,rfl,hk,hf,hb⟩:=hrel
   by_cases hlt:k < xs.length
   ·have hlt2:k < ys.length:=by rw [← hlen.out]; exact hlt
    obtain ⟨b1,o1,x,rfl,hbl1,hxk,hcell1⟩:=(hx.fr hf).at hlt
    obtain ⟨b2,o2,y,rfl,hbl2,hyk,hcell2⟩:=(hy.fr hf).at hlt2
    have hxk:=hZ hxk
    have hyk:=hZ hyk
    by_cases hxy:x=y
    ·have hq:(x != y)=false:=by rw [hxy]; simp
     have hxy:=hZ hxy
     rename_i hxy0; clear hxy0
     go_wp2_with fail
     go_quiet (fail)
     go_wp2_with fail
     go_roundw
     case rel=>exact ⟨k+1,by go_num,by omega,hf.drewN _,R1 hb.out hxk.out (by rw [hxy.out]; exact hyk.out)⟩
     case measure=>simp [RowKit.intOf]; omega
    ·have hq:(x != y)=true:=by rw [Bl]; exact hxy
     have hfin:=hZ (show decide (xs=ys)=false from Aa (fun e=>hxy (by have h1:=hxk.out; have h2:=hyk.out; rw [e,h2] at h1; injection h1 with h1; exact h1.symm)))
     clear hxy
     go_wp2_with fail
     go_quiet (fail)
     go_wp2_with fail
     go_ret
     exact ⟨Co hfin.out.symm,hf.drewN _⟩
   ·have hfin:=hZ (show decide (xs=ys)=true from Ac (by have h:=hb.out; rw [Ak (by omega),Ak (by have:=hlen.out; omega)] at h; exact h))
    go_wp2_with fail
    go_ret
    exact ⟨Co hfin.out.symm,hf⟩
 ·have hne:((xs.length:Int) != ys.length)=true:=by rw [Bl]; omega
  have hfin:=hZ (show decide (xs=ys)=false from Aa (fun e=>hlen (by rw [e])))
  clear hlen
  go_enter Tryz.func38,Tryz.ntmps38
  go_wp2_with fail
  go_ret
  exact ⟨Co hfin.out.symm,Fr.refl _⟩
theorem CZ (w:World) (x y:Value) (t:TypeId):(w.alloc (.cells #[x,y] t)).cell? ⟨w.heap.size,0,none⟩=some x∧(w.alloc (.cells #[x,y] t)).frozen? ⟨w.heap.size,0,none⟩=false:=by
 have h:=CG w (.cells #[x,y] t (0,0))
 exact ⟨by unfold World.cell?; rw [h]; rfl,by unfold World.frozen?; rw [h]; rfl⟩
theorem CY (w:World) (x y:Value) (t:TypeId):(w.alloc (.cells #[x,y] t)).cell? ⟨w.heap.size,1,none⟩=some y∧(w.alloc (.cells #[x,y] t)).frozen? ⟨w.heap.size,1,none⟩=false:=by
 have h:=CG w (.cells #[x,y] t (0,0))
 exact ⟨by unfold World.cell?; rw [h]; rfl,by unfold World.frozen?; rw [h]; rfl⟩
def MA (w:World) (a:Option Addr) (xs:List (Value×Value)):Prop :=
 xs=[]∨∃ b o,a=some ⟨b,o,none⟩∧b < w.heap.size∧∀ i x,xs[i]?=some x→w.cell? ⟨b,o+i * 2,none⟩=some x.1∧w.cell? ⟨b,o+i * 2+1,none⟩=some x.2
theorem MA.fr {w w':World} {a:Option Addr} {xs:List (Value×Value)} (h:MA w a xs) (k:Fr w w'):MA w' a xs:=by
 rcases h with h | ⟨b,o,ha,hb,hc⟩
 ·exact .inl h
 ·exact .inr ⟨b,o,ha,An hb k.size,fun i x hx=>by rw [k.cell hb,k.cell hb]; exact hc i x hx⟩
theorem MA.at {w:World} {a:Option Addr} {xs:List (Value×Value)} (h:MA w a xs) {i:Nat} (hi:i < xs.length) :
 ∃ b o x,a=some ⟨b,o,none⟩∧b < w.heap.size∧xs[i]?=some x∧w.cell? ⟨b,o+i * 2,none⟩=some x.1∧w.cell? ⟨b,o+i * 2+1,none⟩=some x.2:=by
 rcases h with h | ⟨b,o,ha,hb,hc⟩
 ·subst h; simp at hi
 ·exact ⟨b,o,xs[i],ha,hb,Ab hi,hc i _ (Ab hi)⟩
theorem MA.take {w:World} {a:Option Addr} {xs:List (Value×Value)} (h:MA w a xs) (n:Nat):MA w a (xs.take n):=by
 rcases h with h | ⟨b,o,ha,hb,hc⟩
 ·subst h; exact .inl (by simp)
 ·refine .inr ⟨b,o,ha,hb,fun i x hx=>hc i x ?_⟩
  rw [BN] at hx
  split at hx
  ·exact hx
  ·simp at hx
def WU {α:Type} (w:World) (g:Nat) (cap:Array Value) (enc:α→Value×Value) (p:α→Bool) (xs:List α):Prop :=
 ∀ x W,x ∈ xs→Fr w W→Calls Tryz.prog g (#[.agg #[(enc x).1,(enc x).2]] ++ cap) W fun e W'=>e=.returned (.bool (p x))∧Fr W W'
theorem MQ {α:Type} (enc:α→Value×Value) (xs:List α) (a:Option Addr) (cap:Nat) (g:Nat) (lb:Array Value) (p:α→Bool) (w:World)
 (eg:∀ args w,(callFunc g args).run Tryz.prog w=.ok (.enter g args) w) (hx:MA w a (xs.map enc)) (hl:xs.length≤1000000000) (hp:WU w g lb enc p xs) :
 Calls Tryz.prog 150 #[.slice a xs.length cap,.func (.func g) #[] lb] w fun e w'=>e=.returned (.int .i64 (Jf p xs))∧Fr w w':=by
 go_enter Tryz.func150,Tryz.ntmps150
 go_wp2
 go_loopw [5,8] (fun _ s8 wr=>∃ k:Nat,s8=.int .i64 k∧k≤xs.length∧Fr w wr∧Hid (∀ j x,j < k→xs[j]?=some x→p x=false)) (fun _ s8 _=>xs.length - (RowKit.intOf s8).toNat)
 case atStart=>exact ⟨0,rfl,Bm _,Fr.refl _,fun j x h=>absurd h (Bs _)⟩
 case round=>
  obtain ⟨k,rfl,hk,hf,hb⟩:=hrel
  by_cases hlt:k < xs.length
  ·obtain ⟨b,o,z,rfl,hbl,hzk,hcell,hcell2⟩:=(hx.fr hf).at (i:=k) (by rw [Am]; exact hlt)
   obtain ⟨x,hxk,rfl⟩:∃ x,xs[k]?=some x∧enc x=z:=by
    rw [Ao] at hzk
    cases e:xs[k]? with
    | none=>rw [e] at hzk; simp at hzk
    | some x=>rw [e] at hzk; injection hzk with hzk; exact ⟨x,rfl,hzk⟩
   have hpx:=hp x wr (Ae hxk) hf
   have hxk:=hZ hxk
   clear hzk
   go_wp2_with fail
   refine hpx.mono ?_
   rintro e w1 ⟨rfl,hf1⟩
   go_wp2_with fail
   ·have hpt:p x=true:=by assumption
    go_ret
    exact ⟨Bk (IG hb.out hxk.out hpt).symm,hf.trans hf1⟩
   ·have hpf:p x=false:=by assumption
    go_roundw
    case rel=>exact ⟨k+1,by go_num,by omega,hf.trans hf1,JL hb.out hxk.out hpf⟩
    case measure=>simp [RowKit.intOf]; omega
  ·go_wp2_with fail
   go_ret
   exact ⟨Bk (JM (by rw [show xs.length=k by omega]; exact hb.out)).symm,hf⟩
def Cc (c:UInt8):Bool:=decide (33≤c.toNat∧c.toNat≤126∧¬ (48≤c.toNat∧c.toNat≤57)∧c.toNat≠43∧c.toNat≠45)
def BG (s:ByteArray):Bool:=decide (s.size≠0∧s.size≤32) && s.data.toList.all Cc
theorem Jo (s:ByteArray) (w:World) (hs:s.size≤1000000000) :
 Calls Tryz.prog 74 #[.string s] w fun e w'=>e=.returned (.bool (BG s))∧w=w':=by
 by_cases h0:s.size=0
 ·have hfin:=hZ (show BG s=false by unfold BG; rw [Aa (by omega)]; rfl)
  have e:s.toList=[]:=by
   have:s.toList.length=0:=by rw [← h0,CD]; rfl
   exact AD this
  have e2:s.toList.isEmpty=true:=by rw [e]; rfl
  replace e:=hZ e
  clear h0
  go_enter Tryz.func74,Tryz.ntmps74
  go_wp2_with fail
  go_ret
  exact ⟨Co hfin.out.symm,rfl⟩
 ·have e2:s.toList.isEmpty=false:=by
   have:s.toList.length=s.size:=by rw [CD]; rfl
   cases hh:s.toList with
   | nil=>rw [hh] at this; simp at this; omega
   | cons=>rfl
  by_cases h1:32 < s.size
  ·have hfin:=hZ (show BG s=false by unfold BG; rw [Aa (by omega)]; rfl)
   have d1:decide ((32:Int) < (s.size:Int))=true:=Ac (by omega)
   clear h0
   go_enter Tryz.func74,Tryz.ntmps74
   go_wp2_with fail
   go_ret
   exact ⟨Co hfin.out.symm,rfl⟩
  ·have d1:decide ((32:Int) < (s.size:Int))=false:=Aa (by omega)
   have hsz:=hZ (show decide (s.size≠0∧s.size≤32)=true from Ac ⟨h0,by omega⟩)
   clear h0 h1
   go_enter Tryz.func74,Tryz.ntmps74
   go_wp2_with fail
   go_loopg [14] s.size (fun g s14 wr=>∃ k:Nat,s14=.int .i64 k∧k+g=s.size∧Hid ((s.data.toList.take k).all Cc=true)∧w=wr)
   case atStart=>exact ⟨0,rfl,by omega,rfl,rfl⟩
   case round=>
    obtain ⟨k,rfl,hk,hb,rfl⟩:=hrel
    by_cases hlt:k < s.size
    ·have hsn:=hZ (show s.data.toList.take (k+1)=s.data.toList.take k ++ [s[k]] by rw [DZ (by simpa using hlt)]; rfl)
     have hc:∃ c,s[k]=c:=⟨_,rfl⟩
     obtain ⟨c,hc⟩:=hc
     rw [hc] at hsn
     have hbad:=hZ (show Cc c=false→BG s=false from fun hok=>by
      unfold BG
      rw [CV.2 ⟨c, ?_,by rw [hok]; simp⟩]
      ·simp
      ·have:c ∈ s.data.toList.take (k+1):=by rw [hsn.out]; simp
       exact Cu this)
     have hgood:=hZ (show Cc c=true→(s.data.toList.take (k+1)).all Cc=true from fun hok=>by
      rw [hsn.out,FY,hb.out]; simp [hok])
     clear hsn hb
     have z0:(0:Int)≤(k:Int):=by omega
     by_cases e43:c.toNat=43
     ·have q43:((c.toNat:Int) == 43)=true:=by rw [e43]; rfl
      have hfin:=hZ (hbad.out (by unfold Cc; exact Aa (fun h=>h.2.2.2.1 e43)))
      have e1:(33:Int)≤c.toNat:=by omega
      have e2:(c.toNat:Int)≤126:=by omega
      have e3:(c.toNat:Int) < 48:=by omega
      clear e43 hbad hgood
      go_wp2_with fail
      all_goals
       go_ret
       exact ⟨Co hfin.out.symm,rfl⟩
     ·by_cases e45:c.toNat=45
      ·have q45:((c.toNat:Int) == 45)=true:=by rw [e45]; rfl
       have q43:((c.toNat:Int) == 43)=false:=Ay (by omega)
       have hfin:=hZ (hbad.out (by unfold Cc; exact Aa (fun h=>h.2.2.2.2 e45)))
       have e1:(33:Int)≤c.toNat:=by omega
       have e2:(c.toNat:Int)≤126:=by omega
       have e3:(c.toNat:Int) < 48:=by omega
       clear e43 e45 hbad hgood
       go_wp2_with fail
       all_goals
        go_ret
        exact ⟨Co hfin.out.symm,rfl⟩
      ·have q45:((c.toNat:Int) == 45)=false:=Ay (by omega)
       have q43:((c.toNat:Int) == 43)=false:=Ay (by omega)
       have e43:=hZ e43
       have e45:=hZ e45
       rename_i r1 r2
       clear r1 r2
       go_wp2_with fail
       all_goals first
        | (have hok:Cc c=true:=by
            unfold Cc
            exact Ac ⟨by omega,by omega,by omega,e43.out,e45.out⟩
           go_roundg (gk - 1)
           case measure=>omega
           case rel=>exact ⟨k+1,by go_num,by omega,hgood.out hok,rfl⟩)
        | (have hok:Cc c=false:=by
            unfold Cc
            exact Aa (fun h=>by have h1:=h.1; have h2:=h.2.1; have h3:=h.2.2.1; omega)
           go_ret
           exact ⟨Co (hbad.out hok).symm,rfl⟩)
    ·have hfin:=hZ (show BG s=true by
      have h:=hb.out
      rw [Ak (by have:s.data.toList.length=s.size:=rfl; omega)] at h
      unfold BG
      rw [hsz.out,h]; rfl)
     have hd:decide (k < s.size)=false:=Aa hlt
     go_wp2_with fail
     go_ret
     exact ⟨Co hfin.out.symm,rfl⟩
attribute [local go_sem ↓] AA AB
def gN:Nat:=2+1
structure Fx (p:Nat→Prop) (w w':World):Prop where
 os:w'.os=w.os
 tape:w'.tape=w.tape
 output:w'.output=w.output
 size:w.heap.size≤w'.heap.size
 block:∀ k,k < w.heap.size→¬ p k→w'.heap[k]?=w.heap[k]?
theorem Fx.of_fr {p:Nat→Prop} {w w':World} (h:Fr w w'):Fx p w w' :=
 have h:Below w.heap.size w w':=h
 ⟨h.os,h.tape,h.output,h.size,fun k hk _=>h.block k hk⟩
theorem Fx.refl (p:Nat→Prop) (w:World):Fx p w w:=Fx.of_fr (Fr.refl w)
theorem Fx.trans {p:Nat→Prop} {a b c:World} (h:Fx p a b) (k:Fx p b c):Fx p a c :=
 ⟨k.os.trans h.os,k.tape.trans h.tape,k.output.trans h.output,AE h.size k.size,fun i hi hp=>(k.block i (An hi h.size) hp).trans (h.block i hi hp)⟩
theorem Fx.fr {p:Nat→Prop} {a b c:World} (h:Fx p a b) (k:Fr b c):Fx p a c:=h.trans (Fx.of_fr k)
theorem Fx.drewN {p:Nat→Prop} {a b:World} (h:Fx p a b) (n:Nat):Fx p a (b.drewN n):=h.fr ((Fr.refl b).drewN n)
theorem Fx.drew {p:Nat→Prop} {a b:World} (h:Fx p a b):Fx p a b.drew:=h.fr (Fr.refl b).drew
theorem Fx.alloc {p:Nat→Prop} {a b:World} (h:Fx p a b) (o:Obj):Fx p a (b.alloc o):=h.fr ((Fr.refl b).alloc o)
theorem Fx.setCell {p:Nat→Prop} {a b:World} (h:Fx p a b) {q:Addr} (hq:p q.block∨a.heap.size≤q.block) (u:Value):Fx p a (b.setCell q u) :=
 ⟨h.os,h.tape,h.output,by simpa [World.setCell] using h.size,fun k hk hp=>by
  have e:k≠q.block:=by
   rcases hq with hq | hq
   ·intro e; rw [e] at hp; exact hp hq
   ·omega
  exact (Below.heap_setCell _ _ _ _ e).trans (h.block k hk hp)⟩
theorem Fx.cell {p:Nat→Prop} {w w':World} (h:Fx p w w') {q:Addr} (hq:q.block < w.heap.size) (hp:¬ p q.block):w'.cell? q=w.cell? q :=
 World.cell?_of_block (w:=w) (h.block q.block hq hp)
theorem Fx.frozen {p:Nat→Prop} {w w':World} (h:Fx p w w') {q:Addr} (hq:q.block < w.heap.size) (hp:¬ p q.block):w'.frozen? q=w.frozen? q :=
 World.frozen?_of_block (w:=w) (h.block q.block hq hp)
theorem Fx.mono {p q:Nat→Prop} {w w':World} (h:Fx p w w') (hpq:∀ k,p k→q k):Fx q w w' :=
 ⟨h.os,h.tape,h.output,h.size,fun k hk hp=>h.block k hk (fun e=>hp (hpq k e))⟩
theorem Fx.toFr {p:Nat→Prop} {w w':World} (h:Fx p w w') (hp:∀ k,k < w.heap.size→¬ p k):Fr w w' :=
 show Below w.heap.size w w' from ⟨h.os,h.tape,h.output,h.size,fun k hk=>h.block k hk (hp k hk)⟩
theorem G.fx {p:Nat→Prop} {w w':World} (h:G w) (k:Fx p w w') (hp:∀ k,p k→gN≤k):G w':=by
 have hl:=h.lt
 unfold G TabIs World.var? at *
 simp only [Uj,AY] at h ⊢
 rw [k.block _ hl (fun e=>by have:=hp _ e; unfold gN at this; omega)]
 exact h
theorem CS {w:World} (h:G w):gN≤w.heap.size:=h.lt
def FJ (w:World) (b o:Nat) (xs:List Int):Prop :=
 gN≤b∧b < w.heap.size∧∀ j x,xs[j]?=some x→w.cell? ⟨b,o+j,none⟩=some (sv x)∧w.frozen? ⟨b,o+j,none⟩=false
theorem FJ.fx {p:Nat→Prop} {w w':World} {b o:Nat} {xs:List Int} (h:FJ w b o xs) (k:Fx p w w') (hp:¬ p b):FJ w' b o xs :=
 ⟨h.1,An h.2.1 k.size,fun j x hx=>by rw [k.cell h.2.1 hp,k.frozen h.2.1 hp]; exact h.2.2 j x hx⟩
theorem FJ.fr {w w':World} {b o:Nat} {xs:List Int} (h:FJ w b o xs) (k:Fr w w'):FJ w' b o xs :=
 h.fx (p:=fun _=>False) (Fx.of_fr k) (fun e=>e)
theorem FJ.set {w:World} {b o:Nat} {xs:List Int} (h:FJ w b o xs) {k:Nat} (hk:k < xs.length) (x:Int):FJ (w.setCell ⟨b,o+k,none⟩ (sv x)) b o (xs.set k x):=by
 obtain ⟨h1,h2,h3⟩:=h
 refine ⟨h1,by simpa [World.setCell] using h2,fun j y hy=>?_⟩
 rw [Ap]
 rw [BA] at hy
 by_cases e:k=j
 ·subst e
  rw [Aj rfl,Aj hk] at hy
  injection hy with hy; subst hy
  have h4:=h3 k xs[k] (Ab hk)
  exact ⟨Aq _ _ _ (by rw [h4.1]; rfl),h4.2⟩
 ·rw [Ai e] at hy
  have h4:=h3 j y hy
  refine ⟨?_,h4.2⟩
  rw [Ad w ⟨b,o+k,none⟩ ⟨b,o+j,none⟩ _ (fun e2=>by injection e2 with e3 e4; omega)]
  exact h4.1
theorem Hw {α:Type} (zs xs:List α) (k:Nat) (hl:zs.length=xs.length) (hk:k < xs.length):(zs.take k ++ xs.drop k)[k]?=xs[k]?:=by
 have h1:(zs.take k).length=k:=by rw [AG]; omega
 rw [AR (by omega),h1,ED,List.getElem?_drop,C9]
theorem Hv {α:Type} (zs xs:List α) (k:Nat) (hl:zs.length=xs.length) (hk:k < xs.length) (z:α) (hz:zs[k]?=some z):(zs.take k ++ xs.drop k).set k z=zs.take (k+1) ++ xs.drop (k+1):=by
 have h1:(zs.take k).length=k:=by rw [AG]; omega
 rw [List.set_append_right _ _ (by omega),h1,ED,D2,hz,B9 hk,Option.toList_some,List.set_cons_zero,BF,Zd]
theorem Fx.keep {p:Nat→Prop} {w w':World} (h:Fx p w w') {q:Addr} {v:Value} (hc:w.cell? q=some v) (hp:¬ p q.block):w'.cell? q=some v:=by
 rw [h.cell (AX w q hc) hp]; exact hc
theorem Fx.keepf {p:Nat→Prop} {w w':World} (h:Fx p w w') {q:Addr} {v:Value} {b:Bool} (hc:w.cell? q=some v) (hf:w.frozen? q=b) (hp:¬ p q.block):w'.frozen? q=b:=by
 rw [h.frozen (AX w q hc) hp]; exact hf
structure BH (w:World) (ob oo:Nat) (hs:List (Nat×Nat×Nat)) (g:List (List Int)):Prop where
 len:hs.length=g.length
 outer:ob < w.heap.size
 gob:gN≤ob
 cell:∀ (i:Nat) (h:Nat×Nat×Nat) (xs:List Int),hs[i]?=some h→g[i]?=some xs→w.cell? ⟨ob,oo+i,none⟩=some (.slice (some ⟨h.1,h.2.1,none⟩) xs.length h.2.2)∧w.frozen? ⟨ob,oo+i,none⟩=false
 row:∀ (i:Nat) (h:Nat×Nat×Nat) (xs:List Int),hs[i]?=some h→g[i]?=some xs→FJ w h.1 h.2.1 xs∧h.1≠ob
 apart:∀ (i j:Nat) (hi hj:Nat×Nat×Nat),hs[i]?=some hi→hs[j]?=some hj→i≠j→hi.1≠hj.1
def gb (ob:Nat) (hs:List (Nat×Nat×Nat)) (k:Nat):Prop:=k=ob∨∃ h,h ∈ hs∧h.1=k
theorem BH.fx {p:Nat→Prop} {w w':World} {ob oo:Nat} {hs:List (Nat×Nat×Nat)} {g:List (List Int)} (h:BH w ob oo hs g) (k:Fx p w w') (hp:∀ j,gb ob hs j→¬ p j):BH w' ob oo hs g :=
 ⟨h.len,An h.outer k.size,h.gob,
  fun i hd xs h1 h2=>by
   have:=h.cell i hd xs h1 h2
   exact ⟨k.keep this.1 (hp _ (.inl rfl)),k.keepf this.1 this.2 (hp _ (.inl rfl))⟩,
  fun i hd xs h1 h2=>by
   have:=h.row i hd xs h1 h2
   exact ⟨this.1.fx k (hp _ (.inr ⟨hd,Ae h1,rfl⟩)),this.2⟩,
  h.apart⟩
theorem BH.fr {w w':World} {ob oo:Nat} {hs:List (Nat×Nat×Nat)} {g:List (List Int)} (h:BH w ob oo hs g) (k:Fr w w'):BH w' ob oo hs g :=
 h.fx (p:=fun _=>False) (Fx.of_fr k) (fun _ _ e=>e)
theorem BH.ge {w:World} {ob oo:Nat} {hs:List (Nat×Nat×Nat)} {g:List (List Int)} (h:BH w ob oo hs g):∀ k,gb ob hs k→gN≤k:=by
 rintro k (rfl | ⟨hd,hm,rfl⟩)
 ·exact h.gob
 ·obtain ⟨i,hi⟩:=AO hm
  have hlt:i < g.length:=by rw [← h.len]; exact (Ah.1 hi).1
  exact (h.row i hd _ hi (Ab hlt)).1.1
theorem BH.at {w:World} {ob oo:Nat} {hs:List (Nat×Nat×Nat)} {g:List (List Int)} (h:BH w ob oo hs g) {i:Nat} (hi:i < g.length) :
 ∃ b o c,hs[i]?=some (b,o,c)∧w.cell? ⟨ob,oo+i,none⟩=some (.slice (some ⟨b,o,none⟩) (g[i]).length c)∧w.frozen? ⟨ob,oo+i,none⟩=false∧FJ w b o g[i]∧b≠ob:=by
 have hl:i < hs.length:=by rw [h.len]; exact hi
 have h1:=Ab hl
 have h2:=Ab hi
 have h3:=h.cell i _ _ h1 h2
 have h4:=h.row i _ _ h1 h2
 exact ⟨hs[i].1,hs[i].2.1,hs[i].2.2,h1,h3.1,h3.2,h4.1,h4.2⟩
theorem BH.setRow {w w':World} {ob oo:Nat} {hs:List (Nat×Nat×Nat)} {g:List (List Int)} (h:BH w ob oo hs g) {i b o c:Nat} (hi:hs[i]?=some (b,o,c)) {zs:List Int}
 (k:Fx (·=b) w w') (ho:FJ w' b o zs) (hl:∀ xs,g[i]?=some xs→zs.length=xs.length):BH w' ob oo hs (g.set i zs):=by
 have hne:b≠ob:=by
  have hlt:i < g.length:=by rw [← h.len]; exact (Ah.1 hi).1
  exact (h.row i _ _ hi (Ab hlt)).2
 refine ⟨by simp [h.len],An h.outer k.size,h.gob,fun j hd xs h1 h2=>?_,fun j hd xs h1 h2=>?_,h.apart⟩
 ·have hj:j < g.length:=by have:=(Ah.1 h2).1; simpa using this
  have h3:=h.cell j hd _ h1 (Ab hj)
  rw [BA] at h2
  have e:xs.length=(g[j]).length:=by
   split at h2
   ·rename_i e; subst e; rw [Aj (by simpa using hj)] at h2; injection h2 with h2; subst h2; exact hl _ (Ab hj)
   ·rw [Ab hj] at h2; injection h2 with h2; rw [h2]
  rw [e]
  exact ⟨k.keep h3.1 (fun e=>hne e.symm),k.keepf h3.1 h3.2 (fun e=>hne e.symm)⟩
 ·have hj:j < g.length:=by have:=(Ah.1 h2).1; simpa using this
  have h3:=h.row j hd _ h1 (Ab hj)
  rw [BA] at h2
  refine ⟨?_,h3.2⟩
  split at h2
  ·rename_i e; subst e
   rw [Aj (by simpa using hj)] at h2; injection h2 with h2; subst h2
   rw [hi] at h1; injection h1 with h1; subst h1
   exact ho
  ·rename_i e
   rw [Ab hj] at h2; injection h2 with h2; subst h2
   exact h3.1.fx k (fun e2=>h.apart i j _ _ hi h1 e e2.symm)
theorem BH.setRowF {w W w':World} {ob oo:Nat} {hs:List (Nat×Nat×Nat)} {g:List (List Int)} (h:BH w ob oo hs g) {i b o c:Nat} (hi:hs[i]?=some (b,o,c)) {zs:List Int}
 (k:Fx (·=b) W w') (ho:FJ w' b o zs) (hl:∀ xs,g[i]?=some xs→zs.length=xs.length) (hf:Fr w W):BH w' ob oo hs (g.set i zs) :=
 (h.fr hf).setRow hi k ho hl
theorem Fx.via {p q:Nat→Prop} {a b c d:World} (h:Fx p a b) (k:Fx q c d) (hq:∀ j,q j→p j) (hf:Fr b c):Fx p a d:=(h.fr hf).trans (k.mono hq)
theorem NZ {ob:Nat} {hs:List (Nat×Nat×Nat)} {i b o c:Nat} (hi:hs[i]?=some (b,o,c)):∀ j,j=b→gb ob hs j:=fun _ e=>.inr ⟨_,Ae hi,e.symm⟩
def swp {α:Type} (l:List α) (i j:Nat):List α:=match l[i]?,l[j]? with
 | some x,some y=>(l.set i y).set j x
 | _,_=>l
theorem Fp {α:Type} (l:List α) (i j:Nat):(swp l i j).length=l.length:=by
 unfold swp; split <;> simp
theorem Dp {α:Type} (l:List α) (i j:Nat) {x y:α} (hi:l[i]?=some x) (hj:l[j]?=some y) (k:Nat) :
 (swp l i j)[k]?=if k=j then some x else if k=i then some y else l[k]?:=by
 have h1:=(Ah.1 hi).1
 have h2:=(Ah.1 hj).1
 unfold swp
 rw [hi,hj]
 simp only [BA]
 by_cases e:j=k
 ·subst e; simp [h2]
 ·have e':¬ k=j:=fun h=>e h.symm
  rw [Ai e,Ai e']
  by_cases e2:i=k
  ·subst e2; simp [h1]
  ·have e2':¬ k=i:=fun h=>e2 h.symm
   rw [Ai e2,Ai e2']
theorem BH.swap {w:World} {ob oo:Nat} {hs:List (Nat×Nat×Nat)} {g:List (List Int)} (h:BH w ob oo hs g) {i j:Nat} {hi hj:Nat×Nat×Nat} {xs ys:List Int}
 (h1:hs[i]?=some hi) (h2:hs[j]?=some hj) (h3:g[i]?=some xs) (h4:g[j]?=some ys) (hij:i≠j) :
 BH ((w.setCell ⟨ob,oo+i,none⟩ (.slice (some ⟨hj.1,hj.2.1,none⟩) ys.length hj.2.2)).setCell ⟨ob,oo+j,none⟩ (.slice (some ⟨hi.1,hi.2.1,none⟩) xs.length hi.2.2)) ob oo (swp hs i j) (swp g i j):=by
 have hf:Fx (·=ob) w ((w.setCell ⟨ob,oo+i,none⟩ (.slice (some ⟨hj.1,hj.2.1,none⟩) ys.length hj.2.2)).setCell ⟨ob,oo+j,none⟩ (.slice (some ⟨hi.1,hi.2.1,none⟩) xs.length hi.2.2)) :=
  Fx.setCell (p:=(·=ob)) (q:=⟨ob,oo+j,none⟩) (Fx.setCell (p:=(·=ob)) (q:=⟨ob,oo+i,none⟩) (Fx.refl _ w) (.inl rfl) _) (.inl rfl) _
 have ci:=h.cell i _ _ h1 h3
 have cj:=h.cell j _ _ h2 h4
 have eij:(⟨ob,oo+i,none⟩:Addr)≠⟨ob,oo+j,none⟩:=fun e=>by injection e with _ e; omega
 refine ⟨by rw [Fp,Fp,h.len],An h.outer hf.size,h.gob,fun k hd zs k1 k2=>?_,fun k hd zs k1 k2=>?_,fun a b ha hb k1 k2 hab=>?_⟩
 ·rw [Dp hs i j h1 h2] at k1
  rw [Dp g i j h3 h4] at k2
  rw [Ap,Ap]
  by_cases e:k=j
  ·subst e
   rw [Aj rfl] at k1 k2
   injection k1 with k1; injection k2 with k2; subst k1; subst k2
   refine ⟨Aq _ _ _ ?_,cj.2⟩
   rw [Ad _ _ _ _ eij,cj.1]; rfl
  ·rw [Ai e] at k1 k2
   have ekj:(⟨ob,oo+j,none⟩:Addr)≠⟨ob,oo+k,none⟩:=fun e2=>by injection e2 with _ e2; omega
   rw [Ad _ _ _ _ ekj]
   by_cases e2:k=i
   ·subst e2
    rw [Aj rfl] at k1 k2
    injection k1 with k1; injection k2 with k2; subst k1; subst k2
    exact ⟨Aq _ _ _ (by rw [ci.1]; rfl),ci.2⟩
   ·rw [Ai e2] at k1 k2
    have eki:(⟨ob,oo+i,none⟩:Addr)≠⟨ob,oo+k,none⟩:=fun e3=>by injection e3 with _ e3; omega
    rw [Ad _ _ _ _ eki]
    exact h.cell k hd zs k1 k2
 ·rw [Dp hs i j h1 h2] at k1
  rw [Dp g i j h3 h4] at k2
  have go:∀ (m:Nat) (hd:Nat×Nat×Nat) (zs:List Int),hs[m]?=some hd→g[m]?=some zs→FJ ((w.setCell ⟨ob,oo+i,none⟩ (.slice (some ⟨hj.1,hj.2.1,none⟩) ys.length hj.2.2)).setCell ⟨ob,oo+j,none⟩ (.slice (some ⟨hi.1,hi.2.1,none⟩) xs.length hi.2.2)) hd.1 hd.2.1 zs∧hd.1≠ob:=fun m hd zs m1 m2=>by
   have:=h.row m hd zs m1 m2
   exact ⟨this.1.fx hf this.2,this.2⟩
  by_cases e:k=j
  ·subst e; rw [Aj rfl] at k1 k2; injection k1 with k1; injection k2 with k2; subst k1; subst k2; exact go i _ _ h1 h3
  ·rw [Ai e] at k1 k2
   by_cases e2:k=i
   ·subst e2; rw [Aj rfl] at k1 k2; injection k1 with k1; injection k2 with k2; subst k1; subst k2; exact go j _ _ h2 h4
   ·rw [Ai e2] at k1 k2; exact go k _ _ k1 k2
 ·rw [Dp hs i j h1 h2] at k1 k2
  have key:∀ (k:Nat) (hd:Nat×Nat×Nat),(if k=j then some hi else if k=i then some hj else hs[k]?)=some hd→∃ m,hs[m]?=some hd∧m=(if k=j then i else if k=i then j else k):=fun k hd hk=>by
   by_cases e:k=j
   ·rw [Aj e] at hk ⊢; exact ⟨i,by rw [h1,hk],rfl⟩
   ·rw [Ai e] at hk ⊢
    by_cases e2:k=i
    ·rw [Aj e2] at hk ⊢; exact ⟨j,by rw [h2,hk],rfl⟩
    ·rw [Ai e2] at hk ⊢; exact ⟨k,hk,rfl⟩
  obtain ⟨m,m1,m2⟩:=key a ha k1
  obtain ⟨n,n1,n2⟩:=key b hb k2
  refine h.apart m n _ _ m1 n1 (fun e=>hab ?_)
  rw [m2,n2] at e
  repeat' split at e
  all_goals omega
theorem Qs {ob:Nat} {hs:List (Nat×Nat×Nat)} {i j:Nat} {hi hj:Nat×Nat×Nat} (h1:hs[i]?=some hi) (h2:hs[j]?=some hj):∀ k,gb ob (swp hs i j) k ↔ gb ob hs k:=by
 have key:∀ hd,hd ∈ swp hs i j ↔ hd ∈ hs:=fun hd=>by
  rw [EU,EU]
  constructor
  ·rintro ⟨k,hk⟩
   rw [Dp hs i j h1 h2] at hk
   split at hk
   ·exact ⟨i,by rw [h1,hk]⟩
   ·split at hk
    ·exact ⟨j,by rw [h2,hk]⟩
    ·exact ⟨k,hk⟩
  ·rintro ⟨k,hk⟩
   by_cases e:k=i
   ·subst e; rw [h1] at hk; exact ⟨j,by rw [Dp hs k j h1 h2,Aj rfl,hk]⟩
   ·by_cases e2:k=j
    ·subst e2; rw [h2] at hk
     refine ⟨i, ?_⟩
     rw [Dp hs i k h1 h2]
     have e':¬ i=k:=fun h=>e h.symm
     rw [Ai e',Aj rfl,hk]
    ·exact ⟨k,by rw [Dp hs i j h1 h2,Ai e2,Ai e,hk]⟩
 intro k
 unfold gb
 constructor
 ·rintro (h | ⟨hd,hm,e⟩)
  ·exact .inl h
  ·exact .inr ⟨hd,(key hd).1 hm,e⟩
 ·rintro (h | ⟨hd,hm,e⟩)
  ·exact .inl h
  ·exact .inr ⟨hd,(key hd).2 hm,e⟩
def Bv (g:List (List Int)) (i:Nat):List Int:=(g[i]?).getD []
def ent (g:List (List Int)) (i c:Nat):Int:=((Bv g i)[c]?).getD 0
def Ce (n:Nat) (g:List (List Int)):Prop:=∀ r,r ∈ g→r.length=n
theorem Ce.row {n:Nat} {g:List (List Int)} (h:Ce n g) {i:Nat} (hi:i < g.length):(g[i]).length=n:=h _ (A8 hi)
theorem Ce.set {n:Nat} {g:List (List Int)} (h:Ce n g) {i:Nat} {r:List Int} (hr:r.length=n):Ce n (g.set i r):=fun x hx=>by
 rcases B8 hx with h1 | h1
 ·exact h x h1
 ·rw [h1]; exact hr
theorem Cb {g:List (List Int)} {i:Nat} (hi:i < g.length):Bv g i=g[i]:=by unfold Bv; rw [Ab hi]; rfl
theorem E9 {g:List (List Int)} {n i c:Nat} (h:Ce n g) (hi:i < g.length) (hc:c < n):(g[i])[c]?=some (ent g i c):=by
 unfold ent
 rw [Cb hi]
 have:c < (g[i]).length:=by rw [h.row hi]; exact hc
 rw [Ab this]; rfl
def kI:Option Nat→Int
 | none=>-1
 | some k=>k
def Kz (ob:Nat) (a b:List (Nat×Nat×Nat)):Prop:=(∀ k,gb ob a k ↔ gb ob b k)∧∀ h,h ∈ a→h ∈ b
theorem K6 {α:Type} {l:List α} {i j:Nat} {x:α} (h:x ∈ swp l i j):x ∈ l:=by
 unfold swp at h
 split at h
 ·rename_i a b ha hb
  rcases B8 h with h1 | h1
  ·rcases B8 h1 with h2 | h2
   ·exact h2
   ·rw [h2]; exact Ae hb
  ·rw [h1]; exact Ae ha
 ·exact h
theorem Jy {α:Type} (l:List α) (i:Nat):swp l i i=l:=by
 unfold swp
 cases h:l[i]? with
 | none=>rfl
 | some x=>
   have hi:=(Ah.1 h).1
   refine Cm fun k=>?_
   simp only [BA]
   by_cases e:i=k
   ·subst e; simp [hi]; exact ((Ah.1 h).2).symm
   ·simp [e]
theorem H1 {n:Nat} {g:List (List Int)} {i j:Nat} (h:Ce n g):Ce n (swp g i j):=by
 unfold swp
 split
 ·rename_i x y hx hy
  exact (h.set (h _ (Ae hy))).set (h _ (Ae hx))
 ·exact h
theorem BH.same {w:World} {ob oo:Nat} {hs:List (Nat×Nat×Nat)} {g:List (List Int)} (h:BH w ob oo hs g) {i:Nat} {v:Value} (hv:w.cell? ⟨ob,oo+i,none⟩=some v) :
 BH ((w.setCell ⟨ob,oo+i,none⟩ v).setCell ⟨ob,oo+i,none⟩ v) ob oo hs g:=by
 have hc:∀ q,((w.setCell ⟨ob,oo+i,none⟩ v).setCell ⟨ob,oo+i,none⟩ v).cell? q=w.cell? q:=fun q=>by
  by_cases e:(⟨ob,oo+i,none⟩:Addr)=q
  ·subst e
   rw [hv]
   refine Aq _ _ _ ?_
   rw [Aq _ _ _ (by rw [hv]; rfl)]; rfl
  ·rw [Ad _ _ _ _ e,Ad _ _ _ _ e]
 have hf:∀ q,((w.setCell ⟨ob,oo+i,none⟩ v).setCell ⟨ob,oo+i,none⟩ v).frozen? q=w.frozen? q:=fun q=>by
  rw [Ap,Ap]
 have hs':((w.setCell ⟨ob,oo+i,none⟩ v).setCell ⟨ob,oo+i,none⟩ v).heap.size=w.heap.size:=by simp [World.setCell]
 refine ⟨h.len,by rw [hs']; exact h.outer,h.gob,fun j hd xs h1 h2=>?_,fun j hd xs h1 h2=>?_,h.apart⟩
 ·rw [hc,hf]; exact h.cell j hd xs h1 h2
 ·obtain ⟨⟨a1,a2,a3⟩,a4⟩:=h.row j hd xs h1 h2
  exact ⟨⟨a1,by rw [hs']; exact a2,fun m x hx=>by rw [hc,hf]; exact a3 m x hx⟩,a4⟩
theorem Fx.of_grown {w w':World} {row:Option Nat} (h:w.grownBy w' row):Fx (fun k=>row=some k) w w' :=
 ⟨h.os,h.tape,h.output,h.size,fun k hk hp=>h.block k hk (fun e=>hp e.symm)⟩
theorem BM {w w':World} {p:Nat→Prop} {base:Nat} {e:TypeId} {size:Nat} {v:Value} {n:Nat} {xs:List Value} (h:w.ownsRow base e size v n xs) (k:Fx p w w') (hp:∀ g,v.ownBlock=some g→¬ p g):w'.ownsRow base e size v n xs:=by
 obtain ⟨h1,h2⟩:=h
 refine ⟨h1, ?_⟩
 rcases h2 with h2 | ⟨g,cap,cur,rfl,hg,hh,r⟩
 ·exact .inl h2
 ·have hlt:g < w.heap.size:=by
   by_cases hl:g < w.heap.size
   ·exact hl
   ·rw [Mv (by omega)] at hh; simp at hh
  exact .inr ⟨g,cap,cur,rfl,hg,by rw [k.block g hlt (hp g rfl)]; exact hh,r⟩
theorem Ba {w w':World} {base:Nat} {e:TypeId} {size:Nat} {v:Value} {n:Nat} {xs:List Value} (h:w.ownsRow base e size v n xs) (k:Fr w w'):w'.ownsRow base e size v n xs :=
 BM (p:=fun _=>False) h (Fx.of_fr k) (fun _ _ e=>e)
theorem AF (w:World) (x:Value) (t:TypeId) (n:Nat) (hn:w.heap.size=n):∀ j u,[x][j]?=some u→(w.alloc (.cells #[x] t)).cell? ((⟨n,0,none⟩:Addr).add j)=some u:=by
 subst hn; exact cell_one_new w x t
theorem D6 (w:World) (x:Value) (t:TypeId):(w.alloc (.cells #[x] t)).cell? ⟨w.heap.size,0,none⟩=some x:=cell_one_new w x t 0 x rfl
theorem Bf {w:World} {base:Nat} {e:TypeId} {size:Nat} {g n m cap:Nat} {xs:List Value} (h:w.ownsRow base e size (.slice (some ⟨g,0,none⟩) n cap) m xs) :
 n=m∧base≤g∧g < w.heap.size∧n≤cap∧∀ j u,xs[j]?=some u→w.cell? ⟨g,j,none⟩=some u∧w.frozen? ⟨g,j,none⟩=false:=by
 obtain ⟨h1,h2⟩:=h
 rcases h2 with ⟨h2,_⟩ | ⟨g',cap',cur,hv,hg,hh,hn,hc,hs,ht⟩
 ·cases h2
 ·injection hv with hv1 hv2 hv3
  injection hv1 with hv1; injection hv1 with hv1
  subst hv1; subst hv2; subst hv3
  have hlt:g < w.heap.size:=by
   by_cases hl:g < w.heap.size
   ·exact hl
   ·rw [Mv (by omega)] at hh; simp at hh
  refine ⟨rfl,hg,hlt,hn,fun j u hu=>?_⟩
  have hju:cur[j]?=some u:=by
   rw [← ht,BN] at hu
   split at hu
   ·simpa using hu
   ·simp at hu
  exact ⟨by simp [World.cell?,hh,hju],by simp [World.frozen?,hh]⟩
theorem DA {w:World} {base:Nat} {e:TypeId} {g n m cap:Nat} {xs:List Int} (hb:gN≤base) (h:w.ownsRow base e 1 (.slice (some ⟨g,0,none⟩) n cap) m (xs.map sv)):FJ w g 0 xs∧n=m∧m=xs.length∧base≤g∧n≤cap:=by
 have h1:=h.1
 obtain ⟨a,b,c,d,f⟩:=Bf h
 refine ⟨⟨by omega,c,fun j x hx=>?_⟩,a,by simpa using h1.symm,b,d⟩
 have:=f j (sv x) (by rw [Ao,hx]; rfl)
 simpa using this
theorem Dh {w:World} {base:Nat} {e:TypeId} {size:Nat} {v:Value} {n:Nat} {xs:List Value} (h:w.ownsRow base e size v n xs) (hn:0 < n):∃ g cap,v=.slice (some ⟨g,0,none⟩) n cap:=by
 obtain ⟨_,h2⟩:=h
 rcases h2 with ⟨_,h2⟩ | ⟨g,cap,_,hv,_⟩
 ·omega
 ·exact ⟨g,cap,hv⟩
def Nn (h:Nat×Nat×Nat) (xs:List Int):Value:=.slice (some ⟨h.1,h.2.1,none⟩) xs.length h.2.2
def LT (hs:List (Nat×Nat×Nat)) (g:List (List Int)):List Value:=List.zipWith Nn hs g
structure GG (w:World) (base:Nat) (E:TypeId) (v:Value) (hs:List (Nat×Nat×Nat)) (g:List (List Int)):Prop where
 gbase:gN≤base
 len:hs.length=g.length
 own:w.ownsRow base E 1 v g.length (LT hs g)
 row:∀ (i:Nat) (h:Nat×Nat×Nat) (xs:List Int),hs[i]?=some h→g[i]?=some xs→FJ w h.1 h.2.1 xs∧v.ownBlock≠some h.1
 apart:∀ (i j:Nat) (hi hj:Nat×Nat×Nat),hs[i]?=some hi→hs[j]?=some hj→i≠j→hi.1≠hj.1
theorem GG.nil (w:World) (base:Nat) (E:TypeId) (h:gN≤base):GG w base E (.slice none 0 0) [] [] :=
 ⟨h,rfl,A6 _ _ _ _,fun i h xs h1=>by simp at h1,fun i j hi hj h1=>by simp at h1⟩
theorem GG.fr {w w':World} {base:Nat} {E:TypeId} {v:Value} {hs:List (Nat×Nat×Nat)} {g:List (List Int)} (h:GG w base E v hs g) (k:Fr w w'):GG w' base E v hs g :=
 ⟨h.gbase,h.len,Ba h.own k,fun i hd xs h1 h2=>⟨(h.row i hd xs h1 h2).1.fr k,(h.row i hd xs h1 h2).2⟩,h.apart⟩
theorem GG.lt {w:World} {base:Nat} {E:TypeId} {v:Value} {hs:List (Nat×Nat×Nat)} {g:List (List Int)} (h:GG w base E v hs g):∀ hd,hd ∈ hs→hd.1 < w.heap.size:=fun hd hm=>by
 obtain ⟨i,hi⟩:=AO hm
 have hl:i < g.length:=by rw [← h.len]; exact (Ah.1 hi).1
 exact (h.row i hd _ hi (Ab hl)).1.2.1
theorem Nm (hs:List (Nat×Nat×Nat)) (g:List (List Int)) (h:Nat×Nat×Nat) (xs:List Int) (hl:hs.length=g.length):LT (hs ++ [h]) (g ++ [xs])=LT hs g ++ [Nn h xs]:=by
 unfold LT; rw [ZA hl]; rfl
theorem GG.push {w w':World} {base:Nat} {E:TypeId} {v:Value} {hs:List (Nat×Nat×Nat)} {g:List (List Int)} (h:GG w base E v hs g) {hd:Nat×Nat×Nat} {xs:List Int} (ho:FJ w hd.1 hd.2.1 xs)
 (hne:∀ h',h' ∈ hs→h'.1≠hd.1) (hv:v.ownBlock≠some hd.1) {gb cap:Nat} (hown:w'.ownsRow base E 1 (.slice (some ⟨gb,0,none⟩) (g.length+1) cap) (g.length+1) (LT hs g ++ [Nn hd xs]))
 (hg:w.grownBy w' v.ownBlock) (hat:v.ownBlock=some gb∨w.heap.size≤gb):GG w' base E (.slice (some ⟨gb,0,none⟩) (g.length+1) cap) (hs ++ [hd]) (g ++ [xs]):=by
 have hfx:=Fx.of_grown hg
 have hrow:∀ (i:Nat) (h0:Nat×Nat×Nat) (ys:List Int),hs[i]?=some h0→g[i]?=some ys→FJ w' h0.1 h0.2.1 ys∧gb≠h0.1:=fun i h0 ys h1 h2=>by
  obtain ⟨a,b⟩:=h.row i h0 ys h1 h2
  refine ⟨a.fx hfx (fun e=>b e), ?_⟩
  rcases hat with e | e
  ·intro e2; rw [e2] at e; exact b e
  ·have:=a.2.1; omega
 refine ⟨h.gbase,by simp [h.len], ?_,fun i h0 ys h1 h2=>?_,fun i j hi hj h1 h2 hij=>?_⟩
 ·rw [Nm _ _ _ _ h.len]; simpa using hown
 ·by_cases hi:i < g.length
  ·rw [A0 (by rw [h.len]; exact hi)] at h1
   rw [A0 hi] at h2
   obtain ⟨a,b⟩:=hrow i h0 ys h1 h2
   exact ⟨a,fun e=>by injection e with e; exact b e⟩
  ·rw [AR (by omega)] at h2
   rw [AR (by rw [h.len]; omega)] at h1
   rw [Cp] at h1 h2
   split at h1
   ·split at h2
    ·injection h1 with h1; injection h2 with h2; subst h1; subst h2
     refine ⟨ho.fx hfx (fun e=>hv e),fun e=>?_⟩
     injection e with e
     rcases hat with e2 | e2
     ·have e3:gb=hd.1:=e
      rw [e3] at e2; exact hv e2
     ·have:=ho.2.1
      have e3:gb=hd.1:=e
      omega
    ·simp at h2
   ·simp at h1
 ·have key:∀ (i:Nat) (h0:Nat×Nat×Nat),(hs ++ [hd])[i]?=some h0→(i < hs.length∧hs[i]?=some h0)∨(i=hs.length∧h0=hd):=fun i h0 h=>by
   by_cases hi:i < hs.length
   ·rw [A0 hi] at h; exact .inl ⟨hi,h⟩
   ·rw [AR (by omega),Cp] at h
    split at h
    ·injection h with h; exact .inr ⟨by omega,h.symm⟩
    ·simp at h
  rcases key i hi h1 with ⟨a1,a2⟩ | ⟨a1,a2⟩ <;> rcases key j hj h2 with ⟨b1,b2⟩ | ⟨b1,b2⟩
  ·exact h.apart i j _ _ a2 b2 hij
  ·subst b2; exact hne _ (Ae a2)
  ·subst a2; exact (hne _ (Ae b2)).symm
  ·omega
theorem GG.pushN {w w':World} {base:Nat} {E:TypeId} {v u:Value} {hs:List (Nat×Nat×Nat)} {g:List (List Int)} (h:GG w base E v hs g) {hd:Nat×Nat×Nat} {xs:List Int} (ho:FJ w hd.1 hd.2.1 xs)
 (hne:∀ h',h' ∈ hs→h'.1≠hd.1) (hv:v.ownBlock≠some hd.1) {gb cap n:Nat} (hn:g.length=n) (hu:u=Nn hd xs) (hown:w'.ownsRow base E 1 (.slice (some ⟨gb,0,none⟩) (n+1) cap) (n+1) (LT hs g ++ [u]))
 (hg:w.grownBy w' v.ownBlock) (hat:v.ownBlock=some gb∨w.heap.size≤gb):GG w' base E (.slice (some ⟨gb,0,none⟩) (n+1) cap) (hs ++ [hd]) (g ++ [xs]):=by
 subst hn; subst hu
 exact h.push ho hne hv hown hg hat
theorem GG.grid {w:World} {base:Nat} {E:TypeId} {gb n cap:Nat} {hs:List (Nat×Nat×Nat)} {g:List (List Int)} (h:GG w base E (.slice (some ⟨gb,0,none⟩) n cap) hs g):BH w gb 0 hs g∧n=g.length∧base≤gb∧n≤cap:=by
 obtain ⟨a,b,c,d,f⟩:=Bf h.own
 refine ⟨⟨h.len,c,AE h.gbase b,fun i hd xs h1 h2=>?_,fun i hd xs h1 h2=>?_,h.apart⟩,a,b,d⟩
 ·have:=f i (Nn hd xs) (by unfold LT; rw [DJ,h1,h2])
  simpa [Nn] using this
 ·obtain ⟨p,q⟩:=h.row i hd xs h1 h2
  exact ⟨p,fun e=>q (by simp [Value.ownBlock,e])⟩
theorem B5 {w:World} {base base':Nat} {e:TypeId} {size:Nat} {v:Value} {n:Nat} {xs:List Value} (h:w.ownsRow base e size v n xs) (hb:base'≤base):w.ownsRow base' e size v n xs:=by
 obtain ⟨h1,h2⟩:=h
 refine ⟨h1, ?_⟩
 rcases h2 with h2 | ⟨g,cap,cur,hv,hg,r⟩
 ·exact .inl h2
 ·exact .inr ⟨g,cap,cur,hv,AE hb hg,r⟩
def FM (w:World) (hs:List (Nat×Nat×Nat)) (g:List (List Int)):Prop :=
 ∀ (i:Nat) (h:Nat×Nat×Nat) (xs:List Int),hs[i]?=some h→g[i]?=some xs→h.2.1=0∧w.ownsRow gN 42 1 (.slice (some ⟨h.1,0,none⟩) xs.length h.2.2) xs.length (xs.map sv)
theorem FM.nil (w:World):FM w [] []:=fun i h xs h1=>by simp at h1
theorem FM.fx {w w':World} {p:Nat→Prop} {hs:List (Nat×Nat×Nat)} {g:List (List Int)} (h:FM w hs g) (k:Fx p w w') (hp:∀ hd,hd ∈ hs→¬ p hd.1):FM w' hs g:=fun i hd xs h1 h2=>by
 obtain ⟨a,b⟩:=h i hd xs h1 h2
 refine ⟨a,BM b k (fun g hg=>?_)⟩
 have e:hd.1=g:=by simpa [Value.ownBlock] using hg
 rw [← e]
 exact hp hd (Ae h1)
theorem FM.fr {w w':World} {hs:List (Nat×Nat×Nat)} {g:List (List Int)} (h:FM w hs g) (k:Fr w w'):FM w' hs g :=
 h.fx (p:=fun _=>False) (Fx.of_fr k) (fun _ _ e=>e)
theorem FM.push {w:World} {hs:List (Nat×Nat×Nat)} {g:List (List Int)} (h:FM w hs g) (hl:hs.length=g.length) {hd:Nat×Nat×Nat} {xs:List Int} (h0:hd.2.1=0)
 (ho:w.ownsRow gN 42 1 (.slice (some ⟨hd.1,0,none⟩) xs.length hd.2.2) xs.length (xs.map sv)):FM w (hs ++ [hd]) (g ++ [xs]):=fun i h1 ys k1 k2=>by
 by_cases hi:i < g.length
 ·rw [A0 (by rw [hl]; exact hi)] at k1
  rw [A0 hi] at k2
  exact h i h1 ys k1 k2
 ·rw [AR (by omega),Cp] at k2
  rw [AR (by rw [hl]; omega),Cp] at k1
  split at k1
  ·split at k2
   ·injection k1 with k1; injection k2 with k2; subst k1; subst k2; exact ⟨h0,ho⟩
   ·simp at k2
  ·simp at k1
end Go.Proofs.YtcglmebcfeoedaaGreatDoor
