/- Contracts and laws: FAA. -/
import Derived.Lib.AtoiAll
import Derived.Lib.ItoaLen
import Derived.Lib.ItoaMem
import Derived.Lib.ParseIntB
import GoSem.Op.String
import Derived.Laws.Strings
import Derived.Test.YtiniigadkknboaaGreatDoorProg
import Derived.WalkKit
import Derived.WalkLawsBesides
import Derived.WalkSpells
import Derived.Outline
import Derived.Lib.Hide
import Derived.BigQuiet
import Derived.Deep.QuietTactic
import Derived.Lib.LaidTab
import Derived.Test.YtiniigadkknboaaGreatDoorShelf
import Derived.Lib.AtoiErrMem
import Derived.Lib.ParseIntBTie
import Derived.LoopTactic

set_option maxHeartbeats 400000
namespace Go.Proofs.YtiniigadkknboaaGreatDoor
open Go.Lib
theorem hZ {p:Prop} (h:p):Go.RowKit.Hid p:=h
abbrev Aa:=@decide_eq_false
abbrev Ab:=@decide_eq_true
abbrev Ac:=@List.getElem?_eq_getElem
abbrev Ad:=@World.cell?_setCell_other
abbrev Ae:=@if_neg
abbrev Af:=@List.mem_of_getElem?
abbrev Ag:=@List.getElem?_eq_some_iff
abbrev Ah:=@Nat.le_refl
abbrev Ai:=@if_pos
abbrev Aj:=@List.setIfInBounds_toArray
abbrev Ak:=@Int.natCast_nonneg
abbrev Al:=@World.cell?_setCell_same'
abbrev Am:=@IntWalk.i64_in
abbrev An:=@Nat.lt_of_lt_of_le
abbrev Ao:=@World.frozen?_setCell
abbrev Ap:=@List.take_of_length_le
abbrev Aq:=@List.set_cons_zero
abbrev Ar:=@Nat.le_trans
abbrev As:=@List.set_cons_succ
abbrev At:=@Classical.byContradiction
abbrev Au:=@List.getElem?_map
abbrev Av:=@List.length_take
abbrev Ay:=@List.length_cons
abbrev Az:=@Nat.mul_le_mul
abbrev AA:=@World.ownsRow.alloc
abbrev AB:=@List.length_append
abbrev AC:=@World.size_alloc
abbrev AD:=@List.map_append
abbrev AE:=@List.length_map
abbrev AF:=@List.all_eq_true
abbrev AG:=@List.getElem?_eq_none
abbrev AJ:=@List.getElem_mem
abbrev AK:=@bodyPost_ret
abbrev AL:=@IntWalk.u64_in
abbrev AM:=@Int.natAbs_natCast
abbrev AO:=@List.length_replicate
abbrev AQ:=@Int.natCast_mul
abbrev AR:=@Int.toNat_natCast
abbrev AU:=@Nat.zero_add
abbrev AV:=@of_decide_eq_true
abbrev AW:=@List.drop_eq_nil_of_le
abbrev AX:=@Decidable.byContradiction
abbrev AY:=@List.mem_singleton
abbrev AZ:=@Int.natAbs_mul
abbrev A0:=@World.block_lt_of_cell?
abbrev A1:=@Option.bind_eq_some_iff
abbrev A3:=@Nat.not_lt_zero
abbrev A4:=@List.length_set
abbrev A5:=@info_parts
abbrev A6:=@Nat.mul_le_mul_right
abbrev A7:=@Nat.mul_le_mul_left
abbrev A8:=@Nat.lt_of_le_of_lt
abbrev Ba:=@beq_false_of_ne
abbrev Bb:=@bne_iff_ne
abbrev Be:=@Int.mul_le_mul_of_nonneg_right
abbrev Bf:=@List.getElem?_take
abbrev Bg:=@List.eq_nil_of_length_eq_zero
abbrev Bi:=@List.getElem?_append_right
abbrev Bl:=@Nat.pow_succ
abbrev Bm:=@Option.getD_some
abbrev Bo:=@Array.getElem?_eq_some_iff
abbrev Br:=@World.ownsRow_nil
abbrev Bs:=@List.getElem?_append_left
abbrev Bt:=@Bool.and_eq_true
abbrev Bv:=@List.mem_cons
abbrev Bz:=@List.getElem?_of_mem
abbrev BC:=@Nat.div_div_eq_div_mul
abbrev BD:=@Nat.pow_le_pow_right
abbrev BF:=@List.mem_iff_getElem?
abbrev BJ:=@Int.mul_zero
abbrev BK:=@List.mem_append
abbrev BL:=@List.append_assoc
abbrev BN:=@Int.mul_nonneg
abbrev BQ:=@List.getElem?_replicate
abbrev BV:=@callsIn_wide
abbrev BW:=@List.mem_of_mem_take
abbrev BX:=@List.length_range
abbrev BZ:=@List.getElem?_set
abbrev B6:=@List.eq_of_mem_replicate
abbrev Ca:=@Nat.div_lt_iff_lt_mul
abbrev Cb:=@List.mem_map
abbrev Cc:=@List.append_nil
abbrev Ch:=@Int.lt_trichotomy
abbrev Cj:=@List.mem_or_eq_of_mem_set
abbrev Cm:=@Option.some.inj
abbrev Cn:=@List.mem_range
abbrev Cp:=@Nat.zero_le
abbrev Cq:=@List.length_pos_iff
abbrev Cu:=@List.any_eq_false
abbrev Cz:=@List.mem_cons_self
abbrev CA:=@List.mem_cons_of_mem
abbrev CB:=@Int.mul_eq_zero
abbrev CD:=@Option.map_eq_some_iff
abbrev CF:=@Nat.mod_lt
abbrev CG:=@List.size_toArray
abbrev CJ:=@heap_alloc_new
abbrev CL:=@Nat.mul_comm
abbrev CM:=@List.length_nil
abbrev CO:=@World.cell?_drew
abbrev CP:=@Option.bind_some
abbrev CQ:=@Nat.mod_eq_of_lt
abbrev CR:=@Nat.add_sub_cancel_left
abbrev CS:=@List.length_drop
abbrev CT:=@Int.natAbs_of_nonneg
abbrev CU:=@Array.replicate_zero
abbrev CV:=@Array.replicate_succ
abbrev C4:=@List.ext_getElem?
abbrev C5:=@Int.fmod_nonneg_of_pos
abbrev C6:=@List.append_toArray
abbrev C7:=@getD_set_ne
abbrev C8:=@Int.natCast_add
abbrev Df:=@wpList_make_full
abbrev Dh:=@Int.lt_or_gt_of_ne
abbrev Dk:=@Int.zero_mul
abbrev Dl:=@Int.add_zero
abbrev Dn:=@Nat.pow_add
abbrev Du:=@List.push_toArray
abbrev Dv:=@List.getElem?_singleton
abbrev DA:=@Nat.min_eq_left
abbrev DB:=@beq_eq_false_iff_ne
abbrev DG:=@List.cons_append
abbrev DK:=@Int.tdiv_eq_ediv_of_nonneg
abbrev DL:=@Int.natAbs_neg
abbrev DM:=@DataW.trod_int
abbrev DV:=@List.drop_eq_getElem_cons
abbrev DZ:=@wpList_make_own
abbrev D2:=@enters_of
abbrev D3:=@Nat.div_le_self
abbrev D4:=@Nat.div_add_mod
abbrev D5:=@List.nil_append
abbrev D6:=@Nat.sub_zero
abbrev D7:=@Nat.one_mul
abbrev D8:=@Nat.le_of_lt
abbrev Ea:=@Nat.gcd_comm
abbrev Eb:=@Nat.add_zero
abbrev Ec:=@List.take_add_one
abbrev Ed:=@Int.mul_comm
abbrev Ee:=@Bool.not_eq_true'
abbrev En:=@ready_mono
abbrev Eo:=@Array.setIfInBounds_comm
abbrev Ey:=@mem_ready
abbrev Ez:=@Nat.le_mul_of_pos_right
abbrev EA:=@List.filter_cons_of_pos
abbrev EB:=@Int.natCast_ediv
abbrev EJ:=@Nat.pow_pos
abbrev EK:=@Nat.add_mul
abbrev EP:=@Nat.pow_zero
abbrev EQ:=@Nat.le_mul_of_pos_left
abbrev ER:=@List.map_replicate
abbrev E3:=@Nat.mul_assoc
abbrev Fd:=@List.take_append_drop
abbrev Fv:=@Nat.div_one
abbrev Fw:=@List.drop_zero
abbrev FM:=@Nat.lt_of_not_le
abbrev FN:=@List.map_set
abbrev FO:=@List.drop_length
abbrev FR:=@List.replicate_succ
abbrev FS:=@List.getElem_of_mem
abbrev Gk:=@List.zip_cons_cons
abbrev Gl:=@Int.mul_nonneg_of_nonpos_of_nonpos
abbrev Gm:=@Nat.mul_one
abbrev Gn:=@List.filter_cons_of_neg
abbrev Gr:=@List.findIdx?_eq_some_iff_getElem
abbrev GO:=@Nat.add_comm
abbrev GP:=@List.getElem?_set_self
abbrev GQ:=@Act.put_comm
abbrev Hh:=@Nat.le_div_iff_mul_le
abbrev Hi:=@List.getElem?_zipWith
abbrev Hj:=@Int.mul_fdiv_add_fmod
abbrev Hk:=@Int.emod_add_mul_ediv
abbrev Hl:=@Array.mem_of_getElem?
abbrev HK:=@Nat.div_eq_of_lt
abbrev HR:=@Region.noSelect_spec
abbrev HS:=@Array.size_replicate
abbrev It:=@Oper.semAt_some
abbrev IH:=@Nat.div_mul_le_self
abbrev II:=@List.map_eq_nil_iff
abbrev IM:=@results_none
abbrev IO:=@Nat.sub_self
abbrev IP:=@Int.le_of_lt
abbrev Je:=@wp_loop_rounds
abbrev Jf:=@of_decide_eq_false
abbrev Jg:=@List.getElem?_drop
abbrev Jh:=@Int.tmod_eq_emod_of_nonneg
abbrev Ji:=@Int.fmod_lt_of_pos
abbrev J7:=@List.findIdx?_eq_none_iff
abbrev J8:=@Int.mul_neg_of_pos_of_neg
abbrev J9:=@Int.mul_neg_of_neg_of_pos
abbrev Ka:=@ChangeSpec.witness_shaped
abbrev Kc:=@decide_eq_true_eq
abbrev Kd:=@List.all_eq_false
abbrev Ke:=@Int.le_refl
abbrev KJ:=@Nat.lt_irrefl
abbrev KK:=@Bool.false_or
abbrev Lh:=@beq_self_eq_true
abbrev Li:=@Region.free_spec
abbrev Lj:=@Nat.mul_lt_mul''
abbrev Lk:=@List.take_length
abbrev Ll:=@List.length_eq_zero_iff
abbrev Lm:=@List.getElem?_cons_succ
abbrev Lo:=@Int.natCast_emod
abbrev MR:=@cell_one_new
abbrev MS:=@Int.fdiv_one
abbrev MT:=@Array.getElem?_eq_none
abbrev Nh:=@UInt8.lt_iff_toNat_lt
abbrev Ni:=@List.length_filter_le
abbrev O5:=@rounds_succ
abbrev O6:=@List.take_zero
abbrev O7:=@List.mem_of_mem_drop
abbrev O8:=@Int.ofNat_tdiv
abbrev O9:=@Int.mul_add
abbrev Pa:=@Calls.quiet_of
abbrev QT:=@Nat.add_sub_cancel'
abbrev QU:=@List.map_congr_left
abbrev QV:=@Array.toList_append
abbrev QZ:=@callsIn_of_wp
abbrev Q0:=@List.take_nil
abbrev Q1:=@IntWalk.u8_in
abbrev Q2:=@Int.mul_assoc
abbrev R6:=@World.frozen?_drew
abbrev R7:=@Rat.num_divInt_den
abbrev R8:=@Nat.pos_of_ne_zero
abbrev R9:=@Nat.gcd_zero_right
abbrev Sa:=@Nat.eq_zero_or_pos
abbrev Sb:=@List.mem_replicate
abbrev Sc:=@List.filter_append
abbrev Sd:=@Int.tmod_lt_of_pos
abbrev Se:=@Int.mul_nonpos_of_nonpos_of_nonneg
abbrev Sf:=@Int.emod_lt_of_pos
abbrev UH:=@Nat.lt_trichotomy
abbrev UI:=@List.take_succ_eq_append_getElem
abbrev WW:=@Nat.mul_pos
abbrev WX:=@Int.mul_one
abbrev WY:=@Int.mul_le_mul_of_nonneg_left
abbrev WZ:=@Int.add_mul
abbrev XY:=@Option.map_some
abbrev XZ:=@List.prefix_rfl
abbrev X0:=@List.length_zip
abbrev X1:=@List.all_append
abbrev X2:=@Int.emod_nonneg
abbrev Yu:=@Int.sign_eq_neg_one_iff_neg
abbrev Ze:=@Nat.sub_le
abbrev Zf:=@Nat.mod_le
abbrev Zg:=@List.take_take
abbrev Zh:=@List.take_left
abbrev Zi:=@List.getD_eq_getElem?_getD
abbrev Zj:=@List.exists_cons_of_ne_nil
abbrev Zk:=@Int.natAbs_sign_of_ne_zero
abbrev Zl:=@Int.fdiv_eq_ediv_of_nonneg
abbrev Z1:=@Nat.gcd_pos_of_pos_right
abbrev Z2:=@List.map_take
abbrev Z3:=@List.map_cons
abbrev Z4:=@Bool.true_and
abbrev Aab:=@wpOp_mono
abbrev Aac:=@Int.tdiv_eq_ediv_of_dvd
abbrev Aad:=@Int.eq_ofNat_of_zero_le
abbrev Aap:=@run_convert_bytes_back
abbrev Aaq:=@List.map_map
abbrev Aar:=@List.drop_of_length_le
abbrev Aas:=@Int.ofNat_le
abbrev Aat:=@Int.neg_tdiv
abbrev Aau:=@ByteArray.size_extract
abbrev Aav:=@ByteArray.data_extract
abbrev AaB:=@Rat.divInt_mul_divInt
abbrev AaC:=@List.singleton_append
abbrev AaD:=@Int.mul_tdiv_add_tmod
abbrev AaE:=@Int.fdiv_fmod_unique'
abbrev AaF:=@ByteArray.data_append
def tx (n:Int):ByteArray:=⟨(itoa n).toArray⟩
def Bh (acc:Nat):List UInt8→Nat
 | []=>acc
 | c :: r=>Bh (acc * 10+(c.toNat - 48)) r
theorem EG (l m:List UInt8) (a:Nat):Bh a (l ++ m)=Bh (Bh a l) m:=by
 induction l generalizing a with
 | nil=>rfl
 | cons c r ih=>exact ih _
theorem Fo (k:Nat) (h:k < 10):(UInt8.ofNat (48+k)).toNat=48+k:=by
 rw [UInt8.toNat_ofNat']
 exact CQ (An (show 48+k < 58 by omega) (by decide))
theorem B4 (u:Nat):Bh 0 (decDigits u)=u:=by
 induction u using Nat.strongRecOn with
 | _ u ih=>
   by_cases h:u < 10
   ·rw [decDigits,dif_pos h]
    show 0 * 10+((UInt8.ofNat (48+u)).toNat - 48)=u
    rw [Fo u h]; omega
   ·rw [decDigits,dif_neg h,EG,ih (u / 10) (by omega)]
    show u / 10 * 10+((UInt8.ofNat (48+u % 10)).toNat - 48)=u
    rw [Fo (u % 10) (by omega)]; omega
theorem B5 (u:Nat):∀ c ∈ decDigits u,48≤c.toNat∧c.toNat≤57:=by
 induction u using Nat.strongRecOn with
 | _ u ih=>
   by_cases h:u < 10
   ·rw [decDigits,dif_pos h]; intro c hc
    simp only [AY] at hc; subst hc; rw [Fo u h]; omega
   ·rw [decDigits,dif_neg h]; intro c hc
    rcases BK.1 hc with hc | hc
    ·exact ih (u / 10) (by omega) c hc
    ·simp only [AY] at hc; subst hc; rw [Fo (u % 10) (by omega)]; omega
theorem Fp (u:Nat):decDigits u≠[]:=by
 intro h
 have:=decDigits_length u
 rw [h] at this
 have:=nDigits_pos u
 simp at *; omega
theorem S5 {u v:Nat} (h:decDigits u=decDigits v):u=v:=by
 have:=B4 u; rw [h,B4] at this; exact this.symm
theorem VI {n m:Int} (h:itoa n=itoa m):n=m:=by
 unfold itoa at h
 have hd:∀ u c r,decDigits u=c :: r→48≤c.toNat:=fun u c r e=>(B5 u c (by rw [e]; simp)).1
 split at h <;> split at h
 ·injection h with _ h; have:=S5 h; omega
 ·have:=hd _ _ _ h.symm; simp at this
 ·have:=hd _ _ _ h; simp at this
 ·have:=S5 h; omega
theorem FY (n:Int):(tx n).data.toList=itoa n:=by simp [tx]
theorem DH (n:Int):(tx n).size=(itoa n).length:=by simp [tx,ByteArray.size]
theorem BR {n:Int} (h:0≤n):itoa n=decDigits n.toNat:=by unfold itoa; rw [Ae (by omega)]
theorem Fz {n:Int} (h:n < 0):itoa n=45 :: decDigits n.natAbs:=by unfold itoa; rw [Ai h]
theorem JM (n:Int):0 < (itoa n).length:=by
 by_cases h:n < 0
 ·rw [Fz h]; simp
 ·rw [BR (by omega)]; exact Cq.2 (Fp _)
theorem H0 (n:Int):0 < (tx n).size:=by rw [DH]; exact JM n
theorem Hy (k u:Nat) (hk:1≤k) (h:u < 10 ^ k):nDigits u≤k:=by
 induction k generalizing u with
 | zero=>omega
 | succ k ih=>
   by_cases h9:u < 10
   ·rw [nDigits_small h9]; omega
   ·rw [nDigits_big h9]
    by_cases hk0:k=0
    ·subst hk0; simp at h; omega
    ·have:=ih (u / 10) (by omega) (by rw [Bl] at h; omega)
     omega
theorem Dw (k:Nat) (n:Int) (hk:1≤k) (h:n.natAbs < 10 ^ k):(tx n).size≤k+1:=by
 rw [DH]
 by_cases h0:n < 0
 ·rw [Fz h0]; have:=Hy k n.natAbs hk h; simp [decDigits_length]; omega
 ·rw [BR (by omega),decDigits_length]
  have:=Hy k n.toNat hk (by omega); omega
theorem UT {n:Int} {c:UInt8} {r:List UInt8} (h:itoa n=c :: r) (hp:0 < (tx n).size):(tx n)[0]'hp=c:=by
 have e:(tx n).data=(c :: r).toArray:=by simp [tx,h]
 show (tx n).data[0]=c
 simp [e]
theorem Ga {n:Int} (h:n < 0) (hp:0 < (tx n).size):((((tx n)[0]'hp).toNat:Int) == 45)=true:=by
 rw [UT (Fz h) hp]; rfl
theorem F9 {n:Int} (h:0≤n) (hp:0 < (tx n).size):((((tx n)[0]'hp).toNat:Int) == 45)=false:=by
 cases e:itoa n with
 | nil=>have:=JM n; rw [e] at this; simp at this
 | cons c r=>
   rw [UT e hp]
   have e2:=BR h
   have:=(B5 n.toNat c (by rw [← e2,e]; simp)).1
   simp; omega
theorem OO {a b:ByteArray} (h:a.data.toList=b.data.toList):a=b:=by
 cases a; cases b; congr; exact Array.toList_inj.1 h
theorem Jp {n:Int} (h:n < 0):(tx n).extract 1 (tx n).size=tx (-n):=by
 refine OO ?_
 have h1:itoa n=45 :: itoa (-n):=by
  rw [Fz h,BR (by omega)]; congr 2; omega
 rw [FY,Aav,Array.toList_extract]
 have e:(tx n).data.toList=45 :: itoa (-n):=by rw [FY,h1]
 have e2:(tx n).size=(itoa (-n)).length+1:=by rw [DH,h1]; rfl
 rw [e,e2]; simp [List.extract]
theorem Oa {n:Int} (h:0 < n):(⟨#[45]⟩:ByteArray) ++ tx n=tx (-n):=by
 refine OO ?_
 rw [FY,Fz (by omega),AaF,QV,FY,BR (by omega)]
 simp; congr 1; omega
theorem Gv:tx 0=⟨#[48]⟩:=by decide +kernel
theorem FP:tx 1=⟨#[49]⟩:=by decide +kernel
theorem HN:∀ (l:List UInt8) (acc:Nat),(∀ c ∈ l,48≤c.toNat∧c.toNat≤57)→Bh acc l < 18446744073709551616→parseUint10 acc l=.ok (Bh acc l)
 | [],acc,_,_=>rfl
 | c :: r,acc,hd,hb=>by
   have hc:=hd c (by simp)
   have mono:∀ (l:List UInt8) (a:Nat),a≤Bh a l:=by
    intro l; induction l with
    | nil=>intro a; exact Ah _
    | cons x l ih=>intro a; exact Ar (by omega) (ih (a * 10+(x.toNat - 48)))
   have hb:Bh (acc * 10+(c.toNat - 48)) r < 18446744073709551616:=hb
   show _=NumEnd.ok (Bh (acc * 10+(c.toNat - 48)) r)
   have hm:=mono r (acc * 10+(c.toNat - 48))
   rw [parseUint10,Ai hc,Ae (by omega),Ae (by omega)]
   exact HN r _ (fun x hx=>hd x (by simp [hx])) hb
theorem JG (u:Nat) (h:u < 18446744073709551616):parseMag (decDigits u)=.ok u:=by
 unfold parseMag
 rw [Ae (Fp u),HN _ _ (B5 u) (by rw [B4]; exact h),B4]
theorem JX (n:Int) (h0:-9223372036854775808≤n) (h1:n≤9223372036854775807):atoiAll (tx n).data.toList=.ok n:=by
 rw [FY]
 by_cases h:n < 0
 ·rw [Fz h]
  simp only [atoiAll]
  rw [Ai (by right; rfl),JG _ (by omega)]
  have e45:(45:UInt8).toNat=45:=rfl
  simp only [e45,not_true_eq_false,false_and,if_false,true_and,if_true]
  rw [Ae (by omega)]
  congr 1; omega
 ·have e:=BR (n:=n) (by omega)
  rw [e]
  cases ed:decDigits n.toNat with
  | nil=>exact absurd ed (Fp _)
  | cons c r=>
    have hc:=B5 n.toNat c (by rw [ed]; simp)
    have hp:=JG n.toNat (by omega)
    rw [ed] at hp
    simp only [atoiAll]
    rw [Ae (by omega),hp]
    have h45:¬ c.toNat=45:=by omega
    simp only [h45,not_false_eq_true,true_and,false_and,if_false]
    rw [Ae (by omega)]
    congr 1; omega
theorem Cx:∀ (l:List UInt8) (a:Nat),(∀ c ∈ l,48≤c.toNat∧c.toNat≤57)→a * 10 ^ l.length≤Bh a l∧Bh a l < (a+1) * 10 ^ l.length
 | [],a,_=>⟨by show a * 1≤a; omega,by show a < (a+1) * 1; omega⟩
 | c :: r,a,h=>by
   have hc:=h c (by simp)
   obtain ⟨h1,h2⟩:=Cx r (a * 10+(c.toNat - 48)) (fun x hx=>h x (by simp [hx]))
   have e:(c :: r).length=r.length+1:=rfl
   have q1:a * 10 ^ (r.length+1)=(a * 10) * 10 ^ r.length:=by rw [Bl,CL (10 ^ r.length) 10,← E3]
   have q2:(a+1) * 10 ^ (r.length+1)=(a * 10+10) * 10 ^ r.length:=by rw [Bl,CL (10 ^ r.length) 10,← E3,EK a 1 10]
   rw [e,q1,q2]
   exact ⟨Ar (A6 _ (by omega)) h1,An h2 (A6 _ (by omega))⟩
theorem PW:∀ (l m:List UInt8) (a:Nat),(∀ c ∈ l,48≤c.toNat∧c.toNat≤57)→(∀ c ∈ m,48≤c.toNat∧c.toNat≤57)→l.length=m.length →
 Op.bytesLess l m=decide (Bh a l < Bh a m)
 | [],[],a,_,_,_=>by
   show false=decide (a < a); simp
 | [],_ :: _,_,_,_,h=>by simp at h
 | _ :: _,[],_,_,_,h=>by simp at h
 | c :: l,d :: m,a,hl,hm,h=>by
   have hc:=hl c (by simp)
   have hd:=hm d (by simp)
   have hl':∀ x ∈ l,48≤x.toNat∧x.toNat≤57:=fun x hx=>hl x (by simp [hx])
   have hm':∀ x ∈ m,48≤x.toNat∧x.toNat≤57:=fun x hx=>hm x (by simp [hx])
   have hlen:l.length=m.length:=by simpa using h
   obtain ⟨a1,a2⟩:=Cx l (a * 10+(c.toNat - 48)) hl'
   obtain ⟨b1,b2⟩:=Cx m (a * 10+(d.toNat - 48)) hm'
   show (decide (c < d) || (c == d && Op.bytesLess l m))=decide (Bh (a * 10+(c.toNat - 48)) l < Bh (a * 10+(d.toNat - 48)) m)
   rw [hlen] at a1 a2
   rcases UH c.toNat d.toNat with hlt | heq | hgt
   ·have e1:c < d:=Nh.2 hlt
    have:(a * 10+(c.toNat - 48)+1) * 10 ^ m.length≤(a * 10+(d.toNat - 48)) * 10 ^ m.length:=A6 _ (by omega)
    rw [Ab e1,Bool.true_or]
    exact (Ab (An a2 (Ar this b1))).symm
   ·obtain rfl:c=d:=UInt8.toNat_inj.1 heq
    have e1:¬ c < c:=fun h=>KJ _ (Nh.1 h)
    rw [Aa e1,Lh,KK,Z4]
    exact PW l m _ hl' hm' hlen
   ·have e1:¬ c < d:=fun h=>by have:=Nh.1 h; omega
    have e2:(c == d)=false:=by
     rw [DB]; intro h; rw [h] at hgt; omega
    have:(a * 10+(d.toNat - 48)+1) * 10 ^ m.length≤(a * 10+(c.toNat - 48)) * 10 ^ m.length:=A6 _ (by omega)
    rw [Aa e1,e2,Bool.false_and,KK]
    refine (Aa ?_).symm
    have:=An b2 (Ar this a1)
    omega
theorem Vx (u v:Nat) (h:(decDigits u).length=(decDigits v).length):Op.bytesLess (decDigits u) (decDigits v)=decide (u < v):=by
 rw [PW _ _ 0 (B5 u) (B5 v) h,B4,B4]
theorem GB (u:Nat) (h:2≤nDigits u):10 ^ (nDigits u - 1)≤u:=by
 induction u using Nat.strongRecOn with
 | _ u ih=>
   by_cases h9:u < 10
   ·rw [nDigits_small h9] at h; omega
   ·rw [nDigits_big h9]
    by_cases h2:2≤nDigits (u / 10)
    ·have:=ih (u / 10) (by omega) h2
     have e:nDigits (u / 10)+1 - 1=(nDigits (u / 10) - 1)+1:=by omega
     rw [e,Bl]; omega
    ·have:=nDigits_pos (u / 10)
     have e:nDigits (u / 10)=1:=by omega
     rw [e]; show 10 ^ 1≤u; omega
theorem G1 (u v:Nat) (h:nDigits u < nDigits v):u < v:=by
 have h1:=lt_pow_nDigits u
 have h2:=GB v (by have:=nDigits_pos u; omega)
 have h3:10 ^ nDigits u≤10 ^ (nDigits v - 1):=BD (by decide) (by omega)
 omega
theorem Iu (n:Int):(tx n).toList=itoa n:=by rw [ByteArray.toList_eq,FY]
theorem Oc (n m:Int):((tx n).toList == itoa m)=decide (n=m):=by
 rw [Iu]
 by_cases h:n=m
 ·subst h; simp
 ·rw [Aa h]
  rw [DB]; exact fun e=>h (VI e)
theorem ZL:itoa 0=[48]:=by decide +kernel
theorem X9:itoa 1=[49]:=by decide +kernel
theorem B8 (n:Int):((tx n).toList == [48])=decide (n=0):=by rw [← ZL]; exact Oc n 0
theorem Ob (n m:Int):((tx n).toList == (tx m).toList)=decide (n=m):=by rw [Iu m]; exact Oc n m
theorem Si (u v:Nat) (h:(tx u).size=(tx v).size):Op.bytesLess (tx u).toList (tx v).toList=decide (u < v):=by
 rw [DH,DH,BR (by omega),BR (by omega)] at h
 rw [Iu,Iu,BR (by omega),BR (by omega)]
 exact Vx u v h
theorem CW (u:Nat):(tx (u:Int)).size=nDigits u:=by
 rw [DH,BR (by omega),decDigits_length]; rfl
end Go.Proofs.YtiniigadkknboaaGreatDoor
namespace Go.Proofs.YtiniigadkknboaaGreatDoor
open Go.RowKit Go.Lib
def G (w : World) : Prop := TabIs Tryz.prog w "internal/strconv.uint64pow10" .u64 pow10Tab
def Fr (w w':World):Prop:=Below w.heap.size w w'
theorem Fr.refl (w:World):Fr w w:=Below.refl _ _
theorem Fr.of_eq {w w':World} (h:w=w'):Fr w w':=h ▸ Fr.refl w
theorem Fr.size {w w':World} (h:Fr w w'):w.heap.size≤w'.heap.size:=Below.size h
theorem Fr.trans {a b c:World} (h:Fr a b) (k:Fr b c):Fr a c:=Below.trans h (Below.mono k h.size)
theorem Fr.drew {a b:World} (h:Fr a b):Fr a b.drew:=Below.drew h
theorem Fr.drewN {a b:World} (h:Fr a b) (n:Nat):Fr a (b.drewN n) :=
 have h:Below a.heap.size a b:=h
 show Below a.heap.size a (b.drewN n) from ⟨h.os,h.tape,h.output,h.size,h.block⟩
theorem Fr.alloc {a b:World} (h:Fr a b) (o:Obj):Fr a (b.alloc o):=Below.alloc h h.size o
theorem Fr.setCell {a b:World} (h:Fr a b) {p:Addr} (hp:a.heap.size≤p.block) (u:Value):Fr a (b.setCell p u):=Below.setCell h hp u
theorem Fr.grown {a b c:World} {row:Option Nat} (h:Fr a b) (hg:b.grownBy c row) (hr:∀ k,row=some k→a.heap.size≤k):Fr a c :=
 Below.grown h hg h.size hr
theorem BU {a b:World} (h:Fr a b:=by repeat (with_reducible first | assumption | exact Fr.refl _ | refine Fr.drew ?_ | refine Fr.drewN ?_ _ | refine Fr.alloc ?_ _ | (refine Fr.setCell ?_ (by simp only [AC,World.size_drew,World.size_setCell]; omega) _) | refine Fr.trans ?_ (by assumption))):Fr a b:=h
theorem Fr.cell {w w':World} (h:Fr w w') {p:Addr} (hp:p.block < w.heap.size):w'.cell? p=w.cell? p:=Below.cell h hp
theorem Fr.frozen {w w':World} (h:Fr w w') {p:Addr} (hp:p.block < w.heap.size):w'.frozen? p=w.frozen? p:=Below.frozen h hp
theorem Fr.keep {w w':World} (h:Fr w w') {p:Addr} {v:Value} (hc:w.cell? p=some v):w'.cell? p=some v:=by
 rw [h.cell (A0 w p hc)]; exact hc
theorem Fr.keepf {w w':World} (h:Fr w w') {p:Addr} {v:Value} {b:Bool} (hc:w.cell? p=some v) (hf:w.frozen? p=b):w'.frozen? p=b:=by
 rw [h.frozen (A0 w p hc)]; exact hf
def Qt (w w':World):Prop:=∃ n,w'=w.drewN n
theorem Qt.refl (w:World):Qt w w:=⟨0,rfl⟩
theorem Qt.trans {a b c:World} (h:Qt a b) (k:Qt b c):Qt a c:=by
 obtain ⟨n,rfl⟩:=h; obtain ⟨m,rfl⟩:=k; exact ⟨n+m,by simp [World.drewN,Nat.add_assoc]⟩
theorem Qt.drewN {a b:World} (h:Qt a b) (n:Nat):Qt a (b.drewN n):=h.trans ⟨n,rfl⟩
theorem Qt.drew {a b:World} (h:Qt a b):Qt a b.drew:=h.trans ⟨1,rfl⟩
theorem Qt.fr {w w':World} (h:Qt w w'):Fr w w':=by obtain ⟨n,rfl⟩:=h; exact (Fr.refl w).drewN n
theorem UP {P:Program} {g:Nat} {W:World} {n:String} {cs:Array Value} (hg:P.globalNamed n=some g) (hv:W.var? P n=some cs):g < W.heap.size:=by
 unfold World.var? at hv
 simp only [hg,CP] at hv
 by_cases h:g < W.heap.size
 ·exact h
 ·rw [MT (by omega)] at hv; simp at hv
theorem VL : Tryz.prog.globalNamed "internal/strconv.uint64pow10" = some 2 := by kernel_rfl
theorem G.fr {w w':World} (h:G w) (k:Fr w w'):G w':=var?_below k VL (UP VL h) h
theorem G.lt {w:World} (h:G w):2 < w.heap.size:=UP VL h
end Go.Proofs.YtiniigadkknboaaGreatDoor
namespace Go.Proofs.YtiniigadkknboaaGreatDoor
open Go.RowKit Go.Lib Go.Sort
theorem ST (w:World) (k:Nat) (os:Array Obj):Fr w (grow (w.drewN k) os):=
 (show Below w.heap.size w (grow (w.drewN k) os) from ⟨rfl,rfl,rfl,by simp [grow],fun i hi=>by simp [grow,Array.getElem?_append,hi]⟩)
theorem Mn {w w':World} {e:TypeId} (h:w'=w∨∃ t,w'=bytesWorld w e t):Fr w w':=by
 rcases h with rfl | ⟨t,rfl⟩
 ·exact Fr.refl _
 ·exact bytesWorld_below w e t
theorem Gf (n:Int) (h0:-9223372036854775808≤n) (h1:n≤9223372036854775807) (w:World) (hG:G w) :
 Calls Tryz.prog 127 #[.int .i64 n] w fun e w'=>e=.returned (.string (tx n))∧Fr w w' :=
 (Tryz.strconv_Itoa n h0 h1 w hG).mono (by rintro e w' ⟨rfl,k,os,rfl⟩; exact ⟨rfl,ST _ _ _⟩)
theorem Qs (n:Int) (h0:-9223372036854775808≤n) (h1:n≤9223372036854775807) (w:World) :
 Calls Tryz.prog 170 #[.string (tx n)] w fun e w'=>e=.returned (.tuple #[.int .i64 n,.nilIface])∧Fr w w' :=
 (Tryz.strconv_Atoi_ok (tx n) (by have:=Dw 19 n (by omega) (by omega); omega) n (JX n h0 h1) w).mono (by rintro e w' ⟨rfl,h⟩; exact ⟨rfl,Mn h⟩)
theorem Cs (n:Int) (h0:-9223372036854775808≤n) (h1:n≤9223372036854775807) (w:World) (hG:G w) :
 Calls Tryz.prog 96 #[.int .i64 n] w fun e w'=>e=.returned (.string (tx n))∧Fr w w':=by
 go_enter Tryz.func96,Tryz.ntmps96
 go_wp2_with (go_at_call 127; refine (Gf _ h0 h1 _ hG).mono ?_; rintro e w' ⟨rfl,hf⟩)
 go_ret
 exact ⟨rfl,hf⟩
theorem GS (n:Int) (hn:n < 0) (w:World) (hs:(tx n).size≤1000000000) :
 Calls Tryz.prog 144 #[.string (tx n)] w fun e w'=>e=.returned (.tuple #[.bool true,.string (tx (-n))])∧Qt w w':=by
 have h1:=H0 n
 have h2:=Ga hn h1
 have h3:=hZ (Jp hn)
 generalize tx n=s at *
 go_enter Tryz.func144,Tryz.ntmps144
 go_wp2
 go_quiet (fail)
 go_wp2
 go_ret2
 exact ⟨by rw [h3.out]; rfl,by repeat (with_reducible first | assumption | exact Qt.refl _ | refine Qt.drew ?_ | refine Qt.drewN ?_ _ | refine Qt.trans ?_ (by assumption))⟩
theorem U7 (n:Int) (hn:n < 0) (w:World) (hs:(tx n).size≤1000000000) :
 Calls Tryz.prog 144 #[.string (tx n)] w fun e w'=>e=.returned (.tuple #[.bool true,.string (tx (-n))])∧Fr w w' :=
 (GS n hn w hs).mono fun _ _ ⟨h,k⟩=>⟨h,k.fr⟩
theorem GR (n:Int) (hn:0≤n) (w:World) (_hs:(tx n).size≤1000000000) :
 Calls Tryz.prog 144 #[.string (tx n)] w fun e w'=>e=.returned (.tuple #[.bool false,.string (tx n)])∧Qt w w':=by
 have h1:=H0 n
 have h2:=F9 hn h1
 generalize tx n=s at *
 go_enter Tryz.func144,Tryz.ntmps144
 go_wp2
 go_ret2
 exact ⟨rfl,Qt.refl _⟩
theorem U6 (n:Int) (hn:0≤n) (w:World) (_hs:(tx n).size≤1000000000) :
 Calls Tryz.prog 144 #[.string (tx n)] w fun e w'=>e=.returned (.tuple #[.bool false,.string (tx n)])∧Fr w w' :=
 (GR n hn w _hs).mono fun _ _ ⟨h,k⟩=>⟨h,k.fr⟩
theorem DP (b:Bool) (n:Int) (hn:0≤n) (w:World) (_hs:(tx n).size≤1000000000) :
 Calls Tryz.prog 145 #[.bool b,.string (tx n)] w fun e w'=>e=.returned (.string (tx (if b then -n else n)))∧w=w':=by
 cases b
 ·go_enter Tryz.func145,Tryz.ntmps145
  go_wp2
  go_ret
  exact ⟨by simp,rfl⟩
 ·by_cases h:n=0
  ·have hb:((tx n).toList == [48])=true:=by rw [B8]; simp [h]
   have hh:=hZ h; clear h
   go_enter Tryz.func145,Tryz.ntmps145
   go_wp2
   go_ret
   exact ⟨by rw [hh.out]; rfl,rfl⟩
  ·have hb:((tx n).toList == [48])=false:=by rw [B8]; simp [h]
   have hj:=hZ (Oa (n:=n) (by omega)); clear h
   go_enter Tryz.func145,Tryz.ntmps145
   go_wp2
   go_ret
   exact ⟨by rw [hj.out]; rfl,rfl⟩
theorem BS (n most:Int) (h0:-9223372036854775808≤n) (h1:n≤9223372036854775807) (w:World) (hs:((tx n).size:Int)≤most) :
 Calls Tryz.prog 143 #[.string (tx n),.int .i64 most] w fun e w'=>e=.returned (.tuple #[.int .i64 n,.bool true])∧Fr w w':=by
 go_enter Tryz.func143,Tryz.ntmps143
 go_wp2_with (go_at_call 170; refine (Qs _ h0 h1 _).mono ?_; rintro e w' ⟨rfl,hf⟩)
 go_quiet (fail)
 go_wp2
 go_ret2
 exact ⟨rfl,by exact BU⟩
theorem TS (n most:Int) (w:World) (hs:most < ((tx n).size:Int)) (_hb:(tx n).size≤1000000000) :
 Calls Tryz.prog 143 #[.string (tx n),.int .i64 most] w fun e w'=>e=.returned (.tuple #[.int .i64 0,.bool false])∧w=w':=by
 go_enter Tryz.func143,Tryz.ntmps143
 go_wp2
 go_ret2
 exact ⟨rfl,rfl⟩
theorem Dt (n:Int) (w:World) :
 Calls Tryz.prog 139 #[.string (tx n)] w fun e w'=>e=.returned (.int .i64 n.sign)∧w=w':=by
 have hp:=H0 n
 have hb:=B8 n
 rcases Ch n 0 with h | h | h
 ·have h2:=Ga h hp
  rw [Aa (by omega)] at hb
  have hs:=hZ (Int.sign_eq_neg_one_of_neg h); clear h
  go_enter Tryz.func139,Tryz.ntmps139
  go_wp2
  go_ret
  exact ⟨by rw [hs.out]; rfl,rfl⟩
 ·rw [Ab h] at hb
  have hs:=hZ h; clear h
  go_enter Tryz.func139,Tryz.ntmps139
  go_wp2
  go_ret
  exact ⟨by rw [hs.out]; rfl,rfl⟩
 ·have h2:=F9 (by omega) hp
  rw [Aa (by omega)] at hb
  have hs:=hZ (Int.sign_eq_one_of_pos h); clear h
  go_enter Tryz.func139,Tryz.ntmps139
  go_wp2
  go_ret
  exact ⟨by rw [hs.out]; rfl,rfl⟩
def F3 (a b:Int):Int:=if a < b then -1 else if b < a then 1 else 0
theorem CC {k:IntKind} {a b:Int} (h:a=b):Ending.returned (.int k a)=Ending.returned (.int k b):=by rw [h]
theorem Xl {a b:ByteArray} (h:a=b):Ending.returned (.string a)=Ending.returned (.string b):=by rw [h]
theorem LK (u v:Nat) (w:World) (hu:nDigits u < 1000000000) (hv:nDigits v < 1000000000) :
 Calls Tryz.prog 147 #[.string (tx u),.string (tx v)] w fun e w'=>e=.returned (.int .i64 (F3 u v))∧w=w':=by
 have su:=CW u
 have sv:=CW v
 have hl1:=Si u v
 have hl2:=Si v u
 have he:=Ob u v
 generalize hx:tx (u:Int)=s at *
 generalize hy:tx (v:Int)=t at *
 clear hx hy
 have hu':s.size < 1000000000:=by omega
 have hv':t.size < 1000000000:=by omega
 by_cases h:s.size=t.size
 ·have l1:=hl1 h
  have l2:=hl2 h.symm
  have hne:((s.size:Int) != t.size)=false:=by rw [h]; simp
  clear hl1 hl2
  have h:=hZ h
  rcases UH u v with k | k | k
  ·rw [Ab k] at l1
   have hh:=hZ k; clear l2 he k su sv
   go_enter Tryz.func147,Tryz.ntmps147
   go_wp2
   go_ret
   exact ⟨CC (by have:=hh.out; unfold F3; rw [Ai (by omega)]),rfl⟩
  ·rw [Aa (by omega)] at l1 l2
   rw [Ab (by omega)] at he
   have hh:=hZ k; clear k su sv l2
   go_enter Tryz.func147,Tryz.ntmps147
   go_wp2
   go_ret
   exact ⟨CC (by have:=hh.out; unfold F3; rw [Ae (by omega),Ae (by omega)]),rfl⟩
  ·rw [Aa (by omega)] at l1
   rw [Aa (by omega)] at he
   have hh:=hZ k; clear k su sv l2
   go_enter Tryz.func147,Tryz.ntmps147
   go_wp2
   go_ret
   exact ⟨CC (by have:=hh.out; unfold F3; rw [Ae (by omega),Ai (by omega)]),rfl⟩
 ·have hne:((s.size:Int) != t.size)=true:=by rw [Bb]; omega
  have k1:=G1 u v
  have k2:=G1 v u
  have k1:=hZ k1
  have k2:=hZ k2
  have hh:=hZ h
  have su:=hZ su
  have sv:=hZ sv
  clear hl1 hl2 he h
  rename_i k1' k2' su' sv'
  clear k1' k2' su' sv'
  go_enter Tryz.func147,Tryz.ntmps147
  go_wp2
  go_ret
  refine ⟨CC ?_,rfl⟩
  have k1:=k1.out; have k2:=k2.out; have hh:=hh.out; have su:=su.out; have sv:=sv.out
  show min 1 (max (-1) ((s.size:Int) - t.size))=_
  unfold F3
  by_cases q:s.size < t.size
  ·rw [Ai (by have:=k1 (by omega); omega)]; omega
  ·rw [Ae (by have:=k2 (by omega); omega),Ai (by have:=k2 (by omega); omega)]; omega
theorem Wy (n:Int) (w:World) (hs:(tx n).size≤1000000000) :
 Calls Tryz.prog 169 #[.string (tx n)] w fun e w'=>e=.returned (.string (tx (-n)))∧Qt w w':=by
 by_cases h:n < 0
 ·have hs':(tx (-n)).size≤1000000000:=by rw [← Jp h,Aau]; omega
  go_enter Tryz.func169,Tryz.ntmps169
  go_wp2_with (first | (go_at_call 144; refine (GS _ h _ hs).mono ?_; rintro e w' ⟨rfl,hf⟩) | (go_at_call 145; refine (DP false _ (by omega) _ hs').mono ?_; rintro e w' ⟨rfl,rfl⟩))
  go_ret
  exact ⟨by simp,by repeat (with_reducible first | assumption | exact Qt.refl _ | refine Qt.drew ?_ | refine Qt.drewN ?_ _ | refine Qt.trans ?_ (by assumption))⟩
 ·go_enter Tryz.func169,Tryz.ntmps169
  go_wp2_with (first | (go_at_call 144; refine (GR _ (by omega) _ hs).mono ?_; rintro e w' ⟨rfl,hf⟩) | (go_at_call 145; refine (DP true _ (by omega) _ hs).mono ?_; rintro e w' ⟨rfl,rfl⟩))
  go_ret
  exact ⟨by simp,by repeat (with_reducible first | assumption | exact Qt.refl _ | refine Qt.drew ?_ | refine Qt.drewN ?_ _ | refine Qt.trans ?_ (by assumption))⟩
theorem LM (n:Int) (w:World) (hs:(tx n).size≤1000000000) :
 Calls Tryz.prog 169 #[.string (tx n)] w fun e w'=>e=.returned (.string (tx (-n)))∧Fr w w' :=
 (Wy n w hs).mono fun _ _ ⟨h,k⟩=>⟨h,k.fr⟩
theorem MQ (n:Int) (w:World) (hs:(tx n).size≤1000000000) :
 Calls Tryz.prog 138 #[.string (tx n)] w fun e w'=>e=.returned (.string (tx (n.natAbs:Int)))∧Qt w w':=by
 by_cases h:n < 0
 ·have e:=hZ (show (n.natAbs:Int)=-n by omega)
  go_enter Tryz.func138,Tryz.ntmps138
  go_wp2_with (go_at_call 144; refine (GS _ h _ hs).mono ?_; rintro e w' ⟨rfl,hf⟩)
  go_ret
  exact ⟨by rw [e.out]; rfl,by repeat (with_reducible first | assumption | exact Qt.refl _ | refine Qt.drew ?_ | refine Qt.drewN ?_ _ | refine Qt.trans ?_ (by assumption))⟩
 ·have e:=hZ (show (n.natAbs:Int)=n by omega)
  go_enter Tryz.func138,Tryz.ntmps138
  go_wp2_with (go_at_call 144; refine (GR _ (by omega) _ hs).mono ?_; rintro e w' ⟨rfl,hf⟩)
  go_ret
  exact ⟨by rw [e.out]; rfl,by repeat (with_reducible first | assumption | exact Qt.refl _ | refine Qt.drew ?_ | refine Qt.drewN ?_ _ | refine Qt.trans ?_ (by assumption))⟩
theorem IG (n:Int) (w:World) (hs:(tx n).size≤1000000000) :
 Calls Tryz.prog 138 #[.string (tx n)] w fun e w'=>e=.returned (.string (tx (n.natAbs:Int)))∧Fr w w' :=
 (MQ n w hs).mono fun _ _ ⟨h,k⟩=>⟨h,k.fr⟩
theorem S8 (a b:Int) (ha:0≤a) (hb:0≤b) (w:World) (hu:(tx a).size < 1000000000) (hv:(tx b).size < 1000000000) :
 Calls Tryz.prog 147 #[.string (tx a),.string (tx b)] w fun e w'=>e=.returned (.int .i64 (F3 a b))∧w=w':=by
 obtain ⟨u,rfl⟩:=Aad ha
 obtain ⟨v,rfl⟩:=Aad hb
 exact LK u v w (by rw [← CW]; exact hu) (by rw [← CW]; exact hv)
theorem Gw (n:Int) (h:n < 0):(tx (-n)).size+1=(tx n).size:=by
 have:=H0 n
 rw [← Jp h,Aau]; omega
theorem J5 (a b:Int) (w:World) (hu:(tx a).size < 1000000000) (hv:(tx b).size < 1000000000) :
 Calls Tryz.prog 137 #[.string (tx a),.string (tx b)] w fun e w'=>e=.returned (.int .i64 (F3 a b))∧Qt w w':=by
 by_cases hs:a.sign=b.sign
 ·have hne:(a.sign != b.sign)=false:=by rw [hs]; simp
  have hs':=hZ hs
  by_cases ha:a < 0
  ·have hb:b < 0:=by
    rw [Int.sign_eq_neg_one_of_neg ha] at hs
    exact Yu.1 hs.symm
   have sa:=Gw a ha
   have sb:=Gw b hb
   clear hs
   go_enter Tryz.func137,Tryz.ntmps137
   go_wp2_with fail
   refine (Dt a _).mono ?_; rintro e w' ⟨rfl,rfl⟩
   go_wp2_with fail
   refine (Dt b _).mono ?_; rintro e w' ⟨rfl,rfl⟩
   go_wp2_with fail
   refine (GS a ha _ (by omega)).mono ?_; rintro e w1 ⟨rfl,hf1⟩
   go_wp2_with fail
   refine (GS b hb _ (by omega)).mono ?_; rintro e w2 ⟨rfl,hf2⟩
   go_wp2_with fail
   refine (S8 (-b) (-a) (by omega) (by omega) _ (by omega) (by omega)).mono ?_; rintro e w' ⟨rfl,rfl⟩
   go_wp2_with fail
   go_ret
   exact ⟨CC (by unfold F3; split <;> split <;> omega),by repeat (with_reducible first | assumption | exact Qt.refl _ | refine Qt.drew ?_ | refine Qt.drewN ?_ _ | refine Qt.trans ?_ (by assumption))⟩
  ·have hb:¬ b < 0:=by
    intro hb
    rw [Int.sign_eq_neg_one_of_neg hb] at hs
    exact ha (Yu.1 hs)
   clear hs
   go_enter Tryz.func137,Tryz.ntmps137
   go_wp2_with fail
   refine (Dt a _).mono ?_; rintro e w' ⟨rfl,rfl⟩
   go_wp2_with fail
   refine (Dt b _).mono ?_; rintro e w' ⟨rfl,rfl⟩
   go_wp2_with fail
   refine (GR a (by omega) _ (by omega)).mono ?_; rintro e w1 ⟨rfl,hf1⟩
   go_wp2_with fail
   refine (GR b (by omega) _ (by omega)).mono ?_; rintro e w2 ⟨rfl,hf2⟩
   go_wp2_with fail
   refine (S8 a b (by omega) (by omega) _ hu hv).mono ?_; rintro e w' ⟨rfl,rfl⟩
   go_wp2_with fail
   go_ret
   exact ⟨rfl,by repeat (with_reducible first | assumption | exact Qt.refl _ | refine Qt.drew ?_ | refine Qt.drewN ?_ _ | refine Qt.trans ?_ (by assumption))⟩
 ·have hne:(a.sign != b.sign)=true:=by rw [Bb]; exact hs
  by_cases hl:a.sign < b.sign
  ·have hd:decide (a.sign < b.sign)=true:=Ab hl
   have hc:a < b:=by
    rcases Ch a b with h | h | h
    ·exact h
    ·subst h; exact absurd rfl hs
    ·exfalso
     have s1:0≤a - b:=by omega
     rcases Ch a 0 with p | p | p <;> rcases Ch b 0 with q | q | q <;>
      simp [Int.sign_eq_neg_one_of_neg,Int.sign_eq_one_of_pos, *] at hl <;> omega
   have hc:=hZ hc
   clear hs
   go_enter Tryz.func137,Tryz.ntmps137
   go_wp2_with fail
   refine (Dt a _).mono ?_; rintro e w' ⟨rfl,rfl⟩
   go_wp2_with fail
   refine (Dt b _).mono ?_; rintro e w' ⟨rfl,rfl⟩
   go_wp2_with fail
   go_ret
   exact ⟨CC (by have:=hc.out; unfold F3; rw [Ai this]),by repeat (with_reducible first | assumption | exact Qt.refl _ | refine Qt.drew ?_ | refine Qt.drewN ?_ _ | refine Qt.trans ?_ (by assumption))⟩
  ·have hd:decide (a.sign < b.sign)=false:=Aa hl
   have hc:b < a:=by
    rcases Ch a b with h | h | h
    ·exfalso
     rcases Ch a 0 with p | p | p <;> rcases Ch b 0 with q | q | q <;>
      simp [Int.sign_eq_neg_one_of_neg,Int.sign_eq_one_of_pos, *] at hl hs <;> omega
    ·subst h; exact absurd rfl hs
    ·exact h
   have hc:=hZ hc
   clear hs
   go_enter Tryz.func137,Tryz.ntmps137
   go_wp2_with fail
   refine (Dt a _).mono ?_; rintro e w' ⟨rfl,rfl⟩
   go_wp2_with fail
   refine (Dt b _).mono ?_; rintro e w' ⟨rfl,rfl⟩
   go_wp2_with fail
   go_ret
   exact ⟨CC (by have:=hc.out; unfold F3; rw [Ae (by omega),Ai this]),by repeat (with_reducible first | assumption | exact Qt.refl _ | refine Qt.drew ?_ | refine Qt.drewN ?_ _ | refine Qt.trans ?_ (by assumption))⟩
def Sm (n:Int):Prop:=-100000000000000000 < n∧n < 100000000000000000
theorem Sm.size {n:Int} (h:Sm n):(tx n).size≤18:=by
 obtain ⟨h1,h2⟩:=h
 exact Dw 17 n (by omega) (by omega)
theorem Gb (a b:Int) (hb:b≠0):(a.tmod b).natAbs < b.natAbs:=by
 rw [Int.natAbs_tmod]; exact CF _ (by omega)
theorem Do (a b:Int) (hb:b≠0) (h:a.tmod b=0∨(a.tmod b < 0 ↔ b < 0)):a.fdiv b=a.tdiv b∧a.fmod b=a.tmod b:=by
 have e:=AaD a b
 have m:=Gb a b hb
 rcases Dh hb with h1 | h1
 ·exact (AaE h1).2 ⟨by omega,by omega,by omega⟩
 ·exact (Int.fdiv_fmod_unique h1).2 ⟨by omega,by omega,by omega⟩
theorem EV (a b:Int) (hb:b≠0) (h0:a.tmod b≠0) (h:¬ (a.tmod b < 0 ↔ b < 0)):a.fdiv b=a.tdiv b - 1∧a.fmod b=a.tmod b+b:=by
 have e:=AaD a b
 have m:=Gb a b hb
 have e2:b * (a.tdiv b - 1)=b * a.tdiv b - b:=by rw [Int.mul_sub,WX]
 rcases Dh hb with h1 | h1
 ·exact (AaE h1).2 ⟨by omega,by omega,by omega⟩
 ·exact (Int.fdiv_fmod_unique h1).2 ⟨by omega,by omega,by omega⟩
theorem Jr (a b:Int):(a.tdiv b).natAbs≤a.natAbs:=by
 rw [Int.natAbs_tdiv]; exact D3 _ _
theorem Uz (a b:Int) (ha:Sm a) (hb:Sm b) (h0:b≠0) (w:World) (hG:G w) :
 Calls Tryz.prog 112 #[.string (tx a),.string (tx b)] w fun e w'=>e=.returned (.tuple #[.string (tx (a.fdiv b)),.string (tx (a.fmod b)),.int .i64 0])∧Fr w w':=by
 have sa:=ha.size
 have sb:=hb.size
 have hz:((tx b).toList == [48])=false:=by rw [B8]; exact Aa h0
 obtain ⟨a1,a2⟩:=ha
 obtain ⟨b1,b2⟩:=hb
 have td:=Jr a b
 have tm:=Gb a b h0
 have k1:IntKind.i64.wrap (a.tdiv b)=a.tdiv b:=Am _ (by omega)
 have k2:IntKind.i64.wrap (a.tmod b)=a.tmod b:=Am _ (by omega)
 by_cases hr0:a.tmod b=0
 ·have hfin:=hZ (show a.fdiv b=a.tdiv b∧a.fmod b=0 from by have:=Do a b h0 (.inl hr0); rw [hr0] at this; exact this)
  have c1:(a.tmod b != 0)=false:=by rw [hr0]; rfl
  have tm1:-100000000000000000 < a.tmod b∧a.tmod b < 100000000000000000:=by omega
  have td1:-100000000000000000 < a.tdiv b∧a.tdiv b < 100000000000000000:=by omega
  obtain ⟨tm1,tm2⟩:=tm1
  obtain ⟨td1,td2⟩:=td1
  clear td tm
  go_enter Tryz.func112,Tryz.ntmps112
  go_wp2_with fail
  refine (BS a 18 (by omega) (by omega) _ (by omega)).mono ?_; rintro e w1 ⟨rfl,hf1⟩
  go_wp2_with fail
  refine (BS b 18 (by omega) (by omega) _ (by omega)).mono ?_; rintro e w2 ⟨rfl,hf2⟩
  go_wp2_with fail
  go_quiet (fail)
  clear k1 k2
  have hfq:=hf1.trans hf2
  go_wp2_with fail
  refine (Cs _ (by omega) (by omega) _ (hG.fr (by exact BU))).mono ?_; rintro e w3 ⟨rfl,hf3⟩
  go_wp2_with fail
  refine (Cs _ (by omega) (by omega) _ (hG.fr (by exact BU))).mono ?_; rintro e w4 ⟨rfl,hf4⟩
  go_wp2_with fail
  go_ret3
  exact ⟨by rw [hfin.out.1,hfin.out.2]; rfl,by exact BU⟩
 ·have c1:(a.tmod b != 0)=true:=by rw [Bb]; exact hr0
  by_cases hr:a.tmod b < 0 <;> by_cases hb:b < 0
  ·have hfin:=hZ (Do a b h0 (.inr (by simp [hr,hb])))
   have c2:(decide (a.tmod b < 0))=true:=Ab hr
   have c3:(decide (b < 0))=true:=Ab hb
   have tm1:-100000000000000000 < a.tmod b:=by omega
   have tm2:a.tmod b < 100000000000000000:=by omega
   have td1:-100000000000000000 < a.tdiv b:=by omega
   have td2:a.tdiv b < 100000000000000000:=by omega
   clear td tm hr0 hr hb
   go_enter Tryz.func112,Tryz.ntmps112
   go_wp2_with fail
   refine (BS a 18 (by omega) (by omega) _ (by omega)).mono ?_; rintro e w1 ⟨rfl,hf1⟩
   go_wp2_with fail
   refine (BS b 18 (by omega) (by omega) _ (by omega)).mono ?_; rintro e w2 ⟨rfl,hf2⟩
   go_wp2_with fail
   go_quiet (fail)
   clear k1 k2
   have hfq:=hf1.trans hf2
   go_wp2_with fail
   refine (Cs _ (by omega) (by omega) _ (hG.fr (by exact BU))).mono ?_; rintro e w3 ⟨rfl,hf3⟩
   go_wp2_with fail
   refine (Cs _ (by omega) (by omega) _ (hG.fr (by exact BU))).mono ?_; rintro e w4 ⟨rfl,hf4⟩
   go_wp2_with fail
   go_ret3
   exact ⟨by rw [hfin.out.1,hfin.out.2]; rfl,by exact BU⟩
  ·have hfin:=hZ (EV a b h0 hr0 (by simp [hr,hb]))
   have c2:(decide (a.tmod b < 0))=true:=Ab hr
   have c3:(decide (b < 0))=false:=Aa hb
   have tm1:-100000000000000000 < a.tmod b:=by omega
   have tm2:a.tmod b < 100000000000000000:=by omega
   have td1:-100000000000000000 < a.tdiv b:=by omega
   have td2:a.tdiv b < 100000000000000000:=by omega
   clear td tm hr0 hr hb
   go_enter Tryz.func112,Tryz.ntmps112
   go_wp2_with fail
   refine (BS a 18 (by omega) (by omega) _ (by omega)).mono ?_; rintro e w1 ⟨rfl,hf1⟩
   go_wp2_with fail
   refine (BS b 18 (by omega) (by omega) _ (by omega)).mono ?_; rintro e w2 ⟨rfl,hf2⟩
   go_wp2_with fail
   go_quiet (fail)
   clear k1 k2
   have hfq:=hf1.trans hf2
   go_wp2_with fail
   refine (Cs _ (by omega) (by omega) _ (hG.fr (by exact BU))).mono ?_; rintro e w3 ⟨rfl,hf3⟩
   go_wp2_with fail
   refine (Cs _ (by omega) (by omega) _ (hG.fr (by exact BU))).mono ?_; rintro e w4 ⟨rfl,hf4⟩
   go_wp2_with fail
   go_ret3
   exact ⟨by rw [hfin.out.1,hfin.out.2]; rfl,by exact BU⟩
  ·have hfin:=hZ (EV a b h0 hr0 (by simp [hr,hb]))
   have c2:(decide (a.tmod b < 0))=false:=Aa hr
   have c3:(decide (b < 0))=true:=Ab hb
   have tm1:-100000000000000000 < a.tmod b:=by omega
   have tm2:a.tmod b < 100000000000000000:=by omega
   have td1:-100000000000000000 < a.tdiv b:=by omega
   have td2:a.tdiv b < 100000000000000000:=by omega
   clear td tm hr0 hr hb
   go_enter Tryz.func112,Tryz.ntmps112
   go_wp2_with fail
   refine (BS a 18 (by omega) (by omega) _ (by omega)).mono ?_; rintro e w1 ⟨rfl,hf1⟩
   go_wp2_with fail
   refine (BS b 18 (by omega) (by omega) _ (by omega)).mono ?_; rintro e w2 ⟨rfl,hf2⟩
   go_wp2_with fail
   go_quiet (fail)
   clear k1 k2
   have hfq:=hf1.trans hf2
   go_wp2_with fail
   refine (Cs _ (by omega) (by omega) _ (hG.fr (by exact BU))).mono ?_; rintro e w3 ⟨rfl,hf3⟩
   go_wp2_with fail
   refine (Cs _ (by omega) (by omega) _ (hG.fr (by exact BU))).mono ?_; rintro e w4 ⟨rfl,hf4⟩
   go_wp2_with fail
   go_ret3
   exact ⟨by rw [hfin.out.1,hfin.out.2]; rfl,by exact BU⟩
  ·have hfin:=hZ (Do a b h0 (.inr (by simp [hr,hb])))
   have c2:(decide (a.tmod b < 0))=false:=Aa hr
   have c3:(decide (b < 0))=false:=Aa hb
   have tm1:-100000000000000000 < a.tmod b:=by omega
   have tm2:a.tmod b < 100000000000000000:=by omega
   have td1:-100000000000000000 < a.tdiv b:=by omega
   have td2:a.tdiv b < 100000000000000000:=by omega
   clear td tm hr0 hr hb
   go_enter Tryz.func112,Tryz.ntmps112
   go_wp2_with fail
   refine (BS a 18 (by omega) (by omega) _ (by omega)).mono ?_; rintro e w1 ⟨rfl,hf1⟩
   go_wp2_with fail
   refine (BS b 18 (by omega) (by omega) _ (by omega)).mono ?_; rintro e w2 ⟨rfl,hf2⟩
   go_wp2_with fail
   go_quiet (fail)
   clear k1 k2
   have hfq:=hf1.trans hf2
   go_wp2_with fail
   refine (Cs _ (by omega) (by omega) _ (hG.fr (by exact BU))).mono ?_; rintro e w3 ⟨rfl,hf3⟩
   go_wp2_with fail
   refine (Cs _ (by omega) (by omega) _ (hG.fr (by exact BU))).mono ?_; rintro e w4 ⟨rfl,hf4⟩
   go_wp2_with fail
   go_ret3
   exact ⟨by rw [hfin.out.1,hfin.out.2]; rfl,by exact BU⟩
theorem Me (n:Int) (h0:-9223372036854775808≤n) (h1:n≤9223372036854775807):parseIntB 64 (tx n).data.toList=.ok n:=by
 rw [parseIntB_64]; exact JX n h0 h1
theorem EH (n:Int) (h0:-9223372036854775808≤n) (h1:n≤9223372036854775807) (w:World) :
 Calls Tryz.prog 116 #[.string (tx n)] w fun e w'=>e=.returned (.tuple #[.int .i64 n,.bool true])∧Fr w w':=by
 have hs:=Dw 19 n (by omega) (by omega)
 go_enter Tryz.func116,Tryz.ntmps116
 go_wp2_with fail
 refine (Tryz.strconv_ParseInt_10_at64_ok (tx n) (by omega) n (Me n h0 h1) _).mono ?_; rintro e w1 ⟨rfl,hw⟩
 have hf:=Mn hw; clear hw
 go_wp2_with fail
 go_ret2
 exact ⟨rfl,hf⟩
end Go.Proofs.YtiniigadkknboaaGreatDoor
namespace Go.Proofs.YtiniigadkknboaaGreatDoor
open Go.RowKit Go.Lib
def El {α:Type} (w:World) (enc:α→Value) (a:Option Addr) (xs:List α):Prop :=
 xs=[]∨∃ b o,a=some ⟨b,o,none⟩∧b < w.heap.size∧∀ i x,xs[i]?=some x→w.cell? ⟨b,o+i,none⟩=some (enc x)
theorem El.fr {α:Type} {w w':World} {enc:α→Value} {a:Option Addr} {xs:List α} (h:El w enc a xs) (k:Fr w w'):El w' enc a xs:=by
 rcases h with h | ⟨b,o,ha,hb,hc⟩
 ·exact .inl h
 ·exact .inr ⟨b,o,ha,An hb k.size,fun i x hx=>by rw [k.cell hb]; exact hc i x hx⟩
theorem El.at {α:Type} {w:World} {enc:α→Value} {a:Option Addr} {xs:List α} (h:El w enc a xs) {i:Nat} (hi:i < xs.length) :
 ∃ b o x,a=some ⟨b,o,none⟩∧b < w.heap.size∧xs[i]?=some x∧w.cell? ⟨b,o+i,none⟩=some (enc x):=by
 rcases h with h | ⟨b,o,ha,hb,hc⟩
 ·subst h; simp at hi
 ·exact ⟨b,o,xs[i],ha,hb,Ac hi,hc i _ (Ac hi)⟩
abbrev iv:Int→Value:=fun n=>.int .i64 n
abbrev sv:Int→Value:=fun n=>.string (tx n)
def J2 {α:Type} (w:World) (g:Nat) (cap:Array Value) (enc:α→Value) (p:α→Bool) (xs:List α):Prop :=
 ∀ x W,x ∈ xs→Fr w W→Calls Tryz.prog g (#[enc x] ++ cap) W fun e W'=>e=.returned (.bool (p x))∧Fr W W'
def Pb {α:Type} (p:α→Bool) (xs:List α):Int:=match xs.findIdx? p with | some i=>i | none=>-1
theorem JN {α:Type} {p:α→Bool} {xs:List α} {k:Nat} {x:α} (h:∀ j x,j < k→xs[j]?=some x→p x=false) (hx:xs[k]?=some x) (hp:p x=false) :
 Hid (∀ j x,j < k+1→xs[j]?=some x→p x=false):=fun j y hj hy=>by
 by_cases e:j=k
 ·subst e; rw [hx] at hy; injection hy with hy; rw [← hy]; exact hp
 ·exact h j y (by omega) hy
theorem IA {α:Type} {p:α→Bool} {xs:List α} {k:Nat} {x:α} (h:∀ j x,j < k→xs[j]?=some x→p x=false) (hx:xs[k]?=some x) (hp:p x=true):Pb p xs=k:=by
 unfold Pb
 have hk:k < xs.length:=(Ag.1 hx).1
 have:xs.findIdx? p=some k:=by
  rw [Gr]
  refine ⟨hk, ?_,fun j hj=>?_⟩
  ·rw [(Ag.1 hx).2]; exact hp
  ·rw [h j _ hj (Ac (by omega))]; simp
 rw [this]
theorem JO {α:Type} {p:α→Bool} {xs:List α} (h:∀ j x,j < xs.length→xs[j]?=some x→p x=false):Pb p xs=-1:=by
 unfold Pb
 have:xs.findIdx? p=none:=by
  rw [J7]
  intro x hx
  obtain ⟨i,hi,e⟩:=FS hx
  exact h i x hi (by rw [Ac hi,e])
 rw [this]
theorem OB {α:Type} (p:α→Bool) (xs:List α):decide (0≤Pb p xs)=xs.any p:=by
 unfold Pb
 cases e:xs.findIdx? p with
 | none=>
   rw [J7] at e
   have:xs.any p=false:=Cu.2 (fun x hx=>by simp [e x hx])
   rw [this]; rfl
 | some i=>
   obtain ⟨h,hp,_⟩:=Gr.1 e
   have:xs.any p=true:=List.any_eq_true.2 ⟨xs[i],AJ h,hp⟩
   rw [this]; simp
theorem G6 {α:Type} (p:α→Bool) (xs:List α):(Pb p xs=-1∧∀ x,x ∈ xs→p x=false)∨∃ (k:Nat) (x:α),Pb p xs=k∧xs[k]?=some x∧p x=true∧∀ j y,j < k→xs[j]?=some y→p y=false:=by
 unfold Pb
 cases e:xs.findIdx? p with
 | none=>
   rw [J7] at e
   exact .inl ⟨rfl,e⟩
 | some i=>
   obtain ⟨h,hp,hq⟩:=Gr.1 e
   refine .inr ⟨i,xs[i],rfl,Ac h,hp,fun j y hj hy=>?_⟩
   have:=hq j hj
   obtain ⟨h2,rfl⟩:=Ag.1 hy
   simpa using this
theorem IX (xs:List Int) (a:Option Addr) (cap:Nat) (g:Nat) (lb:Array Value) (p:Int→Bool) (w:World)
 (eg:∀ args w,(callFunc g args).run Tryz.prog w=.ok (.enter g args) w) (hx:El w iv a xs) (hl:xs.length≤1000000000) (hp:J2 w g lb iv p xs) :
 Calls Tryz.prog 93 #[.slice a xs.length cap,.func (.func g) #[] lb] w fun e w'=>e=.returned (.int .i64 (Pb p xs))∧Fr w w':=by
 go_enter Tryz.func93,Tryz.ntmps93
 go_wp2
 go_loopw [5,8] (fun _ s8 wr=>∃ k:Nat,s8=.int .i64 k∧k≤xs.length∧Fr w wr∧Hid (∀ j x,j < k→xs[j]?=some x→p x=false)) (fun _ s8 _=>xs.length - (RowKit.intOf s8).toNat)
 case atStart=>exact ⟨0,rfl,Cp _,Fr.refl _,fun j x h=>absurd h (A3 _)⟩
 case round=>
  obtain ⟨k,rfl,hk,hf,hb⟩:=hrel
  by_cases hlt:k < xs.length
  ·obtain ⟨b,o,x,rfl,hbl,hxk,hcell⟩:=(hx.fr hf).at hlt
   have hpx:=hp x wr (Af hxk) hf
   have hxk:=hZ hxk
   go_wp2_with fail
   refine hpx.mono ?_
   rintro e w1 ⟨rfl,hf1⟩
   go_wp2_with fail
   ·have hpt:p x=true:=by assumption
    go_ret
    exact ⟨CC (IA hb.out hxk.out hpt).symm,hf.trans hf1⟩
   ·have hpf:p x=false:=by assumption
    go_roundw
    case rel=>exact ⟨k+1,by go_num,by omega,hf.trans hf1,JN hb.out hxk.out hpf⟩
    case measure=>simp [RowKit.intOf]; omega
  ·go_wp2_with fail
   go_ret
   exact ⟨CC (JO (by rw [show xs.length=k by omega]; exact hb.out)).symm,hf⟩
theorem Hg (xs:List Int) (a:Option Addr) (cap:Nat) (g:Nat) (lb:Array Value) (p:Int→Bool) (w:World)
 (eg:∀ args w,(callFunc g args).run Tryz.prog w=.ok (.enter g args) w) (hx:El w iv a xs) (hl:xs.length≤1000000000) (hp:J2 w g lb iv p xs) :
 Calls Tryz.prog 53 #[.slice a xs.length cap,.func (.func g) #[] lb] w fun e w'=>e=.returned (.bool (xs.any p))∧Fr w w':=by
 rw [← OB]
 have hc:=IX xs a cap g lb p w eg hx hl hp
 clear hp
 go_enter Tryz.func53,Tryz.ntmps53
 go_wp2_with fail
 refine hc.mono ?_
 rintro e w' ⟨rfl,hf⟩
 go_wp2_with fail
 go_ret
 exact ⟨rfl,hf⟩
end Go.Proofs.YtiniigadkknboaaGreatDoor
