/- Contracts and laws: GAA. -/
import Derived.Lib.AtoiAll
import Derived.Lib.ItoaLen
import Derived.Lib.ItoaMem
import Derived.Lib.ParseIntB
import GoSem.Op.String
import Derived.Laws.Strings
import Derived.Test.YtiniigadkknboaaGreatDoorProg
import Derived.WalkKit
import Derived.WalkLawsBesides
import Derived.WalkSpells
import Derived.Outline
import Derived.Lib.Hide
import Derived.BigQuiet
import Derived.Deep.QuietTactic
import Derived.Lib.LaidTab
import Derived.Test.YtiniigadkknboaaGreatDoorShelf
import Derived.Lib.AtoiErrMem
import Derived.Lib.ParseIntBTie
import Derived.LoopTactic

set_option maxHeartbeats 400000
namespace Go.Proofs.YtiniigadkknboaaGreatDoor
open Go.Lib
theorem hZ {p:Prop} (h:p):Go.RowKit.Hid p:=h
abbrev Aa:=@decide_eq_false
abbrev Ab:=@decide_eq_true
abbrev Ac:=@List.getElem?_eq_getElem
abbrev Ad:=@World.cell?_setCell_other
abbrev Ae:=@List.getElem?_eq_some_iff
abbrev Af:=@List.mem_of_getElem?
abbrev Ag:=@if_neg
abbrev Ah:=@Nat.le_refl
abbrev Ai:=@if_pos
abbrev Aj:=@Int.natCast_nonneg
abbrev Ak:=@IntWalk.i64_in
abbrev Al:=@World.cell?_setCell_same'
abbrev Am:=@World.frozen?_setCell
abbrev An:=@List.length_map
abbrev Ao:=@List.take_of_length_le
abbrev Ap:=@List.setIfInBounds_toArray
abbrev Aq:=@Nat.lt_of_lt_of_le
abbrev Ar:=@List.length_append
abbrev As:=@Nat.le_trans
abbrev At:=@List.getElem?_map
abbrev Au:=@List.set_cons_zero
abbrev Av:=@List.length_take
abbrev Aw:=@List.length_cons
abbrev Ay:=@List.map_append
abbrev Az:=@World.ownsRow.alloc
abbrev AA:=@List.set_cons_succ
abbrev AB:=@Classical.byContradiction
abbrev AD:=@Nat.mul_le_mul
abbrev AE:=@List.all_eq_true
abbrev AF:=@World.size_alloc
abbrev AG:=@List.getElem_mem
abbrev AH:=@IntWalk.u64_in
abbrev AJ:=@Int.natAbs_natCast
abbrev AL:=@of_decide_eq_true
abbrev AM:=@Int.natCast_mul
abbrev AN:=@Nat.zero_add
abbrev AO:=@List.length_replicate
abbrev AP:=@bodyPost_ret
abbrev AQ:=@List.drop_eq_nil_of_le
abbrev AR:=@Int.toNat_natCast
abbrev AU:=@Nat.mul_le_mul_right
abbrev AW:=@Decidable.byContradiction
abbrev AX:=@List.mem_singleton
abbrev AY:=@Option.bind_eq_some_iff
abbrev AZ:=@info_parts
abbrev A0:=@List.length_set
abbrev A2:=@beq_false_of_ne
abbrev A3:=@List.getElem?_eq_none
abbrev A4:=@Nat.lt_of_le_of_lt
abbrev A6:=@World.block_lt_of_cell?
abbrev A8:=@Array.getElem?_eq_some_iff
abbrev Ba:=@Int.mul_le_mul_of_nonneg_right
abbrev Bb:=@Nat.mul_le_mul_left
abbrev Bc:=@List.mem_map
abbrev Bd:=@List.append_assoc
abbrev Be:=@Int.natAbs_mul
abbrev Bf:=@List.eq_nil_of_length_eq_zero
abbrev Bi:=@List.getElem?_append_right
abbrev Bj:=@Nat.not_lt_zero
abbrev Bl:=@World.ownsRow_nil
abbrev Bm:=@Bool.and_eq_true
abbrev Bp:=@List.getElem?_take
abbrev Br:=@Nat.pow_succ
abbrev Bs:=@bne_iff_ne
abbrev Bt:=@List.getElem?_append_left
abbrev Bu:=@List.mem_cons
abbrev BB:=@Option.getD_some
abbrev BC:=@List.mem_cons_self
abbrev BD:=@List.mem_append
abbrev BE:=@List.append_nil
abbrev BF:=@Nat.div_div_eq_div_mul
abbrev BH:=@List.mem_range
abbrev BI:=@List.mem_cons_of_mem
abbrev BJ:=@List.getElem?_of_mem
abbrev BL:=@List.size_toArray
abbrev BO:=@Option.map_eq_some_iff
abbrev BP:=@Nat.pow_le_pow_right
abbrev BR:=@Int.mul_nonneg
abbrev BU:=@List.mem_iff_getElem?
abbrev BZ:=@List.mem_of_mem_take
abbrev B0:=@Int.mul_zero
abbrev B7:=@List.eq_of_mem_replicate
abbrev Cb:=@Nat.div_lt_iff_lt_mul
abbrev Cc:=@List.getElem?_replicate
abbrev Ce:=@Int.lt_trichotomy
abbrev Cf:=@List.mem_or_eq_of_mem_set
abbrev Ch:=@Nat.le_of_lt
abbrev Cj:=@beq_eq_false_iff_ne
abbrev Ck:=@Nat.zero_le
abbrev Co:=@List.length_range
abbrev Cp:=@List.getElem?_set
abbrev Cy:=@List.length_pos_iff
abbrev CB:=@heap_alloc_new
abbrev CE:=@Nat.mod_lt
abbrev CG:=@Option.bind_some
abbrev CH:=@Nat.mod_eq_of_lt
abbrev CI:=@Nat.add_sub_cancel_left
abbrev CJ:=@List.length_drop
abbrev CK:=@Int.natAbs_of_nonneg
abbrev CO:=@List.any_eq_false
abbrev CP:=@Int.fmod_nonneg_of_pos
abbrev CQ:=@getD_set_ne
abbrev CR:=@Int.natCast_add
abbrev CX:=@Int.lt_or_gt_of_ne
abbrev CY:=@callsIn_wide
abbrev CZ:=@Int.zero_mul
abbrev C1:=@Nat.pow_add
abbrev C8:=@List.getElem?_singleton
abbrev Da:=@Option.some.inj
abbrev Db:=@Nat.min_eq_left
abbrev Dd:=@ByteArray.toList_eq
abbrev De:=@Array.length_toList
abbrev Di:=@Nat.mul_comm
abbrev Dk:=@wpList_make_full
abbrev Dl:=@World.cell?_drew
abbrev Dq:=@Int.tdiv_eq_ediv_of_nonneg
abbrev Dr:=@Int.natAbs_neg
abbrev Dx:=@List.drop_eq_getElem_cons
abbrev DA:=@Nat.div_le_self
abbrev DB:=@Nat.div_add_mod
abbrev DC:=@List.length_nil
abbrev DD:=@Nat.sub_zero
abbrev DF:=@Nat.gcd_comm
abbrev DG:=@Nat.add_zero
abbrev DH:=@List.take_add_one
abbrev DI:=@List.ext_getElem?
abbrev DJ:=@Array.replicate_zero
abbrev DK:=@Array.replicate_succ
abbrev DR:=@ready_mono
abbrev DS:=@Array.setIfInBounds_comm
abbrev D4:=@List.append_toArray
abbrev D7:=@mem_ready
abbrev D8:=@List.filter_cons_of_pos
abbrev Ea:=@Int.natCast_ediv
abbrev Em:=@Nat.pow_zero
abbrev En:=@List.map_replicate
abbrev Ew:=@wpList_make_own
abbrev Ex:=@List.nil_append
abbrev Ey:=@enters_of
abbrev EJ:=@List.take_append_drop
abbrev EK:=@List.push_toArray
abbrev E7:=@Nat.pow_pos
abbrev E8:=@Nat.one_mul
abbrev E9:=@Nat.div_one
abbrev Fa:=@List.drop_zero
abbrev Fk:=@List.map_set
abbrev Fl:=@List.drop_length
abbrev Fm:=@List.cons_append
abbrev Fn:=@Int.mul_comm
abbrev Fs:=@List.replicate_succ
abbrev FI:=@Int.mul_eq_zero
abbrev FS:=@List.zip_cons_cons
abbrev FT:=@Int.mul_nonneg_of_nonpos_of_nonpos
abbrev FV:=@Nat.mul_one
abbrev FW:=@Nat.le_mul_of_pos_right
abbrev FY:=@List.filter_cons_of_neg
abbrev FZ:=@List.findIdx?_eq_some_iff_getElem
abbrev Gf:=@Nat.add_comm
abbrev Gg:=@List.getElem?_set_self
abbrev Gh:=@Int.add_zero
abbrev Gi:=@Bool.not_eq_true'
abbrev Gj:=@Act.put_comm
abbrev GP:=@Nat.le_div_iff_mul_le
abbrev GQ:=@List.getElem?_zipWith
abbrev GR:=@Int.mul_fdiv_add_fmod
abbrev GS:=@Int.emod_add_mul_ediv
abbrev GT:=@ByteArray.size_append
abbrev Hd:=@Nat.div_eq_of_lt
abbrev Hk:=@Region.noSelect_spec
abbrev Hl:=@Nat.add_mul
abbrev Hm:=@Array.size_replicate
abbrev H4:=@Nat.div_mul_le_self
abbrev H5:=@List.map_eq_nil_iff
abbrev H6:=@List.getElem_of_mem
abbrev Ia:=@results_none
abbrev Ib:=@Int.le_of_lt
abbrev IC:=@List.getElem?_drop
abbrev ID:=@Int.tmod_eq_emod_of_nonneg
abbrev IE:=@Int.fmod_lt_of_pos
abbrev Jn:=@List.findIdx?_eq_none_iff
abbrev Jo:=@Int.mul_neg_of_pos_of_neg
abbrev Jp:=@Int.mul_neg_of_neg_of_pos
abbrev Jr:=@decide_eq_true_eq
abbrev Js:=@List.foldl_append
abbrev Jt:=@List.all_eq_false
abbrev Ju:=@Int.le_refl
abbrev JZ:=@Nat.lt_irrefl
abbrev J0:=@List.map_cons
abbrev J2:=@Bool.false_or
abbrev Ku:=@beq_self_eq_true
abbrev Kv:=@Region.free_spec
abbrev Kw:=@Nat.mul_lt_mul''
abbrev Kx:=@List.take_length
abbrev Ky:=@List.length_eq_zero_iff
abbrev Kz:=@List.getElem?_cons_succ
abbrev KC:=@Int.natCast_emod
abbrev LZ:=@Nat.sub_self
abbrev L3:=@Nat.le_mul_of_pos_left
abbrev L4:=@List.map_nil
abbrev L5:=@Int.fdiv_one
abbrev L6:=@Array.getElem?_eq_none
abbrev Mc:=@Option.map_some
abbrev Md:=@Oper.semAt_some
abbrev Me:=@List.range_succ
abbrev Ms:=@UInt8.lt_iff_toNat_lt
abbrev Mt:=@List.length_singleton
abbrev Mu:=@List.length_filter_le
abbrev N9:=@List.take_zero
abbrev Oa:=@List.mem_of_mem_drop
abbrev Ob:=@Int.ofNat_tdiv
abbrev Oc:=@Int.mul_add
abbrev Od:=@Calls.quiet_of
abbrev PV:=@Array.toList_append
abbrev P0:=@Nat.mul_assoc
abbrev P1:=@List.take_nil
abbrev P2:=@IntWalk.u8_in
abbrev P3:=@Int.mul_assoc
abbrev QS:=@of_decide_eq_false
abbrev QT:=@World.frozen?_drew
abbrev QU:=@Rat.num_divInt_den
abbrev QV:=@Nat.pos_of_ne_zero
abbrev QW:=@Nat.gcd_zero_right
abbrev QX:=@Nat.eq_zero_or_pos
abbrev QY:=@List.mem_replicate
abbrev QZ:=@List.filter_append
abbrev Q0:=@Int.tmod_lt_of_pos
abbrev Q1:=@Int.mul_nonpos_of_nonpos_of_nonneg
abbrev Q2:=@Int.emod_lt_of_pos
abbrev Tf:=@cell_one_new
abbrev Th:=@Nat.lt_trichotomy
abbrev Ti:=@List.take_succ_eq_append_getElem
abbrev VK:=@List.ext_getElem
abbrev VL:=@List.any_eq_true
abbrev VQ:=@Int.mul_one
abbrev VR:=@Int.mul_le_mul_of_nonneg_left
abbrev VS:=@Int.add_mul
abbrev WS:=@List.prefix_rfl
abbrev WT:=@List.length_zip
abbrev WU:=@List.foldl_cons
abbrev WV:=@List.all_append
abbrev WW:=@Int.tmod_nonneg
abbrev WX:=@Int.emod_nonneg
abbrev Xu:=@Int.sign_eq_neg_one_iff_neg
abbrev X8:=@wp_loop_rounds
abbrev X9:=@Nat.sub_le
abbrev Ya:=@Nat.mod_le
abbrev Yb:=@List.take_take
abbrev Yc:=@List.take_left
abbrev Yd:=@List.getD_eq_getElem?_getD
abbrev Ye:=@List.exists_cons_of_ne_nil
abbrev Yf:=@Int.natAbs_sign_of_ne_zero
abbrev Yg:=@Int.fdiv_eq_ediv_of_nonneg
abbrev Yh:=@DataW.trod_int
abbrev Y0:=@callsIn_of_wp
abbrev Y1:=@WideMaps.keyOf_string_mk
abbrev Y2:=@Nat.gcd_pos_of_pos_right
abbrev Y3:=@List.map_take
abbrev Zc:=@wpOp_mono
abbrev Zd:=@Int.tdiv_eq_ediv_of_dvd
abbrev Ze:=@Int.eq_ofNat_of_zero_le
abbrev Zp:=@run_convert_bytes_back
abbrev Zq:=@List.map_map
abbrev Zr:=@List.drop_of_length_le
abbrev Zs:=@Int.ofNat_le
abbrev Zt:=@Int.neg_tdiv
abbrev Zu:=@ByteArray.size_extract
abbrev Zv:=@ByteArray.data_extract
abbrev Zy:=@Rat.divInt_mul_divInt
abbrev Zz:=@List.singleton_append
abbrev ZA:=@Int.mul_tdiv_add_tmod
abbrev ZB:=@Int.fdiv_fmod_unique'
abbrev ZC:=@ByteArray.data_append
abbrev ZD:=@Array.mem_of_getElem?
abbrev ZI:=@rounds_succ
abbrev ZJ:=@nDigits_pos
abbrev ZK:=@if_false
abbrev ZL:=@Nat.mul_pos
abbrev ZM:=@Nat.le_sub_one_of_lt
abbrev ZN:=@Nat.gcd_rec
abbrev ZO:=@Nat.div_pos
abbrev ZP:=@List.getElem?_set_ne
abbrev ZQ:=@Lib.decDigits_length
abbrev ZR:=@Lib.byteCells_length
abbrev ZS:=@Lib.byteCells_append
abbrev ZT:=@Int.fdiv_fmod_unique
abbrev ZU:=@Array.toList_extract
abbrev ZV:=@List.take_set_of_le
abbrev ZW:=@List.flatMap_append
abbrev ZX:=@List.drop_set_of_lt
abbrev ZY:=@Bool.or_eq_true_iff
def tx (n:Int):ByteArray:=⟨(itoa n).toArray⟩
def Bh (acc:Nat):List UInt8→Nat
 | []=>acc
 | c :: r=>Bh (acc * 10+(c.toNat - 48)) r
theorem Ee (l m:List UInt8) (a:Nat):Bh a (l ++ m)=Bh (Bh a l) m:=by
 induction l generalizing a with
 | nil=>rfl
 | cons c r ih=>exact ih _
theorem EX (k:Nat) (h:k < 10):(UInt8.ofNat (48+k)).toNat=48+k:=by
 rw [UInt8.toNat_ofNat']
 exact CH (Aq (show 48+k < 58 by omega) (by decide))
theorem B5 (u:Nat):Bh 0 (decDigits u)=u:=by
 induction u using Nat.strongRecOn with
 | _ u ih=>
   by_cases h:u < 10
   ·rw [decDigits,dif_pos h]
    show 0 * 10+((UInt8.ofNat (48+u)).toNat - 48)=u
    rw [EX u h]; omega
   ·rw [decDigits,dif_neg h,Ee,ih (u / 10) (by omega)]
    show u / 10 * 10+((UInt8.ofNat (48+u % 10)).toNat - 48)=u
    rw [EX (u % 10) (by omega)]; omega
theorem B6 (u:Nat):∀ c ∈ decDigits u,48≤c.toNat∧c.toNat≤57:=by
 induction u using Nat.strongRecOn with
 | _ u ih=>
   by_cases h:u < 10
   ·rw [decDigits,dif_pos h]; intro c hc
    simp only [AX] at hc; subst hc; rw [EX u h]; omega
   ·rw [decDigits,dif_neg h]; intro c hc
    rcases BD.1 hc with hc | hc
    ·exact ih (u / 10) (by omega) c hc
    ·simp only [AX] at hc; subst hc; rw [EX (u % 10) (by omega)]; omega
theorem EY (u:Nat):decDigits u≠[]:=by
 intro h
 have:=decDigits_length u
 rw [h] at this
 have:=ZJ u
 simp at *; omega
theorem RL {u v:Nat} (h:decDigits u=decDigits v):u=v:=by
 have:=B5 u; rw [h,B5] at this; exact this.symm
theorem Uu {n m:Int} (h:itoa n=itoa m):n=m:=by
 unfold itoa at h
 have hd:∀ u c r,decDigits u=c :: r→48≤c.toNat:=fun u c r e=>(B6 u c (by rw [e]; simp)).1
 split at h <;> split at h
 ·injection h with _ h; have:=RL h; omega
 ·have:=hd _ _ _ h.symm; simp at this
 ·have:=hd _ _ _ h; simp at this
 ·have:=RL h; omega
theorem Fy (n:Int):(tx n).data.toList=itoa n:=by simp [tx]
theorem Do (n:Int):(tx n).size=(itoa n).length:=by simp [tx,ByteArray.size]
theorem BV {n:Int} (h:0≤n):itoa n=decDigits n.toNat:=by unfold itoa; rw [Ag (by omega)]
theorem Fd {n:Int} (h:n < 0):itoa n=45 :: decDigits n.natAbs:=by unfold itoa; rw [Ai h]
theorem I7 (n:Int):0 < (itoa n).length:=by
 by_cases h:n < 0
 ·rw [Fd h]; simp
 ·rw [BV (by omega)]; exact Cy.2 (EY _)
theorem Hr (n:Int):0 < (tx n).size:=by rw [Do]; exact I7 n
theorem G4 (k u:Nat) (hk:1≤k) (h:u < 10 ^ k):nDigits u≤k:=by
 induction k generalizing u with
 | zero=>omega
 | succ k ih=>
   by_cases h9:u < 10
   ·rw [nDigits_small h9]; omega
   ·rw [nDigits_big h9]
    by_cases hk0:k=0
    ·subst hk0; simp at h; omega
    ·have:=ih (u / 10) (by omega) (by rw [Br] at h; omega)
     omega
theorem Cl (k:Nat) (n:Int) (hk:1≤k) (h:n.natAbs < 10 ^ k):(tx n).size≤k+1:=by
 rw [Do]
 by_cases h0:n < 0
 ·rw [Fd h0]; have:=G4 k n.natAbs hk h; simp [decDigits_length]; omega
 ·rw [BV (by omega),decDigits_length]
  have:=G4 k n.toNat hk (by omega); omega
theorem Tr {n:Int} {c:UInt8} {r:List UInt8} (h:itoa n=c :: r) (hp:0 < (tx n).size):(tx n)[0]'hp=c:=by
 have e:(tx n).data=(c :: r).toArray:=by simp [tx,h]
 show (tx n).data[0]=c
 simp [e]
theorem FM {n:Int} (h:n < 0) (hp:0 < (tx n).size):((((tx n)[0]'hp).toNat:Int) == 45)=true:=by
 rw [Tr (Fd h) hp]; rfl
theorem FL {n:Int} (h:0≤n) (hp:0 < (tx n).size):((((tx n)[0]'hp).toNat:Int) == 45)=false:=by
 cases e:itoa n with
 | nil=>have:=I7 n; rw [e] at this; simp at this
 | cons c r=>
   rw [Tr e hp]
   have e2:=BV h
   have:=(B6 n.toNat c (by rw [← e2,e]; simp)).1
   simp; omega
theorem NY {a b:ByteArray} (h:a.data.toList=b.data.toList):a=b:=by
 cases a; cases b; congr; exact Array.toList_inj.1 h
theorem IJ {n:Int} (h:n < 0):(tx n).extract 1 (tx n).size=tx (-n):=by
 refine NY ?_
 have h1:itoa n=45 :: itoa (-n):=by
  rw [Fd h,BV (by omega)]; congr 2; omega
 rw [Fy,Zv,ZU]
 have e:(tx n).data.toList=45 :: itoa (-n):=by rw [Fy,h1]
 have e2:(tx n).size=(itoa (-n)).length+1:=by rw [Do,h1]; rfl
 rw [e,e2]; simp [List.extract]
theorem Nl {n:Int} (h:0 < n):(⟨#[45]⟩:ByteArray) ++ tx n=tx (-n):=by
 refine NY ?_
 rw [Fy,Fd (by omega),ZC,PV,Fy,BV (by omega)]
 simp; congr 1; omega
theorem HP:tx 0=⟨#[48]⟩:=by decide +kernel
theorem Fo:tx 1=⟨#[49]⟩:=by decide +kernel
theorem Hg:∀ (l:List UInt8) (acc:Nat),(∀ c ∈ l,48≤c.toNat∧c.toNat≤57)→Bh acc l < 18446744073709551616→parseUint10 acc l=.ok (Bh acc l)
 | [],acc,_,_=>rfl
 | c :: r,acc,hd,hb=>by
   have hc:=hd c (by simp)
   have mono:∀ (l:List UInt8) (a:Nat),a≤Bh a l:=by
    intro l; induction l with
    | nil=>intro a; exact Ah _
    | cons x l ih=>intro a; exact As (by omega) (ih (a * 10+(x.toNat - 48)))
   have hb:Bh (acc * 10+(c.toNat - 48)) r < 18446744073709551616:=hb
   show _=NumEnd.ok (Bh (acc * 10+(c.toNat - 48)) r)
   have hm:=mono r (acc * 10+(c.toNat - 48))
   rw [parseUint10,Ai hc,Ag (by omega),Ag (by omega)]
   exact Hg r _ (fun x hx=>hd x (by simp [hx])) hb
theorem I1 (u:Nat) (h:u < 18446744073709551616):parseMag (decDigits u)=.ok u:=by
 unfold parseMag
 rw [Ag (EY u),Hg _ _ (B6 u) (by rw [B5]; exact h),B5]
theorem Jf (n:Int) (h0:-9223372036854775808≤n) (h1:n≤9223372036854775807):atoiAll (tx n).data.toList=.ok n:=by
 rw [Fy]
 by_cases h:n < 0
 ·rw [Fd h]
  simp only [atoiAll]
  rw [Ai (by right; rfl),I1 _ (by omega)]
  have e45:(45:UInt8).toNat=45:=rfl
  simp only [e45,not_true_eq_false,false_and,ZK,true_and,if_true]
  rw [Ag (by omega)]
  congr 1; omega
 ·have e:=BV (n:=n) (by omega)
  rw [e]
  cases ed:decDigits n.toNat with
  | nil=>exact absurd ed (EY _)
  | cons c r=>
    have hc:=B6 n.toNat c (by rw [ed]; simp)
    have hp:=I1 n.toNat (by omega)
    rw [ed] at hp
    simp only [atoiAll]
    rw [Ag (by omega),hp]
    have h45:¬ c.toNat=45:=by omega
    simp only [h45,not_false_eq_true,true_and,false_and,ZK]
    rw [Ag (by omega)]
    congr 1; omega
theorem Cr:∀ (l:List UInt8) (a:Nat),(∀ c ∈ l,48≤c.toNat∧c.toNat≤57)→a * 10 ^ l.length≤Bh a l∧Bh a l < (a+1) * 10 ^ l.length
 | [],a,_=>⟨by show a * 1≤a; omega,by show a < (a+1) * 1; omega⟩
 | c :: r,a,h=>by
   have hc:=h c (by simp)
   obtain ⟨h1,h2⟩:=Cr r (a * 10+(c.toNat - 48)) (fun x hx=>h x (by simp [hx]))
   have e:(c :: r).length=r.length+1:=rfl
   have q1:a * 10 ^ (r.length+1)=(a * 10) * 10 ^ r.length:=by rw [Br,Di (10 ^ r.length) 10,← P0]
   have q2:(a+1) * 10 ^ (r.length+1)=(a * 10+10) * 10 ^ r.length:=by rw [Br,Di (10 ^ r.length) 10,← P0,Hl a 1 10]
   rw [e,q1,q2]
   exact ⟨As (AU _ (by omega)) h1,Aq h2 (AU _ (by omega))⟩
theorem OV:∀ (l m:List UInt8) (a:Nat),(∀ c ∈ l,48≤c.toNat∧c.toNat≤57)→(∀ c ∈ m,48≤c.toNat∧c.toNat≤57)→l.length=m.length →
 Op.bytesLess l m=decide (Bh a l < Bh a m)
 | [],[],a,_,_,_=>by
   show false=decide (a < a); simp
 | [],_ :: _,_,_,_,h=>by simp at h
 | _ :: _,[],_,_,_,h=>by simp at h
 | c :: l,d :: m,a,hl,hm,h=>by
   have hc:=hl c (by simp)
   have hd:=hm d (by simp)
   have hl':∀ x ∈ l,48≤x.toNat∧x.toNat≤57:=fun x hx=>hl x (by simp [hx])
   have hm':∀ x ∈ m,48≤x.toNat∧x.toNat≤57:=fun x hx=>hm x (by simp [hx])
   have hlen:l.length=m.length:=by simpa using h
   obtain ⟨a1,a2⟩:=Cr l (a * 10+(c.toNat - 48)) hl'
   obtain ⟨b1,b2⟩:=Cr m (a * 10+(d.toNat - 48)) hm'
   show (decide (c < d) || (c == d && Op.bytesLess l m))=decide (Bh (a * 10+(c.toNat - 48)) l < Bh (a * 10+(d.toNat - 48)) m)
   rw [hlen] at a1 a2
   rcases Th c.toNat d.toNat with hlt | heq | hgt
   ·have e1:c < d:=Ms.2 hlt
    have:(a * 10+(c.toNat - 48)+1) * 10 ^ m.length≤(a * 10+(d.toNat - 48)) * 10 ^ m.length:=AU _ (by omega)
    rw [Ab e1,Bool.true_or]
    exact (Ab (Aq a2 (As this b1))).symm
   ·obtain rfl:c=d:=UInt8.toNat_inj.1 heq
    have e1:¬ c < c:=fun h=>JZ _ (Ms.1 h)
    rw [Aa e1,Ku,J2,Bool.true_and]
    exact OV l m _ hl' hm' hlen
   ·have e1:¬ c < d:=fun h=>by have:=Ms.1 h; omega
    have e2:(c == d)=false:=by
     rw [Cj]; intro h; rw [h] at hgt; omega
    have:(a * 10+(d.toNat - 48)+1) * 10 ^ m.length≤(a * 10+(c.toNat - 48)) * 10 ^ m.length:=AU _ (by omega)
    rw [Aa e1,e2,Bool.false_and,J2]
    refine (Aa ?_).symm
    have:=Aq b2 (As this a1)
    omega
theorem Uf (u v:Nat) (h:(decDigits u).length=(decDigits v).length):Op.bytesLess (decDigits u) (decDigits v)=decide (u < v):=by
 rw [OV _ _ 0 (B6 u) (B6 v) h,B5,B5]
theorem F6 (u:Nat) (h:2≤nDigits u):10 ^ (nDigits u - 1)≤u:=by
 induction u using Nat.strongRecOn with
 | _ u ih=>
   by_cases h9:u < 10
   ·rw [nDigits_small h9] at h; omega
   ·rw [nDigits_big h9]
    by_cases h2:2≤nDigits (u / 10)
    ·have:=ih (u / 10) (by omega) h2
     have e:nDigits (u / 10)+1 - 1=(nDigits (u / 10) - 1)+1:=by omega
     rw [e,Br]; omega
    ·have:=ZJ (u / 10)
     have e:nDigits (u / 10)=1:=by omega
     rw [e]; show 10 ^ 1≤u; omega
theorem Gv (u v:Nat) (h:nDigits u < nDigits v):u < v:=by
 have h1:=lt_pow_nDigits u
 have h2:=F6 v (by have:=ZJ u; omega)
 have h3:10 ^ nDigits u≤10 ^ (nDigits v - 1):=BP (by decide) (by omega)
 omega
theorem HQ (n:Int):(tx n).toList=itoa n:=by rw [Dd,Fy]
theorem Nn (n m:Int):((tx n).toList == itoa m)=decide (n=m):=by
 rw [HQ]
 by_cases h:n=m
 ·subst h; simp
 ·rw [Aa h]
  rw [Cj]; exact fun e=>h (Uu e)
theorem YE:itoa 0=[48]:=by decide +kernel
theorem Xd:itoa 1=[49]:=by decide +kernel
theorem Cn (n:Int):((tx n).toList == [48])=decide (n=0):=by rw [← YE]; exact Nn n 0
theorem Nm (n m:Int):((tx n).toList == (tx m).toList)=decide (n=m):=by rw [HQ m]; exact Nn n m
theorem Q5 (u v:Nat) (h:(tx u).size=(tx v).size):Op.bytesLess (tx u).toList (tx v).toList=decide (u < v):=by
 rw [Do,Do,BV (by omega),BV (by omega)] at h
 rw [HQ,HQ,BV (by omega),BV (by omega)]
 exact Uf u v h
theorem CL (u:Nat):(tx (u:Int)).size=nDigits u:=by
 rw [Do,BV (by omega),decDigits_length]; rfl
end Go.Proofs.YtiniigadkknboaaGreatDoor
namespace Go.Proofs.YtiniigadkknboaaGreatDoor
open Go.RowKit Go.Lib
def G (w : World) : Prop := TabIs Tryz.prog w "internal/strconv.uint64pow10" .u64 pow10Tab
def Fr (w w':World):Prop:=Below w.heap.size w w'
theorem Fr.refl (w:World):Fr w w:=Below.refl _ _
theorem Fr.of_eq {w w':World} (h:w=w'):Fr w w':=h ▸ Fr.refl w
theorem Fr.size {w w':World} (h:Fr w w'):w.heap.size≤w'.heap.size:=Below.size h
theorem Fr.trans {a b c:World} (h:Fr a b) (k:Fr b c):Fr a c:=Below.trans h (Below.mono k h.size)
theorem Fr.drew {a b:World} (h:Fr a b):Fr a b.drew:=Below.drew h
theorem Fr.drewN {a b:World} (h:Fr a b) (n:Nat):Fr a (b.drewN n) :=
 have h:Below a.heap.size a b:=h
 show Below a.heap.size a (b.drewN n) from ⟨h.os,h.tape,h.output,h.size,h.block⟩
theorem Fr.alloc {a b:World} (h:Fr a b) (o:Obj):Fr a (b.alloc o):=Below.alloc h h.size o
theorem Fr.setCell {a b:World} (h:Fr a b) {p:Addr} (hp:a.heap.size≤p.block) (u:Value):Fr a (b.setCell p u):=Below.setCell h hp u
theorem Fr.grown {a b c:World} {row:Option Nat} (h:Fr a b) (hg:b.grownBy c row) (hr:∀ k,row=some k→a.heap.size≤k):Fr a c :=
 Below.grown h hg h.size hr
theorem B9 {a b:World} (h:Fr a b:=by repeat (with_reducible first | assumption | exact Fr.refl _ | refine Fr.drew ?_ | refine Fr.drewN ?_ _ | refine Fr.alloc ?_ _ | (refine Fr.setCell ?_ (by simp only [AF,World.size_drew,World.size_setCell]; omega) _) | refine Fr.trans ?_ (by assumption))):Fr a b:=h
theorem Fr.cell {w w':World} (h:Fr w w') {p:Addr} (hp:p.block < w.heap.size):w'.cell? p=w.cell? p:=Below.cell h hp
theorem Fr.frozen {w w':World} (h:Fr w w') {p:Addr} (hp:p.block < w.heap.size):w'.frozen? p=w.frozen? p:=Below.frozen h hp
theorem Fr.keep {w w':World} (h:Fr w w') {p:Addr} {v:Value} (hc:w.cell? p=some v):w'.cell? p=some v:=by
 rw [h.cell (A6 w p hc)]; exact hc
theorem Fr.keepf {w w':World} (h:Fr w w') {p:Addr} {v:Value} {b:Bool} (hc:w.cell? p=some v) (hf:w.frozen? p=b):w'.frozen? p=b:=by
 rw [h.frozen (A6 w p hc)]; exact hf
def Qt (w w':World):Prop:=∃ n,w'=w.drewN n
theorem Qt.refl (w:World):Qt w w:=⟨0,rfl⟩
theorem Qt.trans {a b c:World} (h:Qt a b) (k:Qt b c):Qt a c:=by
 obtain ⟨n,rfl⟩:=h; obtain ⟨m,rfl⟩:=k; exact ⟨n+m,by simp [World.drewN,Nat.add_assoc]⟩
theorem Qt.drewN {a b:World} (h:Qt a b) (n:Nat):Qt a (b.drewN n):=h.trans ⟨n,rfl⟩
theorem Qt.drew {a b:World} (h:Qt a b):Qt a b.drew:=h.trans ⟨1,rfl⟩
theorem Qt.fr {w w':World} (h:Qt w w'):Fr w w':=by obtain ⟨n,rfl⟩:=h; exact (Fr.refl w).drewN n
theorem Tn {P:Program} {g:Nat} {W:World} {n:String} {cs:Array Value} (hg:P.globalNamed n=some g) (hv:W.var? P n=some cs):g < W.heap.size:=by
 unfold World.var? at hv
 simp only [hg,CG] at hv
 by_cases h:g < W.heap.size
 ·exact h
 ·rw [L6 (by omega)] at hv; simp at hv
theorem Ux : Tryz.prog.globalNamed "internal/strconv.uint64pow10" = some 2 := by kernel_rfl
theorem G.fr {w w':World} (h:G w) (k:Fr w w'):G w':=var?_below k Ux (Tn Ux h) h
theorem G.lt {w:World} (h:G w):2 < w.heap.size:=Tn Ux h
end Go.Proofs.YtiniigadkknboaaGreatDoor
namespace Go.Proofs.YtiniigadkknboaaGreatDoor
open Go.RowKit Go.Lib Go.Sort
theorem RA (w:World) (k:Nat) (os:Array Obj):Fr w (grow (w.drewN k) os):=
 (show Below w.heap.size w (grow (w.drewN k) os) from ⟨rfl,rfl,rfl,by simp [grow],fun i hi=>by simp [grow,Array.getElem?_append,hi]⟩)
theorem Lu {w w':World} {e:TypeId} (h:w'=w∨∃ t,w'=bytesWorld w e t):Fr w w':=by
 rcases h with rfl | ⟨t,rfl⟩
 ·exact Fr.refl _
 ·exact bytesWorld_below w e t
theorem EE (n:Int) (h0:-9223372036854775808≤n) (h1:n≤9223372036854775807) (w:World) (hG:G w) :
 Calls Tryz.prog 127 #[.int .i64 n] w fun e w'=>e=.returned (.string (tx n))∧Fr w w' :=
 (Tryz.strconv_Itoa n h0 h1 w hG).mono (by rintro e w' ⟨rfl,k,os,rfl⟩; exact ⟨rfl,RA _ _ _⟩)
theorem Pw (n:Int) (h0:-9223372036854775808≤n) (h1:n≤9223372036854775807) (w:World) :
 Calls Tryz.prog 170 #[.string (tx n)] w fun e w'=>e=.returned (.tuple #[.int .i64 n,.nilIface])∧Fr w w' :=
 (Tryz.strconv_Atoi_ok (tx n) (by have:=Cl 19 n (by omega) (by omega); omega) n (Jf n h0 h1) w).mono (by rintro e w' ⟨rfl,h⟩; exact ⟨rfl,Lu h⟩)
theorem Cs (n:Int) (h0:-9223372036854775808≤n) (h1:n≤9223372036854775807) (w:World) (hG:G w) :
 Calls Tryz.prog 96 #[.int .i64 n] w fun e w'=>e=.returned (.string (tx n))∧Fr w w':=by
 go_enter Tryz.func96,Tryz.ntmps96
 go_wp2_with (go_at_call 127; refine (EE _ h0 h1 _ hG).mono ?_; rintro e w' ⟨rfl,hf⟩)
 go_ret
 exact ⟨rfl,hf⟩
theorem Gm (n:Int) (hn:n < 0) (w:World) (hs:(tx n).size≤1000000000) :
 Calls Tryz.prog 144 #[.string (tx n)] w fun e w'=>e=.returned (.tuple #[.bool true,.string (tx (-n))])∧Qt w w':=by
 have h1:=Hr n
 have h2:=FM hn h1
 have h3:=hZ (IJ hn)
 generalize tx n=s at *
 go_enter Tryz.func144,Tryz.ntmps144
 go_wp2
 go_quiet (fail)
 go_wp2
 go_ret2
 exact ⟨by rw [h3.out]; rfl,by repeat (with_reducible first | assumption | exact Qt.refl _ | refine Qt.drew ?_ | refine Qt.drewN ?_ _ | refine Qt.trans ?_ (by assumption))⟩
theorem TJ (n:Int) (hn:n < 0) (w:World) (hs:(tx n).size≤1000000000) :
 Calls Tryz.prog 144 #[.string (tx n)] w fun e w'=>e=.returned (.tuple #[.bool true,.string (tx (-n))])∧Fr w w' :=
 (Gm n hn w hs).mono fun _ _ ⟨h,k⟩=>⟨h,k.fr⟩
theorem Gl (n:Int) (hn:0≤n) (w:World) (_hs:(tx n).size≤1000000000) :
 Calls Tryz.prog 144 #[.string (tx n)] w fun e w'=>e=.returned (.tuple #[.bool false,.string (tx n)])∧Qt w w':=by
 have h1:=Hr n
 have h2:=FL hn h1
 generalize tx n=s at *
 go_enter Tryz.func144,Tryz.ntmps144
 go_wp2
 go_ret2
 exact ⟨rfl,Qt.refl _⟩
theorem TH (n:Int) (hn:0≤n) (w:World) (_hs:(tx n).size≤1000000000) :
 Calls Tryz.prog 144 #[.string (tx n)] w fun e w'=>e=.returned (.tuple #[.bool false,.string (tx n)])∧Fr w w' :=
 (Gl n hn w _hs).mono fun _ _ ⟨h,k⟩=>⟨h,k.fr⟩
theorem Du (b:Bool) (n:Int) (hn:0≤n) (w:World) (_hs:(tx n).size≤1000000000) :
 Calls Tryz.prog 145 #[.bool b,.string (tx n)] w fun e w'=>e=.returned (.string (tx (if b then -n else n)))∧w=w':=by
 cases b
 ·go_enter Tryz.func145,Tryz.ntmps145
  go_wp2
  go_ret
  exact ⟨by simp,rfl⟩
 ·by_cases h:n=0
  ·have hb:((tx n).toList == [48])=true:=by rw [Cn]; simp [h]
   have hh:=hZ h; clear h
   go_enter Tryz.func145,Tryz.ntmps145
   go_wp2
   go_ret
   exact ⟨by rw [hh.out]; rfl,rfl⟩
  ·have hb:((tx n).toList == [48])=false:=by rw [Cn]; simp [h]
   have hj:=hZ (Nl (n:=n) (by omega)); clear h
   go_enter Tryz.func145,Tryz.ntmps145
   go_wp2
   go_ret
   exact ⟨by rw [hj.out]; rfl,rfl⟩
theorem BX (n most:Int) (h0:-9223372036854775808≤n) (h1:n≤9223372036854775807) (w:World) (hs:((tx n).size:Int)≤most) :
 Calls Tryz.prog 143 #[.string (tx n),.int .i64 most] w fun e w'=>e=.returned (.tuple #[.int .i64 n,.bool true])∧Fr w w':=by
 go_enter Tryz.func143,Tryz.ntmps143
 go_wp2_with (go_at_call 170; refine (Pw _ h0 h1 _).mono ?_; rintro e w' ⟨rfl,hf⟩)
 go_quiet (fail)
 go_wp2
 go_ret2
 exact ⟨rfl,by exact B9⟩
theorem Su (n most:Int) (w:World) (hs:most < ((tx n).size:Int)) (_hb:(tx n).size≤1000000000) :
 Calls Tryz.prog 143 #[.string (tx n),.int .i64 most] w fun e w'=>e=.returned (.tuple #[.int .i64 0,.bool false])∧w=w':=by
 go_enter Tryz.func143,Tryz.ntmps143
 go_wp2
 go_ret2
 exact ⟨rfl,rfl⟩
theorem C7 (n:Int) (w:World) :
 Calls Tryz.prog 139 #[.string (tx n)] w fun e w'=>e=.returned (.int .i64 n.sign)∧w=w':=by
 have hp:=Hr n
 have hb:=Cn n
 rcases Ce n 0 with h | h | h
 ·have h2:=FM h hp
  rw [Aa (by omega)] at hb
  have hs:=hZ (Int.sign_eq_neg_one_of_neg h); clear h
  go_enter Tryz.func139,Tryz.ntmps139
  go_wp2
  go_ret
  exact ⟨by rw [hs.out]; rfl,rfl⟩
 ·rw [Ab h] at hb
  have hs:=hZ h; clear h
  go_enter Tryz.func139,Tryz.ntmps139
  go_wp2
  go_ret
  exact ⟨by rw [hs.out]; rfl,rfl⟩
 ·have h2:=FL (by omega) hp
  rw [Aa (by omega)] at hb
  have hs:=hZ (Int.sign_eq_one_of_pos h); clear h
  go_enter Tryz.func139,Tryz.ntmps139
  go_wp2
  go_ret
  exact ⟨by rw [hs.out]; rfl,rfl⟩
def FG (a b:Int):Int:=if a < b then -1 else if b < a then 1 else 0
theorem Cv {k:IntKind} {a b:Int} (h:a=b):Ending.returned (.int k a)=Ending.returned (.int k b):=by rw [h]
theorem V9 {a b:ByteArray} (h:a=b):Ending.returned (.string a)=Ending.returned (.string b):=by rw [h]
theorem KP (u v:Nat) (w:World) (hu:nDigits u < 1000000000) (hv:nDigits v < 1000000000) :
 Calls Tryz.prog 147 #[.string (tx u),.string (tx v)] w fun e w'=>e=.returned (.int .i64 (FG u v))∧w=w':=by
 have su:=CL u
 have sv:=CL v
 have hl1:=Q5 u v
 have hl2:=Q5 v u
 have he:=Nm u v
 generalize hx:tx (u:Int)=s at *
 generalize hy:tx (v:Int)=t at *
 clear hx hy
 have hu':s.size < 1000000000:=by omega
 have hv':t.size < 1000000000:=by omega
 by_cases h:s.size=t.size
 ·have l1:=hl1 h
  have l2:=hl2 h.symm
  have hne:((s.size:Int) != t.size)=false:=by rw [h]; simp
  clear hl1 hl2
  have h:=hZ h
  rcases Th u v with k | k | k
  ·rw [Ab k] at l1
   have hh:=hZ k; clear l2 he k su sv
   go_enter Tryz.func147,Tryz.ntmps147
   go_wp2
   go_ret
   exact ⟨Cv (by have:=hh.out; unfold FG; rw [Ai (by omega)]),rfl⟩
  ·rw [Aa (by omega)] at l1 l2
   rw [Ab (by omega)] at he
   have hh:=hZ k; clear k su sv l2
   go_enter Tryz.func147,Tryz.ntmps147
   go_wp2
   go_ret
   exact ⟨Cv (by have:=hh.out; unfold FG; rw [Ag (by omega),Ag (by omega)]),rfl⟩
  ·rw [Aa (by omega)] at l1
   rw [Aa (by omega)] at he
   have hh:=hZ k; clear k su sv l2
   go_enter Tryz.func147,Tryz.ntmps147
   go_wp2
   go_ret
   exact ⟨Cv (by have:=hh.out; unfold FG; rw [Ag (by omega),Ai (by omega)]),rfl⟩
 ·have hne:((s.size:Int) != t.size)=true:=by rw [Bs]; omega
  have k1:=Gv u v
  have k2:=Gv v u
  have k1:=hZ k1
  have k2:=hZ k2
  have hh:=hZ h
  have su:=hZ su
  have sv:=hZ sv
  clear hl1 hl2 he h
  rename_i k1' k2' su' sv'
  clear k1' k2' su' sv'
  go_enter Tryz.func147,Tryz.ntmps147
  go_wp2
  go_ret
  refine ⟨Cv ?_,rfl⟩
  have k1:=k1.out; have k2:=k2.out; have hh:=hh.out; have su:=su.out; have sv:=sv.out
  show min 1 (max (-1) ((s.size:Int) - t.size))=_
  unfold FG
  by_cases q:s.size < t.size
  ·rw [Ai (by have:=k1 (by omega); omega)]; omega
  ·rw [Ag (by have:=k2 (by omega); omega),Ai (by have:=k2 (by omega); omega)]; omega
theorem Vo (n:Int) (w:World) (hs:(tx n).size≤1000000000) :
 Calls Tryz.prog 169 #[.string (tx n)] w fun e w'=>e=.returned (.string (tx (-n)))∧Qt w w':=by
 by_cases h:n < 0
 ·have hs':(tx (-n)).size≤1000000000:=by rw [← IJ h,Zu]; omega
  go_enter Tryz.func169,Tryz.ntmps169
  go_wp2_with (first | (go_at_call 144; refine (Gm _ h _ hs).mono ?_; rintro e w' ⟨rfl,hf⟩) | (go_at_call 145; refine (Du false _ (by omega) _ hs').mono ?_; rintro e w' ⟨rfl,rfl⟩))
  go_ret
  exact ⟨by simp,by repeat (with_reducible first | assumption | exact Qt.refl _ | refine Qt.drew ?_ | refine Qt.drewN ?_ _ | refine Qt.trans ?_ (by assumption))⟩
 ·go_enter Tryz.func169,Tryz.ntmps169
  go_wp2_with (first | (go_at_call 144; refine (Gl _ (by omega) _ hs).mono ?_; rintro e w' ⟨rfl,hf⟩) | (go_at_call 145; refine (Du true _ (by omega) _ hs).mono ?_; rintro e w' ⟨rfl,rfl⟩))
  go_ret
  exact ⟨by simp,by repeat (with_reducible first | assumption | exact Qt.refl _ | refine Qt.drew ?_ | refine Qt.drewN ?_ _ | refine Qt.trans ?_ (by assumption))⟩
theorem KQ (n:Int) (w:World) (hs:(tx n).size≤1000000000) :
 Calls Tryz.prog 169 #[.string (tx n)] w fun e w'=>e=.returned (.string (tx (-n)))∧Fr w w' :=
 (Vo n w hs).mono fun _ _ ⟨h,k⟩=>⟨h,k.fr⟩
theorem LY (n:Int) (w:World) (hs:(tx n).size≤1000000000) :
 Calls Tryz.prog 138 #[.string (tx n)] w fun e w'=>e=.returned (.string (tx (n.natAbs:Int)))∧Qt w w':=by
 by_cases h:n < 0
 ·have e:=hZ (show (n.natAbs:Int)=-n by omega)
  go_enter Tryz.func138,Tryz.ntmps138
  go_wp2_with (go_at_call 144; refine (Gm _ h _ hs).mono ?_; rintro e w' ⟨rfl,hf⟩)
  go_ret
  exact ⟨by rw [e.out]; rfl,by repeat (with_reducible first | assumption | exact Qt.refl _ | refine Qt.drew ?_ | refine Qt.drewN ?_ _ | refine Qt.trans ?_ (by assumption))⟩
 ·have e:=hZ (show (n.natAbs:Int)=n by omega)
  go_enter Tryz.func138,Tryz.ntmps138
  go_wp2_with (go_at_call 144; refine (Gl _ (by omega) _ hs).mono ?_; rintro e w' ⟨rfl,hf⟩)
  go_ret
  exact ⟨by rw [e.out]; rfl,by repeat (with_reducible first | assumption | exact Qt.refl _ | refine Qt.drew ?_ | refine Qt.drewN ?_ _ | refine Qt.trans ?_ (by assumption))⟩
theorem H3 (n:Int) (w:World) (hs:(tx n).size≤1000000000) :
 Calls Tryz.prog 138 #[.string (tx n)] w fun e w'=>e=.returned (.string (tx (n.natAbs:Int)))∧Fr w w' :=
 (LY n w hs).mono fun _ _ ⟨h,k⟩=>⟨h,k.fr⟩
theorem RO (a b:Int) (ha:0≤a) (hb:0≤b) (w:World) (hu:(tx a).size < 1000000000) (hv:(tx b).size < 1000000000) :
 Calls Tryz.prog 147 #[.string (tx a),.string (tx b)] w fun e w'=>e=.returned (.int .i64 (FG a b))∧w=w':=by
 obtain ⟨u,rfl⟩:=Ze ha
 obtain ⟨v,rfl⟩:=Ze hb
 exact KP u v w (by rw [← CL]; exact hu) (by rw [← CL]; exact hv)
theorem F3 (n:Int) (h:n < 0):(tx (-n)).size+1=(tx n).size:=by
 have:=Hr n
 rw [← IJ h,Zu]; omega
theorem Jl (a b:Int) (w:World) (hu:(tx a).size < 1000000000) (hv:(tx b).size < 1000000000) :
 Calls Tryz.prog 137 #[.string (tx a),.string (tx b)] w fun e w'=>e=.returned (.int .i64 (FG a b))∧Qt w w':=by
 by_cases hs:a.sign=b.sign
 ·have hne:(a.sign != b.sign)=false:=by rw [hs]; simp
  have hs':=hZ hs
  by_cases ha:a < 0
  ·have hb:b < 0:=by
    rw [Int.sign_eq_neg_one_of_neg ha] at hs
    exact Xu.1 hs.symm
   have sa:=F3 a ha
   have sb:=F3 b hb
   clear hs
   go_enter Tryz.func137,Tryz.ntmps137
   go_wp2_with fail
   refine (C7 a _).mono ?_; rintro e w' ⟨rfl,rfl⟩
   go_wp2_with fail
   refine (C7 b _).mono ?_; rintro e w' ⟨rfl,rfl⟩
   go_wp2_with fail
   refine (Gm a ha _ (by omega)).mono ?_; rintro e w1 ⟨rfl,hf1⟩
   go_wp2_with fail
   refine (Gm b hb _ (by omega)).mono ?_; rintro e w2 ⟨rfl,hf2⟩
   go_wp2_with fail
   refine (RO (-b) (-a) (by omega) (by omega) _ (by omega) (by omega)).mono ?_; rintro e w' ⟨rfl,rfl⟩
   go_wp2_with fail
   go_ret
   exact ⟨Cv (by unfold FG; split <;> split <;> omega),by repeat (with_reducible first | assumption | exact Qt.refl _ | refine Qt.drew ?_ | refine Qt.drewN ?_ _ | refine Qt.trans ?_ (by assumption))⟩
  ·have hb:¬ b < 0:=by
    intro hb
    rw [Int.sign_eq_neg_one_of_neg hb] at hs
    exact ha (Xu.1 hs)
   clear hs
   go_enter Tryz.func137,Tryz.ntmps137
   go_wp2_with fail
   refine (C7 a _).mono ?_; rintro e w' ⟨rfl,rfl⟩
   go_wp2_with fail
   refine (C7 b _).mono ?_; rintro e w' ⟨rfl,rfl⟩
   go_wp2_with fail
   refine (Gl a (by omega) _ (by omega)).mono ?_; rintro e w1 ⟨rfl,hf1⟩
   go_wp2_with fail
   refine (Gl b (by omega) _ (by omega)).mono ?_; rintro e w2 ⟨rfl,hf2⟩
   go_wp2_with fail
   refine (RO a b (by omega) (by omega) _ hu hv).mono ?_; rintro e w' ⟨rfl,rfl⟩
   go_wp2_with fail
   go_ret
   exact ⟨rfl,by repeat (with_reducible first | assumption | exact Qt.refl _ | refine Qt.drew ?_ | refine Qt.drewN ?_ _ | refine Qt.trans ?_ (by assumption))⟩
 ·have hne:(a.sign != b.sign)=true:=by rw [Bs]; exact hs
  by_cases hl:a.sign < b.sign
  ·have hd:decide (a.sign < b.sign)=true:=Ab hl
   have hc:a < b:=by
    rcases Ce a b with h | h | h
    ·exact h
    ·subst h; exact absurd rfl hs
    ·exfalso
     have s1:0≤a - b:=by omega
     rcases Ce a 0 with p | p | p <;> rcases Ce b 0 with q | q | q <;>
      simp [Int.sign_eq_neg_one_of_neg,Int.sign_eq_one_of_pos, *] at hl <;> omega
   have hc:=hZ hc
   clear hs
   go_enter Tryz.func137,Tryz.ntmps137
   go_wp2_with fail
   refine (C7 a _).mono ?_; rintro e w' ⟨rfl,rfl⟩
   go_wp2_with fail
   refine (C7 b _).mono ?_; rintro e w' ⟨rfl,rfl⟩
   go_wp2_with fail
   go_ret
   exact ⟨Cv (by have:=hc.out; unfold FG; rw [Ai this]),by repeat (with_reducible first | assumption | exact Qt.refl _ | refine Qt.drew ?_ | refine Qt.drewN ?_ _ | refine Qt.trans ?_ (by assumption))⟩
  ·have hd:decide (a.sign < b.sign)=false:=Aa hl
   have hc:b < a:=by
    rcases Ce a b with h | h | h
    ·exfalso
     rcases Ce a 0 with p | p | p <;> rcases Ce b 0 with q | q | q <;>
      simp [Int.sign_eq_neg_one_of_neg,Int.sign_eq_one_of_pos, *] at hl hs <;> omega
    ·subst h; exact absurd rfl hs
    ·exact h
   have hc:=hZ hc
   clear hs
   go_enter Tryz.func137,Tryz.ntmps137
   go_wp2_with fail
   refine (C7 a _).mono ?_; rintro e w' ⟨rfl,rfl⟩
   go_wp2_with fail
   refine (C7 b _).mono ?_; rintro e w' ⟨rfl,rfl⟩
   go_wp2_with fail
   go_ret
   exact ⟨Cv (by have:=hc.out; unfold FG; rw [Ag (by omega),Ai this]),by repeat (with_reducible first | assumption | exact Qt.refl _ | refine Qt.drew ?_ | refine Qt.drewN ?_ _ | refine Qt.trans ?_ (by assumption))⟩
def Sm (n:Int):Prop:=-100000000000000000 < n∧n < 100000000000000000
theorem Sm.size {n:Int} (h:Sm n):(tx n).size≤18:=by
 obtain ⟨h1,h2⟩:=h
 exact Cl 17 n (by omega) (by omega)
theorem FN (a b:Int) (hb:b≠0):(a.tmod b).natAbs < b.natAbs:=by
 rw [Int.natAbs_tmod]; exact CE _ (by omega)
theorem C4 (a b:Int) (hb:b≠0) (h:a.tmod b=0∨(a.tmod b < 0 ↔ b < 0)):a.fdiv b=a.tdiv b∧a.fmod b=a.tmod b:=by
 have e:=ZA a b
 have m:=FN a b hb
 rcases CX hb with h1 | h1
 ·exact (ZB h1).2 ⟨by omega,by omega,by omega⟩
 ·exact (ZT h1).2 ⟨by omega,by omega,by omega⟩
theorem Eq (a b:Int) (hb:b≠0) (h0:a.tmod b≠0) (h:¬ (a.tmod b < 0 ↔ b < 0)):a.fdiv b=a.tdiv b - 1∧a.fmod b=a.tmod b+b:=by
 have e:=ZA a b
 have m:=FN a b hb
 have e2:b * (a.tdiv b - 1)=b * a.tdiv b - b:=by rw [Int.mul_sub,VQ]
 rcases CX hb with h1 | h1
 ·exact (ZB h1).2 ⟨by omega,by omega,by omega⟩
 ·exact (ZT h1).2 ⟨by omega,by omega,by omega⟩
theorem IL (a b:Int):(a.tdiv b).natAbs≤a.natAbs:=by
 rw [Int.natAbs_tdiv]; exact DA _ _
theorem S8 (a b:Int) (ha:Sm a) (hb:Sm b) (h0:b≠0) (w:World) (hG:G w) :
 Calls Tryz.prog 112 #[.string (tx a),.string (tx b)] w fun e w'=>e=.returned (.tuple #[.string (tx (a.fdiv b)),.string (tx (a.fmod b)),.int .i64 0])∧Fr w w':=by
 have sa:=ha.size
 have sb:=hb.size
 have hz:((tx b).toList == [48])=false:=by rw [Cn]; exact Aa h0
 obtain ⟨a1,a2⟩:=ha
 obtain ⟨b1,b2⟩:=hb
 have td:=IL a b
 have tm:=FN a b h0
 have k1:IntKind.i64.wrap (a.tdiv b)=a.tdiv b:=Ak _ (by omega)
 have k2:IntKind.i64.wrap (a.tmod b)=a.tmod b:=Ak _ (by omega)
 by_cases hr0:a.tmod b=0
 ·have hfin:=hZ (show a.fdiv b=a.tdiv b∧a.fmod b=0 from by have:=C4 a b h0 (.inl hr0); rw [hr0] at this; exact this)
  have c1:(a.tmod b != 0)=false:=by rw [hr0]; rfl
  have tm1:-100000000000000000 < a.tmod b∧a.tmod b < 100000000000000000:=by omega
  have td1:-100000000000000000 < a.tdiv b∧a.tdiv b < 100000000000000000:=by omega
  obtain ⟨tm1,tm2⟩:=tm1
  obtain ⟨td1,td2⟩:=td1
  clear td tm
  go_enter Tryz.func112,Tryz.ntmps112
  go_wp2_with fail
  refine (BX a 18 (by omega) (by omega) _ (by omega)).mono ?_; rintro e w1 ⟨rfl,hf1⟩
  go_wp2_with fail
  refine (BX b 18 (by omega) (by omega) _ (by omega)).mono ?_; rintro e w2 ⟨rfl,hf2⟩
  go_wp2_with fail
  go_quiet (fail)
  clear k1 k2
  have hfq:=hf1.trans hf2
  go_wp2_with fail
  refine (Cs _ (by omega) (by omega) _ (hG.fr (by exact B9))).mono ?_; rintro e w3 ⟨rfl,hf3⟩
  go_wp2_with fail
  refine (Cs _ (by omega) (by omega) _ (hG.fr (by exact B9))).mono ?_; rintro e w4 ⟨rfl,hf4⟩
  go_wp2_with fail
  go_ret3
  exact ⟨by rw [hfin.out.1,hfin.out.2]; rfl,by exact B9⟩
 ·have c1:(a.tmod b != 0)=true:=by rw [Bs]; exact hr0
  by_cases hr:a.tmod b < 0 <;> by_cases hb:b < 0
  ·have hfin:=hZ (C4 a b h0 (.inr (by simp [hr,hb])))
   have c2:(decide (a.tmod b < 0))=true:=Ab hr
   have c3:(decide (b < 0))=true:=Ab hb
   have tm1:-100000000000000000 < a.tmod b:=by omega
   have tm2:a.tmod b < 100000000000000000:=by omega
   have td1:-100000000000000000 < a.tdiv b:=by omega
   have td2:a.tdiv b < 100000000000000000:=by omega
   clear td tm hr0 hr hb
   go_enter Tryz.func112,Tryz.ntmps112
   go_wp2_with fail
   refine (BX a 18 (by omega) (by omega) _ (by omega)).mono ?_; rintro e w1 ⟨rfl,hf1⟩
   go_wp2_with fail
   refine (BX b 18 (by omega) (by omega) _ (by omega)).mono ?_; rintro e w2 ⟨rfl,hf2⟩
   go_wp2_with fail
   go_quiet (fail)
   clear k1 k2
   have hfq:=hf1.trans hf2
   go_wp2_with fail
   refine (Cs _ (by omega) (by omega) _ (hG.fr (by exact B9))).mono ?_; rintro e w3 ⟨rfl,hf3⟩
   go_wp2_with fail
   refine (Cs _ (by omega) (by omega) _ (hG.fr (by exact B9))).mono ?_; rintro e w4 ⟨rfl,hf4⟩
   go_wp2_with fail
   go_ret3
   exact ⟨by rw [hfin.out.1,hfin.out.2]; rfl,by exact B9⟩
  ·have hfin:=hZ (Eq a b h0 hr0 (by simp [hr,hb]))
   have c2:(decide (a.tmod b < 0))=true:=Ab hr
   have c3:(decide (b < 0))=false:=Aa hb
   have tm1:-100000000000000000 < a.tmod b:=by omega
   have tm2:a.tmod b < 100000000000000000:=by omega
   have td1:-100000000000000000 < a.tdiv b:=by omega
   have td2:a.tdiv b < 100000000000000000:=by omega
   clear td tm hr0 hr hb
   go_enter Tryz.func112,Tryz.ntmps112
   go_wp2_with fail
   refine (BX a 18 (by omega) (by omega) _ (by omega)).mono ?_; rintro e w1 ⟨rfl,hf1⟩
   go_wp2_with fail
   refine (BX b 18 (by omega) (by omega) _ (by omega)).mono ?_; rintro e w2 ⟨rfl,hf2⟩
   go_wp2_with fail
   go_quiet (fail)
   clear k1 k2
   have hfq:=hf1.trans hf2
   go_wp2_with fail
   refine (Cs _ (by omega) (by omega) _ (hG.fr (by exact B9))).mono ?_; rintro e w3 ⟨rfl,hf3⟩
   go_wp2_with fail
   refine (Cs _ (by omega) (by omega) _ (hG.fr (by exact B9))).mono ?_; rintro e w4 ⟨rfl,hf4⟩
   go_wp2_with fail
   go_ret3
   exact ⟨by rw [hfin.out.1,hfin.out.2]; rfl,by exact B9⟩
  ·have hfin:=hZ (Eq a b h0 hr0 (by simp [hr,hb]))
   have c2:(decide (a.tmod b < 0))=false:=Aa hr
   have c3:(decide (b < 0))=true:=Ab hb
   have tm1:-100000000000000000 < a.tmod b:=by omega
   have tm2:a.tmod b < 100000000000000000:=by omega
   have td1:-100000000000000000 < a.tdiv b:=by omega
   have td2:a.tdiv b < 100000000000000000:=by omega
   clear td tm hr0 hr hb
   go_enter Tryz.func112,Tryz.ntmps112
   go_wp2_with fail
   refine (BX a 18 (by omega) (by omega) _ (by omega)).mono ?_; rintro e w1 ⟨rfl,hf1⟩
   go_wp2_with fail
   refine (BX b 18 (by omega) (by omega) _ (by omega)).mono ?_; rintro e w2 ⟨rfl,hf2⟩
   go_wp2_with fail
   go_quiet (fail)
   clear k1 k2
   have hfq:=hf1.trans hf2
   go_wp2_with fail
   refine (Cs _ (by omega) (by omega) _ (hG.fr (by exact B9))).mono ?_; rintro e w3 ⟨rfl,hf3⟩
   go_wp2_with fail
   refine (Cs _ (by omega) (by omega) _ (hG.fr (by exact B9))).mono ?_; rintro e w4 ⟨rfl,hf4⟩
   go_wp2_with fail
   go_ret3
   exact ⟨by rw [hfin.out.1,hfin.out.2]; rfl,by exact B9⟩
  ·have hfin:=hZ (C4 a b h0 (.inr (by simp [hr,hb])))
   have c2:(decide (a.tmod b < 0))=false:=Aa hr
   have c3:(decide (b < 0))=false:=Aa hb
   have tm1:-100000000000000000 < a.tmod b:=by omega
   have tm2:a.tmod b < 100000000000000000:=by omega
   have td1:-100000000000000000 < a.tdiv b:=by omega
   have td2:a.tdiv b < 100000000000000000:=by omega
   clear td tm hr0 hr hb
   go_enter Tryz.func112,Tryz.ntmps112
   go_wp2_with fail
   refine (BX a 18 (by omega) (by omega) _ (by omega)).mono ?_; rintro e w1 ⟨rfl,hf1⟩
   go_wp2_with fail
   refine (BX b 18 (by omega) (by omega) _ (by omega)).mono ?_; rintro e w2 ⟨rfl,hf2⟩
   go_wp2_with fail
   go_quiet (fail)
   clear k1 k2
   have hfq:=hf1.trans hf2
   go_wp2_with fail
   refine (Cs _ (by omega) (by omega) _ (hG.fr (by exact B9))).mono ?_; rintro e w3 ⟨rfl,hf3⟩
   go_wp2_with fail
   refine (Cs _ (by omega) (by omega) _ (hG.fr (by exact B9))).mono ?_; rintro e w4 ⟨rfl,hf4⟩
   go_wp2_with fail
   go_ret3
   exact ⟨by rw [hfin.out.1,hfin.out.2]; rfl,by exact B9⟩
theorem Lg (n:Int) (h0:-9223372036854775808≤n) (h1:n≤9223372036854775807):parseIntB 64 (tx n).data.toList=.ok n:=by
 rw [parseIntB_64]; exact Jf n h0 h1
theorem Eg (n:Int) (h0:-9223372036854775808≤n) (h1:n≤9223372036854775807) (w:World) :
 Calls Tryz.prog 116 #[.string (tx n)] w fun e w'=>e=.returned (.tuple #[.int .i64 n,.bool true])∧Fr w w':=by
 have hs:=Cl 19 n (by omega) (by omega)
 go_enter Tryz.func116,Tryz.ntmps116
 go_wp2_with fail
 refine (Tryz.strconv_ParseInt_10_at64_ok (tx n) (by omega) n (Lg n h0 h1) _).mono ?_; rintro e w1 ⟨rfl,hw⟩
 have hf:=Lu hw; clear hw
 go_wp2_with fail
 go_ret2
 exact ⟨rfl,hf⟩
end Go.Proofs.YtiniigadkknboaaGreatDoor
namespace Go.Proofs.YtiniigadkknboaaGreatDoor
open Go.RowKit Go.Lib
def El {α:Type} (w:World) (enc:α→Value) (a:Option Addr) (xs:List α):Prop :=
 xs=[]∨∃ b o,a=some ⟨b,o,none⟩∧b < w.heap.size∧∀ i x,xs[i]?=some x→w.cell? ⟨b,o+i,none⟩=some (enc x)
theorem El.fr {α:Type} {w w':World} {enc:α→Value} {a:Option Addr} {xs:List α} (h:El w enc a xs) (k:Fr w w'):El w' enc a xs:=by
 rcases h with h | ⟨b,o,ha,hb,hc⟩
 ·exact .inl h
 ·exact .inr ⟨b,o,ha,Aq hb k.size,fun i x hx=>by rw [k.cell hb]; exact hc i x hx⟩
theorem El.at {α:Type} {w:World} {enc:α→Value} {a:Option Addr} {xs:List α} (h:El w enc a xs) {i:Nat} (hi:i < xs.length) :
 ∃ b o x,a=some ⟨b,o,none⟩∧b < w.heap.size∧xs[i]?=some x∧w.cell? ⟨b,o+i,none⟩=some (enc x):=by
 rcases h with h | ⟨b,o,ha,hb,hc⟩
 ·subst h; simp at hi
 ·exact ⟨b,o,xs[i],ha,hb,Ac hi,hc i _ (Ac hi)⟩
abbrev iv:Int→Value:=fun n=>.int .i64 n
abbrev sv:Int→Value:=fun n=>.string (tx n)
def JV {α:Type} (w:World) (g:Nat) (cap:Array Value) (enc:α→Value) (p:α→Bool) (xs:List α):Prop :=
 ∀ x W,x ∈ xs→Fr w W→Calls Tryz.prog g (#[enc x] ++ cap) W fun e W'=>e=.returned (.bool (p x))∧Fr W W'
def O7 {α:Type} (p:α→Bool) (xs:List α):Int:=match xs.findIdx? p with | some i=>i | none=>-1
theorem I8 {α:Type} {p:α→Bool} {xs:List α} {k:Nat} {x:α} (h:∀ j x,j < k→xs[j]?=some x→p x=false) (hx:xs[k]?=some x) (hp:p x=false) :
 Hid (∀ j x,j < k+1→xs[j]?=some x→p x=false):=fun j y hj hy=>by
 by_cases e:j=k
 ·subst e; rw [hx] at hy; injection hy with hy; rw [← hy]; exact hp
 ·exact h j y (by omega) hy
theorem HX {α:Type} {p:α→Bool} {xs:List α} {k:Nat} {x:α} (h:∀ j x,j < k→xs[j]?=some x→p x=false) (hx:xs[k]?=some x) (hp:p x=true):O7 p xs=k:=by
 unfold O7
 have hk:k < xs.length:=(Ae.1 hx).1
 have:xs.findIdx? p=some k:=by
  rw [FZ]
  refine ⟨hk, ?_,fun j hj=>?_⟩
  ·rw [(Ae.1 hx).2]; exact hp
  ·rw [h j _ hj (Ac (by omega))]; simp
 rw [this]
theorem I9 {α:Type} {p:α→Bool} {xs:List α} (h:∀ j x,j < xs.length→xs[j]?=some x→p x=false):O7 p xs=-1:=by
 unfold O7
 have:xs.findIdx? p=none:=by
  rw [Jn]
  intro x hx
  obtain ⟨i,hi,e⟩:=H6 hx
  exact h i x hi (by rw [Ac hi,e])
 rw [this]
theorem NM {α:Type} (p:α→Bool) (xs:List α):decide (0≤O7 p xs)=xs.any p:=by
 unfold O7
 cases e:xs.findIdx? p with
 | none=>
   rw [Jn] at e
   have:xs.any p=false:=CO.2 (fun x hx=>by simp [e x hx])
   rw [this]; rfl
 | some i=>
   obtain ⟨h,hp,_⟩:=FZ.1 e
   have:xs.any p=true:=VL.2 ⟨xs[i],AG h,hp⟩
   rw [this]; simp
theorem JL {α:Type} (p:α→Bool) (xs:List α):(O7 p xs=-1∧∀ x,x ∈ xs→p x=false)∨∃ (k:Nat) (x:α),O7 p xs=k∧xs[k]?=some x∧p x=true∧∀ j y,j < k→xs[j]?=some y→p y=false:=by
 unfold O7
 cases e:xs.findIdx? p with
 | none=>
   rw [Jn] at e
   exact .inl ⟨rfl,e⟩
 | some i=>
   obtain ⟨h,hp,hq⟩:=FZ.1 e
   refine .inr ⟨i,xs[i],rfl,Ac h,hp,fun j y hj hy=>?_⟩
   have:=hq j hj
   obtain ⟨h2,rfl⟩:=Ae.1 hy
   simpa using this
theorem Il (xs:List Int) (a:Option Addr) (cap:Nat) (g:Nat) (lb:Array Value) (p:Int→Bool) (w:World)
 (eg:∀ args w,(callFunc g args).run Tryz.prog w=.ok (.enter g args) w) (hx:El w iv a xs) (hl:xs.length≤1000000000) (hp:JV w g lb iv p xs) :
 Calls Tryz.prog 93 #[.slice a xs.length cap,.func (.func g) #[] lb] w fun e w'=>e=.returned (.int .i64 (O7 p xs))∧Fr w w':=by
 go_enter Tryz.func93,Tryz.ntmps93
 go_wp2
 go_loopw [5,8] (fun _ s8 wr=>∃ k:Nat,s8=.int .i64 k∧k≤xs.length∧Fr w wr∧Hid (∀ j x,j < k→xs[j]?=some x→p x=false)) (fun _ s8 _=>xs.length - (RowKit.intOf s8).toNat)
 case atStart=>exact ⟨0,rfl,Ck _,Fr.refl _,fun j x h=>absurd h (Bj _)⟩
 case round=>
  obtain ⟨k,rfl,hk,hf,hb⟩:=hrel
  by_cases hlt:k < xs.length
  ·obtain ⟨b,o,x,rfl,hbl,hxk,hcell⟩:=(hx.fr hf).at hlt
   have hpx:=hp x wr (Af hxk) hf
   have hxk:=hZ hxk
   go_wp2_with fail
   refine hpx.mono ?_
   rintro e w1 ⟨rfl,hf1⟩
   go_wp2_with fail
   ·have hpt:p x=true:=by assumption
    go_ret
    exact ⟨Cv (HX hb.out hxk.out hpt).symm,hf.trans hf1⟩
   ·have hpf:p x=false:=by assumption
    go_roundw
    case rel=>exact ⟨k+1,by go_num,by omega,hf.trans hf1,I8 hb.out hxk.out hpf⟩
    case measure=>simp [RowKit.intOf]; omega
  ·go_wp2_with fail
   go_ret
   exact ⟨Cv (I9 (by rw [show xs.length=k by omega]; exact hb.out)).symm,hf⟩
theorem GN (xs:List Int) (a:Option Addr) (cap:Nat) (g:Nat) (lb:Array Value) (p:Int→Bool) (w:World)
 (eg:∀ args w,(callFunc g args).run Tryz.prog w=.ok (.enter g args) w) (hx:El w iv a xs) (hl:xs.length≤1000000000) (hp:JV w g lb iv p xs) :
 Calls Tryz.prog 53 #[.slice a xs.length cap,.func (.func g) #[] lb] w fun e w'=>e=.returned (.bool (xs.any p))∧Fr w w':=by
 rw [← NM]
 have hc:=Il xs a cap g lb p w eg hx hl hp
 clear hp
 go_enter Tryz.func53,Tryz.ntmps53
 go_wp2_with fail
 refine hc.mono ?_
 rintro e w' ⟨rfl,hf⟩
 go_wp2_with fail
 go_ret
 exact ⟨rfl,hf⟩
end Go.Proofs.YtiniigadkknboaaGreatDoor
