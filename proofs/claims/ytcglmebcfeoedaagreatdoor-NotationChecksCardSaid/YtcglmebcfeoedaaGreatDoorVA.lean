/- Contracts and laws: VA. -/
import Derived.Lib.AtoiAll
import Derived.Lib.ItoaLen
import Derived.Lib.ItoaMem
import Derived.Lib.ParseIntB
import GoSem.Op.String
import Derived.Laws.Strings
import Derived.Test.YtcglmebcfeoedaaGreatDoorProg
import Derived.WalkKit
import Derived.WalkLawsBesides
import Derived.WalkSpells
import Derived.Outline
import Derived.Lib.Hide
import Derived.BigQuiet
import Derived.Deep.QuietTactic
import Derived.Lib.LaidTab
import Derived.Test.YtcglmebcfeoedaaGreatDoorShelf
import Derived.Lib.AtoiErrMem
import Derived.Lib.ParseIntBTie
import Derived.LoopTactic
import Derived.Deep.RegionHeld3
import Derived.Deep.RegionWith
import Derived.Deep.DrawnRows
import Derived.Deep.LoopGhost
import Derived.Deep.AppendLies
import Derived.Maps.AppendAt

set_option maxHeartbeats 1000000
namespace Go.Proofs.YtcglmebcfeoedaaGreatDoor
open Go.Lib
theorem hZ {p:Prop} (h:p):Go.RowKit.Hid p:=h
abbrev Aa:=@decide_eq_false
abbrev Ab:=@decide_eq_true
abbrev Ac:=@List.getElem?_eq_getElem
abbrev Ad:=@World.cell?_setCell_other
abbrev Ae:=@List.mem_of_getElem?
abbrev Af:=@Int.natCast_nonneg
abbrev Ag:=@List.getElem?_eq_some_iff
abbrev Ah:=@Nat.le_refl
abbrev Ai:=@if_neg
abbrev Aj:=@IntWalk.i64_in
abbrev Ak:=@List.take_of_length_le
abbrev Al:=@if_pos
abbrev Am:=@List.length_map
abbrev An:=@Nat.lt_of_lt_of_le
abbrev Ao:=@World.frozen?_setCell
abbrev Ap:=@List.getElem?_map
abbrev Aq:=@List.length_append
abbrev Ar:=@World.cell?_setCell_same'
abbrev As:=@wpList_append_lies
abbrev At:=@bodyPost_ret
abbrev Au:=@World.ownsRow.alloc
abbrev Av:=@List.map_append
abbrev Aw:=@List.all_eq_true
abbrev Ax:=@of_decide_eq_true
abbrev Ay:=@Nat.zero_add
abbrev Az:=@List.eq_nil_of_length_eq_zero
abbrev AA:=@Int.natAbs_natCast
abbrev AB:=@beq_false_of_ne
abbrev AC:=@Go.wp_at_zero
abbrev AD:=@Go.wp_at_succ
abbrev AF:=@World.size_alloc
abbrev AG:=@List.length_take
abbrev AH:=@IntWalk.u64_in
abbrev AJ:=@List.length_replicate
abbrev AK:=@Int.natCast_mul
abbrev AL:=@List.drop_eq_nil_of_le
abbrev AM:=@Nat.le_trans
abbrev AN:=@info_parts
abbrev AP:=@List.getElem?_append_left
abbrev AQ:=@List.mem_range
abbrev AR:=@List.getElem?_append_right
abbrev AV:=@Int.toNat_natCast
abbrev AW:=@Bool.and_eq_true
abbrev AX:=@World.ownsRow_nil
abbrev AY:=@World.block_lt_of_cell?
abbrev A1:=@Option.map_eq_some_iff
abbrev A2:=@List.length_set
abbrev A3:=@List.getElem_mem
abbrev A6:=@List.getElem?_of_mem
abbrev A8:=@List.length_cons
abbrev Ba:=@bne_iff_ne
abbrev Bb:=@List.mem_append
abbrev Be:=@Nat.pow_succ
abbrev Bg:=@Nat.mul_le_mul_right
abbrev Bi:=@Option.bind_eq_some_iff
abbrev Bj:=@Decidable.byContradiction
abbrev Bm:=@Nat.lt_of_le_of_lt
abbrev Bo:=@Int.mul_le_mul_of_nonneg_right
abbrev Bp:=@Nat.div_div_eq_div_mul
abbrev Bv:=@List.append_assoc
abbrev BA:=@List.append_nil
abbrev BB:=@Int.natAbs_mul
abbrev BC:=@List.getElem?_set
abbrev BE:=@List.mem_singleton
abbrev BG:=@List.mem_map
abbrev BJ:=@Nat.zero_le
abbrev BK:=@Nat.pow_le_pow_right
abbrev BO:=@Nat.div_lt_iff_lt_mul
abbrev BQ:=@List.length_drop
abbrev BR:=@List.getElem?_cons_succ
abbrev BV:=@List.length_range
abbrev BW:=@Int.lt_trichotomy
abbrev BX:=@List.mem_or_eq_of_mem_set
abbrev BZ:=@List.drop_eq_getElem_cons
abbrev B6:=@List.getElem?_take
abbrev Cb:=@rounds_succ
abbrev Cc:=@List.any_eq_false
abbrev Ce:=@List.getElem?_singleton
abbrev Cf:=@World.size_setCell
abbrev Cg:=@World.ownsRow.form
abbrev Ch:=@List.mem_of_mem_take
abbrev Ci:=@Nat.lt_irrefl
abbrev Cr:=@List.getElem?_eq_none
abbrev Ct:=@heap_alloc_new
abbrev Cu:=@List.eq_of_mem_replicate
abbrev Cy:=@Nat.mod_lt
abbrev Cz:=@Nat.mod_eq_of_lt
abbrev CA:=@Nat.add_sub_cancel_left
abbrev CD:=@List.map_map
abbrev CE:=@Int.mul_nonneg
abbrev CF:=@List.length_pos_iff
abbrev CJ:=@ByteArray.size_append
abbrev CN:=@Nat.add_zero
abbrev CR:=@getD_set_ne
abbrev CS:=@Nat.mul_le_mul
abbrev CT:=@Decidable.of_not_not
abbrev C0:=@List.take_add_one
abbrev C1:=@List.getElem?_replicate
abbrev C2:=@Nat.min_eq_left
abbrev C3:=@Nat.div_le_self
abbrev C7:=@wp_region_held_drew
abbrev C8:=@Nat.mul_le_mul_left
abbrev C9:=@List.map_congr_left
abbrev Da:=@ByteArray.toList_eq
abbrev Db:=@Nat.le_of_lt
abbrev Dc:=@ByteArray.size_extract
abbrev Dd:=@List.mem_cons
abbrev De:=@wpList_make_full
abbrev Df:=@List.drop_length
abbrev Dn:=@List.mem_cons_self
abbrev Do:=@List.drop_zero
abbrev Dp:=@Int.tdiv_eq_ediv_of_nonneg
abbrev Dq:=@Array.getElem?_eq_some_iff
abbrev Dr:=@List.take_append_drop
abbrev Ds:=@List.getElem?_zipWith
abbrev Dw:=@List.findIdx?_eq_some_iff_getElem
abbrev DC:=@Option.some.inj
abbrev DD:=@Nat.not_lt_zero
abbrev DE:=@Nat.div_add_mod
abbrev DF:=@Int.natCast_add
abbrev DG:=@Nat.gcd_comm
abbrev DH:=@List.take_succ_eq_append_getElem
abbrev DI:=@List.ext_getElem?
abbrev DJ:=@Lib.data_getElem?
abbrev DQ:=@List.map_cons
abbrev DW:=@List.mem_map_of_mem
abbrev DX:=@List.getElem?_range
abbrev D2:=@wp_loop_rounds
abbrev D3:=@Rat.mul_nonneg
abbrev D4:=@Int.natCast_ediv
abbrev D5:=@Int.natAbs_neg
abbrev D8:=@Nat.pow_pos
abbrev Ec:=@Nat.pow_zero
abbrev Ed:=@Nat.add_comm
abbrev Ej:=@List.nil_append
abbrev Eu:=@List.all_eq_false
abbrev EH:=@wpAnyH_done
abbrev EI:=@Nat.pow_add
abbrev EJ:=@Nat.div_one
abbrev EK:=@List.take_zero
abbrev EL:=@List.mem_cons_of_mem
abbrev EV:=@step_append_lies
abbrev EW:=@Option.bind_some
abbrev EX:=@Nat.mul_comm
abbrev EY:=@Int.lt_or_le
abbrev E0:=@Int.fdiv_one
abbrev E7:=@beq_eq_false_iff_ne
abbrev E8:=@List.getElem_of_mem
abbrev Fn:=@List.map_take
abbrev Fo:=@Array.setIfInBounds_comm
abbrev Fu:=@World.size_drew
abbrev Fv:=@Rat.intCast_inj
abbrev Fw:=@Int.mul_ne_zero
abbrev FP:=@ready_mono
abbrev FQ:=@List.map_replicate
abbrev FR:=@Nat.one_mul
abbrev FS:=@Nat.mul_one
abbrev FT:=@Nat.le_mul_of_pos_right
abbrev FU:=@List.length_eq_zero_iff
abbrev Gb:=@World.ownsRow_lit
abbrev Gc:=@Rat.intCast_le_intCast
abbrev Gd:=@List.map_set
abbrev Ge:=@List.drop_of_length_le
abbrev Gf:=@ByteArray.data_extract
abbrev GJ:=@List.mem_iff_getElem?
abbrev GK:=@List.mem_append_right
abbrev GL:=@List.length_singleton
abbrev GM:=@Int.emod_add_mul_ediv
abbrev Hb:=@mem_ready
abbrev Hc:=@beq_self_eq_true
abbrev Hd:=@Nat.div_eq_of_lt
abbrev Ho:=@Array.toList_extract
abbrev Hp:=@Array.size_replicate
abbrev HM:=@wpList_make_own
abbrev HN:=@Rat.num_intCast
abbrev H1:=@Nat.sub_self
abbrev H2:=@Int.mul_zero
abbrev H3:=@Int.le_of_lt
abbrev H4:=@Int.add_zero
abbrev IE:=@decide_eq_true_iff
abbrev IF:=@Rat.num_divInt_den
abbrev IG:=@Int.natAbs_sign_of_ne_zero
abbrev IH:=@Int.lt_or_gt_of_ne
abbrev Jq:=@List.findIdx?_eq_none_iff
abbrev Jr:=@Int.sign_eq_zero_iff_zero
abbrev Js:=@Nat.mul_pos
abbrev Jt:=@List.size_toArray
abbrev Ju:=@List.findIdx_cons
abbrev Jv:=@Int.le_refl
abbrev JV:=@Nat.gcd_pos_of_pos_right
abbrev Kf:=@Int.natCast_emod
abbrev Kg:=@Int.eq_ofNat_of_zero_le
abbrev LF:=@Array.getElem?_eq_none
abbrev LJ:=@Rat.intCast_neg
abbrev LK:=@Rat.intCast_mul
abbrev LM:=@Option.map_some
abbrev LN:=@Exit.noGoto_ret
abbrev L7:=@UInt8.lt_iff_toNat_lt
abbrev L8:=@Rat.divInt_mul_divInt
abbrev L9:=@Nat.le_div_iff_mul_le
abbrev Ns:=@Region.noSelect_spec
abbrev Nt:=@Nat.add_mul
abbrev Nu:=@List.mem_of_mem_drop
abbrev Nv:=@List.getElem?_mapIdx
abbrev Nw:=@Lib.size_eq
abbrev Nx:=@Int.ofNat_tdiv
abbrev Ny:=@Int.neg_neg
abbrev Nz:=@Calls.quiet_of
abbrev NC:=@enters_of
abbrev O2:=@Nat.div_mul_le_self
abbrev O3:=@Array.toList_append
abbrev O8:=@Nat.mul_assoc
abbrev O9:=@IntWalk.u8_in
abbrev Pa:=@Bool.false_or
abbrev P6:=@Option.toList_some
abbrev P7:=@Nat.pos_of_ne_zero
abbrev P8:=@Nat.gcd_zero_right
abbrev P9:=@List.length_mapIdx
abbrev Qa:=@Int.emod_lt_of_pos
abbrev RY:=@results_none
abbrev RZ:=@if_false
abbrev R0:=@decide_eq_true_eq
abbrev R1:=@Rat.le_trans
abbrev R3:=@Rat.add_def'
abbrev R4:=@Nat.sub_zero
abbrev R5:=@Bool.not_eq_true'
abbrev R6:=@Array.size_append
abbrev Sa:=@List.replicate_append_replicate
abbrev Uk:=@Region.free_spec
abbrev Ul:=@Option.getD_some
abbrev Um:=@Nat.mul_lt_mul''
abbrev Un:=@Nat.gcd_le_right
abbrev Uo:=@List.take_length
abbrev Up:=@List.take_append
abbrev Uq:=@List.any_eq_true
abbrev Ut:=@Int.one_mul
abbrev Uu:=@Int.mul_add
abbrev Vu:=@UInt8.toNat_inj
abbrev Vv:=@Rat.den_intCast
abbrev Vw:=@List.all_append
abbrev Vx:=@Int.emod_nonneg
abbrev VQ:=@Nat.mul_lt_mul_of_pos_right
abbrev VR:=@Int.sign_eq_neg_one_iff_neg
abbrev WJ:=@size_zeroCells
abbrev WK:=@Nat.sub_le
abbrev WL:=@Nat.mod_le
abbrev WM:=@List.take_take
abbrev WN:=@List.take_left
abbrev WO:=@List.getD_eq_getElem?_getD
abbrev WP:=@Int.tmod_eq_emod_of_nonneg
abbrev WQ:=@Int.fdiv_eq_ediv_of_nonneg
abbrev WR:=@AllReadyH.cons
abbrev WU:=@List.getElem?_eq_none_iff
abbrev Xo:=@WideMaps.keyOf_string_mk
abbrev Xp:=@Int.mul_assoc
abbrev Xy:=@wpOp_mono
abbrev Xz:=@List.getElem?_cons_zero
abbrev XA:=@Int.tdiv_eq_ediv_of_dvd
abbrev XP:=@run_convert_bytes_back
abbrev XQ:=@dif_neg
abbrev XR:=@Rat.mul_zero
abbrev XS:=@List.findIdx_le_length
abbrev XT:=@Int.neg_tdiv
abbrev XZ:=@List.singleton_append
abbrev X0:=@List.contains_iff_mem
abbrev X1:=@Int.mul_tdiv_add_tmod
abbrev X2:=@Int.fdiv_fmod_unique'
abbrev X3:=@ByteArray.data_append
abbrev X5:=@setRow_heap
abbrev X6:=@nDigits_pos
abbrev X7:=@Nat.le_sub_one_of_lt
abbrev X8:=@Nat.gcd_rec
abbrev X9:=@Nat.div_pos
abbrev Ya:=@Int.fdiv_fmod_unique
abbrev Yb:=@List.zipWith_append
abbrev Yc:=@List.take_set_of_le
abbrev Yd:=@List.length_zipWith
abbrev Ye:=@List.flatMap_append
abbrev Yf:=@List.drop_set_of_lt
abbrev Yg:=@Array.length_toList
def tx (n:Int):ByteArray:=⟨(itoa n).toArray⟩
def AU (acc:Nat):List UInt8→Nat
 | []=>acc
 | c :: r=>AU (acc * 10+(c.toNat - 48)) r
theorem Dv (l m:List UInt8) (a:Nat):AU a (l ++ m)=AU (AU a l) m:=by
 induction l generalizing a with
 | nil=>rfl
 | cons c r ih=>exact ih _
theorem EF (k:Nat) (h:k < 10):(UInt8.ofNat (48+k)).toNat=48+k:=by
 rw [UInt8.toNat_ofNat']
 exact Cz (An (show 48+k < 58 by omega) (by decide))
theorem BP (u:Nat):AU 0 (decDigits u)=u:=by
 induction u using Nat.strongRecOn with
 | _ u ih=>
   by_cases h:u < 10
   ·rw [decDigits,dif_pos h]
    show 0 * 10+((UInt8.ofNat (48+u)).toNat - 48)=u
    rw [EF u h]; omega
   ·rw [decDigits,XQ h,Dv,ih (u / 10) (by omega)]
    show u / 10 * 10+((UInt8.ofNat (48+u % 10)).toNat - 48)=u
    rw [EF (u % 10) (by omega)]; omega
theorem B4 (u:Nat):∀ c ∈ decDigits u,48≤c.toNat∧c.toNat≤57:=by
 induction u using Nat.strongRecOn with
 | _ u ih=>
   by_cases h:u < 10
   ·rw [decDigits,dif_pos h]; intro c hc
    simp only [BE] at hc; subst hc; rw [EF u h]; omega
   ·rw [decDigits,XQ h]; intro c hc
    rcases Bb.1 hc with hc | hc
    ·exact ih (u / 10) (by omega) c hc
    ·simp only [BE] at hc; subst hc; rw [EF (u % 10) (by omega)]; omega
theorem F9 (u:Nat):decDigits u≠[]:=by
 intro h
 have:=decDigits_length u
 rw [h] at this
 have:=X6 u
 simp at *; omega
theorem QM {u v:Nat} (h:decDigits u=decDigits v):u=v:=by
 have:=BP u; rw [h,BP] at this; exact this.symm
theorem S5 {n m:Int} (h:itoa n=itoa m):n=m:=by
 unfold itoa at h
 have hd:∀ u c r,decDigits u=c :: r→48≤c.toNat:=fun u c r e=>(B4 u c (by rw [e]; simp)).1
 split at h <;> split at h
 ·injection h with _ h; have:=QM h; omega
 ·have:=hd _ _ _ h.symm; simp at this
 ·have:=hd _ _ _ h; simp at this
 ·have:=QM h; omega
theorem Ff (n:Int):(tx n).data.toList=itoa n:=by simp [tx]
theorem Di (n:Int):(tx n).size=(itoa n).length:=by simp [tx,ByteArray.size]
theorem BI {n:Int} (h:0≤n):itoa n=decDigits n.toNat:=by unfold itoa; rw [Ai (by omega)]
theorem Fi {n:Int} (h:n < 0):itoa n=45 :: decDigits n.natAbs:=by unfold itoa; rw [Al h]
theorem I5 (n:Int):0 < (itoa n).length:=by
 by_cases h:n < 0
 ·rw [Fi h]; simp
 ·rw [BI (by omega)]; exact CF.2 (F9 _)
theorem Hs (n:Int):0 < (tx n).size:=by rw [Di]; exact I5 n
theorem DN (k u:Nat) (hk:1≤k) (h:u < 10 ^ k):nDigits u≤k:=by
 induction k generalizing u with
 | zero=>omega
 | succ k ih=>
   by_cases h9:u < 10
   ·rw [nDigits_small h9]; omega
   ·rw [nDigits_big h9]
    by_cases hk0:k=0
    ·subst hk0; simp at h; omega
    ·have:=ih (u / 10) (by omega) (by rw [Be] at h; omega)
     omega
theorem Bw (k:Nat) (n:Int) (hk:1≤k) (h:n.natAbs < 10 ^ k):(tx n).size≤k+1:=by
 rw [Di]
 by_cases h0:n < 0
 ·rw [Fi h0]; have:=DN k n.natAbs hk h; simp [decDigits_length]; omega
 ·rw [BI (by omega),decDigits_length]
  have:=DN k n.toNat hk (by omega); omega
theorem Sc {n:Int} {c:UInt8} {r:List UInt8} (h:itoa n=c :: r) (hp:0 < (tx n).size):(tx n)[0]'hp=c:=by
 have e:(tx n).data=(c :: r).toArray:=by simp [tx,h]
 show (tx n).data[0]=c
 simp [e]
theorem FC {n:Int} (h:n < 0) (hp:0 < (tx n).size):((((tx n)[0]'hp).toNat:Int) == 45)=true:=by
 rw [Sc (Fi h) hp]; rfl
theorem FB {n:Int} (h:0≤n) (hp:0 < (tx n).size):((((tx n)[0]'hp).toNat:Int) == 45)=false:=by
 cases e:itoa n with
 | nil=>have:=I5 n; rw [e] at this; simp at this
 | cons c r=>
   rw [Sc e hp]
   have e2:=BI h
   have:=(B4 n.toNat c (by rw [← e2,e]; simp)).1
   simp; omega
theorem Ly {a b:ByteArray} (h:a.data.toList=b.data.toList):a=b:=by
 cases a; cases b; congr; exact Array.toList_inj.1 h
theorem IM {n:Int} (h:n < 0):(tx n).extract 1 (tx n).size=tx (-n):=by
 refine Ly ?_
 have h1:itoa n=45 :: itoa (-n):=by
  rw [Fi h,BI (by omega)]; congr 2; omega
 rw [Ff,Gf,Ho]
 have e:(tx n).data.toList=45 :: itoa (-n):=by rw [Ff,h1]
 have e2:(tx n).size=(itoa (-n)).length+1:=by rw [Di,h1]; rfl
 rw [e,e2]; simp [List.extract]
theorem MR {n:Int} (h:0 < n):(⟨#[45]⟩:ByteArray) ++ tx n=tx (-n):=by
 refine Ly ?_
 rw [Ff,Fi (by omega),X3,O3,Ff,BI (by omega)]
 simp; congr 1; omega
theorem HO:tx 0=⟨#[48]⟩:=by decide +kernel
theorem E1:tx 1=⟨#[49]⟩:=by decide +kernel
theorem Hf:∀ (l:List UInt8) (acc:Nat),(∀ c ∈ l,48≤c.toNat∧c.toNat≤57)→AU acc l < 18446744073709551616→parseUint10 acc l=.ok (AU acc l)
 | [],acc,_,_=>rfl
 | c :: r,acc,hd,hb=>by
   have hc:=hd c (by simp)
   have mono:∀ (l:List UInt8) (a:Nat),a≤AU a l:=by
    intro l; induction l with
    | nil=>intro a; exact Ah _
    | cons x l ih=>intro a; exact AM (by omega) (ih (a * 10+(x.toNat - 48)))
   have hb:AU (acc * 10+(c.toNat - 48)) r < 18446744073709551616:=hb
   show _=NumEnd.ok (AU (acc * 10+(c.toNat - 48)) r)
   have hm:=mono r (acc * 10+(c.toNat - 48))
   rw [parseUint10,Al hc,Ai (by omega),Ai (by omega)]
   exact Hf r _ (fun x hx=>hd x (by simp [hx])) hb
theorem I3 (u:Nat) (h:u < 18446744073709551616):parseMag (decDigits u)=.ok u:=by
 unfold parseMag
 rw [Ai (F9 u),Hf _ _ (B4 u) (by rw [BP]; exact h),BP]
theorem Jh (n:Int) (h0:-9223372036854775808≤n) (h1:n≤9223372036854775807):atoiAll (tx n).data.toList=.ok n:=by
 rw [Ff]
 by_cases h:n < 0
 ·rw [Fi h]
  simp only [atoiAll]
  rw [Al (by right; rfl),I3 _ (by omega)]
  have e45:(45:UInt8).toNat=45:=rfl
  simp only [e45,not_true_eq_false,false_and,RZ,true_and,if_true]
  rw [Ai (by omega)]
  congr 1; omega
 ·have e:=BI (n:=n) (by omega)
  rw [e]
  cases ed:decDigits n.toNat with
  | nil=>exact absurd ed (F9 _)
  | cons c r=>
    have hc:=B4 n.toNat c (by rw [ed]; simp)
    have hp:=I3 n.toNat (by omega)
    rw [ed] at hp
    simp only [atoiAll]
    rw [Ai (by omega),hp]
    have h45:¬ c.toNat=45:=by omega
    simp only [h45,not_false_eq_true,true_and,false_and,RZ]
    rw [Ai (by omega)]
    congr 1; omega
theorem Cq:∀ (l:List UInt8) (a:Nat),(∀ c ∈ l,48≤c.toNat∧c.toNat≤57)→a * 10 ^ l.length≤AU a l∧AU a l < (a+1) * 10 ^ l.length
 | [],a,_=>⟨by show a * 1≤a; omega,by show a < (a+1) * 1; omega⟩
 | c :: r,a,h=>by
   have hc:=h c (by simp)
   obtain ⟨h1,h2⟩:=Cq r (a * 10+(c.toNat - 48)) (fun x hx=>h x (by simp [hx]))
   have e:(c :: r).length=r.length+1:=rfl
   have q1:a * 10 ^ (r.length+1)=(a * 10) * 10 ^ r.length:=by rw [Be,EX (10 ^ r.length) 10,← O8]
   have q2:(a+1) * 10 ^ (r.length+1)=(a * 10+10) * 10 ^ r.length:=by rw [Be,EX (10 ^ r.length) 10,← O8,Nt a 1 10]
   rw [e,q1,q2]
   exact ⟨AM (Bg _ (by omega)) h1,An h2 (Bg _ (by omega))⟩
theorem Oa:∀ (l m:List UInt8) (a:Nat),(∀ c ∈ l,48≤c.toNat∧c.toNat≤57)→(∀ c ∈ m,48≤c.toNat∧c.toNat≤57)→l.length=m.length →
 Op.bytesLess l m=decide (AU a l < AU a m)
 | [],[],a,_,_,_=>by
   show false=decide (a < a); simp
 | [],_ :: _,_,_,_,h=>by simp at h
 | _ :: _,[],_,_,_,h=>by simp at h
 | c :: l,d :: m,a,hl,hm,h=>by
   have hc:=hl c (by simp)
   have hd:=hm d (by simp)
   have hl':∀ x ∈ l,48≤x.toNat∧x.toNat≤57:=fun x hx=>hl x (by simp [hx])
   have hm':∀ x ∈ m,48≤x.toNat∧x.toNat≤57:=fun x hx=>hm x (by simp [hx])
   have hlen:l.length=m.length:=by simpa using h
   obtain ⟨a1,a2⟩:=Cq l (a * 10+(c.toNat - 48)) hl'
   obtain ⟨b1,b2⟩:=Cq m (a * 10+(d.toNat - 48)) hm'
   show (decide (c < d) || (c == d && Op.bytesLess l m))=decide (AU (a * 10+(c.toNat - 48)) l < AU (a * 10+(d.toNat - 48)) m)
   rw [hlen] at a1 a2
   rcases Nat.lt_trichotomy c.toNat d.toNat with hlt | heq | hgt
   ·have e1:c < d:=L7.2 hlt
    have:(a * 10+(c.toNat - 48)+1) * 10 ^ m.length≤(a * 10+(d.toNat - 48)) * 10 ^ m.length:=Bg _ (by omega)
    rw [Ab e1,Bool.true_or]
    exact (Ab (An a2 (AM this b1))).symm
   ·obtain rfl:c=d:=Vu.1 heq
    have e1:¬ c < c:=fun h=>Ci _ (L7.1 h)
    rw [Aa e1,Hc,Pa,Bool.true_and]
    exact Oa l m _ hl' hm' hlen
   ·have e1:¬ c < d:=fun h=>by have:=L7.1 h; omega
    have e2:(c == d)=false:=by
     rw [E7]; intro h; rw [h] at hgt; omega
    have:(a * 10+(d.toNat - 48)+1) * 10 ^ m.length≤(a * 10+(c.toNat - 48)) * 10 ^ m.length:=Bg _ (by omega)
    rw [Aa e1,e2,Bool.false_and,Pa]
    refine (Aa ?_).symm
    have:=An b2 (AM this a1)
    omega
theorem S1 (u v:Nat) (h:(decDigits u).length=(decDigits v).length):Op.bytesLess (decDigits u) (decDigits v)=decide (u < v):=by
 rw [Oa _ _ 0 (B4 u) (B4 v) h,BP,BP]
theorem I1 (u:Nat) (h:2≤nDigits u):10 ^ (nDigits u - 1)≤u:=by
 induction u using Nat.strongRecOn with
 | _ u ih=>
   by_cases h9:u < 10
   ·rw [nDigits_small h9] at h; omega
   ·rw [nDigits_big h9]
    by_cases h2:2≤nDigits (u / 10)
    ·have:=ih (u / 10) (by omega) h2
     have e:nDigits (u / 10)+1 - 1=(nDigits (u / 10) - 1)+1:=by omega
     rw [e,Be]; omega
    ·have:=X6 (u / 10)
     have e:nDigits (u / 10)=1:=by omega
     rw [e]; show 10 ^ 1≤u; omega
theorem Gr (u v:Nat) (h:nDigits u < nDigits v):u < v:=by
 have h1:=lt_pow_nDigits u
 have h2:=I1 v (by have:=X6 u; omega)
 have h3:10 ^ nDigits u≤10 ^ (nDigits v - 1):=BK (by decide) (by omega)
 omega
theorem HP (n:Int):(tx n).toList=itoa n:=by rw [Da,Ff]
theorem Jw (n m:Int):((tx n).toList == itoa m)=decide (n=m):=by
 rw [HP]
 by_cases h:n=m
 ·subst h; simp
 ·rw [Aa h]
  rw [E7]; exact fun e=>h (S5 e)
theorem Xa:itoa 0=[48]:=by decide +kernel
theorem Qz:itoa 1=[49]:=by decide +kernel
theorem CH (n:Int):((tx n).toList == [48])=decide (n=0):=by rw [← Xa]; exact Jw n 0
theorem Uz (n m:Int):((tx n).toList == (tx m).toList)=decide (n=m):=by rw [HP m]; exact Jw n m
theorem Qd (u v:Nat) (h:(tx u).size=(tx v).size):Op.bytesLess (tx u).toList (tx v).toList=decide (u < v):=by
 rw [Di,Di,BI (by omega),BI (by omega)] at h
 rw [HP,HP,BI (by omega),BI (by omega)]
 exact S1 u v h
theorem B0 (u:Nat):(tx (u:Int)).size=nDigits u:=by
 rw [Di,BI (by omega),decDigits_length]; rfl
end Go.Proofs.YtcglmebcfeoedaaGreatDoor
namespace Go.Proofs.YtcglmebcfeoedaaGreatDoor
open Go.RowKit Go.Lib
def G (w : World) : Prop := TabIs Tryz.prog w "internal/strconv.uint64pow10" .u64 pow10Tab
def Fr (w w':World):Prop:=Below w.heap.size w w'
theorem Fr.refl (w:World):Fr w w:=Below.refl _ _
theorem Fr.of_eq {w w':World} (h:w=w'):Fr w w':=h ▸ Fr.refl w
theorem Fr.size {w w':World} (h:Fr w w'):w.heap.size≤w'.heap.size:=Below.size h
theorem Fr.trans {a b c:World} (h:Fr a b) (k:Fr b c):Fr a c:=Below.trans h (Below.mono k h.size)
theorem Fr.drew {a b:World} (h:Fr a b):Fr a b.drew:=Below.drew h
theorem Fr.drewN {a b:World} (h:Fr a b) (n:Nat):Fr a (b.drewN n) :=
 have h:Below a.heap.size a b:=h
 show Below a.heap.size a (b.drewN n) from ⟨h.os,h.tape,h.output,h.size,h.block⟩
theorem Fr.alloc {a b:World} (h:Fr a b) (o:Obj):Fr a (b.alloc o):=Below.alloc h h.size o
theorem Fr.setCell {a b:World} (h:Fr a b) {p:Addr} (hp:a.heap.size≤p.block) (u:Value):Fr a (b.setCell p u):=Below.setCell h hp u
theorem Fr.grown {a b c:World} {row:Option Nat} (h:Fr a b) (hg:b.grownBy c row) (hr:∀ k,row=some k→a.heap.size≤k):Fr a c :=
 Below.grown h hg h.size hr
theorem Bq {a b:World} (h:Fr a b:=by repeat (with_reducible first | assumption | exact Fr.refl _ | refine Fr.drew ?_ | refine Fr.drewN ?_ _ | refine Fr.alloc ?_ _ | (refine Fr.setCell ?_ (by simp only [AF,Fu,Cf]; omega) _) | refine Fr.trans ?_ (by assumption))):Fr a b:=h
theorem Fr.cell {w w':World} (h:Fr w w') {p:Addr} (hp:p.block < w.heap.size):w'.cell? p=w.cell? p:=Below.cell h hp
theorem Fr.frozen {w w':World} (h:Fr w w') {p:Addr} (hp:p.block < w.heap.size):w'.frozen? p=w.frozen? p:=Below.frozen h hp
theorem Fr.keep {w w':World} (h:Fr w w') {p:Addr} {v:Value} (hc:w.cell? p=some v):w'.cell? p=some v:=by
 rw [h.cell (AY w p hc)]; exact hc
theorem Fr.keepf {w w':World} (h:Fr w w') {p:Addr} {v:Value} {b:Bool} (hc:w.cell? p=some v) (hf:w.frozen? p=b):w'.frozen? p=b:=by
 rw [h.frozen (AY w p hc)]; exact hf
def Qt (w w':World):Prop:=∃ n,w'=w.drewN n
theorem Qt.refl (w:World):Qt w w:=⟨0,rfl⟩
theorem Qt.trans {a b c:World} (h:Qt a b) (k:Qt b c):Qt a c:=by
 obtain ⟨n,rfl⟩:=h; obtain ⟨m,rfl⟩:=k; exact ⟨n+m,by simp [World.drewN,Nat.add_assoc]⟩
theorem Qt.drewN {a b:World} (h:Qt a b) (n:Nat):Qt a (b.drewN n):=h.trans ⟨n,rfl⟩
theorem Qt.drew {a b:World} (h:Qt a b):Qt a b.drew:=h.trans ⟨1,rfl⟩
theorem Qt.fr {w w':World} (h:Qt w w'):Fr w w':=by obtain ⟨n,rfl⟩:=h; exact (Fr.refl w).drewN n
theorem Sb {P:Program} {g:Nat} {W:World} {n:String} {cs:Array Value} (hg:P.globalNamed n=some g) (hv:W.var? P n=some cs):g < W.heap.size:=by
 unfold World.var? at hv
 simp only [hg,EW] at hv
 by_cases h:g < W.heap.size
 ·exact h
 ·rw [LF (by omega)] at hv; simp at hv
theorem S8 : Tryz.prog.globalNamed "internal/strconv.uint64pow10" = some 2 := by kernel_rfl
theorem G.fr {w w':World} (h:G w) (k:Fr w w'):G w':=var?_below k S8 (Sb S8 h) h
theorem G.lt {w:World} (h:G w):2 < w.heap.size:=Sb S8 h
end Go.Proofs.YtcglmebcfeoedaaGreatDoor
namespace Go.Proofs.YtcglmebcfeoedaaGreatDoor
open Go.RowKit Go.Lib Go.Sort
theorem QE (w:World) (k:Nat) (os:Array Obj):Fr w (grow (w.drewN k) os):=
 (show Below w.heap.size w (grow (w.drewN k) os) from ⟨rfl,rfl,rfl,by simp [grow],fun i hi=>by simp [grow,Array.getElem?_append,hi]⟩)
theorem Lf {w w':World} {e:TypeId} (h:w'=w∨∃ t,w'=bytesWorld w e t):Fr w w':=by
 rcases h with rfl | ⟨t,rfl⟩
 ·exact Fr.refl _
 ·exact bytesWorld_below w e t
theorem ES (n:Int) (h0:-9223372036854775808≤n) (h1:n≤9223372036854775807) (w:World) (hG:G w) :
 Calls Tryz.prog 82 #[.int .i64 n] w fun e w'=>e=.returned (.string (tx n))∧Fr w w' :=
 (Tryz.strconv_Itoa n h0 h1 w hG).mono (by rintro e w' ⟨rfl,k,os,rfl⟩; exact ⟨rfl,QE _ _ _⟩)
theorem Jg (n:Int) (h0:-9223372036854775808≤n) (h1:n≤9223372036854775807) (w:World) :
 Calls Tryz.prog 88 #[.string (tx n)] w fun e w'=>e=.returned (.tuple #[.int .i64 n,.nilIface])∧Fr w w' :=
 (Tryz.strconv_Atoi_ok (tx n) (by have:=Bw 19 n (by omega) (by omega); omega) n (Jh n h0 h1) w).mono (by rintro e w' ⟨rfl,h⟩; exact ⟨rfl,Lf h⟩)
theorem B5 (n:Int) (h0:-9223372036854775808≤n) (h1:n≤9223372036854775807) (w:World) (hG:G w) :
 Calls Tryz.prog 81 #[.int .i64 n] w fun e w'=>e=.returned (.string (tx n))∧Fr w w':=by
 go_enter Tryz.func81,Tryz.ntmps81
 go_wp2_with (go_at_call 82; refine (ES _ h0 h1 _ hG).mono ?_; rintro e w' ⟨rfl,hf⟩)
 go_ret
 exact ⟨rfl,hf⟩
theorem Gl (n:Int) (hn:n < 0) (w:World) (hs:(tx n).size≤1000000000) :
 Calls Tryz.prog 137 #[.string (tx n)] w fun e w'=>e=.returned (.tuple #[.bool true,.string (tx (-n))])∧Qt w w':=by
 have h1:=Hs n
 have h2:=FC hn h1
 have h3:=hZ (IM hn)
 generalize tx n=s at *
 go_enter Tryz.func137,Tryz.ntmps137
 go_wp2
 go_quiet (fail)
 go_wp2
 go_ret2
 exact ⟨by rw [h3.out]; rfl,by repeat (with_reducible first | assumption | exact Qt.refl _ | refine Qt.drew ?_ | refine Qt.drewN ?_ _ | refine Qt.trans ?_ (by assumption))⟩
theorem IU (n:Int) (hn:n < 0) (w:World) (hs:(tx n).size≤1000000000) :
 Calls Tryz.prog 137 #[.string (tx n)] w fun e w'=>e=.returned (.tuple #[.bool true,.string (tx (-n))])∧Fr w w' :=
 (Gl n hn w hs).mono fun _ _ ⟨h,k⟩=>⟨h,k.fr⟩
theorem Gk (n:Int) (hn:0≤n) (w:World) (_hs:(tx n).size≤1000000000) :
 Calls Tryz.prog 137 #[.string (tx n)] w fun e w'=>e=.returned (.tuple #[.bool false,.string (tx n)])∧Qt w w':=by
 have h1:=Hs n
 have h2:=FB hn h1
 generalize tx n=s at *
 go_enter Tryz.func137,Tryz.ntmps137
 go_wp2
 go_ret2
 exact ⟨rfl,Qt.refl _⟩
theorem IR (n:Int) (hn:0≤n) (w:World) (_hs:(tx n).size≤1000000000) :
 Calls Tryz.prog 137 #[.string (tx n)] w fun e w'=>e=.returned (.tuple #[.bool false,.string (tx n)])∧Fr w w' :=
 (Gk n hn w _hs).mono fun _ _ ⟨h,k⟩=>⟨h,k.fr⟩
theorem CX (b:Bool) (n:Int) (hn:0≤n) (w:World) (_hs:(tx n).size≤1000000000) :
 Calls Tryz.prog 139 #[.bool b,.string (tx n)] w fun e w'=>e=.returned (.string (tx (if b then -n else n)))∧w=w':=by
 cases b
 ·go_enter Tryz.func139,Tryz.ntmps139
  go_wp2
  go_ret
  exact ⟨by simp,rfl⟩
 ·by_cases h:n=0
  ·have hb:((tx n).toList == [48])=true:=by rw [CH]; simp [h]
   have hh:=hZ h; clear h
   go_enter Tryz.func139,Tryz.ntmps139
   go_wp2
   go_ret
   exact ⟨by rw [hh.out]; rfl,rfl⟩
  ·have hb:((tx n).toList == [48])=false:=by rw [CH]; simp [h]
   have hj:=hZ (MR (n:=n) (by omega)); clear h
   go_enter Tryz.func139,Tryz.ntmps139
   go_wp2
   go_ret
   exact ⟨by rw [hj.out]; rfl,rfl⟩
theorem Bh (n most:Int) (h0:-9223372036854775808≤n) (h1:n≤9223372036854775807) (w:World) (hs:((tx n).size:Int)≤most) :
 Calls Tryz.prog 138 #[.string (tx n),.int .i64 most] w fun e w'=>e=.returned (.tuple #[.int .i64 n,.bool true])∧Fr w w':=by
 go_enter Tryz.func138,Tryz.ntmps138
 go_wp2_with (go_at_call 88; refine (Jg _ h0 h1 _).mono ?_; rintro e w' ⟨rfl,hf⟩)
 go_quiet (fail)
 go_wp2
 go_ret2
 exact ⟨rfl,by exact Bq⟩
theorem JK (n most:Int) (w:World) (hs:most < ((tx n).size:Int)) (_hb:(tx n).size≤1000000000) :
 Calls Tryz.prog 138 #[.string (tx n),.int .i64 most] w fun e w'=>e=.returned (.tuple #[.int .i64 0,.bool false])∧w=w':=by
 go_enter Tryz.func138,Tryz.ntmps138
 go_wp2
 go_ret2
 exact ⟨rfl,rfl⟩
theorem CM (n:Int) (w:World) :
 Calls Tryz.prog 174 #[.string (tx n)] w fun e w'=>e=.returned (.int .i64 n.sign)∧w=w':=by
 have hp:=Hs n
 have hb:=CH n
 rcases BW n 0 with h | h | h
 ·have h2:=FC h hp
  rw [Aa (by omega)] at hb
  have hs:=hZ (Int.sign_eq_neg_one_of_neg h); clear h
  go_enter Tryz.func174,Tryz.ntmps174
  go_wp2
  go_ret
  exact ⟨by rw [hs.out]; rfl,rfl⟩
 ·rw [Ab h] at hb
  have hs:=hZ h; clear h
  go_enter Tryz.func174,Tryz.ntmps174
  go_wp2
  go_ret
  exact ⟨by rw [hs.out]; rfl,rfl⟩
 ·have h2:=FB (by omega) hp
  rw [Aa (by omega)] at hb
  have hs:=hZ (Int.sign_eq_one_of_pos h); clear h
  go_enter Tryz.func174,Tryz.ntmps174
  go_wp2
  go_ret
  exact ⟨by rw [hs.out]; rfl,rfl⟩
def FK (a b:Int):Int:=if a < b then -1 else if b < a then 1 else 0
theorem A7 {k:IntKind} {a b:Int} (h:a=b):Ending.returned (.int k a)=Ending.returned (.int k b):=by rw [h]
theorem UJ {a b:ByteArray} (h:a=b):Ending.returned (.string a)=Ending.returned (.string b):=by rw [h]
theorem Ku (u v:Nat) (w:World) (hu:nDigits u < 1000000000) (hv:nDigits v < 1000000000) :
 Calls Tryz.prog 141 #[.string (tx u),.string (tx v)] w fun e w'=>e=.returned (.int .i64 (FK u v))∧w=w':=by
 have su:=B0 u
 have sv:=B0 v
 have hl1:=Qd u v
 have hl2:=Qd v u
 have he:=Uz u v
 generalize hx:tx (u:Int)=s at *
 generalize hy:tx (v:Int)=t at *
 clear hx hy
 have hu':s.size < 1000000000:=by omega
 have hv':t.size < 1000000000:=by omega
 by_cases h:s.size=t.size
 ·have l1:=hl1 h
  have l2:=hl2 h.symm
  have hne:((s.size:Int) != t.size)=false:=by rw [h]; simp
  clear hl1 hl2
  have h:=hZ h
  rcases Nat.lt_trichotomy u v with k | k | k
  ·rw [Ab k] at l1
   have hh:=hZ k; clear l2 he k su sv
   go_enter Tryz.func141,Tryz.ntmps141
   go_wp2
   go_ret
   exact ⟨A7 (by have:=hh.out; unfold FK; rw [Al (by omega)]),rfl⟩
  ·rw [Aa (by omega)] at l1 l2
   rw [Ab (by omega)] at he
   have hh:=hZ k; clear k su sv l2
   go_enter Tryz.func141,Tryz.ntmps141
   go_wp2
   go_ret
   exact ⟨A7 (by have:=hh.out; unfold FK; rw [Ai (by omega),Ai (by omega)]),rfl⟩
  ·rw [Aa (by omega)] at l1
   rw [Aa (by omega)] at he
   have hh:=hZ k; clear k su sv l2
   go_enter Tryz.func141,Tryz.ntmps141
   go_wp2
   go_ret
   exact ⟨A7 (by have:=hh.out; unfold FK; rw [Ai (by omega),Al (by omega)]),rfl⟩
 ·have hne:((s.size:Int) != t.size)=true:=by rw [Ba]; omega
  have k1:=Gr u v
  have k2:=Gr v u
  have k1:=hZ k1
  have k2:=hZ k2
  have hh:=hZ h
  have su:=hZ su
  have sv:=hZ sv
  clear hl1 hl2 he h
  rename_i k1' k2' su' sv'
  clear k1' k2' su' sv'
  go_enter Tryz.func141,Tryz.ntmps141
  go_wp2
  go_ret
  refine ⟨A7 ?_,rfl⟩
  have k1:=k1.out; have k2:=k2.out; have hh:=hh.out; have su:=su.out; have sv:=sv.out
  show min 1 (max (-1) ((s.size:Int) - t.size))=_
  unfold FK
  by_cases q:s.size < t.size
  ·rw [Al (by have:=k1 (by omega); omega)]; omega
  ·rw [Ai (by have:=k2 (by omega); omega),Al (by have:=k2 (by omega); omega)]; omega
theorem TW (n:Int) (w:World) (hs:(tx n).size≤1000000000) :
 Calls Tryz.prog 190 #[.string (tx n)] w fun e w'=>e=.returned (.string (tx (-n)))∧Qt w w':=by
 by_cases h:n < 0
 ·have hs':(tx (-n)).size≤1000000000:=by rw [← IM h,Dc]; omega
  go_enter Tryz.func190,Tryz.ntmps190
  go_wp2_with (first | (go_at_call 137; refine (Gl _ h _ hs).mono ?_; rintro e w' ⟨rfl,hf⟩) | (go_at_call 139; refine (CX false _ (by omega) _ hs').mono ?_; rintro e w' ⟨rfl,rfl⟩))
  go_ret
  exact ⟨by simp,by repeat (with_reducible first | assumption | exact Qt.refl _ | refine Qt.drew ?_ | refine Qt.drewN ?_ _ | refine Qt.trans ?_ (by assumption))⟩
 ·go_enter Tryz.func190,Tryz.ntmps190
  go_wp2_with (first | (go_at_call 137; refine (Gk _ (by omega) _ hs).mono ?_; rintro e w' ⟨rfl,hf⟩) | (go_at_call 139; refine (CX true _ (by omega) _ hs).mono ?_; rintro e w' ⟨rfl,rfl⟩))
  go_ret
  exact ⟨by simp,by repeat (with_reducible first | assumption | exact Qt.refl _ | refine Qt.drew ?_ | refine Qt.drewN ?_ _ | refine Qt.trans ?_ (by assumption))⟩
theorem G8 (n:Int) (w:World) (hs:(tx n).size≤1000000000) :
 Calls Tryz.prog 190 #[.string (tx n)] w fun e w'=>e=.returned (.string (tx (-n)))∧Fr w w' :=
 (TW n w hs).mono fun _ _ ⟨h,k⟩=>⟨h,k.fr⟩
theorem LE (n:Int) (w:World) (hs:(tx n).size≤1000000000) :
 Calls Tryz.prog 77 #[.string (tx n)] w fun e w'=>e=.returned (.string (tx (n.natAbs:Int)))∧Qt w w':=by
 by_cases h:n < 0
 ·have e:=hZ (show (n.natAbs:Int)=-n by omega)
  go_enter Tryz.func77,Tryz.ntmps77
  go_wp2_with (go_at_call 137; refine (Gl _ h _ hs).mono ?_; rintro e w' ⟨rfl,hf⟩)
  go_ret
  exact ⟨by rw [e.out]; rfl,by repeat (with_reducible first | assumption | exact Qt.refl _ | refine Qt.drew ?_ | refine Qt.drewN ?_ _ | refine Qt.trans ?_ (by assumption))⟩
 ·have e:=hZ (show (n.natAbs:Int)=n by omega)
  go_enter Tryz.func77,Tryz.ntmps77
  go_wp2_with (go_at_call 137; refine (Gk _ (by omega) _ hs).mono ?_; rintro e w' ⟨rfl,hf⟩)
  go_ret
  exact ⟨by rw [e.out]; rfl,by repeat (with_reducible first | assumption | exact Qt.refl _ | refine Qt.drew ?_ | refine Qt.drewN ?_ _ | refine Qt.trans ?_ (by assumption))⟩
theorem Jp (n:Int) (w:World) (hs:(tx n).size≤1000000000) :
 Calls Tryz.prog 77 #[.string (tx n)] w fun e w'=>e=.returned (.string (tx (n.natAbs:Int)))∧Fr w w' :=
 (LE n w hs).mono fun _ _ ⟨h,k⟩=>⟨h,k.fr⟩
theorem QP (a b:Int) (ha:0≤a) (hb:0≤b) (w:World) (hu:(tx a).size < 1000000000) (hv:(tx b).size < 1000000000) :
 Calls Tryz.prog 141 #[.string (tx a),.string (tx b)] w fun e w'=>e=.returned (.int .i64 (FK a b))∧w=w':=by
 obtain ⟨u,rfl⟩:=Kg ha
 obtain ⟨v,rfl⟩:=Kg hb
 exact Ku u v w (by rw [← B0]; exact hu) (by rw [← B0]; exact hv)
theorem FX (n:Int) (h:n < 0):(tx (-n)).size+1=(tx n).size:=by
 have:=Hs n
 rw [← IM h,Dc]; omega
theorem Jm (a b:Int) (w:World) (hu:(tx a).size < 1000000000) (hv:(tx b).size < 1000000000) :
 Calls Tryz.prog 171 #[.string (tx a),.string (tx b)] w fun e w'=>e=.returned (.int .i64 (FK a b))∧Qt w w':=by
 by_cases hs:a.sign=b.sign
 ·have hne:(a.sign != b.sign)=false:=by rw [hs]; simp
  have hs':=hZ hs
  by_cases ha:a < 0
  ·have hb:b < 0:=by
    rw [Int.sign_eq_neg_one_of_neg ha] at hs
    exact VR.1 hs.symm
   have sa:=FX a ha
   have sb:=FX b hb
   clear hs
   go_enter Tryz.func171,Tryz.ntmps171
   go_wp2_with fail
   refine (CM a _).mono ?_; rintro e w' ⟨rfl,rfl⟩
   go_wp2_with fail
   refine (CM b _).mono ?_; rintro e w' ⟨rfl,rfl⟩
   go_wp2_with fail
   refine (Gl a ha _ (by omega)).mono ?_; rintro e w1 ⟨rfl,hf1⟩
   go_wp2_with fail
   refine (Gl b hb _ (by omega)).mono ?_; rintro e w2 ⟨rfl,hf2⟩
   go_wp2_with fail
   refine (QP (-b) (-a) (by omega) (by omega) _ (by omega) (by omega)).mono ?_; rintro e w' ⟨rfl,rfl⟩
   go_wp2_with fail
   go_ret
   exact ⟨A7 (by unfold FK; split <;> split <;> omega),by repeat (with_reducible first | assumption | exact Qt.refl _ | refine Qt.drew ?_ | refine Qt.drewN ?_ _ | refine Qt.trans ?_ (by assumption))⟩
  ·have hb:¬ b < 0:=by
    intro hb
    rw [Int.sign_eq_neg_one_of_neg hb] at hs
    exact ha (VR.1 hs)
   clear hs
   go_enter Tryz.func171,Tryz.ntmps171
   go_wp2_with fail
   refine (CM a _).mono ?_; rintro e w' ⟨rfl,rfl⟩
   go_wp2_with fail
   refine (CM b _).mono ?_; rintro e w' ⟨rfl,rfl⟩
   go_wp2_with fail
   refine (Gk a (by omega) _ (by omega)).mono ?_; rintro e w1 ⟨rfl,hf1⟩
   go_wp2_with fail
   refine (Gk b (by omega) _ (by omega)).mono ?_; rintro e w2 ⟨rfl,hf2⟩
   go_wp2_with fail
   refine (QP a b (by omega) (by omega) _ hu hv).mono ?_; rintro e w' ⟨rfl,rfl⟩
   go_wp2_with fail
   go_ret
   exact ⟨rfl,by repeat (with_reducible first | assumption | exact Qt.refl _ | refine Qt.drew ?_ | refine Qt.drewN ?_ _ | refine Qt.trans ?_ (by assumption))⟩
 ·have hne:(a.sign != b.sign)=true:=by rw [Ba]; exact hs
  by_cases hl:a.sign < b.sign
  ·have hd:decide (a.sign < b.sign)=true:=Ab hl
   have hc:a < b:=by
    rcases BW a b with h | h | h
    ·exact h
    ·subst h; exact absurd rfl hs
    ·exfalso
     have s1:0≤a - b:=by omega
     rcases BW a 0 with p | p | p <;> rcases BW b 0 with q | q | q <;>
      simp [Int.sign_eq_neg_one_of_neg,Int.sign_eq_one_of_pos, *] at hl <;> omega
   have hc:=hZ hc
   clear hs
   go_enter Tryz.func171,Tryz.ntmps171
   go_wp2_with fail
   refine (CM a _).mono ?_; rintro e w' ⟨rfl,rfl⟩
   go_wp2_with fail
   refine (CM b _).mono ?_; rintro e w' ⟨rfl,rfl⟩
   go_wp2_with fail
   go_ret
   exact ⟨A7 (by have:=hc.out; unfold FK; rw [Al this]),by repeat (with_reducible first | assumption | exact Qt.refl _ | refine Qt.drew ?_ | refine Qt.drewN ?_ _ | refine Qt.trans ?_ (by assumption))⟩
  ·have hd:decide (a.sign < b.sign)=false:=Aa hl
   have hc:b < a:=by
    rcases BW a b with h | h | h
    ·exfalso
     rcases BW a 0 with p | p | p <;> rcases BW b 0 with q | q | q <;>
      simp [Int.sign_eq_neg_one_of_neg,Int.sign_eq_one_of_pos, *] at hl hs <;> omega
    ·subst h; exact absurd rfl hs
    ·exact h
   have hc:=hZ hc
   clear hs
   go_enter Tryz.func171,Tryz.ntmps171
   go_wp2_with fail
   refine (CM a _).mono ?_; rintro e w' ⟨rfl,rfl⟩
   go_wp2_with fail
   refine (CM b _).mono ?_; rintro e w' ⟨rfl,rfl⟩
   go_wp2_with fail
   go_ret
   exact ⟨A7 (by have:=hc.out; unfold FK; rw [Ai (by omega),Al this]),by repeat (with_reducible first | assumption | exact Qt.refl _ | refine Qt.drew ?_ | refine Qt.drewN ?_ _ | refine Qt.trans ?_ (by assumption))⟩
def Sm (n:Int):Prop:=-100000000000000000 < n∧n < 100000000000000000
def Ti (n:Int):Prop:=-100000000 < n∧n < 100000000
theorem Sm.size {n:Int} (h:Sm n):(tx n).size≤18:=by
 obtain ⟨h1,h2⟩:=h
 exact Bw 17 n (by omega) (by omega)
theorem Ti.size {n:Int} (h:Ti n):(tx n).size≤9:=by
 obtain ⟨h1,h2⟩:=h
 exact Bw 8 n (by omega) (by omega)
theorem Nr (a b:Int) (ha:Sm a) (hb:Sm b) (w:World) (hG:G w) :
 Calls Tryz.prog 79 #[.string (tx a),.string (tx b)] w fun e w'=>e=.returned (.string (tx (a+b)))∧Fr w w':=by
 have sa:=ha.size
 have sb:=hb.size
 obtain ⟨a1,a2⟩:=ha
 obtain ⟨b1,b2⟩:=hb
 go_enter Tryz.func79,Tryz.ntmps79
 go_wp2_with fail
 refine (Bh a 18 (by omega) (by omega) _ (by omega)).mono ?_; rintro e w1 ⟨rfl,hf1⟩
 go_wp2_with fail
 refine (Bh b 18 (by omega) (by omega) _ (by omega)).mono ?_; rintro e w2 ⟨rfl,hf2⟩
 go_wp2_with fail
 refine (B5 _ (by omega) (by omega) _ (hG.fr (hf1.trans hf2))).mono ?_; rintro e w3 ⟨rfl,hf3⟩
 go_wp2_with fail
 go_ret
 exact ⟨rfl,(hf1.trans hf2).trans hf3⟩
theorem PQ (a b:Int) (ha:Sm a) (hb:Sm b) (w:World) (hG:G w) :
 Calls Tryz.prog 123 #[.string (tx a),.string (tx b)] w fun e w'=>e=.returned (.string (tx (a - b)))∧Fr w w':=by
 have sb:=hb.size
 go_enter Tryz.func123,Tryz.ntmps123
 go_wp2_with fail
 refine (G8 b _ (by omega)).mono ?_; rintro e w1 ⟨rfl,hf1⟩
 go_wp2_with fail
 refine (Nr a (-b) ha (by obtain ⟨b1,b2⟩:=hb; exact ⟨by omega,by omega⟩) _ (hG.fr hf1)).mono ?_; rintro e w2 ⟨rfl,hf2⟩
 go_wp2_with fail
 go_ret
 exact ⟨by rw [Int.sub_eq_add_neg]; rfl,hf1.trans hf2⟩
theorem Pr {a b:Int} (ha:Ti a) (hb:Ti b):-10000000000000000≤a * b∧a * b≤10000000000000000:=by
 obtain ⟨a1,a2⟩:=ha
 obtain ⟨b1,b2⟩:=hb
 have h:a.natAbs * b.natAbs≤100000000 * 100000000:=CS (by omega) (by omega)
 rw [← BB] at h
 omega
theorem T4 (a b:Int) (ha:Ti a) (hb:Ti b) (w:World) (hG:G w) :
 Calls Tryz.prog 80 #[.string (tx a),.string (tx b)] w fun e w'=>e=.returned (.string (tx (a * b)))∧Fr w w':=by
 have sa:=ha.size
 have sb:=hb.size
 obtain ⟨m1,m2⟩:=Pr ha hb
 obtain ⟨a1,a2⟩:=ha
 obtain ⟨b1,b2⟩:=hb
 go_enter Tryz.func80,Tryz.ntmps80
 go_wp2_with fail
 refine (Bh a 9 (by omega) (by omega) _ (by omega)).mono ?_; rintro e w1 ⟨rfl,hf1⟩
 go_wp2_with fail
 refine (Bh b 9 (by omega) (by omega) _ (by omega)).mono ?_; rintro e w2 ⟨rfl,hf2⟩
 go_wp2_with fail
 refine (B5 _ (by omega) (by omega) _ (hG.fr (hf1.trans hf2))).mono ?_; rintro e w3 ⟨rfl,hf3⟩
 go_wp2_with fail
 go_ret
 exact ⟨rfl,(hf1.trans hf2).trans hf3⟩
theorem FD (a b:Int) (hb:b≠0):(a.tmod b).natAbs < b.natAbs:=by
 rw [Int.natAbs_tmod]; exact Cy _ (by omega)
theorem CU (a b:Int) (hb:b≠0) (h:a.tmod b=0∨(a.tmod b < 0 ↔ b < 0)):a.fdiv b=a.tdiv b∧a.fmod b=a.tmod b:=by
 have e:=X1 a b
 have m:=FD a b hb
 rcases IH hb with h1 | h1
 ·exact (X2 h1).2 ⟨by omega,by omega,by omega⟩
 ·exact (Ya h1).2 ⟨by omega,by omega,by omega⟩
theorem Eg (a b:Int) (hb:b≠0) (h0:a.tmod b≠0) (h:¬ (a.tmod b < 0 ↔ b < 0)):a.fdiv b=a.tdiv b - 1∧a.fmod b=a.tmod b+b:=by
 have e:=X1 a b
 have m:=FD a b hb
 have e2:b * (a.tdiv b - 1)=b * a.tdiv b - b:=by rw [Int.mul_sub,Int.mul_one]
 rcases IH hb with h1 | h1
 ·exact (X2 h1).2 ⟨by omega,by omega,by omega⟩
 ·exact (Ya h1).2 ⟨by omega,by omega,by omega⟩
theorem IP (a b:Int):(a.tdiv b).natAbs≤a.natAbs:=by
 rw [Int.natAbs_tdiv]; exact C3 _ _
theorem Ft (a b:Int) (ha:Sm a) (hb:Sm b) (h0:b≠0) (w:World) (hG:G w) :
 Calls Tryz.prog 172 #[.string (tx a),.string (tx b)] w fun e w'=>e=.returned (.tuple #[.string (tx (a.fdiv b)),.string (tx (a.fmod b)),.int .i64 0])∧Fr w w':=by
 have sa:=ha.size
 have sb:=hb.size
 have hz:((tx b).toList == [48])=false:=by rw [CH]; exact Aa h0
 obtain ⟨a1,a2⟩:=ha
 obtain ⟨b1,b2⟩:=hb
 have td:=IP a b
 have tm:=FD a b h0
 have k1:IntKind.i64.wrap (a.tdiv b)=a.tdiv b:=Aj _ (by omega)
 have k2:IntKind.i64.wrap (a.tmod b)=a.tmod b:=Aj _ (by omega)
 by_cases hr0:a.tmod b=0
 ·have hfin:=hZ (show a.fdiv b=a.tdiv b∧a.fmod b=0 from by have:=CU a b h0 (.inl hr0); rw [hr0] at this; exact this)
  have c1:(a.tmod b != 0)=false:=by rw [hr0]; rfl
  have tm1:-100000000000000000 < a.tmod b∧a.tmod b < 100000000000000000:=by omega
  have td1:-100000000000000000 < a.tdiv b∧a.tdiv b < 100000000000000000:=by omega
  obtain ⟨tm1,tm2⟩:=tm1
  obtain ⟨td1,td2⟩:=td1
  clear td tm
  go_enter Tryz.func172,Tryz.ntmps172
  go_wp2_with fail
  refine (Bh a 18 (by omega) (by omega) _ (by omega)).mono ?_; rintro e w1 ⟨rfl,hf1⟩
  go_wp2_with fail
  refine (Bh b 18 (by omega) (by omega) _ (by omega)).mono ?_; rintro e w2 ⟨rfl,hf2⟩
  go_wp2_with fail
  go_quiet (fail)
  clear k1 k2
  have hfq:=hf1.trans hf2
  go_wp2_with fail
  refine (B5 _ (by omega) (by omega) _ (hG.fr (by exact Bq))).mono ?_; rintro e w3 ⟨rfl,hf3⟩
  go_wp2_with fail
  refine (B5 _ (by omega) (by omega) _ (hG.fr (by exact Bq))).mono ?_; rintro e w4 ⟨rfl,hf4⟩
  go_wp2_with fail
  go_ret3
  exact ⟨by rw [hfin.out.1,hfin.out.2]; rfl,by exact Bq⟩
 ·have c1:(a.tmod b != 0)=true:=by rw [Ba]; exact hr0
  by_cases hr:a.tmod b < 0 <;> by_cases hb:b < 0
  ·have hfin:=hZ (CU a b h0 (.inr (by simp [hr,hb])))
   have c2:(decide (a.tmod b < 0))=true:=Ab hr
   have c3:(decide (b < 0))=true:=Ab hb
   have tm1:-100000000000000000 < a.tmod b:=by omega
   have tm2:a.tmod b < 100000000000000000:=by omega
   have td1:-100000000000000000 < a.tdiv b:=by omega
   have td2:a.tdiv b < 100000000000000000:=by omega
   clear td tm hr0 hr hb
   go_enter Tryz.func172,Tryz.ntmps172
   go_wp2_with fail
   refine (Bh a 18 (by omega) (by omega) _ (by omega)).mono ?_; rintro e w1 ⟨rfl,hf1⟩
   go_wp2_with fail
   refine (Bh b 18 (by omega) (by omega) _ (by omega)).mono ?_; rintro e w2 ⟨rfl,hf2⟩
   go_wp2_with fail
   go_quiet (fail)
   clear k1 k2
   have hfq:=hf1.trans hf2
   go_wp2_with fail
   refine (B5 _ (by omega) (by omega) _ (hG.fr (by exact Bq))).mono ?_; rintro e w3 ⟨rfl,hf3⟩
   go_wp2_with fail
   refine (B5 _ (by omega) (by omega) _ (hG.fr (by exact Bq))).mono ?_; rintro e w4 ⟨rfl,hf4⟩
   go_wp2_with fail
   go_ret3
   exact ⟨by rw [hfin.out.1,hfin.out.2]; rfl,by exact Bq⟩
  ·have hfin:=hZ (Eg a b h0 hr0 (by simp [hr,hb]))
   have c2:(decide (a.tmod b < 0))=true:=Ab hr
   have c3:(decide (b < 0))=false:=Aa hb
   have tm1:-100000000000000000 < a.tmod b:=by omega
   have tm2:a.tmod b < 100000000000000000:=by omega
   have td1:-100000000000000000 < a.tdiv b:=by omega
   have td2:a.tdiv b < 100000000000000000:=by omega
   clear td tm hr0 hr hb
   go_enter Tryz.func172,Tryz.ntmps172
   go_wp2_with fail
   refine (Bh a 18 (by omega) (by omega) _ (by omega)).mono ?_; rintro e w1 ⟨rfl,hf1⟩
   go_wp2_with fail
   refine (Bh b 18 (by omega) (by omega) _ (by omega)).mono ?_; rintro e w2 ⟨rfl,hf2⟩
   go_wp2_with fail
   go_quiet (fail)
   clear k1 k2
   have hfq:=hf1.trans hf2
   go_wp2_with fail
   refine (B5 _ (by omega) (by omega) _ (hG.fr (by exact Bq))).mono ?_; rintro e w3 ⟨rfl,hf3⟩
   go_wp2_with fail
   refine (B5 _ (by omega) (by omega) _ (hG.fr (by exact Bq))).mono ?_; rintro e w4 ⟨rfl,hf4⟩
   go_wp2_with fail
   go_ret3
   exact ⟨by rw [hfin.out.1,hfin.out.2]; rfl,by exact Bq⟩
  ·have hfin:=hZ (Eg a b h0 hr0 (by simp [hr,hb]))
   have c2:(decide (a.tmod b < 0))=false:=Aa hr
   have c3:(decide (b < 0))=true:=Ab hb
   have tm1:-100000000000000000 < a.tmod b:=by omega
   have tm2:a.tmod b < 100000000000000000:=by omega
   have td1:-100000000000000000 < a.tdiv b:=by omega
   have td2:a.tdiv b < 100000000000000000:=by omega
   clear td tm hr0 hr hb
   go_enter Tryz.func172,Tryz.ntmps172
   go_wp2_with fail
   refine (Bh a 18 (by omega) (by omega) _ (by omega)).mono ?_; rintro e w1 ⟨rfl,hf1⟩
   go_wp2_with fail
   refine (Bh b 18 (by omega) (by omega) _ (by omega)).mono ?_; rintro e w2 ⟨rfl,hf2⟩
   go_wp2_with fail
   go_quiet (fail)
   clear k1 k2
   have hfq:=hf1.trans hf2
   go_wp2_with fail
   refine (B5 _ (by omega) (by omega) _ (hG.fr (by exact Bq))).mono ?_; rintro e w3 ⟨rfl,hf3⟩
   go_wp2_with fail
   refine (B5 _ (by omega) (by omega) _ (hG.fr (by exact Bq))).mono ?_; rintro e w4 ⟨rfl,hf4⟩
   go_wp2_with fail
   go_ret3
   exact ⟨by rw [hfin.out.1,hfin.out.2]; rfl,by exact Bq⟩
  ·have hfin:=hZ (CU a b h0 (.inr (by simp [hr,hb])))
   have c2:(decide (a.tmod b < 0))=false:=Aa hr
   have c3:(decide (b < 0))=false:=Aa hb
   have tm1:-100000000000000000 < a.tmod b:=by omega
   have tm2:a.tmod b < 100000000000000000:=by omega
   have td1:-100000000000000000 < a.tdiv b:=by omega
   have td2:a.tdiv b < 100000000000000000:=by omega
   clear td tm hr0 hr hb
   go_enter Tryz.func172,Tryz.ntmps172
   go_wp2_with fail
   refine (Bh a 18 (by omega) (by omega) _ (by omega)).mono ?_; rintro e w1 ⟨rfl,hf1⟩
   go_wp2_with fail
   refine (Bh b 18 (by omega) (by omega) _ (by omega)).mono ?_; rintro e w2 ⟨rfl,hf2⟩
   go_wp2_with fail
   go_quiet (fail)
   clear k1 k2
   have hfq:=hf1.trans hf2
   go_wp2_with fail
   refine (B5 _ (by omega) (by omega) _ (hG.fr (by exact Bq))).mono ?_; rintro e w3 ⟨rfl,hf3⟩
   go_wp2_with fail
   refine (B5 _ (by omega) (by omega) _ (hG.fr (by exact Bq))).mono ?_; rintro e w4 ⟨rfl,hf4⟩
   go_wp2_with fail
   go_ret3
   exact ⟨by rw [hfin.out.1,hfin.out.2]; rfl,by exact Bq⟩
theorem KX (n:Int) (h0:-9223372036854775808≤n) (h1:n≤9223372036854775807):parseIntB 64 (tx n).data.toList=.ok n:=by
 rw [parseIntB_64]; exact Jh n h0 h1
theorem HI (n:Int) (h0:-9223372036854775808≤n) (h1:n≤9223372036854775807) (w:World) :
 Calls Tryz.prog 126 #[.string (tx n)] w fun e w'=>e=.returned (.tuple #[.int .i64 n,.bool true])∧Fr w w':=by
 have hs:=Bw 19 n (by omega) (by omega)
 go_enter Tryz.func126,Tryz.ntmps126
 go_wp2_with fail
 refine (Tryz.strconv_ParseInt_10_at64_ok (tx n) (by omega) n (KX n h0 h1) _).mono ?_; rintro e w1 ⟨rfl,hw⟩
 have hf:=Lf hw; clear hw
 go_wp2_with fail
 go_ret2
 exact ⟨rfl,hf⟩
end Go.Proofs.YtcglmebcfeoedaaGreatDoor
namespace Go.Proofs.YtcglmebcfeoedaaGreatDoor
open Go.RowKit Go.Lib
def El {α:Type} (w:World) (enc:α→Value) (a:Option Addr) (xs:List α):Prop :=
 xs=[]∨∃ b o,a=some ⟨b,o,none⟩∧b < w.heap.size∧∀ i x,xs[i]?=some x→w.cell? ⟨b,o+i,none⟩=some (enc x)
theorem El.fr {α:Type} {w w':World} {enc:α→Value} {a:Option Addr} {xs:List α} (h:El w enc a xs) (k:Fr w w'):El w' enc a xs:=by
 rcases h with h | ⟨b,o,ha,hb,hc⟩
 ·exact .inl h
 ·exact .inr ⟨b,o,ha,An hb k.size,fun i x hx=>by rw [k.cell hb]; exact hc i x hx⟩
theorem El.at {α:Type} {w:World} {enc:α→Value} {a:Option Addr} {xs:List α} (h:El w enc a xs) {i:Nat} (hi:i < xs.length) :
 ∃ b o x,a=some ⟨b,o,none⟩∧b < w.heap.size∧xs[i]?=some x∧w.cell? ⟨b,o+i,none⟩=some (enc x):=by
 rcases h with h | ⟨b,o,ha,hb,hc⟩
 ·subst h; simp at hi
 ·exact ⟨b,o,xs[i],ha,hb,Ac hi,hc i _ (Ac hi)⟩
abbrev iv:Int→Value:=fun n=>.int .i64 n
abbrev sv:Int→Value:=fun n=>.string (tx n)
def Nk {α:Type} (w:World) (g:Nat) (cap:Array Value) (enc:α→Value) (p:α→Bool) (xs:List α):Prop :=
 ∀ x W,x ∈ xs→Fr w W→Calls Tryz.prog g (#[enc x] ++ cap) W fun e W'=>e=.returned (.bool (p x))∧Fr W W'
def Iv {α:Type} (p:α→Bool) (xs:List α):Int:=match xs.findIdx? p with | some i=>i | none=>-1
theorem I7 {α:Type} {p:α→Bool} {xs:List α} {k:Nat} {x:α} (h:∀ j x,j < k→xs[j]?=some x→p x=false) (hx:xs[k]?=some x) (hp:p x=false) :
 Hid (∀ j x,j < k+1→xs[j]?=some x→p x=false):=fun j y hj hy=>by
 by_cases e:j=k
 ·subst e; rw [hx] at hy; injection hy with hy; rw [← hy]; exact hp
 ·exact h j y (by omega) hy
theorem HX {α:Type} {p:α→Bool} {xs:List α} {k:Nat} {x:α} (h:∀ j x,j < k→xs[j]?=some x→p x=false) (hx:xs[k]?=some x) (hp:p x=true):Iv p xs=k:=by
 unfold Iv
 have hk:k < xs.length:=(Ag.1 hx).1
 have:xs.findIdx? p=some k:=by
  rw [Dw]
  refine ⟨hk, ?_,fun j hj=>?_⟩
  ·rw [(Ag.1 hx).2]; exact hp
  ·rw [h j _ hj (Ac (by omega))]; simp
 rw [this]
theorem I8 {α:Type} {p:α→Bool} {xs:List α} (h:∀ j x,j < xs.length→xs[j]?=some x→p x=false):Iv p xs=-1:=by
 unfold Iv
 have:xs.findIdx? p=none:=by
  rw [Jq]
  intro x hx
  obtain ⟨i,hi,e⟩:=E8 hx
  exact h i x hi (by rw [Ac hi,e])
 rw [this]
theorem QC {α:Type} (p:α→Bool) (xs:List α):decide (0≤Iv p xs)=xs.any p:=by
 unfold Iv
 cases e:xs.findIdx? p with
 | none=>
   rw [Jq] at e
   have:xs.any p=false:=Cc.2 (fun x hx=>by simp [e x hx])
   rw [this]; rfl
 | some i=>
   obtain ⟨h,hp,_⟩:=Dw.1 e
   have:xs.any p=true:=Uq.2 ⟨xs[i],A3 h,hp⟩
   rw [this]; simp
theorem Mu {α:Type} (p:α→Bool) (xs:List α):(Iv p xs=-1∧∀ x,x ∈ xs→p x=false)∨∃ (k:Nat) (x:α),Iv p xs=k∧xs[k]?=some x∧p x=true∧∀ j y,j < k→xs[j]?=some y→p y=false:=by
 unfold Iv
 cases e:xs.findIdx? p with
 | none=>
   rw [Jq] at e
   exact .inl ⟨rfl,e⟩
 | some i=>
   obtain ⟨h,hp,hq⟩:=Dw.1 e
   refine .inr ⟨i,xs[i],rfl,Ac h,hp,fun j y hj hy=>?_⟩
   have:=hq j hj
   obtain ⟨h2,rfl⟩:=Ag.1 hy
   simpa using this
theorem Ig (xs:List Int) (a:Option Addr) (cap:Nat) (g:Nat) (lb:Array Value) (p:Int→Bool) (w:World)
 (eg:∀ args w,(callFunc g args).run Tryz.prog w=.ok (.enter g args) w) (hx:El w iv a xs) (hl:xs.length≤1000000000) (hp:Nk w g lb iv p xs) :
 Calls Tryz.prog 49 #[.slice a xs.length cap,.func (.func g) #[] lb] w fun e w'=>e=.returned (.int .i64 (Iv p xs))∧Fr w w':=by
 go_enter Tryz.func49,Tryz.ntmps49
 go_wp2
 go_loopw [5,8] (fun _ s8 wr=>∃ k:Nat,s8=.int .i64 k∧k≤xs.length∧Fr w wr∧Hid (∀ j x,j < k→xs[j]?=some x→p x=false)) (fun _ s8 _=>xs.length - (RowKit.intOf s8).toNat)
 case atStart=>exact ⟨0,rfl,BJ _,Fr.refl _,fun j x h=>absurd h (DD _)⟩
 case round=>
  obtain ⟨k,rfl,hk,hf,hb⟩:=hrel
  by_cases hlt:k < xs.length
  ·obtain ⟨b,o,x,rfl,hbl,hxk,hcell⟩:=(hx.fr hf).at hlt
   have hpx:=hp x wr (Ae hxk) hf
   have hxk:=hZ hxk
   go_wp2_with fail
   refine hpx.mono ?_
   rintro e w1 ⟨rfl,hf1⟩
   go_wp2_with fail
   ·have hpt:p x=true:=by assumption
    go_ret
    exact ⟨A7 (HX hb.out hxk.out hpt).symm,hf.trans hf1⟩
   ·have hpf:p x=false:=by assumption
    go_roundw
    case rel=>exact ⟨k+1,by go_num,by omega,hf.trans hf1,I7 hb.out hxk.out hpf⟩
    case measure=>simp [RowKit.intOf]; omega
  ·go_wp2_with fail
   go_ret
   exact ⟨A7 (I8 (by rw [show xs.length=k by omega]; exact hb.out)).symm,hf⟩
theorem GF (xs:List Int) (a:Option Addr) (cap:Nat) (g:Nat) (lb:Array Value) (p:Int→Bool) (w:World)
 (eg:∀ args w,(callFunc g args).run Tryz.prog w=.ok (.enter g args) w) (hx:El w iv a xs) (hl:xs.length≤1000000000) (hp:Nk w g lb iv p xs) :
 Calls Tryz.prog 13 #[.slice a xs.length cap,.func (.func g) #[] lb] w fun e w'=>e=.returned (.bool (xs.any p))∧Fr w w':=by
 rw [← QC]
 have hc:=Ig xs a cap g lb p w eg hx hl hp
 clear hp
 go_enter Tryz.func13,Tryz.ntmps13
 go_wp2_with fail
 refine hc.mono ?_
 rintro e w' ⟨rfl,hf⟩
 go_wp2_with fail
 go_ret
 exact ⟨rfl,hf⟩
def Br (n:Int):Bool:=decide (-1000000000≤n∧n≤1000000000)
def CV (xs:List Int):Int:=if 64 < xs.length then 4 else if xs.any (fun n=>!Br n) then 4 else 0
theorem Re {xs:List Int} (h:64 < xs.length):CV xs=4:=by unfold CV; rw [Al h]
theorem SI {xs:List Int} (h:xs.any (fun n=>!Br n)=true):CV xs=4:=by unfold CV; rw [h]; split <;> rfl
theorem GS {xs:List Int} (h:¬ 64 < xs.length) (h2:xs.any (fun n=>!Br n)=false):CV xs=0:=by unfold CV; rw [Ai h,h2]; rfl
theorem BS {a b:Bool} (h:a=b):Ending.returned (.bool a)=Ending.returned (.bool b):=by rw [h]
theorem Td (n:Int) (w:World):Calls Tryz.prog 56 #[.int .i64 n] w fun e w'=>e=.returned (.bool (Br n))∧w=w':=by
 by_cases h1:-1000000000≤n
 ·by_cases h2:n≤1000000000
  ·have hf:=hZ (show Br n=true from Ab ⟨h1,h2⟩)
   go_enter Tryz.func56,Tryz.ntmps56
   go_wp2
   go_ret
   exact ⟨BS hf.out.symm,rfl⟩
  ·have hf:=hZ (show Br n=false from Aa (fun h=>h2 h.2))
   have d2:decide (n≤1000000000)=false:=Aa h2
   go_enter Tryz.func56,Tryz.ntmps56
   go_wp2
   go_ret
   exact ⟨BS hf.out.symm,rfl⟩
 ·have hf:=hZ (show Br n=false from Aa (fun h=>h1 h.1))
  have d1:decide (-1000000000≤n)=false:=Aa h1
  go_enter Tryz.func56,Tryz.ntmps56
  go_wp2
  go_ret
  exact ⟨BS hf.out.symm,rfl⟩
theorem O1 (w:World) (xs:List Int):Nk w 55 #[] iv (fun n=>!Br n) xs:=fun x W _ _=>by
 show Calls Tryz.prog 55 #[.int .i64 x] W _
 go_enter Tryz.func55,Tryz.ntmps55
 go_wp2_with fail
 refine (Td x _).mono ?_; rintro e w' ⟨rfl,rfl⟩
 go_wp2_with fail
 go_ret
 exact ⟨rfl,Fr.refl _⟩
theorem Ei (xs:List Int) (a:Option Addr) (cap:Nat) (w:World) (hx:El w iv a xs) (hl:xs.length≤1000000000) :
 Calls Tryz.prog 17 #[.slice a xs.length cap] w fun e w'=>e=.returned (.int .i64 (CV xs))∧Fr w w':=by
 by_cases h:64 < xs.length
 ·have hf:=hZ (Re h)
  go_enter Tryz.func17,Tryz.ntmps17
  go_wp2_with fail
  go_ret
  exact ⟨A7 hf.out.symm,Fr.refl _⟩
 ·have eg:∀ args w,(callFunc 55 args).run Tryz.prog w=.ok (.enter 55 args) w:=NC Tryz.func55 (by kernel_rfl) rfl
  have hc:=GF xs a cap 55 #[] (fun n=>!Br n) w eg hx hl (O1 w xs)
  have d1:decide ((64:Int) < (xs.length:Int))=false:=Aa (by omega)
  have hh:=hZ h
  clear h eg
  cases hb:xs.any (fun n=>!Br n)
  ·have hf:=hZ (GS hh.out hb)
   rw [hb] at hc; clear hb
   go_enter Tryz.func17,Tryz.ntmps17
   go_wp2_with fail
   refine hc.mono ?_; rintro e w' ⟨rfl,hf1⟩
   go_wp2_with fail
   go_ret
   exact ⟨A7 hf.out.symm,hf1⟩
  ·have hf:=hZ (SI hb)
   rw [hb] at hc; clear hb
   go_enter Tryz.func17,Tryz.ntmps17
   go_wp2_with fail
   refine hc.mono ?_; rintro e w' ⟨rfl,hf1⟩
   go_wp2_with fail
   go_ret
   exact ⟨A7 hf.out.symm,hf1⟩
theorem Q4 {α:Type} {xs ys:List α} {k:Nat} {x:α} (h:xs.take k=ys.take k) (hx:xs[k]?=some x) (hy:ys[k]?=some x):Hid (xs.take (k+1)=ys.take (k+1)):=by
 show _=_
 rw [C0,C0,h,hx,hy]
theorem RW (xs ys:List Int) (a b:Option Addr) (ca cb:Nat) (w:World) (hx:El w iv a xs) (hy:El w iv b ys) (_hl:xs.length≤1000000000) (_hm:ys.length≤1000000000) :
 Calls Tryz.prog 38 #[.slice a xs.length ca,.slice b ys.length cb] w fun e w'=>e=.returned (.bool (decide (xs=ys)))∧Fr w w':=by
 by_cases hlen:xs.length=ys.length
 ·have hne:((xs.length:Int) != ys.length)=false:=by rw [hlen]; simp
  have hlen:=hZ hlen
  rename_i hlen0
  clear hlen0
  go_enter Tryz.func38,Tryz.ntmps38
  go_wp2_with fail
  go_loopw [5,13] (fun _ s13 wr=>∃ k:Nat,s13=.int .i64 k∧k≤xs.length∧Fr w wr∧Hid (xs.take k=ys.take k)) (fun _ s13 _=>xs.length - (RowKit.intOf s13).toNat)
  case atStart=>exact ⟨0,rfl,BJ _,Fr.refl _,show _=_ by simp⟩
  case round=>
   obtain ⟨k,rfl,hk,hf,hb⟩:=hrel
   by_cases hlt:k < xs.length
   ·have hlt2:k < ys.length:=by rw [← hlen.out]; exact hlt
    obtain ⟨b1,o1,x,rfl,hbl1,hxk,hcell1⟩:=(hx.fr hf).at hlt
    obtain ⟨b2,o2,y,rfl,hbl2,hyk,hcell2⟩:=(hy.fr hf).at hlt2
    have hxk:=hZ hxk
    have hyk:=hZ hyk
    by_cases hxy:x=y
    ·have hq:(x != y)=false:=by rw [hxy]; simp
     have hxy:=hZ hxy
     rename_i hxy0; clear hxy0
     go_wp2_with fail
     go_quiet (fail)
     go_wp2_with fail
     go_roundw
     case rel=>exact ⟨k+1,by go_num,by omega,hf.drewN _,Q4 hb.out hxk.out (by rw [hxy.out]; exact hyk.out)⟩
     case measure=>simp [RowKit.intOf]; omega
    ·have hq:(x != y)=true:=by rw [Ba]; exact hxy
     have hfin:=hZ (show decide (xs=ys)=false from Aa (fun e=>hxy (by have h1:=hxk.out; have h2:=hyk.out; rw [e,h2] at h1; injection h1 with h1; exact h1.symm)))
     clear hxy
     go_wp2_with fail
     go_quiet (fail)
     go_wp2_with fail
     go_ret
     exact ⟨BS hfin.out.symm,hf.drewN _⟩
   ·have hfin:=hZ (show decide (xs=ys)=true from Ab (by have h:=hb.out; rw [Ak (by omega),Ak (by have:=hlen.out; omega)] at h; exact h))
    go_wp2_with fail
    go_ret
    exact ⟨BS hfin.out.symm,hf⟩
 ·have hne:((xs.length:Int) != ys.length)=true:=by rw [Ba]; omega
  have hfin:=hZ (show decide (xs=ys)=false from Aa (fun e=>hlen (by rw [e])))
  clear hlen
  go_enter Tryz.func38,Tryz.ntmps38
  go_wp2_with fail
  go_ret
  exact ⟨BS hfin.out.symm,Fr.refl _⟩
theorem Cw (w:World) (x y:Value) (t:TypeId):(w.alloc (.cells #[x,y] t)).cell? ⟨w.heap.size,0,none⟩=some x∧(w.alloc (.cells #[x,y] t)).frozen? ⟨w.heap.size,0,none⟩=false:=by
 have h:=Ct w (.cells #[x,y] t (0,0))
 exact ⟨by unfold World.cell?; rw [h]; rfl,by unfold World.frozen?; rw [h]; rfl⟩
theorem Cv (w:World) (x y:Value) (t:TypeId):(w.alloc (.cells #[x,y] t)).cell? ⟨w.heap.size,1,none⟩=some y∧(w.alloc (.cells #[x,y] t)).frozen? ⟨w.heap.size,1,none⟩=false:=by
 have h:=Ct w (.cells #[x,y] t (0,0))
 exact ⟨by unfold World.cell?; rw [h]; rfl,by unfold World.frozen?; rw [h]; rfl⟩
def NB (w:World) (a:Option Addr) (xs:List (Value×Value)):Prop :=
 xs=[]∨∃ b o,a=some ⟨b,o,none⟩∧b < w.heap.size∧∀ i x,xs[i]?=some x→w.cell? ⟨b,o+i * 2,none⟩=some x.1∧w.cell? ⟨b,o+i * 2+1,none⟩=some x.2
theorem NB.fr {w w':World} {a:Option Addr} {xs:List (Value×Value)} (h:NB w a xs) (k:Fr w w'):NB w' a xs:=by
 rcases h with h | ⟨b,o,ha,hb,hc⟩
 ·exact .inl h
 ·exact .inr ⟨b,o,ha,An hb k.size,fun i x hx=>by rw [k.cell hb,k.cell hb]; exact hc i x hx⟩
theorem NB.at {w:World} {a:Option Addr} {xs:List (Value×Value)} (h:NB w a xs) {i:Nat} (hi:i < xs.length) :
 ∃ b o x,a=some ⟨b,o,none⟩∧b < w.heap.size∧xs[i]?=some x∧w.cell? ⟨b,o+i * 2,none⟩=some x.1∧w.cell? ⟨b,o+i * 2+1,none⟩=some x.2:=by
 rcases h with h | ⟨b,o,ha,hb,hc⟩
 ·subst h; simp at hi
 ·exact ⟨b,o,xs[i],ha,hb,Ac hi,hc i _ (Ac hi)⟩
theorem NB.take {w:World} {a:Option Addr} {xs:List (Value×Value)} (h:NB w a xs) (n:Nat):NB w a (xs.take n):=by
 rcases h with h | ⟨b,o,ha,hb,hc⟩
 ·subst h; exact .inl (by simp)
 ·refine .inr ⟨b,o,ha,hb,fun i x hx=>hc i x ?_⟩
  rw [B6] at hx
  split at hx
  ·exact hx
  ·simp at hx
def VK {α:Type} (w:World) (g:Nat) (cap:Array Value) (enc:α→Value×Value) (p:α→Bool) (xs:List α):Prop :=
 ∀ x W,x ∈ xs→Fr w W→Calls Tryz.prog g (#[.agg #[(enc x).1,(enc x).2]] ++ cap) W fun e W'=>e=.returned (.bool (p x))∧Fr W W'
theorem L4 {α:Type} (enc:α→Value×Value) (xs:List α) (a:Option Addr) (cap:Nat) (g:Nat) (lb:Array Value) (p:α→Bool) (w:World)
 (eg:∀ args w,(callFunc g args).run Tryz.prog w=.ok (.enter g args) w) (hx:NB w a (xs.map enc)) (hl:xs.length≤1000000000) (hp:VK w g lb enc p xs) :
 Calls Tryz.prog 150 #[.slice a xs.length cap,.func (.func g) #[] lb] w fun e w'=>e=.returned (.int .i64 (Iv p xs))∧Fr w w':=by
 go_enter Tryz.func150,Tryz.ntmps150
 go_wp2
 go_loopw [5,8] (fun _ s8 wr=>∃ k:Nat,s8=.int .i64 k∧k≤xs.length∧Fr w wr∧Hid (∀ j x,j < k→xs[j]?=some x→p x=false)) (fun _ s8 _=>xs.length - (RowKit.intOf s8).toNat)
 case atStart=>exact ⟨0,rfl,BJ _,Fr.refl _,fun j x h=>absurd h (DD _)⟩
 case round=>
  obtain ⟨k,rfl,hk,hf,hb⟩:=hrel
  by_cases hlt:k < xs.length
  ·obtain ⟨b,o,z,rfl,hbl,hzk,hcell,hcell2⟩:=(hx.fr hf).at (i:=k) (by rw [Am]; exact hlt)
   obtain ⟨x,hxk,rfl⟩:∃ x,xs[k]?=some x∧enc x=z:=by
    rw [Ap] at hzk
    cases e:xs[k]? with
    | none=>rw [e] at hzk; simp at hzk
    | some x=>rw [e] at hzk; injection hzk with hzk; exact ⟨x,rfl,hzk⟩
   have hpx:=hp x wr (Ae hxk) hf
   have hxk:=hZ hxk
   clear hzk
   go_wp2_with fail
   refine hpx.mono ?_
   rintro e w1 ⟨rfl,hf1⟩
   go_wp2_with fail
   ·have hpt:p x=true:=by assumption
    go_ret
    exact ⟨A7 (HX hb.out hxk.out hpt).symm,hf.trans hf1⟩
   ·have hpf:p x=false:=by assumption
    go_roundw
    case rel=>exact ⟨k+1,by go_num,by omega,hf.trans hf1,I7 hb.out hxk.out hpf⟩
    case measure=>simp [RowKit.intOf]; omega
  ·go_wp2_with fail
   go_ret
   exact ⟨A7 (I8 (by rw [show xs.length=k by omega]; exact hb.out)).symm,hf⟩
def B3 (c:UInt8):Bool:=decide (33≤c.toNat∧c.toNat≤126∧¬ (48≤c.toNat∧c.toNat≤57)∧c.toNat≠43∧c.toNat≠45)
def Bx (s:ByteArray):Bool:=decide (s.size≠0∧s.size≤32) && s.data.toList.all B3
theorem IC (s:ByteArray) (w:World) (hs:s.size≤1000000000) :
 Calls Tryz.prog 74 #[.string s] w fun e w'=>e=.returned (.bool (Bx s))∧w=w':=by
 by_cases h0:s.size=0
 ·have hfin:=hZ (show Bx s=false by unfold Bx; rw [Aa (by omega)]; rfl)
  have e:s.toList=[]:=by
   have:s.toList.length=0:=by rw [← h0,Da]; rfl
   exact Az this
  have e2:s.toList.isEmpty=true:=by rw [e]; rfl
  replace e:=hZ e
  clear h0
  go_enter Tryz.func74,Tryz.ntmps74
  go_wp2_with fail
  go_ret
  exact ⟨BS hfin.out.symm,rfl⟩
 ·have e2:s.toList.isEmpty=false:=by
   have:s.toList.length=s.size:=by rw [Da]; rfl
   cases hh:s.toList with
   | nil=>rw [hh] at this; simp at this; omega
   | cons=>rfl
  by_cases h1:32 < s.size
  ·have hfin:=hZ (show Bx s=false by unfold Bx; rw [Aa (by omega)]; rfl)
   have d1:decide ((32:Int) < (s.size:Int))=true:=Ab (by omega)
   clear h0
   go_enter Tryz.func74,Tryz.ntmps74
   go_wp2_with fail
   go_ret
   exact ⟨BS hfin.out.symm,rfl⟩
  ·have d1:decide ((32:Int) < (s.size:Int))=false:=Aa (by omega)
   have hsz:=hZ (show decide (s.size≠0∧s.size≤32)=true from Ab ⟨h0,by omega⟩)
   clear h0 h1
   go_enter Tryz.func74,Tryz.ntmps74
   go_wp2_with fail
   go_loopg [14] s.size (fun g s14 wr=>∃ k:Nat,s14=.int .i64 k∧k+g=s.size∧Hid ((s.data.toList.take k).all B3=true)∧w=wr)
   case atStart=>exact ⟨0,rfl,by omega,rfl,rfl⟩
   case round=>
    obtain ⟨k,rfl,hk,hb,rfl⟩:=hrel
    by_cases hlt:k < s.size
    ·have hsn:=hZ (show s.data.toList.take (k+1)=s.data.toList.take k ++ [s[k]] by rw [DH (by simpa using hlt)]; rfl)
     have hc:∃ c,s[k]=c:=⟨_,rfl⟩
     obtain ⟨c,hc⟩:=hc
     rw [hc] at hsn
     have hbad:=hZ (show B3 c=false→Bx s=false from fun hok=>by
      unfold Bx
      rw [Eu.2 ⟨c, ?_,by rw [hok]; simp⟩]
      ·simp
      ·have:c ∈ s.data.toList.take (k+1):=by rw [hsn.out]; simp
       exact Ch this)
     have hgood:=hZ (show B3 c=true→(s.data.toList.take (k+1)).all B3=true from fun hok=>by
      rw [hsn.out,Vw,hb.out]; simp [hok])
     clear hsn hb
     have z0:(0:Int)≤(k:Int):=by omega
     by_cases e43:c.toNat=43
     ·have q43:((c.toNat:Int) == 43)=true:=by rw [e43]; rfl
      have hfin:=hZ (hbad.out (by unfold B3; exact Aa (fun h=>h.2.2.2.1 e43)))
      have e1:(33:Int)≤c.toNat:=by omega
      have e2:(c.toNat:Int)≤126:=by omega
      have e3:(c.toNat:Int) < 48:=by omega
      clear e43 hbad hgood
      go_wp2_with fail
      all_goals
       go_ret
       exact ⟨BS hfin.out.symm,rfl⟩
     ·by_cases e45:c.toNat=45
      ·have q45:((c.toNat:Int) == 45)=true:=by rw [e45]; rfl
       have q43:((c.toNat:Int) == 43)=false:=AB (by omega)
       have hfin:=hZ (hbad.out (by unfold B3; exact Aa (fun h=>h.2.2.2.2 e45)))
       have e1:(33:Int)≤c.toNat:=by omega
       have e2:(c.toNat:Int)≤126:=by omega
       have e3:(c.toNat:Int) < 48:=by omega
       clear e43 e45 hbad hgood
       go_wp2_with fail
       all_goals
        go_ret
        exact ⟨BS hfin.out.symm,rfl⟩
      ·have q45:((c.toNat:Int) == 45)=false:=AB (by omega)
       have q43:((c.toNat:Int) == 43)=false:=AB (by omega)
       have e43:=hZ e43
       have e45:=hZ e45
       rename_i r1 r2
       clear r1 r2
       go_wp2_with fail
       all_goals first
        | (have hok:B3 c=true:=by
            unfold B3
            exact Ab ⟨by omega,by omega,by omega,e43.out,e45.out⟩
           go_roundg (gk - 1)
           case measure=>omega
           case rel=>exact ⟨k+1,by go_num,by omega,hgood.out hok,rfl⟩)
        | (have hok:B3 c=false:=by
            unfold B3
            exact Aa (fun h=>by have h1:=h.1; have h2:=h.2.1; have h3:=h.2.2.1; omega)
           go_ret
           exact ⟨BS (hbad.out hok).symm,rfl⟩)
    ·have hfin:=hZ (show Bx s=true by
      have h:=hb.out
      rw [Ak (by have:s.data.toList.length=s.size:=rfl; omega)] at h
      unfold Bx
      rw [hsz.out,h]; rfl)
     have hd:decide (k < s.size)=false:=Aa hlt
     go_wp2_with fail
     go_ret
     exact ⟨BS hfin.out.symm,rfl⟩
attribute [local go_sem ↓] AC AD
def gN:Nat:=2+1
structure Fx (p:Nat→Prop) (w w':World):Prop where
 os:w'.os=w.os
 tape:w'.tape=w.tape
 output:w'.output=w.output
 size:w.heap.size≤w'.heap.size
 block:∀ k,k < w.heap.size→¬ p k→w'.heap[k]?=w.heap[k]?
theorem Fx.of_fr {p:Nat→Prop} {w w':World} (h:Fr w w'):Fx p w w' :=
 have h:Below w.heap.size w w':=h
 ⟨h.os,h.tape,h.output,h.size,fun k hk _=>h.block k hk⟩
theorem Fx.refl (p:Nat→Prop) (w:World):Fx p w w:=Fx.of_fr (Fr.refl w)
theorem Fx.trans {p:Nat→Prop} {a b c:World} (h:Fx p a b) (k:Fx p b c):Fx p a c :=
 ⟨k.os.trans h.os,k.tape.trans h.tape,k.output.trans h.output,AM h.size k.size,fun i hi hp=>(k.block i (An hi h.size) hp).trans (h.block i hi hp)⟩
theorem Fx.fr {p:Nat→Prop} {a b c:World} (h:Fx p a b) (k:Fr b c):Fx p a c:=h.trans (Fx.of_fr k)
theorem Fx.drewN {p:Nat→Prop} {a b:World} (h:Fx p a b) (n:Nat):Fx p a (b.drewN n):=h.fr ((Fr.refl b).drewN n)
theorem Fx.drew {p:Nat→Prop} {a b:World} (h:Fx p a b):Fx p a b.drew:=h.fr (Fr.refl b).drew
theorem Fx.alloc {p:Nat→Prop} {a b:World} (h:Fx p a b) (o:Obj):Fx p a (b.alloc o):=h.fr ((Fr.refl b).alloc o)
theorem Fx.setCell {p:Nat→Prop} {a b:World} (h:Fx p a b) {q:Addr} (hq:p q.block∨a.heap.size≤q.block) (u:Value):Fx p a (b.setCell q u) :=
 ⟨h.os,h.tape,h.output,by simpa [World.setCell] using h.size,fun k hk hp=>by
  have e:k≠q.block:=by
   rcases hq with hq | hq
   ·intro e; rw [e] at hp; exact hp hq
   ·omega
  exact (Below.heap_setCell _ _ _ _ e).trans (h.block k hk hp)⟩
theorem Fx.cell {p:Nat→Prop} {w w':World} (h:Fx p w w') {q:Addr} (hq:q.block < w.heap.size) (hp:¬ p q.block):w'.cell? q=w.cell? q :=
 World.cell?_of_block (w:=w) (h.block q.block hq hp)
theorem Fx.frozen {p:Nat→Prop} {w w':World} (h:Fx p w w') {q:Addr} (hq:q.block < w.heap.size) (hp:¬ p q.block):w'.frozen? q=w.frozen? q :=
 World.frozen?_of_block (w:=w) (h.block q.block hq hp)
theorem Fx.mono {p q:Nat→Prop} {w w':World} (h:Fx p w w') (hpq:∀ k,p k→q k):Fx q w w' :=
 ⟨h.os,h.tape,h.output,h.size,fun k hk hp=>h.block k hk (fun e=>hp (hpq k e))⟩
theorem Fx.toFr {p:Nat→Prop} {w w':World} (h:Fx p w w') (hp:∀ k,k < w.heap.size→¬ p k):Fr w w' :=
 show Below w.heap.size w w' from ⟨h.os,h.tape,h.output,h.size,fun k hk=>h.block k hk (hp k hk)⟩
theorem G.fx {p:Nat→Prop} {w w':World} (h:G w) (k:Fx p w w') (hp:∀ k,p k→gN≤k):G w':=by
 have hl:=h.lt
 unfold G TabIs World.var? at *
 simp only [S8,EW] at h ⊢
 rw [k.block _ hl (fun e=>by have:=hp _ e; unfold gN at this; omega)]
 exact h
theorem CG {w:World} (h:G w):gN≤w.heap.size:=h.lt
def EU (w:World) (b o:Nat) (xs:List Int):Prop :=
 gN≤b∧b < w.heap.size∧∀ j x,xs[j]?=some x→w.cell? ⟨b,o+j,none⟩=some (sv x)∧w.frozen? ⟨b,o+j,none⟩=false
theorem EU.fx {p:Nat→Prop} {w w':World} {b o:Nat} {xs:List Int} (h:EU w b o xs) (k:Fx p w w') (hp:¬ p b):EU w' b o xs :=
 ⟨h.1,An h.2.1 k.size,fun j x hx=>by rw [k.cell h.2.1 hp,k.frozen h.2.1 hp]; exact h.2.2 j x hx⟩
theorem EU.fr {w w':World} {b o:Nat} {xs:List Int} (h:EU w b o xs) (k:Fr w w'):EU w' b o xs :=
 h.fx (p:=fun _=>False) (Fx.of_fr k) (fun e=>e)
theorem EU.set {w:World} {b o:Nat} {xs:List Int} (h:EU w b o xs) {k:Nat} (hk:k < xs.length) (x:Int):EU (w.setCell ⟨b,o+k,none⟩ (sv x)) b o (xs.set k x):=by
 obtain ⟨h1,h2,h3⟩:=h
 refine ⟨h1,by simpa [World.setCell] using h2,fun j y hy=>?_⟩
 rw [Ao]
 rw [BC] at hy
 by_cases e:k=j
 ·subst e
  rw [Al rfl,Al hk] at hy
  injection hy with hy; subst hy
  have h4:=h3 k xs[k] (Ac hk)
  exact ⟨Ar _ _ _ (by rw [h4.1]; rfl),h4.2⟩
 ·rw [Ai e] at hy
  have h4:=h3 j y hy
  refine ⟨?_,h4.2⟩
  rw [Ad w ⟨b,o+k,none⟩ ⟨b,o+j,none⟩ _ (fun e2=>by injection e2 with e3 e4; omega)]
  exact h4.1
def Xt (q x y:Int):Bool:=decide ((-100000000 < q∧q < 100000000)∧(-100000000 < y∧y < 100000000)∧(-100000000000000000 < x∧x < 100000000000000000))
theorem ST {q x y:Int} (h:Xt q x y=true):Ti q∧Ti y∧Sm x:=by
 unfold Xt at h; have h:=Ax h; exact h
def KI (q:Int):List Int→List Int→Option (List Int)
 | [],_=>some []
 | x :: xs,y :: ys=>if Xt q x y then (KI q xs ys).map ((x - q * y) :: ·) else none
 | _ :: _,[]=>none
def Gi (q:Int) (xs ys:List Int):Option (List Int):=if q=0 then some xs else KI q xs ys
theorem GP (q:Int):∀ (xs ys zs:List Int),KI q xs ys=some zs→zs.length=xs.length∧∀ (k:Nat) (x:Int),xs[k]?=some x→∃ y,ys[k]?=some y∧Xt q x y=true∧zs[k]?=some (x - q * y)
 | [],ys,zs,h=>by
   injection h with h; subst h
   exact ⟨rfl,fun k x hx=>by simp at hx⟩
 | x :: xs,[],zs,h=>by simp [KI] at h
 | x :: xs,y :: ys,zs,h=>by
   simp only [KI] at h
   split at h
   ·rename_i hok
    cases e:KI q xs ys with
    | none=>rw [e] at h; simp at h
    | some ws=>
      rw [e] at h
      simp only [LM,Option.some.injEq] at h
      subst h
      obtain ⟨h1,h2⟩:=GP q xs ys ws e
      refine ⟨by simp [h1],fun k z hz=>?_⟩
      cases k with
      | zero=>simp at hz; subst hz; exact ⟨y,by simp,hok,by simp⟩
      | succ k=>simpa using h2 k z (by simpa using hz)
   ·simp at h
theorem GZ {α:Type} (zs xs:List α) (k:Nat) (hl:zs.length=xs.length) (hk:k < xs.length):(zs.take k ++ xs.drop k)[k]?=xs[k]?:=by
 have h1:(zs.take k).length=k:=by rw [AG]; omega
 rw [AR (by omega),h1,H1,List.getElem?_drop,CN]
theorem GY {α:Type} (zs xs:List α) (k:Nat) (hl:zs.length=xs.length) (hk:k < xs.length) (z:α) (hz:zs[k]?=some z):(zs.take k ++ xs.drop k).set k z=zs.take (k+1) ++ xs.drop (k+1):=by
 have h1:(zs.take k).length=k:=by rw [AG]; omega
 rw [List.set_append_right _ _ (by omega),h1,H1,C0,hz,BZ hk,P6,List.set_cons_zero,Bv,XZ]
theorem Fx.keep {p:Nat→Prop} {w w':World} (h:Fx p w w') {q:Addr} {v:Value} (hc:w.cell? q=some v) (hp:¬ p q.block):w'.cell? q=some v:=by
 rw [h.cell (AY w q hc) hp]; exact hc
theorem Fx.keepf {p:Nat→Prop} {w w':World} (h:Fx p w w') {q:Addr} {v:Value} {b:Bool} (hc:w.cell? q=some v) (hf:w.frozen? q=b) (hp:¬ p q.block):w'.frozen? q=b:=by
 rw [h.frozen (AY w q hc) hp]; exact hf
structure Bz (w:World) (ob oo:Nat) (hs:List (Nat×Nat×Nat)) (g:List (List Int)):Prop where
 len:hs.length=g.length
 outer:ob < w.heap.size
 gob:gN≤ob
 cell:∀ (i:Nat) (h:Nat×Nat×Nat) (xs:List Int),hs[i]?=some h→g[i]?=some xs→w.cell? ⟨ob,oo+i,none⟩=some (.slice (some ⟨h.1,h.2.1,none⟩) xs.length h.2.2)∧w.frozen? ⟨ob,oo+i,none⟩=false
 row:∀ (i:Nat) (h:Nat×Nat×Nat) (xs:List Int),hs[i]?=some h→g[i]?=some xs→EU w h.1 h.2.1 xs∧h.1≠ob
 apart:∀ (i j:Nat) (hi hj:Nat×Nat×Nat),hs[i]?=some hi→hs[j]?=some hj→i≠j→hi.1≠hj.1
def gb (ob:Nat) (hs:List (Nat×Nat×Nat)) (k:Nat):Prop:=k=ob∨∃ h,h ∈ hs∧h.1=k
theorem Bz.fx {p:Nat→Prop} {w w':World} {ob oo:Nat} {hs:List (Nat×Nat×Nat)} {g:List (List Int)} (h:Bz w ob oo hs g) (k:Fx p w w') (hp:∀ j,gb ob hs j→¬ p j):Bz w' ob oo hs g :=
 ⟨h.len,An h.outer k.size,h.gob,
  fun i hd xs h1 h2=>by
   have:=h.cell i hd xs h1 h2
   exact ⟨k.keep this.1 (hp _ (.inl rfl)),k.keepf this.1 this.2 (hp _ (.inl rfl))⟩,
  fun i hd xs h1 h2=>by
   have:=h.row i hd xs h1 h2
   exact ⟨this.1.fx k (hp _ (.inr ⟨hd,Ae h1,rfl⟩)),this.2⟩,
  h.apart⟩
theorem Bz.fr {w w':World} {ob oo:Nat} {hs:List (Nat×Nat×Nat)} {g:List (List Int)} (h:Bz w ob oo hs g) (k:Fr w w'):Bz w' ob oo hs g :=
 h.fx (p:=fun _=>False) (Fx.of_fr k) (fun _ _ e=>e)
theorem Bz.ge {w:World} {ob oo:Nat} {hs:List (Nat×Nat×Nat)} {g:List (List Int)} (h:Bz w ob oo hs g):∀ k,gb ob hs k→gN≤k:=by
 rintro k (rfl | ⟨hd,hm,rfl⟩)
 ·exact h.gob
 ·obtain ⟨i,hi⟩:=A6 hm
  have hlt:i < g.length:=by rw [← h.len]; exact (Ag.1 hi).1
  exact (h.row i hd _ hi (Ac hlt)).1.1
theorem Bz.at {w:World} {ob oo:Nat} {hs:List (Nat×Nat×Nat)} {g:List (List Int)} (h:Bz w ob oo hs g) {i:Nat} (hi:i < g.length) :
 ∃ b o c,hs[i]?=some (b,o,c)∧w.cell? ⟨ob,oo+i,none⟩=some (.slice (some ⟨b,o,none⟩) (g[i]).length c)∧w.frozen? ⟨ob,oo+i,none⟩=false∧EU w b o g[i]∧b≠ob:=by
 have hl:i < hs.length:=by rw [h.len]; exact hi
 have h1:=Ac hl
 have h2:=Ac hi
 have h3:=h.cell i _ _ h1 h2
 have h4:=h.row i _ _ h1 h2
 exact ⟨hs[i].1,hs[i].2.1,hs[i].2.2,h1,h3.1,h3.2,h4.1,h4.2⟩
theorem Bz.setRow {w w':World} {ob oo:Nat} {hs:List (Nat×Nat×Nat)} {g:List (List Int)} (h:Bz w ob oo hs g) {i b o c:Nat} (hi:hs[i]?=some (b,o,c)) {zs:List Int}
 (k:Fx (·=b) w w') (ho:EU w' b o zs) (hl:∀ xs,g[i]?=some xs→zs.length=xs.length):Bz w' ob oo hs (g.set i zs):=by
 have hne:b≠ob:=by
  have hlt:i < g.length:=by rw [← h.len]; exact (Ag.1 hi).1
  exact (h.row i _ _ hi (Ac hlt)).2
 refine ⟨by simp [h.len],An h.outer k.size,h.gob,fun j hd xs h1 h2=>?_,fun j hd xs h1 h2=>?_,h.apart⟩
 ·have hj:j < g.length:=by have:=(Ag.1 h2).1; simpa using this
  have h3:=h.cell j hd _ h1 (Ac hj)
  rw [BC] at h2
  have e:xs.length=(g[j]).length:=by
   split at h2
   ·rename_i e; subst e; rw [Al (by simpa using hj)] at h2; injection h2 with h2; subst h2; exact hl _ (Ac hj)
   ·rw [Ac hj] at h2; injection h2 with h2; rw [h2]
  rw [e]
  exact ⟨k.keep h3.1 (fun e=>hne e.symm),k.keepf h3.1 h3.2 (fun e=>hne e.symm)⟩
 ·have hj:j < g.length:=by have:=(Ag.1 h2).1; simpa using this
  have h3:=h.row j hd _ h1 (Ac hj)
  rw [BC] at h2
  refine ⟨?_,h3.2⟩
  split at h2
  ·rename_i e; subst e
   rw [Al (by simpa using hj)] at h2; injection h2 with h2; subst h2
   rw [hi] at h1; injection h1 with h1; subst h1
   exact ho
  ·rename_i e
   rw [Ac hj] at h2; injection h2 with h2; subst h2
   exact h3.1.fx k (fun e2=>h.apart i j _ _ hi h1 e e2.symm)
theorem Bz.setRowF {w W w':World} {ob oo:Nat} {hs:List (Nat×Nat×Nat)} {g:List (List Int)} (h:Bz w ob oo hs g) {i b o c:Nat} (hi:hs[i]?=some (b,o,c)) {zs:List Int}
 (k:Fx (·=b) W w') (ho:EU w' b o zs) (hl:∀ xs,g[i]?=some xs→zs.length=xs.length) (hf:Fr w W):Bz w' ob oo hs (g.set i zs) :=
 (h.fr hf).setRow hi k ho hl
theorem Fx.via {p q:Nat→Prop} {a b c d:World} (h:Fx p a b) (k:Fx q c d) (hq:∀ j,q j→p j) (hf:Fr b c):Fx p a d:=(h.fr hf).trans (k.mono hq)
theorem M9 {ob:Nat} {hs:List (Nat×Nat×Nat)} {i b o c:Nat} (hi:hs[i]?=some (b,o,c)):∀ j,j=b→gb ob hs j:=fun _ e=>.inr ⟨_,Ae hi,e.symm⟩
def E2 {α:Type} (l:List α) (i j:Nat):List α:=match l[i]?,l[j]? with
 | some x,some y=>(l.set i y).set j x
 | _,_=>l
theorem HQ {α:Type} (l:List α) (i j:Nat):(E2 l i j).length=l.length:=by
 unfold E2; split <;> simp
theorem Dk {α:Type} (l:List α) (i j:Nat) {x y:α} (hi:l[i]?=some x) (hj:l[j]?=some y) (k:Nat) :
 (E2 l i j)[k]?=if k=j then some x else if k=i then some y else l[k]?:=by
 have h1:=(Ag.1 hi).1
 have h2:=(Ag.1 hj).1
 unfold E2
 rw [hi,hj]
 simp only [BC]
 by_cases e:j=k
 ·subst e; simp [h2]
 ·have e':¬ k=j:=fun h=>e h.symm
  rw [Ai e,Ai e']
  by_cases e2:i=k
  ·subst e2; simp [h1]
  ·have e2':¬ k=i:=fun h=>e2 h.symm
   rw [Ai e2,Ai e2']
theorem Bz.swap {w:World} {ob oo:Nat} {hs:List (Nat×Nat×Nat)} {g:List (List Int)} (h:Bz w ob oo hs g) {i j:Nat} {hi hj:Nat×Nat×Nat} {xs ys:List Int}
 (h1:hs[i]?=some hi) (h2:hs[j]?=some hj) (h3:g[i]?=some xs) (h4:g[j]?=some ys) (hij:i≠j) :
 Bz ((w.setCell ⟨ob,oo+i,none⟩ (.slice (some ⟨hj.1,hj.2.1,none⟩) ys.length hj.2.2)).setCell ⟨ob,oo+j,none⟩ (.slice (some ⟨hi.1,hi.2.1,none⟩) xs.length hi.2.2)) ob oo (E2 hs i j) (E2 g i j):=by
 have hf:Fx (·=ob) w ((w.setCell ⟨ob,oo+i,none⟩ (.slice (some ⟨hj.1,hj.2.1,none⟩) ys.length hj.2.2)).setCell ⟨ob,oo+j,none⟩ (.slice (some ⟨hi.1,hi.2.1,none⟩) xs.length hi.2.2)) :=
  Fx.setCell (p:=(·=ob)) (q:=⟨ob,oo+j,none⟩) (Fx.setCell (p:=(·=ob)) (q:=⟨ob,oo+i,none⟩) (Fx.refl _ w) (.inl rfl) _) (.inl rfl) _
 have ci:=h.cell i _ _ h1 h3
 have cj:=h.cell j _ _ h2 h4
 have eij:(⟨ob,oo+i,none⟩:Addr)≠⟨ob,oo+j,none⟩:=fun e=>by injection e with _ e; omega
 refine ⟨by rw [HQ,HQ,h.len],An h.outer hf.size,h.gob,fun k hd zs k1 k2=>?_,fun k hd zs k1 k2=>?_,fun a b ha hb k1 k2 hab=>?_⟩
 ·rw [Dk hs i j h1 h2] at k1
  rw [Dk g i j h3 h4] at k2
  rw [Ao,Ao]
  by_cases e:k=j
  ·subst e
   rw [Al rfl] at k1 k2
   injection k1 with k1; injection k2 with k2; subst k1; subst k2
   refine ⟨Ar _ _ _ ?_,cj.2⟩
   rw [Ad _ _ _ _ eij,cj.1]; rfl
  ·rw [Ai e] at k1 k2
   have ekj:(⟨ob,oo+j,none⟩:Addr)≠⟨ob,oo+k,none⟩:=fun e2=>by injection e2 with _ e2; omega
   rw [Ad _ _ _ _ ekj]
   by_cases e2:k=i
   ·subst e2
    rw [Al rfl] at k1 k2
    injection k1 with k1; injection k2 with k2; subst k1; subst k2
    exact ⟨Ar _ _ _ (by rw [ci.1]; rfl),ci.2⟩
   ·rw [Ai e2] at k1 k2
    have eki:(⟨ob,oo+i,none⟩:Addr)≠⟨ob,oo+k,none⟩:=fun e3=>by injection e3 with _ e3; omega
    rw [Ad _ _ _ _ eki]
    exact h.cell k hd zs k1 k2
 ·rw [Dk hs i j h1 h2] at k1
  rw [Dk g i j h3 h4] at k2
  have go:∀ (m:Nat) (hd:Nat×Nat×Nat) (zs:List Int),hs[m]?=some hd→g[m]?=some zs→EU ((w.setCell ⟨ob,oo+i,none⟩ (.slice (some ⟨hj.1,hj.2.1,none⟩) ys.length hj.2.2)).setCell ⟨ob,oo+j,none⟩ (.slice (some ⟨hi.1,hi.2.1,none⟩) xs.length hi.2.2)) hd.1 hd.2.1 zs∧hd.1≠ob:=fun m hd zs m1 m2=>by
   have:=h.row m hd zs m1 m2
   exact ⟨this.1.fx hf this.2,this.2⟩
  by_cases e:k=j
  ·subst e; rw [Al rfl] at k1 k2; injection k1 with k1; injection k2 with k2; subst k1; subst k2; exact go i _ _ h1 h3
  ·rw [Ai e] at k1 k2
   by_cases e2:k=i
   ·subst e2; rw [Al rfl] at k1 k2; injection k1 with k1; injection k2 with k2; subst k1; subst k2; exact go j _ _ h2 h4
   ·rw [Ai e2] at k1 k2; exact go k _ _ k1 k2
 ·rw [Dk hs i j h1 h2] at k1 k2
  have key:∀ (k:Nat) (hd:Nat×Nat×Nat),(if k=j then some hi else if k=i then some hj else hs[k]?)=some hd→∃ m,hs[m]?=some hd∧m=(if k=j then i else if k=i then j else k):=fun k hd hk=>by
   by_cases e:k=j
   ·rw [Al e] at hk ⊢; exact ⟨i,by rw [h1,hk],rfl⟩
   ·rw [Ai e] at hk ⊢
    by_cases e2:k=i
    ·rw [Al e2] at hk ⊢; exact ⟨j,by rw [h2,hk],rfl⟩
    ·rw [Ai e2] at hk ⊢; exact ⟨k,hk,rfl⟩
  obtain ⟨m,m1,m2⟩:=key a ha k1
  obtain ⟨n,n1,n2⟩:=key b hb k2
  refine h.apart m n _ _ m1 n1 (fun e=>hab ?_)
  rw [m2,n2] at e
  repeat' split at e
  all_goals omega
theorem PC {ob:Nat} {hs:List (Nat×Nat×Nat)} {i j:Nat} {hi hj:Nat×Nat×Nat} (h1:hs[i]?=some hi) (h2:hs[j]?=some hj):∀ k,gb ob (E2 hs i j) k ↔ gb ob hs k:=by
 have key:∀ hd,hd ∈ E2 hs i j ↔ hd ∈ hs:=fun hd=>by
  rw [GJ,GJ]
  constructor
  ·rintro ⟨k,hk⟩
   rw [Dk hs i j h1 h2] at hk
   split at hk
   ·exact ⟨i,by rw [h1,hk]⟩
   ·split at hk
    ·exact ⟨j,by rw [h2,hk]⟩
    ·exact ⟨k,hk⟩
  ·rintro ⟨k,hk⟩
   by_cases e:k=i
   ·subst e; rw [h1] at hk; exact ⟨j,by rw [Dk hs k j h1 h2,Al rfl,hk]⟩
   ·by_cases e2:k=j
    ·subst e2; rw [h2] at hk
     refine ⟨i, ?_⟩
     rw [Dk hs i k h1 h2]
     have e':¬ i=k:=fun h=>e h.symm
     rw [Ai e',Al rfl,hk]
    ·exact ⟨k,by rw [Dk hs i j h1 h2,Ai e2,Ai e,hk]⟩
 intro k
 unfold gb
 constructor
 ·rintro (h | ⟨hd,hm,e⟩)
  ·exact .inl h
  ·exact .inr ⟨hd,(key hd).1 hm,e⟩
 ·rintro (h | ⟨hd,hm,e⟩)
  ·exact .inl h
  ·exact .inr ⟨hd,(key hd).2 hm,e⟩
def B8 (g:List (List Int)) (i:Nat):List Int:=(g[i]?).getD []
def ent (g:List (List Int)) (i c:Nat):Int:=((B8 g i)[c]?).getD 0
def Sw (n:Int):Bool:=decide (-100000000000000000 < n∧n < 100000000000000000)
theorem Jx {n:Int} (h:Sw n=true):Sm n:=by unfold Sw at h; have h:=Ax h; exact h
def Ll (g:List (List Int)) (c t i:Nat):Option (List (List Int)) :=
 if Sw (ent g i c) && Sw (ent g t c) && ent g t c != 0 then (Gi ((ent g i c).fdiv (ent g t c)) (B8 g i) (B8 g t)).map (fun r=>g.set i r) else none
def DZ (g:List (List Int)) (c t s:Nat):Nat→Option (List (List Int))
 | 0=>some g
 | j+1=>(DZ g c t s j).bind fun g=>Ll g c t (s+j)
def Vy (r:List Int):Bool:=r.all Sw
def Te (g:List (List Int)) (t c:Nat):Option (List (List Int)) :=
 if ent g t c < 0 then (if Vy (B8 g t) then DZ (g.set t ((B8 g t).map (fun x=>-x))) c t 0 t else none) else DZ g c t 0 t
def CQ (n:Nat) (g:List (List Int)):Prop:=∀ r,r ∈ g→r.length=n
theorem CQ.row {n:Nat} {g:List (List Int)} (h:CQ n g) {i:Nat} (hi:i < g.length):(g[i]).length=n:=h _ (A3 hi)
theorem CQ.set {n:Nat} {g:List (List Int)} (h:CQ n g) {i:Nat} {r:List Int} (hr:r.length=n):CQ n (g.set i r):=fun x hx=>by
 rcases BX hx with h1 | h1
 ·exact h x h1
 ·rw [h1]; exact hr
theorem B1 {g:List (List Int)} {i:Nat} (hi:i < g.length):B8 g i=g[i]:=by unfold B8; rw [Ac hi]; rfl
theorem ED {g:List (List Int)} {n i c:Nat} (h:CQ n g) (hi:i < g.length) (hc:c < n):(g[i])[c]?=some (ent g i c):=by
 unfold ent
 rw [B1 hi]
 have:c < (g[i]).length:=by rw [h.row hi]; exact hc
 rw [Ac this]; rfl
theorem Gh {q:Int} {xs ys zs:List Int} (h:Gi q xs ys=some zs):zs.length=xs.length:=by
 unfold Gi at h
 split at h
 ·injection h with h; rw [h]
 ·exact (GP q xs ys zs h).1
theorem G0 {g g':List (List Int)} {c t i:Nat} (h:Ll g c t i=some g'):Sm (ent g i c)∧Sm (ent g t c)∧ent g t c≠0∧∃ r,Gi ((ent g i c).fdiv (ent g t c)) (B8 g i) (B8 g t)=some r∧g'=g.set i r:=by
 unfold Ll at h
 split at h
 ·rename_i hc
  simp only [AW,Ba] at hc
  obtain ⟨r,hr,rfl⟩:=A1.1 h
  exact ⟨Jx hc.1.1,Jx hc.1.2,hc.2,r,hr,rfl⟩
 ·simp at h
theorem Oh {g g':List (List Int)} {c t i n:Nat} (h:Ll g c t i=some g') (hr:CQ n g) (hi:i < g.length):CQ n g'∧g'.length=g.length:=by
 obtain ⟨_,_,_,r,h1,rfl⟩:=G0 h
 exact ⟨hr.set (by rw [Gh h1,B1 hi,hr.row hi]),by simp⟩
theorem Fk {g:List (List Int)} {c t s n:Nat} (hr:CQ n g):∀ (j:Nat) (g':List (List Int)),DZ g c t s j=some g'→s+j≤g.length→CQ n g'∧g'.length=g.length
 | 0,g',h,_=>by injection h with h; subst h; exact ⟨hr,rfl⟩
 | j+1,g',h,hl=>by
   obtain ⟨g1,h1,h2⟩:=Bi.1 h
   obtain ⟨a,b⟩:=Fk hr j g1 h1 (by omega)
   obtain ⟨a',b'⟩:=Oh h2 a (by omega)
   exact ⟨a',by rw [b',b]⟩
theorem F4 {g:List (List Int)} {c t s:Nat}:∀ (j k:Nat) (g':List (List Int)),DZ g c t s k=some g'→j≤k→∃ g1,DZ g c t s j=some g1
 | j,0,g',h,hj=>by obtain rfl:j=0:=by omega
                   exact ⟨g,rfl⟩
 | j,k+1,g',h,hj=>by
   by_cases e:j=k+1
   ·subst e; exact ⟨g',h⟩
   ·obtain ⟨g1,h1,_⟩:=Bi.1 h
    exact F4 j k g1 h1 (by omega)
theorem Rb {r:List Int} (h:Vy r=true):∀ x,x ∈ r→(tx x).size≤1000000000:=fun x hx=>by
 have:=(Jx (Aw.1 h x hx)).size; omega
def XW (g:List (List Int)) (c i:Nat) (s:Option Nat×Bool):Option Nat×Bool :=
 if ent g i c=0 then s else match s.1 with
 | none=>(some i,s.2)
 | some k=>(if FK ((ent g i c).natAbs:Int) ((ent g k c).natAbs:Int) < 0 then some i else some k,true)
def kI:Option Nat→Int
 | none=>-1
 | some k=>k
def VD (g:List (List Int)) (c:Nat):Bool:=(List.range g.length).all fun i=>Sw (ent g i c)
def JR (ob:Nat) (a b:List (Nat×Nat×Nat)):Prop:=(∀ k,gb ob a k ↔ gb ob b k)∧∀ h,h ∈ a→h ∈ b
theorem Kj {α:Type} {l:List α} {i j:Nat} {x:α} (h:x ∈ E2 l i j):x ∈ l:=by
 unfold E2 at h
 split at h
 ·rename_i a b ha hb
  rcases BX h with h1 | h1
  ·rcases BX h1 with h2 | h2
   ·exact h2
   ·rw [h2]; exact Ae hb
  ·rw [h1]; exact Ae ha
 ·exact h
theorem NG {α:Type} (l:List α) (i:Nat):E2 l i i=l:=by
 unfold E2
 cases h:l[i]? with
 | none=>rfl
 | some x=>
   have hi:=(Ag.1 h).1
   refine DI fun k=>?_
   simp only [BC]
   by_cases e:i=k
   ·subst e; simp [hi]; exact ((Ag.1 h).2).symm
   ·simp [e]
theorem Sr {n:Nat} {g:List (List Int)} {i j:Nat} (h:CQ n g):CQ n (E2 g i j):=by
 unfold E2
 split
 ·rename_i x y hx hy
  exact (h.set (h _ (Ae hy))).set (h _ (Ae hx))
 ·exact h
theorem Bz.same {w:World} {ob oo:Nat} {hs:List (Nat×Nat×Nat)} {g:List (List Int)} (h:Bz w ob oo hs g) {i:Nat} {v:Value} (hv:w.cell? ⟨ob,oo+i,none⟩=some v) :
 Bz ((w.setCell ⟨ob,oo+i,none⟩ v).setCell ⟨ob,oo+i,none⟩ v) ob oo hs g:=by
 have hc:∀ q,((w.setCell ⟨ob,oo+i,none⟩ v).setCell ⟨ob,oo+i,none⟩ v).cell? q=w.cell? q:=fun q=>by
  by_cases e:(⟨ob,oo+i,none⟩:Addr)=q
  ·subst e
   rw [hv]
   refine Ar _ _ _ ?_
   rw [Ar _ _ _ (by rw [hv]; rfl)]; rfl
  ·rw [Ad _ _ _ _ e,Ad _ _ _ _ e]
 have hf:∀ q,((w.setCell ⟨ob,oo+i,none⟩ v).setCell ⟨ob,oo+i,none⟩ v).frozen? q=w.frozen? q:=fun q=>by
  rw [Ao,Ao]
 have hs':((w.setCell ⟨ob,oo+i,none⟩ v).setCell ⟨ob,oo+i,none⟩ v).heap.size=w.heap.size:=by simp [World.setCell]
 refine ⟨h.len,by rw [hs']; exact h.outer,h.gob,fun j hd xs h1 h2=>?_,fun j hd xs h1 h2=>?_,h.apart⟩
 ·rw [hc,hf]; exact h.cell j hd xs h1 h2
 ·obtain ⟨⟨a1,a2,a3⟩,a4⟩:=h.row j hd xs h1 h2
  exact ⟨⟨a1,by rw [hs']; exact a2,fun m x hx=>by rw [hc,hf]; exact a3 m x hx⟩,a4⟩
theorem Fx.of_grown {w w':World} {row:Option Nat} (h:w.grownBy w' row):Fx (fun k=>row=some k) w w' :=
 ⟨h.os,h.tape,h.output,h.size,fun k hk hp=>h.block k hk (fun e=>hp e.symm)⟩
theorem BD {w w':World} {p:Nat→Prop} {base:Nat} {e:TypeId} {size:Nat} {v:Value} {n:Nat} {xs:List Value} (h:w.ownsRow base e size v n xs) (k:Fx p w w') (hp:∀ g,v.ownBlock=some g→¬ p g):w'.ownsRow base e size v n xs:=by
 obtain ⟨h1,h2⟩:=h
 refine ⟨h1, ?_⟩
 rcases h2 with h2 | ⟨g,cap,cur,rfl,hg,hh,r⟩
 ·exact .inl h2
 ·have hlt:g < w.heap.size:=by
   by_cases hl:g < w.heap.size
   ·exact hl
   ·rw [LF (by omega)] at hh; simp at hh
  exact .inr ⟨g,cap,cur,rfl,hg,by rw [k.block g hlt (hp g rfl)]; exact hh,r⟩
theorem AZ {w w':World} {base:Nat} {e:TypeId} {size:Nat} {v:Value} {n:Nat} {xs:List Value} (h:w.ownsRow base e size v n xs) (k:Fr w w'):w'.ownsRow base e size v n xs :=
 BD (p:=fun _=>False) h (Fx.of_fr k) (fun _ _ e=>e)
theorem AE (w:World) (x:Value) (t:TypeId) (n:Nat) (hn:w.heap.size=n):∀ j u,[x][j]?=some u→(w.alloc (.cells #[x] t)).cell? ((⟨n,0,none⟩:Addr).add j)=some u:=by
 subst hn; exact cell_one_new w x t
theorem DM (w:World) (x:Value) (t:TypeId):(w.alloc (.cells #[x] t)).cell? ⟨w.heap.size,0,none⟩=some x:=cell_one_new w x t 0 x rfl
theorem A5 {w:World} {base:Nat} {e:TypeId} {size:Nat} {g n m cap:Nat} {xs:List Value} (h:w.ownsRow base e size (.slice (some ⟨g,0,none⟩) n cap) m xs) :
 n=m∧base≤g∧g < w.heap.size∧n≤cap∧∀ j u,xs[j]?=some u→w.cell? ⟨g,j,none⟩=some u∧w.frozen? ⟨g,j,none⟩=false:=by
 obtain ⟨h1,h2⟩:=h
 rcases h2 with ⟨h2,_⟩ | ⟨g',cap',cur,hv,hg,hh,hn,hc,hs,ht⟩
 ·cases h2
 ·injection hv with hv1 hv2 hv3
  injection hv1 with hv1; injection hv1 with hv1
  subst hv1; subst hv2; subst hv3
  have hlt:g < w.heap.size:=by
   by_cases hl:g < w.heap.size
   ·exact hl
   ·rw [LF (by omega)] at hh; simp at hh
  refine ⟨rfl,hg,hlt,hn,fun j u hu=>?_⟩
  have hju:cur[j]?=some u:=by
   rw [← ht,B6] at hu
   split at hu
   ·simpa using hu
   ·simp at hu
  exact ⟨by simp [World.cell?,hh,hju],by simp [World.frozen?,hh]⟩
theorem Dh {w:World} {base:Nat} {e:TypeId} {g n m cap:Nat} {xs:List Int} (hb:gN≤base) (h:w.ownsRow base e 1 (.slice (some ⟨g,0,none⟩) n cap) m (xs.map sv)):EU w g 0 xs∧n=m∧m=xs.length∧base≤g∧n≤cap:=by
 have h1:=h.1
 obtain ⟨a,b,c,d,f⟩:=A5 h
 refine ⟨⟨by omega,c,fun j x hx=>?_⟩,a,by simpa using h1.symm,b,d⟩
 have:=f j (sv x) (by rw [Ap,hx]; rfl)
 simpa using this
theorem CW {w:World} {base:Nat} {e:TypeId} {size:Nat} {v:Value} {n:Nat} {xs:List Value} (h:w.ownsRow base e size v n xs) (hn:0 < n):∃ g cap,v=.slice (some ⟨g,0,none⟩) n cap:=by
 obtain ⟨_,h2⟩:=h
 rcases h2 with ⟨_,h2⟩ | ⟨g,cap,_,hv,_⟩
 ·omega
 ·exact ⟨g,cap,hv⟩
def Mw (h:Nat×Nat×Nat) (xs:List Int):Value:=.slice (some ⟨h.1,h.2.1,none⟩) xs.length h.2.2
def Lb (hs:List (Nat×Nat×Nat)) (g:List (List Int)):List Value:=List.zipWith Mw hs g
structure GG (w:World) (base:Nat) (E:TypeId) (v:Value) (hs:List (Nat×Nat×Nat)) (g:List (List Int)):Prop where
 gbase:gN≤base
 len:hs.length=g.length
 own:w.ownsRow base E 1 v g.length (Lb hs g)
 row:∀ (i:Nat) (h:Nat×Nat×Nat) (xs:List Int),hs[i]?=some h→g[i]?=some xs→EU w h.1 h.2.1 xs∧v.ownBlock≠some h.1
 apart:∀ (i j:Nat) (hi hj:Nat×Nat×Nat),hs[i]?=some hi→hs[j]?=some hj→i≠j→hi.1≠hj.1
theorem GG.nil (w:World) (base:Nat) (E:TypeId) (h:gN≤base):GG w base E (.slice none 0 0) [] [] :=
 ⟨h,rfl,AX _ _ _ _,fun i h xs h1=>by simp at h1,fun i j hi hj h1=>by simp at h1⟩
theorem GG.fr {w w':World} {base:Nat} {E:TypeId} {v:Value} {hs:List (Nat×Nat×Nat)} {g:List (List Int)} (h:GG w base E v hs g) (k:Fr w w'):GG w' base E v hs g :=
 ⟨h.gbase,h.len,AZ h.own k,fun i hd xs h1 h2=>⟨(h.row i hd xs h1 h2).1.fr k,(h.row i hd xs h1 h2).2⟩,h.apart⟩
theorem GG.lt {w:World} {base:Nat} {E:TypeId} {v:Value} {hs:List (Nat×Nat×Nat)} {g:List (List Int)} (h:GG w base E v hs g):∀ hd,hd ∈ hs→hd.1 < w.heap.size:=fun hd hm=>by
 obtain ⟨i,hi⟩:=A6 hm
 have hl:i < g.length:=by rw [← h.len]; exact (Ag.1 hi).1
 exact (h.row i hd _ hi (Ac hl)).1.2.1
theorem Mv (hs:List (Nat×Nat×Nat)) (g:List (List Int)) (h:Nat×Nat×Nat) (xs:List Int) (hl:hs.length=g.length):Lb (hs ++ [h]) (g ++ [xs])=Lb hs g ++ [Mw h xs]:=by
 unfold Lb; rw [Yb hl]; rfl
theorem GG.push {w w':World} {base:Nat} {E:TypeId} {v:Value} {hs:List (Nat×Nat×Nat)} {g:List (List Int)} (h:GG w base E v hs g) {hd:Nat×Nat×Nat} {xs:List Int} (ho:EU w hd.1 hd.2.1 xs)
 (hne:∀ h',h' ∈ hs→h'.1≠hd.1) (hv:v.ownBlock≠some hd.1) {gb cap:Nat} (hown:w'.ownsRow base E 1 (.slice (some ⟨gb,0,none⟩) (g.length+1) cap) (g.length+1) (Lb hs g ++ [Mw hd xs]))
 (hg:w.grownBy w' v.ownBlock) (hat:v.ownBlock=some gb∨w.heap.size≤gb):GG w' base E (.slice (some ⟨gb,0,none⟩) (g.length+1) cap) (hs ++ [hd]) (g ++ [xs]):=by
 have hfx:=Fx.of_grown hg
 have hrow:∀ (i:Nat) (h0:Nat×Nat×Nat) (ys:List Int),hs[i]?=some h0→g[i]?=some ys→EU w' h0.1 h0.2.1 ys∧gb≠h0.1:=fun i h0 ys h1 h2=>by
  obtain ⟨a,b⟩:=h.row i h0 ys h1 h2
  refine ⟨a.fx hfx (fun e=>b e), ?_⟩
  rcases hat with e | e
  ·intro e2; rw [e2] at e; exact b e
  ·have:=a.2.1; omega
 refine ⟨h.gbase,by simp [h.len], ?_,fun i h0 ys h1 h2=>?_,fun i j hi hj h1 h2 hij=>?_⟩
 ·rw [Mv _ _ _ _ h.len]; simpa using hown
 ·by_cases hi:i < g.length
  ·rw [AP (by rw [h.len]; exact hi)] at h1
   rw [AP hi] at h2
   obtain ⟨a,b⟩:=hrow i h0 ys h1 h2
   exact ⟨a,fun e=>by injection e with e; exact b e⟩
  ·rw [AR (by omega)] at h2
   rw [AR (by rw [h.len]; omega)] at h1
   rw [Ce] at h1 h2
   split at h1
   ·split at h2
    ·injection h1 with h1; injection h2 with h2; subst h1; subst h2
     refine ⟨ho.fx hfx (fun e=>hv e),fun e=>?_⟩
     injection e with e
     rcases hat with e2 | e2
     ·have e3:gb=hd.1:=e
      rw [e3] at e2; exact hv e2
     ·have:=ho.2.1
      have e3:gb=hd.1:=e
      omega
    ·simp at h2
   ·simp at h1
 ·have key:∀ (i:Nat) (h0:Nat×Nat×Nat),(hs ++ [hd])[i]?=some h0→(i < hs.length∧hs[i]?=some h0)∨(i=hs.length∧h0=hd):=fun i h0 h=>by
   by_cases hi:i < hs.length
   ·rw [AP hi] at h; exact .inl ⟨hi,h⟩
   ·rw [AR (by omega),Ce] at h
    split at h
    ·injection h with h; exact .inr ⟨by omega,h.symm⟩
    ·simp at h
  rcases key i hi h1 with ⟨a1,a2⟩ | ⟨a1,a2⟩ <;> rcases key j hj h2 with ⟨b1,b2⟩ | ⟨b1,b2⟩
  ·exact h.apart i j _ _ a2 b2 hij
  ·subst b2; exact hne _ (Ae a2)
  ·subst a2; exact (hne _ (Ae b2)).symm
  ·omega
theorem GG.pushN {w w':World} {base:Nat} {E:TypeId} {v u:Value} {hs:List (Nat×Nat×Nat)} {g:List (List Int)} (h:GG w base E v hs g) {hd:Nat×Nat×Nat} {xs:List Int} (ho:EU w hd.1 hd.2.1 xs)
 (hne:∀ h',h' ∈ hs→h'.1≠hd.1) (hv:v.ownBlock≠some hd.1) {gb cap n:Nat} (hn:g.length=n) (hu:u=Mw hd xs) (hown:w'.ownsRow base E 1 (.slice (some ⟨gb,0,none⟩) (n+1) cap) (n+1) (Lb hs g ++ [u]))
 (hg:w.grownBy w' v.ownBlock) (hat:v.ownBlock=some gb∨w.heap.size≤gb):GG w' base E (.slice (some ⟨gb,0,none⟩) (n+1) cap) (hs ++ [hd]) (g ++ [xs]):=by
 subst hn; subst hu
 exact h.push ho hne hv hown hg hat
theorem GG.grid {w:World} {base:Nat} {E:TypeId} {gb n cap:Nat} {hs:List (Nat×Nat×Nat)} {g:List (List Int)} (h:GG w base E (.slice (some ⟨gb,0,none⟩) n cap) hs g):Bz w gb 0 hs g∧n=g.length∧base≤gb∧n≤cap:=by
 obtain ⟨a,b,c,d,f⟩:=A5 h.own
 refine ⟨⟨h.len,c,AM h.gbase b,fun i hd xs h1 h2=>?_,fun i hd xs h1 h2=>?_,h.apart⟩,a,b,d⟩
 ·have:=f i (Mw hd xs) (by unfold Lb; rw [Ds,h1,h2])
  simpa [Mw] using this
 ·obtain ⟨p,q⟩:=h.row i hd xs h1 h2
  exact ⟨p,fun e=>q (by simp [Value.ownBlock,e])⟩
theorem BT {w:World} {base base':Nat} {e:TypeId} {size:Nat} {v:Value} {n:Nat} {xs:List Value} (h:w.ownsRow base e size v n xs) (hb:base'≤base):w.ownsRow base' e size v n xs:=by
 obtain ⟨h1,h2⟩:=h
 refine ⟨h1, ?_⟩
 rcases h2 with h2 | ⟨g,cap,cur,hv,hg,r⟩
 ·exact .inl h2
 ·exact .inr ⟨g,cap,cur,hv,AM hb hg,r⟩
def Fe (w:World) (hs:List (Nat×Nat×Nat)) (g:List (List Int)):Prop :=
 ∀ (i:Nat) (h:Nat×Nat×Nat) (xs:List Int),hs[i]?=some h→g[i]?=some xs→h.2.1=0∧w.ownsRow gN 42 1 (.slice (some ⟨h.1,0,none⟩) xs.length h.2.2) xs.length (xs.map sv)
theorem Fe.nil (w:World):Fe w [] []:=fun i h xs h1=>by simp at h1
theorem Fe.fx {w w':World} {p:Nat→Prop} {hs:List (Nat×Nat×Nat)} {g:List (List Int)} (h:Fe w hs g) (k:Fx p w w') (hp:∀ hd,hd ∈ hs→¬ p hd.1):Fe w' hs g:=fun i hd xs h1 h2=>by
 obtain ⟨a,b⟩:=h i hd xs h1 h2
 refine ⟨a,BD b k (fun g hg=>?_)⟩
 have e:hd.1=g:=by simpa [Value.ownBlock] using hg
 rw [← e]
 exact hp hd (Ae h1)
theorem Fe.fr {w w':World} {hs:List (Nat×Nat×Nat)} {g:List (List Int)} (h:Fe w hs g) (k:Fr w w'):Fe w' hs g :=
 h.fx (p:=fun _=>False) (Fx.of_fr k) (fun _ _ e=>e)
theorem Fe.push {w:World} {hs:List (Nat×Nat×Nat)} {g:List (List Int)} (h:Fe w hs g) (hl:hs.length=g.length) {hd:Nat×Nat×Nat} {xs:List Int} (h0:hd.2.1=0)
 (ho:w.ownsRow gN 42 1 (.slice (some ⟨hd.1,0,none⟩) xs.length hd.2.2) xs.length (xs.map sv)):Fe w (hs ++ [hd]) (g ++ [xs]):=fun i h1 ys k1 k2=>by
 by_cases hi:i < g.length
 ·rw [AP (by rw [hl]; exact hi)] at k1
  rw [AP hi] at k2
  exact h i h1 ys k1 k2
 ·rw [AR (by omega),Ce] at k2
  rw [AR (by rw [hl]; omega),Ce] at k1
  split at k1
  ·split at k2
   ·injection k1 with k1; injection k2 with k2; subst k1; subst k2; exact ⟨h0,ho⟩
   ·simp at k2
  ·simp at k1
end Go.Proofs.YtcglmebcfeoedaaGreatDoor
