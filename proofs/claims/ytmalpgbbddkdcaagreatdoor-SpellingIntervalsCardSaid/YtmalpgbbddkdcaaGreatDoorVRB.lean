/- Contracts and laws: VRB. -/
import Derived.Test.YtmalpgbbddkdcaaGreatDoorVRA
import Derived.Laws.AppendOwnNone

namespace Go.Proofs.YtmalpgbbddkdcaaGreatDoor
open Go.RowKit Go.Lib
attribute [local go_sem ↓] Go.wp_at_zero Go.wp_at_succ
def ToS2 (m:Nat) (T:List UInt8) (out:List Int):Prop:=(T=[]∧out=chunks m)∨∃ m',T=decDigits m'∧out ++ chunks m'=chunks m
theorem ToS2.step {m m':Nat} {out:List Int} (hb:out ++ chunks m'=chunks m):∃ (q r:Nat) (T1 T2:List UInt8),decDigits m'=T1 ++ T2∧T1.length=q∧T2.length=r∧1≤r∧r≤9∧(9 < q+r→r=9)∧(q+r≤9→q=0) ∧
 (∀ c,c ∈ T2→48≤c.toNat∧c.toNat≤57)∧digVal 0 T2 < 1000000000∧ToS2 m T1 (out ++ [(digVal 0 T2:Int)]):=by
 by_cases hbig:1000000000≤m'
 ·have h1:0 < m' / 1000000000:=by omega
  have h2:=padk_len 9 (m' % 1000000000)
  have h3:=List.length_pos_iff.2 (dec_ne (m' / 1000000000))
  have hv:=padk_val 9 (m' % 1000000000) (by show _ < 1000000000; omega)
  refine ⟨_,9,decDigits (m' / 1000000000),padk 9 (m' % 1000000000),dec_nine hbig,rfl,h2,by omega,by omega,fun _=>rfl,fun h=>by omega,padk_dig _ _,by rw [hv]; omega,.inr ⟨_,rfl, ?_⟩⟩
  rw [hv,← hb,chunks_big hbig,List.append_assoc]; rfl
 ·have h9:=dec_len 9 m' (by omega) (by show _ < 1000000000; omega)
  have h1:=List.length_pos_iff.2 (dec_ne m')
  refine ⟨0,_,[],decDigits m',rfl,rfl,rfl,by omega,h9,fun h=>by omega,fun _=>rfl,dec_digits _,by rw [digVal_dec]; omega,.inl ⟨rfl, ?_⟩⟩
  rw [digVal_dec,← hb,chunks_small (by omega)]
theorem digs_take (T:List UInt8) (hT:∀ c,c ∈ T→48≤c.toNat∧c.toNat≤57) (hv:digVal 0 T < 1000000000) (j:Nat) (hj:j < T.length):48≤(T[j]'hj).toNat∧(T[j]'hj).toNat≤57∧digVal 0 (T.take (j+1))=10 * digVal 0 (T.take j)+((T[j]'hj).toNat - 48)∧digVal 0 (T.take j) < 1000000000:=by
 obtain ⟨h1,h2⟩:=hT _ (List.getElem_mem hj)
 refine ⟨h1,h2, ?_, ?_⟩
 ·rw [List.take_succ_eq_append_getElem hj,digVal_append,digVal_one]
 ·have:=digVal_le (T.take j) (T.drop j) 0 (fun c hc=>hT c (List.mem_of_mem_drop hc))
  rw [List.take_append_drop] at this
  omega
theorem digs_get {u i:Nat} {d:Int} (h:(digs u)[i]?=some d):0 < u / 1000000000 ^ i∧d=((u / 1000000000 ^ i % 1000000000:Nat):Int):=by
 have h1:=digs_drop i u
 have h2:=drop_cons h
 rw [h1] at h2
 by_cases h0:u / 1000000000 ^ i=0
 ·rw [h0,digs_zero] at h2; cases h2
 ·have hp:=Nat.pos_of_ne_zero h0
  rw [digs_pos hp] at h2
  injection h2 with h2
  exact ⟨hp,h2.symm⟩
def sgnT (neg:Bool) (u:Nat):Int:=if neg then -(u:Int) else (u:Int)
def Bn (k:Nat) (n:Int):Prop:=n.natAbs < 10 ^ k
theorem Bn.mono {j k:Nat} {n:Int} (h:Bn j n) (hk:j≤k):Bn k n:=Nat.lt_of_lt_of_le h (Nat.pow_le_pow_right (by decide) hk)
theorem Bn.size {k:Nat} {n:Int} (h:Bn k n):(tx (n.natAbs:Int)).size≤k+1:=by
 rw [tx_size,itoa_nn (Int.natCast_nonneg _),Int.toNat_natCast]
 exact dec_len (k+1) n.natAbs (by omega) (Bn.mono h (by omega))
theorem Bn.size2 {k:Nat} {n:Int} (h:Bn k n):(tx n).size≤k+2:=by
 have h1:=h.size
 rw [tx_size,itoa_nn (Int.natCast_nonneg _),Int.toNat_natCast] at h1
 rw [tx_size]
 by_cases hn:n < 0
 ·rw [itoa_ng hn,List.length_cons]; omega
 ·rw [itoa_nn (by omega),show n.toNat=n.natAbs by omega]; omega
theorem Bn.neg {k:Nat} {n:Int} (h:Bn k n):Bn k (-n):=by unfold Bn at *; rw [Int.natAbs_neg]; exact h
theorem Bn.add {k:Nat} {a b:Int} (ha:Bn k a) (hb:Bn k b):Bn (k+1) (a+b):=by
 unfold Bn at *
 have h1:=Int.natAbs_add_le a b
 rw [Nat.pow_succ]
 omega
theorem Bn.mul {j k:Nat} {a b:Int} (ha:Bn j a) (hb:Bn k b):Bn (j+k) (a * b):=by
 unfold Bn at *
 rw [Int.natAbs_mul,Nat.pow_add]
 exact Nat.mul_lt_mul'' ha hb
theorem sm_of_size {n:Int} (h:(tx (n.natAbs:Int)).size≤18):S18 n:=by
 rw [tx_size,itoa_nn (Int.natCast_nonneg _),Int.toNat_natCast] at h
 have h1:=(digVal_bound (decDigits n.natAbs) 0 (dec_digits _)).2
 rw [digVal_dec,Nat.zero_add,Nat.one_mul] at h1
 have h2:10 ^ (decDigits n.natAbs).length≤10 ^ 18:=Nat.pow_le_pow_right (by decide) h
 have h3:n.natAbs < 1000000000000000000:=Nat.lt_of_lt_of_le h1 h2
 unfold S18
 omega
def sd (n:Int):Int:=if n < 0 then -1 else 1
theorem sgnT_mul (a b:Int):sgnT (sd a != sd b) (a.natAbs * b.natAbs)=a * b:=by
 unfold sgnT sd
 have h:=Int.natAbs_mul a b
 by_cases ha:a < 0
 ·rw [if_pos ha]
  by_cases hb:b < 0
  ·rw [if_pos hb,if_neg (by decide),← h]
   have:=Int.mul_pos_of_neg_of_neg ha hb
   omega
  ·rw [if_neg hb,if_pos (by decide),← h]
   have:a * b≤0:=Int.mul_nonpos_of_nonpos_of_nonneg (by omega) (by omega)
   omega
 ·rw [if_neg ha]
  by_cases hb:b < 0
  ·rw [if_pos hb,if_pos (by decide),← h]
   have:a * b≤0:=Int.mul_nonpos_of_nonneg_of_nonpos (by omega) (by omega)
   omega
  ·rw [if_neg hb,if_neg (by decide),← h]
   have:0≤a * b:=Int.mul_nonneg (by omega) (by omega)
   omega
theorem mul_small {a b:Int} (hs:(tx (a.natAbs:Int)).size+(tx (b.natAbs:Int)).size≤18):-9223372036854775808≤a * b∧a * b≤9223372036854775807:=by
 rw [tx_size,tx_size,itoa_nn (Int.natCast_nonneg _),itoa_nn (Int.natCast_nonneg _),Int.toNat_natCast,Int.toNat_natCast] at hs
 have h1:=(digVal_bound (decDigits a.natAbs) 0 (dec_digits _)).2
 have h2:=(digVal_bound (decDigits b.natAbs) 0 (dec_digits _)).2
 rw [digVal_dec,Nat.zero_add,Nat.one_mul] at h1 h2
 have h3:(a * b).natAbs < 10 ^ ((decDigits a.natAbs).length+(decDigits b.natAbs).length):=by
  rw [Int.natAbs_mul,Nat.pow_add]; exact Nat.mul_lt_mul'' h1 h2
 have h4:10 ^ ((decDigits a.natAbs).length+(decDigits b.natAbs).length)≤10 ^ 18:=Nat.pow_le_pow_right (by decide) hs
 have h5:(a * b).natAbs < 1000000000000000000:=Nat.lt_of_lt_of_le h3 h4
 generalize a * b=c at *
 omega
structure DivI (u v n k:Nat) (out:List Int):Prop where
 len:out.length=n
 dg:Dg out
 low:out.take k=List.replicate k 0
 vl:val (out.drop k)=((u / 1000000000 ^ k / v:Nat):Int)
theorem DivI.start (u v:Nat):DivI u v (digs u).length (digs u).length (List.replicate (digs u).length 0):=by
 refine ⟨List.length_replicate,fun d hd=>?_, ?_, ?_⟩
 ·rw [List.eq_of_mem_replicate hd]; omega
 ·rw [List.take_of_length_le (by rw [List.length_replicate]; exact Nat.le_refl _)]
 ·rw [List.drop_eq_nil_of_le (by rw [List.length_replicate]; exact Nat.le_refl _)]
  have h:=digs_drop (digs u).length u
  rw [List.drop_length] at h
  rw [digs_nil.1 h.symm,Nat.zero_div]; rfl
theorem DivI.fin {u v n:Nat} {out:List Int} (h:DivI u v n 0 out):trimL out=digs (u / v):=by
 have:=h.vl
 rw [List.drop_zero,Nat.pow_zero,Nat.div_one] at this
 rw [trimL_digs h.dg,this,Int.toNat_natCast]
theorem div_split (U v d:Nat) (_hv:0 < v):(1000000000 * U+d) / v=1000000000 * (U / v)+(1000000000 * (U % v)+d) / v∧(1000000000 * U+d) % v=(1000000000 * (U % v)+d) % v:=by
 have h:=Nat.div_add_mod U v
 have e:1000000000 * U+d=v * (1000000000 * (U / v))+(1000000000 * (U % v)+d):=by
  have:v * (1000000000 * (U / v))=1000000000 * (v * (U / v)):=Nat.mul_left_comm _ _ _
  rw [this]; omega
 rw [e]
 exact ⟨by rw [Nat.mul_add_div _hv],by rw [Nat.mul_add_mod]⟩
theorem div_lt_base (U v d:Nat) (hv:0 < v) (hd:d < 1000000000):(1000000000 * (U % v)+d) / v < 1000000000:=by
 rw [Nat.div_lt_iff_lt_mul hv]
 have h:=Nat.mod_lt U hv
 have h2:1000000000 * (U % v+1)≤1000000000 * v:=Nat.mul_le_mul_left _ h
 omega
theorem DivI.step {u v n k q:Nat} {out:List Int} (h:DivI u v n (k+1) out) (hk:k < n) (hv:0 < v) (hq:q=(1000000000 * (u / 1000000000 ^ (k+1) % v)+u / 1000000000 ^ k % 1000000000) / v):DivI u v n k (out.set k (q:Int)):=by
 have e:u / 1000000000 ^ (k+1)=u / 1000000000 ^ k / 1000000000:=by rw [Nat.pow_succ,Nat.div_div_eq_div_mul]
 have hl:=h.len
 have hq9:q < 1000000000:=by rw [hq]; exact div_lt_base _ _ _ hv (Nat.mod_lt _ (by decide))
 refine ⟨by rw [List.length_set]; exact hl,h.dg.set k ⟨Int.natCast_nonneg _,by omega⟩, ?_, ?_⟩
 ·have h1:=h.low
  rw [List.take_set_of_le (Nat.le_refl _)]
  have h2:(out.take (k+1)).take k=(List.replicate (k+1) (0:Int)).take k:=by rw [h1]
  rw [List.take_take,Nat.min_eq_left (by omega),List.take_replicate,Nat.min_eq_left (by omega)] at h2
  exact h2
 ·have h1:=h.vl
  rw [List.drop_eq_getElem_cons (by rw [List.length_set]; omega),List.getElem_set_self,List.drop_set_of_lt (by omega)]
  show (q:Int)+1000000000 * val (out.drop (k+1))=_
  rw [h1,hq,e]
  have h2:=(div_split (u / 1000000000 ^ k / 1000000000) v (u / 1000000000 ^ k % 1000000000) hv).1
  rw [Nat.div_add_mod] at h2
  rw [h2]
  omega
theorem rest_step (u v k:Nat) (hv:0 < v):(1000000000 * (u / 1000000000 ^ (k+1) % v)+u / 1000000000 ^ k % 1000000000) % v=u / 1000000000 ^ k % v:=by
 have e:u / 1000000000 ^ (k+1)=u / 1000000000 ^ k / 1000000000:=by rw [Nat.pow_succ,Nat.div_div_eq_div_mul]
 have h2:=(div_split (u / 1000000000 ^ k / 1000000000) v (u / 1000000000 ^ k % 1000000000) hv).2
 rw [Nat.div_add_mod] at h2
 rw [e]; exact h2.symm
theorem int_sg (a:Int):(∃ n:Nat,a=n∧¬ a < 0)∨∃ n:Nat,a=-(n:Int)∧a < 0:=by
 by_cases h:a < 0
 ·exact .inr ⟨a.natAbs,by omega,h⟩
 ·exact .inl ⟨a.natAbs,by omega,h⟩
theorem sgnT_tdiv (a b:Int):sgnT (sd a != sd b) (a.natAbs / b.natAbs)=a.tdiv b:=by
 rcases int_sg a with ⟨m,rfl,ha⟩ | ⟨m,rfl,ha⟩ <;> rcases int_sg b with ⟨n,rfl,hb⟩ | ⟨n,rfl,hb⟩ <;> unfold sd sgnT
 ·rw [if_neg ha,if_neg hb,Int.natAbs_natCast,Int.natAbs_natCast,if_neg (by decide)]; exact (Int.ofNat_tdiv m n).symm
 ·rw [if_neg ha,if_pos hb,Int.natAbs_natCast,Int.natAbs_neg,Int.natAbs_natCast,if_pos (by decide),Int.tdiv_neg]; exact congrArg Neg.neg (Int.ofNat_tdiv m n).symm
 ·rw [if_pos ha,if_neg hb,Int.natAbs_natCast,Int.natAbs_neg,Int.natAbs_natCast,if_pos (by decide),Int.neg_tdiv]; exact congrArg Neg.neg (Int.ofNat_tdiv m n).symm
 ·rw [if_pos ha,if_pos hb,Int.natAbs_neg,Int.natAbs_neg,Int.natAbs_natCast,Int.natAbs_natCast,if_neg (by decide),Int.neg_tdiv,Int.tdiv_neg,Int.neg_neg]; exact (Int.ofNat_tdiv m n).symm
theorem sgnT_tmod (a b:Int):sgnT (decide (sd a < 0)) (a.natAbs % b.natAbs)=a.tmod b:=by
 have hb:a.tmod b=a.tmod (b.natAbs:Int):=by
  rcases int_sg b with ⟨n,rfl,-⟩ | ⟨n,rfl,-⟩
  ·rw [Int.natAbs_natCast]
  ·rw [Int.natAbs_neg,Int.natAbs_natCast,Int.tmod_neg]
 rw [hb]
 rcases int_sg a with ⟨m,rfl,ha⟩ | ⟨m,rfl,ha⟩ <;> unfold sd sgnT
 ·rw [if_neg ha,Int.natAbs_natCast,if_neg (by decide)]; exact (Int.ofNat_tmod m _).symm
 ·rw [if_pos ha,Int.natAbs_neg,Int.natAbs_natCast,if_pos (by decide),Int.neg_tmod]; exact congrArg Neg.neg (Int.ofNat_tmod m _).symm
theorem sd_ne (a b:Int):(sd a != sd b)=true ↔ ¬ (a < 0 ↔ b < 0):=by
 unfold sd
 by_cases ha:a < 0 <;> by_cases hb:b < 0 <;> simp [ha,hb]
theorem tmod_sg {a b:Int} (h:a.tmod b≠0):a.tmod b < 0 ↔ a < 0:=by
 have e:=sgnT_tmod a b
 unfold sd sgnT at e
 by_cases ha:a < 0
 ·rw [if_pos ha,if_pos (by decide)] at e; omega
 ·rw [if_neg ha,if_neg (by decide)] at e; omega
end Go.Proofs.YtmalpgbbddkdcaaGreatDoor
