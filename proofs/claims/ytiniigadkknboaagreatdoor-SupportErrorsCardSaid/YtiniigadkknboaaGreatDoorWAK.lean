/- Contracts and laws: WAK. -/
import Derived.Test.YtiniigadkknboaaGreatDoorWAD
import Derived.Test.YtiniigadkknboaaGreatDoorWAJ
import Derived.Test.YtiniigadkknboaaGreatDoorWAI

namespace Go.Proofs.YtiniigadkknboaaGreatDoor
open Go.RowKit Go.Lib
def tb (l:List UInt8):ByteArray:=⟨l.toArray⟩
theorem tb_list (l:List UInt8):(tb l).data.toList=l:=by simp [tb]
theorem tb_size (l:List UInt8):(tb l).size=l.length:=by simp [tb,ByteArray.size]
theorem tb_extract (l:List UInt8) (i j:Nat):(tb l).extract i j=tb ((l.take j).drop i):=by
 refine ba_ext ?_
 rw [tb_list,ByteArray.data_extract,Array.toList_extract,tb_list]
 rw [List.drop_take]
theorem tx_tb (n:Int):tx n=tb (itoa n):=rfl
def padk:Nat→Nat→List UInt8
 | 0,_=>[]
 | k+1,m=>padk k (m / 10) ++ [UInt8.ofNat (48+m % 10)]
theorem padk_len:∀ (k m:Nat),(padk k m).length=k
 | 0,_=>rfl
 | k+1,m=>by show (padk k (m / 10) ++ [_]).length=k+1; rw [List.length_append,padk_len k]; rfl
theorem dec_big {n:Nat} (h:10≤n):decDigits n=decDigits (n / 10) ++ [UInt8.ofNat (48+n % 10)]:=by
 rw [decDigits,dif_neg (by omega)]
theorem dec_small {n:Nat} (h:n < 10):decDigits n=[UInt8.ofNat (48+n)]:=by rw [decDigits,dif_pos h]
theorem dec_split:∀ (k a m:Nat),0 < a→m < 10 ^ k→decDigits (a * 10 ^ k+m)=decDigits a ++ padk k m
 | 0,a,m,ha,hm=>by
   have hm:m < 1:=hm
   obtain rfl:m=0:=by omega
   show decDigits (a * 1+0)=decDigits a ++ []
   rw [List.append_nil,Nat.add_zero,Nat.mul_one]
 | k+1,a,m,ha,hm=>by
   have e:a * 10 ^ (k+1)=a * 10 ^ k * 10:=by rw [Nat.pow_succ,Nat.mul_assoc]
   have hp:0 < a * 10 ^ k:=Nat.mul_pos ha (Nat.pow_pos (by decide))
   rw [Nat.pow_succ] at hm
   have ih:=dec_split k a (m / 10) ha (by omega)
   rw [e]
   generalize a * 10 ^ k=q at *
   rw [dec_big (n:=q * 10+m) (by omega),show (q * 10+m) / 10=q+m / 10 by omega,show (q * 10+m) % 10=m % 10 by omega,ih,List.append_assoc]
   rfl
theorem padk_zero:∀ k,padk k 0=List.replicate k 48
 | 0=>rfl
 | k+1=>by
   show padk k (0 / 10) ++ [_]=_
   rw [show 0 / 10=0 from rfl,padk_zero k,List.replicate_succ']; rfl
theorem padk_rep:∀ (k m:Nat),1≤k→m < 10 ^ k→padk k m=List.replicate (k - (decDigits m).length) 48 ++ decDigits m
 | 0,m,h,_=>by omega
 | k+1,m,_,hm=>by
   show padk k (m / 10) ++ [_]=_
   by_cases h:m < 10
   ·rw [dec_small h,Nat.div_eq_of_lt h,Nat.mod_eq_of_lt h,padk_zero]; rfl
   ·have hk:1≤k:=by
     by_cases h0:k=0
     ·subst h0; simp at hm; omega
     ·omega
    rw [Nat.pow_succ] at hm
    rw [padk_rep k (m / 10) hk (by omega),dec_big (n:=m) (by omega),List.length_append,List.length_singleton,List.append_assoc,Nat.add_sub_add_right]
theorem dec_len (k m:Nat) (hk:1≤k) (hm:m < 10 ^ k):(decDigits m).length≤k:=by
 rw [decDigits_length]; exact nDigits_le k m hk hm
theorem padk_dig:∀ (k m:Nat),∀ c ∈ padk k m,48≤c.toNat∧c.toNat≤57
 | 0,m=>fun c hc=>by cases hc
 | k+1,m=>fun c hc=>by
   rcases List.mem_append.1 (show c ∈ padk k (m / 10) ++ [_] from hc) with h | h
   ·exact padk_dig k _ c h
   ·simp only [List.mem_singleton] at h; subst h; rw [dig_toNat (m % 10) (by omega)]; omega
theorem padk_val:∀ (k m:Nat),m < 10 ^ k→digVal 0 (padk k m)=m
 | 0,m,h=>by have h:m < 1:=h; show 0=m; omega
 | k+1,m,h=>by
   rw [Nat.pow_succ] at h
   show digVal 0 (padk k (m / 10) ++ [_])=m
   rw [digVal_append,padk_val k (m / 10) (by omega)]
   show m / 10 * 10+((UInt8.ofNat (48+m % 10)).toNat - 48)=m
   rw [dig_toNat (m % 10) (by omega)]; omega
def chunks (m:Nat):List Int:=if m < 1000000000 then [(m:Int)] else ((m % 1000000000:Nat):Int) :: chunks (m / 1000000000)
termination_by m
decreasing_by omega
theorem chunks_small {m:Nat} (h:m < 1000000000):chunks m=[(m:Int)]:=by rw [chunks,if_pos h]
theorem chunks_big {m:Nat} (h:1000000000≤m):chunks m=((m % 1000000000:Nat):Int) :: chunks (m / 1000000000):=by rw [chunks,if_neg (by omega)]
theorem chunks_digs:∀ m,0 < m→chunks m=digs m:=fun m=>by
 induction m using Nat.strongRecOn with
 | _ m ih=>
   intro h
   by_cases h9:m < 1000000000
   ·rw [chunks_small h9,digs_one h h9]
   ·rw [chunks_big (by omega),digs_pos h,ih _ (by omega) (by omega)]
theorem chunks_trim (m:Nat):trimL (chunks m)=digs m:=by
 by_cases h:m=0
 ·subst h; rw [chunks_small (by omega),digs_zero]; rfl
 ·rw [chunks_digs m (by omega)]; exact trimL_fix _
theorem dec_nine {m:Nat} (h:1000000000≤m):decDigits m=decDigits (m / 1000000000) ++ padk 9 (m % 1000000000):=by
 have:=dec_split 9 (m / 1000000000) (m % 1000000000) (by omega) (by show _ < 1000000000; omega)
 rw [← this]
 congr 1
 show m=m / 1000000000 * 1000000000+m % 1000000000
 omega
theorem digs_drop:∀ (i n:Nat),(digs n).drop i=digs (n / 1000000000 ^ i)
 | 0,n=>by rw [List.drop_zero,Nat.pow_zero,Nat.div_one]
 | i+1,n=>by
   by_cases h:n=0
   ·subst h; rw [digs_zero,Nat.zero_div,digs_zero,List.drop_nil]
   ·rw [digs_pos (by omega),List.drop_succ_cons,digs_drop i,Nat.div_div_eq_div_mul,Nat.pow_succ,Nat.mul_comm]
attribute [local go_sem ↓] Go.wp_at_zero Go.wp_at_succ
def ToS2 (m:Nat) (T:List UInt8) (out:List Int):Prop:=(T=[]∧out=chunks m)∨∃ m',T=decDigits m'∧out ++ chunks m'=chunks m
theorem ToS2.step {m m':Nat} {out:List Int} (hb:out ++ chunks m'=chunks m):∃ (q r:Nat) (T1 T2:List UInt8),decDigits m'=T1 ++ T2∧T1.length=q∧T2.length=r∧1≤r∧r≤9∧(9 < q+r→r=9)∧(q+r≤9→q=0) ∧
 (∀ c,c ∈ T2→48≤c.toNat∧c.toNat≤57)∧digVal 0 T2 < 1000000000∧ToS2 m T1 (out ++ [(digVal 0 T2:Int)]):=by
 by_cases hbig:1000000000≤m'
 ·have h1:0 < m' / 1000000000:=by omega
  have h2:=padk_len 9 (m' % 1000000000)
  have h3:=List.length_pos_iff.2 (dec_ne (m' / 1000000000))
  have hv:=padk_val 9 (m' % 1000000000) (by show _ < 1000000000; omega)
  refine ⟨_,9,decDigits (m' / 1000000000),padk 9 (m' % 1000000000),dec_nine hbig,rfl,h2,by omega,by omega,fun _=>rfl,fun h=>by omega,padk_dig _ _,by rw [hv]; omega,.inr ⟨_,rfl, ?_⟩⟩
  rw [hv,← hb,chunks_big hbig,List.append_assoc]; rfl
 ·have h9:=dec_len 9 m' (by omega) (by show _ < 1000000000; omega)
  have h1:=List.length_pos_iff.2 (dec_ne m')
  refine ⟨0,_,[],decDigits m',rfl,rfl,rfl,by omega,h9,fun h=>by omega,fun _=>rfl,dec_digits _,by rw [digVal_dec]; omega,.inl ⟨rfl, ?_⟩⟩
  rw [digVal_dec,← hb,chunks_small (by omega)]
theorem digs_take (T:List UInt8) (hT:∀ c,c ∈ T→48≤c.toNat∧c.toNat≤57) (hv:digVal 0 T < 1000000000) (j:Nat) (hj:j < T.length):48≤(T[j]'hj).toNat∧(T[j]'hj).toNat≤57∧digVal 0 (T.take (j+1))=10 * digVal 0 (T.take j)+((T[j]'hj).toNat - 48)∧digVal 0 (T.take j) < 1000000000:=by
 obtain ⟨h1,h2⟩:=hT _ (List.getElem_mem hj)
 refine ⟨h1,h2, ?_, ?_⟩
 ·rw [List.take_succ_eq_append_getElem hj,digVal_append,digVal_one]
 ·have:=digVal_le (T.take j) (T.drop j) 0 (fun c hc=>hT c (List.mem_of_mem_drop hc))
  rw [List.take_append_drop] at this
  omega
theorem digs_get {u i:Nat} {d:Int} (h:(digs u)[i]?=some d):0 < u / 1000000000 ^ i∧d=((u / 1000000000 ^ i % 1000000000:Nat):Int):=by
 have h1:=digs_drop i u
 have h2:=drop_cons h
 rw [h1] at h2
 by_cases h0:u / 1000000000 ^ i=0
 ·rw [h0,digs_zero] at h2; cases h2
 ·have hp:=Nat.pos_of_ne_zero h0
  rw [digs_pos hp] at h2
  injection h2 with h2
  exact ⟨hp,h2.symm⟩
def sgnT (neg:Bool) (u:Nat):Int:=if neg then -(u:Int) else (u:Int)

def Bn (k:Nat) (n:Int):Prop:=n.natAbs < 10 ^ k
theorem Bn.mono {j k:Nat} {n:Int} (h:Bn j n) (hk:j≤k):Bn k n:=Nat.lt_of_lt_of_le h (Nat.pow_le_pow_right (by decide) hk)
theorem Bn.size {k:Nat} {n:Int} (h:Bn k n):(tx (n.natAbs:Int)).size≤k+1:=by
 rw [tx_size,itoa_nn (Int.natCast_nonneg _),Int.toNat_natCast]
 exact dec_len (k+1) n.natAbs (by omega) (Bn.mono h (by omega))
theorem Bn.size2 {k:Nat} {n:Int} (h:Bn k n):(tx n).size≤k+2:=by
 have h1:=h.size
 rw [tx_size,itoa_nn (Int.natCast_nonneg _),Int.toNat_natCast] at h1
 rw [tx_size]
 by_cases hn:n < 0
 ·rw [itoa_ng hn,List.length_cons]; omega
 ·rw [itoa_nn (by omega),show n.toNat=n.natAbs by omega]; omega
theorem Bn.abs {k:Nat} {n:Int} (h:Bn k n):Bn k (n.natAbs:Int):=h
theorem Bn.neg {k:Nat} {n:Int} (h:Bn k n):Bn k (-n):=by unfold Bn at *; rw [Int.natAbs_neg]; exact h
theorem Bn.add {k:Nat} {a b:Int} (ha:Bn k a) (hb:Bn k b):Bn (k+1) (a+b):=by
 unfold Bn at *
 have h1:=Int.natAbs_add_le a b
 rw [Nat.pow_succ]
 omega
theorem Bn.mul {j k:Nat} {a b:Int} (ha:Bn j a) (hb:Bn k b):Bn (j+k) (a * b):=by
 unfold Bn at *
 rw [Int.natAbs_mul,Nat.pow_add]
 exact Nat.mul_lt_mul'' ha hb
theorem sm_of_size {n:Int} (h:(tx (n.natAbs:Int)).size≤18):S18 n:=by
 rw [tx_size,itoa_nn (Int.natCast_nonneg _),Int.toNat_natCast] at h
 have h1:=(digVal_bound (decDigits n.natAbs) 0 (dec_digits _)).2
 rw [digVal_dec,Nat.zero_add,Nat.one_mul] at h1
 have h2:10 ^ (decDigits n.natAbs).length≤10 ^ 18:=Nat.pow_le_pow_right (by decide) h
 have h3:n.natAbs < 1000000000000000000:=Nat.lt_of_lt_of_le h1 h2
 unfold S18
 omega
def sd (n:Int):Int:=if n < 0 then -1 else 1
theorem sgnT_mul (a b:Int):sgnT (sd a != sd b) (a.natAbs * b.natAbs)=a * b:=by
 unfold sgnT sd
 have h:=Int.natAbs_mul a b
 by_cases ha:a < 0
 ·rw [if_pos ha]
  by_cases hb:b < 0
  ·rw [if_pos hb,if_neg (by decide),← h]
   have:=Int.mul_pos_of_neg_of_neg ha hb
   omega
  ·rw [if_neg hb,if_pos (by decide),← h]
   have:a * b≤0:=Int.mul_nonpos_of_nonpos_of_nonneg (by omega) (by omega)
   omega
 ·rw [if_neg ha]
  by_cases hb:b < 0
  ·rw [if_pos hb,if_pos (by decide),← h]
   have:a * b≤0:=Int.mul_nonpos_of_nonneg_of_nonpos (by omega) (by omega)
   omega
  ·rw [if_neg hb,if_neg (by decide),← h]
   have:0≤a * b:=Int.mul_nonneg (by omega) (by omega)
   omega
theorem mul_small {a b:Int} (hs:(tx (a.natAbs:Int)).size+(tx (b.natAbs:Int)).size≤18):-9223372036854775808≤a * b∧a * b≤9223372036854775807:=by
 rw [tx_size,tx_size,itoa_nn (Int.natCast_nonneg _),itoa_nn (Int.natCast_nonneg _),Int.toNat_natCast,Int.toNat_natCast] at hs
 have h1:=(digVal_bound (decDigits a.natAbs) 0 (dec_digits _)).2
 have h2:=(digVal_bound (decDigits b.natAbs) 0 (dec_digits _)).2
 rw [digVal_dec,Nat.zero_add,Nat.one_mul] at h1 h2
 have h3:(a * b).natAbs < 10 ^ ((decDigits a.natAbs).length+(decDigits b.natAbs).length):=by
  rw [Int.natAbs_mul,Nat.pow_add]; exact Nat.mul_lt_mul'' h1 h2
 have h4:10 ^ ((decDigits a.natAbs).length+(decDigits b.natAbs).length)≤10 ^ 18:=Nat.pow_le_pow_right (by decide) hs
 have h5:(a * b).natAbs < 1000000000000000000:=Nat.lt_of_lt_of_le h3 h4
 generalize a * b=c at *
 omega
end Go.Proofs.YtiniigadkknboaaGreatDoor
