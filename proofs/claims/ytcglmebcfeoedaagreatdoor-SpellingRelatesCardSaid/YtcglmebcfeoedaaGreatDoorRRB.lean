/- Contracts and laws: RRB. -/
import Derived.Test.YtcglmebcfeoedaaGreatDoorRRA
import Derived.Laws.AppendOwnNone

namespace Go.Proofs.YtcglmebcfeoedaaGreatDoor
open Go.RowKit Go.Lib
attribute [local go_sem ↓] Go.wp_at_zero Go.wp_at_succ
def ToS2 (m:Nat) (T:List UInt8) (out:List Int):Prop:=(T=[]∧out=chunks m)∨∃ m',T=decDigits m'∧out ++ chunks m'=chunks m
theorem ToS2.step {m m':Nat} {out:List Int} (hb:out ++ chunks m'=chunks m):∃ (q r:Nat) (T1 T2:List UInt8),decDigits m'=T1 ++ T2∧T1.length=q∧T2.length=r∧1≤r∧r≤9∧(9 < q+r→r=9)∧(q+r≤9→q=0) ∧
 (∀ c,c ∈ T2→48≤c.toNat∧c.toNat≤57)∧digVal 0 T2 < 1000000000∧ToS2 m T1 (out ++ [(digVal 0 T2:Int)]):=by
 by_cases hbig:1000000000≤m'
 ·have h1:0 < m' / 1000000000:=by omega
  have h2:=padk_len 9 (m' % 1000000000)
  have h3:=List.length_pos_iff.2 (dec_ne (m' / 1000000000))
  have hv:=padk_val 9 (m' % 1000000000) (by show _ < 1000000000; omega)
  refine ⟨_,9,decDigits (m' / 1000000000),padk 9 (m' % 1000000000),dec_nine hbig,rfl,h2,by omega,by omega,fun _=>rfl,fun h=>by omega,padk_dig _ _,by rw [hv]; omega,.inr ⟨_,rfl, ?_⟩⟩
  rw [hv,← hb,chunks_big hbig,List.append_assoc]; rfl
 ·have h9:=dec_len 9 m' (by omega) (by show _ < 1000000000; omega)
  have h1:=List.length_pos_iff.2 (dec_ne m')
  refine ⟨0,_,[],decDigits m',rfl,rfl,rfl,by omega,h9,fun h=>by omega,fun _=>rfl,dec_digits _,by rw [digVal_dec]; omega,.inl ⟨rfl, ?_⟩⟩
  rw [digVal_dec,← hb,chunks_small (by omega)]

def Bn (k:Nat) (n:Int):Prop:=n.natAbs < 10 ^ k
theorem Bn.mono {j k:Nat} {n:Int} (h:Bn j n) (hk:j≤k):Bn k n:=Nat.lt_of_lt_of_le h (Nat.pow_le_pow_right (by decide) hk)
theorem Bn.size {k:Nat} {n:Int} (h:Bn k n):(tx (n.natAbs:Int)).size≤k+1:=by
 rw [tx_size,itoa_nn (Int.natCast_nonneg _),Int.toNat_natCast]
 exact dec_len (k+1) n.natAbs (by omega) (Bn.mono h (by omega))
theorem Bn.digs {k:Nat} {n:Int} (h:Bn k n):(Go.Proofs.YtcglmebcfeoedaaGreatDoor.digs n.natAbs).length≤k:=by
 refine digs_len k n.natAbs (Nat.lt_of_lt_of_le h ?_)
 exact Nat.pow_le_pow_left (by decide) k
theorem Bn.abs {k:Nat} {n:Int} (h:Bn k n):Bn k (n.natAbs:Int):=h
theorem Bn.neg {k:Nat} {n:Int} (h:Bn k n):Bn k (-n):=by unfold Bn at *; rw [Int.natAbs_neg]; exact h
theorem Bn.add {k:Nat} {a b:Int} (ha:Bn k a) (hb:Bn k b):Bn (k+1) (a+b):=by
 unfold Bn at *
 have h1:=Int.natAbs_add_le a b
 rw [Nat.pow_succ]
 omega
theorem Bn.sub {k:Nat} {a b:Int} (ha:Bn k a) (hb:Bn k b):Bn (k+1) (a - b):=by
 rw [Int.sub_eq_add_neg]; exact ha.add hb.neg
theorem Bn.mul {j k:Nat} {a b:Int} (ha:Bn j a) (hb:Bn k b):Bn (j+k) (a * b):=by
 unfold Bn at *
 rw [Int.natAbs_mul,Nat.pow_add]
 exact Nat.mul_lt_mul'' ha hb
structure DivI (u v n k:Nat) (out:List Int):Prop where
 len:out.length=n
 dg:Dg out
 low:out.take k=List.replicate k 0
 vl:val (out.drop k)=((u / 1000000000 ^ k / v:Nat):Int)
theorem DivI.start (u v:Nat):DivI u v (digs u).length (digs u).length (List.replicate (digs u).length 0):=by
 refine ⟨List.length_replicate,fun d hd=>?_, ?_, ?_⟩
 ·rw [List.eq_of_mem_replicate hd]; omega
 ·rw [List.take_of_length_le (by rw [List.length_replicate]; exact Nat.le_refl _)]
 ·rw [List.drop_eq_nil_of_le (by rw [List.length_replicate]; exact Nat.le_refl _)]
  have h:=digs_drop (digs u).length u
  rw [List.drop_length] at h
  rw [digs_nil.1 h.symm,Nat.zero_div]; rfl
theorem DivI.fin {u v n:Nat} {out:List Int} (h:DivI u v n 0 out):trimL out=digs (u / v):=by
 have:=h.vl
 rw [List.drop_zero,Nat.pow_zero,Nat.div_one] at this
 rw [trimL_digs h.dg,this,Int.toNat_natCast]
theorem div_split (U v d:Nat) (_hv:0 < v):(1000000000 * U+d) / v=1000000000 * (U / v)+(1000000000 * (U % v)+d) / v∧(1000000000 * U+d) % v=(1000000000 * (U % v)+d) % v:=by
 have h:=Nat.div_add_mod U v
 have e:1000000000 * U+d=v * (1000000000 * (U / v))+(1000000000 * (U % v)+d):=by
  have:v * (1000000000 * (U / v))=1000000000 * (v * (U / v)):=Nat.mul_left_comm _ _ _
  rw [this]; omega
 rw [e]
 exact ⟨by rw [Nat.mul_add_div _hv],by rw [Nat.mul_add_mod]⟩
theorem div_lt_base (U v d:Nat) (hv:0 < v) (hd:d < 1000000000):(1000000000 * (U % v)+d) / v < 1000000000:=by
 rw [Nat.div_lt_iff_lt_mul hv]
 have h:=Nat.mod_lt U hv
 have h2:1000000000 * (U % v+1)≤1000000000 * v:=Nat.mul_le_mul_left _ h
 omega
theorem DivI.step {u v n k q:Nat} {out:List Int} (h:DivI u v n (k+1) out) (hk:k < n) (hv:0 < v) (hq:q=(1000000000 * (u / 1000000000 ^ (k+1) % v)+u / 1000000000 ^ k % 1000000000) / v):DivI u v n k (out.set k (q:Int)):=by
 have e:u / 1000000000 ^ (k+1)=u / 1000000000 ^ k / 1000000000:=by rw [Nat.pow_succ,Nat.div_div_eq_div_mul]
 have hl:=h.len
 have hq9:q < 1000000000:=by rw [hq]; exact div_lt_base _ _ _ hv (Nat.mod_lt _ (by decide))
 refine ⟨by rw [List.length_set]; exact hl,h.dg.set k ⟨Int.natCast_nonneg _,by omega⟩, ?_, ?_⟩
 ·have h1:=h.low
  rw [List.take_set_of_le (Nat.le_refl _)]
  have h2:(out.take (k+1)).take k=(List.replicate (k+1) (0:Int)).take k:=by rw [h1]
  rw [List.take_take,Nat.min_eq_left (by omega),List.take_replicate,Nat.min_eq_left (by omega)] at h2
  exact h2
 ·have h1:=h.vl
  rw [List.drop_eq_getElem_cons (by rw [List.length_set]; omega),List.getElem_set_self,List.drop_set_of_lt (by omega)]
  show (q:Int)+1000000000 * val (out.drop (k+1))=_
  rw [h1,hq,e]
  have h2:=(div_split (u / 1000000000 ^ k / 1000000000) v (u / 1000000000 ^ k % 1000000000) hv).1
  rw [Nat.div_add_mod] at h2
  rw [h2]
  omega
theorem El.cell {w:World} {b o:Nat} {xs:List Int} (h:El w iv (some ⟨b,o,none⟩) xs) (i:Nat) (x:Int) (hx:xs[i]?=some x):w.cell? ⟨b,o+i,none⟩=some (iv x):=by
 rcases h with h | ⟨b',o',ha,-,hc⟩
 ·rw [h] at hx; simp at hx
 ·injection ha with ha; injection ha with h1 h2; subst h1; subst h2; exact hc i x hx

end Go.Proofs.YtcglmebcfeoedaaGreatDoor
