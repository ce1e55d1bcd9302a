/- Contracts and laws: RSB. -/
import Derived.Test.YtcglmebcfeoedaaGreatDoorRSA
import Derived.Test.YtcglmebcfeoedaaGreatDoorRRB
import Derived.Test.YtcglmebcfeoedaaGreatDoorRRd
import Derived.Test.YtcglmebcfeoedaaGreatDoorRChk
import Derived.Test.YtcglmebcfeoedaaGreatDoorRD
import Derived.Test.YtcglmebcfeoedaaGreatDoorRSW
import Derived.Test.YtcglmebcfeoedaaGreatDoorRK
import Derived.Test.YtcglmebcfeoedaaGreatDoorRKn
import Derived.Test.YtcglmebcfeoedaaGreatDoorRNB
import Derived.Test.YtcglmebcfeoedaaGreatDoorRMk
import Derived.Lib.SplitLaws

namespace Go.Proofs.YtcglmebcfeoedaaGreatDoor
open Go.RowKit Go.Lib
attribute [local go_sem ↓] Go.wp_at_zero Go.wp_at_succ
def cntF (x:Nat→Rat) (r:Nat→Int):Nat→Int×Int
 | 0=>(0,1)
 | k+1=>((cntF x r k).1 * (x k).den+(cntF x r k).2 * ((x k).num * r k),(cntF x r k).2 * (x k).den)
def cntI (I:List (List Rat)) (r:List Int) (n i:Nat):Int×Int:=cntF (fun k=>entQ I i k) (fun k=>(r[k]?).getD 0) n
def cntS (I:List (List Rat)) (r:List Int) (n:Nat):Option (List Int) :=
 if (List.range n).all (fun i=>decide ((cntI I r n i).1.fmod (cntI I r n i).2=0)) then some ((List.range n).map fun i=>(cntI I r n i).1.fdiv (cntI I r n i).2) else none
theorem cntS_none {I:List (List Rat)} {r:List Int} {n i:Nat} (hi:i < n) (h:(cntI I r n i).1.fmod (cntI I r n i).2≠0):cntS I r n=none:=by
 unfold cntS
 rw [if_neg]
 intro h9
 exact h (of_decide_eq_true (List.all_eq_true.1 h9 i (List.mem_range.2 hi)))
theorem cntS_some {I:List (List Rat)} {r:List Int} {n:Nat} (h:∀ i,i < n→(cntI I r n i).1.fmod (cntI I r n i).2=0):cntS I r n=some ((List.range n).map fun i=>(cntI I r n i).1.fdiv (cntI I r n i).2):=by
 unfold cntS
 rw [if_pos]
 exact List.all_eq_true.2 fun i hi=>decide_eq_true (h i (List.mem_range.1 hi))


theorem dotZ_add (f g h:Nat→Int):∀ n,dotZ (fun j=>f j+g j) h n=dotZ f h n+dotZ g h n
 | 0=>rfl
 | n+1=>by show dotZ _ h n+(f n+g n) * h n=dotZ f h n+f n * h n+(dotZ g h n+g n * h n); rw [dotZ_add f g h n,Int.add_mul]; omega
theorem dotZ_mulL (a:Int) (f h:Nat→Int):∀ n,dotZ (fun j=>a * f j) h n=a * dotZ f h n
 | 0=>by show (0:Int)=a * 0; omega
 | n+1=>by show dotZ _ h n+a * f n * h n=a * (dotZ f h n+f n * h n); rw [dotZ_mulL a f h n,Int.mul_add,Int.mul_assoc]
theorem dotZ_zeroL (h:Nat→Int):∀ n,dotZ (fun _=>0) h n=0
 | 0=>rfl
 | n+1=>by show dotZ _ h n+0 * h n=0; rw [dotZ_zeroL h n]; omega
theorem dotZ_congr {f g f' g':Nat→Int}:∀ {n:Nat},(∀ j,j < n→f j=f' j∧g j=g' j)→dotZ f g n=dotZ f' g' n
 | 0,_=>rfl
 | n+1,h=>by
   show dotZ f g n+f n * g n=dotZ f' g' n+f' n * g' n
   rw [dotZ_congr (fun j hj=>h j (by omega)),(h n (by omega)).1,(h n (by omega)).2]
theorem dotZ_swap (a:Nat→Int) (b:Nat→Nat→Int) (e:Nat→Int) (n:Nat):∀ p,dotZ (fun j=>dotZ a (fun c=>b c j) p) e n=dotZ a (fun c=>dotZ (fun j=>b c j) e n) p
 | 0=>dotZ_zeroL e n
 | p+1=>by
   show dotZ (fun j=>dotZ a (fun c=>b c j) p+a p * b p j) e n=dotZ a _ p+a p * dotZ (fun j=>b p j) e n
   rw [dotZ_add,dotZ_swap a b e n p,dotZ_mulL]
theorem dotZ_delta (D:Int) (k:Nat) (g:Nat→Int):∀ n,dotZ (fun j=>if k=j then D else 0) g n=if k < n then D * g k else 0
 | 0=>by rw [if_neg (Nat.not_lt_zero _)]; rfl
 | n+1=>by
   show dotZ _ g n+(if k=n then D else 0) * g n=_
   rw [dotZ_delta D k g n]
   by_cases h1:k < n
   ·rw [if_pos h1,if_neg (by omega),if_pos (by omega)]; omega
   ·by_cases h2:k=n
    ·subst h2; rw [if_neg h1,if_pos rfl,if_pos (by omega)]; omega
    ·rw [if_neg h1,if_neg h2,if_neg (by omega)]; omega
theorem dotZ_comm (f g:Nat→Int):∀ n,dotZ f g n=dotZ g f n
 | 0=>rfl
 | n+1=>by show dotZ f g n+f n * g n=dotZ g f n+g n * f n; rw [dotZ_comm f g n,Int.mul_comm]
theorem dotZ_bd {f g:Nat→Int} {A B:Nat}:∀ {n:Nat},(∀ j,j < n→(f j).natAbs≤A∧(g j).natAbs≤B)→(dotZ f g n).natAbs≤n * (A * B)
 | 0,_=>by rw [Nat.zero_mul]; exact Nat.le_refl 0
 | n+1,h=>by
   show (dotZ f g n+f n * g n).natAbs≤_
   rw [Nat.add_one_mul]
   exact abs_add (dotZ_bd fun j hj=>h j (by omega)) (abs_mul (h n (by omega)).1 (h n (by omega)).2)
theorem entZ_trM {m:List (List Int)} {n j c:Nat} (hj:j < n):entZ (trM n m) j c=entZ m c j:=by
 unfold entZ
 rw [show rowZ (trM n m) j=colZ m j by unfold rowZ; rw [trM_get m hj]; rfl]
 unfold colZ rowZ
 rw [List.getElem?_map]
 cases m[c]? with
 | none=>simp
 | some r=>rfl
theorem detM_tr {m:List (List Int)} {n:Nat} (hn:n≤3) (hm:m.length=n) (hr:∀ r,r ∈ m→r.length=n):detM (trM n m)=detM m:=by
 have hn4:n=0∨n=1∨n=2∨n=3:=by omega
 rcases hn4 with rfl | rfl | rfl | rfl
 ·rw [List.eq_nil_of_length_eq_zero hm]; rfl
 ·obtain ⟨r,rfl⟩:=list1 hm
  obtain ⟨a,rfl⟩:=list1 (hr r (by simp))
  rfl
 ·obtain ⟨r,r',rfl⟩:=list2 hm
  obtain ⟨a,b,rfl⟩:=list2 (hr r (by simp))
  obtain ⟨d,e,rfl⟩:=list2 (hr r' (by simp))
  show a * e - d * b=a * e - b * d
  rw [Int.mul_comm d b]
 ·obtain ⟨r,r',r'',rfl⟩:=list3 hm
  obtain ⟨a,b,c,rfl⟩:=list3 (hr r (by simp))
  obtain ⟨d,e,f,rfl⟩:=list3 (hr r' (by simp))
  obtain ⟨g,h,i,rfl⟩:=list3 (hr r'' (by simp))
  show det3 a d g b e h c f i=det3 a b c d e f g h i
  unfold det3; grind
theorem bdM_tr {m:List (List Int)} {n B:Nat} (h:BdM B m):BdM B (trM n m):=fun r hr x hx=>by
 obtain ⟨k,-,rfl⟩:=List.mem_map.1 hr
 obtain ⟨q,hq,rfl⟩:=List.mem_map.1 hx
 cases e:q[k]? with
 | none=>simp
 | some y=>exact h q hq y (List.mem_of_getElem? e)
theorem tr_inv {m C C':List (List Int)} {n:Nat} {D D':Int} (h:InvIs m n C D) (h':InvIs (trM n m) n C' D') {i k:Nat} (hi:i < n) (hk:k < n):D * entZ C' i k=D' * entZ C k i:=by
 have e1:dotZ (fun j=>dotZ (fun c=>entZ C k c) (fun c=>entZ m c j) n) (fun j=>entZ C' i j) n=D * entZ C' i k:=by
  have:=dotZ_delta D k (fun j=>entZ C' i j) n
  rw [if_pos hk] at this
  rw [← this]
  exact dotZ_congr fun j hj=>⟨h.one k j hk hj,rfl⟩
 rw [← e1,dotZ_swap (fun c=>entZ C k c) (fun c j=>entZ m c j)]
 have e2:dotZ (fun c=>entZ C k c) (fun c=>dotZ (fun j=>entZ m c j) (fun j=>entZ C' i j) n) n=dotZ (fun c=>entZ C k c) (fun c=>if i=c then D' else 0) n:=by
  refine dotZ_congr fun c hc=>⟨rfl, ?_⟩
  rw [dotZ_comm,← h'.one i c hi hc]
  exact dotZ_congr fun j hj=>⟨rfl,(entZ_trM hj).symm⟩
 rw [e2,dotZ_comm]
 have:=dotZ_delta D' i (fun c=>entZ C k c) n
 rw [if_pos hi] at this
 exact this
theorem divC_ent {C:List (List Int)} {D:Int} {n i k:Nat} (hl:C.length=n) (hr:∀ r,r ∈ C→r.length=n) (hi:i < n) (hk:k < n):entQ (divC C D) i k=(entZ C i k:Rat) / (D:Rat):=by
 obtain ⟨q,h1⟩:∃ q,C[i]?=some q:=⟨_,List.getElem?_eq_getElem (by omega)⟩
 obtain ⟨x,h2⟩:∃ x,q[k]?=some x:=⟨_,List.getElem?_eq_getElem (by rw [hr _ (List.mem_of_getElem? h1)]; exact hk)⟩
 unfold entQ rowQ entZ rowZ divC
 rw [List.getElem?_map,h1]
 simp only [Option.map_some,Option.getD_some]
 rw [List.getElem?_map,h2]; rfl
theorem tr_ent {m C C':List (List Int)} {n:Nat} {D D':Int} (h:InvIs m n C D) (h':InvIs (trM n m) n C' D') {i k:Nat} (hi:i < n) (hk:k < n):entQ (divC C' D') i k=entQ (divC C D) k i:=by
 rw [divC_ent h'.len h'.rect hi hk,divC_ent h.len h.rect hk hi]
 have e:=congrArg (fun t:Int=>(t:Rat)) (tr_inv h h' hi hk)
 simp only [Rat.intCast_mul] at e
 have hD:(D:Rat)≠0:=intQ_ne h.d0
 have hD':(D':Rat)≠0:=intQ_ne h'.d0
 generalize (entZ C' i k:Rat)=x at *
 generalize (entZ C k i:Rat)=y at *
 grind
theorem sumQ_dot {m C:List (List Int)} {n:Nat} {D:Int} (h:InvIs m n C D) (d:List Int) {c:Nat} (hc:c < n):∀ k,k≤n→sumQ (divC C D) d c k=(dotZ (fun j=>(d[j]?).getD 0) (fun j=>entZ C j c) k:Rat) / (D:Rat)
 | 0,_=>by show (0:Rat)=((0:Int):Rat) / _; rw [Rat.div_def]; exact (Rat.zero_mul _).symm
 | k+1,hk=>by
   show sumQ (divC C D) d c k+_ * entQ (divC C D) k c=((dotZ _ _ k+_ * entZ C k c:Int):Rat) / _
   rw [sumQ_dot h d hc k (by omega),divC_ent h.len h.rect (by omega) hc,Rat.intCast_add,Rat.intCast_mul]
   have hD:(D:Rat)≠0:=intQ_ne h.d0
   grind
theorem frac_bd {x y:Int} (hy:y≠0):((x:Rat) / (y:Rat)).num.natAbs≤x.natAbs∧((x:Rat) / (y:Rat)).den≤y.natAbs:=by
 have e:(x:Rat) / (y:Rat)=Rat.divInt x y:=(Rat.divInt_eq_div _ _).symm
 rw [e]
 constructor
 ·rw [Rat.num_divInt]
  refine Nat.le_trans (Int.natAbs_ediv_le_natAbs _ _) ?_
  rw [Int.natAbs_mul,Int.natAbs_sign_of_ne_zero hy,Nat.one_mul]; exact Nat.le_refl _
 ·rw [Rat.den_divInt,if_neg hy]; exact Nat.div_le_self _ _
theorem frac_int (x y:Int) (hy:0 < y):(((x:Rat) / (y:Rat)).den=1 ↔ x.fmod y=0)∧(x.fmod y=0→((x:Rat) / (y:Rat)).num=x.fdiv y):=by
 have hq:(y:Rat)≠0:=intQ_ne (by omega)
 have key:x.fmod y=0→(x:Rat) / (y:Rat)=((x.fdiv y:Int):Rat):=fun h=>by
  have e:=Int.mul_fdiv_add_fmod x y
  rw [h,Int.add_zero] at e
  have e:=congrArg (fun t:Int=>(t:Rat)) e
  simp only [Rat.intCast_mul] at e
  generalize ((x.fdiv y:Int):Rat)=q at *
  grind
 refine ⟨⟨fun h=>?_,fun h=>by rw [key h,Rat.den_intCast]⟩,fun h=>by rw [key h,Rat.num_intCast]⟩
 have e:(x:Rat) / (y:Rat)=((((x:Rat) / (y:Rat)).num:Int):Rat):=by
  have:=Rat.num_divInt_den ((x:Rat) / (y:Rat))
  rw [h,Rat.divInt_eq_div] at this
  generalize ((x:Rat) / (y:Rat)).num=q at *
  rw [show (((1:Nat):Int):Rat)=1 from rfl] at this; grind
 generalize ((x:Rat) / (y:Rat)).num=q at e
 have e2:x=y * q:=by
  refine Rat.intCast_inj.1 ?_
  rw [Rat.intCast_mul,← e]; grind
 rw [e2,Int.mul_comm]; exact Int.mul_fmod_left ..
theorem cntF_pos (x:Nat→Rat) (r:Nat→Int):∀ k,0 < (cntF x r k).2
 | 0=>by show (0:Int) < 1; decide
 | k+1=>Int.mul_pos (cntF_pos x r k) (by have:=den_pos (x k); omega)
def sumRw (x:Nat→Rat) (r:Nat→Int):Nat→Rat
 | 0=>0
 | k+1=>sumRw x r k+(r k:Rat) * x k
theorem cntF_val (x:Nat→Rat) (r:Nat→Int):∀ k,((cntF x r k).1:Rat) / ((cntF x r k).2:Rat)=sumRw x r k
 | 0=>by show ((0:Int):Rat) / ((1:Int):Rat)=0; rw [Rat.div_def]; exact Rat.zero_mul _
 | k+1=>by
   show (((cntF x r k).1 * (x k).den+(cntF x r k).2 * ((x k).num * r k):Int):Rat) / (((cntF x r k).2 * (x k).den:Int):Rat)=sumRw x r k+(r k:Rat) * x k
   have h1:((cntF x r k).2:Rat)≠0:=intQ_ne (by have:=cntF_pos x r k; omega)
   have h2:(((x k).den:Int):Rat)≠0:=intQ_ne (by have:=den_pos (x k); omega)
   have h3:x k=((x k).num:Rat) / (((x k).den:Int):Rat):=by
    have:=Rat.num_divInt_den (x k)
    rw [Rat.divInt_eq_div] at this; exact this.symm
   rw [← cntF_val x r k,Rat.intCast_add,Rat.intCast_mul,Rat.intCast_mul,Rat.intCast_mul,Rat.intCast_mul]
   generalize ((cntF x r k).1:Rat)=a at *
   generalize ((cntF x r k).2:Rat)=b at *
   generalize ((x k).num:Rat)=p at *
   generalize (((x k).den:Int):Rat)=q at *
   generalize (r k:Rat)=t at *
   rw [h3]
   grind
structure SpOk (m C C':List (List Int)) (n:Nat) (D D':Int):Prop where
 inv:InvIs m n C D
 inv':InvIs (trM n m) n C' D'
theorem SpOk.same {m C C':List (List Int)} {n:Nat} {D D':Int} (h:SpOk m C C' n D D') (d:List Int):cntS (divC C' D') d n=solveS (divC C D) d n:=by
 have hv:∀ i,i < n→((cntI (divC C' D') d n i).1:Rat) / ((cntI (divC C' D') d n i).2:Rat)=sumQ (divC C D) d i n:=fun i hi=>by
  unfold cntI
  rw [cntF_val]
  have key:∀ k,k≤n→sumRw (fun k=>entQ (divC C' D') i k) (fun k=>(d[k]?).getD 0) k=sumQ (divC C D) d i k:=fun k=>by
   induction k with
   | zero=>intro _; rfl
   | succ k ih=>
     intro hk
     show sumRw _ _ k+_ * entQ (divC C' D') i k=sumQ _ d i k+_ * entQ (divC C D) k i
     rw [ih (by omega),tr_ent h.inv h.inv' hi (by omega)]
  exact key n (Nat.le_refl _)
 have hf:∀ i,i < n→_:=fun i hi=>frac_int (cntI (divC C' D') d n i).1 (cntI (divC C' D') d n i).2 (cntF_pos _ _ _)
 by_cases hall:∀ i,i < n→(cntI (divC C' D') d n i).1.fmod (cntI (divC C' D') d n i).2=0
 ·rw [cntS_some hall,solveS_some (fun c hc=>by rw [← hv c hc]; exact ((hf c hc).1).2 (hall c hc))]
  unfold numsQ
  exact congrArg some (List.map_congr_left fun i hi=>by
   have hi:=List.mem_range.1 hi
   rw [← hv i hi]; exact ((hf i hi).2 (hall i hi)).symm)
 ·have:∃ i,i < n∧(cntI (divC C' D') d n i).1.fmod (cntI (divC C' D') d n i).2≠0:=Classical.byContradiction fun hno=>hall fun i hi=>Classical.byContradiction fun h9=>hno ⟨i,hi,h9⟩
  obtain ⟨i,hi,h9⟩:=this
  rw [cntS_none hi h9,solveS_none hi (fun e=>h9 ((hf i hi).1.1 (by rw [hv i hi]; exact e)))]
theorem SpOk.ent {m C C':List (List Int)} {n:Nat} {D D':Int} (h:SpOk m C C' n D D') {i k:Nat} (hi:i < n) (hk:k < n):Bn 4 (entQ (divC C' D') i k).num∧Bn 4 ((entQ (divC C' D') i k).den:Int):=by
 rw [divC_ent h.inv'.len h.inv'.rect hi hk]
 obtain ⟨h1,h2⟩:=frac_bd (x:=entZ C' i k) h.inv'.d0
 have h3:=h.inv'.bd.ent i k
 have h4:=h.inv'.dB
 exact ⟨by unfold Bn; omega,by unfold Bn; rw [Int.natAbs_natCast]; omega⟩
theorem SpOk.sum {m C C':List (List Int)} {n:Nat} {D D':Int} (h:SpOk m C C' n D D') (hn:n≤3) {d:List Int} (hd:∀ x,x ∈ d→x.natAbs≤2000000000) {c k:Nat} (hc:c < n) (hk:k≤n):(sumQ (divC C D) d c k).num.natAbs < 1000000000000∧(sumQ (divC C D) d c k).den≤4374:=by
 rw [sumQ_dot h.inv d hc k hk]
 have hb:=frac_bd (x:=dotZ (fun j=>(d[j]?).getD 0) (fun j=>entZ C j c) k) h.inv.d0
 have h1:(dotZ (fun j=>(d[j]?).getD 0) (fun j=>entZ C j c) k).natAbs≤k * (2000000000 * 162):=dotZ_bd fun j _=>⟨by
  show Int.natAbs ((d[j]?).getD 0)≤_
  cases e:d[j]? with
  | none=>decide
  | some x=>exact hd x (List.mem_of_getElem? e),h.inv.bd.ent j c⟩
 have h2:k * (2000000000 * 162)≤3 * (2000000000 * 162):=Nat.mul_le_mul_right _ (by omega)
 have:=h.inv.dB
 exact ⟨by omega,by omega⟩
theorem SpOk.sumOk {m C C':List (List Int)} {n:Nat} {D D':Int} (h:SpOk m C C' n D D') (hn:n≤3) {d:List Int} (hd:∀ x,x ∈ d→x.natAbs≤2000000000):Go.Proofs.YtcglmebcfeoedaaGreatDoor.sumOk (divC C D) d n=true:=by
 refine List.all_eq_true.2 fun c hc=>List.all_eq_true.2 fun k hk=>decide_eq_true ?_
 have hc:=List.mem_range.1 hc
 have hk:=List.mem_range.1 hk
 obtain ⟨s1,s2⟩:=h.sum hn hd hc (show k≤n by omega)
 have hdk:((d[k]?).getD 0).natAbs≤2000000000:=by
  cases e:d[k]? with
  | none=>decide
  | some x=>exact hd x (List.mem_of_getElem? e)
 generalize (d[k]?).getD 0=y at *
 have hent:=divC_ent (D:=D) h.inv.len h.inv.rect hk hc
 obtain ⟨e1,e2⟩:=frac_bd (x:=entZ C k c) h.inv.d0
 have e3:=h.inv.bd.ent k c
 have e4:=h.inv.dB
 have hpr:(y:Rat) * entQ (divC C D) k c=((y * entZ C k c:Int):Rat) / (D:Rat):=by
  rw [hent,Rat.intCast_mul,Rat.div_def,Rat.div_def,Rat.mul_assoc]
 obtain ⟨p1,p2⟩:=frac_bd (x:=y * entZ C k c) h.inv.d0
 have p3:(y * entZ C k c).natAbs≤2000000000 * 162:=abs_mul hdk e3
 rw [hpr,hent]
 generalize ((y * entZ C k c:Int):Rat) / (D:Rat)=P at *
 generalize (entZ C k c:Rat) / (D:Rat)=E at *
 generalize sumQ (divC C D) d c k=S at *
 refine ⟨⟨.inl ⟨by rw [Rat.num_intCast]; omega,by omega⟩,.inl ⟨by rw [Rat.den_intCast]; decide,by rw [Int.natAbs_natCast]; omega⟩⟩,.inl ⟨by omega,by rw [Int.natAbs_natCast]; omega⟩,.inl ⟨by omega,by rw [Int.natAbs_natCast]; omega⟩,.inr (.inr ⟨by rw [Int.natAbs_natCast]; omega,by rw [Int.natAbs_natCast]; omega⟩)⟩
theorem SpOk.small {m C C':List (List Int)} {n:Nat} {D D':Int} (h:SpOk m C C' n D D') (hn:n≤3) {d l:List Int} (hd:∀ x,x ∈ d→x.natAbs≤2000000000) (hs:solveS (divC C D) d n=some l):∀ x,x ∈ l→x.natAbs < 1000000000000:=fun x hx=>by
 unfold solveS at hs
 split at hs
 ·injection hs with hs
  rw [← hs] at hx
  obtain ⟨c,hc,rfl⟩:=List.mem_map.1 hx
  exact (h.sum hn hd (List.mem_range.1 hc) (Nat.le_refl _)).1
 ·cases hs
theorem index_app (c:UInt8) (r:List UInt8):∀ (x:List UInt8),c ∉ x→Lib.index (x ++ c :: r) [c]=x.length
 | [],_=>by
   show (if ([c]:List UInt8).isPrefixOf (c :: r) then (0:Int) else _)=0
   rw [if_pos (by simp [List.isPrefixOf])]
 | b :: x,h=>by
   have h1:c≠b:=fun e=>h (by rw [e]; exact List.mem_cons_self)
   have h2:c ∉ x:=fun e=>h (List.mem_cons_of_mem _ e)
   show (if ([c]:List UInt8).isPrefixOf (b :: (x ++ c :: r)) then (0:Int) else if Lib.index (x ++ c :: r) [c] == -1 then -1 else Lib.index (x ++ c :: r) [c]+1)=_
   rw [if_neg (by simp [List.isPrefixOf,h1]),index_app c r x h2,if_neg (by simp),List.length_cons]
   omega
theorem joinTail_cons (sep x:List UInt8) (r:List (List UInt8)):Lib.joinTail sep (x :: r)=sep ++ x ++ Lib.joinTail sep r:=by
 unfold Lib.joinTail; simp
theorem splitK_join:∀ (ws:List (List UInt8)) (w0:List UInt8),(∀ w,w ∈ w0 :: ws→(32:UInt8) ∉ w)→Lib.splitK [32] 0 ws.length (w0 ++ Lib.joinTail [32] ws)=w0 :: ws
 | [],w0,_=>by show [w0 ++ Lib.joinTail [32] []]=_; unfold Lib.joinTail; simp
 | x :: ws,w0,h=>by
   have hi:Lib.index (w0 ++ Lib.joinTail [32] (x :: ws)) [32]=w0.length:=by
    rw [joinTail_cons]
    exact index_app 32 _ w0 (h w0 List.mem_cons_self)
   have ih:=splitK_join ws x (fun w hw=>h w (List.mem_cons_of_mem _ hw))
   rw [List.length_cons]
   unfold Lib.splitK
   rw [hi,if_neg (by simp),joinTail_cons]
   have e1:(w0 ++ ([32] ++ x ++ Lib.joinTail [32] ws)).take ((w0.length:Int).toNat+0)=w0:=by simp
   have e2:(w0 ++ ([32] ++ x ++ Lib.joinTail [32] ws)).drop ((w0.length:Int).toNat+([32]:List UInt8).length)=x ++ Lib.joinTail [32] ws:=by simp
   rw [e1,e2,ih]
theorem count_joinTail:∀ (ws:List (List UInt8)),(∀ w,w ∈ ws→(32:UInt8) ∉ w)→(Lib.joinTail [32] ws).count 32=ws.length
 | [],_=>by unfold Lib.joinTail; simp
 | x :: ws,h=>by
   rw [joinTail_cons,List.count_append,List.count_append,count_joinTail ws (fun w hw=>h w (List.mem_cons_of_mem _ hw)),List.count_eq_zero_of_not_mem (h x List.mem_cons_self),List.length_cons]
   simp; omega
theorem joinW_data (w0:ByteArray) (ws:List ByteArray):(joinW (w0 :: ws)).data.toList=w0.data.toList ++ Lib.joinTail [32] (ws.map (·.data.toList)):=by
 unfold joinW
 rw [List.map_cons,Lib.join_cons]
theorem ba_list_inj:∀ {a b:List ByteArray},a.map (·.data.toList)=b.map (·.data.toList)→a=b
 | [],[],_=>rfl
 | [],_ :: _,h=>by simp at h
 | _ :: _,[],h=>by simp at h
 | x :: a,y :: b,h=>by
   rw [List.map_cons,List.map_cons] at h
   injection h with h1 h2
   rw [ba_ext h1,ba_list_inj h2]
theorem split_joinW (w0:ByteArray) (ws:List ByteArray) (h:∀ w,w ∈ w0 :: ws→(32:UInt8) ∉ w.data.toList):Lib.countB (joinW (w0 :: ws)) ⟨#[32]⟩=ws.length∧Lib.splitB ⟨#[32]⟩ 0 (Lib.countB (joinW (w0 :: ws)) ⟨#[32]⟩) (joinW (w0 :: ws))=w0 :: ws:=by
 have hc:Lib.countB (joinW (w0 :: ws)) ⟨#[32]⟩=ws.length:=by
  show Lib.count (joinW (w0 :: ws)).data.toList [32]=_
  rw [Lib.count_one,joinW_data,List.count_append,count_joinTail _ (fun w hw=>by
   obtain ⟨x,hx,rfl⟩:=List.mem_map.1 hw
   exact h x (List.mem_cons_of_mem _ hx)),List.count_eq_zero_of_not_mem (h w0 List.mem_cons_self),List.length_map]
  omega
 refine ⟨hc, ?_⟩
 rw [hc]
 apply ba_list_inj
 rw [Lib.splitB_data,joinW_data]
 have:=splitK_join (ws.map (·.data.toList)) w0.data.toList (fun w hw=>by
  rcases List.mem_cons.1 hw with rfl | hw
  ·exact h w0 List.mem_cons_self
  ·obtain ⟨x,hx,rfl⟩:=List.mem_map.1 hw
   exact h x (List.mem_cons_of_mem _ hx))
 rw [List.length_map] at this
 exact this

end Go.Proofs.YtcglmebcfeoedaaGreatDoor
