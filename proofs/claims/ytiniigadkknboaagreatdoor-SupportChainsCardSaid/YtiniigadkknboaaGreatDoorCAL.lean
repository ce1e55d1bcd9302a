/- Contracts and laws: CAL. -/
import Derived.Test.YtiniigadkknboaaGreatDoorCAK
import Derived.Laws.AppendOwnNone
import Derived.Deep.CutRange
import Derived.Laws.IdiomStrings

set_option maxRecDepth 100000
set_option maxHeartbeats 4000000
namespace Go.Proofs.YtiniigadkknboaaGreatDoor
open Go.RowKit Go.Lib
attribute [local go_sem ↓] Go.wp_at_zero Go.wp_at_succ
structure DivI (u v n k:Nat) (out:List Int):Prop where
 len:out.length=n
 dg:Dg out
 low:out.take k=List.replicate k 0
 vl:val (out.drop k)=((u / 1000000000 ^ k / v:Nat):Int)
theorem DivI.start (u v:Nat):DivI u v (digs u).length (digs u).length (List.replicate (digs u).length 0):=by
 refine ⟨List.length_replicate,fun d hd=>?_, ?_, ?_⟩
 ·rw [List.eq_of_mem_replicate hd]; omega
 ·rw [List.take_of_length_le (by rw [List.length_replicate]; exact Nat.le_refl _)]
 ·rw [List.drop_eq_nil_of_le (by rw [List.length_replicate]; exact Nat.le_refl _)]
  have h:=digs_drop (digs u).length u
  rw [List.drop_length] at h
  rw [digs_nil.1 h.symm,Nat.zero_div]; rfl
theorem DivI.fin {u v n:Nat} {out:List Int} (h:DivI u v n 0 out):trimL out=digs (u / v):=by
 have:=h.vl
 rw [List.drop_zero,Nat.pow_zero,Nat.div_one] at this
 rw [trimL_digs h.dg,this,Int.toNat_natCast]
theorem div_split (U v d:Nat) (_hv:0 < v):(1000000000 * U+d) / v=1000000000 * (U / v)+(1000000000 * (U % v)+d) / v∧(1000000000 * U+d) % v=(1000000000 * (U % v)+d) % v:=by
 have h:=Nat.div_add_mod U v
 have e:1000000000 * U+d=v * (1000000000 * (U / v))+(1000000000 * (U % v)+d):=by
  have:v * (1000000000 * (U / v))=1000000000 * (v * (U / v)):=Nat.mul_left_comm _ _ _
  rw [this]; omega
 rw [e]
 exact ⟨by rw [Nat.mul_add_div _hv],by rw [Nat.mul_add_mod]⟩
theorem div_lt_base (U v d:Nat) (hv:0 < v) (hd:d < 1000000000):(1000000000 * (U % v)+d) / v < 1000000000:=by
 rw [Nat.div_lt_iff_lt_mul hv]
 have h:=Nat.mod_lt U hv
 have h2:1000000000 * (U % v+1)≤1000000000 * v:=Nat.mul_le_mul_left _ h
 omega
theorem DivI.step {u v n k q:Nat} {out:List Int} (h:DivI u v n (k+1) out) (hk:k < n) (hv:0 < v) (hq:q=(1000000000 * (u / 1000000000 ^ (k+1) % v)+u / 1000000000 ^ k % 1000000000) / v):DivI u v n k (out.set k (q:Int)):=by
 have e:u / 1000000000 ^ (k+1)=u / 1000000000 ^ k / 1000000000:=by rw [Nat.pow_succ,Nat.div_div_eq_div_mul]
 have hl:=h.len
 have hq9:q < 1000000000:=by rw [hq]; exact div_lt_base _ _ _ hv (Nat.mod_lt _ (by decide))
 refine ⟨by rw [List.length_set]; exact hl,h.dg.set k ⟨Int.natCast_nonneg _,by omega⟩, ?_, ?_⟩
 ·have h1:=h.low
  rw [List.take_set_of_le (Nat.le_refl _)]
  have h2:(out.take (k+1)).take k=(List.replicate (k+1) (0:Int)).take k:=by rw [h1]
  rw [List.take_take,Nat.min_eq_left (by omega),List.take_replicate,Nat.min_eq_left (by omega)] at h2
  exact h2
 ·have h1:=h.vl
  rw [List.drop_eq_getElem_cons (by rw [List.length_set]; omega),List.getElem_set_self,List.drop_set_of_lt (by omega)]
  show (q:Int)+1000000000 * val (out.drop (k+1))=_
  rw [h1,hq,e]
  have h2:=(div_split (u / 1000000000 ^ k / 1000000000) v (u / 1000000000 ^ k % 1000000000) hv).1
  rw [Nat.div_add_mod] at h2
  rw [h2]
  omega
theorem rest_step (u v k:Nat) (hv:0 < v):(1000000000 * (u / 1000000000 ^ (k+1) % v)+u / 1000000000 ^ k % 1000000000) % v=u / 1000000000 ^ k % v:=by
 have e:u / 1000000000 ^ (k+1)=u / 1000000000 ^ k / 1000000000:=by rw [Nat.pow_succ,Nat.div_div_eq_div_mul]
 have h2:=(div_split (u / 1000000000 ^ k / 1000000000) v (u / 1000000000 ^ k % 1000000000) hv).2
 rw [Nat.div_add_mod] at h2
 rw [e]; exact h2.symm
def gd (l:List Int) (j:Nat):Int:=(l[j]?).getD 0
def vF (f:Nat→Int):Nat→Int
 | 0=>0
 | n+1=>vF f n+f n * pw n
theorem vF_cg {f g:Nat→Int}:∀ n,(∀ j,j < n→f j=g j)→vF f n=vF g n
 | 0,_=>rfl
 | n+1,h=>by
   show vF f n+f n * pw n=vF g n+g n * pw n
   rw [vF_cg n (fun j hj=>h j (by omega)),h n (by omega)]
theorem pw_nat:∀ n,pw n=((1000000000 ^ n:Nat):Int)
 | 0=>rfl
 | n+1=>by
   show 1000000000 * pw n=_
   rw [pw_nat n,Nat.pow_succ]; omega
theorem vF_split (f:Nat→Int) (a:Nat):∀ b,vF f (a+b)=vF f a+pw a * vF (fun j=>f (a+j)) b
 | 0=>by show vF f a=vF f a+pw a * 0; omega
 | b+1=>by
   show vF f (a+b)+f (a+b) * pw (a+b)=vF f a+pw a * (vF (fun j=>f (a+j)) b+f (a+b) * pw b)
   rw [vF_split f a b,pw_add]; grind
theorem vF_cons (f:Nat→Int) (n:Nat):vF f (n+1)=f 0+1000000000 * vF (fun j=>f (j+1)) n:=by
 have h:=vF_split f 1 n
 rw [Nat.add_comm 1 n] at h
 rw [h]
 have e:vF (fun j=>f (1+j)) n=vF (fun j=>f (j+1)) n:=vF_cg n fun j _=>by rw [Nat.add_comm]
 rw [e]
 show 0+f 0 * pw 0+pw 1 * _=_
 show 0+f 0 * 1+1000000000 * 1 * _=_
 grind
theorem val_vF:∀ l:List Int,val l=vF (gd l) l.length
 | []=>rfl
 | d :: l=>by
   rw [List.length_cons,vF_cons]
   show d+1000000000 * val l=_
   rw [val_vF l]; rfl
theorem vF_nn {f:Nat→Int}:∀ n,(∀ j,j < n→0≤f j)→0≤vF f n
 | 0,_=>Int.le_refl 0
 | n+1,h=>by
   have h1:=vF_nn n (fun j hj=>h j (by omega))
   have h2:=Int.mul_nonneg (h n (by omega)) (Int.le_of_lt (pw_pos n))
   show 0≤vF f n+f n * pw n
   omega
theorem vF_lt {f:Nat→Int}:∀ n,(∀ j,j < n→0≤f j∧f j < 1000000000)→vF f n < pw n
 | 0,_=>pw_pos 0
 | n+1,h=>by
   have h1:=vF_lt n (fun j hj=>h j (by omega))
   have h2:=Int.mul_le_mul_of_nonneg_right (show f n≤999999999 by have:=(h n (by omega)).2; omega) (Int.le_of_lt (pw_pos n))
   show vF f n+f n * pw n < 1000000000 * pw n
   omega
theorem vF_zero {f:Nat→Int}:∀ n,(∀ j,j < n→f j=0)→vF f n=0
 | 0,_=>rfl
 | n+1,h=>by
   show vF f n+f n * pw n=0
   rw [vF_zero n (fun j hj=>h j (by omega)),h n (by omega)]; omega
theorem vF_top {f:Nat→Int} {a b:Nat} (hf:∀ j,j < a+b→0≤f j∧f j < 1000000000) (h:vF f (a+b) < pw a):∀ j,j < b→f (a+j)=0:=by
 induction b with
 | zero=>intro j hj; omega
 | succ b ih=>
   have e:vF f (a+(b+1))=vF f (a+b)+f (a+b) * pw (a+b):=rfl
   have h0:=vF_nn (f:=f) (a+b) (fun j hj=>(hf j (by omega)).1)
   have h1:=(hf (a+b) (by omega)).1
   have hz:f (a+b)=0:=by
    refine Decidable.byContradiction fun hne=>?_
    have h2:pw (a+b)≤f (a+b) * pw (a+b):=by
     have:=Int.mul_le_mul_of_nonneg_right (show 1≤f (a+b) by omega) (Int.le_of_lt (pw_pos (a+b)))
     omega
    have h3:=pw_mono (a:=a) (b:=a+b) (by omega)
    omega
   rw [e,hz] at h
   have h:=ih (fun j hj=>hf j (by omega)) (by omega)
   intro j hj
   by_cases e:j=b
   ·subst e; exact hz
   ·exact h j (by omega)
section
variable (p q:Nat→Int) (n:Int)
def tkS (m:Nat):Nat→Int×Int
 | 0=>(0,0)
 | k+1=>
   let x:=(tkS m k).1+(if k < m then n * q k else 0)
   (x / 1000000000,if p k - x % 1000000000 - (tkS m k).2 < 0 then 1 else 0)
def tkX (m k:Nat):Int:=(tkS p q n m k).1+(if k < m then n * q k else 0)
def tkD (m k:Nat):Int:=p k - tkX p q n m k % 1000000000 - (tkS p q n m k).2
def tkO (m k:Nat):Int:=if tkD p q n m k < 0 then tkD p q n m k+1000000000 else tkD p q n m k
end
theorem tkS_succ (p q:Nat→Int) (n:Int) (m k:Nat):tkS p q n m (k+1)=(tkX p q n m k / 1000000000,if tkD p q n m k < 0 then 1 else 0):=rfl
theorem tk_bd {p q:Nat→Int} {n:Int} {m:Nat} (hp:∀ j,j≤m→0≤p j∧p j < 1000000000) (hq:∀ j,j < m→0≤q j∧q j < 1000000000) (hn:0≤n∧n < 1000000000):∀ k,k≤m+1→(0≤(tkS p q n m k).1∧(tkS p q n m k).1 < 1000000000)∧((tkS p q n m k).2=0∨(tkS p q n m k).2=1)
 | 0,_=>⟨⟨Int.le_refl 0,(by decide:(0:Int) < 1000000000)⟩,.inl rfl⟩
 | k+1,h=>by
   obtain ⟨⟨h1,h2⟩,h3⟩:=tk_bd hp hq hn k (by omega)
   rw [tkS_succ]
   refine ⟨?_,by show (if tkD p q n m k < 0 then (1:Int) else 0)=0∨(if tkD p q n m k < 0 then (1:Int) else 0)=1; split; exact .inr rfl; exact .inl rfl⟩
   show 0≤tkX p q n m k / 1000000000∧tkX p q n m k / 1000000000 < 1000000000
   have hx:0≤tkX p q n m k∧tkX p q n m k≤999999999+999999999 * 999999999:=by
    unfold tkX
    by_cases hk:k < m
    ·rw [if_pos hk]
     have a1:=Int.mul_nonneg hn.1 (hq k hk).1
     have a2:n * q k≤999999999 * q k:=Int.mul_le_mul_of_nonneg_right (by omega) (hq k hk).1
     have a3:=(hq k hk).2
     constructor <;> omega
    ·rw [if_neg hk]; constructor <;> omega
   constructor
   ·exact Int.ediv_nonneg hx.1 (by decide)
   ·omega
theorem tkX_bd {p q:Nat→Int} {n:Int} {m:Nat} (hp:∀ j,j≤m→0≤p j∧p j < 1000000000) (hq:∀ j,j < m→0≤q j∧q j < 1000000000) (hn:0≤n∧n < 1000000000) {k:Nat} (hk:k≤m):0≤tkX p q n m k∧tkX p q n m k≤999999999+999999999 * 999999999∧(k < m→0≤n * q k∧n * q k≤999999999 * 999999999):=by
 obtain ⟨⟨h1,h2⟩,-⟩:=tk_bd hp hq hn k (by omega)
 unfold tkX
 by_cases hk:k < m
 ·rw [if_pos hk]
  have a1:=Int.mul_nonneg hn.1 (hq k hk).1
  have a2:n * q k≤999999999 * q k:=Int.mul_le_mul_of_nonneg_right (by omega) (hq k hk).1
  have a3:=(hq k hk).2
  exact ⟨by omega,by omega,fun _=>⟨a1,by omega⟩⟩
 ·rw [if_neg hk]; exact ⟨by omega,by omega,fun h=>absurd h hk⟩
theorem tkO_bd {p q:Nat→Int} {n:Int} {m:Nat} (hp:∀ j,j≤m→0≤p j∧p j < 1000000000) (hq:∀ j,j < m→0≤q j∧q j < 1000000000) (hn:0≤n∧n < 1000000000) {k:Nat} (hk:k≤m):0≤tkO p q n m k∧tkO p q n m k < 1000000000:=by
 obtain ⟨⟨h1,h2⟩,h3⟩:=tk_bd hp hq hn k (by omega)
 have h4:=hp k hk
 have h5:=Int.emod_nonneg (tkX p q n m k) (by decide:(1000000000:Int)≠0)
 have h6:=Int.emod_lt_of_pos (tkX p q n m k) (by decide:(0:Int) < 1000000000)
 unfold tkO tkD
 split <;> constructor <;> omega
theorem tk_sum {p q:Nat→Int} {n:Int} {m:Nat}:∀ k,k≤m→vF (tkO p q n m) k=vF p k - n * vF q k+((tkS p q n m k).1+(tkS p q n m k).2) * pw k
 | 0,_=>by show (0:Int)=0 - n * 0+(0+0) * 1; omega
 | k+1,h=>by
   have ih:=tk_sum (p:=p) (q:=q) (n:=n) (m:=m) k (by omega)
   show vF (tkO p q n m) k+tkO p q n m k * pw k=vF p k+p k * pw k - n * (vF q k+q k * pw k)+(tkX p q n m k / 1000000000+(if tkD p q n m k < 0 then 1 else 0)) * (1000000000 * pw k)
   have hx:tkX p q n m k=(tkS p q n m k).1+n * q k:=by unfold tkX; rw [if_pos (by omega)]
   have hd:tkO p q n m k=p k - tkX p q n m k % 1000000000 - (tkS p q n m k).2+1000000000 * (if tkD p q n m k < 0 then 1 else 0):=by
    unfold tkO
    split
    ·unfold tkD; omega
    ·unfold tkD; omega
   have hm:=Int.emod_add_mul_ediv (tkX p q n m k) 1000000000
   rw [ih,hd]
   generalize (if tkD p q n m k < 0 then (1:Int) else 0)=c
   generalize tkX p q n m k / 1000000000=d at *
   generalize tkX p q n m k % 1000000000=e at *
   generalize (tkS p q n m k).2=f
   rw [hx] at hm
   generalize (tkS p q n m k).1=g at *
   have e2:e=g+n * q k - 1000000000 * d:=by omega
   rw [e2]; grind
theorem tk_all {p q:Nat→Int} {n:Int} {m:Nat} (hp:∀ j,j≤m→0≤p j∧p j < 1000000000) (hq:∀ j,j < m→0≤q j∧q j < 1000000000) (hn:0≤n∧n < 1000000000):vF (tkO p q n m) (m+1)=vF p (m+1) - n * vF q m+(tkS p q n m (m+1)).2 * pw (m+1):=by
 have ih:=tk_sum (p:=p) (q:=q) (n:=n) (m:=m) m (Nat.le_refl _)
 obtain ⟨⟨h1,h2⟩,h3⟩:=tk_bd hp hq hn m (by omega)
 have hx:tkX p q n m m=(tkS p q n m m).1:=by unfold tkX; rw [if_neg (Nat.lt_irrefl _)]; omega
 show vF (tkO p q n m) m+tkO p q n m m * pw m=vF p m+p m * pw m - n * vF q m+(if tkD p q n m m < 0 then 1 else 0) * (1000000000 * pw m)
 have hd:tkO p q n m m=p m - (tkS p q n m m).1 - (tkS p q n m m).2+1000000000 * (if tkD p q n m m < 0 then 1 else 0):=by
  unfold tkO
  split
  ·unfold tkD; rw [hx]; omega
  ·unfold tkD; rw [hx]; omega
 rw [ih,hd]; grind
section
variable (p q:Nat→Int)
def bkC (m:Nat):Nat→Int
 | 0=>0
 | k+1=>(bkC m k+p k+(if k < m then q k else 0)) / 1000000000
def bkX (m k:Nat):Int:=bkC p q m k+p k+(if k < m then q k else 0)
def bkO (m k:Nat):Int:=bkX p q m k % 1000000000
end
theorem bkC_succ (p q:Nat→Int) (m k:Nat):bkC p q m (k+1)=bkX p q m k / 1000000000:=rfl
theorem bk_bd {p q:Nat→Int} {m:Nat} (hp:∀ j,j≤m→0≤p j∧p j < 1000000000) (hq:∀ j,j < m→0≤q j∧q j < 1000000000):∀ k,k≤m+1→bkC p q m k=0∨bkC p q m k=1
 | 0,_=>.inl rfl
 | k+1,h=>by
   have ih:=bk_bd hp hq k (by omega)
   have h1:=hp k (by omega)
   rw [bkC_succ]; unfold bkX
   by_cases hk:k < m
   ·have:=hq k hk
    rw [if_pos hk]; omega
   ·rw [if_neg hk]; omega
theorem bkO_bd (p q:Nat→Int) (m k:Nat):0≤bkO p q m k∧bkO p q m k < 1000000000:=⟨Int.emod_nonneg _ (by decide),Int.emod_lt_of_pos _ (by decide)⟩
theorem bk_sum {p q:Nat→Int} {m:Nat}:∀ k,k≤m→vF (bkO p q m) k+bkC p q m k * pw k=vF p k+vF q k
 | 0,_=>by show (0:Int)+0 * 1=0+0; omega
 | k+1,h=>by
   have ih:=bk_sum (p:=p) (q:=q) (m:=m) k (by omega)
   show vF (bkO p q m) k+bkO p q m k * pw k+bkX p q m k / 1000000000 * (1000000000 * pw k)=vF p k+p k * pw k+(vF q k+q k * pw k)
   have hx:bkX p q m k=bkC p q m k+p k+q k:=by unfold bkX; rw [if_pos (by omega)]
   have hm:=Int.emod_add_mul_ediv (bkX p q m k) 1000000000
   have ho:bkO p q m k=bkX p q m k % 1000000000:=rfl
   rw [ho]
   generalize bkX p q m k / 1000000000=d at *
   generalize bkX p q m k % 1000000000=e at *
   have e2:e=bkC p q m k+p k+q k - 1000000000 * d:=by omega
   rw [e2]; grind
theorem bk_all {p q:Nat→Int} {m:Nat}:vF (bkO p q m) (m+1)+bkC p q m (m+1) * pw (m+1)=vF p (m+1)+vF q m:=by
 have ih:=bk_sum (p:=p) (q:=q) (m:=m) m (Nat.le_refl _)
 have hx:bkX p q m m=bkC p q m m+p m:=by unfold bkX; rw [if_neg (Nat.lt_irrefl _)]; omega
 have hm:=Int.emod_add_mul_ediv (bkX p q m m) 1000000000
 show vF (bkO p q m) m+bkO p q m m * pw m+bkX p q m m / 1000000000 * (1000000000 * pw m)=vF p m+p m * pw m+vF q m
 have ho:bkO p q m m=bkX p q m m % 1000000000:=rfl
 rw [ho]
 generalize bkX p q m m / 1000000000=d at *
 generalize bkX p q m m % 1000000000=e at *
 have e2:e=bkC p q m m+p m - 1000000000 * d:=by omega
 rw [e2]; grind
section
variable (o b:Nat→Int) (d:Int)
def rwC:Nat→Int
 | 0=>0
 | k+1=>(rwC k+(o k+d * b k)) / 1000000000
def rwX (k:Nat):Int:=rwC o b d k+(o k+d * b k)
end
theorem rwC_succ (o b:Nat→Int) (d:Int) (k:Nat):rwC o b d (k+1)=rwX o b d k / 1000000000:=rfl
theorem rw_bd {o b:Nat→Int} {d:Int} {m:Nat} (ho:∀ j,j < m→0≤o j∧o j < 1000000000) (hb:∀ j,j < m→0≤b j∧b j < 1000000000) (hd:0≤d∧d < 1000000000):∀ k,k≤m→0≤rwC o b d k∧rwC o b d k < 1000000000
 | 0,_=>⟨Int.le_refl 0,(by decide:(0:Int) < 1000000000)⟩
 | k+1,h=>by
   have ih:=rw_bd ho hb hd k (by omega)
   have h1:=ho k (by omega)
   have h2:=hb k (by omega)
   have a1:=Int.mul_nonneg hd.1 h2.1
   have a2:d * b k≤999999999 * b k:=Int.mul_le_mul_of_nonneg_right (by omega) h2.1
   rw [rwC_succ]; unfold rwX
   constructor <;> omega
theorem rwX_bd {o b:Nat→Int} {d:Int} {m:Nat} (ho:∀ j,j < m→0≤o j∧o j < 1000000000) (hb:∀ j,j < m→0≤b j∧b j < 1000000000) (hd:0≤d∧d < 1000000000) {k:Nat} (hk:k < m):0≤d * b k∧d * b k≤999999999 * 999999999∧0≤rwX o b d k∧rwX o b d k≤1000000000 * 1000000000:=by
 have ih:=rw_bd ho hb hd k (by omega)
 have h1:=ho k hk
 have h2:=hb k hk
 have a1:=Int.mul_nonneg hd.1 h2.1
 have a2:d * b k≤999999999 * b k:=Int.mul_le_mul_of_nonneg_right (by omega) h2.1
 unfold rwX
 refine ⟨a1, ?_, ?_, ?_⟩ <;> omega
theorem rw_sum {o b:Nat→Int} {d:Int}:∀ k,vF (fun j=>rwX o b d j % 1000000000) k+rwC o b d k * pw k=vF o k+d * vF b k
 | 0=>by show (0:Int)+0 * 1=0+d * 0; omega
 | k+1=>by
   have ih:=rw_sum (o:=o) (b:=b) (d:=d) k
   show vF (fun j=>rwX o b d j % 1000000000) k+rwX o b d k % 1000000000 * pw k+rwX o b d k / 1000000000 * (1000000000 * pw k)=vF o k+o k * pw k+d * (vF b k+b k * pw k)
   have hm:=Int.emod_add_mul_ediv (rwX o b d k) 1000000000
   have hx:rwX o b d k=rwC o b d k+(o k+d * b k):=rfl
   generalize rwX o b d k / 1000000000=u at *
   generalize rwX o b d k % 1000000000=e at *
   have e2:e=rwC o b d k+(o k+d * b k) - 1000000000 * u:=by omega
   rw [e2]; grind
abbrev uv:Int→Value:=fun n=>.int .u64 n
theorem infoU64:(Tryz.prog.info? 224).map (fun i=>(i.zero,i.size,i.bytes))=some (some (.int .u64 0),1,8):=by kernel_rfl
theorem ownsRow_take {w:World} {base g n cap k:Nat} {e:TypeId} {xs:List Value} (h:w.ownsRow base e 1 (.slice (some ⟨g,0,none⟩) n cap) n xs) (hk:k≤n):w.ownsRow base e 1 (.slice (some ⟨g,0,none⟩) k cap) k (xs.take k):=by
 have hx:=h.1
 refine ⟨by rw [List.length_take]; omega, ?_⟩
 rcases h.2 with ⟨e1,_⟩ | ⟨g',cap',cur,hv,hb,hc,hn,hm,hs,ht⟩
 ·cases e1
 ·injection hv with e1 e2 e3
  injection e1 with e1
  injection e1 with e1
  subst e1; subst e3
  exact .inr ⟨g,cap,cur,rfl,hb,hc,by omega,hm,hs,by rw [← ht,List.take_take]; congr 1; omega⟩
theorem own_readU {w:World} {base:Nat} {v:Value} {l:List Int} (h:w.ownsRow base 224 1 v l.length (l.map uv)):∃ a c,v=.slice a l.length c∧El w uv a l∧l.length≤c∧∀ ad,a=some ad→base≤ad.block:=by
 rcases h.2 with ⟨h1,h2⟩ | ⟨g,cap,cur,hv,_⟩
 ·have:=List.eq_nil_of_length_eq_zero h2
  subst this
  exact ⟨none,0,h1,.inl rfl,Nat.le_refl _,fun ad e=>by cases e⟩
 ·subst hv
  obtain ⟨-,h1,h2,h3,h4⟩:=ownsRow_some h
  refine ⟨_,_,rfl,.inr ⟨g,0,rfl,h2,fun i x hx=>?_⟩,h3,fun ad e=>by injection e with e; subst e; exact h1⟩
  rw [Nat.zero_add]
  exact (h4 i (uv x) (by rw [List.getElem?_map,hx]; rfl)).1
theorem own_headU {w:World} {base:Nat} {v:Value} {l:List Int} (h:w.ownsRow base 224 1 v l.length (l.map uv)) (h0:l≠[]∨v≠.slice none 0 0):∃ g c,v=.slice (some ⟨g,0,none⟩) l.length c∧base≤g∧l.length≤c∧g < w.heap.size:=by
 rcases h.2 with ⟨h1,h2⟩ | ⟨g,cap,cur,hv,_⟩
 ·rcases h0 with h0 | h0
  ·exact absurd (List.eq_nil_of_length_eq_zero h2) h0
  ·exact absurd h1 h0
 ·subst hv
  obtain ⟨-,h1,h2,h3,h4⟩:=ownsRow_some h
  exact ⟨_,_,rfl,h1,h3,h2⟩
theorem Dtrim (l:List Int) (a:Option Addr) (cap:Nat) (w:World) (hel:El w uv a l) (hl:l.length≤4000000000) (hc:l.length≤cap) :
 Calls Tryz.prog 175 #[.slice a l.length cap] w fun e w'=>e=.returned (.slice a (trimL l).length cap)∧Fr w w':=by
 obtain ⟨n,hn⟩:∃ n,n=l.length:=⟨_,rfl⟩
 rw [← hn] at hl hc
 rw [← hn]
 replace hn:=hZ hn
 go_enter Tryz.func175,Tryz.ntmps175
 go_wp2_with fail
 go_loopg [0] n (fun k s0 wr=>s0=.slice a k cap∧k≤n∧Fr w wr∧Hid (trimL (l.take k)=trimL l))
 case atStart=>exact ⟨rfl,Nat.le_refl _,Fr.refl _,by show _=_; rw [List.take_of_length_le (by rw [hn.out]; exact Nat.le_refl _)]⟩
 case round=>
  obtain ⟨rfl,hle,hf,ht⟩:=hrel
  by_cases hk0:gk=0
  ·subst hk0
   have hlen:Hid ((trimL l).length=0):=by show _=_; rw [← ht.out]; rfl
   go_wp2_with fail
   go_ret
   exact ⟨by rw [hlen.out]; rfl,hf⟩
  ·obtain ⟨k,rfl⟩:∃ k,gk=k+1:=⟨gk - 1,by omega⟩
   obtain ⟨b,o,d,rfl,hb,hk,hcell⟩:=(hel.fr hf).at (i:=k) (by have:=hn.out; omega)
   have z0:(0:Int)≤(k:Int):=by omega
   have z1:(k:Int) < (n:Int):=by omega
   have z2:decide ((0:Int) < (k:Int)+1)=true:=decide_eq_true (by omega)
   have z3:decide ((0:Int) < ((k+1:Nat):Int))=true:=decide_eq_true (by omega)
   have hw1:IntKind.i64.wrap (((k+1:Nat):Int) - 1)=(k:Int):=by rw [show ((k+1:Nat):Int) - 1=(k:Int) by omega]; exact IntWalk.i64_in _ (by omega)
   have z7:(k:Int) < ((k+1:Nat):Int):=by omega
   by_cases hd:d=0
   ·have e0:(d == 0)=true:=by rw [hd]; rfl
    have ht2:Hid (trimL (l.take k)=trimL l):=(trimL_take hk hd).symm.trans ht.out
    have z4:(k:Int).toNat=k:=by omega
    have z5:(k:Int)≤(cap:Int):=by omega
    replace hk:=hZ hk
    go_wp2_with fail
    go_roundg k
    case measure=>omega
    case rel=>exact ⟨by first | rfl | go_num,by omega,hf,ht2⟩
   ·have e0:(d == 0)=false:=beq_false_of_ne hd
    have hlen:Hid ((trimL l).length=k+1):=by show _=_; rw [← ht.out,trimL_stop hk hd,List.length_take]; have:=hn.out; omega
    replace hk:=hZ hk
    go_wp2_with fail
    go_ret
    exact ⟨by rw [hlen.out]; rfl,hf⟩
theorem conv_tb (w:World) (l:List UInt8):∃ cap W,(convert 80 177 (.string (tb l))).run Tryz.prog w=.ok (.slice (some ⟨w.heap.size,0,none⟩) l.length cap) W∧Fr w W∧w.heap.size < W.heap.size∧∀ j (h:j < l.length),W.cell? ⟨w.heap.size,j,none⟩=some (.int .u8 (l[j].toNat:Int)):=by
 have h:=run_bytes_of_string (P:=Tryz.prog) w 80 177 5 (tb l) Tryz.underlying80 Tryz.underlying177 Tryz.underlying5
 rw [tb_size] at h
 refine ⟨_,_,h,(Fr.refl w).drew.alloc _,by simp,fun j hj=>?_⟩
 have e:=World.cell?_alloc_mark w.drew (bytesRow (tb l) (grownCap w l.length 0 5)) 5 ((bytesRow (tb l) (grownCap w l.length 0 5)).size,(bytesRow (tb l) (grownCap w l.length 0 5)).size+1) j
 have hs:w.drew.heap.size=w.heap.size:=by simp
 rw [hs] at e
 rw [e]
 unfold bytesRow
 rw [Array.getElem?_append_left (by simp [tb]; exact hj)]
 simp [tb,hj]
theorem Dcut (u:Nat) (w:World) (hs:(tx (u:Int)).size≤1000000000) :
 Calls Tryz.prog 173 #[.string (tx (u:Int))] w fun e w'=>∃ v,e=.returned v∧w'.ownsRow w.heap.size 224 1 v (digs u).length ((digs u).map uv)∧v≠.slice none 0 0∧Fr w w':=by
 obtain ⟨i0,hi,hz0,hz1,hz2⟩:=info_parts infoU64
 have h0:tx (u:Int)=tb (decDigits u):=by rw [tx_tb,itoa_nn (by omega),Int.toNat_natCast]
 rw [h0,tb_size] at hs
 rw [h0]
 obtain ⟨L,hL⟩:∃ L,L=decDigits u:=⟨_,rfl⟩
 rw [← hL] at hs
 rw [← hL]
 obtain ⟨N,hN⟩:∃ N,N=L.length:=⟨_,rfl⟩
 rw [← hN] at hs
 have hT0:Hid (ToS2 u (L.take N) []):=.inr ⟨u,by rw [hN,List.take_length,hL],rfl⟩
 have hSz:(tb L).size=N:=by rw [tb_size,hN]
 have hex:Hid (∀ q e,(tb L).extract q e=tb ((L.take e).drop q)):=fun q e=>tb_extract L q e
 replace hN:=hZ hN
 replace hL:=hZ hL
 clear h0
 obtain ⟨S,hS⟩:∃ S,S=tb L:=⟨_,rfl⟩
 rw [← hS] at hex hSz
 rw [← hS]
 replace hS:=hZ hS
 have k9:IntKind.i64.wrap ((N:Int).tdiv 9)=((N / 9:Nat):Int):=by rw [show (N:Int).tdiv 9=((N / 9:Nat):Int) by rw [Int.tdiv_eq_ediv_of_nonneg (by omega)]; omega]; exact IntWalk.i64_in _ (by omega)
 go_enter Tryz.func173,Tryz.ntmps173
 go_wp2_with (at_make; refine wpList_make_own _ rfl _ _ 229 rfl w.heap.size 224 i0 _ 1 Tryz.underlying229 hi hz0 hz1 _ _ _ (N / 9+1) (by rfl) (by rfl) (by first | omega | go_num) (by rw [hz2]; omega) (by unfold maxLen; omega) (Nat.le_refl _) ?_; intro w2 hown2 hgr2)
 have hf2:Fr w w2:=(Fr.refl w).grown hgr2 (fun k e=>by cases e)
 replace hown2:=hZ hown2
 clear hgr2
 go_loopg [3,4] N (fun gk s3 s4 wr=>∃ (e i:Nat) (ei:Int) (out:List Int),s4=.int .i64 ei∧(ei=e∨e=0∧-9≤ei∧ei≤0)∧e≤gk∧i+e≤N∧Fr w wr∧Hid (wr.ownsRow w.heap.size 224 1 s3 i (out.map uv))∧Hid (out.length=i)∧Hid (s3≠.slice none 0 0)∧Hid (ToS2 u (L.take e) out))
 case atStart=>exact ⟨N,0,N,[],rfl,.inl rfl,by omega,by omega,hf2,hZ (by simpa using hown2.out),rfl,(by intro e; cases e),hT0.out⟩
 case round=>
  clear hown2 hf2 hT0
  obtain ⟨e,i,ei,out,rfl,hei,hek,hie,hf,hown,hol,hnn,hTs⟩:=hrel
  obtain ⟨ko,rfl⟩:∃ ko:Nat,ko=gk:=⟨_,rfl⟩
  by_cases he0:e=0
  ·subst he0
   have dz:decide ((0:Int) < ei)=false:=decide_eq_false (by omega)
   have hch:out=chunks u:=by
    rcases hTs.out with ⟨_,h⟩ | ⟨m',h,_⟩
    ·exact h
    ·exact absurd (by rw [List.take_zero] at h; exact h.symm) (dec_ne m')
   subst hch
   have hown9:=hown.out
   rw [← hol.out] at hown9
   obtain ⟨a9,c9,rfl,he9,hc9,-⟩:=own_readU hown9
   have htr:=hZ (Dtrim (chunks u) a9 c9 wr he9 (by rw [hol.out]; omega) hc9)
   have hq:Hid (trimL (chunks u)=digs u):=chunks_trim u
   obtain ⟨hle1,hle⟩:=trimL_len (chunks u)
   rw [hq.out] at htr hle hle1
   obtain ⟨g9,rfl⟩:∃ g9,a9=some ⟨g9,0,none⟩:=by
    rcases own_headU hown9 (.inr hnn.out) with ⟨g,c,h,-⟩
    injection h with h
    exact ⟨g,h⟩
   have hE:=ownsRow_take hown9 hle
   rw [← List.map_take,← hle1] at hE
   replace hE:=hZ hE
   clear hown9 he9 hle1
   go_wp2_with fail
   refine htr.out.mono ?_
   rintro e w3 ⟨rfl,hf3⟩
   go_wp2_with fail
   go_ret
   exact ⟨_,rfl,ownsRow_fr hE.out hf3,(by intro e; injection e with e; cases e),hf.trans hf3⟩
  ·obtain rfl:ei=e:=by omega
   clear hei
   obtain ⟨m',hm,hch⟩:∃ m',L.take e=decDigits m'∧out ++ chunks m'=chunks u:=by
    rcases hTs.out with ⟨h,_⟩ | h
    ·have:=congrArg List.length h
     rw [List.length_take,← hN.out] at this
     simp at this; omega
    ·exact h
   obtain ⟨q,r,T1,T2,hT,hq,hr,r1,r9,hb1,hb2,hd,hv,hTs2⟩:=ToS2.step hch
   have hTe:L.take e=T1 ++ T2:=hm.trans hT
   have hqr:q+r=e:=by
    have:=congrArg List.length hTe
    rw [List.length_take,List.length_append,← hN.out,hq,hr] at this
    omega
   have hT1:T1=L.take q:=by
    have h:=congrArg (List.take q) hTe
    rw [List.take_take,List.take_append_of_le_length (Nat.le_of_eq hq.symm),List.take_of_length_le (l:=T1) (Nat.le_of_eq hq),show min q e=q by omega] at h
    exact h.symm
   have hT2:Hid (S.extract q e=tb T2):=by
    show _=_
    rw [hex.out,hTe,← hq,List.drop_left]
   rw [hT1] at hTs2
   have hdg:Hid (∀ (j:Nat) (hj:j < r),∃ c:UInt8,(∀ h:j < T2.length,T2[j]'h=c)∧48≤c.toNat∧c.toNat≤57∧digVal 0 (T2.take (j+1))=10 * digVal 0 (T2.take j)+(c.toNat - 48)∧digVal 0 (T2.take j) < 1000000000):=fun j hj=>by
    obtain ⟨h1,h2,h3,h4⟩:=digs_take T2 hd hv j (by omega)
    exact ⟨T2[j]'(by omega),fun h=>rfl,h1,h2,h3,h4⟩
   have hdv:Hid (digVal 0 (T2.take r) < 1000000000):=by show _ < _; rw [List.take_of_length_le (by omega)]; exact hv
   have hTs:Hid (ToS2 u (L.take q) (out ++ [(digVal 0 (T2.take r):Int)])):=by show ToS2 _ _ _; rw [List.take_of_length_le (l:=T2) (by omega)]; exact hTs2
   obtain ⟨wo,rfl⟩:∃ wo:World,wo=wr:=⟨_,rfl⟩
   obtain ⟨cap5,W5,hcv,hf5,hz5,hc5⟩:=conv_tb wo T2
   rw [hr] at hcv
   replace hc5:=hZ hc5
   have z0:decide ((0:Int) < (e:Int))=true:=decide_eq_true (by omega)
   have kq:IntKind.i64.wrap ((e:Int) - 9)=(e:Int) - 9:=IntWalk.i64_in _ (by omega)
   have kmax:max (0:Int) ((e:Int) - 9)=(q:Int):=by
    by_cases h9:9 < q+r
    ·have:=hb1 h9; omega
    ·have:=hb2 (by omega); omega
   have zq:(q:Int)≤(e:Int):=by omega
   have zeN:(e:Int)≤(N:Int):=by omega
   have zeS:(e:Int)≤(S.size:Int):=by omega
   replace hT1:=hZ hT1
   replace hTe:=hZ hTe
   replace hm:=hZ hm
   replace hT:=hZ hT
   replace hch:=hZ hch
   replace hq:=hZ hq
   replace hr:=hZ hr
   replace hd:=hZ hd
   replace hv:=hZ hv
   replace hTs2:=hZ hTs2
   replace hb1:=hZ hb1
   replace hb2:=hZ hb2
   have hT2x:=hT2.out
   go_wp2_with fail
   go_loopg [5,27] r (fun k s5 s27 wr2=>∃ j:Nat,s27=.int .i64 j∧s5=.int .u64 (digVal 0 (T2.take j):Nat)∧j+k=r∧wr2=W5)
   case atStart=>exact ⟨0,rfl,rfl,by omega,rfl⟩
   case round=>
    obtain ⟨j,rfl,rfl,hjk,rfl⟩:=hrel
    by_cases hj:j < r
    ·obtain ⟨c,hcE,hc1,hc2,hcv2,hcb⟩:=hdg.out j hj
     have dj:decide ((j:Int) < (r:Int))=true:=decide_eq_true (by omega)
     have cj:wr.cell? ⟨wo.heap.size,j,none⟩=some (.int .u8 (c.toNat:Int)):=by
      have:=hc5.out j (by rw [hr.out]; exact hj)
      rw [hcE] at this; exact this
     have y0:(0:Int)≤(j:Int):=by omega
     have y1:(j:Int) < (r:Int):=by omega
     have hu:IntKind.u8.wrap ((c.toNat:Int) - 48)=(c.toNat:Int) - 48:=IntWalk.u8_in _ (by omega)
     have hu2:IntKind.u64.wrap ((c.toNat:Int) - 48)=(c.toNat:Int) - 48:=IntWalk.u64_in _ (by omega)
     have kj:IntKind.i64.wrap ((j:Int)+1)=(j:Int)+1:=IntWalk.i64_in _ (by omega)
     generalize digVal 0 (T2.take j)=V at *
     have hw9:IntKind.u64.wrap (10 * (V:Int))=10 * (V:Int):=IntWalk.u64_in _ (by omega)
     have hw8:IntKind.u64.wrap (10 * (V:Int)+((c.toNat:Int) - 48))=10 * (V:Int)+((c.toNat:Int) - 48):=IntWalk.u64_in _ (by omega)
     go_wp2_with fail
     go_roundg (gk - 1)
     case measure=>omega
     case rel=>exact ⟨j+1,by go_num,by rw [hcv2]; exact congrArg (Value.int IntKind.u64) (by omega),by omega,rfl⟩
    ·obtain rfl:j=r:=by omega
     have dj:decide ((j:Int) < (j:Int))=false:=decide_eq_false (by omega)
     have hV9:=hdv.out
     generalize digVal 0 (T2.take j)=V at *
     have hownG:=ownsRow_fr hown.out hf5
     go_wp2_with (at_builtin; refine wpList_append_lies _ rfl _ _ 229 (by rfl) _ 224 _ _ 1 8 Tryz.underlying229 hi hz0 hz1 hz2 rfl (by decide) _ i _ (by rfl) (World.ownsRow.alloc hownG _) ⟨wr.heap.size,0,none⟩ 1 1 [.int .u64 V] (by rfl) rfl (cell_one_newN _ _ _ _ (by simp)) (by simp [Value.oneCell']) (by decide) (by unfold maxLen; omega) (by omega) (by have:=(hf.trans hf5).size; simp; omega) (wr.heap.size+1) (by simp) ?_; intro gA capA wA hownA hgrowA hatA hltA)
     go_wp2_with fail
     go_roundg (ko - 1)
     case measure=>omega
     case rel=>exact ⟨q,i+1,(e:Int) - 9,out ++ [(V:Int)],by first | rfl | (rw [kq]),by (by_cases h9:9 < q+j; have:=hb1.out h9; omega; have:=hb2.out (by omega); omega),by omega,by omega,((hf.trans hf5).alloc _).grown hgrowA (fun k e=>(hownG.lt k e).1),by show World.ownsRow _ _ _ _ _ _ _; rw [List.map_append]; exact hownA,by show _=_; rw [List.length_append,hol.out]; rfl,(by intro e; injection e with e; cases e),hTs.out⟩
end Go.Proofs.YtiniigadkknboaaGreatDoor
