/- Contracts and laws: VDA. -/
import Derived.Test.YtmalpgbbddkdcaaGreatDoorVRB
import Derived.Laws.IdiomStrings
import Derived.Test.YtmalpgbbddkdcaaGreatDoorVD
import Derived.Test.YtmalpgbbddkdcaaGreatDoorVA
import Derived.Deep.LoopGhost

set_option maxRecDepth 100000
set_option maxHeartbeats 4000000
namespace Go.Proofs.YtmalpgbbddkdcaaGreatDoor
open Go.RowKit Go.Lib
def gd (l:List Int) (j:Nat):Int:=(l[j]?).getD 0
def vF (f:Nat→Int):Nat→Int
 | 0=>0
 | n+1=>vF f n+f n * pw n
theorem vF_cg {f g:Nat→Int}:∀ n,(∀ j,j < n→f j=g j)→vF f n=vF g n
 | 0,_=>rfl
 | n+1,h=>by
   show vF f n+f n * pw n=vF g n+g n * pw n
   rw [vF_cg n (fun j hj=>h j (by omega)),h n (by omega)]
theorem pw_nat:∀ n,pw n=((1000000000 ^ n:Nat):Int)
 | 0=>rfl
 | n+1=>by
   show 1000000000 * pw n=_
   rw [pw_nat n,Nat.pow_succ]; omega
theorem vF_split (f:Nat→Int) (a:Nat):∀ b,vF f (a+b)=vF f a+pw a * vF (fun j=>f (a+j)) b
 | 0=>by show vF f a=vF f a+pw a * 0; omega
 | b+1=>by
   show vF f (a+b)+f (a+b) * pw (a+b)=vF f a+pw a * (vF (fun j=>f (a+j)) b+f (a+b) * pw b)
   rw [vF_split f a b,pw_add]; grind
theorem vF_cons (f:Nat→Int) (n:Nat):vF f (n+1)=f 0+1000000000 * vF (fun j=>f (j+1)) n:=by
 have h:=vF_split f 1 n
 rw [Nat.add_comm 1 n] at h
 rw [h]
 have e:vF (fun j=>f (1+j)) n=vF (fun j=>f (j+1)) n:=vF_cg n fun j _=>by rw [Nat.add_comm]
 rw [e]
 show 0+f 0 * pw 0+pw 1 * _=_
 show 0+f 0 * 1+1000000000 * 1 * _=_
 grind
theorem val_vF:∀ l:List Int,val l=vF (gd l) l.length
 | []=>rfl
 | d :: l=>by
   rw [List.length_cons,vF_cons]
   show d+1000000000 * val l=_
   rw [val_vF l]; rfl
theorem vF_nn {f:Nat→Int}:∀ n,(∀ j,j < n→0≤f j)→0≤vF f n
 | 0,_=>Int.le_refl 0
 | n+1,h=>by
   have h1:=vF_nn n (fun j hj=>h j (by omega))
   have h2:=Int.mul_nonneg (h n (by omega)) (Int.le_of_lt (pw_pos n))
   show 0≤vF f n+f n * pw n
   omega
theorem vF_lt {f:Nat→Int}:∀ n,(∀ j,j < n→0≤f j∧f j < 1000000000)→vF f n < pw n
 | 0,_=>pw_pos 0
 | n+1,h=>by
   have h1:=vF_lt n (fun j hj=>h j (by omega))
   have h2:=Int.mul_le_mul_of_nonneg_right (show f n≤999999999 by have:=(h n (by omega)).2; omega) (Int.le_of_lt (pw_pos n))
   show vF f n+f n * pw n < 1000000000 * pw n
   omega
theorem vF_zero {f:Nat→Int}:∀ n,(∀ j,j < n→f j=0)→vF f n=0
 | 0,_=>rfl
 | n+1,h=>by
   show vF f n+f n * pw n=0
   rw [vF_zero n (fun j hj=>h j (by omega)),h n (by omega)]; omega
theorem vF_top {f:Nat→Int} {a b:Nat} (hf:∀ j,j < a+b→0≤f j∧f j < 1000000000) (h:vF f (a+b) < pw a):∀ j,j < b→f (a+j)=0:=by
 induction b with
 | zero=>intro j hj; omega
 | succ b ih=>
   have e:vF f (a+(b+1))=vF f (a+b)+f (a+b) * pw (a+b):=rfl
   have h0:=vF_nn (f:=f) (a+b) (fun j hj=>(hf j (by omega)).1)
   have h1:=(hf (a+b) (by omega)).1
   have hz:f (a+b)=0:=by
    refine Decidable.byContradiction fun hne=>?_
    have h2:pw (a+b)≤f (a+b) * pw (a+b):=by
     have:=Int.mul_le_mul_of_nonneg_right (show 1≤f (a+b) by omega) (Int.le_of_lt (pw_pos (a+b)))
     omega
    have h3:=pw_mono (a:=a) (b:=a+b) (by omega)
    omega
   rw [e,hz] at h
   have h:=ih (fun j hj=>hf j (by omega)) (by omega)
   intro j hj
   by_cases e:j=b
   ·subst e; exact hz
   ·exact h j (by omega)
section
variable (p q:Nat→Int) (n:Int)
def tkS (m:Nat):Nat→Int×Int
 | 0=>(0,0)
 | k+1=>
   let x:=(tkS m k).1+(if k < m then n * q k else 0)
   (x / 1000000000,if p k - x % 1000000000 - (tkS m k).2 < 0 then 1 else 0)
def tkX (m k:Nat):Int:=(tkS p q n m k).1+(if k < m then n * q k else 0)
def tkD (m k:Nat):Int:=p k - tkX p q n m k % 1000000000 - (tkS p q n m k).2
def tkO (m k:Nat):Int:=if tkD p q n m k < 0 then tkD p q n m k+1000000000 else tkD p q n m k
end
theorem tkS_succ (p q:Nat→Int) (n:Int) (m k:Nat):tkS p q n m (k+1)=(tkX p q n m k / 1000000000,if tkD p q n m k < 0 then 1 else 0):=rfl
theorem tk_bd {p q:Nat→Int} {n:Int} {m:Nat} (hp:∀ j,j≤m→0≤p j∧p j < 1000000000) (hq:∀ j,j < m→0≤q j∧q j < 1000000000) (hn:0≤n∧n < 1000000000):∀ k,k≤m+1→(0≤(tkS p q n m k).1∧(tkS p q n m k).1 < 1000000000)∧((tkS p q n m k).2=0∨(tkS p q n m k).2=1)
 | 0,_=>⟨⟨Int.le_refl 0,(by decide:(0:Int) < 1000000000)⟩,.inl rfl⟩
 | k+1,h=>by
   obtain ⟨⟨h1,h2⟩,h3⟩:=tk_bd hp hq hn k (by omega)
   rw [tkS_succ]
   refine ⟨?_,by show (if tkD p q n m k < 0 then (1:Int) else 0)=0∨(if tkD p q n m k < 0 then (1:Int) else 0)=1; split; exact .inr rfl; exact .inl rfl⟩
   show 0≤tkX p q n m k / 1000000000∧tkX p q n m k / 1000000000 < 1000000000
   have hx:0≤tkX p q n m k∧tkX p q n m k≤999999999+999999999 * 999999999:=by
    unfold tkX
    by_cases hk:k < m
    ·rw [if_pos hk]
     have a1:=Int.mul_nonneg hn.1 (hq k hk).1
     have a2:n * q k≤999999999 * q k:=Int.mul_le_mul_of_nonneg_right (by omega) (hq k hk).1
     have a3:=(hq k hk).2
     constructor <;> omega
    ·rw [if_neg hk]; constructor <;> omega
   constructor
   ·exact Int.ediv_nonneg hx.1 (by decide)
   ·omega
theorem tkX_bd {p q:Nat→Int} {n:Int} {m:Nat} (hp:∀ j,j≤m→0≤p j∧p j < 1000000000) (hq:∀ j,j < m→0≤q j∧q j < 1000000000) (hn:0≤n∧n < 1000000000) {k:Nat} (hk:k≤m):0≤tkX p q n m k∧tkX p q n m k≤999999999+999999999 * 999999999∧(k < m→0≤n * q k∧n * q k≤999999999 * 999999999):=by
 obtain ⟨⟨h1,h2⟩,-⟩:=tk_bd hp hq hn k (by omega)
 unfold tkX
 by_cases hk:k < m
 ·rw [if_pos hk]
  have a1:=Int.mul_nonneg hn.1 (hq k hk).1
  have a2:n * q k≤999999999 * q k:=Int.mul_le_mul_of_nonneg_right (by omega) (hq k hk).1
  have a3:=(hq k hk).2
  exact ⟨by omega,by omega,fun _=>⟨a1,by omega⟩⟩
 ·rw [if_neg hk]; exact ⟨by omega,by omega,fun h=>absurd h hk⟩
theorem tkO_bd {p q:Nat→Int} {n:Int} {m:Nat} (hp:∀ j,j≤m→0≤p j∧p j < 1000000000) (hq:∀ j,j < m→0≤q j∧q j < 1000000000) (hn:0≤n∧n < 1000000000) {k:Nat} (hk:k≤m):0≤tkO p q n m k∧tkO p q n m k < 1000000000:=by
 obtain ⟨⟨h1,h2⟩,h3⟩:=tk_bd hp hq hn k (by omega)
 have h4:=hp k hk
 have h5:=Int.emod_nonneg (tkX p q n m k) (by decide:(1000000000:Int)≠0)
 have h6:=Int.emod_lt_of_pos (tkX p q n m k) (by decide:(0:Int) < 1000000000)
 unfold tkO tkD
 split <;> constructor <;> omega
theorem tk_sum {p q:Nat→Int} {n:Int} {m:Nat}:∀ k,k≤m→vF (tkO p q n m) k=vF p k - n * vF q k+((tkS p q n m k).1+(tkS p q n m k).2) * pw k
 | 0,_=>by show (0:Int)=0 - n * 0+(0+0) * 1; omega
 | k+1,h=>by
   have ih:=tk_sum (p:=p) (q:=q) (n:=n) (m:=m) k (by omega)
   show vF (tkO p q n m) k+tkO p q n m k * pw k=vF p k+p k * pw k - n * (vF q k+q k * pw k)+(tkX p q n m k / 1000000000+(if tkD p q n m k < 0 then 1 else 0)) * (1000000000 * pw k)
   have hx:tkX p q n m k=(tkS p q n m k).1+n * q k:=by unfold tkX; rw [if_pos (by omega)]
   have hd:tkO p q n m k=p k - tkX p q n m k % 1000000000 - (tkS p q n m k).2+1000000000 * (if tkD p q n m k < 0 then 1 else 0):=by
    unfold tkO
    split
    ·unfold tkD; omega
    ·unfold tkD; omega
   have hm:=Int.emod_add_mul_ediv (tkX p q n m k) 1000000000
   rw [ih,hd]
   generalize (if tkD p q n m k < 0 then (1:Int) else 0)=c
   generalize tkX p q n m k / 1000000000=d at *
   generalize tkX p q n m k % 1000000000=e at *
   generalize (tkS p q n m k).2=f
   rw [hx] at hm
   generalize (tkS p q n m k).1=g at *
   have e2:e=g+n * q k - 1000000000 * d:=by omega
   rw [e2]; grind
theorem tk_all {p q:Nat→Int} {n:Int} {m:Nat} (hp:∀ j,j≤m→0≤p j∧p j < 1000000000) (hq:∀ j,j < m→0≤q j∧q j < 1000000000) (hn:0≤n∧n < 1000000000):vF (tkO p q n m) (m+1)=vF p (m+1) - n * vF q m+(tkS p q n m (m+1)).2 * pw (m+1):=by
 have ih:=tk_sum (p:=p) (q:=q) (n:=n) (m:=m) m (Nat.le_refl _)
 obtain ⟨⟨h1,h2⟩,h3⟩:=tk_bd hp hq hn m (by omega)
 have hx:tkX p q n m m=(tkS p q n m m).1:=by unfold tkX; rw [if_neg (Nat.lt_irrefl _)]; omega
 show vF (tkO p q n m) m+tkO p q n m m * pw m=vF p m+p m * pw m - n * vF q m+(if tkD p q n m m < 0 then 1 else 0) * (1000000000 * pw m)
 have hd:tkO p q n m m=p m - (tkS p q n m m).1 - (tkS p q n m m).2+1000000000 * (if tkD p q n m m < 0 then 1 else 0):=by
  unfold tkO
  split
  ·unfold tkD; rw [hx]; omega
  ·unfold tkD; rw [hx]; omega
 rw [ih,hd]; grind
section
variable (p q:Nat→Int)
def bkC (m:Nat):Nat→Int
 | 0=>0
 | k+1=>(bkC m k+p k+(if k < m then q k else 0)) / 1000000000
def bkX (m k:Nat):Int:=bkC p q m k+p k+(if k < m then q k else 0)
def bkO (m k:Nat):Int:=bkX p q m k % 1000000000
end
theorem bkC_succ (p q:Nat→Int) (m k:Nat):bkC p q m (k+1)=bkX p q m k / 1000000000:=rfl
theorem bk_bd {p q:Nat→Int} {m:Nat} (hp:∀ j,j≤m→0≤p j∧p j < 1000000000) (hq:∀ j,j < m→0≤q j∧q j < 1000000000):∀ k,k≤m+1→bkC p q m k=0∨bkC p q m k=1
 | 0,_=>.inl rfl
 | k+1,h=>by
   have ih:=bk_bd hp hq k (by omega)
   have h1:=hp k (by omega)
   rw [bkC_succ]; unfold bkX
   by_cases hk:k < m
   ·have:=hq k hk
    rw [if_pos hk]; omega
   ·rw [if_neg hk]; omega
theorem bkO_bd (p q:Nat→Int) (m k:Nat):0≤bkO p q m k∧bkO p q m k < 1000000000:=⟨Int.emod_nonneg _ (by decide),Int.emod_lt_of_pos _ (by decide)⟩
theorem bk_sum {p q:Nat→Int} {m:Nat}:∀ k,k≤m→vF (bkO p q m) k+bkC p q m k * pw k=vF p k+vF q k
 | 0,_=>by show (0:Int)+0 * 1=0+0; omega
 | k+1,h=>by
   have ih:=bk_sum (p:=p) (q:=q) (m:=m) k (by omega)
   show vF (bkO p q m) k+bkO p q m k * pw k+bkX p q m k / 1000000000 * (1000000000 * pw k)=vF p k+p k * pw k+(vF q k+q k * pw k)
   have hx:bkX p q m k=bkC p q m k+p k+q k:=by unfold bkX; rw [if_pos (by omega)]
   have hm:=Int.emod_add_mul_ediv (bkX p q m k) 1000000000
   have ho:bkO p q m k=bkX p q m k % 1000000000:=rfl
   rw [ho]
   generalize bkX p q m k / 1000000000=d at *
   generalize bkX p q m k % 1000000000=e at *
   have e2:e=bkC p q m k+p k+q k - 1000000000 * d:=by omega
   rw [e2]; grind
theorem bk_all {p q:Nat→Int} {m:Nat}:vF (bkO p q m) (m+1)+bkC p q m (m+1) * pw (m+1)=vF p (m+1)+vF q m:=by
 have ih:=bk_sum (p:=p) (q:=q) (m:=m) m (Nat.le_refl _)
 have hx:bkX p q m m=bkC p q m m+p m:=by unfold bkX; rw [if_neg (Nat.lt_irrefl _)]; omega
 have hm:=Int.emod_add_mul_ediv (bkX p q m m) 1000000000
 show vF (bkO p q m) m+bkO p q m m * pw m+bkX p q m m / 1000000000 * (1000000000 * pw m)=vF p m+p m * pw m+vF q m
 have ho:bkO p q m m=bkX p q m m % 1000000000:=rfl
 rw [ho]
 generalize bkX p q m m / 1000000000=d at *
 generalize bkX p q m m % 1000000000=e at *
 have e2:e=bkC p q m m+p m - 1000000000 * d:=by omega
 rw [e2]; grind
section
variable (o b:Nat→Int) (d:Int)
def rwC:Nat→Int
 | 0=>0
 | k+1=>(rwC k+(o k+d * b k)) / 1000000000
def rwX (k:Nat):Int:=rwC o b d k+(o k+d * b k)
end
theorem rwC_succ (o b:Nat→Int) (d:Int) (k:Nat):rwC o b d (k+1)=rwX o b d k / 1000000000:=rfl
theorem rw_bd {o b:Nat→Int} {d:Int} {m:Nat} (ho:∀ j,j < m→0≤o j∧o j < 1000000000) (hb:∀ j,j < m→0≤b j∧b j < 1000000000) (hd:0≤d∧d < 1000000000):∀ k,k≤m→0≤rwC o b d k∧rwC o b d k < 1000000000
 | 0,_=>⟨Int.le_refl 0,(by decide:(0:Int) < 1000000000)⟩
 | k+1,h=>by
   have ih:=rw_bd ho hb hd k (by omega)
   have h1:=ho k (by omega)
   have h2:=hb k (by omega)
   have a1:=Int.mul_nonneg hd.1 h2.1
   have a2:d * b k≤999999999 * b k:=Int.mul_le_mul_of_nonneg_right (by omega) h2.1
   rw [rwC_succ]; unfold rwX
   constructor <;> omega
theorem rwX_bd {o b:Nat→Int} {d:Int} {m:Nat} (ho:∀ j,j < m→0≤o j∧o j < 1000000000) (hb:∀ j,j < m→0≤b j∧b j < 1000000000) (hd:0≤d∧d < 1000000000) {k:Nat} (hk:k < m):0≤d * b k∧d * b k≤999999999 * 999999999∧0≤rwX o b d k∧rwX o b d k≤1000000000 * 1000000000:=by
 have ih:=rw_bd ho hb hd k (by omega)
 have h1:=ho k hk
 have h2:=hb k hk
 have a1:=Int.mul_nonneg hd.1 h2.1
 have a2:d * b k≤999999999 * b k:=Int.mul_le_mul_of_nonneg_right (by omega) h2.1
 unfold rwX
 refine ⟨a1, ?_, ?_, ?_⟩ <;> omega
theorem rw_sum {o b:Nat→Int} {d:Int}:∀ k,vF (fun j=>rwX o b d j % 1000000000) k+rwC o b d k * pw k=vF o k+d * vF b k
 | 0=>by show (0:Int)+0 * 1=0+d * 0; omega
 | k+1=>by
   have ih:=rw_sum (o:=o) (b:=b) (d:=d) k
   show vF (fun j=>rwX o b d j % 1000000000) k+rwX o b d k % 1000000000 * pw k+rwX o b d k / 1000000000 * (1000000000 * pw k)=vF o k+o k * pw k+d * (vF b k+b k * pw k)
   have hm:=Int.emod_add_mul_ediv (rwX o b d k) 1000000000
   have hx:rwX o b d k=rwC o b d k+(o k+d * b k):=rfl
   generalize rwX o b d k / 1000000000=u at *
   generalize rwX o b d k % 1000000000=e at *
   have e2:e=rwC o b d k+(o k+d * b k) - 1000000000 * u:=by omega
   rw [e2]; grind
attribute [local go_sem ↓] Go.wp_at_zero Go.wp_at_succ
abbrev uv:Int→Value:=fun n=>.int .u64 n
theorem infoU64:(Tryz.prog.info? 260).map (fun i=>(i.zero,i.size,i.bytes))=some (some (.int .u64 0),1,8):=by kernel_rfl
theorem ownsRow_take {w:World} {base g n cap k:Nat} {e:TypeId} {xs:List Value} (h:w.ownsRow base e 1 (.slice (some ⟨g,0,none⟩) n cap) n xs) (hk:k≤n):w.ownsRow base e 1 (.slice (some ⟨g,0,none⟩) k cap) k (xs.take k):=by
 have hx:=h.1
 refine ⟨by rw [List.length_take]; omega, ?_⟩
 rcases h.2 with ⟨e1,_⟩ | ⟨g',cap',cur,hv,hb,hc,hn,hm,hs,ht⟩
 ·cases e1
 ·injection hv with e1 e2 e3
  injection e1 with e1
  injection e1 with e1
  subst e1; subst e3
  exact .inr ⟨g,cap,cur,rfl,hb,hc,by omega,hm,hs,by rw [← ht,List.take_take]; congr 1; omega⟩
theorem own_readU {w:World} {base:Nat} {v:Value} {l:List Int} (h:w.ownsRow base 260 1 v l.length (l.map uv)):∃ a c,v=.slice a l.length c∧El w uv a l∧l.length≤c∧∀ ad,a=some ad→base≤ad.block:=by
 rcases h.2 with ⟨h1,h2⟩ | ⟨g,cap,cur,hv,_⟩
 ·have:=List.eq_nil_of_length_eq_zero h2
  subst this
  exact ⟨none,0,h1,.inl rfl,Nat.le_refl _,fun ad e=>by cases e⟩
 ·subst hv
  obtain ⟨-,h1,h2,h3,h4⟩:=ownsRow_some h
  refine ⟨_,_,rfl,.inr ⟨g,0,rfl,h2,fun i x hx=>?_⟩,h3,fun ad e=>by injection e with e; subst e; exact h1⟩
  rw [Nat.zero_add]
  exact (h4 i (uv x) (by rw [List.getElem?_map,hx]; rfl)).1
theorem own_headU {w:World} {base:Nat} {v:Value} {l:List Int} (h:w.ownsRow base 260 1 v l.length (l.map uv)) (h0:l≠[]∨v≠.slice none 0 0):∃ g c,v=.slice (some ⟨g,0,none⟩) l.length c∧base≤g∧l.length≤c∧g < w.heap.size:=by
 rcases h.2 with ⟨h1,h2⟩ | ⟨g,cap,cur,hv,_⟩
 ·rcases h0 with h0 | h0
  ·exact absurd (List.eq_nil_of_length_eq_zero h2) h0
  ·exact absurd h1 h0
 ·subst hv
  obtain ⟨-,h1,h2,h3,h4⟩:=ownsRow_some h
  exact ⟨_,_,rfl,h1,h3,h2⟩
theorem Dtrim (l:List Int) (a:Option Addr) (cap:Nat) (w:World) (hel:El w uv a l) (hl:l.length≤4000000000) (hc:l.length≤cap) :
 Calls Tryz.prog 216 #[.slice a l.length cap] w fun e w'=>e=.returned (.slice a (trimL l).length cap)∧Fr w w':=by
 obtain ⟨n,hn⟩:∃ n,n=l.length:=⟨_,rfl⟩
 rw [← hn] at hl hc
 rw [← hn]
 replace hn:=hZ hn
 go_enter Tryz.func216,Tryz.ntmps216
 go_wp2_with fail
 go_loopg [0] n (fun k s0 wr=>s0=.slice a k cap∧k≤n∧Fr w wr∧Hid (trimL (l.take k)=trimL l))
 case atStart=>exact ⟨rfl,Nat.le_refl _,Fr.refl _,by show _=_; rw [List.take_of_length_le (by rw [hn.out]; exact Nat.le_refl _)]⟩
 case round=>
  obtain ⟨rfl,hle,hf,ht⟩:=hrel
  by_cases hk0:gk=0
  ·subst hk0
   have hlen:Hid ((trimL l).length=0):=by show _=_; rw [← ht.out]; rfl
   go_wp2_with fail
   go_ret
   exact ⟨by rw [hlen.out]; rfl,hf⟩
  ·obtain ⟨k,rfl⟩:∃ k,gk=k+1:=⟨gk - 1,by omega⟩
   obtain ⟨b,o,d,rfl,hb,hk,hcell⟩:=(hel.fr hf).at (i:=k) (by have:=hn.out; omega)
   have z0:(0:Int)≤(k:Int):=by omega
   have z1:(k:Int) < (n:Int):=by omega
   have z2:decide ((0:Int) < (k:Int)+1)=true:=decide_eq_true (by omega)
   have z3:decide ((0:Int) < ((k+1:Nat):Int))=true:=decide_eq_true (by omega)
   have hw1:IntKind.i64.wrap (((k+1:Nat):Int) - 1)=(k:Int):=by rw [show ((k+1:Nat):Int) - 1=(k:Int) by omega]; exact IntWalk.i64_in _ (by omega)
   have z7:(k:Int) < ((k+1:Nat):Int):=by omega
   by_cases hd:d=0
   ·have e0:(d == 0)=true:=by rw [hd]; rfl
    have ht2:Hid (trimL (l.take k)=trimL l):=(trimL_take hk hd).symm.trans ht.out
    have z4:(k:Int).toNat=k:=by omega
    have z5:(k:Int)≤(cap:Int):=by omega
    replace hk:=hZ hk
    go_wp2_with fail
    go_roundg k
    case measure=>omega
    case rel=>exact ⟨by first | rfl | go_num,by omega,hf,ht2⟩
   ·have e0:(d == 0)=false:=beq_false_of_ne hd
    have hlen:Hid ((trimL l).length=k+1):=by show _=_; rw [← ht.out,trimL_stop hk hd,List.length_take]; have:=hn.out; omega
    replace hk:=hZ hk
    go_wp2_with fail
    go_ret
    exact ⟨by rw [hlen.out]; rfl,hf⟩
theorem conv_tb (w:World) (l:List UInt8):∃ cap W,(convert 114 305 (.string (tb l))).run Tryz.prog w=.ok (.slice (some ⟨w.heap.size,0,none⟩) l.length cap) W∧Fr w W∧w.heap.size < W.heap.size∧∀ j (h:j < l.length),W.cell? ⟨w.heap.size,j,none⟩=some (.int .u8 (l[j].toNat:Int)):=by
 have h:=run_bytes_of_string (P:=Tryz.prog) w 114 305 5 (tb l) Tryz.underlying114 Tryz.underlying305 Tryz.underlying5
 rw [tb_size] at h
 refine ⟨_,_,h,(Fr.refl w).drew.alloc _,by simp,fun j hj=>?_⟩
 have e:=World.cell?_alloc_mark w.drew (bytesRow (tb l) (grownCap w l.length 0 5)) 5 ((bytesRow (tb l) (grownCap w l.length 0 5)).size,(bytesRow (tb l) (grownCap w l.length 0 5)).size+1) j
 have hs:w.drew.heap.size=w.heap.size:=by simp
 rw [hs] at e
 rw [e]
 unfold bytesRow
 rw [Array.getElem?_append_left (by simp [tb]; exact hj)]
 simp [tb,hj]
theorem Dcut (u:Nat) (w:World) (hs:(tx (u:Int)).size≤1000000000) :
 Calls Tryz.prog 214 #[.string (tx (u:Int))] w fun e w'=>∃ v,e=.returned v∧w'.ownsRow w.heap.size 260 1 v (digs u).length ((digs u).map uv)∧v≠.slice none 0 0∧Fr w w':=by
 obtain ⟨i0,hi,hz0,hz1,hz2⟩:=info_parts infoU64
 have h0:tx (u:Int)=tb (decDigits u):=by rw [tx_tb,itoa_nn (by omega),Int.toNat_natCast]
 rw [h0,tb_size] at hs
 rw [h0]
 obtain ⟨L,hL⟩:∃ L,L=decDigits u:=⟨_,rfl⟩
 rw [← hL] at hs
 rw [← hL]
 obtain ⟨N,hN⟩:∃ N,N=L.length:=⟨_,rfl⟩
 rw [← hN] at hs
 have hT0:Hid (ToS2 u (L.take N) []):=.inr ⟨u,by rw [hN,List.take_length,hL],rfl⟩
 have hSz:(tb L).size=N:=by rw [tb_size,hN]
 have hex:Hid (∀ q e,(tb L).extract q e=tb ((L.take e).drop q)):=fun q e=>tb_extract L q e
 replace hN:=hZ hN
 replace hL:=hZ hL
 clear h0
 obtain ⟨S,hS⟩:∃ S,S=tb L:=⟨_,rfl⟩
 rw [← hS] at hex hSz
 rw [← hS]
 replace hS:=hZ hS
 have k9:IntKind.i64.wrap ((N:Int).tdiv 9)=((N / 9:Nat):Int):=by rw [show (N:Int).tdiv 9=((N / 9:Nat):Int) by rw [Int.tdiv_eq_ediv_of_nonneg (by omega)]; omega]; exact IntWalk.i64_in _ (by omega)
 go_enter Tryz.func214,Tryz.ntmps214
 go_wp2_with (at_make; refine wpList_make_own _ rfl _ _ 269 rfl w.heap.size 260 i0 _ 1 Tryz.underlying269 hi hz0 hz1 _ _ _ (N / 9+1) (by rfl) (by rfl) (by first | omega | go_num) (by rw [hz2]; omega) (by unfold maxLen; omega) (Nat.le_refl _) ?_; intro w2 hown2 hgr2)
 have hf2:Fr w w2:=(Fr.refl w).grown hgr2 (fun k e=>by cases e)
 replace hown2:=hZ hown2
 clear hgr2
 go_loopg [3,4] N (fun gk s3 s4 wr=>∃ (e i:Nat) (ei:Int) (out:List Int),s4=.int .i64 ei∧(ei=e∨e=0∧-9≤ei∧ei≤0)∧e≤gk∧i+e≤N∧Fr w wr∧Hid (wr.ownsRow w.heap.size 260 1 s3 i (out.map uv))∧Hid (out.length=i)∧Hid (s3≠.slice none 0 0)∧Hid (ToS2 u (L.take e) out))
 case atStart=>exact ⟨N,0,N,[],rfl,.inl rfl,by omega,by omega,hf2,hZ (by simpa using hown2.out),rfl,(by intro e; cases e),hT0.out⟩
 case round=>
  clear hown2 hf2 hT0
  obtain ⟨e,i,ei,out,rfl,hei,hek,hie,hf,hown,hol,hnn,hTs⟩:=hrel
  obtain ⟨ko,rfl⟩:∃ ko:Nat,ko=gk:=⟨_,rfl⟩
  by_cases he0:e=0
  ·subst he0
   have dz:decide ((0:Int) < ei)=false:=decide_eq_false (by omega)
   have hch:out=chunks u:=by
    rcases hTs.out with ⟨_,h⟩ | ⟨m',h,_⟩
    ·exact h
    ·exact absurd (by rw [List.take_zero] at h; exact h.symm) (dec_ne m')
   subst hch
   have hown9:=hown.out
   rw [← hol.out] at hown9
   obtain ⟨a9,c9,rfl,he9,hc9,-⟩:=own_readU hown9
   have htr:=hZ (Dtrim (chunks u) a9 c9 wr he9 (by rw [hol.out]; omega) hc9)
   have hq:Hid (trimL (chunks u)=digs u):=chunks_trim u
   obtain ⟨hle1,hle⟩:=trimL_len (chunks u)
   rw [hq.out] at htr hle hle1
   obtain ⟨g9,rfl⟩:∃ g9,a9=some ⟨g9,0,none⟩:=by
    rcases own_headU hown9 (.inr hnn.out) with ⟨g,c,h,-⟩
    injection h with h
    exact ⟨g,h⟩
   have hE:=ownsRow_take hown9 hle
   rw [← List.map_take,← hle1] at hE
   replace hE:=hZ hE
   clear hown9 he9 hle1
   go_wp2_with fail
   refine htr.out.mono ?_
   rintro e w3 ⟨rfl,hf3⟩
   go_wp2_with fail
   go_ret
   exact ⟨_,rfl,ownsRow_fr hE.out hf3,(by intro e; injection e with e; cases e),hf.trans hf3⟩
  ·obtain rfl:ei=e:=by omega
   clear hei
   obtain ⟨m',hm,hch⟩:∃ m',L.take e=decDigits m'∧out ++ chunks m'=chunks u:=by
    rcases hTs.out with ⟨h,_⟩ | h
    ·have:=congrArg List.length h
     rw [List.length_take,← hN.out] at this
     simp at this; omega
    ·exact h
   obtain ⟨q,r,T1,T2,hT,hq,hr,r1,r9,hb1,hb2,hd,hv,hTs2⟩:=ToS2.step hch
   have hTe:L.take e=T1 ++ T2:=hm.trans hT
   have hqr:q+r=e:=by
    have:=congrArg List.length hTe
    rw [List.length_take,List.length_append,← hN.out,hq,hr] at this
    omega
   have hT1:T1=L.take q:=by
    have h:=congrArg (List.take q) hTe
    rw [List.take_take,List.take_append_of_le_length (Nat.le_of_eq hq.symm),List.take_of_length_le (l:=T1) (Nat.le_of_eq hq),show min q e=q by omega] at h
    exact h.symm
   have hT2:Hid (S.extract q e=tb T2):=by
    show _=_
    rw [hex.out,hTe,← hq,List.drop_left]
   rw [hT1] at hTs2
   have hdg:Hid (∀ (j:Nat) (hj:j < r),∃ c:UInt8,(∀ h:j < T2.length,T2[j]'h=c)∧48≤c.toNat∧c.toNat≤57∧digVal 0 (T2.take (j+1))=10 * digVal 0 (T2.take j)+(c.toNat - 48)∧digVal 0 (T2.take j) < 1000000000):=fun j hj=>by
    obtain ⟨h1,h2,h3,h4⟩:=digs_take T2 hd hv j (by omega)
    exact ⟨T2[j]'(by omega),fun h=>rfl,h1,h2,h3,h4⟩
   have hdv:Hid (digVal 0 (T2.take r) < 1000000000):=by show _ < _; rw [List.take_of_length_le (by omega)]; exact hv
   have hTs:Hid (ToS2 u (L.take q) (out ++ [(digVal 0 (T2.take r):Int)])):=by show ToS2 _ _ _; rw [List.take_of_length_le (l:=T2) (by omega)]; exact hTs2
   obtain ⟨wo,rfl⟩:∃ wo:World,wo=wr:=⟨_,rfl⟩
   obtain ⟨cap5,W5,hcv,hf5,hz5,hc5⟩:=conv_tb wo T2
   rw [hr] at hcv
   replace hc5:=hZ hc5
   have z0:decide ((0:Int) < (e:Int))=true:=decide_eq_true (by omega)
   have kq:IntKind.i64.wrap ((e:Int) - 9)=(e:Int) - 9:=IntWalk.i64_in _ (by omega)
   have kmax:max (0:Int) ((e:Int) - 9)=(q:Int):=by
    by_cases h9:9 < q+r
    ·have:=hb1 h9; omega
    ·have:=hb2 (by omega); omega
   have zq:(q:Int)≤(e:Int):=by omega
   have zeN:(e:Int)≤(N:Int):=by omega
   have zeS:(e:Int)≤(S.size:Int):=by omega
   replace hT1:=hZ hT1
   replace hTe:=hZ hTe
   replace hm:=hZ hm
   replace hT:=hZ hT
   replace hch:=hZ hch
   replace hq:=hZ hq
   replace hr:=hZ hr
   replace hd:=hZ hd
   replace hv:=hZ hv
   replace hTs2:=hZ hTs2
   replace hb1:=hZ hb1
   replace hb2:=hZ hb2
   have hT2x:=hT2.out
   go_wp2_with fail
   go_loopg [5,27] r (fun k s5 s27 wr2=>∃ j:Nat,s27=.int .i64 j∧s5=.int .u64 (digVal 0 (T2.take j):Nat)∧j+k=r∧wr2=W5)
   case atStart=>exact ⟨0,rfl,rfl,by omega,rfl⟩
   case round=>
    obtain ⟨j,rfl,rfl,hjk,rfl⟩:=hrel
    by_cases hj:j < r
    ·obtain ⟨c,hcE,hc1,hc2,hcv2,hcb⟩:=hdg.out j hj
     have dj:decide ((j:Int) < (r:Int))=true:=decide_eq_true (by omega)
     have cj:wr.cell? ⟨wo.heap.size,j,none⟩=some (.int .u8 (c.toNat:Int)):=by
      have:=hc5.out j (by rw [hr.out]; exact hj)
      rw [hcE] at this; exact this
     have y0:(0:Int)≤(j:Int):=by omega
     have y1:(j:Int) < (r:Int):=by omega
     have hu:IntKind.u8.wrap ((c.toNat:Int) - 48)=(c.toNat:Int) - 48:=IntWalk.u8_in _ (by omega)
     have hu2:IntKind.u64.wrap ((c.toNat:Int) - 48)=(c.toNat:Int) - 48:=IntWalk.u64_in _ (by omega)
     have kj:IntKind.i64.wrap ((j:Int)+1)=(j:Int)+1:=IntWalk.i64_in _ (by omega)
     generalize digVal 0 (T2.take j)=V at *
     have hw9:IntKind.u64.wrap (10 * (V:Int))=10 * (V:Int):=IntWalk.u64_in _ (by omega)
     have hw8:IntKind.u64.wrap (10 * (V:Int)+((c.toNat:Int) - 48))=10 * (V:Int)+((c.toNat:Int) - 48):=IntWalk.u64_in _ (by omega)
     go_wp2_with fail
     go_roundg (gk - 1)
     case measure=>omega
     case rel=>exact ⟨j+1,by go_num,by rw [hcv2]; exact congrArg (Value.int IntKind.u64) (by omega),by omega,rfl⟩
    ·obtain rfl:j=r:=by omega
     have dj:decide ((j:Int) < (j:Int))=false:=decide_eq_false (by omega)
     have hV9:=hdv.out
     generalize digVal 0 (T2.take j)=V at *
     have hownG:=ownsRow_fr hown.out hf5
     go_wp2_with (at_builtin; refine wpList_append_lies _ rfl _ _ 269 (by rfl) _ 260 _ _ 1 8 Tryz.underlying269 hi hz0 hz1 hz2 rfl (by decide) _ i _ (by rfl) (World.ownsRow.alloc hownG _) ⟨wr.heap.size,0,none⟩ 1 1 [.int .u64 V] (by rfl) rfl (cell_one_newN _ _ _ _ (by simp)) (by simp [Value.oneCell']) (by decide) (by unfold maxLen; omega) (by omega) (by have:=(hf.trans hf5).size; simp; omega) (wr.heap.size+1) (by simp) ?_; intro gA capA wA hownA hgrowA hatA hltA)
     go_wp2_with fail
     go_roundg (ko - 1)
     case measure=>omega
     case rel=>exact ⟨q,i+1,(e:Int) - 9,out ++ [(V:Int)],by first | rfl | (rw [kq]),by (by_cases h9:9 < q+j; have:=hb1.out h9; omega; have:=hb2.out (by omega); omega),by omega,by omega,((hf.trans hf5).alloc _).grown hgrowA (fun k e=>(hownG.lt k e).1),by show World.ownsRow _ _ _ _ _ _ _; rw [List.map_append]; exact hownA,by show _=_; rw [List.length_append,hol.out]; rfl,(by intro e; injection e with e; cases e),hTs.out⟩
section
variable {P:Program} {ops:Array Oper} {Q:Exit→Act→World→Prop} {md:Region.Mode} {S:World→Prop} {n:Nat}
theorem uF (i:Nat) {oi:Oper} {v:Value} {fuel:Nat} {listed:Array Bool} {a:Act} {w:World} (h:wpAnyU P md ops Q S n fuel (listed.setIfInBounds i true) (a.put oi.dst v) w) (hi:ops[i]?=some oi:=by rfl) (hin:i≠n:=by decide) (hs:Region.noSelect ops=true:=by kernel_rfl) (hf:Region.free md ops listed i=true:=by kernel_rfl) (hr:(Region.ready md ops listed).contains i=true:=by kernel_rfl)
 (hw:Region.wanted oi (yielded ops a.tmps)=true:=by rfl) (hy:∀ w,True→(execOp a.eval oi).run P w=.ok (.value v) w:=by (intro w _; go_simp; try (with_reducible rfl))) (hS:S w:=by assumption) (hQ:∀ c a w,Q (.panic c) (a.put oi.dst v) w→Q (.panic c) a w:=by exact fun _ _ _ h=>h):wpAnyU P md ops Q S n (fuel+1) listed a w :=
 wpAnyU_takeT hi hin hs hf hr hQ (.inl ⟨hw,hy⟩) hS h
end
def bv (b:UInt8):Value:=.int .u8 b.toNat
def revX (x:Nat→UInt8) (n t j:Nat):UInt8:=if j < t∨n - t≤j then x (n - 1 - j) else x j
theorem DReverse (g n cap:Nat) (x:Nat→UInt8) (w:World) (hn:n≤10000000000) (_hg:g < w.heap.size) (hx:∀ j,j < n→w.cell? ⟨g,j,none⟩=some (.int .u8 (x j).toNat)∧w.frozen? ⟨g,j,none⟩=false) :
 Calls Tryz.prog 261 #[.slice (some ⟨g,0,none⟩) n cap] w fun e w'=>e=.returned (.tuple #[])∧Fx (·=g) w w'∧∀ j,j < n→w'.cell? ⟨g,j,none⟩=some (.int .u8 (x (n - 1 - j)).toNat):=by
 replace hx:=hZ hx
 have kn:IntKind.i64.wrap ((n:Int) - 1)=(n:Int) - 1:=IntWalk.i64_in _ (by omega)
 go_enter Tryz.func261,Tryz.ntmps261
 go_wp2_with fail
 go_loopg [2,3] n (fun k s2 s3 wr=>∃ t:Nat,s2=.int .i64 t∧s3=.int .i64 ((n:Int) - 1 - (t:Int))∧t+k=n∧2 * t≤n+1∧Fx (·=g) w wr∧Hid (∀ j,j < n→wr.cell? ⟨g,j,none⟩=some (.int .u8 (revX x n t j).toNat)∧wr.frozen? ⟨g,j,none⟩=false))
 case atStart=>exact ⟨0,rfl,by go_num,by omega,by omega,Fx.refl _ _,fun j hj=>by unfold revX; rw [if_neg (by omega)]; exact hx.out j hj⟩
 case round=>
  obtain ⟨t,rfl,rfl,htk,ht2,hf,hc⟩:=hrel
  by_cases h:(t:Int) < (n:Int) - 1 - (t:Int)
  ·have dj:decide ((t:Int) < (n:Int) - 1 - (t:Int))=true:=decide_eq_true h
   obtain ⟨u,hu⟩:∃ u:Nat,u=n - 1 - t:=⟨_,rfl⟩
   have eu:(n:Int) - 1 - (t:Int)=(u:Int):=by omega
   rw [eu] at dj ⊢
   obtain ⟨c1,f1⟩:=hc.out t (by omega)
   obtain ⟨c2,f2⟩:=hc.out u (by omega)
   have z0:(0:Int)≤(t:Int):=by omega
   have z1:(t:Int) < (n:Int):=by omega
   have z2:(0:Int)≤(u:Int):=by omega
   have z3:(u:Int) < (n:Int):=by omega
   have k1:IntKind.i64.wrap ((t:Int)+1)=(t:Int)+1:=IntWalk.i64_in _ (by omega)
   have k2:IntKind.i64.wrap ((u:Int) - 1)=(u:Int) - 1:=IntWalk.i64_in _ (by omega)
   have e1:revX x n t t=x t:=by unfold revX; rw [if_neg (by omega)]
   have e2:revX x n t u=x u:=by unfold revX; rw [if_neg (by omega)]
   rw [e1] at c1
   rw [e2] at c2
   have htu:t < u:=by omega
   have hune:u≠t:=by omega
   have htm:2 * (t+1)≤n+1:=by omega
   replace eu:=hZ eu
   clear e1 e2 h
   replace ht2:=hZ ht2
   replace htm:=hZ htm
   replace hu:=hZ hu
   go_wp2_with fail
   have hdr:=(Fr.refl wr).drew
   have c3:=hdr.keep c1
   have c4:=hdr.keep c2
   have f3:=hdr.keepf c1 f1
   have f4:=hdr.keepf c2 f2
   refine wp_region_U (S:=fun W=>W.cell? ⟨g,t,none⟩=some (.int .u8 (x t).toNat)∧W.cell? ⟨g,u,none⟩=some (.int .u8 (x u).toNat)) 13 (by kernel_rfl) ⟨c3,c4⟩ (fun hHeld=>?_)
   refine uM 0 14 ?_; try simp only [lsT,ls0,lsS]
   refine uM 1 15 ?_; try simp only [lsT,ls0,lsS]
   refine uF 2 ?_
   change wpAnyU _ _ _ _ _ _ _ _ (Act.put _ (some 16) _) _
   simp only [Act.put,lsT,ls0,lsS]
   refine uF 3 ?_
   change wpAnyU _ _ _ _ _ _ _ _ (Act.put _ (some 17) _) _
   simp only [Act.put,lsT,ls0,lsS]
   refine uM 4 18 ?_; try simp only [lsT,ls0,lsS]
   refine uM 5 19 ?_; try simp only [lsT,ls0,lsS]
   refine uM 6 20 ?_; try simp only [lsT,ls0,lsS]
   refine uM 7 21 ?_; try simp only [lsT,ls0,lsS]
   refine uF 8 ?_
   change wpAnyU _ _ _ _ _ _ _ _ (Act.put _ (some 22) _) _
   simp only [Act.put,lsT,ls0,lsS]
   refine uF 9 ?_
   change wpAnyU _ _ _ _ _ _ _ _ (Act.put _ (some 23) _) _
   simp only [Act.put,lsT,ls0,lsS]
   refine uF 10 ?_
   change wpAnyU _ _ _ _ _ _ _ _ (Act.put _ (some 24) _) _
   simp only [Act.put,lsT,ls0,lsS]
   refine uM 11 25 ?_; try simp only [lsT,ls0,lsS]
   refine uM 12 26 ?_; try simp only [lsT,ls0,lsS]
   have hA1:(⟨g,t,none⟩:Addr)≠⟨g,u,none⟩:=fun e=>by injection e with _ e; omega
   have c5:(wr.drew.setCell ⟨g,t,none⟩ (.int .u8 (x u).toNat)).cell? ⟨g,u,none⟩=some (.int .u8 (x u).toNat):=by rw [World.cell?_setCell_other _ _ _ _ hA1]; exact c4
   have f5:(wr.drew.setCell ⟨g,t,none⟩ (.int .u8 (x u).toNat)).frozen? ⟨g,u,none⟩=false:=by rw [World.frozen?_setCell]; exact f4
   refine uD 13 (fun K hK=>?_)
   go_simp
   refine hK.out _ _ ?_
   clear hK K
   clear hHeld
   refine uD 14 (fun K hK=>?_)
   go_simp
   refine hK.out _ _ ?_
   clear hK K
   try simp only [Act.put,lsT,ls0,lsS]
   refine uD 15 (fun K hK=>?_)
   go_simp
   refine hK.out _ _ ?_
   clear hK K
   refine uE ?_
   have hfx:Fx (·=g) w ((wr.drew.setCell ⟨g,t,none⟩ (.int .u8 (x u).toNat)).setCell ⟨g,u,none⟩ (.int .u8 (x t).toNat)):=((hf.fr hdr).setCell (q:=⟨g,t,none⟩) (.inl rfl) _).setCell (q:=⟨g,u,none⟩) (.inl rfl) _
   have hc9:Hid (∀ j,j < n→((wr.drew.setCell ⟨g,t,none⟩ (.int .u8 (x u).toNat)).setCell ⟨g,u,none⟩ (.int .u8 (x t).toNat)).cell? ⟨g,j,none⟩=some (.int .u8 (revX x n (t+1) j).toNat)∧((wr.drew.setCell ⟨g,t,none⟩ (.int .u8 (x u).toNat)).setCell ⟨g,u,none⟩ (.int .u8 (x t).toNat)).frozen? ⟨g,j,none⟩=false):=fun j hj=>by
    obtain ⟨d1,d2⟩:=hc.out j hj
    have hun:=hu.out
    refine ⟨?_,by rw [World.frozen?_setCell,World.frozen?_setCell]; exact hdr.keepf d1 d2⟩
    by_cases e1:j=u
    ·subst e1
     rw [World.cell?_setCell_same' _ _ _ (by rw [c5]; rfl)]
     unfold revX
     rw [if_pos (by omega),show n - 1 - j=t by omega]
    ·rw [World.cell?_setCell_other _ _ _ _ (fun e=>e1 (by injection e with _ e; exact e.symm))]
     by_cases e2:j=t
     ·subst e2
      rw [World.cell?_setCell_same' _ _ _ (by rw [c3]; rfl)]
      unfold revX
      rw [if_pos (by omega),hun]
     ·rw [World.cell?_setCell_other _ _ _ _ (fun e=>e2 (by injection e with _ e; exact e.symm)),hdr.keep d1]
      unfold revX
      by_cases e3:j < t∨n - t≤j
      ·rw [if_pos e3,if_pos (by omega)]
      ·rw [if_neg e3,if_neg (by omega)]
   clear hc c1 c2 c3 c4 c5 f1 f2 f3 f4 f5
   go_wp2_with fail
   go_roundg (gk - 1)
   case measure=>omega
   case rel=>exact ⟨t+1,by go_num,by exact congrArg (Value.int IntKind.i64) (by have:=eu.out; omega),by omega,htm.out,hfx,hc9.out⟩
  ·have dj:decide ((t:Int) < (n:Int) - 1 - (t:Int))=false:=decide_eq_false h
   have hfin:Hid (∀ j,j < n→wr.cell? ⟨g,j,none⟩=some (.int .u8 (x (n - 1 - j)).toNat)):=fun j hj=>by
    rw [(hc.out j hj).1]
    unfold revX
    by_cases h1:j < t∨n - t≤j
    ·rw [if_pos h1]
    ·rw [if_neg h1,show n - 1 - j=j by omega]
   go_wp2_with fail
   exact bodyPost_end (results_none rfl _ _ _) rfl ⟨rfl,hf,hfin.out⟩
def lowD (u:Nat):Nat→List UInt8
 | 0=>[]
 | k+1=>lowD u k ++ [UInt8.ofNat (48+u / 10 ^ k % 10)]
theorem lowD_len (u:Nat):∀ k,(lowD u k).length=k
 | 0=>rfl
 | k+1=>by show (lowD u k ++ [_]).length=k+1; rw [List.length_append,lowD_len u k]; rfl
theorem padk_cons:∀ (k u:Nat),padk (k+1) u=UInt8.ofNat (48+u / 10 ^ k % 10) :: padk k u
 | 0,u=>by show [] ++ [_]=_; rw [Nat.pow_zero,Nat.div_one]; rfl
 | k+1,u=>by
   show padk (k+1) (u / 10) ++ [_]=_ :: (padk k (u / 10) ++ [_])
   rw [padk_cons k (u / 10),Nat.div_div_eq_div_mul,← Nat.pow_succ']; rfl
theorem lowD_rev (u:Nat):∀ k,(lowD u k).reverse=padk k u
 | 0=>rfl
 | k+1=>by show (lowD u k ++ [_]).reverse=_; rw [List.reverse_append,lowD_rev u k,padk_cons]; rfl
theorem infoU8:(Tryz.prog.info? 5).map (fun i=>(i.zero,i.size,i.bytes))=some (some (.int .u8 0),1,1):=by kernel_rfl
theorem lowD_dec {u c:Nat} (h:u < 10 ^ c) (h0:∀ k,c=k+1→10 ^ k≤u) (hc:1≤c):(lowD u c).reverse=decDigits u:=by
 rw [lowD_rev,padk_rep c u hc h]
 obtain ⟨k,rfl⟩:∃ k,c=k+1:=⟨c - 1,by omega⟩
 have h1:=h0 k rfl
 rw [decDigits_length,nDigits_unique k u h1 h,Nat.sub_self]; rfl
theorem digit_at (U k:Nat) (hk:k < 9):U % 1000000000 / 10 ^ k % 10=U / 10 ^ k % 10:=by
 have:k=0∨k=1∨k=2∨k=3∨k=4∨k=5∨k=6∨k=7∨k=8:=by omega
 rcases this with rfl | rfl | rfl | rfl | rfl | rfl | rfl | rfl | rfl <;> simp <;> omega
theorem digs_bound:∀ u,u < 1000000000 ^ (digs u).length:=fun u=>by
 induction u using Nat.strongRecOn with
 | _ u ih=>
   by_cases h:u=0
   ·subst h; rw [digs_zero]; decide
   ·rw [digs_pos (by omega),List.length_cons,Nat.pow_succ]
    have:=ih (u / 1000000000) (by omega)
    generalize 1000000000 ^ (digs (u / 1000000000)).length=B at *
    omega
theorem p9:∀ i,1000000000 ^ i=10 ^ (9 * i):=fun i=>by rw [Nat.pow_mul]
theorem Dtext (u:Nat) (a:Option Addr) (cap:Nat) (w:World) (hel:El w uv a (digs u)) (hl:(digs u).length≤100000000) :
 Calls Tryz.prog 217 #[.slice a (digs u).length cap] w fun e w'=>e=.returned (.string (tx (u:Int)))∧Fr w w':=by
 obtain ⟨i0,hi,hz0,hz1,hz2⟩:=info_parts infoU8
 by_cases hu0:u=0
 ·subst hu0
  rw [digs_zero]
  have h0:tx ((0:Nat):Int)=⟨#[48]⟩:=tx_zero
  rw [h0]
  go_enter Tryz.func217,Tryz.ntmps217
  go_wp2_with fail
  go_ret
  exact ⟨rfl,Fr.refl _⟩
 have h0:tx (u:Int)=tb (decDigits u):=by rw [tx_tb,itoa_nn (by omega),Int.toNat_natCast]
 obtain ⟨m,hm⟩:∃ m,m=(digs u).length:=⟨_,rfl⟩
 have hm1:1≤m:=by rw [hm,digs_pos (by omega)]; simp
 have hum:u < 10 ^ (9 * m):=by rw [← p9,hm]; exact digs_bound u
 rw [← hm] at hl
 rw [← hm,h0]
 have hdg:Hid (∀ i,i < m→∃ b o:Nat,a=some ⟨b,o,none⟩∧b < w.heap.size∧w.cell? ⟨b,o+i,none⟩=some (.int .u64 ((u / 10 ^ (9 * i) % 1000000000:Nat):Int))∧0 < u / 10 ^ (9 * i)):=fun i hi=>by
  obtain ⟨b,o,d,rfl,hb,hk,hc⟩:=hel.at (i:=i) (by rw [← hm]; exact hi)
  obtain ⟨h1,h2⟩:=digs_get hk
  rw [p9] at h1 h2
  exact ⟨b,o,rfl,hb,by rw [← h2]; exact hc,h1⟩
 replace hm:=hZ hm
 replace hum:=hZ hum
 replace h0:=hZ h0
 clear hu0
 have dm:((m:Int) == 0)=false:=beq_false_of_ne (by omega)
 have k9:IntKind.i64.wrap (9 * (m:Int))=((9 * m:Nat):Int):=by rw [IntWalk.i64_in _ (by omega)]; omega
 go_enter Tryz.func217,Tryz.ntmps217
 go_wp2_with (at_make; refine wpList_make_own _ rfl _ _ 305 rfl w.heap.size 5 i0 _ 1 Tryz.underlying305 hi hz0 hz1 _ _ _ (9 * m) (by rfl) (by rfl) (by first | omega | go_num) (by rw [hz2]; omega) (by unfold maxLen; omega) (Nat.le_refl _) ?_; intro w2 hown2 hgr2)
 have hf2:Fr w w2:=(Fr.refl w).grown hgr2 (fun k e=>by cases e)
 replace hown2:=hZ hown2
 clear hgr2
 go_wp2_with fail
 go_loopg [3,16] m (fun gk s3 s16 wr=>∃ (i c:Nat),s16=.int .i64 i∧i+gk=m∧(i < m∧c=9 * i∨i=m∧Hid (u < 10 ^ c∧(∀ k,c=k+1→10 ^ k≤u)∧1≤c))∧c≤9 * m∧Fr w wr∧Hid (wr.ownsRow w.heap.size 5 1 s3 c ((lowD u c).map bv))∧Hid (s3≠.slice none 0 0))
 case atStart=>exact ⟨0,0,rfl,by omega,.inl ⟨by omega,rfl⟩,by omega,hf2,hZ (by simpa [lowD] using hown2.out),hZ (by intro e; cases e)⟩
 case round=>
  clear hown2 hf2
  obtain ⟨i,c,rfl,him,hc,hcm,hf,hown,hnn⟩:=hrel
  obtain ⟨ko,rfl⟩:∃ ko:Nat,ko=gk:=⟨_,rfl⟩
  by_cases hi9:i < m
  ·obtain ⟨b,o,rfl,hb,hcell,hpos⟩:=hdg.out i hi9
   have dI:decide ((i:Int) < (m:Int))=true:=decide_eq_true (by omega)
   have hc9:c=9 * i:=by rcases hc with ⟨_,h⟩ | ⟨h,_⟩; exact h; omega
   clear hc
   replace hpos:=hZ hpos
   have hpq:Hid (u / 10 ^ (9 * i) % 1000000000 < 1000000000):=Nat.mod_lt _ (by decide)
   obtain ⟨U,hU⟩:∃ U,U=u / 10 ^ (9 * i):=⟨_,rfl⟩
   rw [← hU] at hcell hpos hpq
   have cell:=hf.keep hcell
   have y0:(0:Int)≤(i:Int):=by omega
   have y1:(i:Int) < (m:Int):=by omega
   have ki:IntKind.i64.wrap ((i:Int)+1)=(i:Int)+1:=IntWalk.i64_in _ (by omega)
   replace hU:=hZ hU
   obtain ⟨dd,hdd⟩:∃ dd:Nat,dd=U % 1000000000:=⟨_,rfl⟩
   rw [← hdd] at cell hpq
   replace hdd:=hZ hdd
   clear hcell
   obtain ⟨wo,rfl⟩:∃ wo:World,wo=wr:=⟨_,rfl⟩
   go_wp2_with fail
   go_loopg [3,5,6] 9 (fun g2 s3 s5 s6 wv=>∃ k:Nat,s6=.int .i64 k∧s5=.int .u64 ((dd / 10 ^ k:Nat):Int)∧k+g2=9∧Fr w wv∧Hid (wv.ownsRow w.heap.size 5 1 s3 (9 * i+k) ((lowD u (9 * i+k)).map bv))∧Hid (s3≠.slice none 0 0)∧Hid (∀ j,9 * i+k=j+1→k≠0→i+1=m→10 ^ j≤u))
   case atStart=>exact ⟨0,rfl,by rw [Nat.pow_zero,Nat.div_one],by omega,hf,by rw [hc9] at hown; exact hown,hnn.out,fun j _ h=>absurd rfl h⟩
   case round=>
    obtain ⟨k,rfl,rfl,hk9,hf3,hown3,hnn3,hlow⟩:=hrel
    have ki2:IntKind.i64.wrap ((k:Int)+1)=(k:Int)+1:=IntWalk.i64_in _ (by omega)
    obtain ⟨n,hn⟩:∃ n,n=dd / 10 ^ k:=⟨_,rfl⟩
    have hnb:n < 1000000000:=by rw [hn]; exact Nat.lt_of_le_of_lt (Nat.div_le_self ..) hpq.out
    rw [← hn]
    replace hn:=hZ hn
    have ku:IntKind.u8.wrap (48+(n:Int) % 10)=((48+n % 10:Nat):Int):=by rw [IntWalk.u8_in _ (by omega)]; omega
    have hle:Hid (0 < n→10 ^ (9 * i+k)≤u):=fun h=>by
     rw [hn.out,hdd.out] at h
     refine Decidable.byContradiction fun h2=>?_
     have h3:U / 10 ^ k=0:=by rw [hU.out,Nat.div_div_eq_div_mul,← Nat.pow_add]; exact Nat.div_eq_of_lt (by omega)
     have h4:U % 1000000000 / 10 ^ k≤U / 10 ^ k:=Nat.div_le_div_right (Nat.mod_le _ _)
     omega
    have hdig:Hid (k < 9→(lowD u (9 * i+k+1)).map bv=(lowD u (9 * i+k)).map bv ++ [.int .u8 (48+(n:Int) % 10)]):=fun hk=>by
     show (lowD u (9 * i+k) ++ [_]).map bv=_
     rw [List.map_append]
     have e:u / 10 ^ (9 * i+k) % 10=n % 10:=by rw [hn.out,hdd.out,digit_at U k hk,hU.out,Nat.div_div_eq_div_mul,← Nat.pow_add]
     rw [e]
     show _ ++ [Value.int .u8 ((UInt8.ofNat (48+n % 10)).toNat:Int)]=_
     rw [dig_toNat _ (by omega)]
     have e2:((48+n % 10:Nat):Int)=48+(n:Int) % 10:=by omega
     rw [e2]
    by_cases hk:k < 9
    ·replace hdig:=hZ (hdig.out hk)
     have dk:decide ((k:Int) < 9)=true:=decide_eq_true (by omega)
     by_cases hlast:i+1 < m
     ·have dl:decide ((i:Int)+1 < (m:Int))=true:=decide_eq_true (by omega)
      have hownG:=hown3.out
      go_wp2_with (at_builtin; refine wpList_append_lies _ rfl _ _ 305 (by rfl) _ 5 _ _ 1 1 Tryz.underlying305 hi hz0 hz1 hz2 rfl (by decide) _ (9 * i+k) _ (by rfl) (World.ownsRow.alloc hownG _) ⟨wr.heap.size,0,none⟩ 1 1 [.int .u8 (48+(n:Int) % 10)] (by rfl) rfl (cell_one_newN _ _ _ _ (by simp)) (by simp [Value.oneCell']) (by decide) (by unfold maxLen; omega) (by omega) (by have:=hf3.size; simp; omega) (wr.heap.size+1) (by simp) ?_; intro gA capA wA hownA hgrowA hatA hltA)
      go_wp2_with fail
      go_roundg (gk - 1)
      case measure=>omega
      case rel=>exact ⟨k+1,by go_num,by rw [Nat.pow_succ,← Nat.div_div_eq_div_mul,← hn.out]; first | rfl | exact congrArg (Value.int IntKind.u64) (by omega),by omega,(hf3.alloc _).grown hgrowA (fun k e=>(hownG.lt k e).1),hZ (by show World.ownsRow _ _ _ _ _ _ _; rw [show 9 * i+(k+1)=9 * i+k+1 by omega,hdig.out]; exact hownA),hZ (by intro e; injection e with e; cases e),hZ (fun j hj _ hl=>by obtain rfl:j=9 * i+k:=(by omega); first | exact hle.out (by omega) | omega)⟩
     ·have dl:decide ((i:Int)+1 < (m:Int))=false:=decide_eq_false (by omega)
      by_cases hn0:n=0
      ·have dn:decide ((0:Int) < (n:Int))=false:=decide_eq_false (by omega)
       have hUlt:U < 1000000000:=by
        rw [hU.out]
        refine (Nat.div_lt_iff_lt_mul (Nat.pow_pos (by decide))).2 ?_
        have:=hum.out
        rw [show 9 * m=9+9 * i by omega,Nat.pow_add] at this
        exact this
       have hk1:k≠0:=fun e=>by
        have h1:=hn.out
        rw [e,Nat.pow_zero,Nat.div_one,hdd.out,Nat.mod_eq_of_lt hUlt] at h1
        have:=hpos.out; omega
       have hfin:Hid (u < 10 ^ (9 * i+k)∧(∀ j,9 * i+k=j+1→10 ^ j≤u)∧1≤9 * i+k):=by
        refine ⟨?_,fun j hj=>hlow.out j hj hk1 (by omega),by omega⟩
        have h1:=hn.out
        rw [hn0,hdd.out,Nat.mod_eq_of_lt hUlt] at h1
        have h2:U < 10 ^ k:=by
         refine Decidable.byContradiction fun h=>?_
         have:=Nat.div_pos (Nat.le_of_not_lt h) (Nat.pow_pos (n:=k) (by decide:0 < 10))
         omega
        rw [hU.out,Nat.div_lt_iff_lt_mul (Nat.pow_pos (by decide)),← Nat.pow_add,Nat.add_comm] at h2
        exact h2
       go_wp2_with fail
       go_roundg (ko - 1)
       case measure=>omega
       case rel=>exact ⟨i+1,9 * i+k,by go_num,by omega,.inr ⟨by omega,hfin⟩,by omega,hf3,hown3,hnn3⟩
      ·have dn:decide ((0:Int) < (n:Int))=true:=decide_eq_true (by omega)
       have hownG:=hown3.out
       go_wp2_with (at_builtin; refine wpList_append_lies _ rfl _ _ 305 (by rfl) _ 5 _ _ 1 1 Tryz.underlying305 hi hz0 hz1 hz2 rfl (by decide) _ (9 * i+k) _ (by rfl) (World.ownsRow.alloc hownG _) ⟨wr.heap.size,0,none⟩ 1 1 [.int .u8 (48+(n:Int) % 10)] (by rfl) rfl (cell_one_newN _ _ _ _ (by simp)) (by simp [Value.oneCell']) (by decide) (by unfold maxLen; omega) (by omega) (by have:=hf3.size; simp; omega) (wr.heap.size+1) (by simp) ?_; intro gA capA wA hownA hgrowA hatA hltA)
       go_wp2_with fail
       go_roundg (gk - 1)
       case measure=>omega
       case rel=>exact ⟨k+1,by go_num,by rw [Nat.pow_succ,← Nat.div_div_eq_div_mul,← hn.out]; first | rfl | exact congrArg (Value.int IntKind.u64) (by omega),by omega,(hf3.alloc _).grown hgrowA (fun k e=>(hownG.lt k e).1),hZ (by show World.ownsRow _ _ _ _ _ _ _; rw [show 9 * i+(k+1)=9 * i+k+1 by omega,hdig.out]; exact hownA),hZ (by intro e; injection e with e; cases e),hZ (fun j hj _ hl=>by obtain rfl:j=9 * i+k:=(by omega); first | exact hle.out (by omega) | omega)⟩
    ·have dk:decide ((k:Int) < 9)=false:=decide_eq_false (by omega)
     obtain rfl:k=9:=by omega
     have hfin:Hid (i+1=m→u < 10 ^ (9 * i+9)∧(∀ j,9 * i+9=j+1→10 ^ j≤u)∧1≤9 * i+9):=fun h=>⟨by have:=hum.out; rw [← h] at this; exact this,fun j hj=>hlow.out j hj (by decide) h,by omega⟩
     go_wp2_with fail
     go_roundg (ko - 1)
     case measure=>omega
     case rel=>exact ⟨i+1,9 * i+9,by go_num,by omega,(by by_cases h:i+1 < m; exact .inl ⟨h,by omega⟩; exact .inr ⟨by omega,hfin.out (by omega)⟩),by omega,hf3,hown3,hnn3⟩
  ·obtain rfl:i=m:=by omega
   have dI:decide ((i:Int) < (i:Int))=false:=decide_eq_false (by omega)
   obtain ⟨h1,h2,h3⟩:u < 10 ^ c∧(∀ k,c=k+1→10 ^ k≤u)∧1≤c:=by
    rcases hc with ⟨h,_⟩ | ⟨_,h⟩
    ·omega
    ·exact h.out
   have hrev:=lowD_dec h1 h2 h3
   obtain ⟨g,cp,hu3⟩:∃ g cp,u3=.slice (some ⟨g,0,none⟩) c cp:=by
    rcases hown.out.2 with ⟨h,_⟩ | ⟨g,cap',cur,hv,_⟩
    ·exact absurd h hnn.out
    ·exact ⟨_,_,hv⟩
   subst hu3
   obtain ⟨-,hgb,hgw,hgc,hcl⟩:=ownsRow_some hown.out
   have hx:∀ j,j < c→wr.cell? ⟨g,j,none⟩=some (.int .u8 (((lowD u c)[j]?).getD 0).toNat)∧wr.frozen? ⟨g,j,none⟩=false:=fun j hj=>by
    have e:=List.getElem?_eq_getElem (l:=lowD u c) (show j < (lowD u c).length by rw [lowD_len]; exact hj)
    have:=hcl j (bv ((lowD u c)[j]'(by rw [lowD_len]; exact hj))) (by rw [List.getElem?_map,e]; rfl)
    rw [e]; exact this
   have hrv:=hZ (DReverse g c cp (fun j=>((lowD u c)[j]?).getD 0) wr (by omega) hgw hx)
   have hlen:(decDigits u).length=c:=by rw [← hrev,List.length_reverse,lowD_len]
   have hbk:Hid (∀ W,(∀ j,j < c→W.cell? ⟨g,j,none⟩=some (.int .u8 (((lowD u c)[c - 1 - j]?).getD 0).toNat))→(convert 305 114 (.slice (some ⟨g,0,none⟩) c cp)).run Tryz.prog W=.ok (.string (tb (decDigits u))) W):=fun W hW=>by
    have h:=run_convert_bytes_back (P:=Tryz.prog) W 305 114 5 ⟨g,0,none⟩ cp (decDigits u) Tryz.underlying305 Tryz.underlying5 Tryz.underlying114 (fun j hj=>by
     have hj2:j < c:=by omega
     have e:=hW j hj2
     have e2:((lowD u c)[c - 1 - j]?).getD 0=(decDigits u)[j]:=by
      have e3:(decDigits u)[j]?=(lowD u c)[c - 1 - j]?:=by rw [← hrev,List.getElem?_reverse (by rw [lowD_len]; exact hj2),lowD_len]
      rw [← e3,List.getElem?_eq_getElem hj]; rfl
     rw [e2] at e
     have e4:(⟨g,0,none⟩:Addr).add j=⟨g,j,none⟩:=by unfold Addr.add; split <;> simp_all
     rw [e4]; exact e)
    rw [hlen] at h
    exact h
   clear hc h1 h2 hrev hx hcl hown hnn hlen
   go_wp2_with fail
   refine hrv.out.mono ?_
   rintro e w5 ⟨rfl,hf5,hc5⟩
   have hcv:=hbk.out w5 hc5
   have hf9:Fr w w5:=((Fx.of_fr hf).trans hf5).toFr (fun k hk e=>by have e:k=g:=e; omega)
   clear hc5
   go_wp2_with fail
   go_ret
   exact ⟨rfl,hf9⟩
end Go.Proofs.YtmalpgbbddkdcaaGreatDoor
