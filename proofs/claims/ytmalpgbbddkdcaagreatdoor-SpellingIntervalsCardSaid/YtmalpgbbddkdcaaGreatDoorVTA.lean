/- Contracts and laws: VTA. -/
import Derived.Test.YtmalpgbbddkdcaaGreatDoorVA
import Derived.Test.YtmalpgbbddkdcaaGreatDoorVI
import Derived.Test.YtmalpgbbddkdcaaGreatDoorVJ
import Derived.Test.YtmalpgbbddkdcaaGreatDoorVOX
import Derived.Test.YtmalpgbbddkdcaaGreatDoorVPX
import Derived.Test.YtmalpgbbddkdcaaGreatDoorVB

set_option maxHeartbeats 4000000
namespace Go.Proofs.YtmalpgbbddkdcaaGreatDoor
open Go.RowKit Go.Lib
attribute [local go_sem ↓] Go.wp_at_zero Go.wp_at_succ
def prD:Nat→Int→Int→Bool
 | 0,_,_=>true
 | k+1,n,d=>if d * d≤n then (if n.tmod d=0 then false else prD k n (d+1)) else true
def isPr (n:Int):Bool:=if n < 2∨97 < n then false else prD 10 n 2
theorem IsPrime_any (n:Int) (w:World):Calls Tryz.prog 83 #[.int .i64 n] w fun e w'=>e=.returned (.bool (isPr n))∧w'=w:=by
 obtain ⟨b,hb⟩:∃ b,b=isPr n:=⟨_,rfl⟩
 rw [← hb]
 unfold isPr at hb
 go_enter Tryz.func83,Tryz.ntmps83
 by_cases h1:n < 2
 ·rw [if_pos (.inl h1)] at hb
  subst hb
  have d1:decide (n < 2)=true:=decide_eq_true h1
  go_wp2_with fail
  go_ret
  exact ⟨rfl,rfl⟩
 ·have d1:decide (n < 2)=false:=decide_eq_false h1
  by_cases h2:97 < n
  ·rw [if_pos (.inr h2)] at hb
   subst hb
   have d2:decide (97 < n)=true:=decide_eq_true h2
   go_wp2_with fail
   go_ret
   exact ⟨rfl,rfl⟩
  ·have d2:decide (97 < n)=false:=decide_eq_false h2
   rw [if_neg (by omega)] at hb
   replace hb:=hZ hb
   go_wp2_with fail
   go_loopg [3] 10 (fun k s3 wr=>∃ d:Nat,s3=.int .i64 d∧d+k=12∧2≤d∧Hid (b=prD k n d)∧wr=w)
   case atStart=>exact ⟨2,rfl,rfl,by omega,hb,rfl⟩
   case round=>
    obtain ⟨d,rfl,hdk,hd2,hbk,rfl⟩:=hrel
    have hm0:(d:Int) * d≤144:=by
     have:=Nat.mul_le_mul (show d≤12 by omega) (show d≤12 by omega)
     have e:((d * d:Nat):Int)=(d:Int) * d:=Int.natCast_mul d d
     omega
    have hm1:(0:Int)≤(d:Int) * d:=Int.mul_nonneg (by omega) (by omega)
    have w1:IntKind.i64.wrap ((d:Int) * (d:Int))=(d:Int) * d:=IntWalk.i64_in _ (by omega)
    by_cases hc:(d:Int) * d≤n
    ·have hdc:decide ((d:Int) * d≤n)=true:=decide_eq_true hc
     obtain ⟨k,rfl⟩:∃ k,gk=k+1:=by
      cases gk with
      | zero=>obtain rfl:d=12:=by omega
              exact absurd hc (by omega)
      | succ k=>exact ⟨k,rfl⟩
     have hb2:=hbk.out
     rw [prD,if_pos hc] at hb2
     have z0:(d:Int)≠0:=by omega
     have zt:((d:Int) == 0)=false:=by rw [beq_eq_false_iff_ne]; exact z0
     have ht1:n.tmod d < d:=Int.tmod_lt_of_pos _ (by omega)
     have ht2:0≤n.tmod d:=Int.tmod_nonneg _ (by omega)
     have he9:n.tmod d=n % d:=Int.tmod_eq_emod_of_nonneg (by omega)
     rw [he9] at hb2 ht1 ht2
     clear he9
     by_cases hz:n % (d:Int)=0
     ·rw [if_pos hz] at hb2
      have hzd:(n % (d:Int) == 0)=true:=by rw [hz]; rfl
      subst hb2
      go_wp2_with fail
      go_ret
      exact ⟨rfl,rfl⟩
     ·rw [if_neg hz] at hb2
      have hzd:(n % (d:Int) == 0)=false:=by rw [beq_eq_false_iff_ne]; exact hz
      replace hb2:=hZ hb2
      go_wp2_with fail
      go_roundg k
      case measure=>omega
      case rel=>exact ⟨d+1,by go_num,by omega,by omega,hb2,rfl⟩
    ·have hdc:decide ((d:Int) * d≤n)=false:=decide_eq_false hc
     have hb2:b=true:=by
      have h:=hbk.out
      cases gk with
      | zero=>exact h
      | succ k=>rw [prD,if_neg hc] at h; exact h
     subst hb2
     go_wp2_with fail
     go_ret
     exact ⟨rfl,rfl⟩
def prL:Option Int→List Int→Int
 | _,[]=>0
 | none,x :: xs=>if isPr x then prL (some x) xs else 25
 | some y,x :: xs=>if isPr x then (if x≤y then 6 else prL (some x) xs) else 25
def primeE (P:List Int):Int:=if P.length=0 then 13 else if 6 < P.length then 4 else prL none P
def prO (P:List Int):Nat→Option Int
 | 0=>none
 | k+1=>P[k]?
theorem prL_bad {o:Option Int} {x:Int} {xs:List Int} (h:isPr x=false):prL o (x :: xs)=25:=by
 cases o <;> simp [prL,h]
theorem prL_low {x y:Int} {xs:List Int} (h:isPr x=true) (h2:x≤y):prL (some y) (x :: xs)=6:=by simp [prL,h,h2]
theorem prL_go {x y:Int} {xs:List Int} (h:isPr x=true) (h2:¬ x≤y):prL (some y) (x :: xs)=prL (some x) xs:=by simp [prL,h,h2]
theorem prL_one {x:Int} {xs:List Int} (h:isPr x=true):prL none (x :: xs)=prL (some x) xs:=by simp [prL,h]
theorem PCheck_any (P:List Int) (a:Option Addr) (cap:Nat) (w:World) (hP:El w iv a P) (hl:P.length≤1000000) :
 Calls Tryz.prog 38 #[.slice a P.length cap] w fun e w'=>e=.returned (.int .i64 (primeE P))∧w'=w:=by
 obtain ⟨n,hn⟩:∃ n,n=P.length:=⟨_,rfl⟩
 obtain ⟨q,hq⟩:∃ q,q=primeE P:=⟨_,rfl⟩
 rw [← hq,← hn]
 unfold primeE at hq
 rw [← hn] at hq hl
 by_cases h0:n=0
 ·rw [if_pos h0] at hq
  subst hq
  have d0:((n:Int) == 0)=true:=by rw [h0]; rfl
  clear hn hP
  go_enter Tryz.func38,Tryz.ntmps38
  go_wp2_with fail
  go_ret
  exact ⟨rfl,rfl⟩
 ·have d0:((n:Int) == 0)=false:=by rw [beq_eq_false_iff_ne]; omega
  rw [if_neg h0] at hq
  by_cases h6:6 < n
  ·rw [if_pos h6] at hq
   subst hq
   have d1:decide ((6:Int) < (n:Int))=true:=decide_eq_true (by omega)
   clear hn hP
   go_enter Tryz.func38,Tryz.ntmps38
   go_wp2_with fail
   go_ret
   exact ⟨rfl,rfl⟩
  ·have d1:decide ((6:Int) < (n:Int))=false:=decide_eq_false (by omega)
   rw [if_neg h6] at hq
   replace hq:=hZ hq
   replace hn:=hZ hn
   replace hP:=hZ hP
   go_enter Tryz.func38,Tryz.ntmps38
   go_wp2_with fail
   go_loopg [15] n (fun k s15 wr=>∃ i:Nat,s15=.int .i64 i∧i+k=n∧Hid (q=prL (prO P i) (P.drop i))∧wr=w)
   case atStart=>exact ⟨0,rfl,by omega,hq.out,rfl⟩
   case round=>
    obtain ⟨i,rfl,hik,hb,rfl⟩:=hrel
    by_cases hi:i < n
    ·have hdI:decide (i < n)=true:=decide_eq_true hi
     obtain ⟨b1,o1,x,rfl,hbl,hx,hc⟩:=hP.out.at (i:=i) (by rw [← hn.out]; exact hi)
     have hdr:P.drop i=x :: P.drop (i+1):=by
      obtain ⟨h1,h2⟩:=List.getElem?_eq_some_iff.1 hx
      rw [← h2]; exact List.drop_eq_getElem_cons h1
     have hip:=IsPrime_any x wr
     have hb2:=hb.out
     rw [hdr] at hb2
     have hx2:prO P (i+1)=some x:=hx
     replace hx:=hZ hx
     replace hx2:=hZ hx2
     replace hdr:=hZ hdr
     have z0:(0:Int)≤(i:Int):=Int.natCast_nonneg _
     have z1:(i:Int) < (n:Int):=by omega
     cases hp:isPr x with
     | false=>
       rw [prL_bad hp] at hb2
       subst hb2
       rw [hp] at hip
       clear hb
       go_wp2_with fail
       refine hip.mono ?_
       rintro e w' ⟨rfl,rfl⟩
       go_wp2_with fail
       go_ret
       exact ⟨rfl,rfl⟩
     | true=>
       rw [hp] at hip
       by_cases h00:i=0
       ·have d2:decide (0 < i)=false:=decide_eq_false (by omega)
        have hb3:Hid (q=prL (prO P (i+1)) (P.drop (i+1))):=by
         show _=_
         rw [hx2.out,hb2,h00]; exact prL_one hp
        clear hb2 h00
        go_wp2_with fail
        refine hip.mono ?_
        rintro e w' ⟨rfl,rfl⟩
        go_wp2_with fail
        go_roundg (gk - 1)
        case measure=>omega
        case rel=>exact ⟨i+1,by go_num,by omega,hb3,rfl⟩
       ·have d2:decide (0 < i)=true:=decide_eq_true (by omega)
        obtain ⟨j,hj⟩:∃ j,i=j+1:=⟨i - 1,by omega⟩
        obtain ⟨b2,o2,y,hae,-,hy,hcy⟩:=hP.out.at (i:=j) (by rw [← hn.out]; omega)
        injection hae with hae
        injection hae with e1 e2
        subst e1; subst e2
        have hy2:prO P i=some y:=by rw [hj]; exact hy
        rw [hy2] at hb2
        rw [show j=i - 1 by omega] at hcy
        have z2:(0:Int)≤(i:Int) - 1:=by omega
        have z3:(i:Int) - 1 < (n:Int):=by omega
        replace hy:=hZ hy
        replace hy2:=hZ hy2
        replace hj:=hZ hj
        by_cases hxy:x≤y
        ·have d3:decide (x≤y)=true:=decide_eq_true hxy
         rw [prL_low hp hxy] at hb2
         subst hb2
         clear hb h00
         go_wp2_with fail
         refine hip.mono ?_
         rintro e w' ⟨rfl,rfl⟩
         go_wp2_with fail
         go_ret
         exact ⟨rfl,rfl⟩
        ·have d3:decide (x≤y)=false:=decide_eq_false hxy
         have hb3:Hid (q=prL (prO P (i+1)) (P.drop (i+1))):=by
          show _=_
          rw [hx2.out,hb2]; exact prL_go hp hxy
         clear hb2 h00 hxy
         go_wp2_with fail
         refine hip.mono ?_
         rintro e w' ⟨rfl,rfl⟩
         go_wp2_with fail
         go_roundg (gk - 1)
         case measure=>omega
         case rel=>exact ⟨i+1,by go_num,by omega,hb3,rfl⟩
    ·obtain rfl:i=n:=by omega
     have hdI:decide (i < i)=false:=decide_eq_false (by omega)
     have hb2:q=0:=by
      have h:=hb.out
      rw [List.drop_of_length_le (by rw [← hn.out]; exact Nat.le_refl _)] at h
      rw [h]
      cases prO P i <;> rfl
     subst hb2
     clear hb
     go_wp2_with fail
     go_ret
     exact ⟨rfl,rfl⟩
theorem LCheck_form (m:List (List Int)) (a:Option Addr) (cap n:Nat) (w:World) (hm:MatIs w a m) (hT:TabOk n m) (hcap:m.length≤cap) (hok:formOk m=true) :
 Calls Tryz.prog 39 #[.agg #[.int .i64 n,.slice a m.length cap]] w fun e w'=>e=.returned (.int .i64 0)∧Fr w w':=by
 have hfit:=hT.2.2.2
 have hr1:=hT.2.2.1
 have hn12:=hT.2.1
 have hm12:=hT.1
 have hRE:∀ r,r ∈ m→rowE r=0:=fun r hr=>
  rowE_ok (by rw [hr1 r hr]; omega) (by
   rw [List.any_eq_false]
   intro y hy
   rw [hfit r hr y hy]; simp)
 have hchk:=fun W hW=>latCheck_ok m a cap n W (hm.fr (w':=W) hW) hr1 (by omega) hRE hn12
 have hfo:=fun W hW=>IsForm_ok m a cap n W (hm.fr (w':=W) hW) hT hcap hok
 have hfA:Fr w (w.alloc (.cells #[.int .i64 n,.slice a m.length cap] 61)):=(Fr.refl w).alloc _
 have p1:=new2a w (.int .i64 n) (.slice a m.length cap) 61
 have p2:=new2b w (.int .i64 n) (.slice a m.length cap) 61
 generalize m.length=N at *
 replace hchk:=hZ hchk
 replace hfo:=hZ hfo
 replace hfA:=hZ hfA
 have c1:=p1.1
 have c2:=p2.1
 clear p1 p2 hm hT hok hr1 hfit hRE
 go_enter Tryz.func39,Tryz.ntmps39
 go_wp2_with fail
 refine (hchk.out _ hfA.out).mono ?_
 rintro e w1 ⟨rfl,hf1⟩
 replace c2:=hf1.keep c2
 go_wp2_with fail
 refine (hfo.out _ (hfA.out.trans hf1)).mono ?_
 rintro e w2 ⟨rfl,hf2⟩
 go_wp2_with fail
 go_ret
 exact ⟨rfl,(hfA.out.trans hf1).trans hf2⟩
def KA:Nat:=itK 4 1000000000
def KB:Nat:=itK 4 KA
def FX:Nat:=KB+1
theorem KA_pos:1000000000≤KA:=le_itK 4 1000000000 (by decide)
theorem KB_ge:KA≤KB:=le_itK 4 KA (by have:=KA_pos; omega)
theorem KB_big:KB < big:=by
 have h1:KA≤10 ^ dgK 4 9:=itK_dg 4 9 1000000000 (by decide)
 have h2:KB≤10 ^ dgK 4 (dgK 4 9):=itK_dg 4 (dgK 4 9) KA h1
 exact Nat.lt_of_le_of_lt h2 (dg_big (by decide))
def ker (n:Nat) (m:List (List Int)):List (List Int):=(kernS FX n m).getD []
theorem ker_is {n B:Nat} {m:List (List Int)} (hn:n≤4) (h1:1≤B) (hB:B≤KA) (hb:∀ r,r ∈ m→∀ x,x ∈ r→x.natAbs≤B):∃ gW p t r,KrIs FX n m.length (itK n B) m gW (ker n m) p t r:=by
 have h2:itK n B≤KB:=Nat.le_trans (itK_le h1 hn) (itK_mono 4 hB)
 obtain ⟨gW,K,p,t,r,h⟩:=kernS_ex (F:=FX) h1 hb (Nat.lt_of_le_of_lt h2 KB_big) (by unfold FX; omega)
 have e:ker n m=K:=by unfold ker; rw [h.out]; rfl
 exact ⟨gW,p,t,r,by rw [e]; exact h⟩
theorem ker_len {F n d B:Nat} {m gW K:List (List Int)} {p:Nat→Nat} {t r:Nat} (h:KrIs F n d B m gW K p t r):K.length≤n:=by
 have h1:=h.klen; have h2:=h.ech.le; have h3:=h.len; omega
theorem ech_pivI {p:Nat→Nat} {c t:Nat} {g:List (List Int)} (h:Ech p c t g) {i:Nat} (hi:i < t):pivI (rowAt g i)=p i:=h.lead hi
theorem ech_form {p:Nat→Nat} {c:Nat} {g:List (List Int)} (h:Ech p c g.length g):formOk g=true:=by
 refine List.all_eq_true.2 fun i hi=>?_
 have hi:=List.mem_range.1 hi
 simp only [Bool.and_eq_true,decide_eq_true_eq]
 rw [ech_pivI h hi,Int.toNat_natCast]
 refine ⟨⟨⟨by omega,by have:=h.pos i hi; show 0≤ent g i (p i); omega⟩, ?_⟩,List.all_eq_true.2 fun x hx=>?_⟩
 ·split
  ·omega
  ·rw [ech_pivI h (show i - 1 < g.length by omega)]
   have:=h.inc (i - 1) i (by omega) hi
   omega
 ·obtain ⟨j,hj⟩:=List.getElem?_of_mem hx
  have hjl:=(List.getElem?_eq_some_iff.1 hj).1
  rw [List.length_take] at hjl
  rw [List.getElem?_take,if_pos (by omega)] at hj
  have e:x=rowAt g j:=by unfold rowAt; rw [hj]; rfl
  have h9:=h.up j i (by omega) hi
  unfold formB
  rw [e,Bool.not_eq_true',Bool.or_eq_false_iff]
  exact ⟨decide_eq_false (by show ¬ ent g j (p i) < 0; omega),decide_eq_false (by show ¬ ent g i (p i)≤ent g j (p i); omega)⟩
def ofB (n:Nat) (m:List (List Int)):List (List Int):=((formS FX n 0 m 0).map fun r=>r.1.take r.2).getD []
theorem of_is {n B:Nat} {m:List (List Int)} (hm:m.length≤4) (hr:Rect n m) (h1:1≤B) (hB:B≤KA) (hb:∀ r,r ∈ m→∀ x,x ∈ r→x.natAbs≤B):∃ gF tF p,formS FX n 0 m 0=some (gF,tF)∧ofB n m=gF.take tF∧tF≤m.length∧Ech p n tF gF∧Rect n gF∧gF.length=m.length∧∀ r,r ∈ gF→∀ x,x ∈ r→x.natAbs≤KB:=by
 have h2:itK m.length B≤KB:=Nat.le_trans (itK_le h1 hm) (itK_mono 4 hB)
 obtain ⟨gF,tF,k1,k2⟩:=formS_any (F:=FX) (m:=m.length) n 0 0 B m hr rfl h1 (by rw [Nat.sub_zero]; exact Nat.lt_of_le_of_lt h2 KB_big) (by rw [Nat.sub_zero]; unfold FX; omega) (fun i _ k=>ent_bd hb i k)
 obtain ⟨p,e1,e2,e3,-⟩:=formS_ech _ 0 0 m gF tF (fun _=>0) hr (Ech.init _ _) k1
 rw [Nat.zero_add] at e1
 refine ⟨gF,tF,p,k1,by unfold ofB; rw [k1]; rfl,by have:=e1.le; omega,e1,e2,e3,bd_ent fun i hi k=>?_⟩
 have:=k2 i (by omega) k
 rw [Nat.sub_zero] at this
 exact Nat.le_trans this h2
structure Tg (P:List Int) (C M:List (List Int)):Prop where
 n1:1≤P.length
 n4:P.length≤4
 prime:primeE P=0
 tabC:TabOk P.length C
 tabM:TabOk P.length M
 formC:formOk C=true
 formM:formOk M=true
 ann:kernS FX P.length C=some M
 sat:kernS FX P.length M=some C
theorem fit_bd {m:List (List Int)} (h:allFit m=true):∀ r,r ∈ m→∀ x,x ∈ r→x.natAbs≤1000000000:=fun r hr x hx=>by
 have h1:=List.all_eq_true.1 (List.all_eq_true.1 h r hr) x hx
 unfold fitB at h1
 have:=of_decide_eq_true h1
 omega
theorem fit_mem {m:List (List Int)} (h:allFit m=true):∀ r,r ∈ m→∀ x,x ∈ r→fitB x=true:=fun r hr x hx=>List.all_eq_true.1 (List.all_eq_true.1 h r hr) x hx
theorem tg_made {P:List Int} {L:List (List Int)} (h1:1≤P.length) (h4:P.length≤4) (hp:primeE P=0) (hL:allFit L=true) (hr:Rect P.length L) (hA:allFit (ker P.length L)=true) (hS:allFit (ker P.length (ker P.length L))=true) :
 Tg P (ker P.length (ker P.length L)) (ker P.length L)∧Tg P (ker P.length L) (ker P.length (ker P.length L)):=by
 have a0:=KA_pos
 obtain ⟨g1,p1,t1,r1,k1⟩:=ker_is (n:=P.length) h4 (by decide) a0 (fit_bd hL)
 obtain ⟨g2,p2,t2,r2,k2⟩:=ker_is (n:=P.length) h4 (by decide) a0 (fit_bd hA)
 obtain ⟨g3,p3,t3,r3,k3⟩:=ker_is (n:=P.length) h4 (by decide) a0 (fit_bd hS)
 have e3:=orth_three hr k1 k2 k3
 have l1:=ker_len k1
 have l2:=ker_len k2
 have o3:=k3.out
 rw [e3] at o3
 have f1:=ech_form k1.kech
 have f2:=ech_form k2.kech
 have T1:TabOk P.length (ker P.length L):=⟨by omega,by omega,k1.krect,fit_mem hA⟩
 have T2:TabOk P.length (ker P.length (ker P.length L)):=⟨by omega,by omega,k2.krect,fit_mem hS⟩
 exact ⟨⟨h1,h4,hp,T2,T1,f2,f1,o3,k2.out⟩,⟨h1,h4,hp,T1,T2,f1,f2,k2.out,o3⟩⟩
def dotP (x v:List Int):Nat→Int
 | 0=>0
 | k+1=>dotP x v k+(x[k]?).getD 0 * (v[k]?).getD 0
theorem dotP_bd {x v:List Int} (hx:∀ y,y ∈ x→fitB y=true) (hv:∀ y,y ∈ v→fitB y=true):∀ k,(dotP x v k).natAbs≤k * 1000000000000000000
 | 0=>by rw [dotP]; omega
 | k+1=>by
   have ih:=dotP_bd hx hv k
   have bd:∀ (l:List Int) (j:Nat),(∀ y,y ∈ l→fitB y=true)→((l[j]?).getD 0).natAbs≤1000000000:=fun l j hl=>by
    cases e:l[j]? with
    | none=>simp
    | some y=>
      have:=hl y (List.mem_of_getElem? e)
      unfold fitB at this
      have:=of_decide_eq_true this
      rw [Option.getD_some]; omega
   have h1:=Nat.mul_le_mul (bd x k hx) (bd v k hv)
   rw [← Int.natAbs_mul] at h1
   rw [dotP]
   omega
def temL (M:List (List Int)) (x:List Int):List Int:=M.map fun v=>dotP x v x.length
theorem Ech.cutT {p:Nat→Nat} {c t:Nat} {g:List (List Int)} (h:Ech p c t g):Ech p c (g.take t).length (g.take t):=by
 have hl:(g.take t).length=t:=by rw [List.length_take]; have:=h.le; omega
 have he:∀ i,i < t→∀ k,ent (g.take t) i k=ent g i k:=fun i hi k=>by
  unfold ent rowAt; rw [List.getElem?_take,if_pos hi]
 rw [hl]
 exact ⟨by rw [hl]; exact Nat.le_refl _,fun i a b k _=>absurd b (by rw [hl]; omega),h.lt,h.inc,fun i hi=>by rw [he i hi]; exact h.pos i hi,fun i hi k hk=>by rw [he i hi]; exact h.low i hi k hk,fun i j hij hj=>by rw [he i (by omega),he j hj]; exact h.up i j hij hj⟩
theorem Rect.takeR {n:Nat} {g:List (List Int)} (h:Rect n g) (t:Nat):Rect n (g.take t):=fun r hr=>h r (List.mem_of_mem_take hr)
theorem kb_size {x:Int} (h:x.natAbs≤KB):(tx x).size≤1000000000:=by
 have h1:Wd x:=Nat.lt_of_le_of_lt h KB_big
 have:=h1.size
 omega
theorem ofB_nil (n:Nat):ofB n []=[]:=by
 unfold ofB
 cases e:formS FX n 0 [] 0 with
 | none=>rfl
 | some r=>
   obtain ⟨g,t⟩:=r
   exact formS_nil n e
theorem ofB_ok {n B:Nat} {m:List (List Int)} (_hn:n≤4) (hm:m.length≤4) (hr:Rect n m) (h1:1≤B) (hB:B≤KA) (hb:∀ r,r ∈ m→∀ x,x ∈ r→x.natAbs≤B) :
 (∀ r,r ∈ ofB n m→∀ x,x ∈ r→(tx x).size≤1000000000)∧Rect n (ofB n m)∧(ofB n m).length≤4∧formOk (ofB n m)=true:=by
 obtain ⟨gF,tF,p,-,e,ht,he,hR,-,hk⟩:=of_is (n:=n) hm hr h1 hB hb
 rw [e]
 exact ⟨fun r hr x hx=>kb_size (hk r (List.mem_of_mem_take hr) x hx),hR.takeR tF,by rw [List.length_take]; omega,ech_form he.cutT⟩
theorem ker_ok {n:Nat} {L:List (List Int)} (hn:n≤4) (hL:allFit L=true):kernS FX n L=some (ker n L)∧kernS FX n (ker n L)=some (ker n (ker n L))∧Rect n (ker n L)∧(ker n L).length≤4∧Rect n (ker n (ker n L))∧(ker n (ker n L)).length≤4 ∧
 (∀ r,r ∈ ker n L→∀ x,x ∈ r→(tx x).size≤1000000000)∧∀ r,r ∈ ker n (ker n L)→∀ x,x ∈ r→(tx x).size≤1000000000:=by
 have a0:=KA_pos
 obtain ⟨g1,p1,t1,r1,k1⟩:=ker_is (n:=n) hn (by decide) a0 (fit_bd hL)
 have b1:itK n 1000000000≤KA:=itK_le (by decide) hn
 have c1:∀ r,r ∈ ker n L→∀ x,x ∈ r→x.natAbs≤KA:=fun r hr x hx=>Nat.le_trans (k1.kbd r hr x hx) b1
 obtain ⟨g2,p2,t2,r2,k2⟩:=ker_is (n:=n) (B:=KA) hn (by omega) (Nat.le_refl _) c1
 have b2:itK n KA≤KB:=itK_le (by omega) hn
 have l1:=ker_len k1
 have l2:=ker_len k2
 have a1:=KB_ge
 exact ⟨k1.out,k2.out,k1.krect,by omega,k2.krect,by omega,fun r hr x hx=>kb_size (Nat.le_trans (c1 r hr x hx) a1),fun r hr x hx=>kb_size (Nat.le_trans (k2.kbd r hr x hx) b2)⟩
def TgZ (P:List Int) (C M:List (List Int)):Prop:=(P=[]∧C=[]∧M=[])∨Tg P C M
def temE (P:List Int) (M:List (List Int)) (x:List Int):Int:=if P=[] then 13 else if rowE x≠0 then rowE x else if x.length≠P.length then 5 else if (temL M x).all fitB then 0 else 4
def CmpR (g:Nat):Prop:=∀ (x y:List Int) (xa ya:Option Addr) (xc yc:Nat) (W:World),El W iv xa x→El W iv ya y→x.length≤1000000→y.length≤1000000 →
 Calls Tryz.prog g #[.slice xa x.length xc,.slice ya y.length yc] W fun e W'=>e=.returned (.bool (decide (x=y)))∧Fr W W'
theorem EqualM_any (g:Nat) (xs ys:List (List Int)) (a b:Option Addr) (ca cb:Nat) (w:World) (eg:∀ args w,(callFunc g args).run Tryz.prog w=.ok (.enter g args) w) (hg:CmpR g) (hx:MatIs w a xs) (hy:MatIs w b ys) (hl:xs.length≤1000000) (_hl2:ys.length≤1000000) (hcx:∀ x,x ∈ xs→x.length≤1000000) (hcy:∀ x,x ∈ ys→x.length≤1000000) :
 Calls Tryz.prog 89 #[.slice a xs.length ca,.slice b ys.length cb,.func (.func g) #[] #[]] w fun e w'=>e=.returned (.bool (decide (xs=ys)))∧Fr w w':=by
 by_cases hlen:xs.length=ys.length
 ·have hne:((xs.length:Int) != ys.length)=false:=by rw [hlen]; simp
  obtain ⟨n,hn⟩:∃ n,n=xs.length:=⟨_,rfl⟩
  obtain ⟨m,hm⟩:∃ m,m=ys.length:=⟨_,rfl⟩
  rw [← hn,← hm] at hne
  rw [← hn] at hl
  rw [← hn,← hm]
  have hmn:m≤n∧n≤m:=by omega
  obtain ⟨hmn1,hmn2⟩:=hmn
  replace hn:=hZ hn
  replace hm:=hZ hm
  replace hx:=hZ hx
  replace hy:=hZ hy
  replace hcx:=hZ hcx
  replace hcy:=hZ hcy
  replace hg:=hZ hg
  replace hlen:=hZ hlen
  go_enter Tryz.func89,Tryz.ntmps89
  go_wp2_with fail
  go_loopg [17] n (fun k s17 wr=>∃ j:Nat,s17=.int .i64 j∧j+k=n∧Fr w wr∧Hid (xs.take j=ys.take j))
  case atStart=>exact ⟨0,rfl,by omega,Fr.refl _,rfl⟩
  case round=>
   obtain ⟨j,rfl,hjk,hf,hb⟩:=hrel
   by_cases hj:j < n
   ·have hdJ:decide (j < n)=true:=decide_eq_true hj
    have hj1:j < xs.length:=by rw [← hn.out]; exact hj
    have hj2:j < ys.length:=by rw [← hm.out]; omega
    obtain ⟨xb,xo,xa,xc,rfl,x1,xe⟩:=(hx.out.fr hf).at hj1
    obtain ⟨yb,yo,ya,yc,rfl,y1,ye⟩:=(hy.out.fr hf).at hj2
    have hcall:=hg.out xs[j] ys[j] xa ya xc yc wr xe ye (hcx.out _ (List.getElem_mem _)) (hcy.out _ (List.getElem_mem _))
    have htx:=hZ (take_snoc (List.getElem?_eq_getElem hj1))
    have hty:=hZ (take_snoc (List.getElem?_eq_getElem hj2))
    have hyes:decide (xs[j]=ys[j])=true→Hid (xs.take (j+1)=ys.take (j+1)):=fun h=>by
     show _=_
     rw [htx.out,hty.out,hb.out,of_decide_eq_true h]
    have hno:decide (xs[j]=ys[j])=false→Hid (decide (xs=ys)=false):=fun h=>by
     refine decide_eq_false (fun e=>of_decide_eq_false h ?_)
     have h1:xs[j]?=ys[j]?:=by rw [e]
     rw [List.getElem?_eq_getElem hj1,List.getElem?_eq_getElem hj2] at h1
     injection h1
    generalize decide (xs[j]=ys[j])=q at *
    generalize xs[j].length=xl at *
    generalize ys[j].length=yl at *
    replace hyes:=hZ hyes
    replace hno:=hZ hno
    replace hcall:=hZ hcall
    clear xe ye htx hty hj1 hj2
    have z1:(j:Int) < (n:Int):=by omega
    have z3:(j:Int) < (m:Int):=by omega
    have z0:(0:Int)≤(j:Int):=by omega
    go_wp2_with fail
    refine hcall.out.mono ?_
    rintro e w3 ⟨rfl,hf3⟩
    have hfw:=hf.trans hf3
    cases q with
    | true=>
      have hy9:=hyes.out rfl
      go_wp2_with fail
      go_roundg (gk - 1)
      case measure=>omega
      case rel=>exact ⟨j+1,by go_num,by omega,hfw,hy9⟩
    | false=>
      have hn9:=hno.out rfl
      go_wp2_with fail
      go_ret
      exact ⟨ret_bool hn9.out.symm,hfw⟩
   ·obtain rfl:j=n:=by omega
    have hdJ:decide (j < j)=false:=decide_eq_false (by omega)
    have hfin:=hZ (show decide (xs=ys)=true from decide_eq_true (by
     have h:=hb.out
     rw [List.take_of_length_le (by rw [← hn.out]; exact Nat.le_refl _),List.take_of_length_le (by rw [← hm.out]; omega)] at h
     exact h))
    go_wp2_with fail
    go_ret
    exact ⟨ret_bool hfin.out.symm,hf⟩
 ·have hne:((xs.length:Int) != ys.length)=true:=by rw [bne_iff_ne]; omega
  have hfin:=hZ (show decide (xs=ys)=false from decide_eq_false (fun e=>hlen (by rw [e])))
  clear hlen
  go_enter Tryz.func89,Tryz.ntmps89
  go_wp2_with fail
  go_ret
  exact ⟨ret_bool hfin.out.symm,Fr.refl _⟩
theorem rowEqual_cmp:CmpR 90:=fun x y xa ya xc yc W hx hy hl hl2=>by
 have heq:=hZ (Equal_row x y xa ya xc yc W hx hy (by omega) (by omega))
 generalize decide (x=y)=q at *
 clear hx hy
 go_enter Tryz.func90,Tryz.ntmps90
 go_wp2_with fail
 refine heq.out.mono ?_
 rintro e w2 ⟨rfl,hf2⟩
 go_wp2_with fail
 go_ret
 exact ⟨rfl,hf2⟩
theorem same1_cmp:CmpR 91:=fun x y xa ya xc yc W hx hy hl hl2=>by
 have heq:=hZ (Equal_row x y xa ya xc yc W hx hy (by omega) (by omega))
 generalize decide (x=y)=q at *
 clear hx hy
 go_enter Tryz.func91,Tryz.ntmps91
 go_wp2_with fail
 refine heq.out.mono ?_
 rintro e w2 ⟨rfl,hf2⟩
 go_wp2_with fail
 go_ret
 exact ⟨rfl,hf2⟩
theorem TSame_any (xs ys:List (List Int)) (a b:Option Addr) (ca cb:Nat) (w:World) (hx:MatIs w a xs) (hy:MatIs w b ys) (hl:xs.length≤1000000) (hl2:ys.length≤1000000) (hcx:∀ x,x ∈ xs→x.length≤1000000) (hcy:∀ x,x ∈ ys→x.length≤1000000) :
 Calls Tryz.prog 43 #[.slice a xs.length ca,.slice b ys.length cb] w fun e w'=>e=.returned (.bool (decide (xs=ys)))∧Fr w w':=by
 have h:=hZ (EqualM_any 91 xs ys a b ca cb w (enters_of Tryz.func91 (by kernel_rfl) rfl) same1_cmp hx hy hl hl2 hcx hcy)
 generalize decide (xs=ys)=q at *
 clear hx hy
 go_enter Tryz.func43,Tryz.ntmps43
 go_wp2_with fail
 refine h.out.mono ?_
 rintro e w2 ⟨rfl,hf2⟩
 go_wp2_with fail
 go_ret
 exact ⟨rfl,hf2⟩
theorem LEqual_any (n:Nat) (xs ys:List (List Int)) (a b:Option Addr) (ca cb:Nat) (w:World) (hx:MatIs w a xs) (hy:MatIs w b ys) (hl:xs.length≤1000000) (hl2:ys.length≤1000000) (hcx:∀ x,x ∈ xs→x.length≤1000000) (hcy:∀ x,x ∈ ys→x.length≤1000000) :
 Calls Tryz.prog 41 #[.agg #[.int .i64 n,.slice a xs.length ca],.agg #[.int .i64 n,.slice b ys.length cb]] w fun e w'=>e=.returned (.bool (decide (xs=ys)))∧Fr w w':=by
 have h:=fun W (hW:Fr w W)=>EqualM_any 90 xs ys a b ca cb W (enters_of Tryz.func90 (by kernel_rfl) rfl) rowEqual_cmp (hx.fr hW) (hy.fr hW) hl hl2 hcx hcy
 have hfA:Fr w ((w.alloc (.cells #[.int .i64 n,.slice a xs.length ca] 61)).alloc (.cells #[.int .i64 n,.slice b ys.length cb] 61)):=((Fr.refl w).alloc _).alloc _
 replace h:=hZ (h _ hfA)
 generalize decide (xs=ys)=q at *
 generalize xs.length=xl at *
 generalize ys.length=yl at *
 replace hfA:=hZ hfA
 have hd2:((n:Int) == (n:Int))=true:=by simp
 clear hx hy
 go_enter Tryz.func41,Tryz.ntmps41
 go_wp2_with fail
 refine h.out.mono ?_
 rintro e w2 ⟨rfl,hf2⟩
 go_wp2_with fail
 go_ret
 exact ⟨rfl,hfA.out.trans hf2⟩
end Go.Proofs.YtmalpgbbddkdcaaGreatDoor
