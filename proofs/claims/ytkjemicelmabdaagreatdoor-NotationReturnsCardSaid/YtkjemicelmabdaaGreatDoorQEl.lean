/-
  Contracts and laws for the statements of the seat, QEl.
-/
import Derived.Test.YtkjemicelmabdaaGreatDoorQChk
import Derived.Test.YtkjemicelmabdaaGreatDoorQD
import Derived.Test.YtkjemicelmabdaaGreatDoorQE
import Derived.Deep.CutRange

set_option maxRecDepth 100000
set_option maxHeartbeats 16000000
namespace Go.Proofs.YtkjemicelmabdaaGreatDoor
open Go.RowKit Go.Lib
attribute [local go_sem ↓] Go.wp_at_zero Go.wp_at_succ
theorem R2digits (n:Int) (w:World) (hs:(tx n).size≤1000000000) :
 Calls Tryz.prog 132 #[.string (tx n)] w fun e w'=>e=.returned (.string (tx (n.natAbs:Int)))∧w=w':=by
 have h1:=tx_pos n
 by_cases hn:n < 0
 ·have h2:=tx_head_ng hn h1
  have h3:=hZ (show (tx n).extract 1 (tx n).size=tx (n.natAbs:Int) by rw [tx_tail hn]; congr 1; omega)
  generalize tx n=s at *
  go_enter Tryz.func132,Tryz.ntmps132
  go_wp2
  go_ret
  exact ⟨by rw [h3.out]; rfl,rfl⟩
 ·have h2:=tx_head_nn (by omega) h1
  have h3:=hZ (show tx n=tx (n.natAbs:Int) by congr 1; omega)
  generalize tx n=s at *
  go_enter Tryz.func132,Tryz.ntmps132
  go_wp2
  go_ret
  exact ⟨ret_str h3.out,rfl⟩
theorem R2Sign (n:Int) (w:World) :
 Calls Tryz.prog 96 #[.string (tx n)] w fun e w'=>e=.returned (.int .i64 n.sign)∧w=w':=by
 have hp:=tx_pos n
 have hb:=tx_beq0 n
 rcases Int.lt_trichotomy n 0 with h | h | h
 ·have h2:=tx_head_ng h hp
  rw [decide_eq_false (by omega)] at hb
  have hs:=hZ (Int.sign_eq_neg_one_of_neg h); clear h
  go_enter Tryz.func96,Tryz.ntmps96
  go_wp2
  go_ret
  exact ⟨by rw [hs.out]; rfl,rfl⟩
 ·rw [decide_eq_true h] at hb
  have hs:=hZ h; clear h
  go_enter Tryz.func96,Tryz.ntmps96
  go_wp2
  go_ret
  exact ⟨by rw [hs.out]; rfl,rfl⟩
 ·have h2:=tx_head_nn (Int.le_of_lt h) hp
  rw [decide_eq_false (by omega)] at hb
  have hs:=hZ (Int.sign_eq_one_of_pos h); clear h
  go_enter Tryz.func96,Tryz.ntmps96
  go_wp2
  go_ret
  exact ⟨by rw [hs.out]; rfl,rfl⟩
theorem sign_lt (n:Int):decide (n.sign < 0)=decide (n < 0):=by
 rcases Int.lt_trichotomy n 0 with h | h | h
 ·rw [Int.sign_eq_neg_one_of_neg h,decide_eq_true h]; rfl
 ·subst h; rfl
 ·rw [Int.sign_eq_one_of_pos h,decide_eq_false (by omega:¬ n < 0)]; rfl
theorem sign_eq (n:Int):(n.sign == 0)=decide (n=0):=by
 rcases Int.lt_trichotomy n 0 with h | h | h
 ·rw [Int.sign_eq_neg_one_of_neg h,decide_eq_false (by omega:¬ n=0)]; rfl
 ·subst h; rfl
 ·rw [Int.sign_eq_one_of_pos h,decide_eq_false (by omega:¬ n=0)]; rfl
theorem R2Neg (n:Int) (w:World) (hs:(tx n).size≤1000000000) :
 Calls Tryz.prog 97 #[.string (tx n)] w fun e w'=>e=.returned (.string (tx (-n)))∧w=w':=by
 have hp:=tx_pos n
 have hsg:=fun W=>R2Sign n W
 have e1:=sign_lt n
 have e2:=sign_eq n
 rcases Int.lt_trichotomy n 0 with h | h | h
 ·have h3:=hZ (tx_tail h)
  rw [decide_eq_true h] at e1
  clear e2 h
  generalize n.sign=s at *
  generalize tx n=t at *
  replace hsg:=hZ hsg
  go_enter Tryz.func97,Tryz.ntmps97
  go_wp2_with (go_at_call 96; refine (hsg.out _).mono ?_; rintro e w1 ⟨rfl,rfl⟩)
  go_ret
  exact ⟨by rw [h3.out]; rfl,rfl⟩
 ·have h3:=hZ (show tx n=tx (-n) by rw [h]; rfl)
  rw [decide_eq_false (by omega:¬ n < 0)] at e1
  rw [decide_eq_true h] at e2
  clear h
  generalize n.sign=s at *
  generalize tx n=t at *
  replace hsg:=hZ hsg
  go_enter Tryz.func97,Tryz.ntmps97
  go_wp2_with (go_at_call 96; refine (hsg.out _).mono ?_; rintro e w1 ⟨rfl,rfl⟩)
  go_ret
  exact ⟨by rw [h3.out]; rfl,rfl⟩
 ·have h3:=hZ (tx_join h)
  rw [decide_eq_false (by omega:¬ n < 0)] at e1
  rw [decide_eq_false (by omega:¬ n=0)] at e2
  clear h
  generalize n.sign=s at *
  generalize tx n=t at *
  replace hsg:=hZ hsg
  go_enter Tryz.func97,Tryz.ntmps97
  go_wp2_with (go_at_call 96; refine (hsg.out _).mono ?_; rintro e w1 ⟨rfl,rfl⟩)
  go_ret
  exact ⟨by rw [h3.out]; rfl,rfl⟩
theorem digVal_le (l m:List UInt8) (a:Nat) (hm:∀ c ∈ m,48≤c.toNat∧c.toNat≤57):digVal a l≤digVal a (l ++ m):=by
 rw [digVal_append]
 have:=(digVal_bound m (digVal a l) hm).1
 have h2:=Nat.pow_pos (n:=m.length) (show 0 < 10 by decide)
 exact Nat.le_trans (Nat.le_mul_of_pos_right _ h2) this
theorem ba_at (l:List UInt8) (i:Nat) (h:i < (⟨l.toArray⟩:ByteArray).size) (h2:i < l.length):(⟨l.toArray⟩:ByteArray)[i]'h=l[i]'h2:=rfl
theorem tx_at (n:Int) (i:Nat) (hs:i < (tx n).size) (h2:i < (itoa n).length):(tx n)[i]'hs=(itoa n)[i]'h2:=ba_at (itoa n) i hs h2
theorem digVal_one (c:UInt8) (a:Nat):digVal a [c]=10 * a+(c.toNat - 48):=by
 show a * 10+(c.toNat - 48)=_
 omega
theorem tx_digit {n:Int} {off i:Nat} (ho:off=if n < 0 then 1 else 0) (hi:off≤i) (hs:i < (tx n).size):∃ c:UInt8,(tx n)[i]'hs=c∧48≤c.toNat∧c.toNat≤57∧digVal 0 ((decDigits n.natAbs).take (i+1 - off))=10 * digVal 0 ((decDigits n.natAbs).take (i - off))+(c.toNat - 48):=by
 refine ⟨_,rfl, ?_⟩
 have hl:i < (itoa n).length:=by rw [← tx_size]; exact hs
 rw [tx_at n i hs hl]
 have hd:∃ h:i - off < (decDigits n.natAbs).length,(itoa n)[i]'hl=(decDigits n.natAbs)[i - off]'h:=by
  by_cases hn:n < 0
  ·rw [if_pos hn] at ho
   subst ho
   have e2:=itoa_ng hn
   refine ⟨by rw [e2] at hl; simp at hl; omega, ?_⟩
   obtain ⟨j,rfl⟩:∃ j,i=j+1:=⟨i - 1,by omega⟩
   simp only [e2,List.getElem_cons_succ,Nat.add_sub_cancel]
  ·rw [if_neg hn] at ho
   subst ho
   have e2:=itoa_nn (n:=n) (by omega)
   have e3:n.toNat=n.natAbs:=by omega
   rw [e3] at e2
   refine ⟨by rw [e2] at hl; simpa using hl, ?_⟩
   simp only [e2,Nat.sub_zero]
 obtain ⟨h1,h2⟩:=hd
 rw [h2]
 have h3:=dec_digits n.natAbs _ (List.getElem_mem h1)
 have h4:(decDigits n.natAbs).take (i+1 - off)=(decDigits n.natAbs).take (i - off) ++ [(decDigits n.natAbs)[i - off]'h1]:=by
  rw [show i+1 - off=(i - off)+1 by omega]; exact List.take_succ_eq_append_getElem h1
 rw [h4,digVal_append]
 clear h4 h2
 generalize (decDigits n.natAbs)[i - off]'h1=c at *
 generalize (decDigits n.natAbs).take (i - off)=l at *
 exact ⟨h3.1,h3.2,digVal_one c (digVal 0 l)⟩
theorem min_quo (d:Int) (h1:48≤d) (h2:d≤57):(-9223372036854775808+(d - 48)).tdiv 10≤-900000000000000000:=by
 rw [show -9223372036854775808+(d - 48)=-(9223372036854775808 - (d - 48)) by omega,Int.neg_tdiv,Int.tdiv_eq_ediv_of_nonneg (by omega)]; omega
theorem ret_ib {a b:Int} {c:Value} (h:a=b):Ending.returned (.tuple #[.int .i64 a,c])=Ending.returned (.tuple #[.int .i64 b,c]):=by rw [h]
theorem R2Small (n:Int) (hn:Sm n) (w:World) :
 Calls Tryz.prog 52 #[.string (tx n)] w fun e w'=>e=.returned (.tuple #[.int .i64 n,.bool true])∧w=w':=by
 obtain ⟨hn1,hn2⟩:=hn
 have hp:=tx_pos n
 have hsz:(tx n).size≤19:=tx_size_le 18 n (by omega) (by omega)
 obtain ⟨off,ho⟩:∃ off:Nat,off=if n < 0 then 1 else 0:=⟨_,rfl⟩
 have hlen:(tx n).size=(decDigits n.natAbs).length+off:=by
  rw [tx_size]
  by_cases h:n < 0
  ·rw [ho,if_pos h,itoa_ng h]; rfl
  ·rw [ho,if_neg h,itoa_nn (by omega),show n.toNat=n.natAbs by omega]; rfl
 have hdp:0 < (decDigits n.natAbs).length:=List.length_pos_iff.2 (dec_ne _)
 have hat:=fun i (h1:off≤i) (h2:i < (tx n).size)=>tx_digit ho h1 h2
 have hle:∀ j,digVal 0 ((decDigits n.natAbs).take j)≤n.natAbs:=fun j=>by
  have:=digVal_le ((decDigits n.natAbs).take j) ((decDigits n.natAbs).drop j) 0 (fun c hc=>dec_digits _ c (List.mem_of_mem_drop hc))
  rw [List.take_append_drop,digVal_dec] at this
  exact this
 have hall:∀ i,i=(tx n).size→digVal 0 ((decDigits n.natAbs).take (i - off))=n.natAbs:=fun i hi=>by
  rw [List.take_of_length_le (by omega),digVal_dec]
 have hz:digVal 0 ((decDigits n.natAbs).take (off - off))=0:=by rw [Nat.sub_self]; rfl
 have hneg:((((tx n)[0]'hp).toNat:Int) == 45)=decide (n < 0):=by
  by_cases h:n < 0
  ·rw [tx_head_ng h hp,decide_eq_true h]
  ·rw [tx_head_nn (by omega) hp,decide_eq_false h]
 obtain ⟨V,hV⟩:∃ V:Nat→Nat,∀ i,digVal 0 ((decDigits n.natAbs).take (i - off))=V i:=⟨_,fun i=>rfl⟩
 simp only [hV] at hat hall hz
 have hle2:∀ i,V i≤n.natAbs:=fun i=>by rw [← hV]; exact hle _
 have hoff:off < (tx n).size:=by omega
 have hho:(n < 0→off=1)∧(¬ n < 0→off=0):=⟨fun h=>by rw [ho,if_pos h],fun h=>by rw [ho,if_neg h]⟩
 have hlo:=hle2 0
 clear hle hV hlen hdp ho hlo
 generalize tx n=t at *
 obtain ⟨s,hs⟩:∃ s,s=t.size:=⟨_,rfl⟩
 replace hall:=hZ hall
 replace hle2:=hZ hle2
 replace hat:=hZ hat
 by_cases h:n < 0
 ·
  obtain rfl:off=1:=by first | exact hho.1 h | exact hho.2 h
  have hng:=hZ h
  first | rw [decide_eq_true h] at hneg | rw [decide_eq_false h] at hneg
  clear h hho
  go_enter Tryz.func52,Tryz.ntmps52
  have z0:decide ((0:Int) < (t.size:Int))=true:=decide_eq_true (by omega)
  have z1:((1:Int) == (t.size:Int))=false:=beq_false_of_ne (by omega)
  go_wp2_with fail
  go_loopg [5,7] (s - 1) (fun k s5 s7 wr=>∃ i:Nat,s5=.int .i64 i∧s7=.int .i64 (-(V i:Int))∧1≤i∧i+k=s∧w=wr)
  case atStart=>exact ⟨1,by go_num,by rw [hz]; go_num,by omega,by omega,rfl⟩
  case round=>
   obtain ⟨i,rfl,rfl,hoi,hik,rfl⟩:=hrel
   by_cases hi:i < s
   ·have hdI:decide ((i:Int) < (t.size:Int))=true:=decide_eq_true (by omega)
    obtain ⟨c,hc,c1,c2,hV⟩:=hat.out i hoi (by omega)
    have hle:=hle2.out i
    have y1:(i:Int) < (t.size:Int):=by omega
    have y2:(0:Int)≤(i:Int):=by omega
    have hq:=min_quo c.toNat (by omega) (by omega)
    go_wp2_with fail
    all_goals first
     | (exfalso; omega)
     | (go_roundg (gk - 1)
        case measure=>omega
        case rel=>exact ⟨i+1,by go_num,by show Value.int _ _=Value.int _ _; rw [show -(V i:Int) * 10 - ((c.toNat:Int) - 48)=-(V (i+1):Int) by omega],by omega,by omega,rfl⟩)
   ·have hdI:decide ((i:Int) < (t.size:Int))=false:=decide_eq_false (by omega)
    have hV:=hall.out i (by omega)
    have hng2:=hng.out
    have hfin:=hZ (show (if n < 0 then -(V i:Int) else (V i:Int))=n by split <;> omega)
    have hmin:(-(V i:Int) == -9223372036854775808)=false:=beq_false_of_ne (by omega)
    clear hfin
    go_wp2_with fail
    go_ret2
    refine ⟨ret_ib ?_,rfl⟩
    omega
 ·
  obtain rfl:off=0:=by first | exact hho.1 h | exact hho.2 h
  have hng:=hZ h
  first | rw [decide_eq_true h] at hneg | rw [decide_eq_false h] at hneg
  clear h hho
  go_enter Tryz.func52,Tryz.ntmps52
  have z0:decide ((0:Int) < (t.size:Int))=true:=decide_eq_true (by omega)
  have z1:((0:Int) == (t.size:Int))=false:=beq_false_of_ne (by omega)
  go_wp2_with fail
  go_loopg [5,7] (s - 0) (fun k s5 s7 wr=>∃ i:Nat,s5=.int .i64 i∧s7=.int .i64 (-(V i:Int))∧0≤i∧i+k=s∧w=wr)
  case atStart=>exact ⟨0,by go_num,by rw [hz]; go_num,by omega,by omega,rfl⟩
  case round=>
   obtain ⟨i,rfl,rfl,hoi,hik,rfl⟩:=hrel
   by_cases hi:i < s
   ·have hdI:decide ((i:Int) < (t.size:Int))=true:=decide_eq_true (by omega)
    obtain ⟨c,hc,c1,c2,hV⟩:=hat.out i hoi (by omega)
    have hle:=hle2.out i
    have y1:(i:Int) < (t.size:Int):=by omega
    have y2:(0:Int)≤(i:Int):=by omega
    have hq:=min_quo c.toNat (by omega) (by omega)
    go_wp2_with fail
    all_goals first
     | (exfalso; omega)
     | (go_roundg (gk - 1)
        case measure=>omega
        case rel=>exact ⟨i+1,by go_num,by show Value.int _ _=Value.int _ _; rw [show -(V i:Int) * 10 - ((c.toNat:Int) - 48)=-(V (i+1):Int) by omega],by omega,by omega,rfl⟩)
   ·have hdI:decide ((i:Int) < (t.size:Int))=false:=decide_eq_false (by omega)
    have hV:=hall.out i (by omega)
    have hng2:=hng.out
    have hfin:=hZ (show (if n < 0 then -(V i:Int) else (V i:Int))=n by split <;> omega)
    have hmin:(-(V i:Int) == -9223372036854775808)=false:=beq_false_of_ne (by omega)
    clear hfin
    go_wp2_with fail
    go_ret2
    refine ⟨ret_ib ?_,rfl⟩
    omega
theorem R2quick (n:Int) (hn:Sm n) (w:World) :
 Calls Tryz.prog 130 #[.string (tx n)] w fun e w'=>e=.returned (.tuple #[.int .i64 n,.bool true])∧w=w':=by
 have hs:=hn.size
 have h2:(tx (n.natAbs:Int)).size≤18:=(show Sm (n.natAbs:Int) by obtain ⟨h1,h2⟩:=hn; exact ⟨by omega,by omega⟩).size
 have hd:=hZ (fun W=>R2digits n W (by omega))
 have hm:=hZ (fun W=>R2Small n hn W)
 generalize tx (n.natAbs:Int)=u at *
 have d0:decide ((18:Int) < (u.size:Int))=false:=decide_eq_false (by omega)
 go_enter Tryz.func130,Tryz.ntmps130
 go_wp2_with fail
 refine (hd.out _).mono ?_
 rintro e w1 ⟨rfl,rfl⟩
 go_wp2_with fail
 refine (hm.out _).mono ?_
 rintro e w2 ⟨rfl,rfl⟩
 go_wp2_with fail
 go_ret2
 exact ⟨rfl,rfl⟩
theorem R2Add (a b:Int) (ha:Sm a) (hb:Sm b) (w:World) (hG:G w) :
 Calls Tryz.prog 78 #[.string (tx a),.string (tx b)] w fun e w'=>e=.returned (.string (tx (a+b)))∧Fr w w':=by
 have q1:=hZ (fun W=>R2quick a ha W)
 have q2:=hZ (fun W=>R2quick b hb W)
 obtain ⟨a1,a2⟩:=ha
 obtain ⟨b1,b2⟩:=hb
 go_enter Tryz.func78,Tryz.ntmps78
 go_wp2_with fail
 refine (q1.out _).mono ?_; rintro e w1 ⟨rfl,rfl⟩
 go_wp2_with fail
 refine (q2.out _).mono ?_; rintro e w2 ⟨rfl,rfl⟩
 go_wp2_with fail
 refine (OfR_any _ (by omega) (by omega) _ hG).mono ?_; rintro e w3 ⟨rfl,hf3⟩
 go_wp2_with fail
 go_ret
 exact ⟨rfl,hf3⟩
theorem R2Sub (a b:Int) (ha:Sm a) (hb:Sm b) (w:World) (hG:G w) :
 Calls Tryz.prog 140 #[.string (tx a),.string (tx b)] w fun e w'=>e=.returned (.string (tx (a - b)))∧Fr w w':=by
 have sb:=hb.size
 go_enter Tryz.func140,Tryz.ntmps140
 go_wp2_with fail
 refine (R2Neg b _ (by omega)).mono ?_; rintro e w1 ⟨rfl,rfl⟩
 go_wp2_with fail
 refine (R2Add a (-b) ha (by obtain ⟨b1,b2⟩:=hb; exact ⟨by omega,by omega⟩) _ hG).mono ?_; rintro e w2 ⟨rfl,hf2⟩
 go_wp2_with fail
 go_ret
 exact ⟨by rw [Int.sub_eq_add_neg]; rfl,hf2⟩
theorem R2Mul (a b:Int) (ha:Sm a) (hb:Sm b) (hs:(tx (a.natAbs:Int)).size+(tx (b.natAbs:Int)).size≤18) (h0:-9223372036854775808≤a * b) (h1:a * b≤9223372036854775807) (w:World) (hG:G w) :
 Calls Tryz.prog 79 #[.string (tx a),.string (tx b)] w fun e w'=>e=.returned (.string (tx (a * b)))∧Fr w w':=by
 have q1:=hZ (fun W=>R2quick a ha W)
 have q2:=hZ (fun W=>R2quick b hb W)
 have s1:=ha.size
 have s2:=hb.size
 have e1:=hZ (fun W=>R2digits a W (by omega))
 have e2:=hZ (fun W=>R2digits b W (by omega))
 have hof:=hZ (fun W (hW:G W)=>OfR_any (a * b) h0 h1 W hW)
 obtain ⟨a1,a2⟩:=ha
 obtain ⟨b1,b2⟩:=hb
 generalize tx (a.natAbs:Int)=u at *
 generalize tx (b.natAbs:Int)=v at *
 have d0:decide ((u.size:Int)+(v.size:Int)≤18)=true:=decide_eq_true (by omega)
 go_enter Tryz.func79,Tryz.ntmps79
 go_wp2_with fail
 refine (e1.out _).mono ?_; rintro e w1 ⟨rfl,rfl⟩
 go_wp2_with fail
 refine (e2.out _).mono ?_; rintro e w1 ⟨rfl,rfl⟩
 go_wp2_with fail
 refine (q1.out _).mono ?_; rintro e w1 ⟨rfl,rfl⟩
 go_wp2_with fail
 refine (q2.out _).mono ?_; rintro e w2 ⟨rfl,rfl⟩
 go_wp2_with fail
 refine (hof.out _ hG).mono ?_; rintro e w3 ⟨rfl,hf3⟩
 go_wp2_with fail
 go_ret
 exact ⟨rfl,hf3⟩
theorem abs_size (k:Nat) {a:Int} (hk:1≤k) (h:a.natAbs < 10 ^ k):(tx (a.natAbs:Int)).size≤k:=by
 rw [tx_size_nat]; exact nDigits_le k _ hk h
theorem R2Mul_ti (a b:Int) (ha:Ti a) (hb:Ti b) (w:World) (hG:G w) :
 Calls Tryz.prog 79 #[.string (tx a),.string (tx b)] w fun e w'=>e=.returned (.string (tx (a * b)))∧Fr w w':=by
 obtain ⟨m1,m2⟩:=mul_bd ha hb
 have s1:=abs_size 8 (a:=a) (by decide) (by obtain ⟨h1,h2⟩:=ha; omega)
 have s2:=abs_size 8 (a:=b) (by decide) (by obtain ⟨h1,h2⟩:=hb; omega)
 exact R2Mul a b ha.sm hb.sm (by omega) (by omega) (by omega) w hG
theorem R2DivMod (a b:Int) (ha:Sm a) (hb:Sm b) (h0:b≠0) (w:World) (hG:G w) :
 Calls Tryz.prog 80 #[.string (tx a),.string (tx b)] w fun e w'=>e=.returned (.tuple #[.string (tx (a.fdiv b)),.string (tx (a.fmod b))])∧Fr w w':=by
 have q1:=hZ (fun W=>R2quick a ha W)
 have q2:=hZ (fun W=>R2quick b hb W)
 obtain ⟨a1,a2⟩:=ha
 obtain ⟨b1,b2⟩:=hb
 have td:=tdiv_abs a b
 have tm:=tmod_abs a b h0
 have k1:IntKind.i64.wrap (a.tdiv b)=a.tdiv b:=IntWalk.i64_in _ (by omega)
 have k2:IntKind.i64.wrap (a.tmod b)=a.tmod b:=IntWalk.i64_in _ (by omega)
 by_cases hr0:a.tmod b=0
 ·have hfin:=hZ (show a.fdiv b=a.tdiv b∧a.fmod b=0 from by have:=fdiv_same a b h0 (.inl hr0); rw [hr0] at this; exact this)
  have c1:(a.tmod b != 0)=false:=by rw [hr0]; rfl
  have tm1:-100000000000000000 < a.tmod b∧a.tmod b < 100000000000000000:=by omega
  have td1:-100000000000000000 < a.tdiv b∧a.tdiv b < 100000000000000000:=by omega
  obtain ⟨tm1,tm2⟩:=tm1
  obtain ⟨td1,td2⟩:=td1
  clear td tm
  go_enter Tryz.func80,Tryz.ntmps80
  go_wp2_with fail
  refine (q1.out _).mono ?_; rintro e w1 ⟨rfl,rfl⟩
  go_wp2_with fail
  refine (q2.out _).mono ?_; rintro e w2 ⟨rfl,rfl⟩
  go_wp2_with fail
  go_quiet (fail)
  clear k1 k2
  go_wp2_with fail
  refine (OfR_any _ (by omega) (by omega) _ (hG.fr (by exact fr9))).mono ?_; rintro e w3 ⟨rfl,hf3⟩
  go_wp2_with fail
  refine (OfR_any _ (by omega) (by omega) _ (hG.fr (by exact fr9))).mono ?_; rintro e w4 ⟨rfl,hf4⟩
  go_wp2_with fail
  go_ret2
  exact ⟨by rw [hfin.out.1,hfin.out.2]; rfl,by exact fr9⟩
 ·have c1:(a.tmod b != 0)=true:=by rw [bne_iff_ne]; exact hr0
  by_cases hr:a.tmod b < 0 <;> by_cases hb:b < 0
  ·have hfin:=hZ (fdiv_same a b h0 (.inr (by simp [hr,hb])))
   have c2:(decide (a.tmod b < 0))=true:=decide_eq_true hr
   have c3:(decide (b < 0))=true:=decide_eq_true hb
   have tm1:-100000000000000000 < a.tmod b:=by omega
   have tm2:a.tmod b < 100000000000000000:=by omega
   have td1:-100000000000000000 < a.tdiv b:=by omega
   have td2:a.tdiv b < 100000000000000000:=by omega
   clear td tm hr0 hr hb
   go_enter Tryz.func80,Tryz.ntmps80
   go_wp2_with fail
   refine (q1.out _).mono ?_; rintro e w1 ⟨rfl,rfl⟩
   go_wp2_with fail
   refine (q2.out _).mono ?_; rintro e w2 ⟨rfl,rfl⟩
   go_wp2_with fail
   go_quiet (fail)
   clear k1 k2
   go_wp2_with fail
   refine (OfR_any _ (by omega) (by omega) _ (hG.fr (by exact fr9))).mono ?_; rintro e w3 ⟨rfl,hf3⟩
   go_wp2_with fail
   refine (OfR_any _ (by omega) (by omega) _ (hG.fr (by exact fr9))).mono ?_; rintro e w4 ⟨rfl,hf4⟩
   go_wp2_with fail
   go_ret2
   exact ⟨by rw [hfin.out.1,hfin.out.2]; rfl,by exact fr9⟩
  ·have hfin:=hZ (fdiv_less a b h0 hr0 (by simp [hr,hb]))
   have c2:(decide (a.tmod b < 0))=true:=decide_eq_true hr
   have c3:(decide (b < 0))=false:=decide_eq_false hb
   have tm1:-100000000000000000 < a.tmod b:=by omega
   have tm2:a.tmod b < 100000000000000000:=by omega
   have td1:-100000000000000000 < a.tdiv b:=by omega
   have td2:a.tdiv b < 100000000000000000:=by omega
   clear td tm hr0 hr hb
   go_enter Tryz.func80,Tryz.ntmps80
   go_wp2_with fail
   refine (q1.out _).mono ?_; rintro e w1 ⟨rfl,rfl⟩
   go_wp2_with fail
   refine (q2.out _).mono ?_; rintro e w2 ⟨rfl,rfl⟩
   go_wp2_with fail
   go_quiet (fail)
   clear k1 k2
   go_wp2_with fail
   refine (OfR_any _ (by omega) (by omega) _ (hG.fr (by exact fr9))).mono ?_; rintro e w3 ⟨rfl,hf3⟩
   go_wp2_with fail
   refine (OfR_any _ (by omega) (by omega) _ (hG.fr (by exact fr9))).mono ?_; rintro e w4 ⟨rfl,hf4⟩
   go_wp2_with fail
   go_ret2
   exact ⟨by rw [hfin.out.1,hfin.out.2]; rfl,by exact fr9⟩
  ·have hfin:=hZ (fdiv_less a b h0 hr0 (by simp [hr,hb]))
   have c2:(decide (a.tmod b < 0))=false:=decide_eq_false hr
   have c3:(decide (b < 0))=true:=decide_eq_true hb
   have tm1:-100000000000000000 < a.tmod b:=by omega
   have tm2:a.tmod b < 100000000000000000:=by omega
   have td1:-100000000000000000 < a.tdiv b:=by omega
   have td2:a.tdiv b < 100000000000000000:=by omega
   clear td tm hr0 hr hb
   go_enter Tryz.func80,Tryz.ntmps80
   go_wp2_with fail
   refine (q1.out _).mono ?_; rintro e w1 ⟨rfl,rfl⟩
   go_wp2_with fail
   refine (q2.out _).mono ?_; rintro e w2 ⟨rfl,rfl⟩
   go_wp2_with fail
   go_quiet (fail)
   clear k1 k2
   go_wp2_with fail
   refine (OfR_any _ (by omega) (by omega) _ (hG.fr (by exact fr9))).mono ?_; rintro e w3 ⟨rfl,hf3⟩
   go_wp2_with fail
   refine (OfR_any _ (by omega) (by omega) _ (hG.fr (by exact fr9))).mono ?_; rintro e w4 ⟨rfl,hf4⟩
   go_wp2_with fail
   go_ret2
   exact ⟨by rw [hfin.out.1,hfin.out.2]; rfl,by exact fr9⟩
  ·have hfin:=hZ (fdiv_same a b h0 (.inr (by simp [hr,hb])))
   have c2:(decide (a.tmod b < 0))=false:=decide_eq_false hr
   have c3:(decide (b < 0))=false:=decide_eq_false hb
   have tm1:-100000000000000000 < a.tmod b:=by omega
   have tm2:a.tmod b < 100000000000000000:=by omega
   have td1:-100000000000000000 < a.tdiv b:=by omega
   have td2:a.tdiv b < 100000000000000000:=by omega
   clear td tm hr0 hr hb
   go_enter Tryz.func80,Tryz.ntmps80
   go_wp2_with fail
   refine (q1.out _).mono ?_; rintro e w1 ⟨rfl,rfl⟩
   go_wp2_with fail
   refine (q2.out _).mono ?_; rintro e w2 ⟨rfl,rfl⟩
   go_wp2_with fail
   go_quiet (fail)
   clear k1 k2
   go_wp2_with fail
   refine (OfR_any _ (by omega) (by omega) _ (hG.fr (by exact fr9))).mono ?_; rintro e w3 ⟨rfl,hf3⟩
   go_wp2_with fail
   refine (OfR_any _ (by omega) (by omega) _ (hG.fr (by exact fr9))).mono ?_; rintro e w4 ⟨rfl,hf4⟩
   go_wp2_with fail
   go_ret2
   exact ⟨by rw [hfin.out.1,hfin.out.2]; rfl,by exact fr9⟩
theorem R6combine (p x f y l:Int) (hp:Ti p) (hx:Ti x) (hf:Ti f) (hy:Ti y) (hl:Ti l) (h0:l≠0) (w:World) (hG:G w) :
 Calls Tryz.prog 180 #[.string (tx p),.string (tx x),.string (tx f),.string (tx y),.string (tx l)] w fun e w'=>e=.returned (.string (tx ((p * x - f * y).fdiv l)))∧Fr w w':=by
 obtain ⟨m1,m2⟩:=mul_bd hp hx
 obtain ⟨m3,m4⟩:=mul_bd hf hy
 have c1:=hZ (fun W (hW:G W)=>R2Mul_ti p x hp hx W hW)
 have c2:=hZ (fun W (hW:G W)=>R2Mul_ti f y hf hy W hW)
 have c3:=hZ (fun W (hW:G W)=>R2Sub (p * x) (f * y) ⟨by omega,by omega⟩ ⟨by omega,by omega⟩ W hW)
 have c4:=hZ (fun W (hW:G W)=>R2DivMod (p * x - f * y) l ⟨by omega,by omega⟩ hl.sm h0 W hW)
 clear hp hx hf hy hl h0 m1 m2 m3 m4
 go_enter Tryz.func180,Tryz.ntmps180
 go_wp2_with fail
 refine (c1.out _ hG).mono ?_; rintro e w1 ⟨rfl,hf1⟩
 go_wp2_with fail
 refine (c2.out _ (hG.fr hf1)).mono ?_; rintro e w2 ⟨rfl,hf2⟩
 go_wp2_with fail
 refine (c3.out _ (hG.fr (hf1.trans hf2))).mono ?_; rintro e w3 ⟨rfl,hf3⟩
 go_wp2_with fail
 refine (c4.out _ (hG.fr ((hf1.trans hf2).trans hf3))).mono ?_; rintro e w4 ⟨rfl,hf4⟩
 go_wp2_with fail
 go_ret
 exact ⟨rfl,((hf1.trans hf2).trans hf3).trans hf4⟩
theorem elZ_mono {m:List (List Int)} {s:EZ}:∀ {n c:Nat},c≤n→elZ m n=some s→∃ s1,elZ m c=some s1
 | 0,c,h,hs=>by obtain rfl:c=0:=by omega
                exact ⟨s,hs⟩
 | n+1,c,h,hs=>by
   by_cases e:c=n+1
   ·subst e; exact ⟨s,hs⟩
   ·rw [elZ] at hs
    obtain ⟨s1,h1,-⟩:=Option.bind_eq_some_iff.1 hs
    exact elZ_mono (by omega) h1
theorem elZ_stay {m:List (List Int)} {s:EZ} {c:Nat} (h:elZ m c=some s) (hf:¬ s.piv.length < s.m.length):∀ k,elZ m (c+k)=some s
 | 0=>h
 | k+1=>by rw [show c+(k+1)=(c+k)+1 by omega,elZ,elZ_stay h hf k,Option.bind_some,stepZ,if_neg hf]
theorem elZ_next {m:List (List Int)} {s sc:EZ} {n c:Nat} (hs:elZ m n=some s) (hc:c < n) (h:elZ m c=some sc):∃ s2,elZ m (c+1)=some s2∧stepZ c sc=some s2:=by
 obtain ⟨s2,h2⟩:=elZ_mono (c:=c+1) hc hs
 refine ⟨s2,h2, ?_⟩
 rw [elZ,h,Option.bind_some] at h2
 exact h2
theorem stepZ_end {c:Nat} {s s2:EZ} (h:stepZ c s=some s2) (h1:s.piv.length < s.m.length) (h2:atZ s.m c s.piv.length=s.m.length):s2=s:=by
 unfold stepZ at h
 rw [if_pos h1,if_pos h2] at h
 injection h with h; exact h.symm
theorem stepZ_go {c:Nat} {s s2:EZ} (h:stepZ c s=some s2) (h1:s.piv.length < s.m.length) (h2:atZ s.m c s.piv.length≠s.m.length):tiM s.m=true∧Ti s.last∧s.last≠0 ∧
 s2=⟨clrZ (swapZ s.m s.piv.length (atZ s.m c s.piv.length)) (entZ (swapZ s.m s.piv.length (atZ s.m c s.piv.length)) s.piv.length c) s.last s.piv.length c s.m.length,s.piv ++ [c],
     entZ (swapZ s.m s.piv.length (atZ s.m c s.piv.length)) s.piv.length c,s.odd != decide (atZ s.m c s.piv.length≠s.piv.length)⟩:=by
 unfold stepZ at h
 rw [if_pos h1,if_neg h2] at h
 split at h
 ·rename_i h3
  injection h with h
  exact ⟨h3.1,h3.2.1,h3.2.2,h.symm⟩
 ·cases h
theorem tiM_at {m:List (List Int)} (h:tiM m=true) {i:Nat} {r:List Int} (hi:m[i]?=some r):∀ x,x ∈ r→Ti x:=fun x hx=>
 of_decide_eq_true (List.all_eq_true.1 (List.all_eq_true.1 h r (List.mem_of_getElem? hi)) x hx)
theorem atZ_zero {m:List (List Int)} {c k j:Nat} (h1:k≤j) (h2:j≤atZ m c k) (h3:j < m.length) (hz:entZ m j c=0):j+1≤atZ m c k:=by
 by_cases e:j=atZ m c k
 ·exfalso
  have:=atZ_ne (m:=m) (c:=c) (k:=k) (by omega) (by omega)
  rw [← e] at this
  exact this hz
 ·omega
theorem atZ_here {m:List (List Int)} {c k j:Nat} (h1:k≤j) (h2:j≤atZ m c k) (h3:j < m.length) (hz:entZ m j c≠0):j=atZ m c k:=by
 by_cases e:j=atZ m c k
 ·exact e
 ·exfalso
  have hlt:j - k < (m.drop k).findIdx fun r=>decide ((r[c]?).getD 0≠0):=by unfold atZ at h2 e; omega
  have h4:=List.not_of_lt_findIdx hlt
  rw [List.getElem_drop] at h4
  have h5:=of_decide_eq_false (Bool.eq_false_iff.2 (by simpa using h4):decide ((m[k+(j - k)][c]?).getD 0≠0)=false)
  apply hz
  unfold entZ rowZ
  rw [List.getElem?_eq_getElem h3]
  have:k+(j - k)=j:=by omega
  simp only [this] at h5
  exact Decidable.of_not_not h5
theorem swapZ_rect {m:List (List Int)} {n k a:Nat} (h:Rect n m):Rect n (swapZ m k a):=by
 unfold swapZ; split
 ·exact h
 ·exact fun r hr=>h r (swp_memZ hr)
theorem combZ_len {p f l:Int} {xs ys:List Int} {n:Nat} (h1:xs.length=n) (h2:ys.length=n):(combZ p f l xs ys).length=n:=by
 unfold combZ; rw [List.length_zipWith]; omega
theorem combZ_get {p f l:Int} {xs ys:List Int} {k:Nat} {x y:Int} (h1:xs[k]?=some x) (h2:ys[k]?=some y):(combZ p f l xs ys)[k]?=some (cmbZ p f l x y):=by
 unfold combZ; rw [List.getElem?_zipWith,h1,h2]
theorem clrZ_rect {m:List (List Int)} {n:Nat} (h:Rect n m) {p l:Int} {d c:Nat} (hd:d < m.length) (t:Nat):Rect n (clrZ m p l d c t):=fun r hr=>by
 obtain ⟨j,hj⟩:=List.mem_iff_getElem?.1 hr
 rw [clrZ_get] at hj
 split at hj
 ·obtain ⟨r0,h0,rfl⟩:=Option.map_eq_some_iff.1 hj
  exact combZ_len (h r0 (List.mem_of_getElem? h0)) (by unfold rowZ; rw [List.getElem?_eq_getElem hd]; exact h.row hd)
 ·exact h r (List.mem_of_getElem? hj)
theorem clrZ_old {m:List (List Int)} {p l:Int} {d c t j:Nat} (h:t≤j∨j=d):rowZ (clrZ m p l d c t) j=rowZ m j:=by
 unfold rowZ; rw [clrZ_get,if_neg (by omega)]
theorem clrZ_skip {m:List (List Int)} {p l:Int} {d c:Nat}:clrZ m p l d c (d+1)=clrZ m p l d c d:=by rw [clrZ,if_pos rfl]
theorem clrZ_step {m:List (List Int)} {p l:Int} {d c i:Nat} (h:i≠d):clrZ m p l d c (i+1)=(clrZ m p l d c i).set i (combZ p (entZ (clrZ m p l d c i) i c) l (rowZ (clrZ m p l d c i) i) (rowZ (clrZ m p l d c i) d)):=by rw [clrZ,if_neg h]
theorem rowZ_eq {m:List (List Int)} {i:Nat} (h:i < m.length):rowZ m i=m[i]:=by unfold rowZ; rw [List.getElem?_eq_getElem h]; rfl
theorem take_all_drop {α:Type} (zs xs:List α) (k:Nat) (h1:zs.length≤k) (h2:xs.length≤k):zs.take k ++ xs.drop k=zs:=by
 rw [List.take_of_length_le h1,List.drop_of_length_le h2,List.append_nil]
theorem Same.refl (ob:Nat) (a:List (Nat×Nat×Nat)):Same ob a a:=⟨fun _=>Iff.rfl,fun _ h=>h⟩
theorem tiM_swap {m:List (List Int)} {k a:Nat} (h:tiM m=true):tiM (swapZ m k a)=true:=by
 unfold swapZ; split
 ·exact h
 ·exact List.all_eq_true.2 fun r hr=>List.all_eq_true.1 h r (swp_memZ hr)
theorem ent_ti {m:List (List Int)} {n i c:Nat} (h:tiM m=true) (hr:Rect n m) (hi:i < m.length) (hc:c < n):Ti (entZ m i c) :=
 tiM_at h (List.getElem?_eq_getElem hi) _ (List.mem_of_getElem? (ent_at hr hi hc))
theorem rowZ_ti {m:List (List Int)} {i:Nat} (h:tiM m=true) (hi:i < m.length):∀ x,x ∈ rowZ m i→Ti x:=by
 rw [rowZ_eq hi]; exact tiM_at h (List.getElem?_eq_getElem hi)
theorem Fx.grownE {p:Nat→Prop} {a b c:World} {row:Option Nat} (h:Fx p a b) (hg:b.grownBy c row) (hr:∀ k,row=some k→a.heap.size≤k):Fx p a c:=by
 have k:=Fx.of_grown hg
 exact ⟨k.os.trans h.os,k.tape.trans h.tape,k.output.trans h.output,Nat.le_trans h.size k.size,fun q h1 h2=>(k.block q (Nat.lt_of_lt_of_le h1 h.size) (fun e=>by have:=hr q e; omega)).trans (h.block q h1 h2)⟩
def ElimRet (w:World) (ob oo n L:Nat) (hs:List (Nat×Nat×Nat)) (s:EZ) (e:Ending) (w':World):Prop :=
 ∃ a c hs',e=.returned (.tuple #[.slice a s.piv.length c,.string (tx s.last),.bool s.odd])∧El w' iv a (s.piv.map fun k:Nat=>(k:Int))∧GridIs w' ob oo hs' s.m∧Rect n s.m∧s.m.length=L∧Same ob hs' hs∧Fx (gb ob hs) w w'
theorem Elim_any (ob oo cap n nc:Nat) (hs:List (Nat×Nat×Nat)) (g:List (List Int)) (s:EZ) (w:World) (hG:G w) (hg:GridIs w ob oo hs g) (hr:Rect n g) (hnc:nc≤n) (hn:n≤1000) (hl:g.length≤1000) (hz:elZ g nc=some s) :
 Calls Tryz.prog 112 #[.slice (some ⟨ob,oo,none⟩) g.length cap,.int .i64 nc] w (ElimRet w ob oo n g.length hs s):=by
 have hgn:=gN_le hG
 obtain ⟨i1,ji,jz0,jz1,jz2⟩:=info_parts infoInt
 have hG1:=hZ hG
 have hge0:=hZ hg.ge
 have hoblt:=hg.outer
 have hbl0:Hid (∀ k,gb ob hs k→k < w.heap.size):=by
  rintro k (rfl | ⟨hd,hm,rfl⟩)
  ·exact hoblt
  ·obtain ⟨i,hi⟩:=List.getElem?_of_mem hm
   have hlt:i < g.length:=by rw [← hg.len]; exact (List.getElem?_eq_some_iff.1 hi).1
   exact (hg.row i hd _ hi (List.getElem?_eq_getElem hlt)).1.2.1
 obtain ⟨L,hL⟩:∃ L,L=g.length:=⟨_,rfl⟩
 rw [← hL] at hl ⊢
 have hz1:=hZ hz
 have h00:elZ g 0=some ⟨g,[],1,false⟩:=rfl
 replace hz:=hZ hz
 replace hG:=hZ hG
 replace hg:=hZ hg
 replace hr:=hZ hr
 replace hL:=hZ hL
 replace h00:=hZ h00
 clear hG hz
 go_enter Tryz.func112,Tryz.ntmps112
 go_wp2_with fail
 go_loopg [7,8,9,10] nc (fun k s7 s8 s9 s10 wr=>∃ (c q:Nat) (sc:EZ) (hsX:List (Nat×Nat×Nat)),s10=.int .i64 c∧c+k=nc∧Hid (elZ g c=some sc)∧s8=.string (tx sc.last)∧s9=.bool sc.odd∧Hid (q=sc.piv.length)∧Hid (wr.ownsRow w.heap.size 3 1 s7 q (sc.piv.map fun k:Nat=>iv k))∧Hid (GridIs wr ob oo hsX sc.m)∧Hid (Rect n sc.m)∧Hid (sc.m.length=L)∧Hid (Same ob hsX hs)∧Fx (gb ob hs) w wr)
 case atStart=>exact ⟨0,0,⟨g,[],1,false⟩,hs,rfl,by omega,h00.out,by rw [show tx 1=⟨#[49]⟩ from tx_one],rfl,rfl,World.ownsRow_nil _ _ _ _,hg.out,hr.out,hL.out.symm,Same.refl _ _,Fx.refl _ _⟩
 case round=>
  obtain ⟨c,q,sc,hsX,rfl,hck,hsc,rfl,rfl,hq,hown,hgr,hrr,hlen,hsm,hfx⟩:=hrel
  have hqc:q≤c:=by rw [hq.out]; exact elZ_len hsc.out
  have zq:(0:Int)≤(q:Int):=Int.natCast_nonneg _
  have zc:(0:Int)≤(c:Int):=Int.natCast_nonneg _
  obtain ⟨a7,c7,rfl⟩:∃ a7 c7,u7=.slice a7 q c7:=by
   rcases hown.out.2 with ⟨h1,h2⟩ | ⟨g',cap',cur',hv,_⟩
   ·rw [h1,h2]; exact ⟨_,_,rfl⟩
   ·exact ⟨_,_,hv⟩
  by_cases hcn:c < nc
  ·have dcn:decide (c < nc)=true:=decide_eq_true hcn
   by_cases hqL:q < L
   ·have dqL:decide (q < L)=true:=decide_eq_true hqL
    obtain ⟨s2,hs2,hst⟩:=elZ_next hz1.out hcn hsc.out
    obtain ⟨A,hA⟩:∃ A,A=atZ sc.m c q:=⟨_,rfl⟩
    have hAle:=atZ_le sc.m c q (by rw [hlen.out]; omega)
    rw [← hA,hlen.out] at hAle
    replace hs2:=hZ hs2
    replace hst:=hZ hst
    replace hA:=hZ hA
    obtain ⟨wo,rfl⟩:∃ wo:World,wo=wr:=⟨_,rfl⟩
    obtain ⟨ko,rfl⟩:∃ ko:Nat,ko=gk:=⟨_,rfl⟩
    go_wp2_with fail
    go_loopg [12] (L - q) (fun k s12 wr2=>∃ j:Nat,s12=.int .i64 j∧j+k=L∧q≤j∧j≤A∧wo=wr2)
    case atStart=>exact ⟨q,rfl,by omega,Nat.le_refl _,hAle.1,rfl⟩
    case round=>
     obtain ⟨j,rfl,hjk,hqj,hjA,rfl⟩:=hrel
     by_cases hjL:j < L
     ·have hjg:j < sc.m.length:=by rw [hlen.out]; exact hjL
      obtain ⟨b1,o1,k1,e1,ca1,cf1,ro1,bo1⟩:=hgr.out.at hjg
      have ce1:=(ro1.2.2 c _ (ent_at hrr.out hjg (by omega))).1
      rw [hrr.out.row hjg] at ca1
      have zj0:(0:Int)≤(j:Int):=Int.natCast_nonneg _
      have zj1:(j:Int) < (L:Int):=by omega
      have zcn:(c:Int) < (n:Int):=by omega
      have dj:decide ((j:Int) < (L:Int))=true:=decide_eq_true zj1
      clear ro1
      by_cases h0:ent sc.m j c=0
      ·have hb:((tx (ent sc.m j c)).toList == [48])=true:=by rw [tx_beq0]; exact decide_eq_true h0
       have hA1:=atZ_zero hqj (by rw [← hA.out]; exact hjA) hjg h0
       rw [← hA.out] at hA1
       replace h0:=hZ h0
       go_wp2_with fail
       go_roundg (gk - 1)
       case measure=>omega
       case rel=>exact ⟨j+1,by go_num,by omega,by omega,hA1,rfl⟩
      ·have hb:((tx (ent sc.m j c)).toList == [48])=false:=by rw [tx_beq0]; exact decide_eq_false h0
       have hjA2:=(atZ_here hqj (by rw [← hA.out]; exact hjA) hjg h0).trans hA.out.symm
       obtain ⟨hti,htl,hl0,hs2e⟩:=stepZ_go hst.out (by rw [hlen.out,← hq.out]; exact hqL) (by rw [← hq.out,← hA.out,hlen.out]; omega)
       rw [← hq.out,← hA.out,hlen.out,← hjA2] at hs2e
       obtain ⟨mX,hmX⟩:∃ mX,mX=swapZ sc.m q j:=⟨_,rfl⟩
       obtain ⟨oX,hoX⟩:∃ oX,oX=(sc.odd != decide (j≠q)):=⟨_,rfl⟩
       rw [← hmX,← hoX] at hs2e
       have hRX:Rect n mX:=by rw [hmX]; exact swapZ_rect hrr.out
       have hLX:mX.length=L:=by rw [hmX,swapZ_len]; exact hlen.out
       have htX:tiM mX=true:=by rw [hmX]; exact tiM_swap hti
       have hp0:entZ mX q c≠0:=by rw [hmX,swapZ_ent (by rw [hlen.out]; exact hqL) hjg]; exact h0
       have hel:((j:Int) == (L:Int))=false:=beq_false_of_ne (by omega)
       replace hs2e:=hZ hs2e
       replace h0:=hZ h0
       replace hjA2:=hZ hjA2
       clear hti
       go_upto_if 54 with (fail)
       go_cut [9] from 17 to 131 (fun s9 wc=>∃ hsY:List (Nat×Nat×Nat),s9=.bool oX∧Hid (GridIs wc ob oo hsY mX)∧Hid (Same ob hsY hs)∧Fx (gb ob hs) wo wc)
       case first=>
        by_cases hjq:j=q
        ·have hm2:mX=sc.m:=by rw [hmX]; unfold swapZ; rw [if_pos hjq]
         have ho2:oX=sc.odd:=by rw [hoX,decide_eq_false (by simp [hjq])]; simp
         have hne:((j:Int) != (q:Int))=false:=by rw [hjq]; simp
         replace hm2:=hZ hm2
         replace ho2:=hZ ho2
         replace hjq:=hZ hjq
         clear hmX hoX
         go_wp2_with fail
         go_meet
         case rel=>exact ⟨hsX,by rw [ho2.out],by show GridIs _ _ _ _ _; rw [hm2.out]; exact hgr.out,hsm.out,Fx.refl _ _⟩
        ·have hm2:mX=swp sc.m j q:=by rw [hmX]; unfold swapZ; rw [if_neg hjq]
         have ho2:oX=!sc.odd:=by rw [hoX,decide_eq_true hjq]; simp
         have hne:((j:Int) != (q:Int))=true:=by rw [bne_iff_ne]; omega
         have hqg:q < sc.m.length:=by rw [hlen.out]; exact hqL
         obtain ⟨b2,o2,k2,e2,ca2,cf2,-,-⟩:=hgr.out.at hqg
         rw [hrr.out.row hqg] at ca2
         have hg1:=List.getElem?_eq_getElem hjg
         have hg2:=List.getElem?_eq_getElem hqg
         have hsw:=hgr.out.swap e1 e2 hg1 hg2 hjq
         rw [hrr.out.row hjg,hrr.out.row hqg] at hsw
         have hsmY:=hZ (show Same ob (swp hsX j q) hs from ⟨fun k=>(gb_swp e1 e2 k).trans (hsm.out.1 k),fun h hm=>hsm.out.2 h (swp_mem hm)⟩)
         rw [← hm2] at hsw
         have hfS:Fx (gb ob hs) wo ((wo.setCell ⟨ob,oo+j,none⟩ (.slice (some ⟨b2,o2,none⟩) n k2)).setCell ⟨ob,oo+q,none⟩ (.slice (some ⟨b1,o1,none⟩) n k1)):=Fx.setCell (p:=gb ob hs) (q:=⟨ob,oo+q,none⟩) (Fx.setCell (p:=gb ob hs) (q:=⟨ob,oo+j,none⟩) (Fx.refl _ wo) (.inl (.inl rfl)) _) (.inl (.inl rfl)) _
         have ca3:(wo.setCell ⟨ob,oo+j,none⟩ (.slice (some ⟨b2,o2,none⟩) n k2)).cell? ⟨ob,oo+q,none⟩=some (.slice (some ⟨b2,o2,none⟩) n k2):=by
          rw [World.cell?_setCell_other _ _ _ _ (fun e=>by injection e with _ e; omega)]; exact ca2
         have zq1:(q:Int) < (L:Int):=by omega
         replace hsw:=hZ hsw
         replace hfS:=hZ hfS
         replace hjq:=hZ hjq
         replace ho2:=hZ ho2
         replace e1:=hZ e1
         replace e2:=hZ e2
         replace hg1:=hZ hg1
         replace hg2:=hZ hg2
         clear hmX hoX hm2
         go_wp2_with fail
         go_region
         go_wp2_with fail
         go_meet
         case rel=>exact ⟨swp hsX j q,by rw [ho2.out],hsw.out.fr (Fr.refl _).drew,hsmY.out,hfS.out.drew⟩
       case rest=>
        obtain ⟨hsY,rfl,hgY,hsmY,hfY⟩:=hcut
        have hqX:q < mX.length:=by rw [hLX]; exact hqL
        obtain ⟨bd,od,kd,ed,cad,cfd,rod,bod⟩:=hgY.out.at hqX
        rw [hRX.row hqX] at cad
        have ced:=(rod.2.2 c _ (ent_at hRX hqX (by omega))).1
        obtain ⟨p,hp⟩:∃ p,p=entZ mX q c:=⟨_,rfl⟩
        have htp:Ti p:=by rw [hp]; exact ent_ti htX hRX hqX (by omega)
        rw [show ent mX q c=p from hp.symm] at ced
        rw [← hp] at hp0
        have hs3e:=hs2e.out
        rw [← hp] at hs3e
        have zq1:(q:Int) < (L:Int):=by omega
        have hcl0:Hid (GridIs wc ob oo hsY (clrZ mX p sc.last q c 0)):=hgY.out
        have hownY:=hZ (ownsRow_fx hown.out hfY (fun g hg e=>by have h1:=(hown.out.lt g hg).1; have h2:=hbl0.out g e; omega))
        have hfwY:=hfx.trans hfY
        replace hs3e:=hZ hs3e
        replace hp:=hZ hp
        replace hmX:=hZ hmX
        replace hoX:=hZ hoX
        replace hRX:=hZ hRX
        replace htX:=hZ htX
        replace ed:=hZ ed
        clear rod hown hfx hfY hgr ca1 cf1 ce1 e1 dj cfd
        obtain ⟨wd,rfl⟩:∃ wd:World,wd=wc:=⟨_,rfl⟩
        go_wp2_with fail
        go_loopg [14] L (fun k s14 wr3=>∃ i:Nat,s14=.int .i64 i∧i+k=L∧Hid (GridIs wr3 ob oo hsY (clrZ mX p sc.last q c i))∧Fx (gb ob hs) wd wr3)
        case atStart=>exact ⟨0,rfl,by omega,hcl0,Fx.refl _ _⟩
        case round=>
         clear hcl0 cad ced
         obtain ⟨i,rfl,hik,hgi,hfi⟩:=hrel
         have zi0:(0:Int)≤(i:Int):=Int.natCast_nonneg _
         by_cases hiL:i < L
         ·have zi1:(i:Int) < (L:Int):=by omega
          have di:decide (i < L)=true:=decide_eq_true hiL
          by_cases hiq:i=q
          ·have hqq:((i:Int) == (q:Int))=true:=by rw [hiq]; simp
           have hsk:Hid (GridIs wr ob oo hsY (clrZ mX p sc.last q c (i+1))):=by
            show GridIs _ _ _ _ _
            have h9:=hgi.out; rw [hiq] at h9; rw [hiq,clrZ_skip]; exact h9
           replace hiq:=hZ hiq
           go_wp2_with fail
           go_roundg (gk - 1)
           case measure=>omega
           case rel=>exact ⟨i+1,by go_num,by omega,hsk.out,hfi⟩
          ·have hqq:((i:Int) == (q:Int))=false:=beq_false_of_ne (by omega)
           have hstep:=hZ (clrZ_step (m:=mX) (p:=p) (l:=sc.last) (d:=q) (c:=c) hiq)
           have hRi:Rect n (clrZ mX p sc.last q c i):=clrZ_rect hRX.out hqX i
           have hLi:(clrZ mX p sc.last q c i).length=L:=(clrZ_len _ _ _ _ _ _).trans hLX
           have ho1:=clrZ_old (m:=mX) (p:=p) (l:=sc.last) (d:=q) (c:=c) (t:=i) (j:=i) (.inl (Nat.le_refl i))
           have ho2:=clrZ_old (m:=mX) (p:=p) (l:=sc.last) (d:=q) (c:=c) (t:=i) (j:=q) (.inr rfl)
           generalize hgic:clrZ mX p sc.last q c i=gi at *
           have hiX:i < gi.length:=by rw [hLi]; exact hiL
           have hqX2:q < gi.length:=by rw [hLi]; exact hqL
           obtain ⟨bi,oi,ki,ei,cai,cfi,roi,boi⟩:=hgi.out.at hiX
           obtain ⟨bd',od',kd',ed',cad,cfd,rod,bod'⟩:=hgi.out.at hqX2
           rw [ed.out] at ed'
           injection ed' with ed'
           injection ed' with g1 g2
           injection g2 with g2 g3
           subst g1; subst g2; subst g3
           have hne:bi≠bd:=hgi.out.apart i q _ _ ei ed.out hiq
           have cei:=(roi.2.2 c _ (ent_at hRi hiX (by omega))).1
           have hfti:Ti (entZ gi i c):=by
            have:entZ gi i c=entZ mX i c:=by unfold entZ; rw [ho1]
            rw [this]; exact ent_ti htX.out hRX.out (by omega) (by omega)
           rw [hRi.row hiX] at cai
           rw [hRi.row hqX2] at cad
           have hxl:(rowZ gi i).length=n:=by rw [rowZ_eq hiX]; exact hRi.row hiX
           have hyl:(rowZ gi q).length=n:=by rw [rowZ_eq hqX2]; exact hRi.row hqX2
           rw [← rowZ_eq hiX] at roi
           rw [← rowZ_eq hqX2] at rod
           have hxt:∀ x,x ∈ rowZ gi i→Ti x:=by rw [ho1]; exact rowZ_ti htX.out (by omega)
           have hyt:∀ x,x ∈ rowZ gi q→Ti x:=by rw [ho2]; exact rowZ_ti htX.out (by omega)
           change wr.cell? ⟨bi,oi+c,none⟩=some (sv (entZ gi i c)) at cei
           obtain ⟨f,hf⟩:∃ f,f=entZ gi i c:=⟨_,rfl⟩
           rw [← hf] at cei hfti hstep
           generalize rowZ gi i=xs at *
           generalize rowZ gi q=ys at *
           obtain ⟨zs,hzs⟩:∃ zs,zs=combZ p f sc.last xs ys:=⟨_,rfl⟩
           rw [← hzs] at hstep
           have hzl:zs.length=n:=by rw [hzs]; exact combZ_len hxl hyl
           have hzg:=fun u x y (h1:xs[u]?=some x) (h2:ys[u]?=some y)=>show zs[u]?=some ((p * x - f * y).fdiv sc.last) from by rw [hzs]; exact combZ_get h1 h2
           have hG3:=hZ ((hG1.out.fx hfwY hge0.out).fx hfi hge0.out)
           have hbig:=hge0.out bi (((hsmY.out.1 bi).1) (.inr ⟨_,List.mem_of_getElem? ei,rfl⟩))
           replace hf:=hZ hf
           replace hzs:=hZ hzs
           replace hzl:=hZ hzl
           replace hzg:=hZ hzg
           replace hxl:=hZ hxl
           replace hyl:=hZ hyl
           replace hxt:=hZ hxt
           replace hyt:=hZ hyt
           replace ei:=hZ ei
           replace hRi:=hZ hRi
           replace hLi:=hZ hLi
           replace hgic:=hZ hgic
           replace hiq:=hZ hiq
           replace rod:=hZ rod
           clear ho1 ho2
           have hroi:Hid (Own wr bi oi (zs.take 0 ++ xs.drop 0)):=roi
           clear roi
           obtain ⟨wv,rfl⟩:∃ wv:World,wv=wr:=⟨_,rfl⟩
           obtain ⟨kv,rfl⟩:∃ kv:Nat,kv=gk:=⟨_,rfl⟩
           go_wp2_with fail
           go_loopg [16] n (fun k s16 wr4=>∃ u:Nat,s16=.int .i64 u∧u+k=n∧Hid (Own wr4 bi oi (zs.take u ++ xs.drop u))∧Fx (·=bi) wv wr4)
           case atStart=>exact ⟨0,rfl,by omega,hroi.out,Fx.refl _ _⟩
           case round=>
            clear hroi
            obtain ⟨u,rfl,huk,hown4,hf4⟩:=hrel
            have cai4:=hf4.keep cai (fun e=>boi e.symm)
            have cfi4:=hf4.keepf cai cfi (fun e=>boi e.symm)
            have cad4:=hf4.keep cad (fun e=>boi e.symm)
            have zu0:(0:Int)≤(u:Int):=Int.natCast_nonneg _
            by_cases hun:u < n
            ·have zu1:(u:Int) < (n:Int):=by omega
             have dun:decide (u < n)=true:=decide_eq_true hun
             obtain ⟨x,hx⟩:∃ x,xs[u]?=some x:=⟨_,List.getElem?_eq_getElem (by rw [hxl.out]; exact hun)⟩
             obtain ⟨y,hy⟩:∃ y,ys[u]?=some y:=⟨_,List.getElem?_eq_getElem (by rw [hyl.out]; exact hun)⟩
             obtain ⟨x1,x2⟩:=hown4.out.2.2 u x (by rw [mid_get zs xs u (by rw [hzl.out,hxl.out]) (by rw [hxl.out]; exact hun)]; exact hx)
             have y1:=((rod.out.fx hf4 (fun e=>hne e.symm)).2.2 u y hy).1
             have hz:=hzg.out u x y hx hy
             have hms:=mid_set zs xs u (by rw [hzl.out,hxl.out]) (by rw [hxl.out]; exact hun) _ hz
             have hco:=hZ (fun W (hW:G W)=>R6combine p x f y sc.last htp (hxt.out x (List.mem_of_getElem? hx)) hfti (hyt.out y (List.mem_of_getElem? hy)) htl hl0 W hW)
             have hGv:=hZ (hG3.out.fx hf4 (fun k e=>by rw [show k=bi from e]; exact hbig))
             have hS0:=hZ (fun W' (hW':Fr wr W')=>(⟨hW'.keep cai4,hW'.keep x1,hW'.keep cad4,hW'.keep y1⟩:W'.cell? ⟨ob,oo+i,none⟩=some (.slice (some ⟨bi,oi,none⟩) n ki)∧W'.cell? ⟨bi,oi+u,none⟩=some (sv x)∧W'.cell? ⟨ob,oo+q,none⟩=some (.slice (some ⟨bd,od,none⟩) n kd)∧W'.cell? ⟨bd,od+u,none⟩=some (sv y)))
             replace hx:=hZ hx
             replace hy:=hZ hy
             replace hz:=hZ hz
             replace hms:=hZ hms
             go_wp2_with fail
             refine wp_region_U (S:=fun W'=>W'.cell? ⟨ob,oo+i,none⟩=some (.slice (some ⟨bi,oi,none⟩) n ki)∧W'.cell? ⟨bi,oi+u,none⟩=some (sv x)∧W'.cell? ⟨ob,oo+q,none⟩=some (.slice (some ⟨bd,od,none⟩) n kd)∧W'.cell? ⟨bd,od+u,none⟩=some (sv y)) 24 (by kernel_rfl) (hS0.out _ ((Fr.refl _).drew)) (fun hHeld=>?_)
             refine uK 0 ?_
             refine uK 1 ?_
             refine uK 2 ?_
             refine uK 3 ?_
             refine uK 4 ?_
             refine uK 5 ?_
             refine uK 6 ?_
             refine uK 7 ?_
             refine uK 8 ?_
             refine uK 9 ?_
             refine uK 10 ?_
             refine uK 11 ?_
             refine uK 12 ?_
             refine uK 13 ?_
             refine uK 14 ?_
             refine uK 15 ?_
             refine uK 16 ?_
             refine uK 17 ?_
             refine uK 18 ?_
             refine uK 19 ?_
             refine uK 20 ?_
             refine uK 21 ?_
             refine uC 22 (fun K hK=>?_)
             go_simp
             (refine (hco.out _ (hGv.out.fr (by exact fr9))).mono ?_; rintro e w6 ⟨rfl,hf6⟩)
             go_wp2_with fail
             refine hK.out _ _ (hS0.out _ (by exact fr9)) (fun hHeld=>?_)
             clear hK K
             refine uK 23 ?_
             have hfr8:Fr wr w6:=by exact fr9
             have z1:=hfr8.keep x1
             have z2:=hfr8.keepf x1 x2
             clear hHeld
             refine uL 24 (fun K hK=>?_)
             go_simp
             refine hK.out _ _ ?_
             clear hK K
             have hown8:=(hown4.out.fr hfr8).set (k:=u) (by rw [List.length_append,List.length_take,List.length_drop,hxl.out,hzl.out]; omega) ((p * x - f * y).fdiv sc.last)
             rw [hms.out] at hown8
             have hf8x:=(hf4.fr hfr8).setCell (q:=⟨bi,oi+u,none⟩) (.inl rfl) (sv ((p * x - f * y).fdiv sc.last))
             replace hown8:=hZ hown8
             clear z1 z2
             go_wp2_with fail
             go_roundg (gk - 1)
             case measure=>omega
             case rel=>exact ⟨u+1,by go_num,by omega,hown8.out,hf8x⟩
            ·have dun:decide (u < n)=false:=decide_eq_false hun
             obtain rfl:u=n:=by omega
             have hown8:=hown4.out
             rw [take_all_drop _ _ _ (by rw [hzl.out]; exact Nat.le_refl _) (by rw [hxl.out]; exact Nat.le_refl _)] at hown8
             have hset:=hgi.out.setRow ei.out hf4 hown8 (fun r h=>by rw [List.getElem?_eq_getElem hiX] at h; injection h with h; rw [hzl.out,← h]; exact (hRi.out.row hiX).symm)
             rw [← hstep.out] at hset
             have hfset:=hfi.trans (hf4.mono (fun k e=>by rw [show k=bi from e]; exact (hsmY.out.1 bi).1 (.inr ⟨_,List.mem_of_getElem? ei.out,rfl⟩)))
             replace hset:=hZ hset
             clear hown8 hown4
             go_wp2_with fail
             go_roundg (kv - 1)
             case measure=>omega
             case rel=>exact ⟨i+1,by go_num,by omega,hset.out,hfset⟩
         ·have di:decide (i < L)=false:=decide_eq_false hiL
          obtain rfl:i=L:=by omega
          have hown3:=ownsRow_fx hownY.out hfi (fun g hg e=>by have h1:=(hownY.out.lt g hg).1; have h2:=hbl0.out g e; omega)
          have hfw:=hfwY.trans hfi
          have hszw:=hfw.size
          replace hown3:=hZ hown3
          go_wp2_with (at_builtin; refine wpList_append_lies _ rfl _ _ 28 (by rfl) _ 3 _ _ 1 8 Tryz.underlying28 ji jz0 jz1 jz2 rfl (by decide) _ q _ (by rfl) (World.ownsRow.alloc hown3.out _) ⟨wr.heap.size,0,none⟩ 1 1 [.int .i64 c] (by rfl) rfl (cell_one_newN _ _ _ _ (by simp)) (by simp [Value.oneCell']) (by decide) (by unfold maxLen; omega) (by omega) (by skip; simp; omega) (wr.heap.size+1) (by simp) ?_; intro gA capA wA hownA hgrowA hatA hltA)
          have hgA:=((hgi.out.fr ((Fr.refl wr).alloc (.cells #[.int .i64 c] 3))).fx (Fx.of_grown hgrowA) (fun k hk e=>by have h1:=(hown3.out.lt k e).1; have h2:=hbl0.out k ((hsmY.out.1 k).1 hk); omega))
          have hfA:=(hfw.alloc (.cells #[.int .i64 c] 3)).grownE hgrowA (fun k e=>(hown3.out.lt k e).1)
          go_roundg (ko - 1)
          case measure=>omega
          case rel=>
           have h3:=hs3e.out
           subst h3
           refine ⟨c+1,q+1,_,hsY,by go_num,by omega,hs2.out,by show _=sv p; rfl,by show _=Value.bool oX; rfl, ?_, ?_,hgA, ?_, ?_,hsmY.out,hfA⟩
           ·show q+1=_
            rw [List.length_append,hq.out]; rfl
           ·show World.ownsRow _ _ _ _ _ _ _
            rw [List.map_append]; exact hownA
           ·exact clrZ_rect hRX.out hqX _
           ·show _=_
            rw [clrZ_len]; exact hLX
     ·have dj:decide ((j:Int) < (L:Int))=false:=decide_eq_false (by omega)
      obtain rfl:j=L:=by omega
      have hel:((j:Int) == (j:Int))=true:=by simp
      have hs2e:=stepZ_end hst.out (by rw [hlen.out,← hq.out]; exact hqL) (by rw [← hq.out,← hA.out,hlen.out]; omega)
      have hs2:=hs2.out
      rw [hs2e] at hs2
      replace hs2:=hZ hs2
      replace hs2e:=hZ hs2e
      go_wp2_with fail
      go_roundg (ko - 1)
      case measure=>omega
      case rel=>exact ⟨c+1,q,sc,hsX,by go_num,by omega,hs2.out,rfl,rfl,hq.out,hown.out,hgr.out,hrr.out,hlen.out,hsm.out,hfx⟩
   ·have dqL:decide (q < L)=false:=decide_eq_false hqL
    have hfin:=elZ_stay hsc.out (by rw [hlen.out,← hq.out]; exact hqL) (nc - c)
    rw [show c+(nc - c)=nc by omega,hz1.out] at hfin
    injection hfin with hfin
    obtain ⟨a9,c9,hv9,hel9⟩:=own_readI (show wr.ownsRow w.heap.size 3 1 (.slice a7 q c7) q ((sc.piv.map fun k:Nat=>(k:Int)).map iv) by rw [List.map_map]; exact hown.out)
    injection hv9 with hv1 hv2 hv3
    subst hv1; subst hv3
    replace hfin:=hZ hfin
    go_wp2_with fail
    go_ret3
    rw [hfin.out]
    exact ⟨a7,c7,hsX,by rw [← hq.out]; rfl,hel9,hgr.out,hrr.out,hlen.out,hsm.out,hfx⟩
  ·have dcn:decide (c < nc)=false:=decide_eq_false hcn
   obtain rfl:c=nc:=by omega
   have hfin:s=sc:=by have:=hsc.out; rw [hz1.out] at this; injection this
   obtain ⟨a9,c9,hv9,hel9⟩:=own_readI (show wr.ownsRow w.heap.size 3 1 (.slice a7 q c7) q ((sc.piv.map fun k:Nat=>(k:Int)).map iv) by rw [List.map_map]; exact hown.out)
   injection hv9 with hv1 hv2 hv3
   subst hv1; subst hv3
   replace hfin:=hZ hfin
   go_wp2_with fail
   go_ret3
   rw [hfin.out]
   exact ⟨a7,c7,hsX,by rw [← hq.out]; rfl,hel9,hgr.out,hrr.out,hlen.out,hsm.out,hfx⟩
end Go.Proofs.YtkjemicelmabdaaGreatDoor
