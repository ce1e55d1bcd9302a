/- Contracts and laws: CAI. -/
import Derived.Test.YtiniigadkknboaaGreatDoorCAH
import Derived.Test.YtiniigadkknboaaGreatDoorCAB
import Derived.Test.YtiniigadkknboaaGreatDoorCAG
import Derived.Test.YtiniigadkknboaaGreatDoorCAD
import Derived.Test.YtiniigadkknboaaGreatDoorCAC

set_option maxRecDepth 100000
set_option maxHeartbeats 2000000
namespace Go.Proofs.YtiniigadkknboaaGreatDoor
open Go.RowKit Go.Lib

attribute [local go_sem ↓] Go.wp_at_zero Go.wp_at_succ
theorem cell_twoQ (w:World) (x y:Value) (t:TypeId) (n:Nat) (hn:w.heap.size=n):∀ (j:Nat) (u:Value),[x,y][j]?=some u→(w.alloc (.cells #[x,y] t)).cell? ((⟨n,0,none⟩:Addr).add j)=some u:=fun j u hu=>by
 subst hn
 match j,hu with
 | 0,hu=>simp at hu; subst hu; exact (new2a w x y t).1
 | 1,hu=>simp at hu; subst hu; exact (new2b w x y t).1
 | j+2,hu=>simp at hu

theorem OfR_any (n:Int) (h0:-9223372036854775808≤n) (h1:n≤9223372036854775807) (w:World) (hG:G w) :
 Calls Tryz.prog 81 #[.int .i64 n] w fun e w'=>e=.returned (.string (tx n))∧Fr w w':=by
 go_enter Tryz.func81,Tryz.ntmps81
 go_wp2_with (go_at_call 127; refine (itoa_any _ h0 h1 _ hG).mono ?_; rintro e w' ⟨rfl,hf⟩)
 go_ret
 exact ⟨rfl,hf⟩
theorem R2digits (n:Int) (w:World) (hs:(tx n).size≤1000000000) :
 Calls Tryz.prog 120 #[.string (tx n)] w fun e w'=>e=.returned (.string (tx (n.natAbs:Int)))∧w=w':=by
 have h1:=tx_pos n
 by_cases hn:n < 0
 ·have h2:=tx_head_ng hn h1
  have h3:=hZ (show (tx n).extract 1 (tx n).size=tx (n.natAbs:Int) by rw [tx_tail hn]; congr 1; omega)
  generalize tx n=s at *
  go_enter Tryz.func120,Tryz.ntmps120
  go_wp2
  go_ret
  exact ⟨by rw [h3.out]; rfl,rfl⟩
 ·have h2:=tx_head_nn (by omega) h1
  have h3:=hZ (show tx n=tx (n.natAbs:Int) by congr 1; omega)
  generalize tx n=s at *
  go_enter Tryz.func120,Tryz.ntmps120
  go_wp2
  go_ret
  exact ⟨ret_str h3.out,rfl⟩
theorem R2Sign (n:Int) (w:World) :
 Calls Tryz.prog 160 #[.string (tx n)] w fun e w'=>e=.returned (.int .i64 n.sign)∧w=w':=by
 have hp:=tx_pos n
 have hb:=tx_beq0 n
 rcases Int.lt_trichotomy n 0 with h | h | h
 ·have h2:=tx_head_ng h hp
  rw [decide_eq_false (by omega)] at hb
  have hs:=hZ (Int.sign_eq_neg_one_of_neg h); clear h
  go_enter Tryz.func160,Tryz.ntmps160
  go_wp2
  go_ret
  exact ⟨by rw [hs.out]; rfl,rfl⟩
 ·rw [decide_eq_true h] at hb
  have hs:=hZ h; clear h
  go_enter Tryz.func160,Tryz.ntmps160
  go_wp2
  go_ret
  exact ⟨by rw [hs.out]; rfl,rfl⟩
 ·have h2:=tx_head_nn (Int.le_of_lt h) hp
  rw [decide_eq_false (by omega)] at hb
  have hs:=hZ (Int.sign_eq_one_of_pos h); clear h
  go_enter Tryz.func160,Tryz.ntmps160
  go_wp2
  go_ret
  exact ⟨by rw [hs.out]; rfl,rfl⟩
theorem digVal_le (l m:List UInt8) (a:Nat) (hm:∀ c ∈ m,48≤c.toNat∧c.toNat≤57):digVal a l≤digVal a (l ++ m):=by
 rw [digVal_append]
 have:=(digVal_bound m (digVal a l) hm).1
 have h2:=Nat.pow_pos (n:=m.length) (show 0 < 10 by decide)
 exact Nat.le_trans (Nat.le_mul_of_pos_right _ h2) this
theorem ba_at (l:List UInt8) (i:Nat) (h:i < (⟨l.toArray⟩:ByteArray).size) (h2:i < l.length):(⟨l.toArray⟩:ByteArray)[i]'h=l[i]'h2:=rfl
theorem tx_at (n:Int) (i:Nat) (hs:i < (tx n).size) (h2:i < (itoa n).length):(tx n)[i]'hs=(itoa n)[i]'h2:=ba_at (itoa n) i hs h2
theorem digVal_one (c:UInt8) (a:Nat):digVal a [c]=10 * a+(c.toNat - 48):=by
 show a * 10+(c.toNat - 48)=_
 omega
theorem tx_digit {n:Int} {off i:Nat} (ho:off=if n < 0 then 1 else 0) (hi:off≤i) (hs:i < (tx n).size):∃ c:UInt8,(tx n)[i]'hs=c∧48≤c.toNat∧c.toNat≤57∧digVal 0 ((decDigits n.natAbs).take (i+1 - off))=10 * digVal 0 ((decDigits n.natAbs).take (i - off))+(c.toNat - 48):=by
 refine ⟨_,rfl, ?_⟩
 have hl:i < (itoa n).length:=by rw [← tx_size]; exact hs
 rw [tx_at n i hs hl]
 have hd:∃ h:i - off < (decDigits n.natAbs).length,(itoa n)[i]'hl=(decDigits n.natAbs)[i - off]'h:=by
  by_cases hn:n < 0
  ·rw [if_pos hn] at ho
   subst ho
   have e2:=itoa_ng hn
   refine ⟨by rw [e2] at hl; simp at hl; omega, ?_⟩
   obtain ⟨j,rfl⟩:∃ j,i=j+1:=⟨i - 1,by omega⟩
   simp only [e2,List.getElem_cons_succ,Nat.add_sub_cancel]
  ·rw [if_neg hn] at ho
   subst ho
   have e2:=itoa_nn (n:=n) (by omega)
   have e3:n.toNat=n.natAbs:=by omega
   rw [e3] at e2
   refine ⟨by rw [e2] at hl; simpa using hl, ?_⟩
   simp only [e2,Nat.sub_zero]
 obtain ⟨h1,h2⟩:=hd
 rw [h2]
 have h3:=dec_digits n.natAbs _ (List.getElem_mem h1)
 have h4:(decDigits n.natAbs).take (i+1 - off)=(decDigits n.natAbs).take (i - off) ++ [(decDigits n.natAbs)[i - off]'h1]:=by
  rw [show i+1 - off=(i - off)+1 by omega]; exact List.take_succ_eq_append_getElem h1
 rw [h4,digVal_append]
 clear h4 h2
 generalize (decDigits n.natAbs)[i - off]'h1=c at *
 generalize (decDigits n.natAbs).take (i - off)=l at *
 exact ⟨h3.1,h3.2,digVal_one c (digVal 0 l)⟩
theorem min_quo (d:Int) (h1:48≤d) (h2:d≤57):(-9223372036854775808+(d - 48)).tdiv 10≤-900000000000000000:=by
 rw [show -9223372036854775808+(d - 48)=-(9223372036854775808 - (d - 48)) by omega,Int.neg_tdiv,Int.tdiv_eq_ediv_of_nonneg (by omega)]; omega
theorem ret_ib {a b:Int} {c:Value} (h:a=b):Ending.returned (.tuple #[.int .i64 a,c])=Ending.returned (.tuple #[.int .i64 b,c]):=by rw [h]
theorem abs_size (k:Nat) {a:Int} (hk:1≤k) (h:a.natAbs < 10 ^ k):(tx (a.natAbs:Int)).size≤k:=by
 rw [tx_size_nat]; exact nDigits_le k _ hk h
def S18 (n:Int):Prop:=-1000000000000000000 < n∧n < 1000000000000000000
theorem S18.size {n:Int} (h:S18 n):(tx n).size≤19:=tx_size_le 18 n (by decide) (by obtain ⟨h1,h2⟩:=h; show _ < 1000000000000000000; omega)
theorem R2Small18 (n:Int) (hn:S18 n) (w:World) :
 Calls Tryz.prog 158 #[.string (tx n)] w fun e w'=>e=.returned (.tuple #[.int .i64 n,.bool true])∧w=w':=by
 obtain ⟨hn1,hn2⟩:=hn
 have hp:=tx_pos n
 have hsz:(tx n).size≤19:=tx_size_le 18 n (by omega) (by omega)
 obtain ⟨off,ho⟩:∃ off:Nat,off=if n < 0 then 1 else 0:=⟨_,rfl⟩
 have hlen:(tx n).size=(decDigits n.natAbs).length+off:=by
  rw [tx_size]
  by_cases h:n < 0
  ·rw [ho,if_pos h,itoa_ng h]; rfl
  ·rw [ho,if_neg h,itoa_nn (by omega),show n.toNat=n.natAbs by omega]; rfl
 have hdp:0 < (decDigits n.natAbs).length:=List.length_pos_iff.2 (dec_ne _)
 have hat:=fun i (h1:off≤i) (h2:i < (tx n).size)=>tx_digit ho h1 h2
 have hle:∀ j,digVal 0 ((decDigits n.natAbs).take j)≤n.natAbs:=fun j=>by
  have:=digVal_le ((decDigits n.natAbs).take j) ((decDigits n.natAbs).drop j) 0 (fun c hc=>dec_digits _ c (List.mem_of_mem_drop hc))
  rw [List.take_append_drop,digVal_dec] at this
  exact this
 have hall:∀ i,i=(tx n).size→digVal 0 ((decDigits n.natAbs).take (i - off))=n.natAbs:=fun i hi=>by
  rw [List.take_of_length_le (by omega),digVal_dec]
 have hz:digVal 0 ((decDigits n.natAbs).take (off - off))=0:=by rw [Nat.sub_self]; rfl
 have hneg:((((tx n)[0]'hp).toNat:Int) == 45)=decide (n < 0):=by
  by_cases h:n < 0
  ·rw [tx_head_ng h hp,decide_eq_true h]
  ·rw [tx_head_nn (by omega) hp,decide_eq_false h]
 obtain ⟨V,hV⟩:∃ V:Nat→Nat,∀ i,digVal 0 ((decDigits n.natAbs).take (i - off))=V i:=⟨_,fun i=>rfl⟩
 simp only [hV] at hat hall hz
 have hle2:∀ i,V i≤n.natAbs:=fun i=>by rw [← hV]; exact hle _
 have hoff:off < (tx n).size:=by omega
 have hho:(n < 0→off=1)∧(¬ n < 0→off=0):=⟨fun h=>by rw [ho,if_pos h],fun h=>by rw [ho,if_neg h]⟩
 have hlo:=hle2 0
 clear hle hV hlen hdp ho hlo
 generalize tx n=t at *
 obtain ⟨s,hs⟩:∃ s,s=t.size:=⟨_,rfl⟩
 replace hall:=hZ hall
 replace hle2:=hZ hle2
 replace hat:=hZ hat
 by_cases h:n < 0
 ·
  obtain rfl:off=1:=by first | exact hho.1 h | exact hho.2 h
  have hng:=hZ h
  first | rw [decide_eq_true h] at hneg | rw [decide_eq_false h] at hneg
  clear h hho
  go_enter Tryz.func158,Tryz.ntmps158
  have z0:decide ((0:Int) < (t.size:Int))=true:=decide_eq_true (by omega)
  have z1:((1:Int) == (t.size:Int))=false:=beq_false_of_ne (by omega)
  go_wp2_with fail
  go_loopg [5,7] (s - 1) (fun k s5 s7 wr=>∃ i:Nat,s5=.int .i64 i∧s7=.int .i64 (-(V i:Int))∧1≤i∧i+k=s∧w=wr)
  case atStart=>exact ⟨1,by go_num,by rw [hz]; go_num,by omega,by omega,rfl⟩
  case round=>
   obtain ⟨i,rfl,rfl,hoi,hik,rfl⟩:=hrel
   by_cases hi:i < s
   ·have hdI:decide ((i:Int) < (t.size:Int))=true:=decide_eq_true (by omega)
    obtain ⟨c,hc,c1,c2,hV⟩:=hat.out i hoi (by omega)
    have hle:=hle2.out i
    have hle9:=hle2.out (i+1)
    have y1:(i:Int) < (t.size:Int):=by omega
    have y2:(0:Int)≤(i:Int):=by omega
    have hq:=min_quo c.toNat (by omega) (by omega)
    go_wp2_with fail
    all_goals first
     | (exfalso; omega)
     | (go_roundg (gk - 1)
        case measure=>omega
        case rel=>exact ⟨i+1,by go_num,by show Value.int _ _=Value.int _ _; rw [show -(V i:Int) * 10 - ((c.toNat:Int) - 48)=-(V (i+1):Int) by omega],by omega,by omega,rfl⟩)
   ·have hdI:decide ((i:Int) < (t.size:Int))=false:=decide_eq_false (by omega)
    have hV:=hall.out i (by omega)
    have hng2:=hng.out
    have hfin:=hZ (show (if n < 0 then -(V i:Int) else (V i:Int))=n by split <;> omega)
    have hmin:(-(V i:Int) == -9223372036854775808)=false:=beq_false_of_ne (by omega)
    clear hfin
    go_wp2_with fail
    go_ret2
    refine ⟨ret_ib ?_,rfl⟩
    omega
 ·
  obtain rfl:off=0:=by first | exact hho.1 h | exact hho.2 h
  have hng:=hZ h
  first | rw [decide_eq_true h] at hneg | rw [decide_eq_false h] at hneg
  clear h hho
  go_enter Tryz.func158,Tryz.ntmps158
  have z0:decide ((0:Int) < (t.size:Int))=true:=decide_eq_true (by omega)
  have z1:((0:Int) == (t.size:Int))=false:=beq_false_of_ne (by omega)
  go_wp2_with fail
  go_loopg [5,7] (s - 0) (fun k s5 s7 wr=>∃ i:Nat,s5=.int .i64 i∧s7=.int .i64 (-(V i:Int))∧0≤i∧i+k=s∧w=wr)
  case atStart=>exact ⟨0,by go_num,by rw [hz]; go_num,by omega,by omega,rfl⟩
  case round=>
   obtain ⟨i,rfl,rfl,hoi,hik,rfl⟩:=hrel
   by_cases hi:i < s
   ·have hdI:decide ((i:Int) < (t.size:Int))=true:=decide_eq_true (by omega)
    obtain ⟨c,hc,c1,c2,hV⟩:=hat.out i hoi (by omega)
    have hle:=hle2.out i
    have hle9:=hle2.out (i+1)
    have y1:(i:Int) < (t.size:Int):=by omega
    have y2:(0:Int)≤(i:Int):=by omega
    have hq:=min_quo c.toNat (by omega) (by omega)
    go_wp2_with fail
    all_goals first
     | (exfalso; omega)
     | (go_roundg (gk - 1)
        case measure=>omega
        case rel=>exact ⟨i+1,by go_num,by show Value.int _ _=Value.int _ _; rw [show -(V i:Int) * 10 - ((c.toNat:Int) - 48)=-(V (i+1):Int) by omega],by omega,by omega,rfl⟩)
   ·have hdI:decide ((i:Int) < (t.size:Int))=false:=decide_eq_false (by omega)
    have hV:=hall.out i (by omega)
    have hng2:=hng.out
    have hfin:=hZ (show (if n < 0 then -(V i:Int) else (V i:Int))=n by split <;> omega)
    have hmin:(-(V i:Int) == -9223372036854775808)=false:=beq_false_of_ne (by omega)
    clear hfin
    go_wp2_with fail
    go_ret2
    refine ⟨ret_ib ?_,rfl⟩
    omega
theorem R2quick18 (n:Int) (hn:S18 n) (w:World) :
 Calls Tryz.prog 118 #[.string (tx n)] w fun e w'=>e=.returned (.tuple #[.int .i64 n,.bool true])∧w=w':=by
 have hs:=hn.size
 have h2:(tx (n.natAbs:Int)).size≤18:=abs_size 18 (by decide) (by obtain ⟨h1,h2⟩:=hn; show _ < 1000000000000000000; omega)
 have hd:=hZ (fun W=>R2digits n W (by omega))
 have hm:=hZ (fun W=>R2Small18 n hn W)
 generalize tx (n.natAbs:Int)=u at *
 have d0:decide ((18:Int) < (u.size:Int))=false:=decide_eq_false (by omega)
 go_enter Tryz.func118,Tryz.ntmps118
 go_wp2_with fail
 refine (hd.out _).mono ?_
 rintro e w1 ⟨rfl,rfl⟩
 go_wp2_with fail
 refine (hm.out _).mono ?_
 rintro e w2 ⟨rfl,rfl⟩
 go_wp2_with fail
 go_ret2
 exact ⟨rfl,rfl⟩
theorem R2Add18 (a b:Int) (ha:S18 a) (hb:S18 b) (w:World) (hG:G w) :
 Calls Tryz.prog 79 #[.string (tx a),.string (tx b)] w fun e w'=>e=.returned (.string (tx (a+b)))∧Fr w w':=by
 have q1:=hZ (fun W=>R2quick18 a ha W)
 have q2:=hZ (fun W=>R2quick18 b hb W)
 obtain ⟨a1,a2⟩:=ha
 obtain ⟨b1,b2⟩:=hb
 go_enter Tryz.func79,Tryz.ntmps79
 go_wp2_with fail
 refine (q1.out _).mono ?_; rintro e w1 ⟨rfl,rfl⟩
 go_wp2_with fail
 refine (q2.out _).mono ?_; rintro e w2 ⟨rfl,rfl⟩
 go_wp2_with fail
 refine (OfR_any _ (by omega) (by omega) _ hG).mono ?_; rintro e w3 ⟨rfl,hf3⟩
 go_wp2_with fail
 go_ret
 exact ⟨rfl,hf3⟩
theorem R2Mul18 (a b:Int) (ha:S18 a) (hb:S18 b) (hs:(tx (a.natAbs:Int)).size+(tx (b.natAbs:Int)).size≤18) (h0:-9223372036854775808≤a * b) (h1:a * b≤9223372036854775807) (w:World) (hG:G w) :
 Calls Tryz.prog 80 #[.string (tx a),.string (tx b)] w fun e w'=>e=.returned (.string (tx (a * b)))∧Fr w w':=by
 have q1:=hZ (fun W=>R2quick18 a ha W)
 have q2:=hZ (fun W=>R2quick18 b hb W)
 have s1:=ha.size
 have s2:=hb.size
 have e1:=hZ (fun W=>R2digits a W (by omega))
 have e2:=hZ (fun W=>R2digits b W (by omega))
 have hof:=hZ (fun W (hW:G W)=>OfR_any (a * b) h0 h1 W hW)
 obtain ⟨a1,a2⟩:=ha
 obtain ⟨b1,b2⟩:=hb
 generalize tx (a.natAbs:Int)=u at *
 generalize tx (b.natAbs:Int)=v at *
 have d0:decide ((u.size:Int)+(v.size:Int)≤18)=true:=decide_eq_true (by omega)
 go_enter Tryz.func80,Tryz.ntmps80
 go_wp2_with fail
 refine (e1.out _).mono ?_; rintro e w1 ⟨rfl,rfl⟩
 go_wp2_with fail
 refine (e2.out _).mono ?_; rintro e w1 ⟨rfl,rfl⟩
 go_wp2_with fail
 refine (q1.out _).mono ?_; rintro e w1 ⟨rfl,rfl⟩
 go_wp2_with fail
 refine (q2.out _).mono ?_; rintro e w2 ⟨rfl,rfl⟩
 go_wp2_with fail
 refine (hof.out _ hG).mono ?_; rintro e w3 ⟨rfl,hf3⟩
 go_wp2_with fail
 go_ret
 exact ⟨rfl,hf3⟩
end Go.Proofs.YtiniigadkknboaaGreatDoor
