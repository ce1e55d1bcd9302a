/- Contracts and laws: UEl. -/
import Derived.Test.YtkjemicelmabdaaGreatDoorUChk
import Derived.Test.YtkjemicelmabdaaGreatDoorUD
import Derived.Test.YtkjemicelmabdaaGreatDoorUE
import Derived.Deep.CutRange

set_option maxRecDepth 100000
set_option maxHeartbeats 16000000
namespace Go.Proofs.YtkjemicelmabdaaGreatDoor
open Go.RowKit Go.Lib
attribute [local go_sem ↓] AQ AR
theorem G2 (n:Int) (w:World) (hs:(tx n).size≤1000000000) :
 Calls Tryz.prog 132 #[.string (tx n)] w fun e w'=>e=.returned (.string (tx (n.natAbs:Int)))∧w=w':=by
 have h1:=HI n
 by_cases hn:n < 0
 ·have h2:=FZ hn h1
  have h3:=hZ (show (tx n).extract 1 (tx n).size=tx (n.natAbs:Int) by rw [Jk hn]; congr 1; omega)
  generalize tx n=s at *
  go_enter Tryz.func132,Tryz.ntmps132
  go_wp2
  go_ret
  exact ⟨by rw [h3.out]; rfl,rfl⟩
 ·have h2:=FY (by omega) h1
  have h3:=hZ (show tx n=tx (n.natAbs:Int) by congr 1; omega)
  generalize tx n=s at *
  go_enter Tryz.func132,Tryz.ntmps132
  go_wp2
  go_ret
  exact ⟨Wd h3.out,rfl⟩
theorem Rf (n:Int) (w:World) :
 Calls Tryz.prog 96 #[.string (tx n)] w fun e w'=>e=.returned (.int .i64 n.sign)∧w=w':=by
 have hp:=HI n
 have hb:=DE n
 rcases B8 n 0 with h | h | h
 ·have h2:=FZ h hp
  rw [Ab (by omega)] at hb
  have hs:=hZ (Int.sign_eq_neg_one_of_neg h); clear h
  go_enter Tryz.func96,Tryz.ntmps96
  go_wp2
  go_ret
  exact ⟨by rw [hs.out]; rfl,rfl⟩
 ·rw [Ad h] at hb
  have hs:=hZ h; clear h
  go_enter Tryz.func96,Tryz.ntmps96
  go_wp2
  go_ret
  exact ⟨by rw [hs.out]; rfl,rfl⟩
 ·have h2:=FY (ZJ h) hp
  rw [Ab (by omega)] at hb
  have hs:=hZ (Int.sign_eq_one_of_pos h); clear h
  go_enter Tryz.func96,Tryz.ntmps96
  go_wp2
  go_ret
  exact ⟨by rw [hs.out]; rfl,rfl⟩
theorem V1 (n:Int):decide (n.sign < 0)=decide (n < 0):=by
 rcases B8 n 0 with h | h | h
 ·rw [Int.sign_eq_neg_one_of_neg h,Ad h]; rfl
 ·subst h; rfl
 ·rw [Int.sign_eq_one_of_pos h,Ab (by omega:¬ n < 0)]; rfl
theorem V2 (n:Int):(n.sign == 0)=decide (n=0):=by
 rcases B8 n 0 with h | h | h
 ·rw [Int.sign_eq_neg_one_of_neg h,Ab (by omega:¬ n=0)]; rfl
 ·subst h; rfl
 ·rw [Int.sign_eq_one_of_pos h,Ab (by omega:¬ n=0)]; rfl
theorem Se (n:Int) (w:World) (hs:(tx n).size≤1000000000) :
 Calls Tryz.prog 97 #[.string (tx n)] w fun e w'=>e=.returned (.string (tx (-n)))∧w=w':=by
 have hp:=HI n
 have hsg:=fun W=>Rf n W
 have e1:=V1 n
 have e2:=V2 n
 rcases B8 n 0 with h | h | h
 ·have h3:=hZ (Jk h)
  rw [Ad h] at e1
  clear e2 h
  generalize n.sign=s at *
  generalize tx n=t at *
  replace hsg:=hZ hsg
  go_enter Tryz.func97,Tryz.ntmps97
  go_wp2_with (go_at_call 96; refine (hsg.out _).mono ?_; rintro e w1 ⟨rfl,rfl⟩)
  go_ret
  exact ⟨by rw [h3.out]; rfl,rfl⟩
 ·have h3:=hZ (show tx n=tx (-n) by rw [h]; rfl)
  rw [Ab (by omega:¬ n < 0)] at e1
  rw [Ad h] at e2
  clear h
  generalize n.sign=s at *
  generalize tx n=t at *
  replace hsg:=hZ hsg
  go_enter Tryz.func97,Tryz.ntmps97
  go_wp2_with (go_at_call 96; refine (hsg.out _).mono ?_; rintro e w1 ⟨rfl,rfl⟩)
  go_ret
  exact ⟨by rw [h3.out]; rfl,rfl⟩
 ·have h3:=hZ (NV h)
  rw [Ab (by omega:¬ n < 0)] at e1
  rw [Ab (by omega:¬ n=0)] at e2
  clear h
  generalize n.sign=s at *
  generalize tx n=t at *
  replace hsg:=hZ hsg
  go_enter Tryz.func97,Tryz.ntmps97
  go_wp2_with (go_at_call 96; refine (hsg.out _).mono ?_; rintro e w1 ⟨rfl,rfl⟩)
  go_ret
  exact ⟨by rw [h3.out]; rfl,rfl⟩
theorem NC (l m:List UInt8) (a:Nat) (hm:∀ c ∈ m,48≤c.toNat∧c.toNat≤57):A8 a l≤A8 a (l ++ m):=by
 rw [D0]
 have:=(C3 m (A8 a l) hm).1
 have h2:=VR (n:=m.length) (show 0 < 10 by decide)
 exact Aw (Ze _ h2) this
theorem Xt (l:List UInt8) (i:Nat) (h:i < (⟨l.toArray⟩:ByteArray).size) (h2:i < l.length):(⟨l.toArray⟩:ByteArray)[i]'h=l[i]'h2:=rfl
theorem YC (n:Int) (i:Nat) (hs:i < (tx n).size) (h2:i < (itoa n).length):(tx n)[i]'hs=(itoa n)[i]'h2:=Xt (itoa n) i hs h2
theorem L9 (c:UInt8) (a:Nat):A8 a [c]=10 * a+(c.toNat - 48):=by
 show a * 10+(c.toNat - 48)=_
 omega
theorem TV {n:Int} {off i:Nat} (ho:off=if n < 0 then 1 else 0) (hi:off≤i) (hs:i < (tx n).size):∃ c:UInt8,(tx n)[i]'hs=c∧48≤c.toNat∧c.toNat≤57∧A8 0 ((decDigits n.natAbs).take (i+1 - off))=10 * A8 0 ((decDigits n.natAbs).take (i - off))+(c.toNat - 48):=by
 refine ⟨_,rfl, ?_⟩
 have hl:i < (itoa n).length:=by rw [← DM]; exact hs
 rw [YC n i hs hl]
 have hd:∃ h:i - off < (decDigits n.natAbs).length,(itoa n)[i]'hl=(decDigits n.natAbs)[i - off]'h:=by
  by_cases hn:n < 0
  ·rw [Ak hn] at ho
   subst ho
   have e2:=FI hn
   refine ⟨by rw [e2] at hl; simp at hl; omega, ?_⟩
   obtain ⟨j,rfl⟩:∃ j,i=j+1:=⟨i - 1,by omega⟩
   simp only [e2,List.getElem_cons_succ,Nat.add_sub_cancel]
  ·rw [Aj hn] at ho
   subst ho
   have e2:=Ca (n:=n) (by omega)
   have e3:n.toNat=n.natAbs:=by omega
   rw [e3] at e2
   refine ⟨by rw [e2] at hl; simpa using hl, ?_⟩
   simp only [e2,Nat.sub_zero]
 obtain ⟨h1,h2⟩:=hd
 rw [h2]
 have h3:=Cn n.natAbs _ (AK h1)
 have h4:(decDigits n.natAbs).take (i+1 - off)=(decDigits n.natAbs).take (i - off) ++ [(decDigits n.natAbs)[i - off]'h1]:=by
  rw [show i+1 - off=(i - off)+1 by omega]; exact Ea h1
 rw [h4,D0]
 clear h4 h2
 generalize (decDigits n.natAbs)[i - off]'h1=c at *
 generalize (decDigits n.natAbs).take (i - off)=l at *
 exact ⟨h3.1,h3.2,L9 c (A8 0 l)⟩
theorem RL (d:Int) (h1:48≤d) (h2:d≤57):(-9223372036854775808+(d - 48)).tdiv 10≤-900000000000000000:=by
 rw [show -9223372036854775808+(d - 48)=-(9223372036854775808 - (d - 48)) by omega,ZI,Fk (by omega)]; omega
theorem Un {a b:Int} {c:Value} (h:a=b):Ending.returned (.tuple #[.int .i64 a,c])=Ending.returned (.tuple #[.int .i64 b,c]):=by rw [h]
theorem Ml (k:Nat) {a:Int} (hk:1≤k) (h:a.natAbs < 10 ^ k):(tx (a.natAbs:Int)).size≤k:=by
 rw [Dq]; exact Eh k _ hk h
def Sa (n:Int):Prop:=-1000000000000000000 < n∧n < 1000000000000000000
theorem Sa.size {n:Int} (h:Sa n):(tx n).size≤19:=BE 18 n (by decide) (by obtain ⟨h1,h2⟩:=h; show _ < 1000000000000000000; omega)
theorem NN (n:Int) (hn:Sa n) (w:World) :
 Calls Tryz.prog 52 #[.string (tx n)] w fun e w'=>e=.returned (.tuple #[.int .i64 n,.bool true])∧w=w':=by
 obtain ⟨hn1,hn2⟩:=hn
 have hp:=HI n
 have hsz:(tx n).size≤19:=BE 18 n (by omega) (by omega)
 obtain ⟨off,ho⟩:∃ off:Nat,off=if n < 0 then 1 else 0:=⟨_,rfl⟩
 have hlen:(tx n).size=(decDigits n.natAbs).length+off:=by
  rw [DM]
  by_cases h:n < 0
  ·rw [ho,Ak h,FI h]; rfl
  ·rw [ho,Aj h,Ca (by omega),show n.toNat=n.natAbs by omega]; rfl
 have hdp:0 < (decDigits n.natAbs).length:=Cz.2 (HY _)
 have hat:=fun i (h1:off≤i) (h2:i < (tx n).size)=>TV ho h1 h2
 have hle:∀ j,A8 0 ((decDigits n.natAbs).take j)≤n.natAbs:=fun j=>by
  have:=NC ((decDigits n.natAbs).take j) ((decDigits n.natAbs).drop j) 0 (fun c hc=>Cn _ c (OD hc))
  rw [DU,Cm] at this
  exact this
 have hall:∀ i,i=(tx n).size→A8 0 ((decDigits n.natAbs).take (i - off))=n.natAbs:=fun i hi=>by
  rw [Ai (by omega),Cm]
 have hz:A8 0 ((decDigits n.natAbs).take (off - off))=0:=by rw [IC]; rfl
 have hneg:((((tx n)[0]'hp).toNat:Int) == 45)=decide (n < 0):=by
  by_cases h:n < 0
  ·rw [FZ h hp,Ad h]
  ·rw [FY (by omega) hp,Ab h]
 obtain ⟨V,hV⟩:∃ V:Nat→Nat,∀ i,A8 0 ((decDigits n.natAbs).take (i - off))=V i:=⟨_,fun i=>rfl⟩
 simp only [hV] at hat hall hz
 have hle2:∀ i,V i≤n.natAbs:=fun i=>by rw [← hV]; exact hle _
 have hoff:off < (tx n).size:=by omega
 have hho:(n < 0→off=1)∧(¬ n < 0→off=0):=⟨fun h=>by rw [ho,Ak h],fun h=>by rw [ho,Aj h]⟩
 have hlo:=hle2 0
 clear hle hV hlen hdp ho hlo
 generalize tx n=t at *
 obtain ⟨s,hs⟩:∃ s,s=t.size:=⟨_,rfl⟩
 replace hall:=hZ hall
 replace hle2:=hZ hle2
 replace hat:=hZ hat
 by_cases h:n < 0
 ·
  obtain rfl:off=1:=by first | exact hho.1 h | exact hho.2 h
  have hng:=hZ h
  first | rw [Ad h] at hneg | rw [Ab h] at hneg
  clear h hho
  go_enter Tryz.func52,Tryz.ntmps52
  have z0:decide ((0:Int) < (t.size:Int))=true:=Ad (by omega)
  have z1:((1:Int) == (t.size:Int))=false:=AF (by omega)
  go_wp2_with fail
  go_loopg [5,7] (s - 1) (fun k s5 s7 wr=>∃ i:Nat,s5=.int .i64 i∧s7=.int .i64 (-(V i:Int))∧1≤i∧i+k=s∧w=wr)
  case atStart=>exact ⟨1,by go_num,by rw [hz]; go_num,by omega,by omega,rfl⟩
  case round=>
   obtain ⟨i,rfl,rfl,hoi,hik,rfl⟩:=hrel
   by_cases hi:i < s
   ·have hdI:decide ((i:Int) < (t.size:Int))=true:=Ad (by omega)
    obtain ⟨c,hc,c1,c2,hV⟩:=hat.out i hoi (by omega)
    have hle:=hle2.out i
    have hle9:=hle2.out (i+1)
    have y1:(i:Int) < (t.size:Int):=by omega
    have y2:(0:Int)≤(i:Int):=by omega
    have hq:=RL c.toNat (by omega) (by omega)
    go_wp2_with fail
    all_goals first
     | (exfalso; omega)
     | (go_roundg (gk - 1)
        case measure=>omega
        case rel=>exact ⟨i+1,by go_num,by show Value.int _ _=Value.int _ _; rw [show -(V i:Int) * 10 - ((c.toNat:Int) - 48)=-(V (i+1):Int) by omega],by omega,by omega,rfl⟩)
   ·have hdI:decide ((i:Int) < (t.size:Int))=false:=Ab (by omega)
    have hV:=hall.out i (by omega)
    have hng2:=hng.out
    have hfin:=hZ (show (if n < 0 then -(V i:Int) else (V i:Int))=n by split <;> omega)
    have hmin:(-(V i:Int) == -9223372036854775808)=false:=AF (by omega)
    clear hfin
    go_wp2_with fail
    go_ret2
    refine ⟨Un ?_,rfl⟩
    omega
 ·
  obtain rfl:off=0:=by first | exact hho.1 h | exact hho.2 h
  have hng:=hZ h
  first | rw [Ad h] at hneg | rw [Ab h] at hneg
  clear h hho
  go_enter Tryz.func52,Tryz.ntmps52
  have z0:decide ((0:Int) < (t.size:Int))=true:=Ad (by omega)
  have z1:((0:Int) == (t.size:Int))=false:=AF (by omega)
  go_wp2_with fail
  go_loopg [5,7] (s - 0) (fun k s5 s7 wr=>∃ i:Nat,s5=.int .i64 i∧s7=.int .i64 (-(V i:Int))∧0≤i∧i+k=s∧w=wr)
  case atStart=>exact ⟨0,by go_num,by rw [hz]; go_num,by omega,by omega,rfl⟩
  case round=>
   obtain ⟨i,rfl,rfl,hoi,hik,rfl⟩:=hrel
   by_cases hi:i < s
   ·have hdI:decide ((i:Int) < (t.size:Int))=true:=Ad (by omega)
    obtain ⟨c,hc,c1,c2,hV⟩:=hat.out i hoi (by omega)
    have hle:=hle2.out i
    have hle9:=hle2.out (i+1)
    have y1:(i:Int) < (t.size:Int):=by omega
    have y2:(0:Int)≤(i:Int):=by omega
    have hq:=RL c.toNat (by omega) (by omega)
    go_wp2_with fail
    all_goals first
     | (exfalso; omega)
     | (go_roundg (gk - 1)
        case measure=>omega
        case rel=>exact ⟨i+1,by go_num,by show Value.int _ _=Value.int _ _; rw [show -(V i:Int) * 10 - ((c.toNat:Int) - 48)=-(V (i+1):Int) by omega],by omega,by omega,rfl⟩)
   ·have hdI:decide ((i:Int) < (t.size:Int))=false:=Ab (by omega)
    have hV:=hall.out i (by omega)
    have hng2:=hng.out
    have hfin:=hZ (show (if n < 0 then -(V i:Int) else (V i:Int))=n by split <;> omega)
    have hmin:(-(V i:Int) == -9223372036854775808)=false:=AF (by omega)
    clear hfin
    go_wp2_with fail
    go_ret2
    refine ⟨Un ?_,rfl⟩
    omega
theorem Sm.s18 {n:Int} (h:Sm n):Sa n:=⟨by have:=h.1; omega,by have:=h.2; omega⟩
theorem WZ (n:Int) (hn:Sm n) (w:World) :
 Calls Tryz.prog 52 #[.string (tx n)] w fun e w'=>e=.returned (.tuple #[.int .i64 n,.bool true])∧w=w':=NN n hn.s18 w
theorem Fe (n:Int) (hn:Sa n) (w:World) :
 Calls Tryz.prog 130 #[.string (tx n)] w fun e w'=>e=.returned (.tuple #[.int .i64 n,.bool true])∧w=w':=by
 have hs:=hn.size
 have h2:(tx (n.natAbs:Int)).size≤18:=Ml 18 (by decide) (by obtain ⟨h1,h2⟩:=hn; show _ < 1000000000000000000; omega)
 have hd:=hZ (fun W=>G2 n W (by omega))
 have hm:=hZ (fun W=>NN n hn W)
 generalize tx (n.natAbs:Int)=u at *
 have d0:decide ((18:Int) < (u.size:Int))=false:=Ab (by omega)
 go_enter Tryz.func130,Tryz.ntmps130
 go_wp2_with fail
 refine (hd.out _).mono ?_
 rintro e w1 ⟨rfl,rfl⟩
 go_wp2_with fail
 refine (hm.out _).mono ?_
 rintro e w2 ⟨rfl,rfl⟩
 go_wp2_with fail
 go_ret2
 exact ⟨rfl,rfl⟩
theorem Yl (n:Int) (_h0:-9223372036854775808≤n) (_h1:n≤9223372036854775807) (w:World) :
 Calls Tryz.prog 53 #[.int .i64 n] w fun e w'=>e=.returned (.bool (Bk n))∧w=w':=by
 by_cases h2:n≤1000000000
 ·have d0:decide (n≤1000000000)=true:=Ad h2
  by_cases h3:-1000000000≤n
  ·have hf:=hZ (show Bk n=true from Ad ⟨h3,h2⟩)
   have d1:decide (-1000000000≤n)=true:=Ad h3
   go_enter Tryz.func53,Tryz.ntmps53
   go_wp2_with fail
   go_ret
   exact ⟨B6 hf.out.symm,rfl⟩
  ·have hf:=hZ (show Bk n=false from Ab (fun h=>h3 h.1))
   have d1:decide (-1000000000≤n)=false:=Ab h3
   go_enter Tryz.func53,Tryz.ntmps53
   go_wp2_with fail
   go_ret
   exact ⟨B6 hf.out.symm,rfl⟩
 ·have hf:=hZ (show Bk n=false from Ab (fun h=>h2 h.2))
  have d0:decide (n≤1000000000)=false:=Ab h2
  go_enter Tryz.func53,Tryz.ntmps53
  go_wp2_with fail
  go_ret
  exact ⟨B6 hf.out.symm,rfl⟩
theorem Sg (a b:Int) (ha:Sa a) (hb:Sa b) (w:World) (hG:G w) :
 Calls Tryz.prog 78 #[.string (tx a),.string (tx b)] w fun e w'=>e=.returned (.string (tx (a+b)))∧Fr w w':=by
 have q1:=hZ (fun W=>Fe a ha W)
 have q2:=hZ (fun W=>Fe b hb W)
 obtain ⟨a1,a2⟩:=ha
 obtain ⟨b1,b2⟩:=hb
 go_enter Tryz.func78,Tryz.ntmps78
 go_wp2_with fail
 refine (q1.out _).mono ?_; rintro e w1 ⟨rfl,rfl⟩
 go_wp2_with fail
 refine (q2.out _).mono ?_; rintro e w2 ⟨rfl,rfl⟩
 go_wp2_with fail
 refine (DQ _ (by omega) (by omega) _ hG).mono ?_; rintro e w3 ⟨rfl,hf3⟩
 go_wp2_with fail
 go_ret
 exact ⟨rfl,hf3⟩
theorem YY (a b:Int) (ha:Sm a) (hb:Sm b) (w:World) (hG:G w) :
 Calls Tryz.prog 78 #[.string (tx a),.string (tx b)] w fun e w'=>e=.returned (.string (tx (a+b)))∧Fr w w':=Sg a b ha.s18 hb.s18 w hG
theorem YW (a b:Int) (ha:Sm a) (hb:Sm b) (w:World) (hG:G w) :
 Calls Tryz.prog 140 #[.string (tx a),.string (tx b)] w fun e w'=>e=.returned (.string (tx (a - b)))∧Fr w w':=by
 have sb:=hb.size
 go_enter Tryz.func140,Tryz.ntmps140
 go_wp2_with fail
 refine (Se b _ (by omega)).mono ?_; rintro e w1 ⟨rfl,rfl⟩
 go_wp2_with fail
 refine (YY a (-b) ha (by obtain ⟨b1,b2⟩:=hb; exact ⟨by omega,by omega⟩) _ hG).mono ?_; rintro e w2 ⟨rfl,hf2⟩
 go_wp2_with fail
 go_ret
 exact ⟨by rw [Rr]; rfl,hf2⟩
theorem Sf (a b:Int) (ha:Sa a) (hb:Sa b) (hs:(tx (a.natAbs:Int)).size+(tx (b.natAbs:Int)).size≤18) (h0:-9223372036854775808≤a * b) (h1:a * b≤9223372036854775807) (w:World) (hG:G w) :
 Calls Tryz.prog 79 #[.string (tx a),.string (tx b)] w fun e w'=>e=.returned (.string (tx (a * b)))∧Fr w w':=by
 have q1:=hZ (fun W=>Fe a ha W)
 have q2:=hZ (fun W=>Fe b hb W)
 have s1:=ha.size
 have s2:=hb.size
 have e1:=hZ (fun W=>G2 a W (by omega))
 have e2:=hZ (fun W=>G2 b W (by omega))
 have hof:=hZ (fun W (hW:G W)=>DQ (a * b) h0 h1 W hW)
 obtain ⟨a1,a2⟩:=ha
 obtain ⟨b1,b2⟩:=hb
 generalize tx (a.natAbs:Int)=u at *
 generalize tx (b.natAbs:Int)=v at *
 have d0:decide ((u.size:Int)+(v.size:Int)≤18)=true:=Ad (by omega)
 go_enter Tryz.func79,Tryz.ntmps79
 go_wp2_with fail
 refine (e1.out _).mono ?_; rintro e w1 ⟨rfl,rfl⟩
 go_wp2_with fail
 refine (e2.out _).mono ?_; rintro e w1 ⟨rfl,rfl⟩
 go_wp2_with fail
 refine (q1.out _).mono ?_; rintro e w1 ⟨rfl,rfl⟩
 go_wp2_with fail
 refine (q2.out _).mono ?_; rintro e w2 ⟨rfl,rfl⟩
 go_wp2_with fail
 refine (hof.out _ hG).mono ?_; rintro e w3 ⟨rfl,hf3⟩
 go_wp2_with fail
 go_ret
 exact ⟨rfl,hf3⟩
theorem YX (a b:Int) (ha:Sm a) (hb:Sm b) (hs:(tx (a.natAbs:Int)).size+(tx (b.natAbs:Int)).size≤18) (h0:-9223372036854775808≤a * b) (h1:a * b≤9223372036854775807) (w:World) (hG:G w) :
 Calls Tryz.prog 79 #[.string (tx a),.string (tx b)] w fun e w'=>e=.returned (.string (tx (a * b)))∧Fr w w':=Sf a b ha.s18 hb.s18 hs h0 h1 w hG
theorem P6 (a b:Int) (ha:Ti a) (hb:Ti b) (w:World) (hG:G w) :
 Calls Tryz.prog 79 #[.string (tx a),.string (tx b)] w fun e w'=>e=.returned (.string (tx (a * b)))∧Fr w w':=by
 obtain ⟨m1,m2⟩:=I5 ha hb
 have s1:=Ml 8 (a:=a) (by decide) (by obtain ⟨h1,h2⟩:=ha; omega)
 have s2:=Ml 8 (a:=b) (by decide) (by obtain ⟨h1,h2⟩:=hb; omega)
 exact YX a b ha.sm hb.sm (by omega) (by omega) (by omega) w hG
theorem Mq (a b:Int) (ha:Sa a) (hb:Sa b) (h0:b≠0) (w:World) (hG:G w) :
 Calls Tryz.prog 80 #[.string (tx a),.string (tx b)] w fun e w'=>e=.returned (.tuple #[.string (tx (a.fdiv b)),.string (tx (a.fmod b))])∧Fr w w':=by
 have q1:=hZ (fun W=>Fe a ha W)
 have q2:=hZ (fun W=>Fe b hb W)
 obtain ⟨a1,a2⟩:=ha
 obtain ⟨b1,b2⟩:=hb
 have td:=Lp a b
 have tm:=GK a b h0
 have k1:IntKind.i64.wrap (a.tdiv b)=a.tdiv b:=AC _ (by omega)
 have k2:IntKind.i64.wrap (a.tmod b)=a.tmod b:=AC _ (by omega)
 by_cases hr0:a.tmod b=0
 ·have hfin:=hZ (show a.fdiv b=a.tdiv b∧a.fmod b=0 from by have:=EU a b h0 (.inl hr0); rw [hr0] at this; exact this)
  have c1:(a.tmod b != 0)=false:=by rw [hr0]; rfl
  have tm1:-1000000000000000000 < a.tmod b∧a.tmod b < 1000000000000000000:=by omega
  have td1:-1000000000000000000 < a.tdiv b∧a.tdiv b < 1000000000000000000:=by omega
  obtain ⟨tm1,tm2⟩:=tm1
  obtain ⟨td1,td2⟩:=td1
  clear td tm
  go_enter Tryz.func80,Tryz.ntmps80
  go_wp2_with fail
  refine (q1.out _).mono ?_; rintro e w1 ⟨rfl,rfl⟩
  go_wp2_with fail
  refine (q2.out _).mono ?_; rintro e w2 ⟨rfl,rfl⟩
  go_wp2_with fail
  go_quiet (fail)
  clear k1 k2
  go_wp2_with fail
  refine (DQ _ (by omega) (by omega) _ (hG.fr (by exact BM))).mono ?_; rintro e w3 ⟨rfl,hf3⟩
  go_wp2_with fail
  refine (DQ _ (by omega) (by omega) _ (hG.fr (by exact BM))).mono ?_; rintro e w4 ⟨rfl,hf4⟩
  go_wp2_with fail
  go_ret2
  exact ⟨by rw [hfin.out.1,hfin.out.2]; rfl,by exact BM⟩
 ·have c1:(a.tmod b != 0)=true:=by rw [BJ]; exact hr0
  by_cases hr:a.tmod b < 0 <;> by_cases hb:b < 0
  ·have hfin:=hZ (EU a b h0 (.inr (by simp [hr,hb])))
   have c2:(decide (a.tmod b < 0))=true:=Ad hr
   have c3:(decide (b < 0))=true:=Ad hb
   have tm1:-1000000000000000000 < a.tmod b:=by omega
   have tm2:a.tmod b < 1000000000000000000:=by omega
   have td1:-1000000000000000000 < a.tdiv b:=by omega
   have td2:a.tdiv b < 1000000000000000000:=by omega
   clear td tm hr0 hr hb
   go_enter Tryz.func80,Tryz.ntmps80
   go_wp2_with fail
   refine (q1.out _).mono ?_; rintro e w1 ⟨rfl,rfl⟩
   go_wp2_with fail
   refine (q2.out _).mono ?_; rintro e w2 ⟨rfl,rfl⟩
   go_wp2_with fail
   go_quiet (fail)
   clear k1 k2
   go_wp2_with fail
   refine (DQ _ (by omega) (by omega) _ (hG.fr (by exact BM))).mono ?_; rintro e w3 ⟨rfl,hf3⟩
   go_wp2_with fail
   refine (DQ _ (by omega) (by omega) _ (hG.fr (by exact BM))).mono ?_; rintro e w4 ⟨rfl,hf4⟩
   go_wp2_with fail
   go_ret2
   exact ⟨by rw [hfin.out.1,hfin.out.2]; rfl,by exact BM⟩
  ·have hfin:=hZ (GS a b h0 hr0 (by simp [hr,hb]))
   have c2:(decide (a.tmod b < 0))=true:=Ad hr
   have c3:(decide (b < 0))=false:=Ab hb
   have tm1:-1000000000000000000 < a.tmod b:=by omega
   have tm2:a.tmod b < 1000000000000000000:=by omega
   have td1:-1000000000000000000 < a.tdiv b:=by omega
   have td2:a.tdiv b < 1000000000000000000:=by omega
   clear td tm hr0 hr hb
   go_enter Tryz.func80,Tryz.ntmps80
   go_wp2_with fail
   refine (q1.out _).mono ?_; rintro e w1 ⟨rfl,rfl⟩
   go_wp2_with fail
   refine (q2.out _).mono ?_; rintro e w2 ⟨rfl,rfl⟩
   go_wp2_with fail
   go_quiet (fail)
   clear k1 k2
   go_wp2_with fail
   refine (DQ _ (by omega) (by omega) _ (hG.fr (by exact BM))).mono ?_; rintro e w3 ⟨rfl,hf3⟩
   go_wp2_with fail
   refine (DQ _ (by omega) (by omega) _ (hG.fr (by exact BM))).mono ?_; rintro e w4 ⟨rfl,hf4⟩
   go_wp2_with fail
   go_ret2
   exact ⟨by rw [hfin.out.1,hfin.out.2]; rfl,by exact BM⟩
  ·have hfin:=hZ (GS a b h0 hr0 (by simp [hr,hb]))
   have c2:(decide (a.tmod b < 0))=false:=Ab hr
   have c3:(decide (b < 0))=true:=Ad hb
   have tm1:-1000000000000000000 < a.tmod b:=by omega
   have tm2:a.tmod b < 1000000000000000000:=by omega
   have td1:-1000000000000000000 < a.tdiv b:=by omega
   have td2:a.tdiv b < 1000000000000000000:=by omega
   clear td tm hr0 hr hb
   go_enter Tryz.func80,Tryz.ntmps80
   go_wp2_with fail
   refine (q1.out _).mono ?_; rintro e w1 ⟨rfl,rfl⟩
   go_wp2_with fail
   refine (q2.out _).mono ?_; rintro e w2 ⟨rfl,rfl⟩
   go_wp2_with fail
   go_quiet (fail)
   clear k1 k2
   go_wp2_with fail
   refine (DQ _ (by omega) (by omega) _ (hG.fr (by exact BM))).mono ?_; rintro e w3 ⟨rfl,hf3⟩
   go_wp2_with fail
   refine (DQ _ (by omega) (by omega) _ (hG.fr (by exact BM))).mono ?_; rintro e w4 ⟨rfl,hf4⟩
   go_wp2_with fail
   go_ret2
   exact ⟨by rw [hfin.out.1,hfin.out.2]; rfl,by exact BM⟩
  ·have hfin:=hZ (EU a b h0 (.inr (by simp [hr,hb])))
   have c2:(decide (a.tmod b < 0))=false:=Ab hr
   have c3:(decide (b < 0))=false:=Ab hb
   have tm1:-1000000000000000000 < a.tmod b:=by omega
   have tm2:a.tmod b < 1000000000000000000:=by omega
   have td1:-1000000000000000000 < a.tdiv b:=by omega
   have td2:a.tdiv b < 1000000000000000000:=by omega
   clear td tm hr0 hr hb
   go_enter Tryz.func80,Tryz.ntmps80
   go_wp2_with fail
   refine (q1.out _).mono ?_; rintro e w1 ⟨rfl,rfl⟩
   go_wp2_with fail
   refine (q2.out _).mono ?_; rintro e w2 ⟨rfl,rfl⟩
   go_wp2_with fail
   go_quiet (fail)
   clear k1 k2
   go_wp2_with fail
   refine (DQ _ (by omega) (by omega) _ (hG.fr (by exact BM))).mono ?_; rintro e w3 ⟨rfl,hf3⟩
   go_wp2_with fail
   refine (DQ _ (by omega) (by omega) _ (hG.fr (by exact BM))).mono ?_; rintro e w4 ⟨rfl,hf4⟩
   go_wp2_with fail
   go_ret2
   exact ⟨by rw [hfin.out.1,hfin.out.2]; rfl,by exact BM⟩
theorem JX (a b:Int) (ha:Sm a) (hb:Sm b) (h0:b≠0) (w:World) (hG:G w) :
 Calls Tryz.prog 80 #[.string (tx a),.string (tx b)] w fun e w'=>e=.returned (.tuple #[.string (tx (a.fdiv b)),.string (tx (a.fmod b))])∧Fr w w':=Mq a b ha.s18 hb.s18 h0 w hG
theorem To (p x f y l:Int) (hp:Ti p) (hx:Ti x) (hf:Ti f) (hy:Ti y) (hl:Ti l) (h0:l≠0) (w:World) (hG:G w) :
 Calls Tryz.prog 180 #[.string (tx p),.string (tx x),.string (tx f),.string (tx y),.string (tx l)] w fun e w'=>e=.returned (.string (tx ((p * x - f * y).fdiv l)))∧Fr w w':=by
 obtain ⟨m1,m2⟩:=I5 hp hx
 obtain ⟨m3,m4⟩:=I5 hf hy
 have c1:=hZ (fun W (hW:G W)=>P6 p x hp hx W hW)
 have c2:=hZ (fun W (hW:G W)=>P6 f y hf hy W hW)
 have c3:=hZ (fun W (hW:G W)=>YW (p * x) (f * y) ⟨by omega,by omega⟩ ⟨by omega,by omega⟩ W hW)
 have c4:=hZ (fun W (hW:G W)=>JX (p * x - f * y) l ⟨by omega,by omega⟩ hl.sm h0 W hW)
 clear hp hx hf hy hl h0 m1 m2 m3 m4
 go_enter Tryz.func180,Tryz.ntmps180
 go_wp2_with fail
 refine (c1.out _ hG).mono ?_; rintro e w1 ⟨rfl,hf1⟩
 go_wp2_with fail
 refine (c2.out _ (hG.fr hf1)).mono ?_; rintro e w2 ⟨rfl,hf2⟩
 go_wp2_with fail
 refine (c3.out _ (hG.fr (hf1.trans hf2))).mono ?_; rintro e w3 ⟨rfl,hf3⟩
 go_wp2_with fail
 refine (c4.out _ (hG.fr ((hf1.trans hf2).trans hf3))).mono ?_; rintro e w4 ⟨rfl,hf4⟩
 go_wp2_with fail
 go_ret
 exact ⟨rfl,((hf1.trans hf2).trans hf3).trans hf4⟩
theorem PB {m:List (List Int)} {s:EZ}:∀ {n c:Nat},c≤n→FL m n=some s→∃ s1,FL m c=some s1
 | 0,c,h,hs=>by obtain rfl:c=0:=by omega
                exact ⟨s,hs⟩
 | n+1,c,h,hs=>by
   by_cases e:c=n+1
   ·subst e; exact ⟨s,hs⟩
   ·rw [FL] at hs
    obtain ⟨s1,h1,-⟩:=AZ.1 hs
    exact PB (by omega) h1
theorem PA {m:List (List Int)} {s:EZ} {c:Nat} (h:FL m c=some s) (hf:¬ s.piv.length < s.m.length):∀ k,FL m (c+k)=some s
 | 0=>h
 | k+1=>by rw [show c+(k+1)=(c+k)+1 by omega,FL,PA h hf k,AV,Ds,Aj hf]
theorem UZ {m:List (List Int)} {s sc:EZ} {n c:Nat} (hs:FL m n=some s) (hc:c < n) (h:FL m c=some sc):∃ s2,FL m (c+1)=some s2∧Ds c sc=some s2:=by
 obtain ⟨s2,h2⟩:=PB (c:=c+1) hc hs
 refine ⟨s2,h2, ?_⟩
 rw [FL,h,AV] at h2
 exact h2
theorem Su {c:Nat} {s s2:EZ} (h:Ds c s=some s2) (h1:s.piv.length < s.m.length) (h2:Eu s.m c s.piv.length=s.m.length):s2=s:=by
 unfold Ds at h
 rw [Ak h1,Ak h2] at h
 injection h with h; exact h.symm
theorem T9 {c:Nat} {s s2:EZ} (h:Ds c s=some s2) (h1:s.piv.length < s.m.length) (h2:Eu s.m c s.piv.length≠s.m.length):NW s.m=true∧Ti s.last∧s.last≠0 ∧
 s2=⟨DB (CE s.m s.piv.length (Eu s.m c s.piv.length)) (BD (CE s.m s.piv.length (Eu s.m c s.piv.length)) s.piv.length c) s.last s.piv.length c s.m.length,s.piv ++ [c],
     BD (CE s.m s.piv.length (Eu s.m c s.piv.length)) s.piv.length c,s.odd != decide (Eu s.m c s.piv.length≠s.piv.length)⟩:=by
 unfold Ds at h
 rw [Ak h1,Aj h2] at h
 split at h
 ·rename_i h3
  injection h with h
  exact ⟨h3.1,h3.2.1,h3.2.2,h.symm⟩
 ·cases h
theorem T0 {m:List (List Int)} (h:NW m=true) {i:Nat} {r:List Int} (hi:m[i]?=some r):∀ x,x ∈ r→Ti x:=fun x hx=>
 Au (Ar.1 (Ar.1 h r (Ac hi)) x hx)
theorem Vd {m:List (List Int)} {c k j:Nat} (h1:k≤j) (h2:j≤Eu m c k) (h3:j < m.length) (hz:BD m j c=0):j+1≤Eu m c k:=by
 by_cases e:j=Eu m c k
 ·exfalso
  have:=Vf (m:=m) (c:=c) (k:=k) (by omega) (by omega)
  rw [← e] at this
  exact this hz
 ·omega
theorem Vg {m:List (List Int)} {c k j:Nat} (h1:k≤j) (h2:j≤Eu m c k) (h3:j < m.length) (hz:BD m j c≠0):j=Eu m c k:=by
 by_cases e:j=Eu m c k
 ·exact e
 ·exfalso
  have hlt:j - k < (m.drop k).findIdx fun r=>decide ((r[c]?).getD 0≠0):=by unfold Eu at h2 e; omega
  have h4:=List.not_of_lt_findIdx hlt
  rw [List.getElem_drop] at h4
  have h5:=of_decide_eq_false (Bool.eq_false_iff.2 (by simpa using h4):decide ((m[k+(j - k)][c]?).getD 0≠0)=false)
  apply hz
  unfold BD C9
  rw [Aa h3]
  have:k+(j - k)=j:=by omega
  simp only [this] at h5
  exact Dp h5
theorem QA {m:List (List Int)} {n k a:Nat} (h:BU n m):BU n (CE m k a):=by
 unfold CE; split
 ·exact h
 ·exact fun r hr=>h r (Ls hr)
theorem NG {p f l:Int} {xs ys:List Int} {n:Nat} (h1:xs.length=n) (h2:ys.length=n):(FD p f l xs ys).length=n:=by
 unfold FD; rw [Ew]; omega
theorem Te {p f l:Int} {xs ys:List Int} {k:Nat} {x y:Int} (h1:xs[k]?=some x) (h2:ys[k]?=some y):(FD p f l xs ys)[k]?=some (MU p f l x y):=by
 unfold FD; rw [CH,h1,h2]
theorem NJ {m:List (List Int)} {n:Nat} (h:BU n m) {p l:Int} {d c:Nat} (hd:d < m.length) (t:Nat):BU n (DB m p l d c t):=fun r hr=>by
 obtain ⟨j,hj⟩:=DV.1 hr
 rw [JR] at hj
 split at hj
 ·obtain ⟨r0,h0,rfl⟩:=AW.1 hj
  exact NG (h r0 (Ac h0)) (by unfold C9; rw [Aa hd]; exact h.row hd)
 ·exact h r (Ac hj)
theorem PQ {m:List (List Int)} {p l:Int} {d c t j:Nat} (h:t≤j∨j=d):C9 (DB m p l d c t) j=C9 m j:=by
 unfold C9; rw [JR,Aj (by omega)]
theorem Tg {m:List (List Int)} {p l:Int} {d c:Nat}:DB m p l d c (d+1)=DB m p l d c d:=by rw [DB,Ak rfl]
theorem Tf {m:List (List Int)} {p l:Int} {d c i:Nat} (h:i≠d):DB m p l d c (i+1)=(DB m p l d c i).set i (FD p (BD (DB m p l d c i) i c) l (C9 (DB m p l d c i) i) (C9 (DB m p l d c i) d)):=by rw [DB,Aj h]
theorem Jt {m:List (List Int)} {i:Nat} (h:i < m.length):C9 m i=m[i]:=by unfold C9; rw [Aa h]; rfl
theorem MM {α:Type} (zs xs:List α) (k:Nat) (h1:zs.length≤k) (h2:xs.length≤k):zs.take k ++ xs.drop k=zs:=by
 rw [Ai h1,EL h2,Bq]
theorem Ks.refl (ob:Nat) (a:List (Nat×Nat×Nat)):Ks ob a a:=⟨fun _=>Iff.rfl,fun _ h=>h⟩
theorem TZ {m:List (List Int)} {k a:Nat} (h:NW m=true):NW (CE m k a)=true:=by
 unfold CE; split
 ·exact h
 ·exact Ar.2 fun r hr=>Ar.1 h r (Ls hr)
theorem UV {m:List (List Int)} {n i c:Nat} (h:NW m=true) (hr:BU n m) (hi:i < m.length) (hc:c < n):Ti (BD m i c) :=
 T0 h (Aa hi) _ (Ac (Fb hr hi hc))
theorem RE {m:List (List Int)} {i:Nat} (h:NW m=true) (hi:i < m.length):∀ x,x ∈ C9 m i→Ti x:=by
 rw [Jt hi]; exact T0 h (Aa hi)
theorem Fx.grownE {p:Nat→Prop} {a b c:World} {row:Option Nat} (h:Fx p a b) (hg:b.grownBy c row) (hr:∀ k,row=some k→a.heap.size≤k):Fx p a c:=by
 have k:=Fx.of_grown hg
 exact ⟨k.os.trans h.os,k.tape.trans h.tape,k.output.trans h.output,Aw h.size k.size,fun q h1 h2=>(k.block q (An h1 h.size) (fun e=>by have:=hr q e; omega)).trans (h.block q h1 h2)⟩
def Xf (w:World) (ob oo n L:Nat) (hs:List (Nat×Nat×Nat)) (s:EZ) (e:Ending) (w':World):Prop :=
 ∃ a c hs',e=.returned (.tuple #[.slice a s.piv.length c,.string (tx s.last),.bool s.odd])∧El w' iv a (s.piv.map fun k:Nat=>(k:Int))∧Bu w' ob oo hs' s.m∧BU n s.m∧s.m.length=L∧Ks ob hs' hs∧Fx (gb ob hs) w w'
theorem Qg (ob oo cap n nc:Nat) (hs:List (Nat×Nat×Nat)) (g:List (List Int)) (s:EZ) (w:World) (hG:G w) (hg:Bu w ob oo hs g) (hr:BU n g) (hnc:nc≤n) (hn:n≤1000) (hl:g.length≤1000) (hz:FL g nc=some s) :
 Calls Tryz.prog 112 #[.slice (some ⟨ob,oo,none⟩) g.length cap,.int .i64 nc] w (Xf w ob oo n g.length hs s):=by
 have hgn:=Ch hG
 obtain ⟨i1,ji,jz0,jz1,jz2⟩:=AG CS
 have hG1:=hZ hG
 have hge0:=hZ hg.ge
 have hoblt:=hg.outer
 have hbl0:Hid (∀ k,gb ob hs k→k < w.heap.size):=by
  rintro k (rfl | ⟨hd,hm,rfl⟩)
  ·exact hoblt
  ·obtain ⟨i,hi⟩:=AM hm
   have hlt:i < g.length:=by rw [← hg.len]; exact (Ah.1 hi).1
   exact (hg.row i hd _ hi (Aa hlt)).1.2.1
 obtain ⟨L,hL⟩:∃ L,L=g.length:=⟨_,rfl⟩
 rw [← hL] at hl ⊢
 have hz1:=hZ hz
 have h00:FL g 0=some ⟨g,[],1,false⟩:=rfl
 replace hz:=hZ hz
 replace hG:=hZ hG
 replace hg:=hZ hg
 replace hr:=hZ hr
 replace hL:=hZ hL
 replace h00:=hZ h00
 clear hG hz
 go_enter Tryz.func112,Tryz.ntmps112
 go_wp2_with fail
 go_loopg [7,8,9,10] nc (fun k s7 s8 s9 s10 wr=>∃ (c q:Nat) (sc:EZ) (hsX:List (Nat×Nat×Nat)),s10=.int .i64 c∧c+k=nc∧Hid (FL g c=some sc)∧s8=.string (tx sc.last)∧s9=.bool sc.odd∧Hid (q=sc.piv.length)∧Hid (wr.ownsRow w.heap.size 3 1 s7 q (sc.piv.map fun k:Nat=>iv k))∧Hid (Bu wr ob oo hsX sc.m)∧Hid (BU n sc.m)∧Hid (sc.m.length=L)∧Hid (Ks ob hsX hs)∧Fx (gb ob hs) w wr)
 case atStart=>exact ⟨0,0,⟨g,[],1,false⟩,hs,rfl,by omega,h00.out,by rw [show tx 1=⟨#[49]⟩ from Gy],rfl,rfl,AO _ _ _ _,hg.out,hr.out,hL.out.symm,Ks.refl _ _,Fx.refl _ _⟩
 case round=>
  obtain ⟨c,q,sc,hsX,rfl,hck,hsc,rfl,rfl,hq,hown,hgr,hrr,hlen,hsm,hfx⟩:=hrel
  have hqc:q≤c:=by rw [hq.out]; exact JL hsc.out
  have zq:(0:Int)≤(q:Int):=Ag _
  have zc:(0:Int)≤(c:Int):=Ag _
  obtain ⟨a7,c7,rfl⟩:∃ a7 c7,u7=.slice a7 q c7:=by
   rcases hown.out.2 with ⟨h1,h2⟩ | ⟨g',cap',cur',hv,_⟩
   ·rw [h1,h2]; exact ⟨_,_,rfl⟩
   ·exact ⟨_,_,hv⟩
  by_cases hcn:c < nc
  ·have dcn:decide (c < nc)=true:=Ad hcn
   by_cases hqL:q < L
   ·have dqL:decide (q < L)=true:=Ad hqL
    obtain ⟨s2,hs2,hst⟩:=UZ hz1.out hcn hsc.out
    obtain ⟨A,hA⟩:∃ A,A=Eu sc.m c q:=⟨_,rfl⟩
    have hAle:=Ra sc.m c q (by rw [hlen.out]; omega)
    rw [← hA,hlen.out] at hAle
    replace hs2:=hZ hs2
    replace hst:=hZ hst
    replace hA:=hZ hA
    obtain ⟨wo,rfl⟩:∃ wo:World,wo=wr:=⟨_,rfl⟩
    obtain ⟨ko,rfl⟩:∃ ko:Nat,ko=gk:=⟨_,rfl⟩
    go_wp2_with fail
    go_loopg [12] (L - q) (fun k Ly wr2=>∃ j:Nat,Ly=.int .i64 j∧j+k=L∧q≤j∧j≤A∧wo=wr2)
    case atStart=>exact ⟨q,rfl,by omega,Af _,hAle.1,rfl⟩
    case round=>
     obtain ⟨j,rfl,hjk,hqj,hjA,rfl⟩:=hrel
     by_cases hjL:j < L
     ·have hjg:j < sc.m.length:=by rw [hlen.out]; exact hjL
      obtain ⟨b1,o1,k1,e1,ca1,cf1,ro1,bo1⟩:=hgr.out.at hjg
      have ce1:=(ro1.2.2 c _ (Fb hrr.out hjg (by omega))).1
      rw [hrr.out.row hjg] at ca1
      have zj0:(0:Int)≤(j:Int):=Ag _
      have zj1:(j:Int) < (L:Int):=by omega
      have zcn:(c:Int) < (n:Int):=by omega
      have dj:decide ((j:Int) < (L:Int))=true:=Ad zj1
      clear ro1
      by_cases h0:ent sc.m j c=0
      ·have hb:((tx (ent sc.m j c)).toList == [48])=true:=by rw [DE]; exact Ad h0
       have hA1:=Vd hqj (by rw [← hA.out]; exact hjA) hjg h0
       rw [← hA.out] at hA1
       replace h0:=hZ h0
       go_wp2_with fail
       go_roundg (gk - 1)
       case measure=>omega
       case rel=>exact ⟨j+1,by go_num,by omega,by omega,hA1,rfl⟩
      ·have hb:((tx (ent sc.m j c)).toList == [48])=false:=by rw [DE]; exact Ab h0
       have hjA2:=(Vg hqj (by rw [← hA.out]; exact hjA) hjg h0).trans hA.out.symm
       obtain ⟨hti,htl,hl0,hs2e⟩:=T9 hst.out (by rw [hlen.out,← hq.out]; exact hqL) (by rw [← hq.out,← hA.out,hlen.out]; omega)
       rw [← hq.out,← hA.out,hlen.out,← hjA2] at hs2e
       obtain ⟨mX,hmX⟩:∃ mX,mX=CE sc.m q j:=⟨_,rfl⟩
       obtain ⟨oX,hoX⟩:∃ oX,oX=(sc.odd != decide (j≠q)):=⟨_,rfl⟩
       rw [← hmX,← hoX] at hs2e
       have hRX:BU n mX:=by rw [hmX]; exact QA hrr.out
       have hLX:mX.length=L:=by rw [hmX,St]; exact hlen.out
       have htX:NW mX=true:=by rw [hmX]; exact TZ hti
       have hp0:BD mX q c≠0:=by rw [hmX,Nc (by rw [hlen.out]; exact hqL) hjg]; exact h0
       have hel:((j:Int) == (L:Int))=false:=AF (by omega)
       replace hs2e:=hZ hs2e
       replace h0:=hZ h0
       replace hjA2:=hZ hjA2
       clear hti
       go_upto_if 54 with (fail)
       go_cut [9] from 17 to 131 (fun s9 wc=>∃ hsY:List (Nat×Nat×Nat),s9=.bool oX∧Hid (Bu wc ob oo hsY mX)∧Hid (Ks ob hsY hs)∧Fx (gb ob hs) wo wc)
       case first=>
        by_cases hjq:j=q
        ·have hm2:mX=sc.m:=by rw [hmX]; unfold CE; rw [Ak hjq]
         have ho2:oX=sc.odd:=by rw [hoX,Ab (by simp [hjq])]; simp
         have hne:((j:Int) != (q:Int))=false:=by rw [hjq]; simp
         replace hm2:=hZ hm2
         replace ho2:=hZ ho2
         replace hjq:=hZ hjq
         clear hmX hoX
         go_wp2_with fail
         go_meet
         case rel=>exact ⟨hsX,by rw [ho2.out],by show Bu _ _ _ _ _; rw [hm2.out]; exact hgr.out,hsm.out,Fx.refl _ _⟩
        ·have hm2:mX=swp sc.m j q:=by rw [hmX]; unfold CE; rw [Aj hjq]
         have ho2:oX=!sc.odd:=by rw [hoX,Ad hjq]; simp
         have hne:((j:Int) != (q:Int))=true:=by rw [BJ]; omega
         have hqg:q < sc.m.length:=by rw [hlen.out]; exact hqL
         obtain ⟨b2,o2,k2,e2,ca2,cf2,-,-⟩:=hgr.out.at hqg
         rw [hrr.out.row hqg] at ca2
         have hg1:=Aa hjg
         have hg2:=Aa hqg
         have hsw:=hgr.out.swap e1 e2 hg1 hg2 hjq
         rw [hrr.out.row hjg,hrr.out.row hqg] at hsw
         have hsmY:=hZ (show Ks ob (swp hsX j q) hs from ⟨fun k=>(QW e1 e2 k).trans (hsm.out.1 k),fun h hm=>hsm.out.2 h (K3 hm)⟩)
         rw [← hm2] at hsw
         have hfS:Fx (gb ob hs) wo ((wo.setCell ⟨ob,oo+j,none⟩ (.slice (some ⟨b2,o2,none⟩) n k2)).setCell ⟨ob,oo+q,none⟩ (.slice (some ⟨b1,o1,none⟩) n k1)):=Fx.setCell (p:=gb ob hs) (q:=⟨ob,oo+q,none⟩) (Fx.setCell (p:=gb ob hs) (q:=⟨ob,oo+j,none⟩) (Fx.refl _ wo) (.inl (.inl rfl)) _) (.inl (.inl rfl)) _
         have ca3:(wo.setCell ⟨ob,oo+j,none⟩ (.slice (some ⟨b2,o2,none⟩) n k2)).cell? ⟨ob,oo+q,none⟩=some (.slice (some ⟨b2,o2,none⟩) n k2):=by
          rw [Ae _ _ _ _ (fun e=>by injection e with _ e; omega)]; exact ca2
         have zq1:(q:Int) < (L:Int):=by omega
         replace hsw:=hZ hsw
         replace hfS:=hZ hfS
         replace hjq:=hZ hjq
         replace ho2:=hZ ho2
         replace e1:=hZ e1
         replace e2:=hZ e2
         replace hg1:=hZ hg1
         replace hg2:=hZ hg2
         clear hmX hoX hm2
         go_wp2_with fail
         go_region
         go_wp2_with fail
         go_meet
         case rel=>exact ⟨swp hsX j q,by rw [ho2.out],hsw.out.fr (Fr.refl _).drew,hsmY.out,hfS.out.drew⟩
       case rest=>
        obtain ⟨hsY,rfl,hgY,hsmY,hfY⟩:=hcut
        have hqX:q < mX.length:=by rw [hLX]; exact hqL
        obtain ⟨bd,od,kd,ed,cad,cfd,rod,bod⟩:=hgY.out.at hqX
        rw [hRX.row hqX] at cad
        have ced:=(rod.2.2 c _ (Fb hRX hqX (by omega))).1
        obtain ⟨p,hp⟩:∃ p,p=BD mX q c:=⟨_,rfl⟩
        have htp:Ti p:=by rw [hp]; exact UV htX hRX hqX (by omega)
        rw [show ent mX q c=p from hp.symm] at ced
        rw [← hp] at hp0
        have hs3e:=hs2e.out
        rw [← hp] at hs3e
        have zq1:(q:Int) < (L:Int):=by omega
        have hcl0:Hid (Bu wc ob oo hsY (DB mX p sc.last q c 0)):=hgY.out
        have hownY:=hZ (B2 hown.out hfY (fun g hg e=>by have h1:=(hown.out.lt g hg).1; have h2:=hbl0.out g e; omega))
        have hfwY:=hfx.trans hfY
        replace hs3e:=hZ hs3e
        replace hp:=hZ hp
        replace hmX:=hZ hmX
        replace hoX:=hZ hoX
        replace hRX:=hZ hRX
        replace htX:=hZ htX
        replace ed:=hZ ed
        clear rod hown hfx hfY hgr ca1 cf1 ce1 e1 dj cfd
        obtain ⟨wd,rfl⟩:∃ wd:World,wd=wc:=⟨_,rfl⟩
        go_wp2_with fail
        go_loopg [14] L (fun k s14 wr3=>∃ i:Nat,s14=.int .i64 i∧i+k=L∧Hid (Bu wr3 ob oo hsY (DB mX p sc.last q c i))∧Fx (gb ob hs) wd wr3)
        case atStart=>exact ⟨0,rfl,by omega,hcl0,Fx.refl _ _⟩
        case round=>
         clear hcl0 cad ced
         obtain ⟨i,rfl,hik,hgi,hfi⟩:=hrel
         have zi0:(0:Int)≤(i:Int):=Ag _
         by_cases hiL:i < L
         ·have zi1:(i:Int) < (L:Int):=by omega
          have di:decide (i < L)=true:=Ad hiL
          by_cases hiq:i=q
          ·have hqq:((i:Int) == (q:Int))=true:=by rw [hiq]; simp
           have hsk:Hid (Bu wr ob oo hsY (DB mX p sc.last q c (i+1))):=by
            show Bu _ _ _ _ _
            have h9:=hgi.out; rw [hiq] at h9; rw [hiq,Tg]; exact h9
           replace hiq:=hZ hiq
           go_wp2_with fail
           go_roundg (gk - 1)
           case measure=>omega
           case rel=>exact ⟨i+1,by go_num,by omega,hsk.out,hfi⟩
          ·have hqq:((i:Int) == (q:Int))=false:=AF (by omega)
           have hstep:=hZ (Tf (m:=mX) (p:=p) (l:=sc.last) (d:=q) (c:=c) hiq)
           have hRi:BU n (DB mX p sc.last q c i):=NJ hRX.out hqX i
           have hLi:(DB mX p sc.last q c i).length=L:=(H0 _ _ _ _ _ _).trans hLX
           have ho1:=PQ (m:=mX) (p:=p) (l:=sc.last) (d:=q) (c:=c) (t:=i) (j:=i) (.inl (Af i))
           have ho2:=PQ (m:=mX) (p:=p) (l:=sc.last) (d:=q) (c:=c) (t:=i) (j:=q) (.inr rfl)
           generalize hgic:DB mX p sc.last q c i=gi at *
           have hiX:i < gi.length:=by rw [hLi]; exact hiL
           have hqX2:q < gi.length:=by rw [hLi]; exact hqL
           obtain ⟨bi,oi,ki,ei,cai,cfi,roi,boi⟩:=hgi.out.at hiX
           obtain ⟨bd',od',kd',ed',cad,cfd,rod,bod'⟩:=hgi.out.at hqX2
           rw [ed.out] at ed'
           injection ed' with ed'
           injection ed' with g1 g2
           injection g2 with g2 g3
           subst g1; subst g2; subst g3
           have hne:bi≠bd:=hgi.out.apart i q _ _ ei ed.out hiq
           have cei:=(roi.2.2 c _ (Fb hRi hiX (by omega))).1
           have hfti:Ti (BD gi i c):=by
            have:BD gi i c=BD mX i c:=by unfold BD; rw [ho1]
            rw [this]; exact UV htX.out hRX.out (by omega) (by omega)
           rw [hRi.row hiX] at cai
           rw [hRi.row hqX2] at cad
           have hxl:(C9 gi i).length=n:=by rw [Jt hiX]; exact hRi.row hiX
           have hyl:(C9 gi q).length=n:=by rw [Jt hqX2]; exact hRi.row hqX2
           rw [← Jt hiX] at roi
           rw [← Jt hqX2] at rod
           have hxt:∀ x,x ∈ C9 gi i→Ti x:=by rw [ho1]; exact RE htX.out (by omega)
           have hyt:∀ x,x ∈ C9 gi q→Ti x:=by rw [ho2]; exact RE htX.out (by omega)
           change wr.cell? ⟨bi,oi+c,none⟩=some (sv (BD gi i c)) at cei
           obtain ⟨f,hf⟩:∃ f,f=BD gi i c:=⟨_,rfl⟩
           rw [← hf] at cei hfti hstep
           generalize C9 gi i=xs at *
           generalize C9 gi q=ys at *
           obtain ⟨zs,hzs⟩:∃ zs,zs=FD p f sc.last xs ys:=⟨_,rfl⟩
           rw [← hzs] at hstep
           have hzl:zs.length=n:=by rw [hzs]; exact NG hxl hyl
           have hzg:=fun u x y (h1:xs[u]?=some x) (h2:ys[u]?=some y)=>show zs[u]?=some ((p * x - f * y).fdiv sc.last) from by rw [hzs]; exact Te h1 h2
           have hG3:=hZ ((hG1.out.fx hfwY hge0.out).fx hfi hge0.out)
           have hbig:=hge0.out bi (((hsmY.out.1 bi).1) (.inr ⟨_,Ac ei,rfl⟩))
           replace hf:=hZ hf
           replace hzs:=hZ hzs
           replace hzl:=hZ hzl
           replace hzg:=hZ hzg
           replace hxl:=hZ hxl
           replace hyl:=hZ hyl
           replace hxt:=hZ hxt
           replace hyt:=hZ hyt
           replace ei:=hZ ei
           replace hRi:=hZ hRi
           replace hLi:=hZ hLi
           replace hgic:=hZ hgic
           replace hiq:=hZ hiq
           replace rod:=hZ rod
           clear ho1 ho2
           have hroi:Hid (E5 wr bi oi (zs.take 0 ++ xs.drop 0)):=roi
           clear roi
           obtain ⟨wv,rfl⟩:∃ wv:World,wv=wr:=⟨_,rfl⟩
           obtain ⟨kv,rfl⟩:∃ kv:Nat,kv=gk:=⟨_,rfl⟩
           go_wp2_with fail
           go_loopg [16] n (fun k s16 wr4=>∃ u:Nat,s16=.int .i64 u∧u+k=n∧Hid (E5 wr4 bi oi (zs.take u ++ xs.drop u))∧Fx (·=bi) wv wr4)
           case atStart=>exact ⟨0,rfl,by omega,hroi.out,Fx.refl _ _⟩
           case round=>
            clear hroi
            obtain ⟨u,rfl,huk,hown4,hf4⟩:=hrel
            have cai4:=hf4.keep cai (fun e=>boi e.symm)
            have cfi4:=hf4.keepf cai cfi (fun e=>boi e.symm)
            have cad4:=hf4.keep cad (fun e=>boi e.symm)
            have zu0:(0:Int)≤(u:Int):=Ag _
            by_cases hun:u < n
            ·have zu1:(u:Int) < (n:Int):=by omega
             have dun:decide (u < n)=true:=Ad hun
             obtain ⟨x,hx⟩:∃ x,xs[u]?=some x:=⟨_,Aa (by rw [hxl.out]; exact hun)⟩
             obtain ⟨y,hy⟩:∃ y,ys[u]?=some y:=⟨_,Aa (by rw [hyl.out]; exact hun)⟩
             obtain ⟨x1,x2⟩:=hown4.out.2.2 u x (by rw [Gs zs xs u (by rw [hzl.out,hxl.out]) (by rw [hxl.out]; exact hun)]; exact hx)
             have y1:=((rod.out.fx hf4 (fun e=>hne e.symm)).2.2 u y hy).1
             have hz:=hzg.out u x y hx hy
             have hms:=Gr zs xs u (by rw [hzl.out,hxl.out]) (by rw [hxl.out]; exact hun) _ hz
             have hco:=hZ (fun W (hW:G W)=>To p x f y sc.last htp (hxt.out x (Ac hx)) hfti (hyt.out y (Ac hy)) htl hl0 W hW)
             have hGv:=hZ (hG3.out.fx hf4 (fun k e=>by rw [show k=bi from e]; exact hbig))
             have hS0:=hZ (fun W' (hW':Fr wr W')=>(⟨hW'.keep cai4,hW'.keep x1,hW'.keep cad4,hW'.keep y1⟩:W'.cell? ⟨ob,oo+i,none⟩=some (.slice (some ⟨bi,oi,none⟩) n ki)∧W'.cell? ⟨bi,oi+u,none⟩=some (sv x)∧W'.cell? ⟨ob,oo+q,none⟩=some (.slice (some ⟨bd,od,none⟩) n kd)∧W'.cell? ⟨bd,od+u,none⟩=some (sv y)))
             replace hx:=hZ hx
             replace hy:=hZ hy
             replace hz:=hZ hz
             replace hms:=hZ hms
             go_wp2_with fail
             refine BL (S:=fun W'=>W'.cell? ⟨ob,oo+i,none⟩=some (.slice (some ⟨bi,oi,none⟩) n ki)∧W'.cell? ⟨bi,oi+u,none⟩=some (sv x)∧W'.cell? ⟨ob,oo+q,none⟩=some (.slice (some ⟨bd,od,none⟩) n kd)∧W'.cell? ⟨bd,od+u,none⟩=some (sv y)) 24 (by kernel_rfl) (hS0.out _ ((Fr.refl _).drew)) (fun hHeld=>?_)
             refine uK 0 ?_
             refine uK 1 ?_
             refine uK 2 ?_
             refine uK 3 ?_
             refine uK 4 ?_
             refine uK 5 ?_
             refine uK 6 ?_
             refine uK 7 ?_
             refine uK 8 ?_
             refine uK 9 ?_
             refine uK 10 ?_
             refine uK 11 ?_
             refine uK 12 ?_
             refine uK 13 ?_
             refine uK 14 ?_
             refine uK 15 ?_
             refine uK 16 ?_
             refine uK 17 ?_
             refine uK 18 ?_
             refine uK 19 ?_
             refine uK 20 ?_
             refine uK 21 ?_
             refine uC 22 (fun K hK=>?_)
             go_simp
             (refine (hco.out _ (hGv.out.fr (by exact BM))).mono ?_; rintro e w6 ⟨rfl,hf6⟩)
             go_wp2_with fail
             refine hK.out _ _ (hS0.out _ (by exact BM)) (fun hHeld=>?_)
             clear hK K
             refine uK 23 ?_
             have hfr8:Fr wr w6:=by exact BM
             have z1:=hfr8.keep x1
             have z2:=hfr8.keepf x1 x2
             clear hHeld
             refine uL 24 (fun K hK=>?_)
             go_simp
             refine hK.out _ _ ?_
             clear hK K
             have hown8:=(hown4.out.fr hfr8).set (k:=u) (by rw [At,AB,B3,hxl.out,hzl.out]; omega) ((p * x - f * y).fdiv sc.last)
             rw [hms.out] at hown8
             have hf8x:=(hf4.fr hfr8).setCell (q:=⟨bi,oi+u,none⟩) (.inl rfl) (sv ((p * x - f * y).fdiv sc.last))
             replace hown8:=hZ hown8
             clear z1 z2
             go_wp2_with fail
             go_roundg (gk - 1)
             case measure=>omega
             case rel=>exact ⟨u+1,by go_num,by omega,hown8.out,hf8x⟩
            ·have dun:decide (u < n)=false:=Ab hun
             obtain rfl:u=n:=by omega
             have hown8:=hown4.out
             rw [MM _ _ _ (by rw [hzl.out]; exact Af _) (by rw [hxl.out]; exact Af _)] at hown8
             have hset:=hgi.out.setRow ei.out hf4 hown8 (fun r h=>by rw [Aa hiX] at h; injection h with h; rw [hzl.out,← h]; exact (hRi.out.row hiX).symm)
             rw [← hstep.out] at hset
             have hfset:=hfi.trans (hf4.mono (fun k e=>by rw [show k=bi from e]; exact (hsmY.out.1 bi).1 (.inr ⟨_,Ac ei.out,rfl⟩)))
             replace hset:=hZ hset
             clear hown8 hown4
             go_wp2_with fail
             go_roundg (kv - 1)
             case measure=>omega
             case rel=>exact ⟨i+1,by go_num,by omega,hset.out,hfset⟩
         ·have di:decide (i < L)=false:=Ab hiL
          obtain rfl:i=L:=by omega
          have hown3:=B2 hownY.out hfi (fun g hg e=>by have h1:=(hownY.out.lt g hg).1; have h2:=hbl0.out g e; omega)
          have hfw:=hfwY.trans hfi
          have hszw:=hfw.size
          replace hown3:=hZ hown3
          go_wp2_with (at_builtin; refine As _ rfl _ _ 28 (by rfl) _ 3 _ _ 1 8 Tryz.underlying28 ji jz0 jz1 jz2 rfl (by decide) _ q _ (by rfl) (Av hown3.out _) ⟨wr.heap.size,0,none⟩ 1 1 [.int .i64 c] (by rfl) rfl (AD _ _ _ _ (by simp)) (by simp [Value.oneCell']) (by decide) (by unfold maxLen; omega) (by omega) (by skip; simp; omega) (wr.heap.size+1) (by simp) ?_; intro gA capA wA hownA hgrowA hatA hltA)
          have hgA:=((hgi.out.fr ((Fr.refl wr).alloc (.cells #[.int .i64 c] 3))).fx (Fx.of_grown hgrowA) (fun k hk e=>by have h1:=(hown3.out.lt k e).1; have h2:=hbl0.out k ((hsmY.out.1 k).1 hk); omega))
          have hfA:=(hfw.alloc (.cells #[.int .i64 c] 3)).grownE hgrowA (fun k e=>(hown3.out.lt k e).1)
          go_roundg (ko - 1)
          case measure=>omega
          case rel=>
           have h3:=hs3e.out
           subst h3
           refine ⟨c+1,q+1,_,hsY,by go_num,by omega,hs2.out,by show _=sv p; rfl,by show _=Value.bool oX; rfl, ?_, ?_,hgA, ?_, ?_,hsmY.out,hfA⟩
           ·show q+1=_
            rw [At,hq.out]; rfl
           ·show World.ownsRow _ _ _ _ _ _ _
            rw [Ax]; exact hownA
           ·exact NJ hRX.out hqX _
           ·show _=_
            rw [H0]; exact hLX
     ·have dj:decide ((j:Int) < (L:Int))=false:=Ab (by omega)
      obtain rfl:j=L:=by omega
      have hel:((j:Int) == (j:Int))=true:=by simp
      have hs2e:=Su hst.out (by rw [hlen.out,← hq.out]; exact hqL) (by rw [← hq.out,← hA.out,hlen.out]; omega)
      have hs2:=hs2.out
      rw [hs2e] at hs2
      replace hs2:=hZ hs2
      replace hs2e:=hZ hs2e
      go_wp2_with fail
      go_roundg (ko - 1)
      case measure=>omega
      case rel=>exact ⟨c+1,q,sc,hsX,by go_num,by omega,hs2.out,rfl,rfl,hq.out,hown.out,hgr.out,hrr.out,hlen.out,hsm.out,hfx⟩
   ·have dqL:decide (q < L)=false:=Ab hqL
    have hfin:=PA hsc.out (by rw [hlen.out,← hq.out]; exact hqL) (nc - c)
    rw [show c+(nc - c)=nc by omega,hz1.out] at hfin
    injection hfin with hfin
    obtain ⟨a9,c9,hv9,hel9⟩:=FQ (show wr.ownsRow w.heap.size 3 1 (.slice a7 q c7) q ((sc.piv.map fun k:Nat=>(k:Int)).map iv) by rw [CN]; exact hown.out)
    injection hv9 with hv1 hv2 hv3
    subst hv1; subst hv3
    replace hfin:=hZ hfin
    go_wp2_with fail
    go_ret3
    rw [hfin.out]
    exact ⟨a7,c7,hsX,by rw [← hq.out]; rfl,hel9,hgr.out,hrr.out,hlen.out,hsm.out,hfx⟩
  ·have dcn:decide (c < nc)=false:=Ab hcn
   obtain rfl:c=nc:=by omega
   have hfin:s=sc:=by have:=hsc.out; rw [hz1.out] at this; injection this
   obtain ⟨a9,c9,hv9,hel9⟩:=FQ (show wr.ownsRow w.heap.size 3 1 (.slice a7 q c7) q ((sc.piv.map fun k:Nat=>(k:Int)).map iv) by rw [CN]; exact hown.out)
   injection hv9 with hv1 hv2 hv3
   subst hv1; subst hv3
   replace hfin:=hZ hfin
   go_wp2_with fail
   go_ret3
   rw [hfin.out]
   exact ⟨a7,c7,hsX,by rw [← hq.out]; rfl,hel9,hgr.out,hrr.out,hlen.out,hsm.out,hfx⟩
end Go.Proofs.YtkjemicelmabdaaGreatDoor
