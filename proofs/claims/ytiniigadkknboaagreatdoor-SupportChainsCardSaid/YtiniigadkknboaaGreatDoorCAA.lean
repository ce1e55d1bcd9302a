/- Contracts and laws: CAA. -/
import Derived.Lib.AtoiAll
import Derived.Lib.ItoaLen
import Derived.Lib.ItoaMem
import Derived.Lib.ParseIntB
import GoSem.Op.String
import Derived.Laws.Strings
import Derived.Test.YtiniigadkknboaaGreatDoorProg
import Derived.WalkKit
import Derived.WalkLawsBesides
import Derived.WalkSpells
import Derived.Outline
import Derived.Lib.Hide
import Derived.BigQuiet
import Derived.Deep.QuietTactic
import Derived.Lib.LaidTab
import Derived.Test.YtiniigadkknboaaGreatDoorShelf
import Derived.Lib.AtoiErrMem
import Derived.Lib.ParseIntBTie
import Derived.LoopTactic

set_option maxHeartbeats 400000
namespace Go.Proofs.YtiniigadkknboaaGreatDoor
open Go.Lib
theorem hZ {p:Prop} (h:p):Go.RowKit.Hid p:=h

def tx (n:Int):ByteArray:=⟨(itoa n).toArray⟩
def digVal (acc:Nat):List UInt8→Nat
 | []=>acc
 | c :: r=>digVal (acc * 10+(c.toNat - 48)) r
theorem digVal_append (l m:List UInt8) (a:Nat):digVal a (l ++ m)=digVal (digVal a l) m:=by
 induction l generalizing a with
 | nil=>rfl
 | cons c r ih=>exact ih _
theorem dig_toNat (k:Nat) (h:k < 10):(UInt8.ofNat (48+k)).toNat=48+k:=by
 rw [UInt8.toNat_ofNat']
 exact Nat.mod_eq_of_lt (Nat.lt_of_lt_of_le (show 48+k < 58 by omega) (by decide))
theorem digVal_dec (u:Nat):digVal 0 (decDigits u)=u:=by
 induction u using Nat.strongRecOn with
 | _ u ih=>
   by_cases h:u < 10
   ·rw [decDigits,dif_pos h]
    show 0 * 10+((UInt8.ofNat (48+u)).toNat - 48)=u
    rw [dig_toNat u h]; omega
   ·rw [decDigits,dif_neg h,digVal_append,ih (u / 10) (by omega)]
    show u / 10 * 10+((UInt8.ofNat (48+u % 10)).toNat - 48)=u
    rw [dig_toNat (u % 10) (by omega)]; omega
theorem dec_digits (u:Nat):∀ c ∈ decDigits u,48≤c.toNat∧c.toNat≤57:=by
 induction u using Nat.strongRecOn with
 | _ u ih=>
   by_cases h:u < 10
   ·rw [decDigits,dif_pos h]; intro c hc
    simp only [List.mem_singleton] at hc; subst hc; rw [dig_toNat u h]; omega
   ·rw [decDigits,dif_neg h]; intro c hc
    rcases List.mem_append.1 hc with hc | hc
    ·exact ih (u / 10) (by omega) c hc
    ·simp only [List.mem_singleton] at hc; subst hc; rw [dig_toNat (u % 10) (by omega)]; omega
theorem dec_ne (u:Nat):decDigits u≠[]:=by
 intro h
 have:=decDigits_length u
 rw [h] at this
 have:=nDigits_pos u
 simp at *; omega
theorem dec_inj {u v:Nat} (h:decDigits u=decDigits v):u=v:=by
 have:=digVal_dec u; rw [h,digVal_dec] at this; exact this.symm
theorem itoa_inj {n m:Int} (h:itoa n=itoa m):n=m:=by
 unfold itoa at h
 have hd:∀ u c r,decDigits u=c :: r→48≤c.toNat:=fun u c r e=>(dec_digits u c (by rw [e]; simp)).1
 split at h <;> split at h
 ·injection h with _ h; have:=dec_inj h; omega
 ·have:=hd _ _ _ h.symm; simp at this
 ·have:=hd _ _ _ h; simp at this
 ·have:=dec_inj h; omega
theorem tx_list (n:Int):(tx n).data.toList=itoa n:=by simp [tx]
theorem tx_size (n:Int):(tx n).size=(itoa n).length:=by simp [tx,ByteArray.size]
theorem itoa_nn {n:Int} (h:0≤n):itoa n=decDigits n.toNat:=by unfold itoa; rw [if_neg (by omega)]
theorem itoa_ng {n:Int} (h:n < 0):itoa n=45 :: decDigits n.natAbs:=by unfold itoa; rw [if_pos h]
theorem itoa_len_pos (n:Int):0 < (itoa n).length:=by
 by_cases h:n < 0
 ·rw [itoa_ng h]; simp
 ·rw [itoa_nn (by omega)]; exact List.length_pos_iff.2 (dec_ne _)
theorem tx_pos (n:Int):0 < (tx n).size:=by rw [tx_size]; exact itoa_len_pos n
theorem nDigits_le (k u:Nat) (hk:1≤k) (h:u < 10 ^ k):nDigits u≤k:=by
 induction k generalizing u with
 | zero=>omega
 | succ k ih=>
   by_cases h9:u < 10
   ·rw [nDigits_small h9]; omega
   ·rw [nDigits_big h9]
    by_cases hk0:k=0
    ·subst hk0; simp at h; omega
    ·have:=ih (u / 10) (by omega) (by rw [Nat.pow_succ] at h; omega)
     omega
theorem tx_size_le (k:Nat) (n:Int) (hk:1≤k) (h:n.natAbs < 10 ^ k):(tx n).size≤k+1:=by
 rw [tx_size]
 by_cases h0:n < 0
 ·rw [itoa_ng h0]; have:=nDigits_le k n.natAbs hk h; simp [decDigits_length]; omega
 ·rw [itoa_nn (by omega),decDigits_length]
  have:=nDigits_le k n.toNat hk (by omega); omega
theorem tx_get {n:Int} {c:UInt8} {r:List UInt8} (h:itoa n=c :: r) (hp:0 < (tx n).size):(tx n)[0]'hp=c:=by
 have e:(tx n).data=(c :: r).toArray:=by simp [tx,h]
 show (tx n).data[0]=c
 simp [e]
theorem tx_head_ng {n:Int} (h:n < 0) (hp:0 < (tx n).size):((((tx n)[0]'hp).toNat:Int) == 45)=true:=by
 rw [tx_get (itoa_ng h) hp]; rfl
theorem tx_head_nn {n:Int} (h:0≤n) (hp:0 < (tx n).size):((((tx n)[0]'hp).toNat:Int) == 45)=false:=by
 cases e:itoa n with
 | nil=>have:=itoa_len_pos n; rw [e] at this; simp at this
 | cons c r=>
   rw [tx_get e hp]
   have e2:=itoa_nn h
   have:=(dec_digits n.toNat c (by rw [← e2,e]; simp)).1
   simp; omega
theorem ba_ext {a b:ByteArray} (h:a.data.toList=b.data.toList):a=b:=by
 cases a; cases b; congr; exact Array.toList_inj.1 h
theorem tx_tail {n:Int} (h:n < 0):(tx n).extract 1 (tx n).size=tx (-n):=by
 refine ba_ext ?_
 have h1:itoa n=45 :: itoa (-n):=by
  rw [itoa_ng h,itoa_nn (by omega)]; congr 2; omega
 rw [tx_list,ByteArray.data_extract,Array.toList_extract]
 have e:(tx n).data.toList=45 :: itoa (-n):=by rw [tx_list,h1]
 have e2:(tx n).size=(itoa (-n)).length+1:=by rw [tx_size,h1]; rfl
 rw [e,e2]; simp [List.extract]
theorem tx_join {n:Int} (h:0 < n):(⟨#[45]⟩:ByteArray) ++ tx n=tx (-n):=by
 refine ba_ext ?_
 rw [tx_list,itoa_ng (by omega),ByteArray.data_append,Array.toList_append,tx_list,itoa_nn (by omega)]
 simp; congr 1; omega
theorem tx_zero:tx 0=⟨#[48]⟩:=by decide +kernel
theorem tx_one:tx 1=⟨#[49]⟩:=by decide +kernel
theorem parseUint10_dig:∀ (l:List UInt8) (acc:Nat),(∀ c ∈ l,48≤c.toNat∧c.toNat≤57)→digVal acc l < 18446744073709551616→parseUint10 acc l=.ok (digVal acc l)
 | [],acc,_,_=>rfl
 | c :: r,acc,hd,hb=>by
   have hc:=hd c (by simp)
   have mono:∀ (l:List UInt8) (a:Nat),a≤digVal a l:=by
    intro l; induction l with
    | nil=>intro a; exact Nat.le_refl _
    | cons x l ih=>intro a; exact Nat.le_trans (by omega) (ih (a * 10+(x.toNat - 48)))
   have hb:digVal (acc * 10+(c.toNat - 48)) r < 18446744073709551616:=hb
   show _=NumEnd.ok (digVal (acc * 10+(c.toNat - 48)) r)
   have hm:=mono r (acc * 10+(c.toNat - 48))
   rw [parseUint10,if_pos hc,if_neg (by omega),if_neg (by omega)]
   exact parseUint10_dig r _ (fun x hx=>hd x (by simp [hx])) hb
theorem parseMag_dec (u:Nat) (h:u < 18446744073709551616):parseMag (decDigits u)=.ok u:=by
 unfold parseMag
 rw [if_neg (dec_ne u),parseUint10_dig _ _ (dec_digits u) (by rw [digVal_dec]; exact h),digVal_dec]
theorem atoiAll_itoa (n:Int) (h0:-9223372036854775808≤n) (h1:n≤9223372036854775807):atoiAll (tx n).data.toList=.ok n:=by
 rw [tx_list]
 by_cases h:n < 0
 ·rw [itoa_ng h]
  simp only [atoiAll]
  rw [if_pos (by right; rfl),parseMag_dec _ (by omega)]
  have e45:(45:UInt8).toNat=45:=rfl
  simp only [e45,not_true_eq_false,false_and,if_false,true_and,if_true]
  rw [if_neg (by omega)]
  congr 1; omega
 ·have e:=itoa_nn (n:=n) (by omega)
  rw [e]
  cases ed:decDigits n.toNat with
  | nil=>exact absurd ed (dec_ne _)
  | cons c r=>
    have hc:=dec_digits n.toNat c (by rw [ed]; simp)
    have hp:=parseMag_dec n.toNat (by omega)
    rw [ed] at hp
    simp only [atoiAll]
    rw [if_neg (by omega),hp]
    have h45:¬ c.toNat=45:=by omega
    simp only [h45,not_false_eq_true,true_and,false_and,if_false]
    rw [if_neg (by omega)]
    congr 1; omega
theorem digVal_bound:∀ (l:List UInt8) (a:Nat),(∀ c ∈ l,48≤c.toNat∧c.toNat≤57)→a * 10 ^ l.length≤digVal a l∧digVal a l < (a+1) * 10 ^ l.length
 | [],a,_=>⟨by show a * 1≤a; omega,by show a < (a+1) * 1; omega⟩
 | c :: r,a,h=>by
   have hc:=h c (by simp)
   obtain ⟨h1,h2⟩:=digVal_bound r (a * 10+(c.toNat - 48)) (fun x hx=>h x (by simp [hx]))
   have e:(c :: r).length=r.length+1:=rfl
   have q1:a * 10 ^ (r.length+1)=(a * 10) * 10 ^ r.length:=by rw [Nat.pow_succ,Nat.mul_comm (10 ^ r.length) 10,← Nat.mul_assoc]
   have q2:(a+1) * 10 ^ (r.length+1)=(a * 10+10) * 10 ^ r.length:=by rw [Nat.pow_succ,Nat.mul_comm (10 ^ r.length) 10,← Nat.mul_assoc,Nat.add_mul a 1 10]
   rw [e,q1,q2]
   exact ⟨Nat.le_trans (Nat.mul_le_mul_right _ (by omega)) h1,Nat.lt_of_lt_of_le h2 (Nat.mul_le_mul_right _ (by omega))⟩
theorem less_dig:∀ (l m:List UInt8) (a:Nat),(∀ c ∈ l,48≤c.toNat∧c.toNat≤57)→(∀ c ∈ m,48≤c.toNat∧c.toNat≤57)→l.length=m.length →
 Op.bytesLess l m=decide (digVal a l < digVal a m)
 | [],[],a,_,_,_=>by
   show false=decide (a < a); simp
 | [],_ :: _,_,_,_,h=>by simp at h
 | _ :: _,[],_,_,_,h=>by simp at h
 | c :: l,d :: m,a,hl,hm,h=>by
   have hc:=hl c (by simp)
   have hd:=hm d (by simp)
   have hl':∀ x ∈ l,48≤x.toNat∧x.toNat≤57:=fun x hx=>hl x (by simp [hx])
   have hm':∀ x ∈ m,48≤x.toNat∧x.toNat≤57:=fun x hx=>hm x (by simp [hx])
   have hlen:l.length=m.length:=by simpa using h
   obtain ⟨a1,a2⟩:=digVal_bound l (a * 10+(c.toNat - 48)) hl'
   obtain ⟨b1,b2⟩:=digVal_bound m (a * 10+(d.toNat - 48)) hm'
   show (decide (c < d) || (c == d && Op.bytesLess l m))=decide (digVal (a * 10+(c.toNat - 48)) l < digVal (a * 10+(d.toNat - 48)) m)
   rw [hlen] at a1 a2
   rcases Nat.lt_trichotomy c.toNat d.toNat with hlt | heq | hgt
   ·have e1:c < d:=UInt8.lt_iff_toNat_lt.2 hlt
    have:(a * 10+(c.toNat - 48)+1) * 10 ^ m.length≤(a * 10+(d.toNat - 48)) * 10 ^ m.length:=Nat.mul_le_mul_right _ (by omega)
    rw [decide_eq_true e1,Bool.true_or]
    exact (decide_eq_true (Nat.lt_of_lt_of_le a2 (Nat.le_trans this b1))).symm
   ·obtain rfl:c=d:=UInt8.toNat_inj.1 heq
    have e1:¬ c < c:=fun h=>Nat.lt_irrefl _ (UInt8.lt_iff_toNat_lt.1 h)
    rw [decide_eq_false e1,beq_self_eq_true,Bool.false_or,Bool.true_and]
    exact less_dig l m _ hl' hm' hlen
   ·have e1:¬ c < d:=fun h=>by have:=UInt8.lt_iff_toNat_lt.1 h; omega
    have e2:(c == d)=false:=by
     rw [beq_eq_false_iff_ne]; intro h; rw [h] at hgt; omega
    have:(a * 10+(d.toNat - 48)+1) * 10 ^ m.length≤(a * 10+(c.toNat - 48)) * 10 ^ m.length:=Nat.mul_le_mul_right _ (by omega)
    rw [decide_eq_false e1,e2,Bool.false_and,Bool.false_or]
    refine (decide_eq_false ?_).symm
    have:=Nat.lt_of_lt_of_le b2 (Nat.le_trans this a1)
    omega
theorem less_dec (u v:Nat) (h:(decDigits u).length=(decDigits v).length):Op.bytesLess (decDigits u) (decDigits v)=decide (u < v):=by
 rw [less_dig _ _ 0 (dec_digits u) (dec_digits v) h,digVal_dec,digVal_dec]
theorem pow_le_of_nDigits (u:Nat) (h:2≤nDigits u):10 ^ (nDigits u - 1)≤u:=by
 induction u using Nat.strongRecOn with
 | _ u ih=>
   by_cases h9:u < 10
   ·rw [nDigits_small h9] at h; omega
   ·rw [nDigits_big h9]
    by_cases h2:2≤nDigits (u / 10)
    ·have:=ih (u / 10) (by omega) h2
     have e:nDigits (u / 10)+1 - 1=(nDigits (u / 10) - 1)+1:=by omega
     rw [e,Nat.pow_succ]; omega
    ·have:=nDigits_pos (u / 10)
     have e:nDigits (u / 10)=1:=by omega
     rw [e]; show 10 ^ 1≤u; omega
theorem lt_of_nDigits_lt (u v:Nat) (h:nDigits u < nDigits v):u < v:=by
 have h1:=lt_pow_nDigits u
 have h2:=pow_le_of_nDigits v (by have:=nDigits_pos u; omega)
 have h3:10 ^ nDigits u≤10 ^ (nDigits v - 1):=Nat.pow_le_pow_right (by decide) (by omega)
 omega
theorem tx_toList (n:Int):(tx n).toList=itoa n:=by rw [ByteArray.toList_eq,tx_list]
theorem tx_beq (n m:Int):((tx n).toList == itoa m)=decide (n=m):=by
 rw [tx_toList]
 by_cases h:n=m
 ·subst h; simp
 ·rw [decide_eq_false h]
  rw [beq_eq_false_iff_ne]; exact fun e=>h (itoa_inj e)
theorem itoa0:itoa 0=[48]:=by decide +kernel
theorem itoa1:itoa 1=[49]:=by decide +kernel
theorem tx_beq0 (n:Int):((tx n).toList == [48])=decide (n=0):=by rw [← itoa0]; exact tx_beq n 0
theorem tx_beqs (n m:Int):((tx n).toList == (tx m).toList)=decide (n=m):=by rw [tx_toList m]; exact tx_beq n m
theorem tx_less (u v:Nat) (h:(tx u).size=(tx v).size):Op.bytesLess (tx u).toList (tx v).toList=decide (u < v):=by
 rw [tx_size,tx_size,itoa_nn (by omega),itoa_nn (by omega)] at h
 rw [tx_toList,tx_toList,itoa_nn (by omega),itoa_nn (by omega)]
 exact less_dec u v h
theorem tx_size_nat (u:Nat):(tx (u:Int)).size=nDigits u:=by
 rw [tx_size,itoa_nn (by omega),decDigits_length]; rfl
end Go.Proofs.YtiniigadkknboaaGreatDoor
namespace Go.Proofs.YtiniigadkknboaaGreatDoor
open Go.RowKit Go.Lib
def G (w : World) : Prop := TabIs Tryz.prog w "internal/strconv.uint64pow10" .u64 pow10Tab
def Fr (w w':World):Prop:=Below w.heap.size w w'
theorem Fr.refl (w:World):Fr w w:=Below.refl _ _
theorem Fr.of_eq {w w':World} (h:w=w'):Fr w w':=h ▸ Fr.refl w
theorem Fr.size {w w':World} (h:Fr w w'):w.heap.size≤w'.heap.size:=Below.size h
theorem Fr.trans {a b c:World} (h:Fr a b) (k:Fr b c):Fr a c:=Below.trans h (Below.mono k h.size)
theorem Fr.drew {a b:World} (h:Fr a b):Fr a b.drew:=Below.drew h
theorem Fr.drewN {a b:World} (h:Fr a b) (n:Nat):Fr a (b.drewN n) :=
 have h:Below a.heap.size a b:=h
 show Below a.heap.size a (b.drewN n) from ⟨h.os,h.tape,h.output,h.size,h.block⟩
theorem Fr.alloc {a b:World} (h:Fr a b) (o:Obj):Fr a (b.alloc o):=Below.alloc h h.size o
theorem Fr.setCell {a b:World} (h:Fr a b) {p:Addr} (hp:a.heap.size≤p.block) (u:Value):Fr a (b.setCell p u):=Below.setCell h hp u
theorem Fr.grown {a b c:World} {row:Option Nat} (h:Fr a b) (hg:b.grownBy c row) (hr:∀ k,row=some k→a.heap.size≤k):Fr a c :=
 Below.grown h hg h.size hr
theorem fr9 {a b:World} (h:Fr a b:=by repeat (with_reducible first | assumption | exact Fr.refl _ | refine Fr.drew ?_ | refine Fr.drewN ?_ _ | refine Fr.alloc ?_ _ | (refine Fr.setCell ?_ (by simp only [World.size_alloc,World.size_drew,World.size_setCell]; omega) _) | refine Fr.trans ?_ (by assumption))):Fr a b:=h
theorem Fr.cell {w w':World} (h:Fr w w') {p:Addr} (hp:p.block < w.heap.size):w'.cell? p=w.cell? p:=Below.cell h hp
theorem Fr.frozen {w w':World} (h:Fr w w') {p:Addr} (hp:p.block < w.heap.size):w'.frozen? p=w.frozen? p:=Below.frozen h hp
theorem Fr.keep {w w':World} (h:Fr w w') {p:Addr} {v:Value} (hc:w.cell? p=some v):w'.cell? p=some v:=by
 rw [h.cell (World.block_lt_of_cell? w p hc)]; exact hc
theorem Fr.keepf {w w':World} (h:Fr w w') {p:Addr} {v:Value} {b:Bool} (hc:w.cell? p=some v) (hf:w.frozen? p=b):w'.frozen? p=b:=by
 rw [h.frozen (World.block_lt_of_cell? w p hc)]; exact hf
def Qt (w w':World):Prop:=∃ n,w'=w.drewN n
theorem Qt.refl (w:World):Qt w w:=⟨0,rfl⟩
theorem Qt.trans {a b c:World} (h:Qt a b) (k:Qt b c):Qt a c:=by
 obtain ⟨n,rfl⟩:=h; obtain ⟨m,rfl⟩:=k; exact ⟨n+m,by simp [World.drewN,Nat.add_assoc]⟩
theorem Qt.drewN {a b:World} (h:Qt a b) (n:Nat):Qt a (b.drewN n):=h.trans ⟨n,rfl⟩
theorem Qt.drew {a b:World} (h:Qt a b):Qt a b.drew:=h.trans ⟨1,rfl⟩
theorem Qt.fr {w w':World} (h:Qt w w'):Fr w w':=by obtain ⟨n,rfl⟩:=h; exact (Fr.refl w).drewN n
theorem var_lt {P:Program} {g:Nat} {W:World} {n:String} {cs:Array Value} (hg:P.globalNamed n=some g) (hv:W.var? P n=some cs):g < W.heap.size:=by
 unfold World.var? at hv
 simp only [hg,Option.bind_some] at hv
 by_cases h:g < W.heap.size
 ·exact h
 ·rw [Array.getElem?_eq_none (by omega)] at hv; simp at hv
theorem gnum : Tryz.prog.globalNamed "internal/strconv.uint64pow10" = some 2 := by kernel_rfl
theorem G.fr {w w':World} (h:G w) (k:Fr w w'):G w':=var?_below k gnum (var_lt gnum h) h
theorem G.lt {w:World} (h:G w):2 < w.heap.size:=var_lt gnum h
end Go.Proofs.YtiniigadkknboaaGreatDoor
namespace Go.Proofs.YtiniigadkknboaaGreatDoor
open Go.RowKit Go.Lib Go.Sort
theorem fr_grow (w:World) (k:Nat) (os:Array Obj):Fr w (grow (w.drewN k) os):=
 (show Below w.heap.size w (grow (w.drewN k) os) from ⟨rfl,rfl,rfl,by simp [grow],fun i hi=>by simp [grow,Array.getElem?_append,hi]⟩)
theorem fr_bytes {w w':World} {e:TypeId} (h:w'=w∨∃ t,w'=bytesWorld w e t):Fr w w':=by
 rcases h with rfl | ⟨t,rfl⟩
 ·exact Fr.refl _
 ·exact bytesWorld_below w e t
theorem itoa_any (n:Int) (h0:-9223372036854775808≤n) (h1:n≤9223372036854775807) (w:World) (hG:G w) :
 Calls Tryz.prog 127 #[.int .i64 n] w fun e w'=>e=.returned (.string (tx n))∧Fr w w' :=
 (Tryz.strconv_Itoa n h0 h1 w hG).mono (by rintro e w' ⟨rfl,k,os,rfl⟩; exact ⟨rfl,fr_grow _ _ _⟩)
theorem atoi_any (n:Int) (h0:-9223372036854775808≤n) (h1:n≤9223372036854775807) (w:World) :
 Calls Tryz.prog 170 #[.string (tx n)] w fun e w'=>e=.returned (.tuple #[.int .i64 n,.nilIface])∧Fr w w' :=
 (Tryz.strconv_Atoi_ok (tx n) (by have:=tx_size_le 19 n (by omega) (by omega); omega) n (atoiAll_itoa n h0 h1) w).mono (by rintro e w' ⟨rfl,h⟩; exact ⟨rfl,fr_bytes h⟩)
theorem Of_any (n:Int) (h0:-9223372036854775808≤n) (h1:n≤9223372036854775807) (w:World) (hG:G w) :
 Calls Tryz.prog 96 #[.int .i64 n] w fun e w'=>e=.returned (.string (tx n))∧Fr w w':=by
 go_enter Tryz.func96,Tryz.ntmps96
 go_wp2_with (go_at_call 127; refine (itoa_any _ h0 h1 _ hG).mono ?_; rintro e w' ⟨rfl,hf⟩)
 go_ret
 exact ⟨rfl,hf⟩
theorem split_ngQ (n:Int) (hn:n < 0) (w:World) (hs:(tx n).size≤1000000000) :
 Calls Tryz.prog 144 #[.string (tx n)] w fun e w'=>e=.returned (.tuple #[.bool true,.string (tx (-n))])∧Qt w w':=by
 have h1:=tx_pos n
 have h2:=tx_head_ng hn h1
 have h3:=hZ (tx_tail hn)
 generalize tx n=s at *
 go_enter Tryz.func144,Tryz.ntmps144
 go_wp2
 go_quiet (fail)
 go_wp2
 go_ret2
 exact ⟨by rw [h3.out]; rfl,by repeat (with_reducible first | assumption | exact Qt.refl _ | refine Qt.drew ?_ | refine Qt.drewN ?_ _ | refine Qt.trans ?_ (by assumption))⟩
theorem split_ng (n:Int) (hn:n < 0) (w:World) (hs:(tx n).size≤1000000000) :
 Calls Tryz.prog 144 #[.string (tx n)] w fun e w'=>e=.returned (.tuple #[.bool true,.string (tx (-n))])∧Fr w w' :=
 (split_ngQ n hn w hs).mono fun _ _ ⟨h,k⟩=>⟨h,k.fr⟩
theorem split_nnQ (n:Int) (hn:0≤n) (w:World) (_hs:(tx n).size≤1000000000) :
 Calls Tryz.prog 144 #[.string (tx n)] w fun e w'=>e=.returned (.tuple #[.bool false,.string (tx n)])∧Qt w w':=by
 have h1:=tx_pos n
 have h2:=tx_head_nn hn h1
 generalize tx n=s at *
 go_enter Tryz.func144,Tryz.ntmps144
 go_wp2
 go_ret2
 exact ⟨rfl,Qt.refl _⟩
theorem split_nn (n:Int) (hn:0≤n) (w:World) (_hs:(tx n).size≤1000000000) :
 Calls Tryz.prog 144 #[.string (tx n)] w fun e w'=>e=.returned (.tuple #[.bool false,.string (tx n)])∧Fr w w' :=
 (split_nnQ n hn w _hs).mono fun _ _ ⟨h,k⟩=>⟨h,k.fr⟩
theorem join_any (b:Bool) (n:Int) (hn:0≤n) (w:World) (_hs:(tx n).size≤1000000000) :
 Calls Tryz.prog 145 #[.bool b,.string (tx n)] w fun e w'=>e=.returned (.string (tx (if b then -n else n)))∧w=w':=by
 cases b
 ·go_enter Tryz.func145,Tryz.ntmps145
  go_wp2
  go_ret
  exact ⟨by simp,rfl⟩
 ·by_cases h:n=0
  ·have hb:((tx n).toList == [48])=true:=by rw [tx_beq0]; simp [h]
   have hh:=hZ h; clear h
   go_enter Tryz.func145,Tryz.ntmps145
   go_wp2
   go_ret
   exact ⟨by rw [hh.out]; rfl,rfl⟩
  ·have hb:((tx n).toList == [48])=false:=by rw [tx_beq0]; simp [h]
   have hj:=hZ (tx_join (n:=n) (by omega)); clear h
   go_enter Tryz.func145,Tryz.ntmps145
   go_wp2
   go_ret
   exact ⟨by rw [hj.out]; rfl,rfl⟩
theorem little_ok (n most:Int) (h0:-9223372036854775808≤n) (h1:n≤9223372036854775807) (w:World) (hs:((tx n).size:Int)≤most) :
 Calls Tryz.prog 143 #[.string (tx n),.int .i64 most] w fun e w'=>e=.returned (.tuple #[.int .i64 n,.bool true])∧Fr w w':=by
 go_enter Tryz.func143,Tryz.ntmps143
 go_wp2_with (go_at_call 170; refine (atoi_any _ h0 h1 _).mono ?_; rintro e w' ⟨rfl,hf⟩)
 go_quiet (fail)
 go_wp2
 go_ret2
 exact ⟨rfl,by exact fr9⟩
theorem little_no (n most:Int) (w:World) (hs:most < ((tx n).size:Int)) (_hb:(tx n).size≤1000000000) :
 Calls Tryz.prog 143 #[.string (tx n),.int .i64 most] w fun e w'=>e=.returned (.tuple #[.int .i64 0,.bool false])∧w=w':=by
 go_enter Tryz.func143,Tryz.ntmps143
 go_wp2
 go_ret2
 exact ⟨rfl,rfl⟩
theorem Sign_any (n:Int) (w:World) :
 Calls Tryz.prog 139 #[.string (tx n)] w fun e w'=>e=.returned (.int .i64 n.sign)∧w=w':=by
 have hp:=tx_pos n
 have hb:=tx_beq0 n
 rcases Int.lt_trichotomy n 0 with h | h | h
 ·have h2:=tx_head_ng h hp
  rw [decide_eq_false (by omega)] at hb
  have hs:=hZ (Int.sign_eq_neg_one_of_neg h); clear h
  go_enter Tryz.func139,Tryz.ntmps139
  go_wp2
  go_ret
  exact ⟨by rw [hs.out]; rfl,rfl⟩
 ·rw [decide_eq_true h] at hb
  have hs:=hZ h; clear h
  go_enter Tryz.func139,Tryz.ntmps139
  go_wp2
  go_ret
  exact ⟨by rw [hs.out]; rfl,rfl⟩
 ·have h2:=tx_head_nn (by omega) hp
  rw [decide_eq_false (by omega)] at hb
  have hs:=hZ (Int.sign_eq_one_of_pos h); clear h
  go_enter Tryz.func139,Tryz.ntmps139
  go_wp2
  go_ret
  exact ⟨by rw [hs.out]; rfl,rfl⟩
def cmpI (a b:Int):Int:=if a < b then -1 else if b < a then 1 else 0
theorem ret_int {k:IntKind} {a b:Int} (h:a=b):Ending.returned (.int k a)=Ending.returned (.int k b):=by rw [h]
theorem ret_str {a b:ByteArray} (h:a=b):Ending.returned (.string a)=Ending.returned (.string b):=by rw [h]
theorem cmp_nat (u v:Nat) (w:World) (hu:nDigits u < 1000000000) (hv:nDigits v < 1000000000) :
 Calls Tryz.prog 147 #[.string (tx u),.string (tx v)] w fun e w'=>e=.returned (.int .i64 (cmpI u v))∧w=w':=by
 have su:=tx_size_nat u
 have sv:=tx_size_nat v
 have hl1:=tx_less u v
 have hl2:=tx_less v u
 have he:=tx_beqs u v
 generalize hx:tx (u:Int)=s at *
 generalize hy:tx (v:Int)=t at *
 clear hx hy
 have hu':s.size < 1000000000:=by omega
 have hv':t.size < 1000000000:=by omega
 by_cases h:s.size=t.size
 ·have l1:=hl1 h
  have l2:=hl2 h.symm
  have hne:((s.size:Int) != t.size)=false:=by rw [h]; simp
  clear hl1 hl2
  have h:=hZ h
  rcases Nat.lt_trichotomy u v with k | k | k
  ·rw [decide_eq_true k] at l1
   have hh:=hZ k; clear l2 he k su sv
   go_enter Tryz.func147,Tryz.ntmps147
   go_wp2
   go_ret
   exact ⟨ret_int (by have:=hh.out; unfold cmpI; rw [if_pos (by omega)]),rfl⟩
  ·rw [decide_eq_false (by omega)] at l1 l2
   rw [decide_eq_true (by omega)] at he
   have hh:=hZ k; clear k su sv l2
   go_enter Tryz.func147,Tryz.ntmps147
   go_wp2
   go_ret
   exact ⟨ret_int (by have:=hh.out; unfold cmpI; rw [if_neg (by omega),if_neg (by omega)]),rfl⟩
  ·rw [decide_eq_false (by omega)] at l1
   rw [decide_eq_false (by omega)] at he
   have hh:=hZ k; clear k su sv l2
   go_enter Tryz.func147,Tryz.ntmps147
   go_wp2
   go_ret
   exact ⟨ret_int (by have:=hh.out; unfold cmpI; rw [if_neg (by omega),if_pos (by omega)]),rfl⟩
 ·have hne:((s.size:Int) != t.size)=true:=by rw [bne_iff_ne]; omega
  have k1:=lt_of_nDigits_lt u v
  have k2:=lt_of_nDigits_lt v u
  have k1:=hZ k1
  have k2:=hZ k2
  have hh:=hZ h
  have su:=hZ su
  have sv:=hZ sv
  clear hl1 hl2 he h
  rename_i k1' k2' su' sv'
  clear k1' k2' su' sv'
  go_enter Tryz.func147,Tryz.ntmps147
  go_wp2
  go_ret
  refine ⟨ret_int ?_,rfl⟩
  have k1:=k1.out; have k2:=k2.out; have hh:=hh.out; have su:=su.out; have sv:=sv.out
  show min 1 (max (-1) ((s.size:Int) - t.size))=_
  unfold cmpI
  by_cases q:s.size < t.size
  ·rw [if_pos (by have:=k1 (by omega); omega)]; omega
  ·rw [if_neg (by have:=k2 (by omega); omega),if_pos (by have:=k2 (by omega); omega)]; omega
theorem Neg_anyQ (n:Int) (w:World) (hs:(tx n).size≤1000000000) :
 Calls Tryz.prog 169 #[.string (tx n)] w fun e w'=>e=.returned (.string (tx (-n)))∧Qt w w':=by
 by_cases h:n < 0
 ·have hs':(tx (-n)).size≤1000000000:=by rw [← tx_tail h,ByteArray.size_extract]; omega
  go_enter Tryz.func169,Tryz.ntmps169
  go_wp2_with (first | (go_at_call 144; refine (split_ngQ _ h _ hs).mono ?_; rintro e w' ⟨rfl,hf⟩) | (go_at_call 145; refine (join_any false _ (by omega) _ hs').mono ?_; rintro e w' ⟨rfl,rfl⟩))
  go_ret
  exact ⟨by simp,by repeat (with_reducible first | assumption | exact Qt.refl _ | refine Qt.drew ?_ | refine Qt.drewN ?_ _ | refine Qt.trans ?_ (by assumption))⟩
 ·go_enter Tryz.func169,Tryz.ntmps169
  go_wp2_with (first | (go_at_call 144; refine (split_nnQ _ (by omega) _ hs).mono ?_; rintro e w' ⟨rfl,hf⟩) | (go_at_call 145; refine (join_any true _ (by omega) _ hs).mono ?_; rintro e w' ⟨rfl,rfl⟩))
  go_ret
  exact ⟨by simp,by repeat (with_reducible first | assumption | exact Qt.refl _ | refine Qt.drew ?_ | refine Qt.drewN ?_ _ | refine Qt.trans ?_ (by assumption))⟩
theorem Neg_any (n:Int) (w:World) (hs:(tx n).size≤1000000000) :
 Calls Tryz.prog 169 #[.string (tx n)] w fun e w'=>e=.returned (.string (tx (-n)))∧Fr w w' :=
 (Neg_anyQ n w hs).mono fun _ _ ⟨h,k⟩=>⟨h,k.fr⟩
theorem Abs_anyQ (n:Int) (w:World) (hs:(tx n).size≤1000000000) :
 Calls Tryz.prog 138 #[.string (tx n)] w fun e w'=>e=.returned (.string (tx (n.natAbs:Int)))∧Qt w w':=by
 by_cases h:n < 0
 ·have e:=hZ (show (n.natAbs:Int)=-n by omega)
  go_enter Tryz.func138,Tryz.ntmps138
  go_wp2_with (go_at_call 144; refine (split_ngQ _ h _ hs).mono ?_; rintro e w' ⟨rfl,hf⟩)
  go_ret
  exact ⟨by rw [e.out]; rfl,by repeat (with_reducible first | assumption | exact Qt.refl _ | refine Qt.drew ?_ | refine Qt.drewN ?_ _ | refine Qt.trans ?_ (by assumption))⟩
 ·have e:=hZ (show (n.natAbs:Int)=n by omega)
  go_enter Tryz.func138,Tryz.ntmps138
  go_wp2_with (go_at_call 144; refine (split_nnQ _ (by omega) _ hs).mono ?_; rintro e w' ⟨rfl,hf⟩)
  go_ret
  exact ⟨by rw [e.out]; rfl,by repeat (with_reducible first | assumption | exact Qt.refl _ | refine Qt.drew ?_ | refine Qt.drewN ?_ _ | refine Qt.trans ?_ (by assumption))⟩
theorem Abs_any (n:Int) (w:World) (hs:(tx n).size≤1000000000) :
 Calls Tryz.prog 138 #[.string (tx n)] w fun e w'=>e=.returned (.string (tx (n.natAbs:Int)))∧Fr w w' :=
 (Abs_anyQ n w hs).mono fun _ _ ⟨h,k⟩=>⟨h,k.fr⟩
theorem cmp_int (a b:Int) (ha:0≤a) (hb:0≤b) (w:World) (hu:(tx a).size < 1000000000) (hv:(tx b).size < 1000000000) :
 Calls Tryz.prog 147 #[.string (tx a),.string (tx b)] w fun e w'=>e=.returned (.int .i64 (cmpI a b))∧w=w':=by
 obtain ⟨u,rfl⟩:=Int.eq_ofNat_of_zero_le ha
 obtain ⟨v,rfl⟩:=Int.eq_ofNat_of_zero_le hb
 exact cmp_nat u v w (by rw [← tx_size_nat]; exact hu) (by rw [← tx_size_nat]; exact hv)
theorem tx_neg_size (n:Int) (h:n < 0):(tx (-n)).size+1=(tx n).size:=by
 have:=tx_pos n
 rw [← tx_tail h,ByteArray.size_extract]; omega
theorem Compare_anyQ (a b:Int) (w:World) (hu:(tx a).size < 1000000000) (hv:(tx b).size < 1000000000) :
 Calls Tryz.prog 137 #[.string (tx a),.string (tx b)] w fun e w'=>e=.returned (.int .i64 (cmpI a b))∧Qt w w':=by
 by_cases hs:a.sign=b.sign
 ·have hne:(a.sign != b.sign)=false:=by rw [hs]; simp
  have hs':=hZ hs
  by_cases ha:a < 0
  ·have hb:b < 0:=by
    rw [Int.sign_eq_neg_one_of_neg ha] at hs
    exact Int.sign_eq_neg_one_iff_neg.1 hs.symm
   have sa:=tx_neg_size a ha
   have sb:=tx_neg_size b hb
   clear hs
   go_enter Tryz.func137,Tryz.ntmps137
   go_wp2_with fail
   refine (Sign_any a _).mono ?_; rintro e w' ⟨rfl,rfl⟩
   go_wp2_with fail
   refine (Sign_any b _).mono ?_; rintro e w' ⟨rfl,rfl⟩
   go_wp2_with fail
   refine (split_ngQ a ha _ (by omega)).mono ?_; rintro e w1 ⟨rfl,hf1⟩
   go_wp2_with fail
   refine (split_ngQ b hb _ (by omega)).mono ?_; rintro e w2 ⟨rfl,hf2⟩
   go_wp2_with fail
   refine (cmp_int (-b) (-a) (by omega) (by omega) _ (by omega) (by omega)).mono ?_; rintro e w' ⟨rfl,rfl⟩
   go_wp2_with fail
   go_ret
   exact ⟨ret_int (by unfold cmpI; split <;> split <;> omega),by repeat (with_reducible first | assumption | exact Qt.refl _ | refine Qt.drew ?_ | refine Qt.drewN ?_ _ | refine Qt.trans ?_ (by assumption))⟩
  ·have hb:¬ b < 0:=by
    intro hb
    rw [Int.sign_eq_neg_one_of_neg hb] at hs
    exact ha (Int.sign_eq_neg_one_iff_neg.1 hs)
   clear hs
   go_enter Tryz.func137,Tryz.ntmps137
   go_wp2_with fail
   refine (Sign_any a _).mono ?_; rintro e w' ⟨rfl,rfl⟩
   go_wp2_with fail
   refine (Sign_any b _).mono ?_; rintro e w' ⟨rfl,rfl⟩
   go_wp2_with fail
   refine (split_nnQ a (by omega) _ (by omega)).mono ?_; rintro e w1 ⟨rfl,hf1⟩
   go_wp2_with fail
   refine (split_nnQ b (by omega) _ (by omega)).mono ?_; rintro e w2 ⟨rfl,hf2⟩
   go_wp2_with fail
   refine (cmp_int a b (by omega) (by omega) _ hu hv).mono ?_; rintro e w' ⟨rfl,rfl⟩
   go_wp2_with fail
   go_ret
   exact ⟨rfl,by repeat (with_reducible first | assumption | exact Qt.refl _ | refine Qt.drew ?_ | refine Qt.drewN ?_ _ | refine Qt.trans ?_ (by assumption))⟩
 ·have hne:(a.sign != b.sign)=true:=by rw [bne_iff_ne]; exact hs
  by_cases hl:a.sign < b.sign
  ·have hd:decide (a.sign < b.sign)=true:=decide_eq_true hl
   have hc:a < b:=by
    rcases Int.lt_trichotomy a b with h | h | h
    ·exact h
    ·subst h; exact absurd rfl hs
    ·exfalso
     have s1:0≤a - b:=by omega
     rcases Int.lt_trichotomy a 0 with p | p | p <;> rcases Int.lt_trichotomy b 0 with q | q | q <;>
      simp [Int.sign_eq_neg_one_of_neg,Int.sign_eq_one_of_pos, *] at hl <;> omega
   have hc:=hZ hc
   clear hs
   go_enter Tryz.func137,Tryz.ntmps137
   go_wp2_with fail
   refine (Sign_any a _).mono ?_; rintro e w' ⟨rfl,rfl⟩
   go_wp2_with fail
   refine (Sign_any b _).mono ?_; rintro e w' ⟨rfl,rfl⟩
   go_wp2_with fail
   go_ret
   exact ⟨ret_int (by have:=hc.out; unfold cmpI; rw [if_pos this]),by repeat (with_reducible first | assumption | exact Qt.refl _ | refine Qt.drew ?_ | refine Qt.drewN ?_ _ | refine Qt.trans ?_ (by assumption))⟩
  ·have hd:decide (a.sign < b.sign)=false:=decide_eq_false hl
   have hc:b < a:=by
    rcases Int.lt_trichotomy a b with h | h | h
    ·exfalso
     rcases Int.lt_trichotomy a 0 with p | p | p <;> rcases Int.lt_trichotomy b 0 with q | q | q <;>
      simp [Int.sign_eq_neg_one_of_neg,Int.sign_eq_one_of_pos, *] at hl hs <;> omega
    ·subst h; exact absurd rfl hs
    ·exact h
   have hc:=hZ hc
   clear hs
   go_enter Tryz.func137,Tryz.ntmps137
   go_wp2_with fail
   refine (Sign_any a _).mono ?_; rintro e w' ⟨rfl,rfl⟩
   go_wp2_with fail
   refine (Sign_any b _).mono ?_; rintro e w' ⟨rfl,rfl⟩
   go_wp2_with fail
   go_ret
   exact ⟨ret_int (by have:=hc.out; unfold cmpI; rw [if_neg (by omega),if_pos this]),by repeat (with_reducible first | assumption | exact Qt.refl _ | refine Qt.drew ?_ | refine Qt.drewN ?_ _ | refine Qt.trans ?_ (by assumption))⟩
def Sm (n:Int):Prop:=-100000000000000000 < n∧n < 100000000000000000
theorem Sm.size {n:Int} (h:Sm n):(tx n).size≤18:=by
 obtain ⟨h1,h2⟩:=h
 exact tx_size_le 17 n (by omega) (by omega)
theorem tmod_abs (a b:Int) (hb:b≠0):(a.tmod b).natAbs < b.natAbs:=by
 rw [Int.natAbs_tmod]; exact Nat.mod_lt _ (by omega)
theorem fdiv_same (a b:Int) (hb:b≠0) (h:a.tmod b=0∨(a.tmod b < 0 ↔ b < 0)):a.fdiv b=a.tdiv b∧a.fmod b=a.tmod b:=by
 have e:=Int.mul_tdiv_add_tmod a b
 have m:=tmod_abs a b hb
 rcases Int.lt_or_gt_of_ne hb with h1 | h1
 ·exact (Int.fdiv_fmod_unique' h1).2 ⟨by omega,by omega,by omega⟩
 ·exact (Int.fdiv_fmod_unique h1).2 ⟨by omega,by omega,by omega⟩
theorem fdiv_less (a b:Int) (hb:b≠0) (h0:a.tmod b≠0) (h:¬ (a.tmod b < 0 ↔ b < 0)):a.fdiv b=a.tdiv b - 1∧a.fmod b=a.tmod b+b:=by
 have e:=Int.mul_tdiv_add_tmod a b
 have m:=tmod_abs a b hb
 have e2:b * (a.tdiv b - 1)=b * a.tdiv b - b:=by rw [Int.mul_sub,Int.mul_one]
 rcases Int.lt_or_gt_of_ne hb with h1 | h1
 ·exact (Int.fdiv_fmod_unique' h1).2 ⟨by omega,by omega,by omega⟩
 ·exact (Int.fdiv_fmod_unique h1).2 ⟨by omega,by omega,by omega⟩
theorem tdiv_abs (a b:Int):(a.tdiv b).natAbs≤a.natAbs:=by
 rw [Int.natAbs_tdiv]; exact Nat.div_le_self _ _
theorem DivMod_sm (a b:Int) (ha:Sm a) (hb:Sm b) (h0:b≠0) (w:World) (hG:G w) :
 Calls Tryz.prog 112 #[.string (tx a),.string (tx b)] w fun e w'=>e=.returned (.tuple #[.string (tx (a.fdiv b)),.string (tx (a.fmod b)),.int .i64 0])∧Fr w w':=by
 have sa:=ha.size
 have sb:=hb.size
 have hz:((tx b).toList == [48])=false:=by rw [tx_beq0]; exact decide_eq_false h0
 obtain ⟨a1,a2⟩:=ha
 obtain ⟨b1,b2⟩:=hb
 have td:=tdiv_abs a b
 have tm:=tmod_abs a b h0
 have k1:IntKind.i64.wrap (a.tdiv b)=a.tdiv b:=IntWalk.i64_in _ (by omega)
 have k2:IntKind.i64.wrap (a.tmod b)=a.tmod b:=IntWalk.i64_in _ (by omega)
 by_cases hr0:a.tmod b=0
 ·have hfin:=hZ (show a.fdiv b=a.tdiv b∧a.fmod b=0 from by have:=fdiv_same a b h0 (.inl hr0); rw [hr0] at this; exact this)
  have c1:(a.tmod b != 0)=false:=by rw [hr0]; rfl
  have tm1:-100000000000000000 < a.tmod b∧a.tmod b < 100000000000000000:=by omega
  have td1:-100000000000000000 < a.tdiv b∧a.tdiv b < 100000000000000000:=by omega
  obtain ⟨tm1,tm2⟩:=tm1
  obtain ⟨td1,td2⟩:=td1
  clear td tm
  go_enter Tryz.func112,Tryz.ntmps112
  go_wp2_with fail
  refine (little_ok a 18 (by omega) (by omega) _ (by omega)).mono ?_; rintro e w1 ⟨rfl,hf1⟩
  go_wp2_with fail
  refine (little_ok b 18 (by omega) (by omega) _ (by omega)).mono ?_; rintro e w2 ⟨rfl,hf2⟩
  go_wp2_with fail
  go_quiet (fail)
  clear k1 k2
  have hfq:=hf1.trans hf2
  go_wp2_with fail
  refine (Of_any _ (by omega) (by omega) _ (hG.fr (by exact fr9))).mono ?_; rintro e w3 ⟨rfl,hf3⟩
  go_wp2_with fail
  refine (Of_any _ (by omega) (by omega) _ (hG.fr (by exact fr9))).mono ?_; rintro e w4 ⟨rfl,hf4⟩
  go_wp2_with fail
  go_ret3
  exact ⟨by rw [hfin.out.1,hfin.out.2]; rfl,by exact fr9⟩
 ·have c1:(a.tmod b != 0)=true:=by rw [bne_iff_ne]; exact hr0
  by_cases hr:a.tmod b < 0 <;> by_cases hb:b < 0
  ·have hfin:=hZ (fdiv_same a b h0 (.inr (by simp [hr,hb])))
   have c2:(decide (a.tmod b < 0))=true:=decide_eq_true hr
   have c3:(decide (b < 0))=true:=decide_eq_true hb
   have tm1:-100000000000000000 < a.tmod b:=by omega
   have tm2:a.tmod b < 100000000000000000:=by omega
   have td1:-100000000000000000 < a.tdiv b:=by omega
   have td2:a.tdiv b < 100000000000000000:=by omega
   clear td tm hr0 hr hb
   go_enter Tryz.func112,Tryz.ntmps112
   go_wp2_with fail
   refine (little_ok a 18 (by omega) (by omega) _ (by omega)).mono ?_; rintro e w1 ⟨rfl,hf1⟩
   go_wp2_with fail
   refine (little_ok b 18 (by omega) (by omega) _ (by omega)).mono ?_; rintro e w2 ⟨rfl,hf2⟩
   go_wp2_with fail
   go_quiet (fail)
   clear k1 k2
   have hfq:=hf1.trans hf2
   go_wp2_with fail
   refine (Of_any _ (by omega) (by omega) _ (hG.fr (by exact fr9))).mono ?_; rintro e w3 ⟨rfl,hf3⟩
   go_wp2_with fail
   refine (Of_any _ (by omega) (by omega) _ (hG.fr (by exact fr9))).mono ?_; rintro e w4 ⟨rfl,hf4⟩
   go_wp2_with fail
   go_ret3
   exact ⟨by rw [hfin.out.1,hfin.out.2]; rfl,by exact fr9⟩
  ·have hfin:=hZ (fdiv_less a b h0 hr0 (by simp [hr,hb]))
   have c2:(decide (a.tmod b < 0))=true:=decide_eq_true hr
   have c3:(decide (b < 0))=false:=decide_eq_false hb
   have tm1:-100000000000000000 < a.tmod b:=by omega
   have tm2:a.tmod b < 100000000000000000:=by omega
   have td1:-100000000000000000 < a.tdiv b:=by omega
   have td2:a.tdiv b < 100000000000000000:=by omega
   clear td tm hr0 hr hb
   go_enter Tryz.func112,Tryz.ntmps112
   go_wp2_with fail
   refine (little_ok a 18 (by omega) (by omega) _ (by omega)).mono ?_; rintro e w1 ⟨rfl,hf1⟩
   go_wp2_with fail
   refine (little_ok b 18 (by omega) (by omega) _ (by omega)).mono ?_; rintro e w2 ⟨rfl,hf2⟩
   go_wp2_with fail
   go_quiet (fail)
   clear k1 k2
   have hfq:=hf1.trans hf2
   go_wp2_with fail
   refine (Of_any _ (by omega) (by omega) _ (hG.fr (by exact fr9))).mono ?_; rintro e w3 ⟨rfl,hf3⟩
   go_wp2_with fail
   refine (Of_any _ (by omega) (by omega) _ (hG.fr (by exact fr9))).mono ?_; rintro e w4 ⟨rfl,hf4⟩
   go_wp2_with fail
   go_ret3
   exact ⟨by rw [hfin.out.1,hfin.out.2]; rfl,by exact fr9⟩
  ·have hfin:=hZ (fdiv_less a b h0 hr0 (by simp [hr,hb]))
   have c2:(decide (a.tmod b < 0))=false:=decide_eq_false hr
   have c3:(decide (b < 0))=true:=decide_eq_true hb
   have tm1:-100000000000000000 < a.tmod b:=by omega
   have tm2:a.tmod b < 100000000000000000:=by omega
   have td1:-100000000000000000 < a.tdiv b:=by omega
   have td2:a.tdiv b < 100000000000000000:=by omega
   clear td tm hr0 hr hb
   go_enter Tryz.func112,Tryz.ntmps112
   go_wp2_with fail
   refine (little_ok a 18 (by omega) (by omega) _ (by omega)).mono ?_; rintro e w1 ⟨rfl,hf1⟩
   go_wp2_with fail
   refine (little_ok b 18 (by omega) (by omega) _ (by omega)).mono ?_; rintro e w2 ⟨rfl,hf2⟩
   go_wp2_with fail
   go_quiet (fail)
   clear k1 k2
   have hfq:=hf1.trans hf2
   go_wp2_with fail
   refine (Of_any _ (by omega) (by omega) _ (hG.fr (by exact fr9))).mono ?_; rintro e w3 ⟨rfl,hf3⟩
   go_wp2_with fail
   refine (Of_any _ (by omega) (by omega) _ (hG.fr (by exact fr9))).mono ?_; rintro e w4 ⟨rfl,hf4⟩
   go_wp2_with fail
   go_ret3
   exact ⟨by rw [hfin.out.1,hfin.out.2]; rfl,by exact fr9⟩
  ·have hfin:=hZ (fdiv_same a b h0 (.inr (by simp [hr,hb])))
   have c2:(decide (a.tmod b < 0))=false:=decide_eq_false hr
   have c3:(decide (b < 0))=false:=decide_eq_false hb
   have tm1:-100000000000000000 < a.tmod b:=by omega
   have tm2:a.tmod b < 100000000000000000:=by omega
   have td1:-100000000000000000 < a.tdiv b:=by omega
   have td2:a.tdiv b < 100000000000000000:=by omega
   clear td tm hr0 hr hb
   go_enter Tryz.func112,Tryz.ntmps112
   go_wp2_with fail
   refine (little_ok a 18 (by omega) (by omega) _ (by omega)).mono ?_; rintro e w1 ⟨rfl,hf1⟩
   go_wp2_with fail
   refine (little_ok b 18 (by omega) (by omega) _ (by omega)).mono ?_; rintro e w2 ⟨rfl,hf2⟩
   go_wp2_with fail
   go_quiet (fail)
   clear k1 k2
   have hfq:=hf1.trans hf2
   go_wp2_with fail
   refine (Of_any _ (by omega) (by omega) _ (hG.fr (by exact fr9))).mono ?_; rintro e w3 ⟨rfl,hf3⟩
   go_wp2_with fail
   refine (Of_any _ (by omega) (by omega) _ (hG.fr (by exact fr9))).mono ?_; rintro e w4 ⟨rfl,hf4⟩
   go_wp2_with fail
   go_ret3
   exact ⟨by rw [hfin.out.1,hfin.out.2]; rfl,by exact fr9⟩
theorem parseIntB_itoa (n:Int) (h0:-9223372036854775808≤n) (h1:n≤9223372036854775807):parseIntB 64 (tx n).data.toList=.ok n:=by
 rw [parseIntB_64]; exact atoiAll_itoa n h0 h1
theorem Small_ok (n:Int) (h0:-9223372036854775808≤n) (h1:n≤9223372036854775807) (w:World) :
 Calls Tryz.prog 116 #[.string (tx n)] w fun e w'=>e=.returned (.tuple #[.int .i64 n,.bool true])∧Fr w w':=by
 have hs:=tx_size_le 19 n (by omega) (by omega)
 go_enter Tryz.func116,Tryz.ntmps116
 go_wp2_with fail
 refine (Tryz.strconv_ParseInt_10_at64_ok (tx n) (by omega) n (parseIntB_itoa n h0 h1) _).mono ?_; rintro e w1 ⟨rfl,hw⟩
 have hf:=fr_bytes hw; clear hw
 go_wp2_with fail
 go_ret2
 exact ⟨rfl,hf⟩
end Go.Proofs.YtiniigadkknboaaGreatDoor
namespace Go.Proofs.YtiniigadkknboaaGreatDoor
open Go.RowKit Go.Lib
def El {α:Type} (w:World) (enc:α→Value) (a:Option Addr) (xs:List α):Prop :=
 xs=[]∨∃ b o,a=some ⟨b,o,none⟩∧b < w.heap.size∧∀ i x,xs[i]?=some x→w.cell? ⟨b,o+i,none⟩=some (enc x)
theorem El.fr {α:Type} {w w':World} {enc:α→Value} {a:Option Addr} {xs:List α} (h:El w enc a xs) (k:Fr w w'):El w' enc a xs:=by
 rcases h with h | ⟨b,o,ha,hb,hc⟩
 ·exact .inl h
 ·exact .inr ⟨b,o,ha,Nat.lt_of_lt_of_le hb k.size,fun i x hx=>by rw [k.cell hb]; exact hc i x hx⟩
theorem El.at {α:Type} {w:World} {enc:α→Value} {a:Option Addr} {xs:List α} (h:El w enc a xs) {i:Nat} (hi:i < xs.length) :
 ∃ b o x,a=some ⟨b,o,none⟩∧b < w.heap.size∧xs[i]?=some x∧w.cell? ⟨b,o+i,none⟩=some (enc x):=by
 rcases h with h | ⟨b,o,ha,hb,hc⟩
 ·subst h; simp at hi
 ·exact ⟨b,o,xs[i],ha,hb,List.getElem?_eq_getElem hi,hc i _ (List.getElem?_eq_getElem hi)⟩
abbrev iv:Int→Value:=fun n=>.int .i64 n
abbrev sv:Int→Value:=fun n=>.string (tx n)
def Pred {α:Type} (w:World) (g:Nat) (cap:Array Value) (enc:α→Value) (p:α→Bool) (xs:List α):Prop :=
 ∀ x W,x ∈ xs→Fr w W→Calls Tryz.prog g (#[enc x] ++ cap) W fun e W'=>e=.returned (.bool (p x))∧Fr W W'
def idx {α:Type} (p:α→Bool) (xs:List α):Int:=match xs.findIdx? p with | some i=>i | none=>-1
theorem idx_step {α:Type} {p:α→Bool} {xs:List α} {k:Nat} {x:α} (h:∀ j x,j < k→xs[j]?=some x→p x=false) (hx:xs[k]?=some x) (hp:p x=false) :
 Hid (∀ j x,j < k+1→xs[j]?=some x→p x=false):=fun j y hj hy=>by
 by_cases e:j=k
 ·subst e; rw [hx] at hy; injection hy with hy; rw [← hy]; exact hp
 ·exact h j y (by omega) hy
theorem idx_found {α:Type} {p:α→Bool} {xs:List α} {k:Nat} {x:α} (h:∀ j x,j < k→xs[j]?=some x→p x=false) (hx:xs[k]?=some x) (hp:p x=true):idx p xs=k:=by
 unfold idx
 have hk:k < xs.length:=(List.getElem?_eq_some_iff.1 hx).1
 have:xs.findIdx? p=some k:=by
  rw [List.findIdx?_eq_some_iff_getElem]
  refine ⟨hk, ?_,fun j hj=>?_⟩
  ·rw [(List.getElem?_eq_some_iff.1 hx).2]; exact hp
  ·rw [h j _ hj (List.getElem?_eq_getElem (by omega))]; simp
 rw [this]
theorem idx_none {α:Type} {p:α→Bool} {xs:List α} (h:∀ j x,j < xs.length→xs[j]?=some x→p x=false):idx p xs=-1:=by
 unfold idx
 have:xs.findIdx? p=none:=by
  rw [List.findIdx?_eq_none_iff]
  intro x hx
  obtain ⟨i,hi,e⟩:=List.getElem_of_mem hx
  exact h i x hi (by rw [List.getElem?_eq_getElem hi,e])
 rw [this]
theorem idx_any {α:Type} (p:α→Bool) (xs:List α):decide (0≤idx p xs)=xs.any p:=by
 unfold idx
 cases e:xs.findIdx? p with
 | none=>
   rw [List.findIdx?_eq_none_iff] at e
   have:xs.any p=false:=List.any_eq_false.2 (fun x hx=>by simp [e x hx])
   rw [this]; rfl
 | some i=>
   obtain ⟨h,hp,_⟩:=List.findIdx?_eq_some_iff_getElem.1 e
   have:xs.any p=true:=List.any_eq_true.2 ⟨xs[i],List.getElem_mem h,hp⟩
   rw [this]; simp
theorem idx_cases {α:Type} (p:α→Bool) (xs:List α):(idx p xs=-1∧∀ x,x ∈ xs→p x=false)∨∃ (k:Nat) (x:α),idx p xs=k∧xs[k]?=some x∧p x=true∧∀ j y,j < k→xs[j]?=some y→p y=false:=by
 unfold idx
 cases e:xs.findIdx? p with
 | none=>
   rw [List.findIdx?_eq_none_iff] at e
   exact .inl ⟨rfl,e⟩
 | some i=>
   obtain ⟨h,hp,hq⟩:=List.findIdx?_eq_some_iff_getElem.1 e
   refine .inr ⟨i,xs[i],rfl,List.getElem?_eq_getElem h,hp,fun j y hj hy=>?_⟩
   have:=hq j hj
   obtain ⟨h2,rfl⟩:=List.getElem?_eq_some_iff.1 hy
   simpa using this
theorem IndexFunc_row (xs:List Int) (a:Option Addr) (cap:Nat) (g:Nat) (lb:Array Value) (p:Int→Bool) (w:World)
 (eg:∀ args w,(callFunc g args).run Tryz.prog w=.ok (.enter g args) w) (hx:El w iv a xs) (hl:xs.length≤1000000000) (hp:Pred w g lb iv p xs) :
 Calls Tryz.prog 93 #[.slice a xs.length cap,.func (.func g) #[] lb] w fun e w'=>e=.returned (.int .i64 (idx p xs))∧Fr w w':=by
 go_enter Tryz.func93,Tryz.ntmps93
 go_wp2
 go_loopw [5,8] (fun _ s8 wr=>∃ k:Nat,s8=.int .i64 k∧k≤xs.length∧Fr w wr∧Hid (∀ j x,j < k→xs[j]?=some x→p x=false)) (fun _ s8 _=>xs.length - (RowKit.intOf s8).toNat)
 case atStart=>exact ⟨0,rfl,Nat.zero_le _,Fr.refl _,fun j x h=>absurd h (Nat.not_lt_zero _)⟩
 case round=>
  obtain ⟨k,rfl,hk,hf,hb⟩:=hrel
  by_cases hlt:k < xs.length
  ·obtain ⟨b,o,x,rfl,hbl,hxk,hcell⟩:=(hx.fr hf).at hlt
   have hpx:=hp x wr (List.mem_of_getElem? hxk) hf
   have hxk:=hZ hxk
   go_wp2_with fail
   refine hpx.mono ?_
   rintro e w1 ⟨rfl,hf1⟩
   go_wp2_with fail
   ·have hpt:p x=true:=by assumption
    go_ret
    exact ⟨ret_int (idx_found hb.out hxk.out hpt).symm,hf.trans hf1⟩
   ·have hpf:p x=false:=by assumption
    go_roundw
    case rel=>exact ⟨k+1,by go_num,by omega,hf.trans hf1,idx_step hb.out hxk.out hpf⟩
    case measure=>simp [RowKit.intOf]; omega
  ·go_wp2_with fail
   go_ret
   exact ⟨ret_int (idx_none (by rw [show xs.length=k by omega]; exact hb.out)).symm,hf⟩
theorem ContainsFunc_row (xs:List Int) (a:Option Addr) (cap:Nat) (g:Nat) (lb:Array Value) (p:Int→Bool) (w:World)
 (eg:∀ args w,(callFunc g args).run Tryz.prog w=.ok (.enter g args) w) (hx:El w iv a xs) (hl:xs.length≤1000000000) (hp:Pred w g lb iv p xs) :
 Calls Tryz.prog 53 #[.slice a xs.length cap,.func (.func g) #[] lb] w fun e w'=>e=.returned (.bool (xs.any p))∧Fr w w':=by
 rw [← idx_any]
 have hc:=IndexFunc_row xs a cap g lb p w eg hx hl hp
 clear hp
 go_enter Tryz.func53,Tryz.ntmps53
 go_wp2_with fail
 refine hc.mono ?_
 rintro e w' ⟨rfl,hf⟩
 go_wp2_with fail
 go_ret
 exact ⟨rfl,hf⟩
end Go.Proofs.YtiniigadkknboaaGreatDoor
