/- Contracts and laws: VA. -/
import Derived.Lib.AtoiAll
import Derived.Lib.ItoaLen
import Derived.Lib.ItoaMem
import Derived.Lib.ParseIntB
import GoSem.Op.String
import Derived.Laws.Strings
import Derived.Test.YtmalpgbbddkdcaaGreatDoorProg
import Derived.WalkKit
import Derived.WalkLawsBesides
import Derived.WalkSpells
import Derived.Outline
import Derived.Lib.Hide
import Derived.BigQuiet
import Derived.Deep.QuietTactic
import Derived.Lib.LaidTab
import Derived.Test.YtmalpgbbddkdcaaGreatDoorShelf
import Derived.Lib.AtoiErrMem
import Derived.Lib.ParseIntBTie
import Derived.LoopTactic
import Derived.Deep.RegionHeld3
import Derived.Deep.RegionWith
import Derived.Deep.DrawnRows
import Derived.Deep.LoopGhost
import Derived.Deep.AppendLies
import Derived.Maps.AppendAt

set_option maxRecDepth 100000
set_option maxHeartbeats 4000000
namespace Go.Proofs.YtmalpgbbddkdcaaGreatDoor
open Go.Lib
theorem hZ {p:Prop} (h:p):Go.RowKit.Hid p:=h

def tx (n:Int):ByteArray:=⟨(itoa n).toArray⟩
def digVal (acc:Nat):List UInt8→Nat
 | []=>acc
 | c :: r=>digVal (acc * 10+(c.toNat - 48)) r
theorem digVal_append (l m:List UInt8) (a:Nat):digVal a (l ++ m)=digVal (digVal a l) m:=by
 induction l generalizing a with
 | nil=>rfl
 | cons c r ih=>exact ih _
theorem dig_toNat (k:Nat) (h:k < 10):(UInt8.ofNat (48+k)).toNat=48+k:=by
 rw [UInt8.toNat_ofNat']
 exact Nat.mod_eq_of_lt (Nat.lt_of_lt_of_le (show 48+k < 58 by omega) (by decide))
theorem digVal_dec (u:Nat):digVal 0 (decDigits u)=u:=by
 induction u using Nat.strongRecOn with
 | _ u ih=>
   by_cases h:u < 10
   ·rw [decDigits,dif_pos h]
    show 0 * 10+((UInt8.ofNat (48+u)).toNat - 48)=u
    rw [dig_toNat u h]; omega
   ·rw [decDigits,dif_neg h,digVal_append,ih (u / 10) (by omega)]
    show u / 10 * 10+((UInt8.ofNat (48+u % 10)).toNat - 48)=u
    rw [dig_toNat (u % 10) (by omega)]; omega
theorem dec_digits (u:Nat):∀ c ∈ decDigits u,48≤c.toNat∧c.toNat≤57:=by
 induction u using Nat.strongRecOn with
 | _ u ih=>
   by_cases h:u < 10
   ·rw [decDigits,dif_pos h]; intro c hc
    simp only [List.mem_singleton] at hc; subst hc; rw [dig_toNat u h]; omega
   ·rw [decDigits,dif_neg h]; intro c hc
    rcases List.mem_append.1 hc with hc | hc
    ·exact ih (u / 10) (by omega) c hc
    ·simp only [List.mem_singleton] at hc; subst hc; rw [dig_toNat (u % 10) (by omega)]; omega
theorem dec_ne (u:Nat):decDigits u≠[]:=by
 intro h
 have:=decDigits_length u
 rw [h] at this
 have:=nDigits_pos u
 simp at *; omega
theorem dec_inj {u v:Nat} (h:decDigits u=decDigits v):u=v:=by
 have:=digVal_dec u; rw [h,digVal_dec] at this; exact this.symm
theorem itoa_inj {n m:Int} (h:itoa n=itoa m):n=m:=by
 unfold itoa at h
 have hd:∀ u c r,decDigits u=c :: r→48≤c.toNat:=fun u c r e=>(dec_digits u c (by rw [e]; simp)).1
 split at h <;> split at h
 ·injection h with _ h; have:=dec_inj h; omega
 ·have:=hd _ _ _ h.symm; simp at this
 ·have:=hd _ _ _ h; simp at this
 ·have:=dec_inj h; omega
theorem tx_list (n:Int):(tx n).data.toList=itoa n:=by simp [tx]
theorem tx_size (n:Int):(tx n).size=(itoa n).length:=by simp [tx,ByteArray.size]
theorem itoa_nn {n:Int} (h:0≤n):itoa n=decDigits n.toNat:=by unfold itoa; rw [if_neg (by omega)]
theorem itoa_ng {n:Int} (h:n < 0):itoa n=45 :: decDigits n.natAbs:=by unfold itoa; rw [if_pos h]
theorem itoa_len_pos (n:Int):0 < (itoa n).length:=by
 by_cases h:n < 0
 ·rw [itoa_ng h]; simp
 ·rw [itoa_nn (by omega)]; exact List.length_pos_iff.2 (dec_ne _)
theorem tx_pos (n:Int):0 < (tx n).size:=by rw [tx_size]; exact itoa_len_pos n
theorem nDigits_le (k u:Nat) (hk:1≤k) (h:u < 10 ^ k):nDigits u≤k:=by
 induction k generalizing u with
 | zero=>omega
 | succ k ih=>
   by_cases h9:u < 10
   ·rw [nDigits_small h9]; omega
   ·rw [nDigits_big h9]
    by_cases hk0:k=0
    ·subst hk0; simp at h; omega
    ·have:=ih (u / 10) (by omega) (by rw [Nat.pow_succ] at h; omega)
     omega
theorem tx_size_le (k:Nat) (n:Int) (hk:1≤k) (h:n.natAbs < 10 ^ k):(tx n).size≤k+1:=by
 rw [tx_size]
 by_cases h0:n < 0
 ·rw [itoa_ng h0]; have:=nDigits_le k n.natAbs hk h; simp [decDigits_length]; omega
 ·rw [itoa_nn (by omega),decDigits_length]
  have:=nDigits_le k n.toNat hk (by omega); omega
theorem tx_get {n:Int} {c:UInt8} {r:List UInt8} (h:itoa n=c :: r) (hp:0 < (tx n).size):(tx n)[0]'hp=c:=by
 have e:(tx n).data=(c :: r).toArray:=by simp [tx,h]
 show (tx n).data[0]=c
 simp [e]
theorem tx_head_ng {n:Int} (h:n < 0) (hp:0 < (tx n).size):((((tx n)[0]'hp).toNat:Int) == 45)=true:=by
 rw [tx_get (itoa_ng h) hp]; rfl
theorem tx_head_nn {n:Int} (h:0≤n) (hp:0 < (tx n).size):((((tx n)[0]'hp).toNat:Int) == 45)=false:=by
 cases e:itoa n with
 | nil=>have:=itoa_len_pos n; rw [e] at this; simp at this
 | cons c r=>
   rw [tx_get e hp]
   have e2:=itoa_nn h
   have:=(dec_digits n.toNat c (by rw [← e2,e]; simp)).1
   simp; omega
theorem ba_ext {a b:ByteArray} (h:a.data.toList=b.data.toList):a=b:=by
 cases a; cases b; congr; exact Array.toList_inj.1 h
theorem tx_tail {n:Int} (h:n < 0):(tx n).extract 1 (tx n).size=tx (-n):=by
 refine ba_ext ?_
 have h1:itoa n=45 :: itoa (-n):=by
  rw [itoa_ng h,itoa_nn (by omega)]; congr 2; omega
 rw [tx_list,ByteArray.data_extract,Array.toList_extract]
 have e:(tx n).data.toList=45 :: itoa (-n):=by rw [tx_list,h1]
 have e2:(tx n).size=(itoa (-n)).length+1:=by rw [tx_size,h1]; rfl
 rw [e,e2]; simp [List.extract]
theorem tx_join {n:Int} (h:0 < n):(⟨#[45]⟩:ByteArray) ++ tx n=tx (-n):=by
 refine ba_ext ?_
 rw [tx_list,itoa_ng (by omega),ByteArray.data_append,Array.toList_append,tx_list,itoa_nn (by omega)]
 simp; congr 1; omega
theorem tx_zero:tx 0=⟨#[48]⟩:=by decide +kernel
theorem tx_one:tx 1=⟨#[49]⟩:=by decide +kernel
theorem parseUint10_dig:∀ (l:List UInt8) (acc:Nat),(∀ c ∈ l,48≤c.toNat∧c.toNat≤57)→digVal acc l < 18446744073709551616→parseUint10 acc l=.ok (digVal acc l)
 | [],acc,_,_=>rfl
 | c :: r,acc,hd,hb=>by
   have hc:=hd c (by simp)
   have mono:∀ (l:List UInt8) (a:Nat),a≤digVal a l:=by
    intro l; induction l with
    | nil=>intro a; exact Nat.le_refl _
    | cons x l ih=>intro a; exact Nat.le_trans (by omega) (ih (a * 10+(x.toNat - 48)))
   have hb:digVal (acc * 10+(c.toNat - 48)) r < 18446744073709551616:=hb
   show _=NumEnd.ok (digVal (acc * 10+(c.toNat - 48)) r)
   have hm:=mono r (acc * 10+(c.toNat - 48))
   rw [parseUint10,if_pos hc,if_neg (by omega),if_neg (by omega)]
   exact parseUint10_dig r _ (fun x hx=>hd x (by simp [hx])) hb
theorem parseMag_dec (u:Nat) (h:u < 18446744073709551616):parseMag (decDigits u)=.ok u:=by
 unfold parseMag
 rw [if_neg (dec_ne u),parseUint10_dig _ _ (dec_digits u) (by rw [digVal_dec]; exact h),digVal_dec]
theorem atoiAll_itoa (n:Int) (h0:-9223372036854775808≤n) (h1:n≤9223372036854775807):atoiAll (tx n).data.toList=.ok n:=by
 rw [tx_list]
 by_cases h:n < 0
 ·rw [itoa_ng h]
  simp only [atoiAll]
  rw [if_pos (by right; rfl),parseMag_dec _ (by omega)]
  have e45:(45:UInt8).toNat=45:=rfl
  simp only [e45,not_true_eq_false,false_and,if_false,true_and,if_true]
  rw [if_neg (by omega)]
  congr 1; omega
 ·have e:=itoa_nn (n:=n) (by omega)
  rw [e]
  cases ed:decDigits n.toNat with
  | nil=>exact absurd ed (dec_ne _)
  | cons c r=>
    have hc:=dec_digits n.toNat c (by rw [ed]; simp)
    have hp:=parseMag_dec n.toNat (by omega)
    rw [ed] at hp
    simp only [atoiAll]
    rw [if_neg (by omega),hp]
    have h45:¬ c.toNat=45:=by omega
    simp only [h45,not_false_eq_true,true_and,false_and,if_false]
    rw [if_neg (by omega)]
    congr 1; omega
theorem digVal_bound:∀ (l:List UInt8) (a:Nat),(∀ c ∈ l,48≤c.toNat∧c.toNat≤57)→a * 10 ^ l.length≤digVal a l∧digVal a l < (a+1) * 10 ^ l.length
 | [],a,_=>⟨by show a * 1≤a; omega,by show a < (a+1) * 1; omega⟩
 | c :: r,a,h=>by
   have hc:=h c (by simp)
   obtain ⟨h1,h2⟩:=digVal_bound r (a * 10+(c.toNat - 48)) (fun x hx=>h x (by simp [hx]))
   have e:(c :: r).length=r.length+1:=rfl
   have q1:a * 10 ^ (r.length+1)=(a * 10) * 10 ^ r.length:=by rw [Nat.pow_succ,Nat.mul_comm (10 ^ r.length) 10,← Nat.mul_assoc]
   have q2:(a+1) * 10 ^ (r.length+1)=(a * 10+10) * 10 ^ r.length:=by rw [Nat.pow_succ,Nat.mul_comm (10 ^ r.length) 10,← Nat.mul_assoc,Nat.add_mul a 1 10]
   rw [e,q1,q2]
   exact ⟨Nat.le_trans (Nat.mul_le_mul_right _ (by omega)) h1,Nat.lt_of_lt_of_le h2 (Nat.mul_le_mul_right _ (by omega))⟩
theorem less_dig:∀ (l m:List UInt8) (a:Nat),(∀ c ∈ l,48≤c.toNat∧c.toNat≤57)→(∀ c ∈ m,48≤c.toNat∧c.toNat≤57)→l.length=m.length →
 Op.bytesLess l m=decide (digVal a l < digVal a m)
 | [],[],a,_,_,_=>by
   show false=decide (a < a); simp
 | [],_ :: _,_,_,_,h=>by simp at h
 | _ :: _,[],_,_,_,h=>by simp at h
 | c :: l,d :: m,a,hl,hm,h=>by
   have hc:=hl c (by simp)
   have hd:=hm d (by simp)
   have hl':∀ x ∈ l,48≤x.toNat∧x.toNat≤57:=fun x hx=>hl x (by simp [hx])
   have hm':∀ x ∈ m,48≤x.toNat∧x.toNat≤57:=fun x hx=>hm x (by simp [hx])
   have hlen:l.length=m.length:=by simpa using h
   obtain ⟨a1,a2⟩:=digVal_bound l (a * 10+(c.toNat - 48)) hl'
   obtain ⟨b1,b2⟩:=digVal_bound m (a * 10+(d.toNat - 48)) hm'
   show (decide (c < d) || (c == d && Op.bytesLess l m))=decide (digVal (a * 10+(c.toNat - 48)) l < digVal (a * 10+(d.toNat - 48)) m)
   rw [hlen] at a1 a2
   rcases Nat.lt_trichotomy c.toNat d.toNat with hlt | heq | hgt
   ·have e1:c < d:=UInt8.lt_iff_toNat_lt.2 hlt
    have:(a * 10+(c.toNat - 48)+1) * 10 ^ m.length≤(a * 10+(d.toNat - 48)) * 10 ^ m.length:=Nat.mul_le_mul_right _ (by omega)
    rw [decide_eq_true e1,Bool.true_or]
    exact (decide_eq_true (Nat.lt_of_lt_of_le a2 (Nat.le_trans this b1))).symm
   ·obtain rfl:c=d:=UInt8.toNat_inj.1 heq
    have e1:¬ c < c:=fun h=>Nat.lt_irrefl _ (UInt8.lt_iff_toNat_lt.1 h)
    rw [decide_eq_false e1,beq_self_eq_true,Bool.false_or,Bool.true_and]
    exact less_dig l m _ hl' hm' hlen
   ·have e1:¬ c < d:=fun h=>by have:=UInt8.lt_iff_toNat_lt.1 h; omega
    have e2:(c == d)=false:=by
     rw [beq_eq_false_iff_ne]; intro h; rw [h] at hgt; omega
    have:(a * 10+(d.toNat - 48)+1) * 10 ^ m.length≤(a * 10+(c.toNat - 48)) * 10 ^ m.length:=Nat.mul_le_mul_right _ (by omega)
    rw [decide_eq_false e1,e2,Bool.false_and,Bool.false_or]
    refine (decide_eq_false ?_).symm
    have:=Nat.lt_of_lt_of_le b2 (Nat.le_trans this a1)
    omega
theorem less_dec (u v:Nat) (h:(decDigits u).length=(decDigits v).length):Op.bytesLess (decDigits u) (decDigits v)=decide (u < v):=by
 rw [less_dig _ _ 0 (dec_digits u) (dec_digits v) h,digVal_dec,digVal_dec]
theorem pow_le_of_nDigits (u:Nat) (h:2≤nDigits u):10 ^ (nDigits u - 1)≤u:=by
 induction u using Nat.strongRecOn with
 | _ u ih=>
   by_cases h9:u < 10
   ·rw [nDigits_small h9] at h; omega
   ·rw [nDigits_big h9]
    by_cases h2:2≤nDigits (u / 10)
    ·have:=ih (u / 10) (by omega) h2
     have e:nDigits (u / 10)+1 - 1=(nDigits (u / 10) - 1)+1:=by omega
     rw [e,Nat.pow_succ]; omega
    ·have:=nDigits_pos (u / 10)
     have e:nDigits (u / 10)=1:=by omega
     rw [e]; show 10 ^ 1≤u; omega
theorem lt_of_nDigits_lt (u v:Nat) (h:nDigits u < nDigits v):u < v:=by
 have h1:=lt_pow_nDigits u
 have h2:=pow_le_of_nDigits v (by have:=nDigits_pos u; omega)
 have h3:10 ^ nDigits u≤10 ^ (nDigits v - 1):=Nat.pow_le_pow_right (by decide) (by omega)
 omega
theorem tx_toList (n:Int):(tx n).toList=itoa n:=by rw [ByteArray.toList_eq,tx_list]
theorem tx_beq (n m:Int):((tx n).toList == itoa m)=decide (n=m):=by
 rw [tx_toList]
 by_cases h:n=m
 ·subst h; simp
 ·rw [decide_eq_false h]
  rw [beq_eq_false_iff_ne]; exact fun e=>h (itoa_inj e)
theorem itoa0:itoa 0=[48]:=by decide +kernel
theorem tx_beq0 (n:Int):((tx n).toList == [48])=decide (n=0):=by rw [← itoa0]; exact tx_beq n 0
theorem tx_beqs (n m:Int):((tx n).toList == (tx m).toList)=decide (n=m):=by rw [tx_toList m]; exact tx_beq n m
theorem tx_less (u v:Nat) (h:(tx u).size=(tx v).size):Op.bytesLess (tx u).toList (tx v).toList=decide (u < v):=by
 rw [tx_size,tx_size,itoa_nn (by omega),itoa_nn (by omega)] at h
 rw [tx_toList,tx_toList,itoa_nn (by omega),itoa_nn (by omega)]
 exact less_dec u v h
theorem tx_size_nat (u:Nat):(tx (u:Int)).size=nDigits u:=by
 rw [tx_size,itoa_nn (by omega),decDigits_length]; rfl
end Go.Proofs.YtmalpgbbddkdcaaGreatDoor
namespace Go.Proofs.YtmalpgbbddkdcaaGreatDoor
open Go.RowKit Go.Lib
def G (w : World) : Prop := TabIs Tryz.prog w "internal/strconv.uint64pow10" .u64 pow10Tab
def Fr (w w':World):Prop:=Below w.heap.size w w'
theorem Fr.refl (w:World):Fr w w:=Below.refl _ _
theorem Fr.of_eq {w w':World} (h:w=w'):Fr w w':=h ▸ Fr.refl w
theorem Fr.size {w w':World} (h:Fr w w'):w.heap.size≤w'.heap.size:=Below.size h
theorem Fr.trans {a b c:World} (h:Fr a b) (k:Fr b c):Fr a c:=Below.trans h (Below.mono k h.size)
theorem Fr.drew {a b:World} (h:Fr a b):Fr a b.drew:=Below.drew h
theorem Fr.drewN {a b:World} (h:Fr a b) (n:Nat):Fr a (b.drewN n) :=
 have h:Below a.heap.size a b:=h
 show Below a.heap.size a (b.drewN n) from ⟨h.os,h.tape,h.output,h.size,h.block⟩
theorem Fr.alloc {a b:World} (h:Fr a b) (o:Obj):Fr a (b.alloc o):=Below.alloc h h.size o
theorem Fr.setCell {a b:World} (h:Fr a b) {p:Addr} (hp:a.heap.size≤p.block) (u:Value):Fr a (b.setCell p u):=Below.setCell h hp u
theorem Fr.grown {a b c:World} {row:Option Nat} (h:Fr a b) (hg:b.grownBy c row) (hr:∀ k,row=some k→a.heap.size≤k):Fr a c :=
 Below.grown h hg h.size hr
theorem fr9 {a b:World} (h:Fr a b:=by repeat (with_reducible first | assumption | exact Fr.refl _ | refine Fr.drew ?_ | refine Fr.drewN ?_ _ | refine Fr.alloc ?_ _ | (refine Fr.setCell ?_ (by simp only [World.size_alloc,World.size_drew,World.size_setCell]; omega) _) | refine Fr.trans ?_ (by assumption))):Fr a b:=h
theorem Fr.cell {w w':World} (h:Fr w w') {p:Addr} (hp:p.block < w.heap.size):w'.cell? p=w.cell? p:=Below.cell h hp
theorem Fr.frozen {w w':World} (h:Fr w w') {p:Addr} (hp:p.block < w.heap.size):w'.frozen? p=w.frozen? p:=Below.frozen h hp
theorem Fr.keep {w w':World} (h:Fr w w') {p:Addr} {v:Value} (hc:w.cell? p=some v):w'.cell? p=some v:=by
 rw [h.cell (World.block_lt_of_cell? w p hc)]; exact hc
theorem Fr.keepf {w w':World} (h:Fr w w') {p:Addr} {v:Value} {b:Bool} (hc:w.cell? p=some v) (hf:w.frozen? p=b):w'.frozen? p=b:=by
 rw [h.frozen (World.block_lt_of_cell? w p hc)]; exact hf
def Qt (w w':World):Prop:=∃ n,w'=w.drewN n
theorem Qt.refl (w:World):Qt w w:=⟨0,rfl⟩
theorem Qt.trans {a b c:World} (h:Qt a b) (k:Qt b c):Qt a c:=by
 obtain ⟨n,rfl⟩:=h; obtain ⟨m,rfl⟩:=k; exact ⟨n+m,by simp [World.drewN,Nat.add_assoc]⟩
theorem Qt.drewN {a b:World} (h:Qt a b) (n:Nat):Qt a (b.drewN n):=h.trans ⟨n,rfl⟩
theorem Qt.fr {w w':World} (h:Qt w w'):Fr w w':=by obtain ⟨n,rfl⟩:=h; exact (Fr.refl w).drewN n
theorem var_lt {P:Program} {g:Nat} {W:World} {n:String} {cs:Array Value} (hg:P.globalNamed n=some g) (hv:W.var? P n=some cs):g < W.heap.size:=by
 unfold World.var? at hv
 simp only [hg,Option.bind_some] at hv
 by_cases h:g < W.heap.size
 ·exact h
 ·rw [Array.getElem?_eq_none (by omega)] at hv; simp at hv
theorem gnum : Tryz.prog.globalNamed "internal/strconv.uint64pow10" = some 2 := by kernel_rfl
theorem G.fr {w w':World} (h:G w) (k:Fr w w'):G w':=var?_below k gnum (var_lt gnum h) h
theorem G.lt {w:World} (h:G w):2 < w.heap.size:=var_lt gnum h
end Go.Proofs.YtmalpgbbddkdcaaGreatDoor
namespace Go.Proofs.YtmalpgbbddkdcaaGreatDoor
open Go.RowKit Go.Lib Go.Sort
theorem fr_grow (w:World) (k:Nat) (os:Array Obj):Fr w (grow (w.drewN k) os):=
 (show Below w.heap.size w (grow (w.drewN k) os) from ⟨rfl,rfl,rfl,by simp [grow],fun i hi=>by simp [grow,Array.getElem?_append,hi]⟩)
theorem fr_bytes {w w':World} {e:TypeId} (h:w'=w∨∃ t,w'=bytesWorld w e t):Fr w w':=by
 rcases h with rfl | ⟨t,rfl⟩
 ·exact Fr.refl _
 ·exact bytesWorld_below w e t
theorem itoa_any (n:Int) (h0:-9223372036854775808≤n) (h1:n≤9223372036854775807) (w:World) (hG:G w) :
 Calls Tryz.prog 139 #[.int .i64 n] w fun e w'=>e=.returned (.string (tx n))∧Fr w w' :=
 (Tryz.strconv_Itoa n h0 h1 w hG).mono (by rintro e w' ⟨rfl,k,os,rfl⟩; exact ⟨rfl,fr_grow _ _ _⟩)
theorem atoi_any (n:Int) (h0:-9223372036854775808≤n) (h1:n≤9223372036854775807) (w:World) :
 Calls Tryz.prog 211 #[.string (tx n)] w fun e w'=>e=.returned (.tuple #[.int .i64 n,.nilIface])∧Fr w w' :=
 (Tryz.strconv_Atoi_ok (tx n) (by have:=tx_size_le 19 n (by omega) (by omega); omega) n (atoiAll_itoa n h0 h1) w).mono (by rintro e w' ⟨rfl,h⟩; exact ⟨rfl,fr_bytes h⟩)
theorem Of_any (n:Int) (h0:-9223372036854775808≤n) (h1:n≤9223372036854775807) (w:World) (hG:G w) :
 Calls Tryz.prog 97 #[.int .i64 n] w fun e w'=>e=.returned (.string (tx n))∧Fr w w':=by
 go_enter Tryz.func97,Tryz.ntmps97
 go_wp2_with (go_at_call 139; refine (itoa_any _ h0 h1 _ hG).mono ?_; rintro e w' ⟨rfl,hf⟩)
 go_ret
 exact ⟨rfl,hf⟩
theorem split_ngQ (n:Int) (hn:n < 0) (w:World) (hs:(tx n).size≤1000000000) :
 Calls Tryz.prog 148 #[.string (tx n)] w fun e w'=>e=.returned (.tuple #[.bool true,.string (tx (-n))])∧Qt w w':=by
 have h1:=tx_pos n
 have h2:=tx_head_ng hn h1
 have h3:=hZ (tx_tail hn)
 generalize tx n=s at *
 go_enter Tryz.func148,Tryz.ntmps148
 go_wp2
 go_quiet (fail)
 go_wp2
 go_ret2
 exact ⟨by rw [h3.out]; rfl,by repeat (with_reducible first | assumption | exact Qt.refl _ | refine Qt.drew ?_ | refine Qt.drewN ?_ _ | refine Qt.trans ?_ (by assumption))⟩
theorem split_ng (n:Int) (hn:n < 0) (w:World) (hs:(tx n).size≤1000000000) :
 Calls Tryz.prog 148 #[.string (tx n)] w fun e w'=>e=.returned (.tuple #[.bool true,.string (tx (-n))])∧Fr w w' :=
 (split_ngQ n hn w hs).mono fun _ _ ⟨h,k⟩=>⟨h,k.fr⟩
theorem split_nnQ (n:Int) (hn:0≤n) (w:World) (_hs:(tx n).size≤1000000000) :
 Calls Tryz.prog 148 #[.string (tx n)] w fun e w'=>e=.returned (.tuple #[.bool false,.string (tx n)])∧Qt w w':=by
 have h1:=tx_pos n
 have h2:=tx_head_nn hn h1
 generalize tx n=s at *
 go_enter Tryz.func148,Tryz.ntmps148
 go_wp2
 go_ret2
 exact ⟨rfl,Qt.refl _⟩
theorem split_nn (n:Int) (hn:0≤n) (w:World) (_hs:(tx n).size≤1000000000) :
 Calls Tryz.prog 148 #[.string (tx n)] w fun e w'=>e=.returned (.tuple #[.bool false,.string (tx n)])∧Fr w w' :=
 (split_nnQ n hn w _hs).mono fun _ _ ⟨h,k⟩=>⟨h,k.fr⟩
theorem join_any (b:Bool) (n:Int) (hn:0≤n) (w:World) (_hs:(tx n).size≤1000000000) :
 Calls Tryz.prog 149 #[.bool b,.string (tx n)] w fun e w'=>e=.returned (.string (tx (if b then -n else n)))∧w=w':=by
 cases b
 ·go_enter Tryz.func149,Tryz.ntmps149
  go_wp2
  go_ret
  exact ⟨by simp,rfl⟩
 ·by_cases h:n=0
  ·have hb:((tx n).toList == [48])=true:=by rw [tx_beq0]; simp [h]
   have hh:=hZ h; clear h
   go_enter Tryz.func149,Tryz.ntmps149
   go_wp2
   go_ret
   exact ⟨by rw [hh.out]; rfl,rfl⟩
  ·have hb:((tx n).toList == [48])=false:=by rw [tx_beq0]; simp [h]
   have hj:=hZ (tx_join (n:=n) (by omega)); clear h
   go_enter Tryz.func149,Tryz.ntmps149
   go_wp2
   go_ret
   exact ⟨by rw [hj.out]; rfl,rfl⟩
theorem little_ok (n most:Int) (h0:-9223372036854775808≤n) (h1:n≤9223372036854775807) (w:World) (hs:((tx n).size:Int)≤most) :
 Calls Tryz.prog 147 #[.string (tx n),.int .i64 most] w fun e w'=>e=.returned (.tuple #[.int .i64 n,.bool true])∧Fr w w':=by
 go_enter Tryz.func147,Tryz.ntmps147
 go_wp2_with (go_at_call 211; refine (atoi_any _ h0 h1 _).mono ?_; rintro e w' ⟨rfl,hf⟩)
 go_quiet (fail)
 go_wp2
 go_ret2
 exact ⟨rfl,by exact fr9⟩
theorem little_no (n most:Int) (w:World) (hs:most < ((tx n).size:Int)) (_hb:(tx n).size≤1000000000) :
 Calls Tryz.prog 147 #[.string (tx n),.int .i64 most] w fun e w'=>e=.returned (.tuple #[.int .i64 0,.bool false])∧w=w':=by
 go_enter Tryz.func147,Tryz.ntmps147
 go_wp2
 go_ret2
 exact ⟨rfl,rfl⟩
theorem Sign_any (n:Int) (w:World) :
 Calls Tryz.prog 209 #[.string (tx n)] w fun e w'=>e=.returned (.int .i64 n.sign)∧w=w':=by
 have hp:=tx_pos n
 have hb:=tx_beq0 n
 rcases Int.lt_trichotomy n 0 with h | h | h
 ·have h2:=tx_head_ng h hp
  rw [decide_eq_false (by omega)] at hb
  have hs:=hZ (Int.sign_eq_neg_one_of_neg h); clear h
  go_enter Tryz.func209,Tryz.ntmps209
  go_wp2
  go_ret
  exact ⟨by rw [hs.out]; rfl,rfl⟩
 ·rw [decide_eq_true h] at hb
  have hs:=hZ h; clear h
  go_enter Tryz.func209,Tryz.ntmps209
  go_wp2
  go_ret
  exact ⟨by rw [hs.out]; rfl,rfl⟩
 ·have h2:=tx_head_nn (by omega) hp
  rw [decide_eq_false (by omega)] at hb
  have hs:=hZ (Int.sign_eq_one_of_pos h); clear h
  go_enter Tryz.func209,Tryz.ntmps209
  go_wp2
  go_ret
  exact ⟨by rw [hs.out]; rfl,rfl⟩
def cmpI (a b:Int):Int:=if a < b then -1 else if b < a then 1 else 0
theorem ret_int {k:IntKind} {a b:Int} (h:a=b):Ending.returned (.int k a)=Ending.returned (.int k b):=by rw [h]
theorem cmp_nat (u v:Nat) (w:World) (hu:nDigits u < 1000000000) (hv:nDigits v < 1000000000) :
 Calls Tryz.prog 151 #[.string (tx u),.string (tx v)] w fun e w'=>e=.returned (.int .i64 (cmpI u v))∧w=w':=by
 have su:=tx_size_nat u
 have sv:=tx_size_nat v
 have hl1:=tx_less u v
 have hl2:=tx_less v u
 have he:=tx_beqs u v
 generalize hx:tx (u:Int)=s at *
 generalize hy:tx (v:Int)=t at *
 clear hx hy
 have hu':s.size < 1000000000:=by omega
 have hv':t.size < 1000000000:=by omega
 by_cases h:s.size=t.size
 ·have l1:=hl1 h
  have l2:=hl2 h.symm
  have hne:((s.size:Int) != t.size)=false:=by rw [h]; simp
  clear hl1 hl2
  have h:=hZ h
  rcases Nat.lt_trichotomy u v with k | k | k
  ·rw [decide_eq_true k] at l1
   have hh:=hZ k; clear l2 he k su sv
   go_enter Tryz.func151,Tryz.ntmps151
   go_wp2
   go_ret
   exact ⟨ret_int (by have:=hh.out; unfold cmpI; rw [if_pos (by omega)]),rfl⟩
  ·rw [decide_eq_false (by omega)] at l1 l2
   rw [decide_eq_true (by omega)] at he
   have hh:=hZ k; clear k su sv l2
   go_enter Tryz.func151,Tryz.ntmps151
   go_wp2
   go_ret
   exact ⟨ret_int (by have:=hh.out; unfold cmpI; rw [if_neg (by omega),if_neg (by omega)]),rfl⟩
  ·rw [decide_eq_false (by omega)] at l1
   rw [decide_eq_false (by omega)] at he
   have hh:=hZ k; clear k su sv l2
   go_enter Tryz.func151,Tryz.ntmps151
   go_wp2
   go_ret
   exact ⟨ret_int (by have:=hh.out; unfold cmpI; rw [if_neg (by omega),if_pos (by omega)]),rfl⟩
 ·have hne:((s.size:Int) != t.size)=true:=by rw [bne_iff_ne]; omega
  have k1:=lt_of_nDigits_lt u v
  have k2:=lt_of_nDigits_lt v u
  have k1:=hZ k1
  have k2:=hZ k2
  have hh:=hZ h
  have su:=hZ su
  have sv:=hZ sv
  clear hl1 hl2 he h
  rename_i k1' k2' su' sv'
  clear k1' k2' su' sv'
  go_enter Tryz.func151,Tryz.ntmps151
  go_wp2
  go_ret
  refine ⟨ret_int ?_,rfl⟩
  have k1:=k1.out; have k2:=k2.out; have hh:=hh.out; have su:=su.out; have sv:=sv.out
  show min 1 (max (-1) ((s.size:Int) - t.size))=_
  unfold cmpI
  by_cases q:s.size < t.size
  ·rw [if_pos (by have:=k1 (by omega); omega)]; omega
  ·rw [if_neg (by have:=k2 (by omega); omega),if_pos (by have:=k2 (by omega); omega)]; omega
theorem Neg_anyQ (n:Int) (w:World) (hs:(tx n).size≤1000000000) :
 Calls Tryz.prog 233 #[.string (tx n)] w fun e w'=>e=.returned (.string (tx (-n)))∧Qt w w':=by
 by_cases h:n < 0
 ·have hs':(tx (-n)).size≤1000000000:=by rw [← tx_tail h,ByteArray.size_extract]; omega
  go_enter Tryz.func233,Tryz.ntmps233
  go_wp2_with (first | (go_at_call 148; refine (split_ngQ _ h _ hs).mono ?_; rintro e w' ⟨rfl,hf⟩) | (go_at_call 149; refine (join_any false _ (by omega) _ hs').mono ?_; rintro e w' ⟨rfl,rfl⟩))
  go_ret
  exact ⟨by simp,by repeat (with_reducible first | assumption | exact Qt.refl _ | refine Qt.drew ?_ | refine Qt.drewN ?_ _ | refine Qt.trans ?_ (by assumption))⟩
 ·go_enter Tryz.func233,Tryz.ntmps233
  go_wp2_with (first | (go_at_call 148; refine (split_nnQ _ (by omega) _ hs).mono ?_; rintro e w' ⟨rfl,hf⟩) | (go_at_call 149; refine (join_any true _ (by omega) _ hs).mono ?_; rintro e w' ⟨rfl,rfl⟩))
  go_ret
  exact ⟨by simp,by repeat (with_reducible first | assumption | exact Qt.refl _ | refine Qt.drew ?_ | refine Qt.drewN ?_ _ | refine Qt.trans ?_ (by assumption))⟩
theorem Neg_any (n:Int) (w:World) (hs:(tx n).size≤1000000000) :
 Calls Tryz.prog 233 #[.string (tx n)] w fun e w'=>e=.returned (.string (tx (-n)))∧Fr w w' :=
 (Neg_anyQ n w hs).mono fun _ _ ⟨h,k⟩=>⟨h,k.fr⟩
theorem Abs_anyQ (n:Int) (w:World) (hs:(tx n).size≤1000000000) :
 Calls Tryz.prog 208 #[.string (tx n)] w fun e w'=>e=.returned (.string (tx (n.natAbs:Int)))∧Qt w w':=by
 by_cases h:n < 0
 ·have e:=hZ (show (n.natAbs:Int)=-n by omega)
  go_enter Tryz.func208,Tryz.ntmps208
  go_wp2_with (go_at_call 148; refine (split_ngQ _ h _ hs).mono ?_; rintro e w' ⟨rfl,hf⟩)
  go_ret
  exact ⟨by rw [e.out]; rfl,by repeat (with_reducible first | assumption | exact Qt.refl _ | refine Qt.drew ?_ | refine Qt.drewN ?_ _ | refine Qt.trans ?_ (by assumption))⟩
 ·have e:=hZ (show (n.natAbs:Int)=n by omega)
  go_enter Tryz.func208,Tryz.ntmps208
  go_wp2_with (go_at_call 148; refine (split_nnQ _ (by omega) _ hs).mono ?_; rintro e w' ⟨rfl,hf⟩)
  go_ret
  exact ⟨by rw [e.out]; rfl,by repeat (with_reducible first | assumption | exact Qt.refl _ | refine Qt.drew ?_ | refine Qt.drewN ?_ _ | refine Qt.trans ?_ (by assumption))⟩
theorem cmp_int (a b:Int) (ha:0≤a) (hb:0≤b) (w:World) (hu:(tx a).size < 1000000000) (hv:(tx b).size < 1000000000) :
 Calls Tryz.prog 151 #[.string (tx a),.string (tx b)] w fun e w'=>e=.returned (.int .i64 (cmpI a b))∧w=w':=by
 obtain ⟨u,rfl⟩:=Int.eq_ofNat_of_zero_le ha
 obtain ⟨v,rfl⟩:=Int.eq_ofNat_of_zero_le hb
 exact cmp_nat u v w (by rw [← tx_size_nat]; exact hu) (by rw [← tx_size_nat]; exact hv)
theorem tx_neg_size (n:Int) (h:n < 0):(tx (-n)).size+1=(tx n).size:=by
 have:=tx_pos n
 rw [← tx_tail h,ByteArray.size_extract]; omega
theorem Compare_anyQ (a b:Int) (w:World) (hu:(tx a).size < 1000000000) (hv:(tx b).size < 1000000000) :
 Calls Tryz.prog 207 #[.string (tx a),.string (tx b)] w fun e w'=>e=.returned (.int .i64 (cmpI a b))∧Qt w w':=by
 by_cases hs:a.sign=b.sign
 ·have hne:(a.sign != b.sign)=false:=by rw [hs]; simp
  have hs':=hZ hs
  by_cases ha:a < 0
  ·have hb:b < 0:=by
    rw [Int.sign_eq_neg_one_of_neg ha] at hs
    exact Int.sign_eq_neg_one_iff_neg.1 hs.symm
   have sa:=tx_neg_size a ha
   have sb:=tx_neg_size b hb
   clear hs
   go_enter Tryz.func207,Tryz.ntmps207
   go_wp2_with fail
   refine (Sign_any a _).mono ?_; rintro e w' ⟨rfl,rfl⟩
   go_wp2_with fail
   refine (Sign_any b _).mono ?_; rintro e w' ⟨rfl,rfl⟩
   go_wp2_with fail
   refine (split_ngQ a ha _ (by omega)).mono ?_; rintro e w1 ⟨rfl,hf1⟩
   go_wp2_with fail
   refine (split_ngQ b hb _ (by omega)).mono ?_; rintro e w2 ⟨rfl,hf2⟩
   go_wp2_with fail
   refine (cmp_int (-b) (-a) (by omega) (by omega) _ (by omega) (by omega)).mono ?_; rintro e w' ⟨rfl,rfl⟩
   go_wp2_with fail
   go_ret
   exact ⟨ret_int (by unfold cmpI; split <;> split <;> omega),by repeat (with_reducible first | assumption | exact Qt.refl _ | refine Qt.drew ?_ | refine Qt.drewN ?_ _ | refine Qt.trans ?_ (by assumption))⟩
  ·have hb:¬ b < 0:=by
    intro hb
    rw [Int.sign_eq_neg_one_of_neg hb] at hs
    exact ha (Int.sign_eq_neg_one_iff_neg.1 hs)
   clear hs
   go_enter Tryz.func207,Tryz.ntmps207
   go_wp2_with fail
   refine (Sign_any a _).mono ?_; rintro e w' ⟨rfl,rfl⟩
   go_wp2_with fail
   refine (Sign_any b _).mono ?_; rintro e w' ⟨rfl,rfl⟩
   go_wp2_with fail
   refine (split_nnQ a (by omega) _ (by omega)).mono ?_; rintro e w1 ⟨rfl,hf1⟩
   go_wp2_with fail
   refine (split_nnQ b (by omega) _ (by omega)).mono ?_; rintro e w2 ⟨rfl,hf2⟩
   go_wp2_with fail
   refine (cmp_int a b (by omega) (by omega) _ hu hv).mono ?_; rintro e w' ⟨rfl,rfl⟩
   go_wp2_with fail
   go_ret
   exact ⟨rfl,by repeat (with_reducible first | assumption | exact Qt.refl _ | refine Qt.drew ?_ | refine Qt.drewN ?_ _ | refine Qt.trans ?_ (by assumption))⟩
 ·have hne:(a.sign != b.sign)=true:=by rw [bne_iff_ne]; exact hs
  by_cases hl:a.sign < b.sign
  ·have hd:decide (a.sign < b.sign)=true:=decide_eq_true hl
   have hc:a < b:=by
    rcases Int.lt_trichotomy a b with h | h | h
    ·exact h
    ·subst h; exact absurd rfl hs
    ·exfalso
     have s1:0≤a - b:=by omega
     rcases Int.lt_trichotomy a 0 with p | p | p <;> rcases Int.lt_trichotomy b 0 with q | q | q <;>
      simp [Int.sign_eq_neg_one_of_neg,Int.sign_eq_one_of_pos, *] at hl <;> omega
   have hc:=hZ hc
   clear hs
   go_enter Tryz.func207,Tryz.ntmps207
   go_wp2_with fail
   refine (Sign_any a _).mono ?_; rintro e w' ⟨rfl,rfl⟩
   go_wp2_with fail
   refine (Sign_any b _).mono ?_; rintro e w' ⟨rfl,rfl⟩
   go_wp2_with fail
   go_ret
   exact ⟨ret_int (by have:=hc.out; unfold cmpI; rw [if_pos this]),by repeat (with_reducible first | assumption | exact Qt.refl _ | refine Qt.drew ?_ | refine Qt.drewN ?_ _ | refine Qt.trans ?_ (by assumption))⟩
  ·have hd:decide (a.sign < b.sign)=false:=decide_eq_false hl
   have hc:b < a:=by
    rcases Int.lt_trichotomy a b with h | h | h
    ·exfalso
     rcases Int.lt_trichotomy a 0 with p | p | p <;> rcases Int.lt_trichotomy b 0 with q | q | q <;>
      simp [Int.sign_eq_neg_one_of_neg,Int.sign_eq_one_of_pos, *] at hl hs <;> omega
    ·subst h; exact absurd rfl hs
    ·exact h
   have hc:=hZ hc
   clear hs
   go_enter Tryz.func207,Tryz.ntmps207
   go_wp2_with fail
   refine (Sign_any a _).mono ?_; rintro e w' ⟨rfl,rfl⟩
   go_wp2_with fail
   refine (Sign_any b _).mono ?_; rintro e w' ⟨rfl,rfl⟩
   go_wp2_with fail
   go_ret
   exact ⟨ret_int (by have:=hc.out; unfold cmpI; rw [if_neg (by omega),if_pos this]),by repeat (with_reducible first | assumption | exact Qt.refl _ | refine Qt.drew ?_ | refine Qt.drewN ?_ _ | refine Qt.trans ?_ (by assumption))⟩
def Sm (n:Int):Prop:=-100000000000000000 < n∧n < 100000000000000000
def Ti (n:Int):Prop:=-100000000 < n∧n < 100000000
theorem Sm.size {n:Int} (h:Sm n):(tx n).size≤18:=by
 obtain ⟨h1,h2⟩:=h
 exact tx_size_le 17 n (by omega) (by omega)
theorem Ti.size {n:Int} (h:Ti n):(tx n).size≤9:=by
 obtain ⟨h1,h2⟩:=h
 exact tx_size_le 8 n (by omega) (by omega)
theorem Add_sm (a b:Int) (ha:Sm a) (hb:Sm b) (w:World) (hG:G w) :
 Calls Tryz.prog 95 #[.string (tx a),.string (tx b)] w fun e w'=>e=.returned (.string (tx (a+b)))∧Fr w w':=by
 have sa:=ha.size
 have sb:=hb.size
 obtain ⟨a1,a2⟩:=ha
 obtain ⟨b1,b2⟩:=hb
 go_enter Tryz.func95,Tryz.ntmps95
 go_wp2_with fail
 refine (little_ok a 18 (by omega) (by omega) _ (by omega)).mono ?_; rintro e w1 ⟨rfl,hf1⟩
 go_wp2_with fail
 refine (little_ok b 18 (by omega) (by omega) _ (by omega)).mono ?_; rintro e w2 ⟨rfl,hf2⟩
 go_wp2_with fail
 refine (Of_any _ (by omega) (by omega) _ (hG.fr (hf1.trans hf2))).mono ?_; rintro e w3 ⟨rfl,hf3⟩
 go_wp2_with fail
 go_ret
 exact ⟨rfl,(hf1.trans hf2).trans hf3⟩
theorem Sub_sm (a b:Int) (ha:Sm a) (hb:Sm b) (w:World) (hG:G w) :
 Calls Tryz.prog 171 #[.string (tx a),.string (tx b)] w fun e w'=>e=.returned (.string (tx (a - b)))∧Fr w w':=by
 have sb:=hb.size
 go_enter Tryz.func171,Tryz.ntmps171
 go_wp2_with fail
 refine (Neg_any b _ (by omega)).mono ?_; rintro e w1 ⟨rfl,hf1⟩
 go_wp2_with fail
 refine (Add_sm a (-b) ha (by obtain ⟨b1,b2⟩:=hb; exact ⟨by omega,by omega⟩) _ (hG.fr hf1)).mono ?_; rintro e w2 ⟨rfl,hf2⟩
 go_wp2_with fail
 go_ret
 exact ⟨by rw [Int.sub_eq_add_neg]; rfl,hf1.trans hf2⟩
theorem mul_bd {a b:Int} (ha:Ti a) (hb:Ti b):-10000000000000000≤a * b∧a * b≤10000000000000000:=by
 obtain ⟨a1,a2⟩:=ha
 obtain ⟨b1,b2⟩:=hb
 have h:a.natAbs * b.natAbs≤100000000 * 100000000:=Nat.mul_le_mul (by omega) (by omega)
 rw [← Int.natAbs_mul] at h
 omega
theorem Mul_ti (a b:Int) (ha:Ti a) (hb:Ti b) (w:World) (hG:G w) :
 Calls Tryz.prog 96 #[.string (tx a),.string (tx b)] w fun e w'=>e=.returned (.string (tx (a * b)))∧Fr w w':=by
 have sa:=ha.size
 have sb:=hb.size
 obtain ⟨m1,m2⟩:=mul_bd ha hb
 obtain ⟨a1,a2⟩:=ha
 obtain ⟨b1,b2⟩:=hb
 go_enter Tryz.func96,Tryz.ntmps96
 go_wp2_with fail
 refine (little_ok a 9 (by omega) (by omega) _ (by omega)).mono ?_; rintro e w1 ⟨rfl,hf1⟩
 go_wp2_with fail
 refine (little_ok b 9 (by omega) (by omega) _ (by omega)).mono ?_; rintro e w2 ⟨rfl,hf2⟩
 go_wp2_with fail
 refine (Of_any _ (by omega) (by omega) _ (hG.fr (hf1.trans hf2))).mono ?_; rintro e w3 ⟨rfl,hf3⟩
 go_wp2_with fail
 go_ret
 exact ⟨rfl,(hf1.trans hf2).trans hf3⟩
theorem tmod_abs (a b:Int) (hb:b≠0):(a.tmod b).natAbs < b.natAbs:=by
 rw [Int.natAbs_tmod]; exact Nat.mod_lt _ (by omega)
theorem fdiv_same (a b:Int) (hb:b≠0) (h:a.tmod b=0∨(a.tmod b < 0 ↔ b < 0)):a.fdiv b=a.tdiv b∧a.fmod b=a.tmod b:=by
 have e:=Int.mul_tdiv_add_tmod a b
 have m:=tmod_abs a b hb
 rcases Int.lt_or_gt_of_ne hb with h1 | h1
 ·exact (Int.fdiv_fmod_unique' h1).2 ⟨by omega,by omega,by omega⟩
 ·exact (Int.fdiv_fmod_unique h1).2 ⟨by omega,by omega,by omega⟩
theorem fdiv_less (a b:Int) (hb:b≠0) (h0:a.tmod b≠0) (h:¬ (a.tmod b < 0 ↔ b < 0)):a.fdiv b=a.tdiv b - 1∧a.fmod b=a.tmod b+b:=by
 have e:=Int.mul_tdiv_add_tmod a b
 have m:=tmod_abs a b hb
 have e2:b * (a.tdiv b - 1)=b * a.tdiv b - b:=by rw [Int.mul_sub,Int.mul_one]
 rcases Int.lt_or_gt_of_ne hb with h1 | h1
 ·exact (Int.fdiv_fmod_unique' h1).2 ⟨by omega,by omega,by omega⟩
 ·exact (Int.fdiv_fmod_unique h1).2 ⟨by omega,by omega,by omega⟩
theorem tdiv_abs (a b:Int):(a.tdiv b).natAbs≤a.natAbs:=by
 rw [Int.natAbs_tdiv]; exact Nat.div_le_self _ _
theorem DivMod_sm (a b:Int) (ha:Sm a) (hb:Sm b) (h0:b≠0) (w:World) (hG:G w) :
 Calls Tryz.prog 115 #[.string (tx a),.string (tx b)] w fun e w'=>e=.returned (.tuple #[.string (tx (a.fdiv b)),.string (tx (a.fmod b)),.int .i64 0])∧Fr w w':=by
 have sa:=ha.size
 have sb:=hb.size
 have hz:((tx b).toList == [48])=false:=by rw [tx_beq0]; exact decide_eq_false h0
 obtain ⟨a1,a2⟩:=ha
 obtain ⟨b1,b2⟩:=hb
 have td:=tdiv_abs a b
 have tm:=tmod_abs a b h0
 have k1:IntKind.i64.wrap (a.tdiv b)=a.tdiv b:=IntWalk.i64_in _ (by omega)
 have k2:IntKind.i64.wrap (a.tmod b)=a.tmod b:=IntWalk.i64_in _ (by omega)
 by_cases hr0:a.tmod b=0
 ·have hfin:=hZ (show a.fdiv b=a.tdiv b∧a.fmod b=0 from by have:=fdiv_same a b h0 (.inl hr0); rw [hr0] at this; exact this)
  have c1:(a.tmod b != 0)=false:=by rw [hr0]; rfl
  have tm1:-100000000000000000 < a.tmod b∧a.tmod b < 100000000000000000:=by omega
  have td1:-100000000000000000 < a.tdiv b∧a.tdiv b < 100000000000000000:=by omega
  obtain ⟨tm1,tm2⟩:=tm1
  obtain ⟨td1,td2⟩:=td1
  clear td tm
  go_enter Tryz.func115,Tryz.ntmps115
  go_wp2_with fail
  refine (little_ok a 18 (by omega) (by omega) _ (by omega)).mono ?_; rintro e w1 ⟨rfl,hf1⟩
  go_wp2_with fail
  refine (little_ok b 18 (by omega) (by omega) _ (by omega)).mono ?_; rintro e w2 ⟨rfl,hf2⟩
  go_wp2_with fail
  go_quiet (fail)
  clear k1 k2
  have hfq:=hf1.trans hf2
  go_wp2_with fail
  refine (Of_any _ (by omega) (by omega) _ (hG.fr (by exact fr9))).mono ?_; rintro e w3 ⟨rfl,hf3⟩
  go_wp2_with fail
  refine (Of_any _ (by omega) (by omega) _ (hG.fr (by exact fr9))).mono ?_; rintro e w4 ⟨rfl,hf4⟩
  go_wp2_with fail
  go_ret3
  exact ⟨by rw [hfin.out.1,hfin.out.2]; rfl,by exact fr9⟩
 ·have c1:(a.tmod b != 0)=true:=by rw [bne_iff_ne]; exact hr0
  by_cases hr:a.tmod b < 0 <;> by_cases hb:b < 0
  ·have hfin:=hZ (fdiv_same a b h0 (.inr (by simp [hr,hb])))
   have c2:(decide (a.tmod b < 0))=true:=decide_eq_true hr
   have c3:(decide (b < 0))=true:=decide_eq_true hb
   have tm1:-100000000000000000 < a.tmod b:=by omega
   have tm2:a.tmod b < 100000000000000000:=by omega
   have td1:-100000000000000000 < a.tdiv b:=by omega
   have td2:a.tdiv b < 100000000000000000:=by omega
   clear td tm hr0 hr hb
   go_enter Tryz.func115,Tryz.ntmps115
   go_wp2_with fail
   refine (little_ok a 18 (by omega) (by omega) _ (by omega)).mono ?_; rintro e w1 ⟨rfl,hf1⟩
   go_wp2_with fail
   refine (little_ok b 18 (by omega) (by omega) _ (by omega)).mono ?_; rintro e w2 ⟨rfl,hf2⟩
   go_wp2_with fail
   go_quiet (fail)
   clear k1 k2
   have hfq:=hf1.trans hf2
   go_wp2_with fail
   refine (Of_any _ (by omega) (by omega) _ (hG.fr (by exact fr9))).mono ?_; rintro e w3 ⟨rfl,hf3⟩
   go_wp2_with fail
   refine (Of_any _ (by omega) (by omega) _ (hG.fr (by exact fr9))).mono ?_; rintro e w4 ⟨rfl,hf4⟩
   go_wp2_with fail
   go_ret3
   exact ⟨by rw [hfin.out.1,hfin.out.2]; rfl,by exact fr9⟩
  ·have hfin:=hZ (fdiv_less a b h0 hr0 (by simp [hr,hb]))
   have c2:(decide (a.tmod b < 0))=true:=decide_eq_true hr
   have c3:(decide (b < 0))=false:=decide_eq_false hb
   have tm1:-100000000000000000 < a.tmod b:=by omega
   have tm2:a.tmod b < 100000000000000000:=by omega
   have td1:-100000000000000000 < a.tdiv b:=by omega
   have td2:a.tdiv b < 100000000000000000:=by omega
   clear td tm hr0 hr hb
   go_enter Tryz.func115,Tryz.ntmps115
   go_wp2_with fail
   refine (little_ok a 18 (by omega) (by omega) _ (by omega)).mono ?_; rintro e w1 ⟨rfl,hf1⟩
   go_wp2_with fail
   refine (little_ok b 18 (by omega) (by omega) _ (by omega)).mono ?_; rintro e w2 ⟨rfl,hf2⟩
   go_wp2_with fail
   go_quiet (fail)
   clear k1 k2
   have hfq:=hf1.trans hf2
   go_wp2_with fail
   refine (Of_any _ (by omega) (by omega) _ (hG.fr (by exact fr9))).mono ?_; rintro e w3 ⟨rfl,hf3⟩
   go_wp2_with fail
   refine (Of_any _ (by omega) (by omega) _ (hG.fr (by exact fr9))).mono ?_; rintro e w4 ⟨rfl,hf4⟩
   go_wp2_with fail
   go_ret3
   exact ⟨by rw [hfin.out.1,hfin.out.2]; rfl,by exact fr9⟩
  ·have hfin:=hZ (fdiv_less a b h0 hr0 (by simp [hr,hb]))
   have c2:(decide (a.tmod b < 0))=false:=decide_eq_false hr
   have c3:(decide (b < 0))=true:=decide_eq_true hb
   have tm1:-100000000000000000 < a.tmod b:=by omega
   have tm2:a.tmod b < 100000000000000000:=by omega
   have td1:-100000000000000000 < a.tdiv b:=by omega
   have td2:a.tdiv b < 100000000000000000:=by omega
   clear td tm hr0 hr hb
   go_enter Tryz.func115,Tryz.ntmps115
   go_wp2_with fail
   refine (little_ok a 18 (by omega) (by omega) _ (by omega)).mono ?_; rintro e w1 ⟨rfl,hf1⟩
   go_wp2_with fail
   refine (little_ok b 18 (by omega) (by omega) _ (by omega)).mono ?_; rintro e w2 ⟨rfl,hf2⟩
   go_wp2_with fail
   go_quiet (fail)
   clear k1 k2
   have hfq:=hf1.trans hf2
   go_wp2_with fail
   refine (Of_any _ (by omega) (by omega) _ (hG.fr (by exact fr9))).mono ?_; rintro e w3 ⟨rfl,hf3⟩
   go_wp2_with fail
   refine (Of_any _ (by omega) (by omega) _ (hG.fr (by exact fr9))).mono ?_; rintro e w4 ⟨rfl,hf4⟩
   go_wp2_with fail
   go_ret3
   exact ⟨by rw [hfin.out.1,hfin.out.2]; rfl,by exact fr9⟩
  ·have hfin:=hZ (fdiv_same a b h0 (.inr (by simp [hr,hb])))
   have c2:(decide (a.tmod b < 0))=false:=decide_eq_false hr
   have c3:(decide (b < 0))=false:=decide_eq_false hb
   have tm1:-100000000000000000 < a.tmod b:=by omega
   have tm2:a.tmod b < 100000000000000000:=by omega
   have td1:-100000000000000000 < a.tdiv b:=by omega
   have td2:a.tdiv b < 100000000000000000:=by omega
   clear td tm hr0 hr hb
   go_enter Tryz.func115,Tryz.ntmps115
   go_wp2_with fail
   refine (little_ok a 18 (by omega) (by omega) _ (by omega)).mono ?_; rintro e w1 ⟨rfl,hf1⟩
   go_wp2_with fail
   refine (little_ok b 18 (by omega) (by omega) _ (by omega)).mono ?_; rintro e w2 ⟨rfl,hf2⟩
   go_wp2_with fail
   go_quiet (fail)
   clear k1 k2
   have hfq:=hf1.trans hf2
   go_wp2_with fail
   refine (Of_any _ (by omega) (by omega) _ (hG.fr (by exact fr9))).mono ?_; rintro e w3 ⟨rfl,hf3⟩
   go_wp2_with fail
   refine (Of_any _ (by omega) (by omega) _ (hG.fr (by exact fr9))).mono ?_; rintro e w4 ⟨rfl,hf4⟩
   go_wp2_with fail
   go_ret3
   exact ⟨by rw [hfin.out.1,hfin.out.2]; rfl,by exact fr9⟩
theorem parseIntB_itoa (n:Int) (h0:-9223372036854775808≤n) (h1:n≤9223372036854775807):parseIntB 64 (tx n).data.toList=.ok n:=by
 rw [parseIntB_64]; exact atoiAll_itoa n h0 h1
theorem Small_ok (n:Int) (h0:-9223372036854775808≤n) (h1:n≤9223372036854775807) (w:World) :
 Calls Tryz.prog 72 #[.string (tx n)] w fun e w'=>e=.returned (.tuple #[.int .i64 n,.bool true])∧Fr w w':=by
 have hs:=tx_size_le 19 n (by omega) (by omega)
 go_enter Tryz.func72,Tryz.ntmps72
 go_wp2_with fail
 refine (Tryz.strconv_ParseInt_10_at64_ok (tx n) (by omega) n (parseIntB_itoa n h0 h1) _).mono ?_; rintro e w1 ⟨rfl,hw⟩
 have hf:=fr_bytes hw; clear hw
 go_wp2_with fail
 go_ret2
 exact ⟨rfl,hf⟩
end Go.Proofs.YtmalpgbbddkdcaaGreatDoor
namespace Go.Proofs.YtmalpgbbddkdcaaGreatDoor
open Go.RowKit Go.Lib
def El {α:Type} (w:World) (enc:α→Value) (a:Option Addr) (xs:List α):Prop :=
 xs=[]∨∃ b o,a=some ⟨b,o,none⟩∧b < w.heap.size∧∀ i x,xs[i]?=some x→w.cell? ⟨b,o+i,none⟩=some (enc x)
theorem El.fr {α:Type} {w w':World} {enc:α→Value} {a:Option Addr} {xs:List α} (h:El w enc a xs) (k:Fr w w'):El w' enc a xs:=by
 rcases h with h | ⟨b,o,ha,hb,hc⟩
 ·exact .inl h
 ·exact .inr ⟨b,o,ha,Nat.lt_of_lt_of_le hb k.size,fun i x hx=>by rw [k.cell hb]; exact hc i x hx⟩
theorem El.at {α:Type} {w:World} {enc:α→Value} {a:Option Addr} {xs:List α} (h:El w enc a xs) {i:Nat} (hi:i < xs.length) :
 ∃ b o x,a=some ⟨b,o,none⟩∧b < w.heap.size∧xs[i]?=some x∧w.cell? ⟨b,o+i,none⟩=some (enc x):=by
 rcases h with h | ⟨b,o,ha,hb,hc⟩
 ·subst h; simp at hi
 ·exact ⟨b,o,xs[i],ha,hb,List.getElem?_eq_getElem hi,hc i _ (List.getElem?_eq_getElem hi)⟩
abbrev iv:Int→Value:=fun n=>.int .i64 n
abbrev sv:Int→Value:=fun n=>.string (tx n)
def Pred {α:Type} (w:World) (g:Nat) (cap:Array Value) (enc:α→Value) (p:α→Bool) (xs:List α):Prop :=
 ∀ x W,x ∈ xs→Fr w W→Calls Tryz.prog g (#[enc x] ++ cap) W fun e W'=>e=.returned (.bool (p x))∧Fr W W'
def idx {α:Type} (p:α→Bool) (xs:List α):Int:=match xs.findIdx? p with | some i=>i | none=>-1
theorem idx_step {α:Type} {p:α→Bool} {xs:List α} {k:Nat} {x:α} (h:∀ j x,j < k→xs[j]?=some x→p x=false) (hx:xs[k]?=some x) (hp:p x=false) :
 Hid (∀ j x,j < k+1→xs[j]?=some x→p x=false):=fun j y hj hy=>by
 by_cases e:j=k
 ·subst e; rw [hx] at hy; injection hy with hy; rw [← hy]; exact hp
 ·exact h j y (by omega) hy
theorem idx_found {α:Type} {p:α→Bool} {xs:List α} {k:Nat} {x:α} (h:∀ j x,j < k→xs[j]?=some x→p x=false) (hx:xs[k]?=some x) (hp:p x=true):idx p xs=k:=by
 unfold idx
 have hk:k < xs.length:=(List.getElem?_eq_some_iff.1 hx).1
 have:xs.findIdx? p=some k:=by
  rw [List.findIdx?_eq_some_iff_getElem]
  refine ⟨hk, ?_,fun j hj=>?_⟩
  ·rw [(List.getElem?_eq_some_iff.1 hx).2]; exact hp
  ·rw [h j _ hj (List.getElem?_eq_getElem (by omega))]; simp
 rw [this]
theorem idx_none {α:Type} {p:α→Bool} {xs:List α} (h:∀ j x,j < xs.length→xs[j]?=some x→p x=false):idx p xs=-1:=by
 unfold idx
 have:xs.findIdx? p=none:=by
  rw [List.findIdx?_eq_none_iff]
  intro x hx
  obtain ⟨i,hi,e⟩:=List.getElem_of_mem hx
  exact h i x hi (by rw [List.getElem?_eq_getElem hi,e])
 rw [this]
theorem idx_any {α:Type} (p:α→Bool) (xs:List α):decide (0≤idx p xs)=xs.any p:=by
 unfold idx
 cases e:xs.findIdx? p with
 | none=>
   rw [List.findIdx?_eq_none_iff] at e
   have:xs.any p=false:=List.any_eq_false.2 (fun x hx=>by simp [e x hx])
   rw [this]; rfl
 | some i=>
   obtain ⟨h,hp,_⟩:=List.findIdx?_eq_some_iff_getElem.1 e
   have:xs.any p=true:=List.any_eq_true.2 ⟨xs[i],List.getElem_mem h,hp⟩
   rw [this]; simp
theorem idx_cases {α:Type} (p:α→Bool) (xs:List α):(idx p xs=-1∧∀ x,x ∈ xs→p x=false)∨∃ (k:Nat) (x:α),idx p xs=k∧xs[k]?=some x∧p x=true∧∀ j y,j < k→xs[j]?=some y→p y=false:=by
 unfold idx
 cases e:xs.findIdx? p with
 | none=>
   rw [List.findIdx?_eq_none_iff] at e
   exact .inl ⟨rfl,e⟩
 | some i=>
   obtain ⟨h,hp,hq⟩:=List.findIdx?_eq_some_iff_getElem.1 e
   refine .inr ⟨i,xs[i],rfl,List.getElem?_eq_getElem h,hp,fun j y hj hy=>?_⟩
   have:=hq j hj
   obtain ⟨h2,rfl⟩:=List.getElem?_eq_some_iff.1 hy
   simpa using this
theorem IndexFunc_row (xs:List Int) (a:Option Addr) (cap:Nat) (g:Nat) (lb:Array Value) (p:Int→Bool) (w:World)
 (eg:∀ args w,(callFunc g args).run Tryz.prog w=.ok (.enter g args) w) (hx:El w iv a xs) (hl:xs.length≤1000000000) (hp:Pred w g lb iv p xs) :
 Calls Tryz.prog 146 #[.slice a xs.length cap,.func (.func g) #[] lb] w fun e w'=>e=.returned (.int .i64 (idx p xs))∧Fr w w':=by
 go_enter Tryz.func146,Tryz.ntmps146
 go_wp2
 go_loopw [5,8] (fun _ s8 wr=>∃ k:Nat,s8=.int .i64 k∧k≤xs.length∧Fr w wr∧Hid (∀ j x,j < k→xs[j]?=some x→p x=false)) (fun _ s8 _=>xs.length - (RowKit.intOf s8).toNat)
 case atStart=>exact ⟨0,rfl,Nat.zero_le _,Fr.refl _,fun j x h=>absurd h (Nat.not_lt_zero _)⟩
 case round=>
  obtain ⟨k,rfl,hk,hf,hb⟩:=hrel
  by_cases hlt:k < xs.length
  ·obtain ⟨b,o,x,rfl,hbl,hxk,hcell⟩:=(hx.fr hf).at hlt
   have hpx:=hp x wr (List.mem_of_getElem? hxk) hf
   have hxk:=hZ hxk
   go_wp2_with fail
   refine hpx.mono ?_
   rintro e w1 ⟨rfl,hf1⟩
   go_wp2_with fail
   ·have hpt:p x=true:=by assumption
    go_ret
    exact ⟨ret_int (idx_found hb.out hxk.out hpt).symm,hf.trans hf1⟩
   ·have hpf:p x=false:=by assumption
    go_roundw
    case rel=>exact ⟨k+1,by go_num,by omega,hf.trans hf1,idx_step hb.out hxk.out hpf⟩
    case measure=>simp [RowKit.intOf]; omega
  ·go_wp2_with fail
   go_ret
   exact ⟨ret_int (idx_none (by rw [show xs.length=k by omega]; exact hb.out)).symm,hf⟩
theorem IndexFunc_txs (xs:List Int) (a:Option Addr) (cap:Nat) (g:Nat) (lb:Array Value) (p:Int→Bool) (w:World)
 (eg:∀ args w,(callFunc g args).run Tryz.prog w=.ok (.enter g args) w) (hx:El w sv a xs) (hl:xs.length≤1000000000) (hp:Pred w g lb sv p xs) :
 Calls Tryz.prog 221 #[.slice a xs.length cap,.func (.func g) #[] lb] w fun e w'=>e=.returned (.int .i64 (idx p xs))∧Fr w w':=by
 go_enter Tryz.func221,Tryz.ntmps221
 go_wp2
 go_loopw [5,8] (fun _ s8 wr=>∃ k:Nat,s8=.int .i64 k∧k≤xs.length∧Fr w wr∧Hid (∀ j x,j < k→xs[j]?=some x→p x=false)) (fun _ s8 _=>xs.length - (RowKit.intOf s8).toNat)
 case atStart=>exact ⟨0,rfl,Nat.zero_le _,Fr.refl _,fun j x h=>absurd h (Nat.not_lt_zero _)⟩
 case round=>
  obtain ⟨k,rfl,hk,hf,hb⟩:=hrel
  by_cases hlt:k < xs.length
  ·obtain ⟨b,o,x,rfl,hbl,hxk,hcell⟩:=(hx.fr hf).at hlt
   have hpx:=hp x wr (List.mem_of_getElem? hxk) hf
   have hxk:=hZ hxk
   go_wp2_with fail
   refine hpx.mono ?_
   rintro e w1 ⟨rfl,hf1⟩
   go_wp2_with fail
   ·have hpt:p x=true:=by assumption
    go_ret
    exact ⟨ret_int (idx_found hb.out hxk.out hpt).symm,hf.trans hf1⟩
   ·have hpf:p x=false:=by assumption
    go_roundw
    case rel=>exact ⟨k+1,by go_num,by omega,hf.trans hf1,idx_step hb.out hxk.out hpf⟩
    case measure=>simp [RowKit.intOf]; omega
  ·go_wp2_with fail
   go_ret
   exact ⟨ret_int (idx_none (by rw [show xs.length=k by omega]; exact hb.out)).symm,hf⟩
theorem ContainsFunc_row (xs:List Int) (a:Option Addr) (cap:Nat) (g:Nat) (lb:Array Value) (p:Int→Bool) (w:World)
 (eg:∀ args w,(callFunc g args).run Tryz.prog w=.ok (.enter g args) w) (hx:El w iv a xs) (hl:xs.length≤1000000000) (hp:Pred w g lb iv p xs) :
 Calls Tryz.prog 92 #[.slice a xs.length cap,.func (.func g) #[] lb] w fun e w'=>e=.returned (.bool (xs.any p))∧Fr w w':=by
 rw [← idx_any]
 have hc:=IndexFunc_row xs a cap g lb p w eg hx hl hp
 clear hp
 go_enter Tryz.func92,Tryz.ntmps92
 go_wp2_with fail
 refine hc.mono ?_
 rintro e w' ⟨rfl,hf⟩
 go_wp2_with fail
 go_ret
 exact ⟨rfl,hf⟩
def fitB (n:Int):Bool:=decide (-1000000000≤n∧n≤1000000000)
def rowE (xs:List Int):Int:=if 64 < xs.length then 4 else if xs.any (fun n=>!fitB n) then 4 else 0
theorem rowE_long {xs:List Int} (h:64 < xs.length):rowE xs=4:=by unfold rowE; rw [if_pos h]
theorem rowE_bad {xs:List Int} (h:xs.any (fun n=>!fitB n)=true):rowE xs=4:=by unfold rowE; rw [h]; split <;> rfl
theorem rowE_ok {xs:List Int} (h:¬ 64 < xs.length) (h2:xs.any (fun n=>!fitB n)=false):rowE xs=0:=by unfold rowE; rw [if_neg h,h2]; rfl
theorem ret_bool {a b:Bool} (h:a=b):Ending.returned (.bool a)=Ending.returned (.bool b):=by rw [h]
theorem fits_any (n:Int) (w:World):Calls Tryz.prog 94 #[.int .i64 n] w fun e w'=>e=.returned (.bool (fitB n))∧w=w':=by
 by_cases h1:-1000000000≤n
 ·by_cases h2:n≤1000000000
  ·have hf:=hZ (show fitB n=true from decide_eq_true ⟨h1,h2⟩)
   go_enter Tryz.func94,Tryz.ntmps94
   go_wp2
   go_ret
   exact ⟨ret_bool hf.out.symm,rfl⟩
  ·have hf:=hZ (show fitB n=false from decide_eq_false (fun h=>h2 h.2))
   have d2:decide (n≤1000000000)=false:=decide_eq_false h2
   go_enter Tryz.func94,Tryz.ntmps94
   go_wp2
   go_ret
   exact ⟨ret_bool hf.out.symm,rfl⟩
 ·have hf:=hZ (show fitB n=false from decide_eq_false (fun h=>h1 h.1))
  have d1:decide (-1000000000≤n)=false:=decide_eq_false h1
  go_enter Tryz.func94,Tryz.ntmps94
  go_wp2
  go_ret
  exact ⟨ret_bool hf.out.symm,rfl⟩
theorem Check1_pred (w:World) (xs:List Int):Pred w 93 #[] iv (fun n=>!fitB n) xs:=fun x W _ _=>by
 show Calls Tryz.prog 93 #[.int .i64 x] W _
 go_enter Tryz.func93,Tryz.ntmps93
 go_wp2_with fail
 refine (fits_any x _).mono ?_; rintro e w' ⟨rfl,rfl⟩
 go_wp2_with fail
 go_ret
 exact ⟨rfl,Fr.refl _⟩
theorem Check_row (xs:List Int) (a:Option Addr) (cap:Nat) (w:World) (hx:El w iv a xs) (hl:xs.length≤1000000000) :
 Calls Tryz.prog 44 #[.slice a xs.length cap] w fun e w'=>e=.returned (.int .i64 (rowE xs))∧Fr w w':=by
 by_cases h:64 < xs.length
 ·have hf:=hZ (rowE_long h)
  go_enter Tryz.func44,Tryz.ntmps44
  go_wp2_with fail
  go_ret
  exact ⟨ret_int hf.out.symm,Fr.refl _⟩
 ·have eg:∀ args w,(callFunc 93 args).run Tryz.prog w=.ok (.enter 93 args) w:=enters_of Tryz.func93 (by kernel_rfl) rfl
  have hc:=ContainsFunc_row xs a cap 93 #[] (fun n=>!fitB n) w eg hx hl (Check1_pred w xs)
  have d1:decide ((64:Int) < (xs.length:Int))=false:=decide_eq_false (by omega)
  have hh:=hZ h
  clear h eg
  cases hb:xs.any (fun n=>!fitB n)
  ·have hf:=hZ (rowE_ok hh.out hb)
   rw [hb] at hc; clear hb
   go_enter Tryz.func44,Tryz.ntmps44
   go_wp2_with fail
   refine hc.mono ?_; rintro e w' ⟨rfl,hf1⟩
   go_wp2_with fail
   go_ret
   exact ⟨ret_int hf.out.symm,hf1⟩
  ·have hf:=hZ (rowE_bad hb)
   rw [hb] at hc; clear hb
   go_enter Tryz.func44,Tryz.ntmps44
   go_wp2_with fail
   refine hc.mono ?_; rintro e w' ⟨rfl,hf1⟩
   go_wp2_with fail
   go_ret
   exact ⟨ret_int hf.out.symm,hf1⟩
theorem take_step {α:Type} {xs ys:List α} {k:Nat} {x:α} (h:xs.take k=ys.take k) (hx:xs[k]?=some x) (hy:ys[k]?=some x):Hid (xs.take (k+1)=ys.take (k+1)):=by
 show _=_
 rw [List.take_add_one,List.take_add_one,h,hx,hy]
theorem Equal_row (xs ys:List Int) (a b:Option Addr) (ca cb:Nat) (w:World) (hx:El w iv a xs) (hy:El w iv b ys) (_hl:xs.length≤1000000000) (_hm:ys.length≤1000000000) :
 Calls Tryz.prog 67 #[.slice a xs.length ca,.slice b ys.length cb] w fun e w'=>e=.returned (.bool (decide (xs=ys)))∧Fr w w':=by
 by_cases hlen:xs.length=ys.length
 ·have hne:((xs.length:Int) != ys.length)=false:=by rw [hlen]; simp
  have hlen:=hZ hlen
  rename_i hlen0
  clear hlen0
  go_enter Tryz.func67,Tryz.ntmps67
  go_wp2_with fail
  go_loopw [5,13] (fun _ s13 wr=>∃ k:Nat,s13=.int .i64 k∧k≤xs.length∧Fr w wr∧Hid (xs.take k=ys.take k)) (fun _ s13 _=>xs.length - (RowKit.intOf s13).toNat)
  case atStart=>exact ⟨0,rfl,Nat.zero_le _,Fr.refl _,show _=_ by simp⟩
  case round=>
   obtain ⟨k,rfl,hk,hf,hb⟩:=hrel
   by_cases hlt:k < xs.length
   ·have hlt2:k < ys.length:=by rw [← hlen.out]; exact hlt
    obtain ⟨b1,o1,x,rfl,hbl1,hxk,hcell1⟩:=(hx.fr hf).at hlt
    obtain ⟨b2,o2,y,rfl,hbl2,hyk,hcell2⟩:=(hy.fr hf).at hlt2
    have hxk:=hZ hxk
    have hyk:=hZ hyk
    by_cases hxy:x=y
    ·have hq:(x != y)=false:=by rw [hxy]; simp
     have hxy:=hZ hxy
     rename_i hxy0; clear hxy0
     go_wp2_with fail
     go_quiet (fail)
     go_wp2_with fail
     go_roundw
     case rel=>exact ⟨k+1,by go_num,by omega,hf.drewN _,take_step hb.out hxk.out (by rw [hxy.out]; exact hyk.out)⟩
     case measure=>simp [RowKit.intOf]; omega
    ·have hq:(x != y)=true:=by rw [bne_iff_ne]; exact hxy
     have hfin:=hZ (show decide (xs=ys)=false from decide_eq_false (fun e=>hxy (by have h1:=hxk.out; have h2:=hyk.out; rw [e,h2] at h1; injection h1 with h1; exact h1.symm)))
     clear hxy
     go_wp2_with fail
     go_quiet (fail)
     go_wp2_with fail
     go_ret
     exact ⟨ret_bool hfin.out.symm,hf.drewN _⟩
   ·have hfin:=hZ (show decide (xs=ys)=true from decide_eq_true (by have h:=hb.out; rw [List.take_of_length_le (by omega),List.take_of_length_le (by have:=hlen.out; omega)] at h; exact h))
    go_wp2_with fail
    go_ret
    exact ⟨ret_bool hfin.out.symm,hf⟩
 ·have hne:((xs.length:Int) != ys.length)=true:=by rw [bne_iff_ne]; omega
  have hfin:=hZ (show decide (xs=ys)=false from decide_eq_false (fun e=>hlen (by rw [e])))
  clear hlen
  go_enter Tryz.func67,Tryz.ntmps67
  go_wp2_with fail
  go_ret
  exact ⟨ret_bool hfin.out.symm,Fr.refl _⟩
theorem Equal_ints (xs ys:List Int) (a b:Option Addr) (ca cb:Nat) (w:World) (hx:El w iv a xs) (hy:El w iv b ys) (_hl:xs.length≤1000000000) (_hm:ys.length≤1000000000) :
 Calls Tryz.prog 173 #[.slice a xs.length ca,.slice b ys.length cb] w fun e w'=>e=.returned (.bool (decide (xs=ys)))∧Fr w w':=by
 by_cases hlen:xs.length=ys.length
 ·have hne:((xs.length:Int) != ys.length)=false:=by rw [hlen]; simp
  have hlen:=hZ hlen
  rename_i hlen0
  clear hlen0
  go_enter Tryz.func173,Tryz.ntmps173
  go_wp2_with fail
  go_loopw [5,13] (fun _ s13 wr=>∃ k:Nat,s13=.int .i64 k∧k≤xs.length∧Fr w wr∧Hid (xs.take k=ys.take k)) (fun _ s13 _=>xs.length - (RowKit.intOf s13).toNat)
  case atStart=>exact ⟨0,rfl,Nat.zero_le _,Fr.refl _,show _=_ by simp⟩
  case round=>
   obtain ⟨k,rfl,hk,hf,hb⟩:=hrel
   by_cases hlt:k < xs.length
   ·have hlt2:k < ys.length:=by rw [← hlen.out]; exact hlt
    obtain ⟨b1,o1,x,rfl,hbl1,hxk,hcell1⟩:=(hx.fr hf).at hlt
    obtain ⟨b2,o2,y,rfl,hbl2,hyk,hcell2⟩:=(hy.fr hf).at hlt2
    have hxk:=hZ hxk
    have hyk:=hZ hyk
    by_cases hxy:x=y
    ·have hq:(x != y)=false:=by rw [hxy]; simp
     have hxy:=hZ hxy
     rename_i hxy0; clear hxy0
     go_wp2_with fail
     go_quiet (fail)
     go_wp2_with fail
     go_roundw
     case rel=>exact ⟨k+1,by go_num,by omega,hf.drewN _,take_step hb.out hxk.out (by rw [hxy.out]; exact hyk.out)⟩
     case measure=>simp [RowKit.intOf]; omega
    ·have hq:(x != y)=true:=by rw [bne_iff_ne]; exact hxy
     have hfin:=hZ (show decide (xs=ys)=false from decide_eq_false (fun e=>hxy (by have h1:=hxk.out; have h2:=hyk.out; rw [e,h2] at h1; injection h1 with h1; exact h1.symm)))
     clear hxy
     go_wp2_with fail
     go_quiet (fail)
     go_wp2_with fail
     go_ret
     exact ⟨ret_bool hfin.out.symm,hf.drewN _⟩
   ·have hfin:=hZ (show decide (xs=ys)=true from decide_eq_true (by have h:=hb.out; rw [List.take_of_length_le (by omega),List.take_of_length_le (by have:=hlen.out; omega)] at h; exact h))
    go_wp2_with fail
    go_ret
    exact ⟨ret_bool hfin.out.symm,hf⟩
 ·have hne:((xs.length:Int) != ys.length)=true:=by rw [bne_iff_ne]; omega
  have hfin:=hZ (show decide (xs=ys)=false from decide_eq_false (fun e=>hlen (by rw [e])))
  clear hlen
  go_enter Tryz.func173,Tryz.ntmps173
  go_wp2_with fail
  go_ret
  exact ⟨ret_bool hfin.out.symm,Fr.refl _⟩
theorem new2a (w:World) (x y:Value) (t:TypeId):(w.alloc (.cells #[x,y] t)).cell? ⟨w.heap.size,0,none⟩=some x∧(w.alloc (.cells #[x,y] t)).frozen? ⟨w.heap.size,0,none⟩=false:=by
 have h:=heap_alloc_new w (.cells #[x,y] t (0,0))
 exact ⟨by unfold World.cell?; rw [h]; rfl,by unfold World.frozen?; rw [h]; rfl⟩
theorem new2b (w:World) (x y:Value) (t:TypeId):(w.alloc (.cells #[x,y] t)).cell? ⟨w.heap.size,1,none⟩=some y∧(w.alloc (.cells #[x,y] t)).frozen? ⟨w.heap.size,1,none⟩=false:=by
 have h:=heap_alloc_new w (.cells #[x,y] t (0,0))
 exact ⟨by unfold World.cell?; rw [h]; rfl,by unfold World.frozen?; rw [h]; rfl⟩
def Prs (w:World) (a:Option Addr) (xs:List (Value×Value)):Prop :=
 xs=[]∨∃ b o,a=some ⟨b,o,none⟩∧b < w.heap.size∧∀ i x,xs[i]?=some x→w.cell? ⟨b,o+i * 2,none⟩=some x.1∧w.cell? ⟨b,o+i * 2+1,none⟩=some x.2
theorem Prs.fr {w w':World} {a:Option Addr} {xs:List (Value×Value)} (h:Prs w a xs) (k:Fr w w'):Prs w' a xs:=by
 rcases h with h | ⟨b,o,ha,hb,hc⟩
 ·exact .inl h
 ·exact .inr ⟨b,o,ha,Nat.lt_of_lt_of_le hb k.size,fun i x hx=>by rw [k.cell hb,k.cell hb]; exact hc i x hx⟩
theorem Prs.at {w:World} {a:Option Addr} {xs:List (Value×Value)} (h:Prs w a xs) {i:Nat} (hi:i < xs.length) :
 ∃ b o x,a=some ⟨b,o,none⟩∧b < w.heap.size∧xs[i]?=some x∧w.cell? ⟨b,o+i * 2,none⟩=some x.1∧w.cell? ⟨b,o+i * 2+1,none⟩=some x.2:=by
 rcases h with h | ⟨b,o,ha,hb,hc⟩
 ·subst h; simp at hi
 ·exact ⟨b,o,xs[i],ha,hb,List.getElem?_eq_getElem hi,hc i _ (List.getElem?_eq_getElem hi)⟩
theorem Prs.take {w:World} {a:Option Addr} {xs:List (Value×Value)} (h:Prs w a xs) (n:Nat):Prs w a (xs.take n):=by
 rcases h with h | ⟨b,o,ha,hb,hc⟩
 ·subst h; exact .inl (by simp)
 ·refine .inr ⟨b,o,ha,hb,fun i x hx=>hc i x ?_⟩
  rw [List.getElem?_take] at hx
  split at hx
  ·exact hx
  ·simp at hx
def PredP {α:Type} (w:World) (g:Nat) (cap:Array Value) (enc:α→Value×Value) (p:α→Bool) (xs:List α):Prop :=
 ∀ x W,x ∈ xs→Fr w W→Calls Tryz.prog g (#[.agg #[(enc x).1,(enc x).2]] ++ cap) W fun e W'=>e=.returned (.bool (p x))∧Fr W W'
theorem IndexFunc_sym {α:Type} (enc:α→Value×Value) (xs:List α) (a:Option Addr) (cap:Nat) (g:Nat) (lb:Array Value) (p:α→Bool) (w:World)
 (eg:∀ args w,(callFunc g args).run Tryz.prog w=.ok (.enter g args) w) (hx:Prs w a (xs.map enc)) (hl:xs.length≤1000000000) (hp:PredP w g lb enc p xs) :
 Calls Tryz.prog 183 #[.slice a xs.length cap,.func (.func g) #[] lb] w fun e w'=>e=.returned (.int .i64 (idx p xs))∧Fr w w':=by
 go_enter Tryz.func183,Tryz.ntmps183
 go_wp2
 go_loopw [5,8] (fun _ s8 wr=>∃ k:Nat,s8=.int .i64 k∧k≤xs.length∧Fr w wr∧Hid (∀ j x,j < k→xs[j]?=some x→p x=false)) (fun _ s8 _=>xs.length - (RowKit.intOf s8).toNat)
 case atStart=>exact ⟨0,rfl,Nat.zero_le _,Fr.refl _,fun j x h=>absurd h (Nat.not_lt_zero _)⟩
 case round=>
  obtain ⟨k,rfl,hk,hf,hb⟩:=hrel
  by_cases hlt:k < xs.length
  ·obtain ⟨b,o,z,rfl,hbl,hzk,hcell,hcell2⟩:=(hx.fr hf).at (i:=k) (by rw [List.length_map]; exact hlt)
   obtain ⟨x,hxk,rfl⟩:∃ x,xs[k]?=some x∧enc x=z:=by
    rw [List.getElem?_map] at hzk
    cases e:xs[k]? with
    | none=>rw [e] at hzk; simp at hzk
    | some x=>rw [e] at hzk; injection hzk with hzk; exact ⟨x,rfl,hzk⟩
   have hpx:=hp x wr (List.mem_of_getElem? hxk) hf
   have hxk:=hZ hxk
   clear hzk
   go_wp2_with fail
   refine hpx.mono ?_
   rintro e w1 ⟨rfl,hf1⟩
   go_wp2_with fail
   ·have hpt:p x=true:=by assumption
    go_ret
    exact ⟨ret_int (idx_found hb.out hxk.out hpt).symm,hf.trans hf1⟩
   ·have hpf:p x=false:=by assumption
    go_roundw
    case rel=>exact ⟨k+1,by go_num,by omega,hf.trans hf1,idx_step hb.out hxk.out hpf⟩
    case measure=>simp [RowKit.intOf]; omega
  ·go_wp2_with fail
   go_ret
   exact ⟨ret_int (idx_none (by rw [show xs.length=k by omega]; exact hb.out)).symm,hf⟩
theorem ContainsFunc_sym {α:Type} (enc:α→Value×Value) (xs:List α) (a:Option Addr) (cap:Nat) (g:Nat) (lb:Array Value) (p:α→Bool) (w:World)
 (eg:∀ args w,(callFunc g args).run Tryz.prog w=.ok (.enter g args) w) (hx:Prs w a (xs.map enc)) (hl:xs.length≤1000000000) (hp:PredP w g lb enc p xs) :
 Calls Tryz.prog 129 #[.slice a xs.length cap,.func (.func g) #[] lb] w fun e w'=>e=.returned (.bool (xs.any p))∧Fr w w':=by
 rw [← idx_any]
 have hc:=IndexFunc_sym enc xs a cap g lb p w eg hx hl hp
 clear hp
 go_enter Tryz.func129,Tryz.ntmps129
 go_wp2_with fail
 refine hc.mono ?_
 rintro e w' ⟨rfl,hf⟩
 go_wp2_with fail
 go_ret
 exact ⟨rfl,hf⟩
theorem IndexFunc_spl {α:Type} (enc:α→Value×Value) (xs:List α) (a:Option Addr) (cap:Nat) (g:Nat) (lb:Array Value) (p:α→Bool) (w:World)
 (eg:∀ args w,(callFunc g args).run Tryz.prog w=.ok (.enter g args) w) (hx:Prs w a (xs.map enc)) (hl:xs.length≤1000000000) (hp:PredP w g lb enc p xs) :
 Calls Tryz.prog 178 #[.slice a xs.length cap,.func (.func g) #[] lb] w fun e w'=>e=.returned (.int .i64 (idx p xs))∧Fr w w':=by
 go_enter Tryz.func178,Tryz.ntmps178
 go_wp2
 go_loopw [5,8] (fun _ s8 wr=>∃ k:Nat,s8=.int .i64 k∧k≤xs.length∧Fr w wr∧Hid (∀ j x,j < k→xs[j]?=some x→p x=false)) (fun _ s8 _=>xs.length - (RowKit.intOf s8).toNat)
 case atStart=>exact ⟨0,rfl,Nat.zero_le _,Fr.refl _,fun j x h=>absurd h (Nat.not_lt_zero _)⟩
 case round=>
  obtain ⟨k,rfl,hk,hf,hb⟩:=hrel
  by_cases hlt:k < xs.length
  ·obtain ⟨b,o,z,rfl,hbl,hzk,hcell,hcell2⟩:=(hx.fr hf).at (i:=k) (by rw [List.length_map]; exact hlt)
   obtain ⟨x,hxk,rfl⟩:∃ x,xs[k]?=some x∧enc x=z:=by
    rw [List.getElem?_map] at hzk
    cases e:xs[k]? with
    | none=>rw [e] at hzk; simp at hzk
    | some x=>rw [e] at hzk; injection hzk with hzk; exact ⟨x,rfl,hzk⟩
   have hpx:=hp x wr (List.mem_of_getElem? hxk) hf
   have hxk:=hZ hxk
   clear hzk
   go_wp2_with fail
   refine hpx.mono ?_
   rintro e w1 ⟨rfl,hf1⟩
   go_wp2_with fail
   ·have hpt:p x=true:=by assumption
    go_ret
    exact ⟨ret_int (idx_found hb.out hxk.out hpt).symm,hf.trans hf1⟩
   ·have hpf:p x=false:=by assumption
    go_roundw
    case rel=>exact ⟨k+1,by go_num,by omega,hf.trans hf1,idx_step hb.out hxk.out hpf⟩
    case measure=>simp [RowKit.intOf]; omega
  ·go_wp2_with fail
   go_ret
   exact ⟨ret_int (idx_none (by rw [show xs.length=k by omega]; exact hb.out)).symm,hf⟩
def nameByte (c:UInt8):Bool:=decide (33≤c.toNat∧c.toNat≤126∧¬ (48≤c.toNat∧c.toNat≤57)∧c.toNat≠43∧c.toNat≠45)
def isName (s:ByteArray):Bool:=decide (s.size≠0∧s.size≤32) && s.data.toList.all nameByte
theorem IsName_any (s:ByteArray) (w:World) (hs:s.size≤1000000000) :
 Calls Tryz.prog 128 #[.string s] w fun e w'=>e=.returned (.bool (isName s))∧w=w':=by
 by_cases h0:s.size=0
 ·have hfin:=hZ (show isName s=false by unfold isName; rw [decide_eq_false (by omega)]; rfl)
  have e:s.toList=[]:=by
   have:s.toList.length=0:=by rw [← h0,ByteArray.toList_eq]; rfl
   exact List.eq_nil_of_length_eq_zero this
  have e2:s.toList.isEmpty=true:=by rw [e]; rfl
  replace e:=hZ e
  clear h0
  go_enter Tryz.func128,Tryz.ntmps128
  go_wp2_with fail
  go_ret
  exact ⟨ret_bool hfin.out.symm,rfl⟩
 ·have e2:s.toList.isEmpty=false:=by
   have:s.toList.length=s.size:=by rw [ByteArray.toList_eq]; rfl
   cases hh:s.toList with
   | nil=>rw [hh] at this; simp at this; omega
   | cons=>rfl
  by_cases h1:32 < s.size
  ·have hfin:=hZ (show isName s=false by unfold isName; rw [decide_eq_false (by omega)]; rfl)
   have d1:decide ((32:Int) < (s.size:Int))=true:=decide_eq_true (by omega)
   clear h0
   go_enter Tryz.func128,Tryz.ntmps128
   go_wp2_with fail
   go_ret
   exact ⟨ret_bool hfin.out.symm,rfl⟩
  ·have d1:decide ((32:Int) < (s.size:Int))=false:=decide_eq_false (by omega)
   have hsz:=hZ (show decide (s.size≠0∧s.size≤32)=true from decide_eq_true ⟨h0,by omega⟩)
   clear h0 h1
   go_enter Tryz.func128,Tryz.ntmps128
   go_wp2_with fail
   go_loopg [14] s.size (fun g s14 wr=>∃ k:Nat,s14=.int .i64 k∧k+g=s.size∧Hid ((s.data.toList.take k).all nameByte=true)∧w=wr)
   case atStart=>exact ⟨0,rfl,by omega,rfl,rfl⟩
   case round=>
    obtain ⟨k,rfl,hk,hb,rfl⟩:=hrel
    by_cases hlt:k < s.size
    ·have hsn:=hZ (show s.data.toList.take (k+1)=s.data.toList.take k ++ [s[k]] by rw [List.take_succ_eq_append_getElem (by simpa using hlt)]; rfl)
     have hc:∃ c,s[k]=c:=⟨_,rfl⟩
     obtain ⟨c,hc⟩:=hc
     rw [hc] at hsn
     have hbad:=hZ (show nameByte c=false→isName s=false from fun hok=>by
      unfold isName
      rw [List.all_eq_false.2 ⟨c, ?_,by rw [hok]; simp⟩]
      ·simp
      ·have:c ∈ s.data.toList.take (k+1):=by rw [hsn.out]; simp
       exact List.mem_of_mem_take this)
     have hgood:=hZ (show nameByte c=true→(s.data.toList.take (k+1)).all nameByte=true from fun hok=>by
      rw [hsn.out,List.all_append,hb.out]; simp [hok])
     clear hsn hb
     have z0:(0:Int)≤(k:Int):=by omega
     by_cases e43:c.toNat=43
     ·have q43:((c.toNat:Int) == 43)=true:=by rw [e43]; rfl
      have hfin:=hZ (hbad.out (by unfold nameByte; exact decide_eq_false (fun h=>h.2.2.2.1 e43)))
      have e1:(33:Int)≤c.toNat:=by omega
      have e2:(c.toNat:Int)≤126:=by omega
      have e3:(c.toNat:Int) < 48:=by omega
      clear e43 hbad hgood
      go_wp2_with fail
      all_goals
       go_ret
       exact ⟨ret_bool hfin.out.symm,rfl⟩
     ·by_cases e45:c.toNat=45
      ·have q45:((c.toNat:Int) == 45)=true:=by rw [e45]; rfl
       have q43:((c.toNat:Int) == 43)=false:=beq_false_of_ne (by omega)
       have hfin:=hZ (hbad.out (by unfold nameByte; exact decide_eq_false (fun h=>h.2.2.2.2 e45)))
       have e1:(33:Int)≤c.toNat:=by omega
       have e2:(c.toNat:Int)≤126:=by omega
       have e3:(c.toNat:Int) < 48:=by omega
       clear e43 e45 hbad hgood
       go_wp2_with fail
       all_goals
        go_ret
        exact ⟨ret_bool hfin.out.symm,rfl⟩
      ·have q45:((c.toNat:Int) == 45)=false:=beq_false_of_ne (by omega)
       have q43:((c.toNat:Int) == 43)=false:=beq_false_of_ne (by omega)
       have e43:=hZ e43
       have e45:=hZ e45
       rename_i r1 r2
       clear r1 r2
       go_wp2_with fail
       all_goals first
        | (have hok:nameByte c=true:=by
            unfold nameByte
            exact decide_eq_true ⟨by omega,by omega,by omega,e43.out,e45.out⟩
           go_roundg (gk - 1)
           case measure=>omega
           case rel=>exact ⟨k+1,by go_num,by omega,hgood.out hok,rfl⟩)
        | (have hok:nameByte c=false:=by
            unfold nameByte
            exact decide_eq_false (fun h=>by have h1:=h.1; have h2:=h.2.1; have h3:=h.2.2.1; omega)
           go_ret
           exact ⟨ret_bool (hbad.out hok).symm,rfl⟩)
    ·have hfin:=hZ (show isName s=true by
      have h:=hb.out
      rw [List.take_of_length_le (by have:s.data.toList.length=s.size:=rfl; omega)] at h
      unfold isName
      rw [hsz.out,h]; rfl)
     have hd:decide (k < s.size)=false:=decide_eq_false hlt
     go_wp2_with fail
     go_ret
     exact ⟨ret_bool hfin.out.symm,rfl⟩
attribute [local go_sem ↓] Go.wp_at_zero Go.wp_at_succ
def gN:Nat:=2+1
structure Fx (p:Nat→Prop) (w w':World):Prop where
 os:w'.os=w.os
 tape:w'.tape=w.tape
 output:w'.output=w.output
 size:w.heap.size≤w'.heap.size
 block:∀ k,k < w.heap.size→¬ p k→w'.heap[k]?=w.heap[k]?
theorem Fx.of_fr {p:Nat→Prop} {w w':World} (h:Fr w w'):Fx p w w' :=
 have h:Below w.heap.size w w':=h
 ⟨h.os,h.tape,h.output,h.size,fun k hk _=>h.block k hk⟩
theorem Fx.refl (p:Nat→Prop) (w:World):Fx p w w:=Fx.of_fr (Fr.refl w)
theorem Fx.trans {p:Nat→Prop} {a b c:World} (h:Fx p a b) (k:Fx p b c):Fx p a c :=
 ⟨k.os.trans h.os,k.tape.trans h.tape,k.output.trans h.output,Nat.le_trans h.size k.size,fun i hi hp=>(k.block i (Nat.lt_of_lt_of_le hi h.size) hp).trans (h.block i hi hp)⟩
theorem Fx.fr {p:Nat→Prop} {a b c:World} (h:Fx p a b) (k:Fr b c):Fx p a c:=h.trans (Fx.of_fr k)
theorem Fx.drew {p:Nat→Prop} {a b:World} (h:Fx p a b):Fx p a b.drew:=h.fr (Fr.refl b).drew
theorem Fx.alloc {p:Nat→Prop} {a b:World} (h:Fx p a b) (o:Obj):Fx p a (b.alloc o):=h.fr ((Fr.refl b).alloc o)
theorem Fx.setCell {p:Nat→Prop} {a b:World} (h:Fx p a b) {q:Addr} (hq:p q.block∨a.heap.size≤q.block) (u:Value):Fx p a (b.setCell q u) :=
 ⟨h.os,h.tape,h.output,by simpa [World.setCell] using h.size,fun k hk hp=>by
  have e:k≠q.block:=by
   rcases hq with hq | hq
   ·intro e; rw [e] at hp; exact hp hq
   ·omega
  exact (Below.heap_setCell _ _ _ _ e).trans (h.block k hk hp)⟩
theorem Fx.cell {p:Nat→Prop} {w w':World} (h:Fx p w w') {q:Addr} (hq:q.block < w.heap.size) (hp:¬ p q.block):w'.cell? q=w.cell? q :=
 World.cell?_of_block (w:=w) (h.block q.block hq hp)
theorem Fx.frozen {p:Nat→Prop} {w w':World} (h:Fx p w w') {q:Addr} (hq:q.block < w.heap.size) (hp:¬ p q.block):w'.frozen? q=w.frozen? q :=
 World.frozen?_of_block (w:=w) (h.block q.block hq hp)
theorem Fx.mono {p q:Nat→Prop} {w w':World} (h:Fx p w w') (hpq:∀ k,p k→q k):Fx q w w' :=
 ⟨h.os,h.tape,h.output,h.size,fun k hk hp=>h.block k hk (fun e=>hp (hpq k e))⟩
theorem Fx.toFr {p:Nat→Prop} {w w':World} (h:Fx p w w') (hp:∀ k,k < w.heap.size→¬ p k):Fr w w' :=
 show Below w.heap.size w w' from ⟨h.os,h.tape,h.output,h.size,fun k hk=>h.block k hk (hp k hk)⟩
theorem G.fx {p:Nat→Prop} {w w':World} (h:G w) (k:Fx p w w') (hp:∀ k,p k→gN≤k):G w':=by
 have hl:=h.lt
 unfold G TabIs World.var? at *
 simp only [gnum,Option.bind_some] at h ⊢
 rw [k.block _ hl (fun e=>by have:=hp _ e; unfold gN at this; omega)]
 exact h
theorem gN_le {w:World} (h:G w):gN≤w.heap.size:=h.lt
def Own (w:World) (b o:Nat) (xs:List Int):Prop :=
 gN≤b∧b < w.heap.size∧∀ j x,xs[j]?=some x→w.cell? ⟨b,o+j,none⟩=some (sv x)∧w.frozen? ⟨b,o+j,none⟩=false
theorem Own.fx {p:Nat→Prop} {w w':World} {b o:Nat} {xs:List Int} (h:Own w b o xs) (k:Fx p w w') (hp:¬ p b):Own w' b o xs :=
 ⟨h.1,Nat.lt_of_lt_of_le h.2.1 k.size,fun j x hx=>by rw [k.cell h.2.1 hp,k.frozen h.2.1 hp]; exact h.2.2 j x hx⟩
theorem Own.fr {w w':World} {b o:Nat} {xs:List Int} (h:Own w b o xs) (k:Fr w w'):Own w' b o xs :=
 h.fx (p:=fun _=>False) (Fx.of_fr k) (fun e=>e)
theorem Own.set {w:World} {b o:Nat} {xs:List Int} (h:Own w b o xs) {k:Nat} (hk:k < xs.length) (x:Int):Own (w.setCell ⟨b,o+k,none⟩ (sv x)) b o (xs.set k x):=by
 obtain ⟨h1,h2,h3⟩:=h
 refine ⟨h1,by simpa [World.setCell] using h2,fun j y hy=>?_⟩
 rw [World.frozen?_setCell]
 rw [List.getElem?_set] at hy
 by_cases e:k=j
 ·subst e
  rw [if_pos rfl,if_pos hk] at hy
  injection hy with hy; subst hy
  have h4:=h3 k xs[k] (List.getElem?_eq_getElem hk)
  exact ⟨World.cell?_setCell_same' _ _ _ (by rw [h4.1]; rfl),h4.2⟩
 ·rw [if_neg e] at hy
  have h4:=h3 j y hy
  refine ⟨?_,h4.2⟩
  rw [World.cell?_setCell_other w ⟨b,o+k,none⟩ ⟨b,o+j,none⟩ _ (fun e2=>by injection e2 with e3 e4; omega)]
  exact h4.1
def okT (q x y:Int):Bool:=decide ((-100000000 < q∧q < 100000000)∧(-100000000 < y∧y < 100000000)∧(-100000000000000000 < x∧x < 100000000000000000))
theorem okT_ti {q x y:Int} (h:okT q x y=true):Ti q∧Ti y∧Sm x:=by
 unfold okT at h; have h:=of_decide_eq_true h; exact h
def takeL (q:Int):List Int→List Int→Option (List Int)
 | [],_=>some []
 | x :: xs,y :: ys=>if okT q x y then (takeL q xs ys).map ((x - q * y) :: ·) else none
 | _ :: _,[]=>none
def takeS (q:Int) (xs ys:List Int):Option (List Int):=if q=0 then some xs else takeL q xs ys
theorem takeL_spec (q:Int):∀ (xs ys zs:List Int),takeL q xs ys=some zs→zs.length=xs.length∧∀ (k:Nat) (x:Int),xs[k]?=some x→∃ y,ys[k]?=some y∧okT q x y=true∧zs[k]?=some (x - q * y)
 | [],ys,zs,h=>by
   injection h with h; subst h
   exact ⟨rfl,fun k x hx=>by simp at hx⟩
 | x :: xs,[],zs,h=>by simp [takeL] at h
 | x :: xs,y :: ys,zs,h=>by
   simp only [takeL] at h
   split at h
   ·rename_i hok
    cases e:takeL q xs ys with
    | none=>rw [e] at h; simp at h
    | some ws=>
      rw [e] at h
      simp only [Option.map_some,Option.some.injEq] at h
      subst h
      obtain ⟨h1,h2⟩:=takeL_spec q xs ys ws e
      refine ⟨by simp [h1],fun k z hz=>?_⟩
      cases k with
      | zero=>simp at hz; subst hz; exact ⟨y,by simp,hok,by simp⟩
      | succ k=>simpa using h2 k z (by simpa using hz)
   ·simp at h
theorem mid_get {α:Type} (zs xs:List α) (k:Nat) (hl:zs.length=xs.length) (hk:k < xs.length):(zs.take k ++ xs.drop k)[k]?=xs[k]?:=by
 have h1:(zs.take k).length=k:=by rw [List.length_take]; omega
 rw [List.getElem?_append_right (by omega),h1,Nat.sub_self,List.getElem?_drop,Nat.add_zero]
theorem mid_set {α:Type} (zs xs:List α) (k:Nat) (hl:zs.length=xs.length) (hk:k < xs.length) (z:α) (hz:zs[k]?=some z):(zs.take k ++ xs.drop k).set k z=zs.take (k+1) ++ xs.drop (k+1):=by
 have h1:(zs.take k).length=k:=by rw [List.length_take]; omega
 rw [List.set_append_right _ _ (by omega),h1,Nat.sub_self,List.take_add_one,hz,List.drop_eq_getElem_cons hk,Option.toList_some,List.set_cons_zero,List.append_assoc,List.singleton_append]
theorem take_any (lb lo lc ob oo oc m:Nat) (q:Int) (xs ys zs:List Int) (w:World) (hG:G w) (hx:Own w lb lo xs) (hy:Own w ob oo ys) (hne:lb≠ob) (hl:xs.length≤1000000000)
 (hm:m=ys.length) (hs:takeS q xs ys=some zs) :
 Calls Tryz.prog 273 #[.slice (some ⟨lb,lo,none⟩) xs.length lc,.slice (some ⟨ob,oo,none⟩) m oc,.string (tx q)] w fun e w'=>e=.returned (.tuple #[])∧Fx (·=lb) w w'∧Own w' lb lo zs:=by
 have hb:=tx_beq0 q
 by_cases hq0:q=0
 ·rw [decide_eq_true hq0] at hb
  unfold takeS at hs
  rw [if_pos hq0] at hs
  injection hs with hs; subst hs
  clear hq0
  go_enter Tryz.func273,Tryz.ntmps273
  go_wp2_with fail
  exact bodyPost_ret (results_none rfl _ _ _) rfl ⟨rfl,Fx.refl _ _,hx⟩
 ·rw [decide_eq_false hq0] at hb
  unfold takeS at hs
  rw [if_neg hq0] at hs
  obtain ⟨hzl,hz⟩:=takeL_spec q xs ys zs hs
  have hzl:=hZ hzl
  have hz:=hZ hz
  clear hs hq0
  subst hm
  rename_i hzl0 hz0
  clear hzl0 hz0
  go_enter Tryz.func273,Tryz.ntmps273
  go_wp2_with fail
  go_loopw [6,11] (fun _ s11 wr=>∃ k:Nat,s11=.int .i64 k∧k≤xs.length∧Fx (·=lb) w wr∧Own wr lb lo (zs.take k ++ xs.drop k)) (fun _ s11 _=>xs.length - (RowKit.intOf s11).toNat)
  case atStart=>exact ⟨0,rfl,Nat.zero_le _,Fx.refl _ _,by simpa using hx⟩
  case round=>
   obtain ⟨k,rfl,hk,hf,ho⟩:=hrel
   by_cases hlt:k < xs.length
   ·have hxk:∃ x,xs[k]?=some x:=⟨xs[k],List.getElem?_eq_getElem hlt⟩
    obtain ⟨x,hxk⟩:=hxk
    obtain ⟨y,hyk,hok,hzk⟩:=hz.out k x hxk
    obtain ⟨tq,ty,sx⟩:=okT_ti hok
    have hm2:=mul_bd tq ty
    have sm:Sm (q * y):=⟨by omega,by omega⟩
    have hGr:=hG.fx hf (fun j e=>by rw [e]; exact hx.1)
    have hoc:=ho.2.2 k x (by rw [mid_get zs xs k hzl.out hlt]; exact hxk)
    have hkl:k < ys.length:=(List.getElem?_eq_some_iff.1 hyk).1
    obtain ⟨hoc,hof⟩:=hoc
    obtain ⟨hyc,_⟩:=(hy.fx hf (fun e=>hne e.symm)).2.2 k y hyk
    have hlb:lb < wr.heap.size:=ho.2.1
    have hob:ob < wr.heap.size:=(hy.fx hf (fun e=>hne e.symm)).2.1
    have hxk:=hZ hxk
    have hyk:=hZ hyk
    have hzk:=hZ hzk
    have hset:=hZ (mid_set zs xs k hzl.out hlt _ hzk.out)
    have ho2:=hZ ho
    rename_i hxk0 hyk0 hzk0 
    clear hxk0 hyk0 hzk0 ho hok
    have k0:(0:Int)≤(k:Int):=Int.natCast_nonneg _
    have k1:(k:Int) < (xs.length:Int):=by omega
    have k2:(k:Int) < (ys.length:Int):=by omega
    go_wp2_with fail
    go_region_with (first | (go_at_call 96; refine (Mul_ti q y tq ty _ (hGr.fr ?_)).mono ?_; (exact fr9); rintro e w1 ⟨rfl,hf1⟩; have c1:=hf1.keep (p:=⟨lb,lo+k,none⟩) hoc; have c2:=hf1.keep (p:=⟨ob,oo+k,none⟩) hyc; have c3:=hf1.keepf (p:=⟨lb,lo+k,none⟩) hoc hof) | (go_at_call 171; refine (Sub_sm x (q * y) sx sm _ (hGr.fr ?_)).mono ?_; (exact fr9); rintro e w2 ⟨rfl,hf2⟩; have d1:=hf2.keep c1; have d3:=hf2.keepf c1 c3))
    all_goals
     have hfr:Fr wr w2:=by exact fr9
     have hO:=(ho2.out.fr hfr).set (k:=k) (by simp; have:=hzl.out; omega) (x - q * y)
     rw [hset.out] at hO
     have hF:=(hf.fr hfr).setCell (q:=⟨lb,lo+k,none⟩) (.inl rfl) (sv (x - q * y))
     go_wp2_with fail
     go_roundw
     case rel=>exact ⟨k+1,by go_num,by omega,hF,hO⟩
     case measure=>simp [RowKit.intOf]; omega
   ·go_wp2_with fail
    go_end0
    refine ⟨rfl,hf, ?_⟩
    have:k=xs.length:=by omega
    subst this
    rw [List.drop_length,List.append_nil,List.take_of_length_le (by have:=hzl.out; omega)] at ho
    exact ho
theorem take_n (lb lo lc ob oo oc n m:Nat) (q:Int) (xs ys zs:List Int) (w:World) (hG:G w) (hx:Own w lb lo xs) (hy:Own w ob oo ys) (hne:lb≠ob) (hl:xs.length≤1000000000)
 (hn:xs.length=n) (hm:ys.length=m) (hs:takeS q xs ys=some zs) :
 Calls Tryz.prog 273 #[.slice (some ⟨lb,lo,none⟩) n lc,.slice (some ⟨ob,oo,none⟩) m oc,.string (tx q)] w fun e w'=>e=.returned (.tuple #[])∧Fx (·=lb) w w'∧Own w' lb lo zs:=by
 subst hn
 exact take_any lb lo lc ob oo oc m q xs ys zs w hG hx hy hne hl hm.symm hs
theorem turn_any (lb lo lc:Nat) (xs:List Int) (w:World) (_hG:G w) (hx:Own w lb lo xs) (_hl:xs.length≤1000000000) (hs:∀ x ∈ xs,(tx x).size≤1000000000) :
 Calls Tryz.prog 299 #[.slice (some ⟨lb,lo,none⟩) xs.length lc] w fun e w'=>e=.returned (.tuple #[])∧Fx (·=lb) w w'∧Own w' lb lo (xs.map (fun x=>-x)):=by
 have hzl:=hZ (show (xs.map (fun x=>-x)).length=xs.length by simp)
 have hz:∀ (k:Nat) (x:Int),xs[k]?=some x→(xs.map (fun x=>-x))[k]?=some (-x):=fun k x h=>by rw [List.getElem?_map,h]; rfl
 generalize xs.map (fun x=>-x)=zs at *
 have hz:=hZ hz
 rename_i hz0
 clear hz0
 go_enter Tryz.func299,Tryz.ntmps299
 go_wp2_with fail
 go_loopw [2,5] (fun _ s5 wr=>∃ k:Nat,s5=.int .i64 k∧k≤xs.length∧Fx (·=lb) w wr∧Own wr lb lo (zs.take k ++ xs.drop k)) (fun _ s5 _=>xs.length - (RowKit.intOf s5).toNat)
 case atStart=>exact ⟨0,rfl,Nat.zero_le _,Fx.refl _ _,by simpa using hx⟩
 case round=>
  obtain ⟨k,rfl,hk,hf,ho⟩:=hrel
  by_cases hlt:k < xs.length
  ·obtain ⟨x,hxk⟩:∃ x,xs[k]?=some x:=⟨xs[k],List.getElem?_eq_getElem hlt⟩
   have hzk:=hz.out k x hxk
   have hxs:=hs x (List.mem_of_getElem? hxk)
   obtain ⟨hoc,hof⟩:=ho.2.2 k x (by rw [mid_get zs xs k hzl.out hlt]; exact hxk)
   have hset:=hZ (mid_set zs xs k hzl.out hlt _ hzk)
   have hlb:lb < wr.heap.size:=ho.2.1
   have ho2:=hZ ho
   clear hxk hzk ho
   go_wp2_with fail
   refine (Neg_any x _ hxs).mono ?_
   rintro e w2 ⟨rfl,hf2⟩
   have d1:=hf2.keep (p:=⟨lb,lo+k,none⟩) hoc
   have d3:=hf2.keepf (p:=⟨lb,lo+k,none⟩) hoc hof
   have hO:=(ho2.out.fr hf2).set (k:=k) (by simp; have:=hzl.out; omega) (-x)
   rw [hset.out] at hO
   have hF:=(hf.fr hf2).setCell (q:=⟨lb,lo+k,none⟩) (.inl rfl) (sv (-x))
   go_wp2_with fail
   go_roundw
   case rel=>exact ⟨k+1,by go_num,by omega,hF,hO⟩
   case measure=>simp [RowKit.intOf]; omega
  ·go_wp2_with fail
   go_end0
   refine ⟨rfl,hf, ?_⟩
   have:k=xs.length:=by omega
   subst this
   rw [List.drop_length,List.append_nil,List.take_of_length_le (by have:=hzl.out; omega)] at ho
   exact ho
def leadS (xs:List Int):Int:=if 0≤idx (fun x=>x != 0) xs then idx (fun x=>x != 0) xs else xs.length
theorem lead1_pred (w:World) (xs:List Int):Pred w 271 #[] sv (fun x=>x != 0) xs:=fun x W _ _=>by
 show Calls Tryz.prog 271 #[.string (tx x)] W fun e W'=>e=.returned (.bool (x != 0))∧Fr W W'
 have hb:=tx_beq0 x
 have e:(x != 0)=!(decide (x=0)):=by by_cases h:x=0 <;> simp [h]
 rw [e,← hb]
 clear e hb
 go_enter Tryz.func271,Tryz.ntmps271
 go_wp2_with fail
 go_ret
 exact ⟨rfl,Fr.refl _⟩
theorem lead_any (xs:List Int) (a:Option Addr) (cap:Nat) (w:World) (hx:El w sv a xs) (hl:xs.length≤1000000000) :
 Calls Tryz.prog 235 #[.slice a xs.length cap] w fun e w'=>e=.returned (.int .i64 (leadS xs))∧Fr w w':=by
 have eg:∀ args w,(callFunc 271 args).run Tryz.prog w=.ok (.enter 271 args) w:=enters_of Tryz.func271 (by kernel_rfl) rfl
 have hc:=IndexFunc_txs xs a cap 271 #[] (fun x=>x != 0) w eg hx hl (lead1_pred w xs)
 clear eg
 have hd:leadS xs=if 0≤idx (fun x=>x != 0) xs then idx (fun x=>x != 0) xs else xs.length:=rfl
 generalize idx (fun x=>x != 0) xs=r at *
 have hd:=hZ hd
 rename_i hd0
 clear hd0
 by_cases h:0≤r
 ·go_enter Tryz.func235,Tryz.ntmps235
  go_wp2_with fail
  refine hc.mono ?_; rintro e w' ⟨rfl,hf⟩
  go_wp2_with fail
  go_ret
  exact ⟨ret_int (by rw [hd.out,if_pos h]),hf⟩
 ·have hfin:=hZ (show leadS xs=xs.length by rw [hd.out,if_neg h])
  have hlt:r < 0:=by omega
  go_enter Tryz.func235,Tryz.ntmps235
  go_wp2_with fail
  refine hc.mono ?_; rintro e w' ⟨rfl,hf⟩
  go_wp2_with fail
  go_ret
  exact ⟨ret_int hfin.out.symm,hf⟩
theorem Fx.keep {p:Nat→Prop} {w w':World} (h:Fx p w w') {q:Addr} {v:Value} (hc:w.cell? q=some v) (hp:¬ p q.block):w'.cell? q=some v:=by
 rw [h.cell (World.block_lt_of_cell? w q hc) hp]; exact hc
theorem Fx.keepf {p:Nat→Prop} {w w':World} (h:Fx p w w') {q:Addr} {v:Value} {b:Bool} (hc:w.cell? q=some v) (hf:w.frozen? q=b) (hp:¬ p q.block):w'.frozen? q=b:=by
 rw [h.frozen (World.block_lt_of_cell? w q hc) hp]; exact hf
structure GridIs (w:World) (ob oo:Nat) (hs:List (Nat×Nat×Nat)) (g:List (List Int)):Prop where
 len:hs.length=g.length
 outer:ob < w.heap.size
 gob:gN≤ob
 cell:∀ (i:Nat) (h:Nat×Nat×Nat) (xs:List Int),hs[i]?=some h→g[i]?=some xs→w.cell? ⟨ob,oo+i,none⟩=some (.slice (some ⟨h.1,h.2.1,none⟩) xs.length h.2.2)∧w.frozen? ⟨ob,oo+i,none⟩=false
 row:∀ (i:Nat) (h:Nat×Nat×Nat) (xs:List Int),hs[i]?=some h→g[i]?=some xs→Own w h.1 h.2.1 xs∧h.1≠ob
 apart:∀ (i j:Nat) (hi hj:Nat×Nat×Nat),hs[i]?=some hi→hs[j]?=some hj→i≠j→hi.1≠hj.1
def gb (ob:Nat) (hs:List (Nat×Nat×Nat)) (k:Nat):Prop:=k=ob∨∃ h,h ∈ hs∧h.1=k
theorem GridIs.fx {p:Nat→Prop} {w w':World} {ob oo:Nat} {hs:List (Nat×Nat×Nat)} {g:List (List Int)} (h:GridIs w ob oo hs g) (k:Fx p w w') (hp:∀ j,gb ob hs j→¬ p j):GridIs w' ob oo hs g :=
 ⟨h.len,Nat.lt_of_lt_of_le h.outer k.size,h.gob,
  fun i hd xs h1 h2=>by
   have:=h.cell i hd xs h1 h2
   exact ⟨k.keep this.1 (hp _ (.inl rfl)),k.keepf this.1 this.2 (hp _ (.inl rfl))⟩,
  fun i hd xs h1 h2=>by
   have:=h.row i hd xs h1 h2
   exact ⟨this.1.fx k (hp _ (.inr ⟨hd,List.mem_of_getElem? h1,rfl⟩)),this.2⟩,
  h.apart⟩
theorem GridIs.fr {w w':World} {ob oo:Nat} {hs:List (Nat×Nat×Nat)} {g:List (List Int)} (h:GridIs w ob oo hs g) (k:Fr w w'):GridIs w' ob oo hs g :=
 h.fx (p:=fun _=>False) (Fx.of_fr k) (fun _ _ e=>e)
theorem GridIs.ge {w:World} {ob oo:Nat} {hs:List (Nat×Nat×Nat)} {g:List (List Int)} (h:GridIs w ob oo hs g):∀ k,gb ob hs k→gN≤k:=by
 rintro k (rfl | ⟨hd,hm,rfl⟩)
 ·exact h.gob
 ·obtain ⟨i,hi⟩:=List.getElem?_of_mem hm
  have hlt:i < g.length:=by rw [← h.len]; exact (List.getElem?_eq_some_iff.1 hi).1
  exact (h.row i hd _ hi (List.getElem?_eq_getElem hlt)).1.1
theorem GridIs.at {w:World} {ob oo:Nat} {hs:List (Nat×Nat×Nat)} {g:List (List Int)} (h:GridIs w ob oo hs g) {i:Nat} (hi:i < g.length) :
 ∃ b o c,hs[i]?=some (b,o,c)∧w.cell? ⟨ob,oo+i,none⟩=some (.slice (some ⟨b,o,none⟩) (g[i]).length c)∧w.frozen? ⟨ob,oo+i,none⟩=false∧Own w b o g[i]∧b≠ob:=by
 have hl:i < hs.length:=by rw [h.len]; exact hi
 have h1:=List.getElem?_eq_getElem hl
 have h2:=List.getElem?_eq_getElem hi
 have h3:=h.cell i _ _ h1 h2
 have h4:=h.row i _ _ h1 h2
 exact ⟨hs[i].1,hs[i].2.1,hs[i].2.2,h1,h3.1,h3.2,h4.1,h4.2⟩
theorem GridIs.setRow {w w':World} {ob oo:Nat} {hs:List (Nat×Nat×Nat)} {g:List (List Int)} (h:GridIs w ob oo hs g) {i b o c:Nat} (hi:hs[i]?=some (b,o,c)) {zs:List Int}
 (k:Fx (·=b) w w') (ho:Own w' b o zs) (hl:∀ xs,g[i]?=some xs→zs.length=xs.length):GridIs w' ob oo hs (g.set i zs):=by
 have hne:b≠ob:=by
  have hlt:i < g.length:=by rw [← h.len]; exact (List.getElem?_eq_some_iff.1 hi).1
  exact (h.row i _ _ hi (List.getElem?_eq_getElem hlt)).2
 refine ⟨by simp [h.len],Nat.lt_of_lt_of_le h.outer k.size,h.gob,fun j hd xs h1 h2=>?_,fun j hd xs h1 h2=>?_,h.apart⟩
 ·have hj:j < g.length:=by have:=(List.getElem?_eq_some_iff.1 h2).1; simpa using this
  have h3:=h.cell j hd _ h1 (List.getElem?_eq_getElem hj)
  rw [List.getElem?_set] at h2
  have e:xs.length=(g[j]).length:=by
   split at h2
   ·rename_i e; subst e; rw [if_pos (by simpa using hj)] at h2; injection h2 with h2; subst h2; exact hl _ (List.getElem?_eq_getElem hj)
   ·rw [List.getElem?_eq_getElem hj] at h2; injection h2 with h2; rw [h2]
  rw [e]
  exact ⟨k.keep h3.1 (fun e=>hne e.symm),k.keepf h3.1 h3.2 (fun e=>hne e.symm)⟩
 ·have hj:j < g.length:=by have:=(List.getElem?_eq_some_iff.1 h2).1; simpa using this
  have h3:=h.row j hd _ h1 (List.getElem?_eq_getElem hj)
  rw [List.getElem?_set] at h2
  refine ⟨?_,h3.2⟩
  split at h2
  ·rename_i e; subst e
   rw [if_pos (by simpa using hj)] at h2; injection h2 with h2; subst h2
   rw [hi] at h1; injection h1 with h1; subst h1
   exact ho
  ·rename_i e
   rw [List.getElem?_eq_getElem hj] at h2; injection h2 with h2; subst h2
   exact h3.1.fx k (fun e2=>h.apart i j _ _ hi h1 e e2.symm)
theorem GridIs.setRowF {w W w':World} {ob oo:Nat} {hs:List (Nat×Nat×Nat)} {g:List (List Int)} (h:GridIs w ob oo hs g) {i b o c:Nat} (hi:hs[i]?=some (b,o,c)) {zs:List Int}
 (k:Fx (·=b) W w') (ho:Own w' b o zs) (hl:∀ xs,g[i]?=some xs→zs.length=xs.length) (hf:Fr w W):GridIs w' ob oo hs (g.set i zs) :=
 (h.fr hf).setRow hi k ho hl
theorem Fx.via {p q:Nat→Prop} {a b c d:World} (h:Fx p a b) (k:Fx q c d) (hq:∀ j,q j→p j) (hf:Fr b c):Fx p a d:=(h.fr hf).trans (k.mono hq)
theorem gb_mem {ob:Nat} {hs:List (Nat×Nat×Nat)} {i b o c:Nat} (hi:hs[i]?=some (b,o,c)):∀ j,j=b→gb ob hs j:=fun _ e=>.inr ⟨_,List.mem_of_getElem? hi,e.symm⟩
def swp {α:Type} (l:List α) (i j:Nat):List α:=match l[i]?,l[j]? with
 | some x,some y=>(l.set i y).set j x
 | _,_=>l
theorem swp_len {α:Type} (l:List α) (i j:Nat):(swp l i j).length=l.length:=by
 unfold swp; split <;> simp
theorem swp_get {α:Type} (l:List α) (i j:Nat) {x y:α} (hi:l[i]?=some x) (hj:l[j]?=some y) (k:Nat) :
 (swp l i j)[k]?=if k=j then some x else if k=i then some y else l[k]?:=by
 have h1:=(List.getElem?_eq_some_iff.1 hi).1
 have h2:=(List.getElem?_eq_some_iff.1 hj).1
 unfold swp
 rw [hi,hj]
 simp only [List.getElem?_set]
 by_cases e:j=k
 ·subst e; simp [h2]
 ·have e':¬ k=j:=fun h=>e h.symm
  rw [if_neg e,if_neg e']
  by_cases e2:i=k
  ·subst e2; simp [h1]
  ·have e2':¬ k=i:=fun h=>e2 h.symm
   rw [if_neg e2,if_neg e2']
theorem GridIs.swap {w:World} {ob oo:Nat} {hs:List (Nat×Nat×Nat)} {g:List (List Int)} (h:GridIs w ob oo hs g) {i j:Nat} {hi hj:Nat×Nat×Nat} {xs ys:List Int}
 (h1:hs[i]?=some hi) (h2:hs[j]?=some hj) (h3:g[i]?=some xs) (h4:g[j]?=some ys) (hij:i≠j) :
 GridIs ((w.setCell ⟨ob,oo+i,none⟩ (.slice (some ⟨hj.1,hj.2.1,none⟩) ys.length hj.2.2)).setCell ⟨ob,oo+j,none⟩ (.slice (some ⟨hi.1,hi.2.1,none⟩) xs.length hi.2.2)) ob oo (swp hs i j) (swp g i j):=by
 have hf:Fx (·=ob) w ((w.setCell ⟨ob,oo+i,none⟩ (.slice (some ⟨hj.1,hj.2.1,none⟩) ys.length hj.2.2)).setCell ⟨ob,oo+j,none⟩ (.slice (some ⟨hi.1,hi.2.1,none⟩) xs.length hi.2.2)) :=
  Fx.setCell (p:=(·=ob)) (q:=⟨ob,oo+j,none⟩) (Fx.setCell (p:=(·=ob)) (q:=⟨ob,oo+i,none⟩) (Fx.refl _ w) (.inl rfl) _) (.inl rfl) _
 have ci:=h.cell i _ _ h1 h3
 have cj:=h.cell j _ _ h2 h4
 have eij:(⟨ob,oo+i,none⟩:Addr)≠⟨ob,oo+j,none⟩:=fun e=>by injection e with _ e; omega
 refine ⟨by rw [swp_len,swp_len,h.len],Nat.lt_of_lt_of_le h.outer hf.size,h.gob,fun k hd zs k1 k2=>?_,fun k hd zs k1 k2=>?_,fun a b ha hb k1 k2 hab=>?_⟩
 ·rw [swp_get hs i j h1 h2] at k1
  rw [swp_get g i j h3 h4] at k2
  rw [World.frozen?_setCell,World.frozen?_setCell]
  by_cases e:k=j
  ·subst e
   rw [if_pos rfl] at k1 k2
   injection k1 with k1; injection k2 with k2; subst k1; subst k2
   refine ⟨World.cell?_setCell_same' _ _ _ ?_,cj.2⟩
   rw [World.cell?_setCell_other _ _ _ _ eij,cj.1]; rfl
  ·rw [if_neg e] at k1 k2
   have ekj:(⟨ob,oo+j,none⟩:Addr)≠⟨ob,oo+k,none⟩:=fun e2=>by injection e2 with _ e2; omega
   rw [World.cell?_setCell_other _ _ _ _ ekj]
   by_cases e2:k=i
   ·subst e2
    rw [if_pos rfl] at k1 k2
    injection k1 with k1; injection k2 with k2; subst k1; subst k2
    exact ⟨World.cell?_setCell_same' _ _ _ (by rw [ci.1]; rfl),ci.2⟩
   ·rw [if_neg e2] at k1 k2
    have eki:(⟨ob,oo+i,none⟩:Addr)≠⟨ob,oo+k,none⟩:=fun e3=>by injection e3 with _ e3; omega
    rw [World.cell?_setCell_other _ _ _ _ eki]
    exact h.cell k hd zs k1 k2
 ·rw [swp_get hs i j h1 h2] at k1
  rw [swp_get g i j h3 h4] at k2
  have go:∀ (m:Nat) (hd:Nat×Nat×Nat) (zs:List Int),hs[m]?=some hd→g[m]?=some zs→Own ((w.setCell ⟨ob,oo+i,none⟩ (.slice (some ⟨hj.1,hj.2.1,none⟩) ys.length hj.2.2)).setCell ⟨ob,oo+j,none⟩ (.slice (some ⟨hi.1,hi.2.1,none⟩) xs.length hi.2.2)) hd.1 hd.2.1 zs∧hd.1≠ob:=fun m hd zs m1 m2=>by
   have:=h.row m hd zs m1 m2
   exact ⟨this.1.fx hf this.2,this.2⟩
  by_cases e:k=j
  ·subst e; rw [if_pos rfl] at k1 k2; injection k1 with k1; injection k2 with k2; subst k1; subst k2; exact go i _ _ h1 h3
  ·rw [if_neg e] at k1 k2
   by_cases e2:k=i
   ·subst e2; rw [if_pos rfl] at k1 k2; injection k1 with k1; injection k2 with k2; subst k1; subst k2; exact go j _ _ h2 h4
   ·rw [if_neg e2] at k1 k2; exact go k _ _ k1 k2
 ·rw [swp_get hs i j h1 h2] at k1 k2
  have key:∀ (k:Nat) (hd:Nat×Nat×Nat),(if k=j then some hi else if k=i then some hj else hs[k]?)=some hd→∃ m,hs[m]?=some hd∧m=(if k=j then i else if k=i then j else k):=fun k hd hk=>by
   by_cases e:k=j
   ·rw [if_pos e] at hk ⊢; exact ⟨i,by rw [h1,hk],rfl⟩
   ·rw [if_neg e] at hk ⊢
    by_cases e2:k=i
    ·rw [if_pos e2] at hk ⊢; exact ⟨j,by rw [h2,hk],rfl⟩
    ·rw [if_neg e2] at hk ⊢; exact ⟨k,hk,rfl⟩
  obtain ⟨m,m1,m2⟩:=key a ha k1
  obtain ⟨n,n1,n2⟩:=key b hb k2
  refine h.apart m n _ _ m1 n1 (fun e=>hab ?_)
  rw [m2,n2] at e
  repeat' split at e
  all_goals omega
theorem gb_swp {ob:Nat} {hs:List (Nat×Nat×Nat)} {i j:Nat} {hi hj:Nat×Nat×Nat} (h1:hs[i]?=some hi) (h2:hs[j]?=some hj):∀ k,gb ob (swp hs i j) k ↔ gb ob hs k:=by
 have key:∀ hd,hd ∈ swp hs i j ↔ hd ∈ hs:=fun hd=>by
  rw [List.mem_iff_getElem?,List.mem_iff_getElem?]
  constructor
  ·rintro ⟨k,hk⟩
   rw [swp_get hs i j h1 h2] at hk
   split at hk
   ·exact ⟨i,by rw [h1,hk]⟩
   ·split at hk
    ·exact ⟨j,by rw [h2,hk]⟩
    ·exact ⟨k,hk⟩
  ·rintro ⟨k,hk⟩
   by_cases e:k=i
   ·subst e; rw [h1] at hk; exact ⟨j,by rw [swp_get hs k j h1 h2,if_pos rfl,hk]⟩
   ·by_cases e2:k=j
    ·subst e2; rw [h2] at hk
     refine ⟨i, ?_⟩
     rw [swp_get hs i k h1 h2]
     have e':¬ i=k:=fun h=>e h.symm
     rw [if_neg e',if_pos rfl,hk]
    ·exact ⟨k,by rw [swp_get hs i j h1 h2,if_neg e2,if_neg e,hk]⟩
 intro k
 unfold gb
 constructor
 ·rintro (h | ⟨hd,hm,e⟩)
  ·exact .inl h
  ·exact .inr ⟨hd,(key hd).1 hm,e⟩
 ·rintro (h | ⟨hd,hm,e⟩)
  ·exact .inl h
  ·exact .inr ⟨hd,(key hd).2 hm,e⟩
def rowAt (g:List (List Int)) (i:Nat):List Int:=(g[i]?).getD []
def ent (g:List (List Int)) (i c:Nat):Int:=((rowAt g i)[c]?).getD 0
def smB (n:Int):Bool:=decide (-100000000000000000 < n∧n < 100000000000000000)
theorem smB_sm {n:Int} (h:smB n=true):Sm n:=by unfold smB at h; have h:=of_decide_eq_true h; exact h
def elim1 (g:List (List Int)) (c t i:Nat):Option (List (List Int)) :=
 if smB (ent g i c) && smB (ent g t c) && ent g t c != 0 then (takeS ((ent g i c).fdiv (ent g t c)) (rowAt g i) (rowAt g t)).map (fun r=>g.set i r) else none
def elimTo (g:List (List Int)) (c t s:Nat):Nat→Option (List (List Int))
 | 0=>some g
 | j+1=>(elimTo g c t s j).bind fun g=>elim1 g c t (s+j)
def smRow (r:List Int):Bool:=r.all smB
def finS (g:List (List Int)) (t c:Nat):Option (List (List Int)) :=
 if ent g t c < 0 then (if smRow (rowAt g t) then elimTo (g.set t ((rowAt g t).map (fun x=>-x))) c t 0 t else none) else elimTo g c t 0 t
def Rect (n:Nat) (g:List (List Int)):Prop:=∀ r,r ∈ g→r.length=n
theorem Rect.row {n:Nat} {g:List (List Int)} (h:Rect n g) {i:Nat} (hi:i < g.length):(g[i]).length=n:=h _ (List.getElem_mem hi)
theorem Rect.set {n:Nat} {g:List (List Int)} (h:Rect n g) {i:Nat} {r:List Int} (hr:r.length=n):Rect n (g.set i r):=fun x hx=>by
 rcases List.mem_or_eq_of_mem_set hx with h1 | h1
 ·exact h x h1
 ·rw [h1]; exact hr
theorem rowAt_eq {g:List (List Int)} {i:Nat} (hi:i < g.length):rowAt g i=g[i]:=by unfold rowAt; rw [List.getElem?_eq_getElem hi]; rfl
theorem ent_at {g:List (List Int)} {n i c:Nat} (h:Rect n g) (hi:i < g.length) (hc:c < n):(g[i])[c]?=some (ent g i c):=by
 unfold ent
 rw [rowAt_eq hi]
 have:c < (g[i]).length:=by rw [h.row hi]; exact hc
 rw [List.getElem?_eq_getElem this]; rfl
theorem takeS_len {q:Int} {xs ys zs:List Int} (h:takeS q xs ys=some zs):zs.length=xs.length:=by
 unfold takeS at h
 split at h
 ·injection h with h; rw [h]
 ·exact (takeL_spec q xs ys zs h).1
theorem elim1_some {g g':List (List Int)} {c t i:Nat} (h:elim1 g c t i=some g'):Sm (ent g i c)∧Sm (ent g t c)∧ent g t c≠0∧∃ r,takeS ((ent g i c).fdiv (ent g t c)) (rowAt g i) (rowAt g t)=some r∧g'=g.set i r:=by
 unfold elim1 at h
 split at h
 ·rename_i hc
  simp only [Bool.and_eq_true,bne_iff_ne] at hc
  obtain ⟨r,hr,rfl⟩:=Option.map_eq_some_iff.1 h
  exact ⟨smB_sm hc.1.1,smB_sm hc.1.2,hc.2,r,hr,rfl⟩
 ·simp at h
theorem elim1_keeps {g g':List (List Int)} {c t i n:Nat} (h:elim1 g c t i=some g') (hr:Rect n g) (hi:i < g.length):Rect n g'∧g'.length=g.length:=by
 obtain ⟨_,_,_,r,h1,rfl⟩:=elim1_some h
 exact ⟨hr.set (by rw [takeS_len h1,rowAt_eq hi,hr.row hi]),by simp⟩
theorem elimTo_keeps {g:List (List Int)} {c t s n:Nat} (hr:Rect n g):∀ (j:Nat) (g':List (List Int)),elimTo g c t s j=some g'→s+j≤g.length→Rect n g'∧g'.length=g.length
 | 0,g',h,_=>by injection h with h; subst h; exact ⟨hr,rfl⟩
 | j+1,g',h,hl=>by
   obtain ⟨g1,h1,h2⟩:=Option.bind_eq_some_iff.1 h
   obtain ⟨a,b⟩:=elimTo_keeps hr j g1 h1 (by omega)
   obtain ⟨a',b'⟩:=elim1_keeps h2 a (by omega)
   exact ⟨a',by rw [b',b]⟩
theorem elimTo_mono {g:List (List Int)} {c t s:Nat}:∀ (j k:Nat) (g':List (List Int)),elimTo g c t s k=some g'→j≤k→∃ g1,elimTo g c t s j=some g1
 | j,0,g',h,hj=>by obtain rfl:j=0:=by omega
                   exact ⟨g,rfl⟩
 | j,k+1,g',h,hj=>by
   by_cases e:j=k+1
   ·subst e; exact ⟨g',h⟩
   ·obtain ⟨g1,h1,_⟩:=Option.bind_eq_some_iff.1 h
    exact elimTo_mono j k g1 h1 (by omega)
theorem finish_loop (ob oo oc:Nat) (hs:List (Nat×Nat×Nat)) (g g':List (List Int)) (n t c:Nat) (w:World) (hG:G w) (hg:GridIs w ob oo hs g) (hr:Rect n g) (hn:n≤1000000) (hl:g.length≤1000000)
 (ht:t < g.length) (hc:c < n) (hpos:¬ ent g t c < 0) (hf:elimTo g c t 0 t=some g') :
 Calls Tryz.prog 272 #[.slice (some ⟨ob,oo,none⟩) g.length oc,.int .i64 t,.int .i64 c] w fun e w'=>e=.returned (.tuple #[])∧Fx (gb ob hs) w w'∧GridIs w' ob oo hs g':=by
 obtain ⟨b,o,cc,hst,hc1,hf1,hro,hbo⟩:=hg.at ht
 have hec:=ent_at hr ht hc
 have hcell:=(hro.2.2 c _ hec).1
 have hrl:=hr.row ht
 rw [hrl] at hc1
 have hge:0≤ent g t c:=by omega
 have hG0:=hZ hg
 have hR0:=hZ hr
 have hF0:=hZ hf
 have hG1:=hZ hG
 clear hec hf hg hr hrl hpos hro hbo hst
 go_enter Tryz.func272,Tryz.ntmps272
 go_wp2_with fail
 refine (Sign_any _ _).mono ?_; rintro e w' ⟨rfl,rfl⟩
 go_wp2_with fail
 clear hc1 hf1 hcell hge
 go_loopg [25] t (fun k s25 wr=>∃ (j:Nat) (g1:List (List Int)),s25=.int .i64 j∧j+k=t∧Hid (elimTo g c t 0 j=some g1)∧GridIs wr ob oo hs g1∧Fx (gb ob hs) w wr)
 case atStart=>exact ⟨0,g,rfl,by omega,rfl,hG0.out,Fx.refl _ _⟩
 case round=>
  obtain ⟨j,g1,rfl,hjk,he,hgr,hfx⟩:=hrel
  obtain ⟨hr1,hl1⟩:=elimTo_keeps hR0.out j g1 he.out (by omega)
  by_cases hlt:j < t
  ·obtain ⟨g2,hg2⟩:=elimTo_mono (j+1) t g' hF0.out (by omega)
   have hstep:elim1 g1 c t j=some g2:=by
    have:=hg2
    rw [elimTo,he.out] at this
    simpa using this
   obtain ⟨sa,sb,hb0,r,htk,rfl⟩:=elim1_some hstep
   have hj1:j < g1.length:=by omega
   have ht1:t < g1.length:=by omega
   obtain ⟨b1,o1,k1,hs1,ca1,cf1,ro1,bo1⟩:=hgr.at hj1
   obtain ⟨b2,o2,k2,hs2,ca2,cf2,ro2,bo2⟩:=hgr.at ht1
   have hb12:=hgr.apart j t _ _ hs1 hs2 (by omega)
   have ce1:=(ro1.2.2 c _ (ent_at hr1 hj1 hc)).1
   have ce2:=(ro2.2.2 c _ (ent_at hr1 ht1 hc)).1
   rw [hr1.row hj1] at ca1
   rw [hr1.row ht1] at ca2
   have hGr:=hG1.out.fx hfx hgr.ge
   have q0:(0:Int)≤(j:Int):=Int.natCast_nonneg _
   have q1:(j:Int) < (g.length:Int):=by omega
   have q2:(t:Int) < (g.length:Int):=by omega
   have q3:(c:Int) < (n:Int):=by omega
   replace hg2:=hZ hg2
   replace htk:=hZ htk
   have hgr2:=hZ hgr
   replace ro1:=hZ ro1
   replace ro2:=hZ ro2
   replace hs1:=hZ hs1
   replace hr1:=hZ hr1
   go_wp2_with fail
   go_region_held3 (fun w'=>w'.cell? ⟨ob,oo+j,none⟩=some (.slice (some ⟨b1,o1,none⟩) n k1)∧w'.cell? ⟨b1,o1+c,none⟩=some (.string (tx (ent g1 j c)))∧w'.cell? ⟨ob,oo+t,none⟩=some (.slice (some ⟨b2,o2,none⟩) n k2)∧w'.cell? ⟨b2,o2+c,none⟩=some (.string (tx (ent g1 t c))))
    (first | go_keep | (go_split_ands; refine ⟨?_, ?_, ?_, ?_⟩ <;> (refine Fr.keep (by assumption) ?_; assumption)))
    (first | (go_at_call 115; refine (DivMod_sm _ _ sa sb hb0 _ (hGr.fr ?_)).mono ?_; (exact fr9); rintro e w1 ⟨rfl,hf1⟩))
   have hfr:Fr wr w1:=by exact fr9
   replace ca1:=hfr.keep (p:=⟨ob,oo+j,none⟩) ca1
   replace ca2:=hfr.keep (p:=⟨ob,oo+t,none⟩) ca2
   go_wp2_with fail
   have len1:(g1[j]).length=n:=hr1.out.row hj1
   have len2:(g1[t]).length=n:=hr1.out.row ht1
   rw [rowAt_eq hj1,rowAt_eq ht1] at htk
   replace len1:=hZ len1
   replace len2:=hZ len2
   go_region_held3 (fun w'=>w'.cell? ⟨ob,oo+j,none⟩=some (.slice (some ⟨b1,o1,none⟩) n k1)∧w'.cell? ⟨ob,oo+t,none⟩=some (.slice (some ⟨b2,o2,none⟩) n k2))
    (first | go_keep | (go_split_ands; refine ⟨?_, ?_⟩ <;> (refine Fx.keep (p:=(·=b1)) (by assumption) (by assumption) (fun e=>bo1 e.symm))))
    (first | (go_at_call 273; refine (take_n b1 o1 k1 b2 o2 k2 n n _ _ _ r _ (hGr.fr ?_) (ro1.out.fr ?_) (ro2.out.fr ?_) hb12 (by rw [len1.out]; omega) len1.out len2.out htk.out).mono ?_; (exact fr9); (exact fr9); (exact fr9); rintro e w2 ⟨rfl,hfx2,hown2⟩))
   have hgF:=hgr2.out.setRowF hs1.out hfx2 hown2 (fun xs h=>by have h2:=takeS_len htk.out; rw [List.getElem?_eq_getElem hj1] at h; injection h with h; rw [← h]; exact h2) (by exact fr9)
   have hfF:=hfx.via hfx2 (gb_mem hs1.out) (by exact fr9)
   go_wp2_with fail
   go_roundg (gk - 1)
   case measure=>omega
   case rel=>exact ⟨j+1,_,by go_num,by omega,hg2,hgF,hfF⟩
  ·go_wp2_with fail
   go_end0
   obtain rfl:j=t:=by omega
   have h1:=he.out
   rw [hF0.out] at h1
   injection h1 with h1; subst h1
   exact ⟨rfl,hfx,hgr⟩
theorem smRow_mem {r:List Int} (h:smRow r=true):∀ x,x ∈ r→(tx x).size≤1000000000:=fun x hx=>by
 have:=(smB_sm (List.all_eq_true.1 h x hx)).size; omega
theorem finish_any (ob oo oc:Nat) (hs:List (Nat×Nat×Nat)) (g g':List (List Int)) (n t c:Nat) (w:World) (hG:G w) (hg:GridIs w ob oo hs g) (hr:Rect n g) (hn:n≤1000000) (hl:g.length≤1000000)
 (ht:t < g.length) (hc:c < n) (hf:finS g t c=some g') :
 Calls Tryz.prog 272 #[.slice (some ⟨ob,oo,none⟩) g.length oc,.int .i64 t,.int .i64 c] w fun e w'=>e=.returned (.tuple #[])∧Fx (gb ob hs) w w'∧GridIs w' ob oo hs g':=by
 unfold finS at hf
 by_cases hneg:ent g t c < 0
 ·rw [if_pos hneg] at hf
  split at hf
  ·rename_i hsm
   obtain ⟨b,o,cc,hst,hc1,hf1,hro,hbo⟩:=hg.at ht
   have hec:=ent_at hr ht hc
   have hcell:=(hro.2.2 c _ hec).1
   have hrl:=hr.row ht
   have hrow:=rowAt_eq ht
   have hlt0:ent g t c < 0:=hneg
   rw [hrow] at hf hsm
   have hrs:=hr.set (i:=t) (r:=(g[t]).map (fun x=>-x)) (by simp [hrl])
   have hl0:(g.set t ((g[t]).map (fun x=>-x))).length=g.length:=by simp
   have hturn:=turn_any b o cc g[t] w hG hro (by rw [hrl]; omega) (smRow_mem hsm)
   rw [hrl] at hc1 hturn
   have hGs:∀ w',Fx (·=b) w w'→Own w' b o ((g[t]).map (fun x=>-x))→GridIs w' ob oo hs (g.set t ((g[t]).map (fun x=>-x))):=fun w' k1 k2=>hg.setRow hst k1 k2 (fun xs h=>by rw [List.getElem?_eq_getElem ht] at h; injection h with h; rw [← h]; simp)
   have hbs:=hZ (gb_mem (ob:=ob) hst)
   generalize hgs:g.set t ((g[t]).map (fun x=>-x))=g0 at *
   generalize (g[t]).map (fun x=>-x)=zs at *
   have hR0:=hZ hrs
   have hF0:=hZ hf
   have hG1:=hZ hG
   have hGs:=hZ hGs
   have hc3:=hc1
   clear hgs hrow hf hg hr hrl hneg hro hst hec hrs hsm
   rename_i hGs0
   clear hGs0
   go_enter Tryz.func272,Tryz.ntmps272
   go_wp2_with fail
   refine (Sign_any _ _).mono ?_; rintro e w' ⟨rfl,rfl⟩
   go_wp2_with fail
   refine hturn.mono ?_; rintro e w0 ⟨rfl,hfx0,hown0⟩
   have hG0:=hZ (hGs.out w0 hfx0 hown0)
   have hfx1:=hfx0.mono hbs.out
   clear hturn hown0 hfx0 hc1 hf1 hcell hc3 hlt0
   go_wp2_with fail
   go_loopg [25] t (fun k s25 wr=>∃ (j:Nat) (g1:List (List Int)),s25=.int .i64 j∧j+k=t∧Hid (elimTo g0 c t 0 j=some g1)∧GridIs wr ob oo hs g1∧Fx (gb ob hs) w wr)
   case atStart=>exact ⟨0,g0,rfl,by omega,rfl,hG0.out,hfx1⟩
   case round=>
    obtain ⟨j,g1,rfl,hjk,he,hgr,hfx⟩:=hrel
    obtain ⟨hr1,hl1⟩:=elimTo_keeps hR0.out j g1 he.out (by omega)
    by_cases hlt:j < t
    ·obtain ⟨g2,hg2⟩:=elimTo_mono (j+1) t g' hF0.out (by omega)
     have hstep:elim1 g1 c t j=some g2:=by
      have:=hg2
      rw [elimTo,he.out] at this
      simpa using this
     obtain ⟨sa,sb,hb0,r,htk,rfl⟩:=elim1_some hstep
     have hj1:j < g1.length:=by omega
     have ht1:t < g1.length:=by omega
     obtain ⟨b1,o1,k1,hs1,ca1,cf1,ro1,bo1⟩:=hgr.at hj1
     obtain ⟨b2,o2,k2,hs2,ca2,cf2,ro2,bo2⟩:=hgr.at ht1
     have hb12:=hgr.apart j t _ _ hs1 hs2 (by omega)
     have ce1:=(ro1.2.2 c _ (ent_at hr1 hj1 hc)).1
     have ce2:=(ro2.2.2 c _ (ent_at hr1 ht1 hc)).1
     rw [hr1.row hj1] at ca1
     rw [hr1.row ht1] at ca2
     have hGr:=hG1.out.fx hfx hgr.ge
     have q0:(0:Int)≤(j:Int):=Int.natCast_nonneg _
     have q1:(j:Int) < (g.length:Int):=by omega
     have q2:(t:Int) < (g.length:Int):=by omega
     have q3:(c:Int) < (n:Int):=by omega
     replace hg2:=hZ hg2
     replace htk:=hZ htk
     have hgr2:=hZ hgr
     replace ro1:=hZ ro1
     replace ro2:=hZ ro2
     replace hs1:=hZ hs1
     replace hr1:=hZ hr1
     go_wp2_with fail
     go_region_held3 (fun w'=>w'.cell? ⟨ob,oo+j,none⟩=some (.slice (some ⟨b1,o1,none⟩) n k1)∧w'.cell? ⟨b1,o1+c,none⟩=some (.string (tx (ent g1 j c)))∧w'.cell? ⟨ob,oo+t,none⟩=some (.slice (some ⟨b2,o2,none⟩) n k2)∧w'.cell? ⟨b2,o2+c,none⟩=some (.string (tx (ent g1 t c))))
      (first | go_keep | (go_split_ands; refine ⟨?_, ?_, ?_, ?_⟩ <;> (refine Fr.keep (by assumption) ?_; assumption)))
      (first | (go_at_call 115; refine (DivMod_sm _ _ sa sb hb0 _ (hGr.fr ?_)).mono ?_; (exact fr9); rintro e w1 ⟨rfl,hf1⟩))
     have hfr:Fr wr w1:=by exact fr9
     replace ca1:=hfr.keep (p:=⟨ob,oo+j,none⟩) ca1
     replace ca2:=hfr.keep (p:=⟨ob,oo+t,none⟩) ca2
     go_wp2_with fail
     have len1:(g1[j]).length=n:=hr1.out.row hj1
     have len2:(g1[t]).length=n:=hr1.out.row ht1
     rw [rowAt_eq hj1,rowAt_eq ht1] at htk
     replace len1:=hZ len1
     replace len2:=hZ len2
     go_region_held3 (fun w'=>w'.cell? ⟨ob,oo+j,none⟩=some (.slice (some ⟨b1,o1,none⟩) n k1)∧w'.cell? ⟨ob,oo+t,none⟩=some (.slice (some ⟨b2,o2,none⟩) n k2))
      (first | go_keep | (go_split_ands; refine ⟨?_, ?_⟩ <;> (refine Fx.keep (p:=(·=b1)) (by assumption) (by assumption) (fun e=>bo1 e.symm))))
      (first | (go_at_call 273; refine (take_n b1 o1 k1 b2 o2 k2 n n _ _ _ r _ (hGr.fr ?_) (ro1.out.fr ?_) (ro2.out.fr ?_) hb12 (by rw [len1.out]; omega) len1.out len2.out htk.out).mono ?_; (exact fr9); (exact fr9); (exact fr9); rintro e w2 ⟨rfl,hfx2,hown2⟩))
     have hgF:=hgr2.out.setRowF hs1.out hfx2 hown2 (fun xs h=>by have h2:=takeS_len htk.out; rw [List.getElem?_eq_getElem hj1] at h; injection h with h; rw [← h]; exact h2) (by exact fr9)
     have hfF:=hfx.via hfx2 (gb_mem hs1.out) (by exact fr9)
     go_wp2_with fail
     go_roundg (gk - 1)
     case measure=>omega
     case rel=>exact ⟨j+1,_,by go_num,by omega,hg2,hgF,hfF⟩
    ·go_wp2_with fail
     go_end0
     obtain rfl:j=t:=by omega
     have h1:=he.out
     rw [hF0.out] at h1
     injection h1 with h1; subst h1
     exact ⟨rfl,hfx,hgr⟩
  ·simp at hf
 ·rw [if_neg hneg] at hf
  exact finish_loop ob oo oc hs g g' n t c w hG hg hr hn hl ht hc hneg hf
def pick1 (g:List (List Int)) (c i:Nat) (s:Option Nat×Bool):Option Nat×Bool :=
 if ent g i c=0 then s else match s.1 with
 | none=>(some i,s.2)
 | some k=>(if cmpI ((ent g i c).natAbs:Int) ((ent g k c).natAbs:Int) < 0 then some i else some k,true)
def pickTo (g:List (List Int)) (c t:Nat):Nat→Option Nat×Bool
 | 0=>(none,false)
 | j+1=>pick1 g c (t+j) (pickTo g c t j)
def kI:Option Nat→Int
 | none=>-1
 | some k=>k
def colOk (g:List (List Int)) (c:Nat):Bool:=(List.range g.length).all fun i=>smB (ent g i c)
def colL:Nat→List (List Int)→Nat→Nat→Option (List (List Int)×Nat)
 | 0,_,_,_=>none
 | F+1,g,c,t=>
   if colOk g c then
    match pickTo g c t (g.length - t) with
    | (none,_)=>some (g,t)
    | (some k,true)=>(elimTo (swp g t k) c t (t+1) (g.length - (t+1))).bind fun g2=>colL F g2 c t
    | (some k,false)=>(finS (swp g t k) t c).map fun g2=>(g2,t+1)
   else none
def herm (F:Nat):Nat→Nat→List (List Int)→Nat→Option (List (List Int)×Nat)
 | 0,_,g,t=>some (g,t)
 | n+1,c,g,t=>if t < g.length then (colL F g c t).bind fun r=>herm F n (c+1) r.1 r.2 else some (g,t)
def Same (ob:Nat) (a b:List (Nat×Nat×Nat)):Prop:=(∀ k,gb ob a k ↔ gb ob b k)∧∀ h,h ∈ a→h ∈ b
theorem swp_mem {α:Type} {l:List α} {i j:Nat} {x:α} (h:x ∈ swp l i j):x ∈ l:=by
 unfold swp at h
 split at h
 ·rename_i a b ha hb
  rcases List.mem_or_eq_of_mem_set h with h1 | h1
  ·rcases List.mem_or_eq_of_mem_set h1 with h2 | h2
   ·exact h2
   ·rw [h2]; exact List.mem_of_getElem? hb
  ·rw [h1]; exact List.mem_of_getElem? ha
 ·exact h
theorem swp_same {α:Type} (l:List α) (i:Nat):swp l i i=l:=by
 unfold swp
 cases h:l[i]? with
 | none=>rfl
 | some x=>
   have hi:=(List.getElem?_eq_some_iff.1 h).1
   refine List.ext_getElem? fun k=>?_
   simp only [List.getElem?_set]
   by_cases e:i=k
   ·subst e; simp [hi]; exact ((List.getElem?_eq_some_iff.1 h).2).symm
   ·simp [e]
theorem swp_rect {n:Nat} {g:List (List Int)} {i j:Nat} (h:Rect n g):Rect n (swp g i j):=by
 unfold swp
 split
 ·rename_i x y hx hy
  exact (h.set (h _ (List.mem_of_getElem? hy))).set (h _ (List.mem_of_getElem? hx))
 ·exact h
theorem finS_keeps {g g':List (List Int)} {t c n:Nat} (h:finS g t c=some g') (hr:Rect n g) (ht:t < g.length):Rect n g'∧g'.length=g.length:=by
 unfold finS at h
 split at h
 ·split at h
  ·have hr1:Rect n (g.set t ((rowAt g t).map (fun x=>-x))):=hr.set (by rw [rowAt_eq ht]; simp [hr.row ht])
   obtain ⟨a,b⟩:=elimTo_keeps hr1 t g' h (by simp; omega)
   exact ⟨a,by rw [b]; simp⟩
  ·simp at h
 ·exact elimTo_keeps hr t g' h (by omega)
theorem GridIs.same {w:World} {ob oo:Nat} {hs:List (Nat×Nat×Nat)} {g:List (List Int)} (h:GridIs w ob oo hs g) {i:Nat} {v:Value} (hv:w.cell? ⟨ob,oo+i,none⟩=some v) :
 GridIs ((w.setCell ⟨ob,oo+i,none⟩ v).setCell ⟨ob,oo+i,none⟩ v) ob oo hs g:=by
 have hc:∀ q,((w.setCell ⟨ob,oo+i,none⟩ v).setCell ⟨ob,oo+i,none⟩ v).cell? q=w.cell? q:=fun q=>by
  by_cases e:(⟨ob,oo+i,none⟩:Addr)=q
  ·subst e
   rw [hv]
   refine World.cell?_setCell_same' _ _ _ ?_
   rw [World.cell?_setCell_same' _ _ _ (by rw [hv]; rfl)]; rfl
  ·rw [World.cell?_setCell_other _ _ _ _ e,World.cell?_setCell_other _ _ _ _ e]
 have hf:∀ q,((w.setCell ⟨ob,oo+i,none⟩ v).setCell ⟨ob,oo+i,none⟩ v).frozen? q=w.frozen? q:=fun q=>by
  rw [World.frozen?_setCell,World.frozen?_setCell]
 have hs':((w.setCell ⟨ob,oo+i,none⟩ v).setCell ⟨ob,oo+i,none⟩ v).heap.size=w.heap.size:=by simp [World.setCell]
 refine ⟨h.len,by rw [hs']; exact h.outer,h.gob,fun j hd xs h1 h2=>?_,fun j hd xs h1 h2=>?_,h.apart⟩
 ·rw [hc,hf]; exact h.cell j hd xs h1 h2
 ·obtain ⟨⟨a1,a2,a3⟩,a4⟩:=h.row j hd xs h1 h2
  exact ⟨⟨a1,by rw [hs']; exact a2,fun m x hx=>by rw [hc,hf]; exact a3 m x hx⟩,a4⟩
theorem colL_succ {F c t:Nat} {g:List (List Int)} {r:List (List Int)×Nat} (h:colL (F+1) g c t=some r):colL (F+1) g c t=match pickTo g c t (g.length - t) with
 | (none,_)=>some (g,t)
 | (some k,true)=>(elimTo (swp g t k) c t (t+1) (g.length - (t+1))).bind fun g2=>colL F g2 c t
 | (some k,false)=>(finS (swp g t k) t c).map fun g2=>(g2,t+1):=by
 conv=>lhs; unfold colL
 by_cases e:colOk g c=true
 ·rw [if_pos e]
 ·unfold colL at h; rw [if_neg e] at h; simp at h
theorem pickTo_none {g:List (List Int)} {c t:Nat}:∀ j,(pickTo g c t j).1=none→(pickTo g c t j).2=false
 | 0,_=>rfl
 | j+1,h=>by
   unfold pickTo pick1 at h ⊢
   split
   ·rename_i h0; rw [if_pos h0] at h; exact pickTo_none j h
   ·rename_i h0; rw [if_neg h0] at h
    split at h
    ·simp at h
    ·split at h <;> simp at h
theorem pickTo_lt {g:List (List Int)} {c t:Nat}:∀ j k,(pickTo g c t j).1=some k→t≤k∧k < t+j
 | 0,k,h=>by simp [pickTo] at h
 | j+1,k,h=>by
   unfold pickTo pick1 at h
   split at h
   ·have:=pickTo_lt j k h; omega
   ·split at h
    ·injection h with h; omega
    ·rename_i k' hk'
     have:=pickTo_lt j k' hk'
     split at h <;> (injection h with h; omega)
theorem herm_any (ob oo oc:Nat) (hs:List (Nat×Nat×Nat)) (g gF:List (List Int)) (F n cols tF:Nat) (w:World) (hG:G w) (hg:GridIs w ob oo hs g) (hr:Rect n g) (hn:n≤1000000) (hl:g.length≤1000000)
 (hc:cols≤n) (hoc:g.length≤oc) (hf:herm F cols 0 g 0=some (gF,tF)) :
 Calls Tryz.prog 238 #[.slice (some ⟨ob,oo,none⟩) g.length oc,.int .i64 cols] w fun e w'=>e=.returned (.slice (some ⟨ob,oo,none⟩) tF oc)∧tF≤g.length∧gF.length=g.length∧Rect n gF∧∃ hs',Same ob hs' hs∧Fx (gb ob hs) w w'∧GridIs w' ob oo hs' gF:=by
 have hG0:=hZ hg
 have hR0:=hZ hr
 have hF0:=hZ hf
 have hG1:=hZ hG
 clear hg hr hf hG
 go_enter Tryz.func238,Tryz.ntmps238
 go_wp2_with fail
 go_loopg [5,6] cols (fun k s5 s6 wr=>∃ (c top:Nat) (g1:List (List Int)) (hs1:List (Nat×Nat×Nat)),s5=.int .i64 top∧s6=.int .i64 c∧c+k=cols∧top≤g.length∧Hid (herm F k c g1 top=some (gF,tF))∧Hid (GridIs wr ob oo hs1 g1)∧Hid (Rect n g1)∧Hid (g1.length=g.length)∧Hid (Same ob hs1 hs)∧Fx (gb ob hs) w wr)
 case atStart=>exact ⟨0,0,g,hs,rfl,rfl,by omega,by omega,hF0,hG0,hR0,rfl,⟨fun _=>Iff.rfl,fun _ h=>h⟩,Fx.refl _ _⟩
 case round=>
  obtain ⟨c,top,g1,hs1,rfl,rfl,hck,htop,hh1,hg1,hr1,hl1,hb1,hfx1⟩:=hrel
  by_cases hcc:c < cols
  ·by_cases htl:top < g.length
   ·obtain ⟨k,rfl⟩:∃ k,gk=k+1:=⟨gk - 1,by omega⟩
    have hcol:∃ r,colL F g1 c top=some r∧herm F k (c+1) r.1 r.2=some (gF,tF):=by
     have h:=hh1.out
     rw [herm,if_pos (by rw [hl1.out]; exact htl)] at h
     exact Option.bind_eq_some_iff.1 h
    obtain ⟨⟨g',t'⟩,hc1,hc2⟩:=hcol
    have hc2:=hZ hc2
    go_wp2_with fail
    go_loopg [5] F (fun f s5 wr2=>∃ (g2:List (List Int)) (hs2:List (Nat×Nat×Nat)),s5=.int .i64 top∧Hid (colL f g2 c top=some (g',t'))∧Hid (GridIs wr2 ob oo hs2 g2)∧Hid (Rect n g2)∧Hid (g2.length=g.length)∧Hid (Same ob hs2 hs)∧Fx (gb ob hs) w wr2)
    case atStart=>exact ⟨g1,hs1,rfl,hc1,hg1,hr1,hl1,hb1,hfx1⟩
    case round=>
     clear hg1 hr1 hl1 hb1 hfx1 hh1 hc1
     obtain ⟨g2,hs2,rfl,hc1,hg2,hr2,hl2,hb2,hfx2⟩:=hrel
     obtain ⟨f,rfl⟩:∃ f',gk=f'+1:=by
      cases gk with
      | zero=>have:=hc1.out; simp [colL] at this
      | succ f=>exact ⟨f,rfl⟩
     have hcok:colOk g2 c=true:=by
      have h:=hc1.out
      unfold colL at h
      split at h
      ·assumption
      ·simp at h
     have hsm:∀ i,i < g.length→Sm (ent g2 i c):=fun i hi=>smB_sm (List.all_eq_true.1 hcok i (List.mem_range.2 (by rw [hl2.out]; exact hi)))
     replace hsm:=hZ hsm
     clear hcok
     go_wp2_with fail
     go_loopg [7,8,9] (g.length - top) (fun m s7 s8 s9 wr3=>∃ i j:Nat,s9=.int .i64 i∧Hid (i=top+j)∧i+m=g.length∧s7=.int .i64 (kI (pickTo g2 c top j).1)∧s8=.bool (pickTo g2 c top j).2∧Qt wr wr3)
     case atStart=>exact ⟨top,0,rfl,rfl,by omega,rfl,rfl,Qt.refl _⟩
     case round=>
      obtain ⟨i,j,rfl,hij,hjm,rfl,rfl,hq3⟩:=hrel
      by_cases hil:i < g.length
      ·have hgr3:=hg2.out.fr hq3.fr
       have hln2:=hl2.out
       obtain ⟨bi,oi,ki,hsi,cai,cfi,roi,boi⟩:=hgr3.at (i:=i) (by rw [hln2]; exact hil)
       have cei:=(roi.2.2 c _ (ent_at hr2.out (by rw [hln2]; exact hil) (show c < n by omega))).1
       rw [hr2.out.row (by rw [hln2]; exact hil)] at cai
       have zi:(0:Int)≤(i:Int):=Int.natCast_nonneg _
       have zi2:(i:Int) < (g.length:Int):=by omega
       have zc:(0:Int)≤(c:Int):=Int.natCast_nonneg _
       have zc2:(c:Int) < (n:Int):=by omega
       have hb:=tx_beq0 (ent g2 i c)
       have hstep:pickTo g2 c top (j+1)=pick1 g2 c i (pickTo g2 c top j):=by rw [pickTo,hij.out]
       have hij2:=hZ (show i+1=top+(j+1) by have:=hij.out; omega)
       have hno:=pickTo_none (g:=g2) (c:=c) (t:=top) j
       have hlt:=pickTo_lt (g:=g2) (c:=c) (t:=top) j
       have hs1:=hZ (hsm.out i hil).size
       by_cases h0:ent g2 i c=0
       ·rw [decide_eq_true h0] at hb
        have hst2:=hZ (show pickTo g2 c top (j+1)=pickTo g2 c top j by rw [hstep]; unfold pick1; rw [if_pos h0])
        clear hstep h0 hno hlt hsi roi hgr3 hln2
        go_wp2_with fail
        go_roundg (gk - 1)
        case measure=>omega
        case rel=>exact ⟨i+1,j+1,by go_num,hij2,by omega,by rw [hst2.out],by rw [hst2.out],hq3⟩
       ·rw [decide_eq_false h0] at hb
        generalize pickTo g2 c top j=p at *
        obtain ⟨kk,mo⟩:=p
        cases kk with
        | none=>
          obtain rfl:mo=false:=hno rfl
          have hst2:=hZ (show pickTo g2 c top (j+1)=(some i,false) by rw [hstep]; unfold pick1; rw [if_neg h0])
          clear hstep h0 hno hlt hsi roi hgr3 hln2
          simp only [kI]
          go_wp2_with fail
          go_quiet (fail)
          go_wp2_with fail
          go_roundg (gk - 1)
          case measure=>omega
          case rel=>exact ⟨i+1,j+1,by go_num,hij2,by omega,by rw [hst2.out]; rfl,by rw [hst2.out],by repeat (with_reducible first | assumption | exact Qt.refl _ | refine Qt.drew ?_ | refine Qt.drewN ?_ _ | refine Qt.trans ?_ (by assumption))⟩
        | some q=>
          obtain ⟨hq1,hq2⟩:=hlt q rfl
          have hql:q < g.length:=by have:=hij.out; omega
          obtain ⟨bq,oq,kq,hsq,caq,cfq,roq,boq⟩:=hgr3.at (i:=q) (by rw [hln2]; exact hql)
          have ceq:=(roq.2.2 c _ (ent_at hr2.out (by rw [hln2]; exact hql) (show c < n by omega))).1
          rw [hr2.out.row (by rw [hln2]; exact hql)] at caq
          have zq:(0:Int)≤(q:Int):=Int.natCast_nonneg _
          have zq2:(q:Int) < (g.length:Int):=by omega
          have hs2:=hZ (hsm.out q hql).size
          have hs3:=hZ (show (tx ((ent g2 i c).natAbs:Int)).size≤18 by have h:=hsm.out i hil; unfold Sm at h; exact tx_size_le 17 _ (by omega) (by omega))
          have hs4:=hZ (show (tx ((ent g2 q c).natAbs:Int)).size≤18 by have h:=hsm.out q hql; unfold Sm at h; exact tx_size_le 17 _ (by omega) (by omega))
          replace hq1:=hZ hq1
          replace hq2:=hZ hq2
          by_cases hcm:cmpI ((ent g2 i c).natAbs:Int) ((ent g2 q c).natAbs:Int) < 0
          ·have hst2:=hZ (show pickTo g2 c top (j+1)=(some i,true) by rw [hstep]; unfold pick1; rw [if_neg h0]; simp only [if_pos hcm])
           clear hstep h0 hno hlt hsi roi hgr3 hln2 hsq roq
           simp only [kI]
           cases mo
           all_goals
            go_wp2_with fail
            go_quiet (first | (go_at_call 208; exact Calls.quiet_of (Abs_anyQ _ _ (by first | (have:=hs1.out; omega) | (have:=hs2.out; omega)))) | (go_at_call 207; exact Calls.quiet_of (Compare_anyQ _ _ _ (by have:=hs3.out; omega) (by have:=hs4.out; omega))))
            go_wp2_with fail
            go_roundg (gk - 1)
            case measure=>omega
            case rel=>exact ⟨i+1,j+1,by go_num,hij2,by omega,by rw [hst2.out]; rfl,by rw [hst2.out],by repeat (with_reducible first | assumption | exact Qt.refl _ | refine Qt.drew ?_ | refine Qt.drewN ?_ _ | refine Qt.trans ?_ (by assumption))⟩
          ·have hst2:=hZ (show pickTo g2 c top (j+1)=(some q,true) by rw [hstep]; unfold pick1; rw [if_neg h0]; simp only [if_neg hcm])
           have hcm2:0≤cmpI ((ent g2 i c).natAbs:Int) ((ent g2 q c).natAbs:Int):=by omega
           clear hstep h0 hno hlt hsi roi hgr3 hln2 hsq roq hcm
           simp only [kI]
           cases mo
           all_goals
            go_wp2_with fail
            go_quiet (first | (go_at_call 208; exact Calls.quiet_of (Abs_anyQ _ _ (by first | (have:=hs1.out; omega) | (have:=hs2.out; omega)))) | (go_at_call 207; exact Calls.quiet_of (Compare_anyQ _ _ _ (by have:=hs3.out; omega) (by have:=hs4.out; omega))))
            go_wp2_with fail
            go_roundg (gk - 1)
            case measure=>omega
            case rel=>exact ⟨i+1,j+1,by go_num,hij2,by omega,by rw [hst2.out]; rfl,by rw [hst2.out],by repeat (with_reducible first | assumption | exact Qt.refl _ | refine Qt.drew ?_ | refine Qt.drewN ?_ _ | refine Qt.trans ?_ (by assumption))⟩
      ·have hj:j=g.length - top:=by have:=hij.out; omega
       have hd:decide (i < g.length)=false:=decide_eq_false hil
       have hcol:colL (f+1) g2 c top=match pickTo g2 c top j with
        | (none,_)=>some (g2,top)
        | (some k,true)=>(elimTo (swp g2 top k) c top (top+1) (g2.length - (top+1))).bind fun g2=>colL f g2 c top
        | (some k,false)=>(finS (swp g2 top k) top c).map fun g2=>(g2,top+1):=by
        rw [hj,← hl2.out]
        exact colL_succ hc1.out
       rw [hc1.out] at hcol
       have hno:=pickTo_none (g:=g2) (c:=c) (t:=top) j
       have hlt:=pickTo_lt (g:=g2) (c:=c) (t:=top) j
       generalize pickTo g2 c top j=p at *
       obtain ⟨kk,mo⟩:=p
       have hgr3:=hZ (hg2.out.fr hq3.fr)
       have hfx3:=hfx2.fr hq3.fr
       cases kk with
       | none=>
         have hcol2:=hZ (show some (g',t')=some (g2,top) from hcol)
         clear hcol hno hlt
         simp only [kI]
         go_wp2_with fail
         go_roundg k
         case measure=>omega
         case rel=>
          have h:=hcol2.out
          injection h with h; injection h with h1 h2; subst h1; subst h2
          exact ⟨c+1,t',g',hs2,by go_num,by go_num,by omega,htop,hc2,hgr3,hr2,hl2,hb2,hfx3⟩
       | some q=>
         have hq:=hlt q rfl
         have hq2:q < g.length:=by have:=hij.out; omega
         replace hq:=hZ hq.1
         simp only [kI]
         clear hno hlt
         have hcolT:mo=true→(elimTo (swp g2 top q) c top (top+1) ((swp g2 top q).length - (top+1))).bind (fun g2=>colL f g2 c top)=some (g',t'):=fun e=>by
          subst e; rw [swp_len]; exact hcol.symm
         have hcolF:mo=false→(finS (swp g2 top q) top c).map (fun g2=>(g2,top+1))=some (g',t'):=fun e=>by
          subst e; exact hcol.symm
         clear hcol
         have hln2:=hl2.out
         obtain ⟨bt,ot,kt,hst,cat,cft,rot,bot⟩:=hgr3.out.at (i:=top) (by rw [hln2]; exact htl)
         obtain ⟨bq,oq,kq,hsq,caq,cfq,roq,boq⟩:=hgr3.out.at (i:=q) (by rw [hln2]; exact hq2)
         rw [hr2.out.row (by rw [hln2]; exact htl)] at cat
         rw [hr2.out.row (by rw [hln2]; exact hq2)] at caq
         have ztop:(0:Int)≤(top:Int):=Int.natCast_nonneg _
         have zq:(0:Int)≤(q:Int):=Int.natCast_nonneg _
         have ztop2:(top:Int) < (g.length:Int):=by omega
         have zq2:(q:Int) < (g.length:Int):=by omega
         by_cases htq:top=q
         ·subst htq
          replace hcolT:=hZ hcolT
          replace hcolF:=hZ hcolF
          replace hst:=hZ hst
          replace hsq:=hZ hsq
          go_wp2_with fail
          go_region
          have hgX:GridIs ((wr.setCell ⟨ob,oo+top,none⟩ (.slice (some ⟨bt,ot,none⟩) n kt)).setCell ⟨ob,oo+top,none⟩ (.slice (some ⟨bt,ot,none⟩) n kt)).drew ob oo hs2 g2:=(hgr3.out.same cat).fr (Fr.refl _).drew
          have hfX:Fx (gb ob hs) w ((wr.setCell ⟨ob,oo+top,none⟩ (.slice (some ⟨bt,ot,none⟩) n kt)).setCell ⟨ob,oo+top,none⟩ (.slice (some ⟨bt,ot,none⟩) n kt)).drew :=
           ((hfx3.setCell (q:=⟨ob,oo+top,none⟩) (.inl (.inl rfl)) _).setCell (q:=⟨ob,oo+top,none⟩) (.inl (.inl rfl)) _).drew
          generalize ((wr.setCell ⟨ob,oo+top,none⟩ (.slice (some ⟨bt,ot,none⟩) n kt)).setCell ⟨ob,oo+top,none⟩ (.slice (some ⟨bt,ot,none⟩) n kt)).drew=W at hgX hfX ⊢
          rw [swp_same] at hcolT hcolF
          have hRX:=hr2
          have hlX:=hl2
          have hbX:=hb2
          clear hg2 hr2 hl2 hb2 hfx2 hgr3 hfx3 hst hsq cat caq cft cfq rot roq hc1 hq3 hsm hln2 hij hd
          generalize g2=gX at *
          generalize hs2=hsX at *
          replace hgX:=hZ hgX
          cases mo with
          | true=>
            have hbd:∃ gE,elimTo gX c top (top+1) (gX.length - (top+1))=some gE∧colL f gE c top=some (g',t'):=by
             exact Option.bind_eq_some_iff.1 (hcolT.out rfl)
            obtain ⟨gE,hE1,hE2⟩:=hbd
            rw [hlX.out] at hE1
            replace hE1:=hZ hE1
            replace hE2:=hZ hE2
            go_wp2_with fail
            go_loopg [10] (g.length - (top+1)) (fun m s10 wr4=>∃ (i j:Nat) (g3:List (List Int)),s10=.int .i64 i∧Hid (i=top+1+j)∧i+m=g.length∧Hid (elimTo gX c top (top+1) j=some g3)∧GridIs wr4 ob oo hsX g3∧Fx (gb ob hs) w wr4)
            case atStart=>exact ⟨top+1,0,gX,by go_num,rfl,by omega,rfl,hgX.out,hfX⟩
            case round=>
             clear hgX hfX
             obtain ⟨i,j,g3,rfl,hij,him,he,hg3,hfx4⟩:=hrel
             obtain ⟨hr3,hl3⟩:=elimTo_keeps hRX.out j g3 he.out (by rw [hlX.out]; have:=hij.out; omega)
             rw [hlX.out] at hl3
             replace hr3:=hZ hr3
             have hl3':=hl3
             replace hl3:=hZ hl3
             by_cases hil:i < g.length
             ·obtain ⟨g4,hg4⟩:=elimTo_mono (j+1) (g.length - (top+1)) gE hE1.out (by have:=hij.out; omega)
              have hstep:elim1 g3 c top i=some g4:=by
               have:=hg4
               rw [elimTo,he.out] at this
               rw [hij.out]
               simpa using this
              obtain ⟨sa,sb,hb0,r,htk,rfl⟩:=elim1_some hstep
              have hj1:i < g3.length:=by omega
              have ht1:top < g3.length:=by omega
              obtain ⟨b1,o1,k1,hs1,ca1,cf1,ro1,bo1⟩:=hg3.at hj1
              obtain ⟨b2,o2,k2,hs2,ca2,cf2,ro2,bo2⟩:=hg3.at ht1
              have hb12:=hg3.apart i top _ _ hs1 hs2 (by have:=hij.out; omega)
              have ce1:=(ro1.2.2 c _ (ent_at hr3.out hj1 (by omega))).1
              have ce2:=(ro2.2.2 c _ (ent_at hr3.out ht1 (by omega))).1
              rw [hr3.out.row hj1] at ca1
              rw [hr3.out.row ht1] at ca2
              have hGr:=hG1.out.fx hfx4 hG0.out.ge
              have q0:(0:Int)≤(i:Int):=Int.natCast_nonneg _
              have q1:(i:Int) < (g.length:Int):=by omega
              have q2:(top:Int) < (g.length:Int):=by omega
              have q3:(c:Int) < (n:Int):=by omega
              have q4:(0:Int)≤(top:Int):=Int.natCast_nonneg _
              have q5:(0:Int)≤(c:Int):=Int.natCast_nonneg _
              replace hg4:=hZ hg4
              replace htk:=hZ htk
              replace hg3:=hZ hg3
              replace ro1:=hZ ro1
              replace ro2:=hZ ro2
              replace hs1:=hZ hs1
              replace hs2:=hZ hs2
              replace hstep:=hZ hstep
              clear hl3'
              go_wp2_with fail
              go_region_held3 (fun w'=>w'.cell? ⟨ob,oo+i,none⟩=some (.slice (some ⟨b1,o1,none⟩) n k1)∧w'.cell? ⟨b1,o1+c,none⟩=some (.string (tx (ent g3 i c)))∧w'.cell? ⟨ob,oo+top,none⟩=some (.slice (some ⟨b2,o2,none⟩) n k2)∧w'.cell? ⟨b2,o2+c,none⟩=some (.string (tx (ent g3 top c))))
               (first | go_keep | (go_split_ands; refine ⟨?_, ?_, ?_, ?_⟩ <;> (refine Fr.keep (by assumption) ?_; assumption)))
               (first | (go_at_call 115; refine (DivMod_sm _ _ sa sb hb0 _ (hGr.fr ?_)).mono ?_; (exact fr9); rintro e w1 ⟨rfl,hf1⟩))
              have hfr:Fr wr w1:=by exact fr9
              replace ca1:=hfr.keep (p:=⟨ob,oo+i,none⟩) ca1
              replace ca2:=hfr.keep (p:=⟨ob,oo+top,none⟩) ca2
              have len1:(g3[i]).length=n:=hr3.out.row hj1
              have len2:(g3[top]).length=n:=hr3.out.row ht1
              rw [rowAt_eq hj1,rowAt_eq ht1] at htk
              replace len1:=hZ len1
              replace len2:=hZ len2
              go_wp2_with fail
              go_region_held3 (fun w'=>w'.cell? ⟨ob,oo+i,none⟩=some (.slice (some ⟨b1,o1,none⟩) n k1)∧w'.cell? ⟨ob,oo+top,none⟩=some (.slice (some ⟨b2,o2,none⟩) n k2))
               (first | go_keep | (go_split_ands; refine ⟨?_, ?_⟩ <;> (refine Fx.keep (p:=(·=b1)) (by assumption) (by assumption) (fun e=>bo1 e.symm))))
               (first | (go_at_call 273; refine (take_n b1 o1 k1 b2 o2 k2 n n _ _ _ r _ (hGr.fr ?_) (ro1.out.fr ?_) (ro2.out.fr ?_) hb12 (by rw [len1.out]; omega) len1.out len2.out htk.out).mono ?_; (exact fr9); (exact fr9); (exact fr9); rintro e w2 ⟨rfl,hfx5,hown5⟩))
              have hgF:=hg3.out.setRowF hs1.out hfx5 hown5 (fun xs h=>by have h2:=takeS_len htk.out; rw [List.getElem?_eq_getElem hj1] at h; injection h with h; rw [← h]; exact h2) (by exact fr9)
              have hfF:=hfx4.via hfx5 (fun j hj=>(hbX.out.1 j).1 (gb_mem hs1.out j hj)) (by exact fr9)
              go_wp2_with fail
              go_roundg (gk - 1)
              case measure=>omega
              case rel=>exact ⟨i+1,j+1,_,by go_num,by have:=hij.out; show _=_; omega,by omega,hg4.out,hgF,hfF⟩
             ·have hd2:decide (i < g.length)=false:=decide_eq_false hil
              have hjj:j=g.length - (top+1):=by have:=hij.out; omega
              have hge:g3=gE:=by
               have h1:=he.out
               rw [hjj,hE1.out] at h1
               injection h1 with h1; exact h1.symm
              subst hge
              replace hjj:=hZ hjj
              clear hl3'
              go_wp2_with fail
              go_roundg f
              case measure=>omega
              case rel=>exact ⟨g3,hsX,rfl,hE2,hg3,hr3,hl3,hbX,hfx4⟩
          | false=>
            have hbd:finS gX top c=some g'∧t'=top+1:=by
             have h:=hcolF.out rfl
             obtain ⟨g4,h1,h2⟩:=Option.map_eq_some_iff.1 h
             injection h2 with h2 h3
             subst h2
             exact ⟨h1,h3.symm⟩
            obtain ⟨hE1,rfl⟩:=hbd
            have hGX:=hG1.out.fx hfX hG0.out.ge
            have hfin:=finish_any ob oo oc hsX gX g' n top c W hGX hgX.out hRX.out hn (by rw [hlX.out]; exact hl) (by rw [hlX.out]; exact htl) (by omega) hE1
            rw [hlX.out] at hfin
            have hfinL:=hZ (finS_keeps hE1 hRX.out (by rw [hlX.out]; exact htl))
            replace hE1:=hZ hE1
            replace hGX:=hZ hGX
            go_wp2_with fail
            refine hfin.mono ?_
            rintro e w5 ⟨rfl,hfx5,hg5⟩
            replace hg5:=hZ hg5
            clear hfin
            have hfx6:=hfX.via hfx5 (fun j hj=>(hbX.out.1 j).1 hj) (Fr.refl _)
            go_wp2_with fail
            go_roundg k
            case measure=>omega
            case rel=>exact ⟨c+1,top+1,g',hsX,by go_num,by go_num,by omega,by omega,hc2,hg5,hfinL.out.1,by show _=_; rw [hfinL.out.2,hlX.out],hbX,hfx6⟩
         ·replace hcolT:=hZ hcolT
          replace hcolF:=hZ hcolF
          replace hst:=hZ hst
          replace hsq:=hZ hsq
          go_wp2_with fail
          go_region
          have hgt:=List.getElem?_eq_getElem (show top < g2.length by rw [hln2]; exact htl)
          have hgq:=List.getElem?_eq_getElem (show q < g2.length by rw [hln2]; exact hq2)
          have hgX0:=(hgr3.out.swap hst.out hsq.out hgt hgq htq).fr (Fr.refl _).drew
          rw [hr2.out.row (by rw [hln2]; exact hq2),hr2.out.row (by rw [hln2]; exact htl)] at hgX0
          have hgX:GridIs ((wr.setCell ⟨ob,oo+top,none⟩ (.slice (some ⟨bq,oq,none⟩) n kq)).setCell ⟨ob,oo+q,none⟩ (.slice (some ⟨bt,ot,none⟩) n kt)).drew ob oo (swp hs2 top q) (swp g2 top q):=hgX0
          have hfX:Fx (gb ob hs) w ((wr.setCell ⟨ob,oo+top,none⟩ (.slice (some ⟨bq,oq,none⟩) n kq)).setCell ⟨ob,oo+q,none⟩ (.slice (some ⟨bt,ot,none⟩) n kt)).drew :=
           ((hfx3.setCell (q:=⟨ob,oo+top,none⟩) (.inl (.inl rfl)) _).setCell (q:=⟨ob,oo+q,none⟩) (.inl (.inl rfl)) _).drew
          generalize ((wr.setCell ⟨ob,oo+top,none⟩ (.slice (some ⟨bq,oq,none⟩) n kq)).setCell ⟨ob,oo+q,none⟩ (.slice (some ⟨bt,ot,none⟩) n kt)).drew=W at hgX hfX ⊢
          have hRX:=hZ (swp_rect (i:=top) (j:=q) hr2.out)
          have hlX:=hZ (show (swp g2 top q).length=g.length by rw [swp_len]; exact hln2)
          have hbX:=hZ (show Same ob (swp hs2 top q) hs from ⟨fun k=>(gb_swp hst.out hsq.out k).trans (hb2.out.1 k),fun h hm=>hb2.out.2 h (swp_mem hm)⟩)
          clear hgX0 hg2 hr2 hl2 hb2 hfx2 hgr3 hfx3 hst hsq cat caq cft cfq rot roq hc1 hq3 hsm hln2 hij hd hgt hgq
          generalize swp g2 top q=gX at *
          generalize swp hs2 top q=hsX at *
          replace hgX:=hZ hgX
          cases mo with
          | true=>
            have hbd:∃ gE,elimTo gX c top (top+1) (gX.length - (top+1))=some gE∧colL f gE c top=some (g',t'):=by
             exact Option.bind_eq_some_iff.1 (hcolT.out rfl)
            obtain ⟨gE,hE1,hE2⟩:=hbd
            rw [hlX.out] at hE1
            replace hE1:=hZ hE1
            replace hE2:=hZ hE2
            go_wp2_with fail
            go_loopg [10] (g.length - (top+1)) (fun m s10 wr4=>∃ (i j:Nat) (g3:List (List Int)),s10=.int .i64 i∧Hid (i=top+1+j)∧i+m=g.length∧Hid (elimTo gX c top (top+1) j=some g3)∧GridIs wr4 ob oo hsX g3∧Fx (gb ob hs) w wr4)
            case atStart=>exact ⟨top+1,0,gX,by go_num,rfl,by omega,rfl,hgX.out,hfX⟩
            case round=>
             clear hgX hfX
             obtain ⟨i,j,g3,rfl,hij,him,he,hg3,hfx4⟩:=hrel
             obtain ⟨hr3,hl3⟩:=elimTo_keeps hRX.out j g3 he.out (by rw [hlX.out]; have:=hij.out; omega)
             rw [hlX.out] at hl3
             replace hr3:=hZ hr3
             have hl3':=hl3
             replace hl3:=hZ hl3
             by_cases hil:i < g.length
             ·obtain ⟨g4,hg4⟩:=elimTo_mono (j+1) (g.length - (top+1)) gE hE1.out (by have:=hij.out; omega)
              have hstep:elim1 g3 c top i=some g4:=by
               have:=hg4
               rw [elimTo,he.out] at this
               rw [hij.out]
               simpa using this
              obtain ⟨sa,sb,hb0,r,htk,rfl⟩:=elim1_some hstep
              have hj1:i < g3.length:=by omega
              have ht1:top < g3.length:=by omega
              obtain ⟨b1,o1,k1,hs1,ca1,cf1,ro1,bo1⟩:=hg3.at hj1
              obtain ⟨b2,o2,k2,hs2,ca2,cf2,ro2,bo2⟩:=hg3.at ht1
              have hb12:=hg3.apart i top _ _ hs1 hs2 (by have:=hij.out; omega)
              have ce1:=(ro1.2.2 c _ (ent_at hr3.out hj1 (by omega))).1
              have ce2:=(ro2.2.2 c _ (ent_at hr3.out ht1 (by omega))).1
              rw [hr3.out.row hj1] at ca1
              rw [hr3.out.row ht1] at ca2
              have hGr:=hG1.out.fx hfx4 hG0.out.ge
              have q0:(0:Int)≤(i:Int):=Int.natCast_nonneg _
              have q1:(i:Int) < (g.length:Int):=by omega
              have q2:(top:Int) < (g.length:Int):=by omega
              have q3:(c:Int) < (n:Int):=by omega
              have q4:(0:Int)≤(top:Int):=Int.natCast_nonneg _
              have q5:(0:Int)≤(c:Int):=Int.natCast_nonneg _
              replace hg4:=hZ hg4
              replace htk:=hZ htk
              replace hg3:=hZ hg3
              replace ro1:=hZ ro1
              replace ro2:=hZ ro2
              replace hs1:=hZ hs1
              replace hs2:=hZ hs2
              replace hstep:=hZ hstep
              clear hl3'
              go_wp2_with fail
              go_region_held3 (fun w'=>w'.cell? ⟨ob,oo+i,none⟩=some (.slice (some ⟨b1,o1,none⟩) n k1)∧w'.cell? ⟨b1,o1+c,none⟩=some (.string (tx (ent g3 i c)))∧w'.cell? ⟨ob,oo+top,none⟩=some (.slice (some ⟨b2,o2,none⟩) n k2)∧w'.cell? ⟨b2,o2+c,none⟩=some (.string (tx (ent g3 top c))))
               (first | go_keep | (go_split_ands; refine ⟨?_, ?_, ?_, ?_⟩ <;> (refine Fr.keep (by assumption) ?_; assumption)))
               (first | (go_at_call 115; refine (DivMod_sm _ _ sa sb hb0 _ (hGr.fr ?_)).mono ?_; (exact fr9); rintro e w1 ⟨rfl,hf1⟩))
              have hfr:Fr wr w1:=by exact fr9
              replace ca1:=hfr.keep (p:=⟨ob,oo+i,none⟩) ca1
              replace ca2:=hfr.keep (p:=⟨ob,oo+top,none⟩) ca2
              have len1:(g3[i]).length=n:=hr3.out.row hj1
              have len2:(g3[top]).length=n:=hr3.out.row ht1
              rw [rowAt_eq hj1,rowAt_eq ht1] at htk
              replace len1:=hZ len1
              replace len2:=hZ len2
              go_wp2_with fail
              go_region_held3 (fun w'=>w'.cell? ⟨ob,oo+i,none⟩=some (.slice (some ⟨b1,o1,none⟩) n k1)∧w'.cell? ⟨ob,oo+top,none⟩=some (.slice (some ⟨b2,o2,none⟩) n k2))
               (first | go_keep | (go_split_ands; refine ⟨?_, ?_⟩ <;> (refine Fx.keep (p:=(·=b1)) (by assumption) (by assumption) (fun e=>bo1 e.symm))))
               (first | (go_at_call 273; refine (take_n b1 o1 k1 b2 o2 k2 n n _ _ _ r _ (hGr.fr ?_) (ro1.out.fr ?_) (ro2.out.fr ?_) hb12 (by rw [len1.out]; omega) len1.out len2.out htk.out).mono ?_; (exact fr9); (exact fr9); (exact fr9); rintro e w2 ⟨rfl,hfx5,hown5⟩))
              have hgF:=hg3.out.setRowF hs1.out hfx5 hown5 (fun xs h=>by have h2:=takeS_len htk.out; rw [List.getElem?_eq_getElem hj1] at h; injection h with h; rw [← h]; exact h2) (by exact fr9)
              have hfF:=hfx4.via hfx5 (fun j hj=>(hbX.out.1 j).1 (gb_mem hs1.out j hj)) (by exact fr9)
              go_wp2_with fail
              go_roundg (gk - 1)
              case measure=>omega
              case rel=>exact ⟨i+1,j+1,_,by go_num,by have:=hij.out; show _=_; omega,by omega,hg4.out,hgF,hfF⟩
             ·have hd2:decide (i < g.length)=false:=decide_eq_false hil
              have hjj:j=g.length - (top+1):=by have:=hij.out; omega
              have hge:g3=gE:=by
               have h1:=he.out
               rw [hjj,hE1.out] at h1
               injection h1 with h1; exact h1.symm
              subst hge
              replace hjj:=hZ hjj
              clear hl3'
              go_wp2_with fail
              go_roundg f
              case measure=>omega
              case rel=>exact ⟨g3,hsX,rfl,hE2,hg3,hr3,hl3,hbX,hfx4⟩
          | false=>
            have hbd:finS gX top c=some g'∧t'=top+1:=by
             have h:=hcolF.out rfl
             obtain ⟨g4,h1,h2⟩:=Option.map_eq_some_iff.1 h
             injection h2 with h2 h3
             subst h2
             exact ⟨h1,h3.symm⟩
            obtain ⟨hE1,rfl⟩:=hbd
            have hGX:=hG1.out.fx hfX hG0.out.ge
            have hfin:=finish_any ob oo oc hsX gX g' n top c W hGX hgX.out hRX.out hn (by rw [hlX.out]; exact hl) (by rw [hlX.out]; exact htl) (by omega) hE1
            rw [hlX.out] at hfin
            have hfinL:=hZ (finS_keeps hE1 hRX.out (by rw [hlX.out]; exact htl))
            replace hE1:=hZ hE1
            replace hGX:=hZ hGX
            go_wp2_with fail
            refine hfin.mono ?_
            rintro e w5 ⟨rfl,hfx5,hg5⟩
            replace hg5:=hZ hg5
            clear hfin
            have hfx6:=hfX.via hfx5 (fun j hj=>(hbX.out.1 j).1 hj) (Fr.refl _)
            go_wp2_with fail
            go_roundg k
            case measure=>omega
            case rel=>exact ⟨c+1,top+1,g',hsX,by go_num,by go_num,by omega,by omega,hc2,hg5,hfinL.out.1,by show _=_; rw [hfinL.out.2,hlX.out],hbX,hfx6⟩
   ·have hfin:gF=g1∧tF=top:=by
     have h:=hh1.out
     cases gk with
     | zero=>rw [herm] at h; injection h with h; injection h with h1 h2; exact ⟨h1.symm,h2.symm⟩
     | succ k=>rw [herm,if_neg (by rw [hl1.out]; exact htl)] at h; injection h with h; injection h with h1 h2; exact ⟨h1.symm,h2.symm⟩
    obtain ⟨rfl,rfl⟩:=hfin
    have htl2:decide (tF < g.length)=false:=decide_eq_false htl
    go_wp2_with fail
    go_ret
    exact ⟨rfl,htop,hl1.out,hr1.out,hs1,hb1.out,hfx1,hg1.out⟩
  ·have hfin:gF=g1∧tF=top:=by
    have h:=hh1.out
    obtain rfl:gk=0:=by omega
    rw [herm] at h; injection h with h; injection h with h1 h2; exact ⟨h1.symm,h2.symm⟩
   obtain ⟨rfl,rfl⟩:=hfin
   have hcc2:decide (c < cols)=false:=decide_eq_false hcc
   go_wp2_with fail
   go_ret
   exact ⟨rfl,htop,hl1.out,hr1.out,hs1,hb1.out,hfx1,hg1.out⟩
theorem Fx.of_grown {w w':World} {row:Option Nat} (h:w.grownBy w' row):Fx (fun k=>row=some k) w w' :=
 ⟨h.os,h.tape,h.output,h.size,fun k hk hp=>h.block k hk (fun e=>hp e.symm)⟩
theorem ownsRow_fx {w w':World} {p:Nat→Prop} {base:Nat} {e:TypeId} {size:Nat} {v:Value} {n:Nat} {xs:List Value} (h:w.ownsRow base e size v n xs) (k:Fx p w w') (hp:∀ g,v.ownBlock=some g→¬ p g):w'.ownsRow base e size v n xs:=by
 obtain ⟨h1,h2⟩:=h
 refine ⟨h1, ?_⟩
 rcases h2 with h2 | ⟨g,cap,cur,rfl,hg,hh,r⟩
 ·exact .inl h2
 ·have hlt:g < w.heap.size:=by
   by_cases hl:g < w.heap.size
   ·exact hl
   ·rw [Array.getElem?_eq_none (by omega)] at hh; simp at hh
  exact .inr ⟨g,cap,cur,rfl,hg,by rw [k.block g hlt (hp g rfl)]; exact hh,r⟩
theorem ownsRow_fr {w w':World} {base:Nat} {e:TypeId} {size:Nat} {v:Value} {n:Nat} {xs:List Value} (h:w.ownsRow base e size v n xs) (k:Fr w w'):w'.ownsRow base e size v n xs :=
 ownsRow_fx (p:=fun _=>False) h (Fx.of_fr k) (fun _ _ e=>e)
theorem cell_one_newN (w:World) (x:Value) (t:TypeId) (n:Nat) (hn:w.heap.size=n):∀ j u,[x][j]?=some u→(w.alloc (.cells #[x] t)).cell? ((⟨n,0,none⟩:Addr).add j)=some u:=by
 subst hn; exact cell_one_new w x t
theorem new_cell (w:World) (x:Value) (t:TypeId):(w.alloc (.cells #[x] t)).cell? ⟨w.heap.size,0,none⟩=some x:=cell_one_new w x t 0 x rfl
theorem ownsRow_some {w:World} {base:Nat} {e:TypeId} {size:Nat} {g n m cap:Nat} {xs:List Value} (h:w.ownsRow base e size (.slice (some ⟨g,0,none⟩) n cap) m xs) :
 n=m∧base≤g∧g < w.heap.size∧n≤cap∧∀ j u,xs[j]?=some u→w.cell? ⟨g,j,none⟩=some u∧w.frozen? ⟨g,j,none⟩=false:=by
 obtain ⟨h1,h2⟩:=h
 rcases h2 with ⟨h2,_⟩ | ⟨g',cap',cur,hv,hg,hh,hn,hc,hs,ht⟩
 ·cases h2
 ·injection hv with hv1 hv2 hv3
  injection hv1 with hv1; injection hv1 with hv1
  subst hv1; subst hv2; subst hv3
  have hlt:g < w.heap.size:=by
   by_cases hl:g < w.heap.size
   ·exact hl
   ·rw [Array.getElem?_eq_none (by omega)] at hh; simp at hh
  refine ⟨rfl,hg,hlt,hn,fun j u hu=>?_⟩
  have hju:cur[j]?=some u:=by
   rw [← ht,List.getElem?_take] at hu
   split at hu
   ·simpa using hu
   ·simp at hu
  exact ⟨by simp [World.cell?,hh,hju],by simp [World.frozen?,hh]⟩
theorem ownsRow_own {w:World} {base:Nat} {e:TypeId} {g n m cap:Nat} {xs:List Int} (hb:gN≤base) (h:w.ownsRow base e 1 (.slice (some ⟨g,0,none⟩) n cap) m (xs.map sv)):Own w g 0 xs∧n=m∧m=xs.length∧base≤g∧n≤cap:=by
 have h1:=h.1
 obtain ⟨a,b,c,d,f⟩:=ownsRow_some h
 refine ⟨⟨by omega,c,fun j x hx=>?_⟩,a,by simpa using h1.symm,b,d⟩
 have:=f j (sv x) (by rw [List.getElem?_map,hx]; rfl)
 simpa using this
theorem ownsRow_pos {w:World} {base:Nat} {e:TypeId} {size:Nat} {v:Value} {n:Nat} {xs:List Value} (h:w.ownsRow base e size v n xs) (hn:0 < n):∃ g cap,v=.slice (some ⟨g,0,none⟩) n cap:=by
 obtain ⟨_,h2⟩:=h
 rcases h2 with ⟨_,h2⟩ | ⟨g,cap,_,hv,_⟩
 ·omega
 ·exact ⟨g,cap,hv⟩
def hdr (h:Nat×Nat×Nat) (xs:List Int):Value:=.slice (some ⟨h.1,h.2.1,none⟩) xs.length h.2.2
def hdrs (hs:List (Nat×Nat×Nat)) (g:List (List Int)):List Value:=List.zipWith hdr hs g
structure GG (w:World) (base:Nat) (E:TypeId) (v:Value) (hs:List (Nat×Nat×Nat)) (g:List (List Int)):Prop where
 gbase:gN≤base
 len:hs.length=g.length
 own:w.ownsRow base E 1 v g.length (hdrs hs g)
 row:∀ (i:Nat) (h:Nat×Nat×Nat) (xs:List Int),hs[i]?=some h→g[i]?=some xs→Own w h.1 h.2.1 xs∧v.ownBlock≠some h.1
 apart:∀ (i j:Nat) (hi hj:Nat×Nat×Nat),hs[i]?=some hi→hs[j]?=some hj→i≠j→hi.1≠hj.1
theorem GG.nil (w:World) (base:Nat) (E:TypeId) (h:gN≤base):GG w base E (.slice none 0 0) [] [] :=
 ⟨h,rfl,World.ownsRow_nil _ _ _ _,fun i h xs h1=>by simp at h1,fun i j hi hj h1=>by simp at h1⟩
theorem GG.fr {w w':World} {base:Nat} {E:TypeId} {v:Value} {hs:List (Nat×Nat×Nat)} {g:List (List Int)} (h:GG w base E v hs g) (k:Fr w w'):GG w' base E v hs g :=
 ⟨h.gbase,h.len,ownsRow_fr h.own k,fun i hd xs h1 h2=>⟨(h.row i hd xs h1 h2).1.fr k,(h.row i hd xs h1 h2).2⟩,h.apart⟩
theorem GG.lt {w:World} {base:Nat} {E:TypeId} {v:Value} {hs:List (Nat×Nat×Nat)} {g:List (List Int)} (h:GG w base E v hs g):∀ hd,hd ∈ hs→hd.1 < w.heap.size:=fun hd hm=>by
 obtain ⟨i,hi⟩:=List.getElem?_of_mem hm
 have hl:i < g.length:=by rw [← h.len]; exact (List.getElem?_eq_some_iff.1 hi).1
 exact (h.row i hd _ hi (List.getElem?_eq_getElem hl)).1.2.1
theorem hdrs_push (hs:List (Nat×Nat×Nat)) (g:List (List Int)) (h:Nat×Nat×Nat) (xs:List Int) (hl:hs.length=g.length):hdrs (hs ++ [h]) (g ++ [xs])=hdrs hs g ++ [hdr h xs]:=by
 unfold hdrs; rw [List.zipWith_append hl]; rfl
theorem GG.push {w w':World} {base:Nat} {E:TypeId} {v:Value} {hs:List (Nat×Nat×Nat)} {g:List (List Int)} (h:GG w base E v hs g) {hd:Nat×Nat×Nat} {xs:List Int} (ho:Own w hd.1 hd.2.1 xs)
 (hne:∀ h',h' ∈ hs→h'.1≠hd.1) (hv:v.ownBlock≠some hd.1) {gb cap:Nat} (hown:w'.ownsRow base E 1 (.slice (some ⟨gb,0,none⟩) (g.length+1) cap) (g.length+1) (hdrs hs g ++ [hdr hd xs]))
 (hg:w.grownBy w' v.ownBlock) (hat:v.ownBlock=some gb∨w.heap.size≤gb):GG w' base E (.slice (some ⟨gb,0,none⟩) (g.length+1) cap) (hs ++ [hd]) (g ++ [xs]):=by
 have hfx:=Fx.of_grown hg
 have hrow:∀ (i:Nat) (h0:Nat×Nat×Nat) (ys:List Int),hs[i]?=some h0→g[i]?=some ys→Own w' h0.1 h0.2.1 ys∧gb≠h0.1:=fun i h0 ys h1 h2=>by
  obtain ⟨a,b⟩:=h.row i h0 ys h1 h2
  refine ⟨a.fx hfx (fun e=>b e), ?_⟩
  rcases hat with e | e
  ·intro e2; rw [e2] at e; exact b e
  ·have:=a.2.1; omega
 refine ⟨h.gbase,by simp [h.len], ?_,fun i h0 ys h1 h2=>?_,fun i j hi hj h1 h2 hij=>?_⟩
 ·rw [hdrs_push _ _ _ _ h.len]; simpa using hown
 ·by_cases hi:i < g.length
  ·rw [List.getElem?_append_left (by rw [h.len]; exact hi)] at h1
   rw [List.getElem?_append_left hi] at h2
   obtain ⟨a,b⟩:=hrow i h0 ys h1 h2
   exact ⟨a,fun e=>by injection e with e; exact b e⟩
  ·rw [List.getElem?_append_right (by omega)] at h2
   rw [List.getElem?_append_right (by rw [h.len]; omega)] at h1
   rw [List.getElem?_singleton] at h1 h2
   split at h1
   ·split at h2
    ·injection h1 with h1; injection h2 with h2; subst h1; subst h2
     refine ⟨ho.fx hfx (fun e=>hv e),fun e=>?_⟩
     injection e with e
     rcases hat with e2 | e2
     ·have e3:gb=hd.1:=e
      rw [e3] at e2; exact hv e2
     ·have:=ho.2.1
      have e3:gb=hd.1:=e
      omega
    ·simp at h2
   ·simp at h1
 ·have key:∀ (i:Nat) (h0:Nat×Nat×Nat),(hs ++ [hd])[i]?=some h0→(i < hs.length∧hs[i]?=some h0)∨(i=hs.length∧h0=hd):=fun i h0 h=>by
   by_cases hi:i < hs.length
   ·rw [List.getElem?_append_left hi] at h; exact .inl ⟨hi,h⟩
   ·rw [List.getElem?_append_right (by omega),List.getElem?_singleton] at h
    split at h
    ·injection h with h; exact .inr ⟨by omega,h.symm⟩
    ·simp at h
  rcases key i hi h1 with ⟨a1,a2⟩ | ⟨a1,a2⟩ <;> rcases key j hj h2 with ⟨b1,b2⟩ | ⟨b1,b2⟩
  ·exact h.apart i j _ _ a2 b2 hij
  ·subst b2; exact hne _ (List.mem_of_getElem? a2)
  ·subst a2; exact (hne _ (List.mem_of_getElem? b2)).symm
  ·omega
theorem GG.pushN {w w':World} {base:Nat} {E:TypeId} {v u:Value} {hs:List (Nat×Nat×Nat)} {g:List (List Int)} (h:GG w base E v hs g) {hd:Nat×Nat×Nat} {xs:List Int} (ho:Own w hd.1 hd.2.1 xs)
 (hne:∀ h',h' ∈ hs→h'.1≠hd.1) (hv:v.ownBlock≠some hd.1) {gb cap n:Nat} (hn:g.length=n) (hu:u=hdr hd xs) (hown:w'.ownsRow base E 1 (.slice (some ⟨gb,0,none⟩) (n+1) cap) (n+1) (hdrs hs g ++ [u]))
 (hg:w.grownBy w' v.ownBlock) (hat:v.ownBlock=some gb∨w.heap.size≤gb):GG w' base E (.slice (some ⟨gb,0,none⟩) (n+1) cap) (hs ++ [hd]) (g ++ [xs]):=by
 subst hn; subst hu
 exact h.push ho hne hv hown hg hat
theorem GG.grid {w:World} {base:Nat} {E:TypeId} {gb n cap:Nat} {hs:List (Nat×Nat×Nat)} {g:List (List Int)} (h:GG w base E (.slice (some ⟨gb,0,none⟩) n cap) hs g):GridIs w gb 0 hs g∧n=g.length∧base≤gb∧n≤cap:=by
 obtain ⟨a,b,c,d,f⟩:=ownsRow_some h.own
 refine ⟨⟨h.len,c,Nat.le_trans h.gbase b,fun i hd xs h1 h2=>?_,fun i hd xs h1 h2=>?_,h.apart⟩,a,b,d⟩
 ·have:=f i (hdr hd xs) (by unfold hdrs; rw [List.getElem?_zipWith,h1,h2])
  simpa [hdr] using this
 ·obtain ⟨p,q⟩:=h.row i hd xs h1 h2
  exact ⟨p,fun e=>q (by simp [Value.ownBlock,e])⟩
theorem ownsRow_mono {w:World} {base base':Nat} {e:TypeId} {size:Nat} {v:Value} {n:Nat} {xs:List Value} (h:w.ownsRow base e size v n xs) (hb:base'≤base):w.ownsRow base' e size v n xs:=by
 obtain ⟨h1,h2⟩:=h
 refine ⟨h1, ?_⟩
 rcases h2 with h2 | ⟨g,cap,cur,hv,hg,r⟩
 ·exact .inl h2
 ·exact .inr ⟨g,cap,cur,hv,Nat.le_trans hb hg,r⟩
def Rows0 (w:World) (hs:List (Nat×Nat×Nat)) (g:List (List Int)):Prop :=
 ∀ (i:Nat) (h:Nat×Nat×Nat) (xs:List Int),hs[i]?=some h→g[i]?=some xs→h.2.1=0∧w.ownsRow gN 114 1 (.slice (some ⟨h.1,0,none⟩) xs.length h.2.2) xs.length (xs.map sv)
theorem Rows0.nil (w:World):Rows0 w [] []:=fun i h xs h1=>by simp at h1
theorem Rows0.fx {w w':World} {p:Nat→Prop} {hs:List (Nat×Nat×Nat)} {g:List (List Int)} (h:Rows0 w hs g) (k:Fx p w w') (hp:∀ hd,hd ∈ hs→¬ p hd.1):Rows0 w' hs g:=fun i hd xs h1 h2=>by
 obtain ⟨a,b⟩:=h i hd xs h1 h2
 refine ⟨a,ownsRow_fx b k (fun g hg=>?_)⟩
 have e:hd.1=g:=by simpa [Value.ownBlock] using hg
 rw [← e]
 exact hp hd (List.mem_of_getElem? h1)
theorem Rows0.fr {w w':World} {hs:List (Nat×Nat×Nat)} {g:List (List Int)} (h:Rows0 w hs g) (k:Fr w w'):Rows0 w' hs g :=
 h.fx (p:=fun _=>False) (Fx.of_fr k) (fun _ _ e=>e)
theorem Rows0.push {w:World} {hs:List (Nat×Nat×Nat)} {g:List (List Int)} (h:Rows0 w hs g) (hl:hs.length=g.length) {hd:Nat×Nat×Nat} {xs:List Int} (h0:hd.2.1=0)
 (ho:w.ownsRow gN 114 1 (.slice (some ⟨hd.1,0,none⟩) xs.length hd.2.2) xs.length (xs.map sv)):Rows0 w (hs ++ [hd]) (g ++ [xs]):=fun i h1 ys k1 k2=>by
 by_cases hi:i < g.length
 ·rw [List.getElem?_append_left (by rw [hl]; exact hi)] at k1
  rw [List.getElem?_append_left hi] at k2
  exact h i h1 ys k1 k2
 ·rw [List.getElem?_append_right (by omega),List.getElem?_singleton] at k2
  rw [List.getElem?_append_right (by rw [hl]; omega),List.getElem?_singleton] at k1
  split at k1
  ·split at k2
   ·injection k1 with k1; injection k2 with k2; subst k1; subst k2; exact ⟨h0,ho⟩
   ·simp at k2
  ·simp at k1
theorem GridIs.setHead {w w1:World} {ob oo:Nat} {hs:List (Nat×Nat×Nat)} {g:List (List Int)} (h:GridIs w ob oo hs g) {i:Nat} {hd hd':Nat×Nat×Nat} {xs':List Int} (hi:hs[i]?=some hd)
 (hf:Fx (·=hd.1) w w1) (ho:Own w1 hd'.1 hd'.2.1 xs') (hat:hd'.1=hd.1∨w.heap.size≤hd'.1) :
 GridIs (w1.setCell ⟨ob,oo+i,none⟩ (hdr hd' xs')) ob oo (hs.set i hd') (g.set i xs'):=by
 have hl:i < g.length:=by rw [← h.len]; exact (List.getElem?_eq_some_iff.1 hi).1
 have hii:=List.getElem?_eq_getElem hl
 have hc:=h.cell i _ _ hi hii
 have hr:=h.row i _ _ hi hii
 have hcw1:w1.cell? ⟨ob,oo+i,none⟩=_:=hf.keep hc.1 (fun e=>hr.2 e.symm)
 have hs2:Fx (·=ob) w1 (w1.setCell ⟨ob,oo+i,none⟩ (hdr hd' xs')):=Fx.setCell (p:=(·=ob)) (q:=⟨ob,oo+i,none⟩) (Fx.refl _ w1) (.inl rfl) _
 have hne':hd'.1≠ob:=by
  rcases hat with e | e
  ·rw [e]; exact hr.2
  ·have:=h.outer; omega
 refine ⟨by simp [h.len],Nat.lt_of_lt_of_le h.outer (Nat.le_trans hf.size hs2.size),h.gob,fun j k ys k1 k2=>?_,fun j k ys k1 k2=>?_,fun a b ha hb k1 k2 hab=>?_⟩
 ·rw [List.getElem?_set] at k1 k2
  rw [World.frozen?_setCell]
  by_cases e:i=j
  ·subst e
   rw [if_pos rfl,if_pos hl] at k2
   rw [if_pos rfl,if_pos (by rw [h.len]; exact hl)] at k1
   injection k1 with k1; injection k2 with k2; subst k1; subst k2
   exact ⟨World.cell?_setCell_same' _ _ _ (by rw [hcw1]; rfl),hf.keepf hc.1 hc.2 (fun e=>hr.2 e.symm)⟩
  ·rw [if_neg e] at k1 k2
   have e3:(⟨ob,oo+i,none⟩:Addr)≠⟨ob,oo+j,none⟩:=fun e2=>by injection e2 with _ e2; omega
   have h3:=h.cell j k ys k1 k2
   rw [World.cell?_setCell_other _ _ _ _ e3]
   exact ⟨hf.keep h3.1 (fun e=>hr.2 e.symm),hf.keepf h3.1 h3.2 (fun e=>hr.2 e.symm)⟩
 ·rw [List.getElem?_set] at k1 k2
  by_cases e:i=j
  ·subst e
   rw [if_pos rfl,if_pos hl] at k2
   rw [if_pos rfl,if_pos (by rw [h.len]; exact hl)] at k1
   injection k1 with k1; injection k2 with k2; subst k1; subst k2
   exact ⟨ho.fx hs2 hne',hne'⟩
  ·rw [if_neg e] at k1 k2
   have h3:=h.row j k ys k1 k2
   exact ⟨(h3.1.fx hf (h.apart j i _ _ k1 hi (fun e2=>e e2.symm))).fx hs2 h3.2,h3.2⟩
 ·have key:∀ (j:Nat) (k:Nat×Nat×Nat),(hs.set i hd')[j]?=some k→(j=i∧k=hd')∨(j≠i∧hs[j]?=some k):=fun j k hk=>by
   rw [List.getElem?_set] at hk
   by_cases e:i=j
   ·subst e
    rw [if_pos rfl,if_pos (by rw [h.len]; exact hl)] at hk
    injection hk with hk; exact .inl ⟨rfl,hk.symm⟩
   ·rw [if_neg e] at hk; exact .inr ⟨fun e2=>e e2.symm,hk⟩
  have far:∀ (j:Nat) (k:Nat×Nat×Nat),j≠i→hs[j]?=some k→k.1≠hd'.1:=fun j k hj hk=>by
   rcases hat with e | e
   ·rw [e]; exact h.apart j i _ _ hk hi hj
   ·have hjl:j < g.length:=by rw [← h.len]; exact (List.getElem?_eq_some_iff.1 hk).1
    have:=(h.row j k _ hk (List.getElem?_eq_getElem hjl)).1.2.1
    omega
  rcases key a ha k1 with ⟨a1,a2⟩ | ⟨a1,a2⟩ <;> rcases key b hb k2 with ⟨b1,b2⟩ | ⟨b1,b2⟩
  ·omega
  ·subst a2; exact (far b hb b1 b2).symm
  ·subst b2; exact far a ha a1 a2
  ·exact h.apart a b _ _ a2 b2 hab
end Go.Proofs.YtmalpgbbddkdcaaGreatDoor
