/-
  Contracts and laws for the statements of the seat, QLC.
-/
import Derived.Test.YtkjemicelmabdaaGreatDoorQP
import Derived.Test.YtkjemicelmabdaaGreatDoorQEl
import Derived.Test.YtkjemicelmabdaaGreatDoorQKn

/- schismalaw42.cut of any word: Canonical, Sign at any text. -/
namespace Go.Proofs.YtkjemicelmabdaaGreatDoor
open Go.RowKit Go.Lib
attribute [local go_sem ↓] Go.wp_at_zero Go.wp_at_succ

def isDg (c : UInt8) : Bool:=decide (48 ≤ c.toNat) && decide (c.toNat ≤ 57)
def canB (a : ByteArray) : Bool:=a.data.toList.all isDg && decide (a.data.toList ≠ [] ∧ (a.data.toList.head? ≠ some 48 ∨ a.size = 1))
theorem isDg_bad {t : ByteArray} {j : Nat} (h : j < t.size) (h9 : ¬ (48 ≤ (t[j]'h).toNat ∧ (t[j]'h).toNat ≤ 57)) : t.data.toList.all isDg = false :=
 Bool.eq_false_iff.2 fun e => h9 (by
  have:=List.all_eq_true.1 e _ (List.mem_of_getElem? (Lib.data_getElem? t j h))
  unfold isDg at this
  rw [Bool.and_eq_true] at this
  exact ⟨of_decide_eq_true this.1,of_decide_eq_true this.2⟩)
theorem isDg_all {t : ByteArray} (h : ∀ (j : Nat) (h : j < t.size),48 ≤ (t[j]'h).toNat ∧ (t[j]'h).toNat ≤ 57) : t.data.toList.all isDg = true:=by
 refine List.all_eq_true.2 fun c hc => ?_
 obtain ⟨j,hj,e⟩:=List.getElem_of_mem hc
 have hj2 : j < t.size:=by rw [Lib.size_eq]; exact hj
 have h1:=Lib.data_getElem? t j hj2
 rw [List.getElem?_eq_getElem hj,e] at h1
 injection h1 with h1
 obtain ⟨h2,h3⟩:=h j hj2
 rw [← h1] at h2 h3
 unfold isDg
 rw [decide_eq_true h2,decide_eq_true h3]; rfl
def BoolRet (w : World) (e : Ending) (w' : World) : Prop:=∃ b,e = .returned (.bool b) ∧ w = w'
set_option maxRecDepth 100000 in
set_option maxHeartbeats 4000000 in
theorem Canonical_any (a : ByteArray) (w : World) (hs : a.size ≤ 100000) (h45 : a.data.toList.head? ≠ some 45) :
 Calls Tryz.prog 95 #[.string a] w fun e w' => e = .returned (.bool (canB a)) ∧ w = w':=by
 by_cases hz : a.size = 0
 ·have hnil : a.data.toList = []:=List.eq_nil_of_length_eq_zero (by rw [← Lib.size_eq]; exact hz)
  have hfin:=Lib.hid (show canB a = false by unfold canB; rw [hnil]; rfl)
  clear h45
  replace hnil:=Lib.hid hnil
  go_enter Tryz.func95,Tryz.ntmps95
  go_wp2_with fail
  go_loopg [4] 0 (fun m s4 wr => s4 = .int .i64 0 ∧ wr = w)
  case atStart => exact ⟨rfl,rfl⟩
  case round =>
   obtain ⟨rfl,rfl⟩:=hrel
   go_wp2_with fail
   go_ret
   exact ⟨by rw [hfin.out]; rfl,rfl⟩
 ·have hhd : a.data.toList.head? = some (a[0]'(by omega)):=by
   rw [List.head?_eq_getElem?,Lib.data_getElem? a 0 (by omega)]
  have y0 : (0 : Int) < (a.size : Int):=by omega
  have d0 : decide ((0 : Int) < (a.size : Int)) = true:=decide_eq_true y0
  have y1 : (((a[0]'(by omega)).toNat : Int) == 45) = false:=beq_false_of_ne (fun e => h45 (by rw [hhd]; congr 1; exact UInt8.toNat_inj.1 (by show _ = 45; omega)))
  obtain ⟨bq,hbq⟩ : ∃ bq,bq = ((a.size : Int) == 1):=⟨_,rfl⟩
  obtain ⟨bn,hbn⟩ : ∃ bn,bn = (((a[0]'(by omega)).toNat : Int) != 48):=⟨_,rfl⟩
  have hfin : Hid (a.data.toList.all isDg = true → canB a = (bn || bq)):=fun h => by
   unfold canB
   rw [h,hhd,hbq,hbn,Bool.true_and]
   have e1 : decide (a.data.toList ≠ [] ∧ (some (a[0]'(by omega)) ≠ some 48 ∨ a.size = 1)) = decide ((a[0]'(by omega)) ≠ 48 ∨ a.size = 1):=by
    congr 1
    have : a.data.toList ≠ []:=fun e => by rw [e] at hhd; cases hhd
    simp [this]
   rw [e1]
   by_cases h1 : (a[0]'(by omega)) = 48
   ·by_cases h2 : a.size = 1 <;> simp [h1,h2]
    omega
   ·have : ((a[0]'(by omega)).toNat : Int) ≠ 48:=fun e => h1 (UInt8.toNat_inj.1 (by show _ = 48; omega))
    simp [h1,this]
  have hfin0 : Hid (a.data.toList.all isDg = false → canB a = false):=fun h => by unfold canB; rw [h]; rfl
  clear h45
  replace hhd:=Lib.hid hhd
  have hbq2:=hbq.symm
  have hbn2:=hbn.symm
  replace hbq:=Lib.hid hbq
  replace hbn:=Lib.hid hbn
  go_enter Tryz.func95,Tryz.ntmps95
  go_wp2_with fail
  go_loopg [4] a.size (fun m s4 wr => ∃ j : Nat,s4 = .int .i64 j ∧ j + m = a.size ∧ wr = w ∧ Hid (∀ (t : Nat) (h : t < a.size),t < j → 48 ≤ (a[t]'h).toNat ∧ (a[t]'h).toNat ≤ 57))
  case atStart => exact ⟨0,rfl,by omega,rfl,fun t _ h => absurd h (Nat.not_lt_zero _)⟩
  case round =>
   obtain ⟨j,rfl,hjm,rfl,hall⟩:=hrel
   by_cases hj : j < a.size
   ·have dj : decide (j < a.size) = true:=decide_eq_true hj
    have u0 : (0 : Int) ≤ (j : Int):=by omega
    have u1 : (j : Int) < (a.size : Int):=by omega
    by_cases b1 : (a[j]'hj).toNat < 48
    ·have e1 : decide (((a[j]'hj).toNat : Int) < 48) = true:=decide_eq_true (by omega)
     have hb9:=Lib.hid (hfin0.out (isDg_bad hj (by omega)))
     clear b1
     go_wp2_with fail
     go_ret
     exact ⟨by rw [hb9.out]; rfl,rfl⟩
    ·have e1 : decide (((a[j]'hj).toNat : Int) < 48) = false:=decide_eq_false (by omega)
     by_cases b2 : 57 < (a[j]'hj).toNat
     ·have e2 : decide ((57 : Int) < ((a[j]'hj).toNat : Int)) = true:=decide_eq_true (by omega)
      have hb9:=Lib.hid (hfin0.out (isDg_bad hj (by omega)))
      clear b1 b2
      go_wp2_with fail
      go_ret
      exact ⟨by rw [hb9.out]; rfl,rfl⟩
     ·have e2 : decide ((57 : Int) < ((a[j]'hj).toNat : Int)) = false:=decide_eq_false (by omega)
      have hal2 : Hid (∀ (t : Nat) (h : t < a.size),t < j + 1 → 48 ≤ (a[t]'h).toNat ∧ (a[t]'h).toNat ≤ 57):=fun t h h9 => by
       by_cases e : t = j
       ·subst e; exact ⟨by omega,by omega⟩
       ·exact hall.out t h (by omega)
      clear b1 b2
      go_wp2_with fail
      go_roundg (gk - 1)
      case measure => omega
      case rel => exact ⟨j + 1,by go_num,by omega,rfl,hal2⟩
   ·have dj : decide (j < a.size) = false:=decide_eq_false hj
    have hb9:=Lib.hid (hfin.out (isDg_all fun t h => hall.out t h (by omega)))
    cases bn with
    | true =>
      go_wp2_with fail
      go_ret
      exact ⟨by rw [hb9.out]; rfl,rfl⟩
    | false =>
      go_wp2_with fail
      go_ret
      exact ⟨by rw [hb9.out]; rfl,rfl⟩
set_option maxRecDepth 100000 in
set_option maxHeartbeats 4000000 in
theorem Canonical_neg (a : ByteArray) (w : World) (hs : a.size ≤ 100000) (h45 : a.data.toList.head? = some 45) :
 Calls Tryz.prog 95 #[.string a] w (BoolRet w):=by
 have hz : 0 < a.size:=by
  rw [Lib.size_eq]
  cases h : a.data.toList with
  | nil => rw [h] at h45; cases h45
  | cons => rw [List.length_cons]; omega
 have hhd : a.data.toList.head? = some (a[0]'hz):=by
  rw [List.head?_eq_getElem?,Lib.data_getElem? a 0 hz]
 have y0 : (0 : Int) < (a.size : Int):=by omega
 have d0 : decide ((0 : Int) < (a.size : Int)) = true:=decide_eq_true y0
 have y1 : (((a[0]'hz).toNat : Int) == 45) = true:=by
  rw [h45] at hhd; injection hhd with hhd; rw [← hhd]; rfl
 obtain ⟨t,ht⟩ : ∃ t,t = a.extract 1 a.size:=⟨_,rfl⟩
 have hts : t.size ≤ 100000:=by rw [ht,ByteArray.size_extract]; omega
 have ht2:=ht.symm
 have c1 : (1 : Int) ≤ (a.size : Int):=by omega
 obtain ⟨b0,hb0⟩ : ∃ b0,(t.toList == [48]) = b0:=⟨_,rfl⟩
 replace ht:=Lib.hid ht
 clear h45
 replace hhd:=Lib.hid hhd
 cases b0 with
 | true =>
   go_enter Tryz.func95,Tryz.ntmps95
   go_wp2_with fail
   go_ret
   exact ⟨_,rfl,rfl⟩
 | false =>
   go_enter Tryz.func95,Tryz.ntmps95
   go_wp2_with fail
   go_loopg [4] t.size (fun m s4 wr => ∃ j : Nat,s4 = .int .i64 j ∧ j + m = t.size ∧ wr = w)
   case atStart => exact ⟨0,rfl,by omega,rfl⟩
   case round =>
    obtain ⟨j,rfl,hjm,rfl⟩:=hrel
    by_cases hj : j < t.size
    ·have dj : decide (j < t.size) = true:=decide_eq_true hj
     have u0 : (0 : Int) ≤ (j : Int):=by omega
     have u1 : (j : Int) < (t.size : Int):=by omega
     by_cases b1 : (t[j]'hj).toNat < 48
     ·have e1 : decide (((t[j]'hj).toNat : Int) < 48) = true:=decide_eq_true (by omega)
      clear b1
      go_wp2_with fail
      go_ret
      exact ⟨_,rfl,rfl⟩
     ·have e1 : decide (((t[j]'hj).toNat : Int) < 48) = false:=decide_eq_false (by omega)
      by_cases b2 : 57 < (t[j]'hj).toNat
      ·have e2 : decide ((57 : Int) < ((t[j]'hj).toNat : Int)) = true:=decide_eq_true (by omega)
       clear b1 b2
       go_wp2_with fail
       go_ret
       exact ⟨_,rfl,rfl⟩
      ·have e2 : decide ((57 : Int) < ((t[j]'hj).toNat : Int)) = false:=decide_eq_false (by omega)
       clear b1 b2
       go_wp2_with fail
       go_roundg (gk - 1)
       case measure => omega
       case rel => exact ⟨j + 1,by go_num,by omega,rfl⟩
    ·have dj : decide (j < t.size) = false:=decide_eq_false hj
     by_cases hz2 : t.size = 0
     ·have dz : decide ((0 : Int) < (t.size : Int)) = false:=decide_eq_false (by omega)
      go_wp2_with fail
      go_ret
      exact ⟨_,rfl,rfl⟩
     ·have yz : (0 : Int) < (t.size : Int):=by omega
      have dz : decide ((0 : Int) < (t.size : Int)) = true:=decide_eq_true yz
      obtain ⟨bq,hbq⟩ : ∃ bq,((t.size : Int) == 1) = bq:=⟨_,rfl⟩
      obtain ⟨bn,hbn⟩ : ∃ bn,(((t[0]'(by omega)).toNat : Int) != 48) = bn:=⟨_,rfl⟩
      cases bn with
      | true =>
        go_wp2_with fail
        go_ret
        exact ⟨_,rfl,rfl⟩
      | false =>
        go_wp2_with fail
        go_ret
        exact ⟨_,rfl,rfl⟩
end Go.Proofs.YtkjemicelmabdaaGreatDoor

/- schismalaw42.cut of any word. -/
namespace Go.Proofs.YtkjemicelmabdaaGreatDoor
open Go.RowKit Go.Lib
attribute [local go_sem ↓] Go.wp_at_zero Go.wp_at_succ

theorem canB_dsOk {d : ByteArray} (h : dsOk d = true) : canB d = true ∧ d.data.toList.head? ≠ some 45:=by
 unfold dsOk at h
 rw [Bool.and_eq_true,Bool.and_eq_true] at h
 obtain ⟨⟨h1,h2⟩,h3⟩:=h
 have h1:=of_decide_eq_true h1
 have h2:=of_decide_eq_true h2
 refine ⟨?_,fun e => ?_⟩
 ·unfold canB
  rw [decide_eq_true ⟨h1,.inl h2⟩,Bool.and_true]
  exact h3
 ·have:=List.all_eq_true.1 h3 45 (by
   cases hl : d.data.toList with
   | nil => exact absurd hl h1
   | cons x l => rw [hl] at e; simp at e; rw [e]; simp)
  revert this; decide
theorem canB_cases {d : ByteArray} (h : canB d = true) (h0 : dsOk d = false) : d = tx 0:=by
 unfold canB at h
 rw [Bool.and_eq_true] at h
 obtain ⟨h1,h2⟩:=h
 obtain ⟨h2,h3⟩:=of_decide_eq_true h2
 have hh : d.data.toList.head? = some 48:=by
  refine Decidable.of_not_not fun h9 => ?_
  have : dsOk d = true:=by
   unfold dsOk
   rw [decide_eq_true h2,decide_eq_true h9]
   exact h1
  rw [h0] at this; cases this
 have h4 : d.size = 1:=by
  rcases h3 with h3 | h3
  ·exact absurd hh h3
  ·exact h3
 rw [Lib.size_eq] at h4
 apply ba_ext
 rw [tx_zero]
 cases hl : d.data.toList with
 | nil => rw [hl] at h4; cases h4
 | cons x l =>
   rw [hl] at h4 hh
   simp at h4 hh
   rw [h4,hh]
theorem Sign_45 (a : ByteArray) (w : World) (h45 : a.data.toList.head? = some 45) :
 Calls Tryz.prog 96 #[.string a] w fun e w' => e = .returned (.int .i64 (-1)) ∧ w = w':=by
 have hz : 0 < a.size:=by
  rw [Lib.size_eq]
  cases h : a.data.toList with
  | nil => rw [h] at h45; cases h45
  | cons => rw [List.length_cons]; omega
 have hhd : a.data.toList.head? = some (a[0]'hz):=by
  rw [List.head?_eq_getElem?,Lib.data_getElem? a 0 hz]
 have y0 : (0 : Int) < (a.size : Int):=by omega
 have y1 : (((a[0]'hz).toNat : Int) == 45) = true:=by
  rw [h45] at hhd; injection hhd with hhd; rw [← hhd]; rfl
 have hb : (a.toList == [48]) = false:=by
  rw [Lib.toList_data]
  cases hl : a.data.toList with
  | nil => rfl
  | cons x l => rw [hl] at h45; simp at h45; rw [h45]; rfl
 clear h45
 replace hhd:=Lib.hid hhd
 go_enter Tryz.func96,Tryz.ntmps96
 go_wp2_with fail
 go_ret
 exact ⟨rfl,rfl⟩
def LcRet (s : ByteArray) (w : World) (e : Ending) (w' : World) : Prop :=
 ((∃ p,cutO s = some p ∧ e = .returned (.tuple #[.string p.nm,.string (tx p.val),.bool true])) ∨ (cutO s = none ∧ e = .returned (.tuple #[.string ⟨#[]⟩,.string ⟨#[]⟩,.bool false]))) ∧ w = w'
theorem noAny_end {s : ByteArray} {i : Nat} (h : Lib.NoAny s.data.toList [43,45] i) (hi : i < s.size) (hs : s[i]'hi = 43 ∨ s[i]'hi = 45) : Lib.indexAny s.data.toList [43,45] = i :=
 Lib.indexAny_hit h (Lib.data_getElem? s i hi) (by rcases hs with h | h <;> rw [h] <;> decide)
set_option maxRecDepth 100000 in
set_option maxHeartbeats 8000000 in
theorem LawCut_any (s : ByteArray) (w : World) (hs : s.size ≤ 100000) : Calls Tryz.prog 50 #[.string s] w (LcRet s w):=by
 go_enter Tryz.func50,Tryz.ntmps50
 go_wp2_with fail
 go_loopg [5] s.size (fun m s5 wr => ∃ j : Nat,s5 = .int .i64 j ∧ j + m = s.size ∧ wr = w ∧ Hid (Lib.NoAny s.data.toList [43,45] j))
 case atStart => exact ⟨0,rfl,by omega,rfl,Lib.NoAny.zero _ _⟩
 case round =>
  obtain ⟨i,rfl,hjm,rfl,hno⟩:=hrel
  by_cases hi : i < s.size
  ·have dj : decide (i < s.size) = true:=decide_eq_true hi
   have u0 : (0 : Int) ≤ (i : Int):=by omega
   have u1 : (i : Int) < (s.size : Int):=by omega
   by_cases hpm : s[i]'hi = 43 ∨ s[i]'hi = 45
   ·have e0 : ((i : Int) == (s.size : Int)) = false:=beq_false_of_ne (by omega)
    have hix:=Lib.hid (noAny_end hno.out hi hpm)
    obtain ⟨nm,hnm⟩ : ∃ nm,s.extract 0 i = nm:=⟨_,rfl⟩
    obtain ⟨ds,hds⟩ : ∃ ds,s.extract (i + 1) s.size = ds:=⟨_,rfl⟩
    have hdsz : ds.size ≤ 100000:=by rw [← hds,ByteArray.size_extract]; omega
    have hbad:=Lib.hid (fun h : ¬ (isName nm = true ∧ dsOk ds = true) => cutO_none s i (fun _ => hix.out.symm) (by rw [hnm,hds]; exact h))
    have hw1 : IntKind.i64.wrap ((i : Int) + 1) = (i : Int) + 1:=IntWalk.i64_in _ (by omega)
    have ht1 : ((i : Int) + 1).toNat = i + 1:=by omega
    have z2 : (i : Int) + 1 ≤ (s.size : Int):=by omega
    have z3 : (0 : Int) ≤ (i : Int) + 1:=by omega
    obtain ⟨c1,c2,ng,k1,k2,k3,hcc⟩ : ∃ c1 c2 ng : Bool,(((s[i]'hi).toNat : Int) != 43) = c1 ∧ (((s[i]'hi).toNat : Int) != 45) = c2 ∧ (((s[i]'hi).toNat : Int) == 45) = ng ∧ ng = decide (s[i]'hi = 45) ∧ ((c1 = false ∧ ng = false) ∨ (c1 = true ∧ c2 = false ∧ ng = true)):=by
     refine ⟨_,_,_,rfl,rfl,rfl, ?_⟩
     rcases hpm with h | h <;> rw [h] <;> decide
    obtain ⟨hng,hcc⟩:=hcc
    have hok:=Lib.hid (fun (hb : isName nm = true) (hd : dsOk ds = true) => cutO_some s i hi hpm (by rw [hnm]; exact hb) (by rw [hds]; exact hd))
    rw [hnm,hds,← hng] at hok
    have hnam:=Lib.hid (fun W : World => name42_any nm W (by rw [← hnm,ByteArray.size_extract]; omega))
    clear hpm
    replace hng:=Lib.hid hng
    by_cases hd : dsOk ds = true
    ·obtain ⟨hc1,hc2⟩:=canB_dsOk hd
     have hcan:=Lib.hid (fun W : World => Canonical_any ds W hdsz hc2)
     rw [hc1] at hcan
     obtain ⟨t1,t2⟩:=dsOk_tx hd
     obtain ⟨n,hn⟩ : ∃ n : Nat,n = digVal 0 ds.data.toList:=⟨_,rfl⟩
     rw [← hn] at t1 t2 hok
     have hsg:=Lib.hid (fun W : World => R2Sign (n : Int) W)
     rw [Int.sign_eq_one_of_pos (by omega),← t1] at hsg
     have hng2:=Lib.hid (fun W : World => R2Neg (n : Int) W (by rw [← t1]; omega))
     rw [← t1] at hng2
     replace t1:=Lib.hid t1
     replace hd:=Lib.hid hd
     replace hn:=Lib.hid hn
     clear hc1 hc2
     cases hb : isName nm with
     | false =>
       rw [hb] at hnam
       have hb9:=Lib.hid (hbad.out (by rw [hb]; simp))
       replace hb:=Lib.hid hb
       rcases hcc with ⟨rfl,rfl⟩ | ⟨rfl,rfl,rfl⟩
       all_goals
        go_wp2_with fail
        refine (hcan.out _).mono ?_
        rintro e w2 ⟨rfl,rfl⟩
        go_wp2_with fail
        refine (hsg.out _).mono ?_
        rintro e w2 ⟨rfl,rfl⟩
        go_wp2_with fail
        refine (hnam.out _).mono ?_
        rintro e w2 ⟨rfl,rfl⟩
        go_wp2_with fail
        go_ret3
        exact ⟨.inr ⟨hb9.out,rfl⟩,rfl⟩
     | true =>
       rw [hb] at hnam
       have hb9:=Lib.hid (hok.out hb hd.out)
       replace hb:=Lib.hid hb
       rcases hcc with ⟨rfl,rfl⟩ | ⟨rfl,rfl,rfl⟩
       ·go_wp2_with fail
        refine (hcan.out _).mono ?_
        rintro e w2 ⟨rfl,rfl⟩
        go_wp2_with fail
        refine (hsg.out _).mono ?_
        rintro e w2 ⟨rfl,rfl⟩
        go_wp2_with fail
        refine (hnam.out _).mono ?_
        rintro e w2 ⟨rfl,rfl⟩
        go_wp2_with fail
        go_ret3
        exact ⟨.inl ⟨_,hb9.out,by rw [t1.out]; rfl⟩,rfl⟩
       ·go_wp2_with fail
        refine (hcan.out _).mono ?_
        rintro e w2 ⟨rfl,rfl⟩
        go_wp2_with fail
        refine (hsg.out _).mono ?_
        rintro e w2 ⟨rfl,rfl⟩
        go_wp2_with fail
        refine (hnam.out _).mono ?_
        rintro e w2 ⟨rfl,rfl⟩
        go_wp2_with fail
        refine (hng2.out _).mono ?_
        rintro e w2 ⟨rfl,rfl⟩
        go_wp2_with fail
        go_ret3
        exact ⟨.inl ⟨_,hb9.out,rfl⟩,rfl⟩
    ·have hb9:=Lib.hid (hbad.out (fun h => hd h.2))
     have hd : dsOk ds = false:=by simpa using hd
     clear hok hbad
     by_cases h45 : ds.data.toList.head? = some 45
     ·have hcan:=Lib.hid (fun W : World => Canonical_neg ds W hdsz h45)
      have hsg:=Lib.hid (fun W : World => Sign_45 ds W h45)
      replace h45:=Lib.hid h45
      replace hd:=Lib.hid hd
      rcases hcc with ⟨rfl,rfl⟩ | ⟨rfl,rfl,rfl⟩
      all_goals
       go_wp2_with fail
       refine (hcan.out _).mono ?_
       rintro e w2 ⟨b,rfl,rfl⟩
       cases b with
       | false =>
         go_wp2_with fail
         go_ret3
         exact ⟨.inr ⟨hb9.out,rfl⟩,rfl⟩
       | true =>
         go_wp2_with fail
         refine (hsg.out _).mono ?_
         rintro e w2 ⟨rfl,rfl⟩
         go_wp2_with fail
         go_ret3
         exact ⟨.inr ⟨hb9.out,rfl⟩,rfl⟩
     ·have hcan:=Lib.hid (fun W : World => Canonical_any ds W hdsz h45)
      cases hcb : canB ds with
      | false =>
        rw [hcb] at hcan
        replace hd:=Lib.hid hd
        replace h45:=Lib.hid h45
        replace hcb:=Lib.hid hcb
        rcases hcc with ⟨rfl,rfl⟩ | ⟨rfl,rfl,rfl⟩
        all_goals
         go_wp2_with fail
         refine (hcan.out _).mono ?_
         rintro e w2 ⟨rfl,rfl⟩
         go_wp2_with fail
         go_ret3
         exact ⟨.inr ⟨hb9.out,rfl⟩,rfl⟩
      | true =>
        rw [hcb] at hcan
        have hz:=canB_cases hcb hd
        have hsg:=Lib.hid (fun W : World => R2Sign 0 W)
        rw [← hz] at hsg
        have e9 : (0 : Int).sign = 0:=rfl
        rw [e9] at hsg
        replace hd:=Lib.hid hd
        replace h45:=Lib.hid h45
        replace hcb:=Lib.hid hcb
        replace hz:=Lib.hid hz
        clear e9
        rcases hcc with ⟨rfl,rfl⟩ | ⟨rfl,rfl,rfl⟩
        all_goals
         go_wp2_with fail
         refine (hcan.out _).mono ?_
         rintro e w2 ⟨rfl,rfl⟩
         go_wp2_with fail
         refine (hsg.out _).mono ?_
         rintro e w2 ⟨rfl,rfl⟩
         go_wp2_with fail
         go_ret3
         exact ⟨.inr ⟨hb9.out,rfl⟩,rfl⟩
   ·have k1 : (((s[i]'hi).toNat : Int) != 43) = true:=by rw [bne_iff_ne]; exact fun e => hpm (.inl (UInt8.toNat_inj.1 (by show _ = 43; omega)))
    have k2 : (((s[i]'hi).toNat : Int) != 45) = true:=by rw [bne_iff_ne]; exact fun e => hpm (.inr (UInt8.toNat_inj.1 (by show _ = 45; omega)))
    have hn2 : Hid (Lib.NoAny s.data.toList [43,45] (i + 1)):=hno.out.succ (Lib.data_getElem? s i hi) (by
     have h1 : ¬ s[i]'hi = 43:=fun e => hpm (.inl e)
     have h2 : ¬ s[i]'hi = 45:=fun e => hpm (.inr e)
     simp [h1,h2])
    clear hpm
    go_wp2_with fail
    go_roundg (gk - 1)
    case measure => omega
    case rel => exact ⟨i + 1,by go_num,by omega,rfl,hn2⟩
  ·have dj : decide (i < s.size) = false:=decide_eq_false hi
   obtain rfl : i = s.size:=by omega
   have e0 : ((s.size : Int) == (s.size : Int)) = true:=by simp
   have hbad:=Lib.hid (cutO_none1 s (fun _ => (Lib.indexAny_none (by rw [← Lib.size_eq]; exact hno.out)).symm))
   go_wp2_with fail
   go_ret3
   exact ⟨.inr ⟨hbad.out,rfl⟩,rfl⟩
end Go.Proofs.YtkjemicelmabdaaGreatDoor

/- schismaref02.Small at any number. -/
namespace Go.Proofs.YtkjemicelmabdaaGreatDoor
open Go.RowKit Go.Lib
attribute [local go_sem ↓] Go.wp_at_zero Go.wp_at_succ

theorem quo_le (v c : Nat) (h1 : 48 ≤ c) (h2 : c ≤ 57) (h : v * 10 + (c - 48) ≤ 9223372036854775808) : (-9223372036854775808 + ((c : Int) - 48)).tdiv 10 ≤ -(v : Int):=by
 rw [show -9223372036854775808 + ((c : Int) - 48) = -(9223372036854775808 - ((c : Int) - 48)) by omega,Int.neg_tdiv,Int.tdiv_eq_ediv_of_nonneg (by omega)]; omega
theorem quo_gt (v c : Nat) (h1 : 48 ≤ c) (h2 : c ≤ 57) (h : ¬ v * 10 + (c - 48) ≤ 9223372036854775808) : -(v : Int) < (-9223372036854775808 + ((c : Int) - 48)).tdiv 10:=by
 rw [show -9223372036854775808 + ((c : Int) - 48) = -(9223372036854775808 - ((c : Int) - 48)) by omega,Int.neg_tdiv,Int.tdiv_eq_ediv_of_nonneg (by omega)]; omega
/-- what Small returns: a number only if it is that of the text -/
def SmRet (n : Int) (w : World) (e : Ending) (w' : World) : Prop :=
 ∃ v b,e = .returned (.tuple #[.int .i64 v,.bool b]) ∧ -9223372036854775808 ≤ v ∧ v ≤ 9223372036854775807 ∧ (b = true → v = n) ∧ w = w'
set_option maxRecDepth 100000 in
set_option maxHeartbeats 4000000 in
theorem R2Small_big (n : Int) (w : World) (hsz : (tx n).size ≤ 1000000) :
 Calls Tryz.prog 52 #[.string (tx n)] w (SmRet n w):=by
 have hp:=tx_pos n
 obtain ⟨off,ho⟩ : ∃ off : Nat,off = if n < 0 then 1 else 0:=⟨_,rfl⟩
 have hlen : (tx n).size = (decDigits n.natAbs).length + off:=by
  rw [tx_size]
  by_cases h : n < 0
  ·rw [ho,if_pos h,itoa_ng h]; rfl
  ·rw [ho,if_neg h,itoa_nn (by omega),show n.toNat = n.natAbs by omega]; rfl
 have hdp : 0 < (decDigits n.natAbs).length:=List.length_pos_iff.2 (dec_ne _)
 have hat:=fun i (h1 : off ≤ i) (h2 : i < (tx n).size) => tx_digit ho h1 h2
 have hall : ∀ i,i = (tx n).size → digVal 0 ((decDigits n.natAbs).take (i - off)) = n.natAbs:=fun i hi => by
  rw [List.take_of_length_le (by omega),digVal_dec]
 have hz : digVal 0 ((decDigits n.natAbs).take (off - off)) = 0:=by rw [Nat.sub_self]; rfl
 have hneg : ((((tx n)[0]'hp).toNat : Int) == 45) = decide (n < 0):=by
  by_cases h : n < 0
  ·rw [tx_head_ng h hp,decide_eq_true h]
  ·rw [tx_head_nn (by omega) hp,decide_eq_false h]
 obtain ⟨V,hV⟩ : ∃ V : Nat → Nat,∀ i,digVal 0 ((decDigits n.natAbs).take (i - off)) = V i:=⟨_,fun i => rfl⟩
 simp only [hV] at hat hall hz
 have hoff : off < (tx n).size:=by omega
 have hho : (n < 0 → off = 1) ∧ (¬ n < 0 → off = 0):=⟨fun h => by rw [ho,if_pos h],fun h => by rw [ho,if_neg h]⟩
 clear hV hlen hdp ho
 generalize tx n = t at *
 obtain ⟨s,hs⟩ : ∃ s,s = t.size:=⟨_,rfl⟩
 replace hall:=Lib.hid hall
 replace hat:=Lib.hid hat
 by_cases h : n < 0
 ·
  obtain rfl : off = 1:=by first | exact hho.1 h | exact hho.2 h
  have hng:=Lib.hid h
  first | rw [decide_eq_true h] at hneg | rw [decide_eq_false h] at hneg
  clear h hho
  go_enter Tryz.func52,Tryz.ntmps52
  have z0 : decide ((0 : Int) < (t.size : Int)) = true:=decide_eq_true (by omega)
  have z1 : ((1 : Int) == (t.size : Int)) = false:=beq_false_of_ne (by omega)
  go_wp2_with fail
  go_loopg [5,7] (s - 1) (fun k s5 s7 wr => ∃ i : Nat,s5 = .int .i64 i ∧ s7 = .int .i64 (-(V i : Int)) ∧ 1 ≤ i ∧ i + k = s ∧ w = wr ∧ V i ≤ 9223372036854775808)
  case atStart => exact ⟨1,by go_num,by rw [hz]; go_num,by omega,by omega,rfl,by rw [hz]; omega⟩
  case round =>
   obtain ⟨i,rfl,rfl,hoi,hik,rfl,hVi⟩:=hrel
   by_cases hi : i < s
   ·have hdI : decide ((i : Int) < (t.size : Int)) = true:=decide_eq_true (by omega)
    obtain ⟨c,hc,c1,c2,hV⟩:=hat.out i hoi (by omega)
    have y1 : (i : Int) < (t.size : Int):=by omega
    have y2 : (0 : Int) ≤ (i : Int):=by omega
    by_cases hov : V i * 10 + (c.toNat - 48) ≤ 9223372036854775808
    ·have hq:=quo_le (V i) c.toNat (by omega) (by omega) hov
     go_wp2_with fail
     all_goals first
      | (exfalso; omega)
      | (go_roundg (gk - 1)
         case measure => omega
         case rel => exact ⟨i + 1,by go_num,by show Value.int _ _ = Value.int _ _; rw [show -(V i : Int) * 10 - ((c.toNat : Int) - 48) = -(V (i + 1) : Int) by omega],by omega,by omega,rfl,by omega⟩)
    ·have hq:=quo_gt (V i) c.toNat (by omega) (by omega) hov
     go_wp2_with fail
     all_goals first
      | (exfalso; omega)
      | (go_ret2; exact ⟨0,false,rfl,by omega,by omega,(fun h => by cases h),rfl⟩)
   ·have hdI : decide ((i : Int) < (t.size : Int)) = false:=decide_eq_false (by omega)
    have hV:=hall.out i (by omega)
    have hng2:=hng.out
    by_cases hmm : V i = 9223372036854775808
    ·have hmin : (-(V i : Int) == -9223372036854775808) = true:=by rw [hmm]; rfl
     go_wp2_with fail
     go_ret2
     refine ⟨_,_,rfl,by omega,by omega,fun h => ?_,rfl⟩
     first | omega | cases h
    ·have hmin : (-(V i : Int) == -9223372036854775808) = false:=beq_false_of_ne (by omega)
     go_wp2_with fail
     go_ret2
     exact ⟨_,_,rfl,by omega,by omega,(fun h => by omega),rfl⟩
 ·
  obtain rfl : off = 0:=by first | exact hho.1 h | exact hho.2 h
  have hng:=Lib.hid h
  first | rw [decide_eq_true h] at hneg | rw [decide_eq_false h] at hneg
  clear h hho
  go_enter Tryz.func52,Tryz.ntmps52
  have z0 : decide ((0 : Int) < (t.size : Int)) = true:=decide_eq_true (by omega)
  have z1 : ((0 : Int) == (t.size : Int)) = false:=beq_false_of_ne (by omega)
  go_wp2_with fail
  go_loopg [5,7] (s - 0) (fun k s5 s7 wr => ∃ i : Nat,s5 = .int .i64 i ∧ s7 = .int .i64 (-(V i : Int)) ∧ 0 ≤ i ∧ i + k = s ∧ w = wr ∧ V i ≤ 9223372036854775808)
  case atStart => exact ⟨0,by go_num,by rw [hz]; go_num,by omega,by omega,rfl,by rw [hz]; omega⟩
  case round =>
   obtain ⟨i,rfl,rfl,hoi,hik,rfl,hVi⟩:=hrel
   by_cases hi : i < s
   ·have hdI : decide ((i : Int) < (t.size : Int)) = true:=decide_eq_true (by omega)
    obtain ⟨c,hc,c1,c2,hV⟩:=hat.out i hoi (by omega)
    have y1 : (i : Int) < (t.size : Int):=by omega
    have y2 : (0 : Int) ≤ (i : Int):=by omega
    by_cases hov : V i * 10 + (c.toNat - 48) ≤ 9223372036854775808
    ·have hq:=quo_le (V i) c.toNat (by omega) (by omega) hov
     go_wp2_with fail
     all_goals first
      | (exfalso; omega)
      | (go_roundg (gk - 1)
         case measure => omega
         case rel => exact ⟨i + 1,by go_num,by show Value.int _ _ = Value.int _ _; rw [show -(V i : Int) * 10 - ((c.toNat : Int) - 48) = -(V (i + 1) : Int) by omega],by omega,by omega,rfl,by omega⟩)
    ·have hq:=quo_gt (V i) c.toNat (by omega) (by omega) hov
     go_wp2_with fail
     all_goals first
      | (exfalso; omega)
      | (go_ret2; exact ⟨0,false,rfl,by omega,by omega,(fun h => by cases h),rfl⟩)
   ·have hdI : decide ((i : Int) < (t.size : Int)) = false:=decide_eq_false (by omega)
    have hV:=hall.out i (by omega)
    have hng2:=hng.out
    by_cases hmm : V i = 9223372036854775808
    ·have hmin : (-(V i : Int) == -9223372036854775808) = true:=by rw [hmm]; rfl
     go_wp2_with fail
     go_ret2
     refine ⟨_,_,rfl,by omega,by omega,fun h => ?_,rfl⟩
     first | omega | cases h
    ·have hmin : (-(V i : Int) == -9223372036854775808) = false:=beq_false_of_ne (by omega)
     go_wp2_with fail
     go_ret2
     exact ⟨_,_,rfl,by omega,by omega,(fun h => by omega),rfl⟩
end Go.Proofs.YtkjemicelmabdaaGreatDoor
