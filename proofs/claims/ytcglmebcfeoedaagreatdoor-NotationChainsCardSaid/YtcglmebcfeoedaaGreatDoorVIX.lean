/- Contracts and laws: VIX. -/
import Derived.Test.YtcglmebcfeoedaaGreatDoorShelf
import Derived.Test.YtcglmebcfeoedaaGreatDoorVD
import Derived.Laws.RangeAny
import Derived.Laws.Runes
import Derived.Lib.OthersKept
import Derived.Lib.IndexAny

set_option maxRecDepth 100000
set_option maxHeartbeats 4000000
namespace Go.Proofs.YtcglmebcfeoedaaGreatDoor
open Go.RowKit Go.Lib
attribute [local go_sem ↓] AA AB
theorem Of (r:Int) (w:World) (h0:128≤r) (h1:r≤2147483647) :
 Calls Tryz.prog 216 #[.string ⟨#[43,45]⟩,.int .i32 r] w fun e w'=>e=.returned (.int .i64 (-1))∧Fr w w':=by
 obtain ⟨pm,hpm⟩:∃ pm:ByteArray,pm=⟨#[43,45]⟩:=⟨_,rfl⟩
 rw [← hpm]
 have hs2:pm.size=2:=by rw [hpm]; rfl
 have hb0:∀ (i:Nat) (h:i < pm.size),(pm[i]'h).toNat < 128∧(pm[i]'h).toNat≠65533:=by
  subst hpm
  intro i h
  match i,h with
  | 0,_=>exact ⟨by show (43:UInt8).toNat < 128; decide,by show (43:UInt8).toNat≠65533; decide⟩
  | 1,_=>exact ⟨by show (45:UInt8).toNat < 128; decide,by show (45:UInt8).toNat≠65533; decide⟩
  | i+2,h=>exact absurd h (by show ¬ i+2 < 2; omega)
 have d0:decide (0≤r)=true:=Ac (by omega)
 have d1:decide (r < 128)=false:=Aa (by omega)
 by_cases hr:r=65533
 ·have q:(r == 65533)=true:=by rw [beq_iff_eq]; exact hr
  replace hr:=hZ hr
  replace hpm:=hZ hpm
  replace hb0:=hZ hb0
  replace hs2:=hZ hs2
  go_enter Tryz.func216,Tryz.ntmps216
  go_wp2_with fail
  go_loopg [5,6] 2 (fun g _ _ wx=>∃ i:Nat,i+g=2∧wx=w.iter pm i)
  case atStart=>exact ⟨0,rfl,rfl⟩
  case round=>
   obtain ⟨i,hig,rfl⟩:=hrel
   by_cases hi:i < 2
   ·have hi2:i < pm.size:=by rw [hs2.out]; exact hi
    have hnx:=fun ty=>run_next_ascii (P:=Tryz.prog) w pm i ty hi2 (hb0.out i hi2).1
    have qq:(((pm[i]'hi2).toNat:Int) == 65533)=false:=Ay (by have:=(hb0.out i hi2).2; omega)
    go_wp2_with fail
    go_roundg (gk - 1)
    case measure=>omega
    case rel=>exact ⟨i+1,by omega,rfl⟩
   ·have hnx:=fun ty=>run_next_end (P:=Tryz.prog) w pm i ty (by rw [hs2.out]; exact hi)
    go_wp2_with fail
    go_ret
    exact ⟨rfl,(Fr.refl w).alloc _⟩
 ·have q:(r == 65533)=false:=Ay hr
  have hvr:=hZ (fun W:World=>Any.utf8_ValidRune { Tryz.lays153 with } r W)
  replace hr:=hZ hr
  cases hv:Lib.validRune r with
  | false=>
    rw [hv] at hvr
    clear hb0
    replace hpm:=hZ hpm
    replace hs2:=hZ hs2
    go_enter Tryz.func216,Tryz.ntmps216
    go_wp2_with fail
    refine (hvr.out _).mono ?_
    rintro e w2 ⟨rfl,rfl⟩
    go_wp2_with fail
    go_ret
    exact ⟨rfl,Fr.refl _⟩
  | true=>
    rw [hv] at hvr
    obtain ⟨e1,e2,e3⟩:=encode_facts r (by rw [Utf8.valid]; unfold Lib.validRune at hv; simp at hv ⊢; omega) h0
    obtain ⟨rs,hrs⟩:∃ rs,rs=Utf8.encode r:=⟨_,rfl⟩
    have hcv:∀ W:World,(convert 21 9 (.int .i32 r)).run Tryz.prog W=.ok (.string rs) W:=fun W=>by rw [hrs]; exact run_convert_int_string W _ _ _ _ (by rfl) (by rfl)
    rw [← hrs] at e1 e2 e3
    have e4:=e3 (by omega)
    have hw1:IntKind.i64.wrap ((rs.size:Int) - 1)=(rs.size:Int) - 1:=Al _ (by omega)
    have z0:(0:Int)≤(rs.size:Int) - 1:=by omega
    have z1:(rs.size:Int) - 1 < (rs.size:Int):=by omega
    have ht:((rs.size:Int) - 1).toNat=rs.size - 1:=by omega
    by_cases h2:rs.size=2
    ·have e5:∀ (k:Nat) (h:k < rs.size),k=rs.size - 1→128≤(rs[k]'h).toNat:=fun k h e=>by subst e; exact e4
     have l1:1 < pm.size:=by omega
     have l2:1 < rs.size:=by omega
     have hne:(((pm[1]'l1).toNat:Int) != ((rs[1]'l2).toNat:Int))=true:=by
      rw [Bl]
      have:=(hb0 1 l1).1
      have:=e5 1 l2 (by omega)
      omega
     clear e3 e4 e5 hw1 z0 z1 ht
     replace hr:=hZ hr
     replace hrs:=hZ hrs
     replace hb0:=hZ hb0
     replace hpm:=hZ hpm
     go_enter Tryz.func216,Tryz.ntmps216
     go_wp2_with fail
     refine (hvr.out _).mono ?_
     rintro e w2 ⟨rfl,rfl⟩
     go_wp2_with fail
     go_step3
     go_wp2_with fail
     have hie:Hid (∀ (c:Int) (W:World),Calls Tryz.prog 258 #[.string ByteArray.empty,.int .u8 c] W fun e w'=>e=.returned (.int .i64 (-1))∧w'=W):=fun c W=>Any.strings_IndexByte { Tryz.lays153 with } ByteArray.empty c W
     go_loopg [9] 1 (fun g s9 wx=>s9=.int .i64 1∧g=1∧wx=w2)
     case atStart=>exact ⟨rfl,rfl,rfl⟩
     case round=>
      obtain ⟨rfl,rfl,rfl⟩:=hrel
      go_wp2_with fail
      go_step3
      go_wp2_with fail
      go_region
      go_wp2_with fail
      go_region_with (go_at_call 258; (with_reducible refine (hie.out _ _).mono ?_); rintro e w6 ⟨rfl,rfl⟩)
      all_goals
       go_wp2_with fail
       rw [MB]
       try go_wp2_with fail
       rw [MB]
       go_ret
       exact ⟨rfl,by exact BR⟩
    ·have dd:decide ((rs.size:Int) - 1 < 2)=false:=Aa (by omega)
     replace hr:=hZ hr
     replace hrs:=hZ hrs
     replace hb0:=hZ hb0
     replace hpm:=hZ hpm
     replace h2:=hZ h2
     go_enter Tryz.func216,Tryz.ntmps216
     go_wp2_with fail
     refine (hvr.out _).mono ?_
     rintro e w2 ⟨rfl,rfl⟩
     go_wp2_with fail
     go_step3
     go_wp2_with fail
     go_loopg [9] 1 (fun g s9 wx=>s9=.int .i64 ((rs.size:Int) - 1)∧g=1∧wx=w2)
     case atStart=>exact ⟨rfl,rfl,rfl⟩
     case round=>
      obtain ⟨rfl,rfl,rfl⟩:=hrel
      go_wp2_with fail
      rw [MB]
      try go_wp2_with fail
      try rw [MB]
      go_ret
      exact ⟨rfl,Fr.refl _⟩
def Yy (s:ByteArray) (k:Int):Prop:=k=-1∨∃ (i:Nat) (h:i < s.size),k=i∧(s[i]'h=43∨s[i]'h=45)
theorem K9 (s:ByteArray):Yy s (Lib.indexAny s.data.toList [43,45]):=by
 by_cases h:Lib.NoAny s.data.toList [43,45] s.data.toList.length
 ·exact .inl (Lib.indexAny_none h)
 ·have h2:∃ n,¬ Lib.NoAny s.data.toList [43,45] n:=⟨_,h⟩
  obtain ⟨n,hn,hmin⟩:∃ n,¬ Lib.NoAny s.data.toList [43,45] (n+1)∧Lib.NoAny s.data.toList [43,45] n:=by
   generalize s.data.toList.length=m at h
   clear h2
   induction m with
   | zero=>exact absurd (Lib.NoAny.zero _ _) h
   | succ m ih=>
     by_cases h3:Lib.NoAny s.data.toList [43,45] m
     ·exact ⟨m,h,h3⟩
     ·exact ih h3
  cases hx:s.data.toList[n]? with
  | none=>exact absurd (fun j b hj hb=>by
     by_cases e:j=n
     ·subst e; rw [hx] at hb; cases hb
     ·exact hmin j b (by omega) hb) hn
  | some x=>
    have hc:([43,45]:List UInt8).contains x=true:=by
     cases hc:([43,45]:List UInt8).contains x with
     | true=>rfl
     | false=>exact absurd (hmin.succ hx hc) hn
    have hl:n < s.size:=by
     have:=(Ah.1 hx).1
     rw [Oj]; exact this
    refine .inr ⟨n,hl,Lib.indexAny_hit hmin hx hc, ?_⟩
    have e:s[n]'hl=x:=by
     have:=D3 s n hl
     rw [hx] at this
     injection this with this; exact this.symm
    rw [e]
    simpa using hc
def WX (s:ByteArray) (w:World) (e:Ending) (w':World):Prop:=∃ k:Int,e=.returned (.int .i64 k)∧Yy s k∧((∀ (j:Nat) b,s.data.toList[j]?=some b→b.toNat < 128)→k=Lib.indexAny s.data.toList [43,45])∧Fr w w'
theorem OJ:∀ (j:Nat) b,(⟨#[43,45]⟩:ByteArray).data.toList[j]?=some b→b.toNat < 128:=fun j b hj=>by
 match j,hj with
 | 0,hj=>injection hj with hj; rw [← hj]; decide
 | 1,hj=>injection hj with hj; rw [← hj]; decide
 | j+2,hj=>cases hj
theorem Ph (s:ByteArray) (i:Nat) (h:i < s.size) (ha:¬ (s[i]'h).toNat < 128):128≤(Utf8.decode s i).1∧1≤(Utf8.decode s i).2:=by
 have e:s.get! (i+0)=s[i]'h:=by
  show s.get! i=_
  simp [ByteArray.get!,getElem!_pos,h]
  rfl
 simp only [Utf8.decode,e,ha,S8,Utf8.runeError]
 repeat' split
 all_goals simp_all
 all_goals omega
theorem Fr.heap {w w':World} (h:Fr w w') {i:Nat} (hi:i < w.heap.size):w'.heap[i]?=w.heap[i]?:=h.block i hi
theorem Mq (s:ByteArray) (w:World) (h8:s.size≤8) (hno:¬ ∀ (j:Nat) b,s.data.toList[j]?=some b→b.toNat < 128) :
 Calls Tryz.prog 149 #[.string s,.string ⟨#[43,45]⟩] w (WX s w):=by
 have hsa:Hid (∀ (n:Int) (W:World),Calls Tryz.prog 217 #[.int .i64 n] W fun e w'=>e=.returned (.bool (decide (8 < n)))∧w'=W):=fun n W=>Any.strings_shouldUseASCIISet { Tryz.lays153 with } n W
 have hira:Hid (∀ (r:Int) (W:World),0≤r→r < 128→Calls Tryz.prog 216 #[.string ⟨#[43,45]⟩,.int .i32 r] W fun e w'=>e=.returned (.int .i64 (Lib.indexByte [43,45] r.toNat.toUInt8))∧w'=W):=fun r W h0 h1=>Any.strings_IndexRune_ascii { Tryz.lays153 with } ⟨#[43,45]⟩ r W h0 h1
 have hirb:=hZ (fun r W h0 h1=>Of r W h0 h1)
 have dn:decide ((8:Int) < (s.size:Int))=false:=Aa (by omega)
 replace hno:=hZ hno
 go_enter Tryz.func149,Tryz.ntmps149
 go_wp2_with fail
 refine (hsa.out _ _).mono ?_
 rintro e w2 ⟨rfl,rfl⟩
 go_wp2_with fail
 go_loopg [9,10] s.size (fun g _ _ wx=>∃ i:Nat,s.size≤i+g∧wx.heap[w2.heap.size]?=some (.stringIter s i)∧Fr w2 wx)
 case atStart=>exact ⟨0,by omega,World.iter_heap _ _ _,(Fr.refl w2).alloc _⟩
 case round=>
  obtain ⟨i,hig,hit,hf⟩:=hrel
  by_cases hi:i < s.size
  ·by_cases ha:(s[i]'hi).toNat < 128
   ·have hnx:=fun ty=>run_next_ascii_at (P:=Tryz.prog) wr w2.heap.size s i ty hit hi ha
    have hit2:=hZ (iterAt_heap wr w2.heap.size s i (i+1) hit)
    have hf2:Fr w2 (wr.iterAt w2.heap.size s (i+1)):=below_iterAt hf (Ag _) s (i+1)
    obtain ⟨x,hx⟩:∃ x:UInt8,s[i]'hi=x:=⟨_,rfl⟩
    rw [hx] at ha hnx
    have hir:=hZ (fun W=>hira.out (x.toNat:Int) W (by omega) (by omega))
    have hb:((x.toNat:Int)).toNat.toUInt8=x:=by simp
    rw [hb] at hir
    by_cases h43:x=43∨x=45
    ·have hpos:∃ t:Int,Lib.indexByte [43,45] x=t∧0≤t:=by
      rcases h43 with rfl | rfl
      ·exact ⟨0,by decide,by decide⟩
      ·exact ⟨1,by decide,by decide⟩
     obtain ⟨t,ht,ht0⟩:=hpos
     rw [ht] at hir
     replace hx:=hZ hx
     replace ht:=hZ ht
     have hfin:=hZ h43
     clear h43 ha
     go_wp2_with fail
     refine (hir.out _).mono ?_
     rintro e w6 ⟨rfl,rfl⟩
     go_wp2_with fail
     go_ret
     exact ⟨i,rfl,.inr ⟨i,hi,rfl,by rw [hx.out]; exact hfin.out⟩,fun h=>absurd h hno.out,hf2⟩
    ·have ht:Lib.indexByte [43,45] x=-1:=by
      have h1:¬ (43:UInt8)=x:=fun e=>h43 (.inl e.symm)
      have h2:¬ (45:UInt8)=x:=fun e=>h43 (.inr e.symm)
      simp [Lib.indexByte,h1,h2]
     rw [ht] at hir
     replace hx:=hZ hx
     replace ht:=hZ ht
     clear h43 ha
     go_wp2_with fail
     refine (hir.out _).mono ?_
     rintro e w6 ⟨rfl,rfl⟩
     go_wp2_with fail
     go_roundg (gk - 1)
     case measure=>omega
     case rel=>exact ⟨i+1,by omega,hit2.out,hf2⟩
   ·have hnx:=fun ty=>run_next_any_at (P:=Tryz.prog) wr w2.heap.size s i ty hit hi
    obtain ⟨d1,d2⟩:=Ph s i hi ha
    have d3:=decode_le s i
    have hit2:=hZ (iterAt_heap wr w2.heap.size s i (i+(Utf8.decode s i).2) hit)
    have hf2:Fr w2 (wr.iterAt w2.heap.size s (i+(Utf8.decode s i).2)):=below_iterAt hf (Ag _) s _
    generalize (Utf8.decode s i).1=dr at *
    generalize (Utf8.decode s i).2=dw at *
    have hlt:Hid (w2.heap.size < (wr.iterAt w2.heap.size s (i+dw)).heap.size):=by
     show _ < _
     rw [iterAt_size]
     exact (Fn.1 hit).1
    obtain ⟨wq,hwq⟩:∃ wq,wq=wr.iterAt w2.heap.size s (i+dw):=⟨_,rfl⟩
    rw [← hwq] at hnx hit2 hf2 hlt
    clear hwq
    have hir:=hZ (hirb.out (dr:Int) wq (by omega) (by omega))
    clear ha
    go_wp2_with fail
    refine hir.out.mono ?_
    rintro e w6 ⟨rfl,hf6⟩
    go_wp2_with fail
    go_roundg (gk - 1)
    case measure=>omega
    case rel=>exact ⟨i+dw,by omega,by rw [hf6.heap hlt.out]; exact hit2.out,hf2.trans hf6⟩
  ·have hnx:=fun ty=>run_next_end_at (P:=Tryz.prog) wr w2.heap.size s i ty hit hi
   go_wp2_with fail
   go_ret
   exact ⟨-1,rfl,.inl rfl,fun h=>absurd h hno.out,hf⟩
theorem PB (s:ByteArray) (w:World) (hs:s.size≤100000) :
 Calls Tryz.prog 149 #[.string s,.string ⟨#[43,45]⟩] w (WX s w):=by
 by_cases ha:∀ (j:Nat) b,s.data.toList[j]?=some b→b.toNat < 128
 ·refine (Tryz.strings_IndexAny_laid s ⟨#[43,45]⟩ w (by omega) (by decide) ha OJ).mono ?_
  rintro e w' ⟨rfl,hb⟩
  exact ⟨_,rfl,K9 s,fun _=>rfl,hb⟩
 ·by_cases h8:s.size≤8
  ·exact Mq s w h8 ha
  ·refine (Any.strings_IndexAny_long Tryz.lays153 (fun w=>by kernel_rfl) (by kernel_rfl) s ⟨#[43,45]⟩ w (by decide) (by omega) (by omega) (by decide) OJ).mono ?_
   rintro e w' ⟨rfl,rfl⟩
   exact ⟨_,rfl,K9 s,fun _=>rfl,((Fr.refl w).alloc _).alloc _⟩
end Go.Proofs.YtcglmebcfeoedaaGreatDoor
