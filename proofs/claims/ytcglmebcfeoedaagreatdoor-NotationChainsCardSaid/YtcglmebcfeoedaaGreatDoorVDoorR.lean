/- Contracts and laws: VDoorR. -/
import Derived.Test.YtcglmebcfeoedaaGreatDoorVR
import Derived.Test.YtcglmebcfeoedaaGreatDoorVA
import Derived.Deep.Strs

set_option maxRecDepth 100000
namespace Go.Proofs.YtcglmebcfeoedaaGreatDoor
open Go.ChangeShapes Go.WideShapes Go.ChangeAt Go.RowKit
abbrev Yd:ByteArray→Value:=fun s=>.string s
theorem Ys:Tryz.prog.cellsOf 3=1:=by kernel_rfl
theorem YY:Tryz.prog.cellsOf 44=1:=by kernel_rfl
theorem Yr:Tryz.prog.cellsOf 9=1:=by kernel_rfl
section
variable {H:Type} {enc:TypeId×Value→H} {w:World} {base:Nat} {spare:Nat→Bool} {held:Bool}
theorem OR {fuel:Nat} {cs:List Value} {x:DataW H×List MemPlace} (h:DataW.trod enc Tryz.prog w base spare held fuel 44 cs=some x) :
 ∃ (a:Option Addr) (xs:List Int) (cap:Nat),cs=[.slice a xs.length cap]∧El w iv a xs∧(∀ n,n ∈ xs→-9223372036854775808≤n∧n≤9223372036854775807):=by
 rcases open_ints Tryz.underlying44 Tryz.underlying3 Ys h with ⟨rfl,-⟩ | ⟨a,len,cap,zs,rfl,-,hl,-,hz,-,hc,hw⟩
 ·exact ⟨none,[],0,rfl,.inl rfl,fun n hn=>by simp at hn⟩
 ·have hlz:len≤zs.length:=by rw [hz]; split <;> omega
  have hlen:(zs.take len).length=len:=by rw [AG]; omega
  refine ⟨some a,zs.take len,cap,by rw [hlen], ?_,fun n hn=>?_⟩
  ·by_cases h0:len=0
   ·exact .inl (by rw [h0,Fk])
   ·have h1:=hc 0 (by omega)
    obtain ⟨b,o,s⟩:=a
    have hs:s=none:=by
     cases s with
     | none=>rfl
     | some s=>
       rw [show (⟨b,o,some s⟩:Addr).add 0=⟨b,o,some s⟩ from rfl] at h1
       unfold World.cell? at h1
       split at h1
       ·simp at h1
       ·simp at h1
    subst hs
    refine .inr ⟨b,o,rfl,AX w _ h1,fun i y hy=>?_⟩
    have hi:i < (zs.take len).length:=(Ah.1 hy).1
    rw [hlen] at hi
    have h2:=hc i (by omega)
    rw [BN,Aj hi] at hy
    rw [X2,hy] at h2
    have e:(⟨b,o,none⟩:Addr).add i=⟨b,o+i,none⟩:=by
     unfold Addr.add
     split
     ·rename_i h; subst h; rfl
     ·rfl
    rw [e] at h2
    exact h2
  ·have h2:=hw n (Cu hn)
   simp [Lit.wf,IntKind.min,IntKind.max,IntKind.signed,IntKind.bits] at h2
   omega
end
section
variable {H:Type} {enc:TypeId×Value→H} {w:World} {base:Nat} {spare:Nat→Bool} {held:Bool}
theorem Qc {fuel:Nat} {cs:List Value} {x:DataW H×List MemPlace} (h:DataW.trod enc Tryz.prog w base spare held fuel 55 cs=some x) :
 ∃ (a:Option Addr) (xs:List ByteArray) (cap:Nat),cs=[.slice a xs.length cap]∧El w Yd a xs:=by
 rcases Go.Deep.open_strs Tryz.underlying55 Tryz.underlying9 Yr h with ⟨rfl,-⟩ | ⟨a,len,cap,m,Sx,rfl,-,hl,-,hm,-,hc⟩
 ·exact ⟨none,[],0,rfl,.inl rfl⟩
 ·have hlm:len≤m:=by rw [hm]; split <;> omega
  refine ⟨some a,(List.range len).map Sx,cap,by simp, ?_⟩
  by_cases h0:len=0
  ·subst h0; exact .inl rfl
  ·have h1:=(hc 0 (by omega)).1
   obtain ⟨b,o,s⟩:=a
   have hs:s=none:=by
    cases s with
    | none=>rfl
    | some s=>
      rw [show (⟨b,o,some s⟩:Addr).add 0=⟨b,o,some s⟩ from rfl] at h1
      unfold World.cell? at h1
      split at h1
      ·simp at h1
      ·simp at h1
   subst hs
   refine .inr ⟨b,o,rfl,AX w _ h1,fun i y hy=>?_⟩
   rw [Ao] at hy
   by_cases hi:i < len
   ·rw [Do hi] at hy
    injection hy with hy
    subst hy
    have h2:=(hc i (by omega)).1
    have e:(⟨b,o,none⟩:Addr).add i=⟨b,o+i,none⟩:=by
     unfold Addr.add
     split
     ·rename_i h; subst h; rfl
     ·rfl
    rw [e] at h2
    exact h2
   ·rw [AM (by rw [Bz]; omega)] at hy
    cases hy
end
theorem XP {a b:Bool} (ha:a=true) (hb:b=true):(a && b)=true:=by rw [ha,hb]; rfl
end Go.Proofs.YtcglmebcfeoedaaGreatDoor
