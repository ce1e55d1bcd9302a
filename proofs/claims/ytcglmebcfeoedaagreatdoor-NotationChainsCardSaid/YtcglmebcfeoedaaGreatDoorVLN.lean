/- Contracts and laws: VLN. -/
import Derived.Test.YtcglmebcfeoedaaGreatDoorVCF
import Derived.Test.YtcglmebcfeoedaaGreatDoorVKn
import Derived.Test.YtcglmebcfeoedaaGreatDoorVSA
import Derived.Deep.CutRange
import Derived.Deep.CutBlock

set_option maxRecDepth 100000
set_option maxHeartbeats 32000000
namespace Go.Proofs.YtcglmebcfeoedaaGreatDoor
open Go.RowKit Go.Lib
attribute [local go_sem ↓] AA AB
def I0 (n lg le k m:Nat):Prop:=(8 < n∧(n < 60∨62 < n))∨4 < lg∨4 < le∨36 < k∨36 < m
theorem Jl (a:Option Addr) (n c:Nat) (s:Int) (ag ae:Option Addr) (lg cg le ce:Nat) (sh oct:ByteArray) (w:World) (hG:G w) (hEr:Er w) (hmx:∃ m,w.cell? ⟨3,0,none⟩=some (.int .i64 m)) (h:I0 n lg le sh.size oct.size) :
 Calls Tryz.prog 4 #[.agg #[.slice a n c,.int .i64 s,.slice ag lg cg,.slice ae le ce,.string sh,.string oct]] w fun e w'=>e=.returned (.bool true)∧Fr w w':=by
 have hk:=hZ (fun W (hW:Fr w W)=>Id W (hG.fr hW) (hEr.fr hW) (hmx.imp fun m h=>hW.keep h))
 obtain ⟨cb,hcb⟩:∃ cb,cb=w.heap.size:=⟨_,rfl⟩
 obtain ⟨W1,hW1⟩:∃ W1,W1=w.alloc (.cells #[.slice a n c,.int .i64 s,.slice ag lg cg,.slice ae le ce,.string sh,.string oct] 57):=⟨_,rfl⟩
 have f1:Fr w W1:=by rw [hW1]; exact (Fr.refl _).alloc _
 have hL:Dv W1 cb (.slice a n c) (.int .i64 s) (.slice ag lg cg) (.slice ae le ce) (.string sh) (.string oct):=by rw [hW1,hcb]; exact Dv.new w _ _ _ _ _ _ _
 clear hG hmx hEr
 unfold I0 at h
 by_cases h8:8 < n
 ·have d8:decide ((8:Int) < (n:Int))=true:=Ac (by omega)
  by_cases h60:n < 60
  ·have d60:decide ((n:Int) < 60)=true:=Ac (by omega)
   go_enter Tryz.func4,Tryz.ntmps4
   go_upto_region 1 with (fail)
   rw [← hW1,← hcb]
   clear hW1
   replace hcb:=hZ hcb
   go_wp2_with fail
   refine (hk.out _ f1).mono ?_
   rintro e w2 ⟨rfl,hf2⟩
   have f2:=f1.trans hf2
   replace hL:=hL.fr hf2
   obtain ⟨l0,l1,l2,l3,l4,l5⟩:=hL
   go_wp2_with fail
   refine (hk.out _ f2).mono ?_
   rintro e w3 ⟨rfl,hf3⟩
   go_wp2_with fail
   go_ret
   exact ⟨rfl,f2.trans hf3⟩
  ·have d60:decide ((n:Int) < 60)=false:=Aa (by omega)
   by_cases h62:62 < n
   ·have d62:decide ((62:Int) < (n:Int))=true:=Ac (by omega)
    go_enter Tryz.func4,Tryz.ntmps4
    go_upto_region 1 with (fail)
    rw [← hW1,← hcb]
    clear hW1
    replace hcb:=hZ hcb
    go_wp2_with fail
    refine (hk.out _ f1).mono ?_
    rintro e w2 ⟨rfl,hf2⟩
    have f2:=f1.trans hf2
    replace hL:=hL.fr hf2
    obtain ⟨l0,l1,l2,l3,l4,l5⟩:=hL
    go_wp2_with fail
    refine (hk.out _ f2).mono ?_
    rintro e w3 ⟨rfl,hf3⟩
    go_wp2_with fail
    go_ret
    exact ⟨rfl,f2.trans hf3⟩
   ·have d62:decide ((62:Int) < (n:Int))=false:=Aa (by omega)
    by_cases hlg:4 < lg
    ·have dg:decide ((4:Int) < (lg:Int))=true:=Ac (by omega)
     go_enter Tryz.func4,Tryz.ntmps4
     go_upto_region 1 with (fail)
     rw [← hW1,← hcb]
     clear hW1
     replace hcb:=hZ hcb
     go_wp2_with fail
     refine (hk.out _ f1).mono ?_
     rintro e w2 ⟨rfl,hf2⟩
     have f2:=f1.trans hf2
     replace hL:=hL.fr hf2
     obtain ⟨l0,l1,l2,l3,l4,l5⟩:=hL
     go_wp2_with fail
     refine (hk.out _ f2).mono ?_
     rintro e w3 ⟨rfl,hf3⟩
     go_wp2_with fail
     go_ret
     exact ⟨rfl,f2.trans hf3⟩
    ·have dg:decide ((4:Int) < (lg:Int))=false:=Aa (by omega)
     by_cases hle:4 < le
     ·have de:decide ((4:Int) < (le:Int))=true:=Ac (by omega)
      go_enter Tryz.func4,Tryz.ntmps4
      go_upto_region 1 with (fail)
      rw [← hW1,← hcb]
      clear hW1
      replace hcb:=hZ hcb
      go_wp2_with fail
      refine (hk.out _ f1).mono ?_
      rintro e w2 ⟨rfl,hf2⟩
      have f2:=f1.trans hf2
      replace hL:=hL.fr hf2
      obtain ⟨l0,l1,l2,l3,l4,l5⟩:=hL
      go_wp2_with fail
      refine (hk.out _ f2).mono ?_
      rintro e w3 ⟨rfl,hf3⟩
      go_wp2_with fail
      go_ret
      exact ⟨rfl,f2.trans hf3⟩
     ·have de:decide ((4:Int) < (le:Int))=false:=Aa (by omega)
      by_cases hsh:36 < sh.size
      ·have ds:decide ((36:Int) < (sh.size:Int))=true:=Ac (by omega)
       go_enter Tryz.func4,Tryz.ntmps4
       go_upto_region 1 with (fail)
       rw [← hW1,← hcb]
       clear hW1
       replace hcb:=hZ hcb
       go_wp2_with fail
       refine (hk.out _ f1).mono ?_
       rintro e w2 ⟨rfl,hf2⟩
       have f2:=f1.trans hf2
       replace hL:=hL.fr hf2
       obtain ⟨l0,l1,l2,l3,l4,l5⟩:=hL
       go_wp2_with fail
       refine (hk.out _ f2).mono ?_
       rintro e w3 ⟨rfl,hf3⟩
       go_wp2_with fail
       go_ret
       exact ⟨rfl,f2.trans hf3⟩
      ·have ds:decide ((36:Int) < (sh.size:Int))=false:=Aa (by omega)
       have do':decide ((36:Int) < (oct.size:Int))=true:=Ac (by omega)
       go_enter Tryz.func4,Tryz.ntmps4
       go_upto_region 1 with (fail)
       rw [← hW1,← hcb]
       clear hW1
       replace hcb:=hZ hcb
       go_wp2_with fail
       refine (hk.out _ f1).mono ?_
       rintro e w2 ⟨rfl,hf2⟩
       have f2:=f1.trans hf2
       replace hL:=hL.fr hf2
       obtain ⟨l0,l1,l2,l3,l4,l5⟩:=hL
       go_wp2_with fail
       refine (hk.out _ f2).mono ?_
       rintro e w3 ⟨rfl,hf3⟩
       go_wp2_with fail
       go_ret
       exact ⟨rfl,f2.trans hf3⟩
 ·have d8:decide ((8:Int) < (n:Int))=false:=Aa (by omega)
  by_cases hlg:4 < lg
  ·have dg:decide ((4:Int) < (lg:Int))=true:=Ac (by omega)
   go_enter Tryz.func4,Tryz.ntmps4
   go_upto_region 1 with (fail)
   rw [← hW1,← hcb]
   clear hW1
   replace hcb:=hZ hcb
   go_wp2_with fail
   refine (hk.out _ f1).mono ?_
   rintro e w2 ⟨rfl,hf2⟩
   have f2:=f1.trans hf2
   replace hL:=hL.fr hf2
   obtain ⟨l0,l1,l2,l3,l4,l5⟩:=hL
   go_wp2_with fail
   refine (hk.out _ f2).mono ?_
   rintro e w3 ⟨rfl,hf3⟩
   go_wp2_with fail
   go_ret
   exact ⟨rfl,f2.trans hf3⟩
  ·have dg:decide ((4:Int) < (lg:Int))=false:=Aa (by omega)
   by_cases hle:4 < le
   ·have de:decide ((4:Int) < (le:Int))=true:=Ac (by omega)
    go_enter Tryz.func4,Tryz.ntmps4
    go_upto_region 1 with (fail)
    rw [← hW1,← hcb]
    clear hW1
    replace hcb:=hZ hcb
    go_wp2_with fail
    refine (hk.out _ f1).mono ?_
    rintro e w2 ⟨rfl,hf2⟩
    have f2:=f1.trans hf2
    replace hL:=hL.fr hf2
    obtain ⟨l0,l1,l2,l3,l4,l5⟩:=hL
    go_wp2_with fail
    refine (hk.out _ f2).mono ?_
    rintro e w3 ⟨rfl,hf3⟩
    go_wp2_with fail
    go_ret
    exact ⟨rfl,f2.trans hf3⟩
   ·have de:decide ((4:Int) < (le:Int))=false:=Aa (by omega)
    by_cases hsh:36 < sh.size
    ·have ds:decide ((36:Int) < (sh.size:Int))=true:=Ac (by omega)
     go_enter Tryz.func4,Tryz.ntmps4
     go_upto_region 1 with (fail)
     rw [← hW1,← hcb]
     clear hW1
     replace hcb:=hZ hcb
     go_wp2_with fail
     refine (hk.out _ f1).mono ?_
     rintro e w2 ⟨rfl,hf2⟩
     have f2:=f1.trans hf2
     replace hL:=hL.fr hf2
     obtain ⟨l0,l1,l2,l3,l4,l5⟩:=hL
     go_wp2_with fail
     refine (hk.out _ f2).mono ?_
     rintro e w3 ⟨rfl,hf3⟩
     go_wp2_with fail
     go_ret
     exact ⟨rfl,f2.trans hf3⟩
    ·have ds:decide ((36:Int) < (sh.size:Int))=false:=Aa (by omega)
     have do':decide ((36:Int) < (oct.size:Int))=true:=Ac (by omega)
     go_enter Tryz.func4,Tryz.ntmps4
     go_upto_region 1 with (fail)
     rw [← hW1,← hcb]
     clear hW1
     replace hcb:=hZ hcb
     go_wp2_with fail
     refine (hk.out _ f1).mono ?_
     rintro e w2 ⟨rfl,hf2⟩
     have f2:=f1.trans hf2
     replace hL:=hL.fr hf2
     obtain ⟨l0,l1,l2,l3,l4,l5⟩:=hL
     go_wp2_with fail
     refine (hk.out _ f2).mono ?_
     rintro e w3 ⟨rfl,hf3⟩
     go_wp2_with fail
     go_ret
     exact ⟨rfl,f2.trans hf3⟩
theorem Yq {n lg le k m:Nat} (h:¬ I0 n lg le k m):(decide ((8:Int) < (n:Int))=false∨(decide ((8:Int) < (n:Int))=true∧decide ((n:Int) < 60)=false∧decide ((62:Int) < (n:Int))=false)) ∧
 decide ((4:Int) < (lg:Int))=false∧decide ((4:Int) < (le:Int))=false∧decide ((36:Int) < (k:Int))=false∧decide ((36:Int) < (m:Int))=false:=by
 unfold I0 at h
 refine ⟨?_,Aa (by omega),Aa (by omega),Aa (by omega),Aa (by omega)⟩
 by_cases h8:8 < n
 ·exact .inr ⟨Ac (by omega),Aa (by omega),Aa (by omega)⟩
 ·exact .inl (Aa (by omega))
def X8 (s:Int):Int:=if s < -1000∨1000 < s then 3 else 0
def QC (E0 Rg Re:Int) (lg le:Nat):Int:=if E0≠0 then E0 else if Rg≠0 then Rg else if lg≠2 then 5 else if Re≠0 then Re else if le≠2 then 5 else 0
theorem XJ (s:Int) (gs es:List Int):QC (X8 s) (Cx gs) (Cx es) gs.length es.length=ML s gs es:=by
 unfold QC X8 ML CR
 by_cases h1:s < -1000∨1000 < s
 ·rw [Aj h1,Aj h1,Aj (by decide)]
 ·rw [Ai h1,Ai h1,Ai (by simp)]
  by_cases h2:Cx gs=0
  ·rw [Ai (by rw [h2]; simp),Ai (show ¬ Cx gs≠0 by rw [h2]; simp)]
   by_cases h3:gs.length=2
   ·rw [Ai (by rw [h3]; simp),Ai (show ¬ gs.length≠2 by rw [h3]; simp),Ai (show ¬ (0:Int)≠0 by simp)]
   ·rw [Aj h3,Aj h3,Aj (by decide)]
  ·rw [Aj h2,Aj h2,Aj h2]
theorem Jm (a:Option Addr) (n c:Nat) (s:Int) (gs es:List Int) (ag ae:Option Addr) (cg ce:Nat) (sh oct:ByteArray) (w:World) (hG:G w) (hEr:Er w) (hmx:∃ m,w.cell? ⟨3,0,none⟩=some (.int .i64 m))
 (hg:El w iv ag gs) (he:El w iv ae es) (h:¬ I0 n gs.length es.length sh.size oct.size) (h0:ML s gs es≠0) :
 Calls Tryz.prog 4 #[.agg #[.slice a n c,.int .i64 s,.slice ag gs.length cg,.slice ae es.length ce,.string sh,.string oct]] w fun e w'=>e=.returned (.bool true)∧Fr w w':=by
 obtain ⟨hc,dg,de,ds,do'⟩:=Yq h
 have hl4:gs.length≤4∧es.length≤4:=by unfold I0 at h; omega
 have hch:=hZ (fun W (hW:Fr w W)=>S6 a n c s gs es ag ae cg ce sh oct W (hg.fr hW) (he.fr hW) (by omega) (by omega) h0)
 have hcg:=hZ (fun W (hW:Fr w W)=>Df gs ag cg W (hg.fr hW) (by omega))
 have hce:=hZ (fun W (hW:Fr w W)=>Df es ae ce W (he.fr hW) (by omega))
 have hEW:=XJ s gs es
 clear hg he h hl4
 generalize ML s gs es=E at *
 generalize Cx gs=Rg at *
 generalize Cx es=Re at *
 generalize gs.length=lg at *
 generalize es.length=le at *
 have hk:=hZ (fun W (hW:Fr w W)=>Id W (hG.fr hW) (hEr.fr hW) (hmx.imp fun m h=>hW.keep h))
 obtain ⟨cb,hcb⟩:∃ cb,cb=w.heap.size:=⟨_,rfl⟩
 obtain ⟨W1,hW1⟩:∃ W1,W1=w.alloc (.cells #[.slice a n c,.int .i64 s,.slice ag lg cg,.slice ae le ce,.string sh,.string oct] 57):=⟨_,rfl⟩
 have f1:Fr w W1:=by rw [hW1]; exact (Fr.refl _).alloc _
 have hL:Dv W1 cb (.slice a n c) (.int .i64 s) (.slice ag lg cg) (.slice ae le ce) (.string sh) (.string oct):=by rw [hW1,hcb]; exact Dv.new w _ _ _ _ _ _ _
 clear hG hmx hEr
 have hE0:=hZ h0
 clear h0
 replace hEW:=hZ hEW
 go_enter Tryz.func4,Tryz.ntmps4
 go_upto_region 1 with (fail)
 rw [← hW1,← hcb]
 clear hW1
 replace hcb:=hZ hcb
 go_cut [58] from 15 to 58 (fun s58 wc=>s58=.bool false∧Fr W1 wc)
 case first=>
  obtain ⟨l0,l1,l2,l3,l4,l5⟩:=hL
  rcases hc with d8 | ⟨d8,d60,d62⟩
  all_goals
   go_wp2_with fail
   refine (hk.out _ f1).mono ?_
   rintro e w2 ⟨rfl,hf2⟩
   replace l0:=hf2.keep l0
   replace l1:=hf2.keep l1
   replace l2:=hf2.keep l2
   replace l3:=hf2.keep l3
   replace l4:=hf2.keep l4
   replace l5:=hf2.keep l5
   go_wp2_with fail
   go_meet
   case rel=>exact ⟨rfl,hf2⟩
 obtain ⟨rfl,hf2⟩:=hcut
 clear hc dg de ds do'
 obtain ⟨w2,rfl⟩:∃ w2:World,w2=wc:=⟨_,rfl⟩
 have f2:=f1.trans hf2
 replace hL:=hL.fr hf2
 obtain ⟨l0,l1,l2,l3,l4,l5⟩:=hL
 have hLh:=hZ (show Dv w2 cb (.slice a n c) (.int .i64 s) (.slice ag lg cg) (.slice ae le ce) (.string sh) (.string oct) from ⟨l0,l1,l2,l3,l4,l5⟩)
 go_upto_region 4 with (fail)
 obtain ⟨bO,hbO⟩:∃ bO,bO=decide (s < -1000∨1000 < s):=⟨_,rfl⟩
 replace hbO:=hZ hbO
 go_cut [67] from 60 to 67 (fun s67 wc=>s67=.bool bO∧w2=wc)
 case first=>
  by_cases hs1:s < -1000
  ·have d1:decide (s < (-1000:Int))=true:=Ac hs1
   have hc0:=hZ (show true=bO from (hbO.out.trans (Ac (.inl hs1))).symm)
   clear hs1
   go_wp2_with fail
   go_meet
   case rel=>exact ⟨by rw [← hc0.out],rfl⟩
  ·have d1:decide (s < (-1000:Int))=false:=Aa hs1
   by_cases hs2:1000 < s
   ·have d2:decide ((1000:Int) < s)=true:=Ac hs2
    have hc0:=hZ (show true=bO from (hbO.out.trans (Ac (.inr hs2))).symm)
    clear hs1 hs2
    go_wp2_with fail
    go_meet
    case rel=>exact ⟨by rw [← hc0.out],rfl⟩
   ·have d2:decide ((1000:Int) < s)=false:=Aa hs2
    have hc0:=hZ (show false=bO from (hbO.out.trans (Aa (by omega))).symm)
    clear hs1 hs2
    go_wp2_with fail
    go_meet
    case rel=>exact ⟨by rw [← hc0.out],rfl⟩
 obtain ⟨rfl,rfl⟩:=hcut
 go_upto_if 67 with (fail)
 go_cut [3] from 60 to 67 (fun s3 wc=>s3=.int .i64 (X8 s)∧w2=wc)
 case first=>
  cases hb:bO with
  | true=>
    have hc0:=hZ (show X8 s=3 from Aj (Av (hbO.out.symm.trans hb)))
    go_wp2_with fail
    go_meet
    case rel=>exact ⟨by rw [hc0.out],rfl⟩
  | false=>
    have hc0:=hZ (show X8 s=0 from Ai (QQ (hbO.out.symm.trans hb)))
    go_wp2_with fail
    go_meet
    case rel=>exact ⟨by rw [hc0.out],rfl⟩
 obtain ⟨rfl,rfl⟩:=hcut
 obtain ⟨E0,hE0e⟩:∃ E0,E0=X8 s:=⟨_,rfl⟩
 rw [← hE0e]
 replace hE0e:=hZ hE0e
 obtain ⟨W3,hW3⟩:∃ W3,W3=w2.alloc (.cells #[.slice ag lg cg,.slice ae le ce] 44):=⟨_,rfl⟩
 have f23:Fr w2 W3:=by rw [hW3]; exact (Fr.refl _).alloc _
 obtain ⟨tb,htb⟩:∃ tb,tb=w2.heap.size:=⟨_,rfl⟩
 have hT3:Br W3 tb (.slice ag lg cg) (.slice ae le ce):=by rw [hW3,htb]; exact Br.new _ _ _ _
 have t0:=hT3.a
 have t1:=hT3.b
 replace hT3:=hZ hT3
 go_upto_block 0 with (fail)
 rw [← hW3,← htb]
 clear hW3
 replace htb:=hZ htb
 go_cut [3,5] from 75 to 89 (fun s3 s5 wc=>s3=.int .i64 (QC E0 Rg Re lg le)∧s5=.slice ae le ce∧Fr W3 wc)
 case first=>
  clear l0 l1 l2 l3 l4 l5
  go_wp2_with fail
  refine DE 3 ?_
  rw [Bh]
  by_cases hz:E0=0
  ·subst hz
   go_wp2_with fail
   refine (hcg.out _ (f2.trans f23)).mono ?_
   rintro e w4 ⟨rfl,hf4⟩
   have f24:=f23.trans hf4
   replace t0:=hf4.keep t0
   replace t1:=hf4.keep t1
   by_cases hRg:Rg=0
   ·have r1:(Rg == 0)=true:=beq_iff_eq.2 hRg
    by_cases hl2:lg=2
    ·have r2:((lg:Int) != 2)=false:=by rw [hl2]; rfl
     replace hl2:=hZ hl2
     subst hRg
     go_wp2_with fail
     rw [Bh]
     go_wp2_with fail
     refine (hce.out _ (f2.trans f24)).mono ?_
     rintro e w5 ⟨rfl,hf5⟩
     have f35:=hf4.trans hf5
     by_cases hRe:Re=0
     ·have q1:(Re == 0)=true:=beq_iff_eq.2 hRe
      by_cases hl3:le=2
      ·have q2:((le:Int) != 2)=false:=by rw [hl3]; rfl
       replace hl3:=hZ hl3
       have hfin:=hZ (show QC 0 0 Re lg le=Re from by unfold QC; rw [Ai (by simp),Ai (by simp),Ai (by rw [hl2.out]; simp),Ai (by rw [hRe]; simp),Ai (by rw [hl3.out]; simp),hRe])
       clear hRe
       go_wp2_with fail
       rw [Bh]
       go_wp2_with fail
       go_meet
       case rel=>exact ⟨by rw [hfin.out],rfl,f35⟩
      ·have q2:((le:Int) != 2)=true:=Bl.2 (by omega)
       have hfin:=hZ (show QC 0 0 Re lg le=5 from by unfold QC; rw [Ai (by simp),Ai (by simp),Ai (by rw [hl2.out]; simp),Ai (by rw [hRe]; simp),Aj hl3])
       clear hRe
       go_wp2_with fail
       rw [Bh]
       go_wp2_with fail
       go_meet
       case rel=>exact ⟨by rw [hfin.out],rfl,f35⟩
     ·have q1:(Re == 0)=false:=Ay hRe
      have hfin:=hZ (show QC 0 0 Re lg le=Re from by unfold QC; rw [Ai (by simp),Ai (by simp),Ai (by rw [hl2.out]; simp),Aj hRe])
      clear hRe
      go_wp2_with fail
      rw [Bh]
      go_wp2_with fail
      go_meet
      case rel=>exact ⟨by rw [hfin.out],rfl,f35⟩
    ·have r2:((lg:Int) != 2)=true:=Bl.2 (by omega)
     have hfin:=hZ (show QC 0 Rg Re lg le=5 from by unfold QC; rw [Ai (by simp),Ai (by rw [hRg]; simp),Aj hl2])
     clear hRg
     go_wp2_with fail
     rw [Bh]
     go_wp2_with fail
     rw [Bh]
     go_wp2_with fail
     go_meet
     case rel=>exact ⟨by rw [hfin.out],rfl,hf4⟩
   ·have r1:(Rg == 0)=false:=Ay hRg
    have hfin:=hZ (show QC 0 Rg Re lg le=Rg from by unfold QC; rw [Ai (by simp),Aj hRg])
    clear hRg
    go_wp2_with fail
    rw [Bh]
    go_wp2_with fail
    rw [Bh]
    go_wp2_with fail
    go_meet
    case rel=>exact ⟨by rw [hfin.out],rfl,hf4⟩
  ·have r0:(E0 == 0)=false:=Ay hz
   have hfin:=hZ (show QC E0 Rg Re lg le=E0 from by unfold QC; rw [Aj hz])
   clear hz
   go_wp2_with fail
   rw [Bh]
   go_wp2_with fail
   rw [Bh]
   go_wp2_with fail
   go_meet
   case rel=>exact ⟨by rw [hfin.out],rfl,Fr.refl _⟩
 obtain ⟨rfl,rfl,hf3c⟩:=hcut
 rw [hE0e.out,hEW.out]
 obtain ⟨w3,rfl⟩:∃ w3:World,w3=wc:=⟨_,rfl⟩
 obtain ⟨W4,hW4⟩:∃ W4,W4=w3.alloc (.cells #[.slice none 0 0,.slice none 0 0] 31):=⟨_,rfl⟩
 have f24:Fr w2 W4:=by rw [hW4]; exact (f23.trans hf3c).alloc _
 have hL4:=hLh.out.fr f24
 clear l0 l1 l2 l3 l4 l5 t0 t1
 obtain ⟨l0,l1,l2,l3,l4,l5⟩:=hL4
 have qE:(E == 0)=false:=Ay hE0.out
 have qN:(E != 0)=true:=Bl.2 hE0.out
 have qEE:(E == E)=true:=FH _
 have hch4:=hZ (hch.out _ (f2.trans f24))
 have hF4:=f2.trans f24
 go_wp2_with fail
 rw [← hW4]
 clear hW4
 refine DE 1 ?_
 rw [Bh]
 go_wp2_with fail
 all_goals
  refine hch4.out.mono ?_
  rintro e w5 ⟨rfl,hf5⟩
  obtain ⟨W6,hW6⟩:∃ W6,W6=w5.alloc (.cells #[.slice none 0 0,.slice none 0 0] 31):=⟨_,rfl⟩
  have f56:Fr w5 W6:=by rw [hW6]; exact (Fr.refl _).alloc _
  obtain ⟨nb,hnb⟩:∃ nb,nb=w5.heap.size:=⟨_,rfl⟩
  have hC6:Br W6 nb (.slice none 0 0) (.slice none 0 0):=by rw [hW6,hnb]; exact Br.new _ _ _ _
  go_upto_region 26 with (fail)
  rw [← hW6,← hnb]
  clear hW6
  replace hnb:=hZ hnb
  have n0:=hC6.a
  have n1:=hC6.b
  replace hC6:=hZ hC6
  go_wp2_with fail
  go_ret
  exact ⟨rfl,(hF4.trans hf5).trans f56⟩
theorem MA.fx2 {p:Nat→Prop} {w w':World} {b o:Nat} {xs:List (Value×Value)} (h:MA w (some ⟨b,o,none⟩) xs) (k:Fx p w w') (hp:¬ p b):MA w' (some ⟨b,o,none⟩) xs:=by
 rcases h with h | ⟨b',o',e,hb,hc⟩
 ·exact .inl h
 ·injection e with e
  injection e with e1 e2
  subst e1; subst e2
  exact .inr ⟨b,o,rfl,An hb k.size,fun i z hz=>⟨k.keep (hc i z hz).1 hp,k.keep (hc i z hz).2 hp⟩⟩
theorem OD (L1 L2:List Sy) (a1 a2:Option Addr) (c1 c2 n:Nat) (w:World) (h1:Gn w a1 L1) (h2:Gn w a2 L2) (hb:Cd L1=Cd L2) (l1:L1.length=n) (l2:L2.length=n) (hl:n≤1000000) (hr:∀ x,x ∈ L1→x.row.length≤1000000000) :
 Calls Tryz.prog 20 #[.slice a1 n c1,.slice a2 n c2] w fun e w'=>e=.returned (.bool true)∧Fr w w':=by
 have h:=P5 L1 L2 a1 a2 c1 c2 w h1 h2 hb (by omega) hr
 rw [l1,l2] at h
 exact h
theorem SI {names:List ByteArray} {s g0 g1:Int} {L:List Sy} (h:Cd L=Dd names s g0 g1) {x:Sy} (hx:x ∈ L):x.row.length≤1000000000:=by
 obtain ⟨i,hi,e⟩:=Dn (Gd h hx)
 have hi2:i < names.length:=by rw [EC] at hi; exact hi
 have e2:=Gc (s:=s) (g0:=g0) (g1:=g1) (Ab hi2)
 rw [Ab hi,e] at e2
 injection e2 with e2
 injection e2 with _ e3
 rw [e3]; simp [Bw]
theorem VU {w:World} {b ga go gc ea eo ec:Nat} {g0 g1 e0 e1:Int} (h:Br w b (.slice (some ⟨ga,go,none⟩) 2 gc) (.slice (some ⟨ea,eo,none⟩) 2 ec)) (hg:El w iv (some ⟨ga,go,none⟩) [g0,g1]) (he:El w iv (some ⟨ea,eo,none⟩) [e0,e1]):BT w (some ⟨b,0,none⟩) [[g0,g1],[e0,e1]] :=
 .inr ⟨b,0,rfl,h.lt,fun i xs hx=>by
  match i,hx with
  | 0,hx=>injection hx with hx; subst hx; exact ⟨_,_,h.a,hg⟩
  | 1,hx=>injection hx with hx; subst hx; exact ⟨_,_,h.b,he⟩⟩
theorem IP (names:List ByteArray) (a:Option Addr) (c:Nat) (s g0 g1 e0 e1:Int) (gb go cg eb eo ce:Nat) (sh oct:ByteArray) (w:World) (hG:G w) (hEr:Er w) (hmx:∃ m,w.cell? ⟨3,0,none⟩=some (.int .i64 m))
 (hx:El w X6 a names) (hg:El w iv (some ⟨gb,go,none⟩) [g0,g1]) (he:El w iv (some ⟨eb,eo,none⟩) [e0,e1]) (h:¬ I0 names.length 2 2 sh.size oct.size) (h0:ML s [g0,g1] [e0,e1]=0) :
 Calls Tryz.prog 4 #[.agg #[.slice a names.length c,.int .i64 s,.slice (some ⟨gb,go,none⟩) 2 cg,.slice (some ⟨eb,eo,none⟩) 2 ce,.string sh,.string oct]] w fun e w'=>e=.returned (.bool true)∧Fr w w':=by
 obtain ⟨hc,dg,de,ds,do'⟩:=Yq h
 have hgn:=CS hG
 obtain ⟨i1,ji,jz0,jz1,jz2⟩:=AQ JK
 have hsr:¬ (s < -1000∨1000 < s):=fun h9=>by unfold ML at h0; rw [Aj h9] at h0; cases h0
 have hlg0:CR [g0,g1]=0:=by
  unfold ML at h0; rw [Ai hsr] at h0
  by_cases h9:CR [g0,g1]=0
  ·exact h9
  ·rw [Aj h9] at h0; exact h0
 have hle0:CR [e0,e1]=0:=by
  unfold ML at h0; rw [Ai hsr,Ai (by rw [hlg0]; simp)] at h0; exact h0
 obtain ⟨hrg,-,-⟩:=Ic hlg0
 obtain ⟨hre,-,-⟩:=Ic hle0
 have hfg0:=(FU hrg).2
 have hfg:Hid ((-1000000000≤g0∧g0≤1000000000)∧-1000000000≤g1∧g1≤1000000000):=hZ ⟨Av (hfg0 g0 (by simp)),Av (hfg0 g1 (by simp))⟩
 have hcg:=hZ (fun W (hW:Fr w W)=>Df [g0,g1] (some ⟨gb,go,none⟩) cg W (hg.fr hW) (by simp))
 have hce:=hZ (fun W (hW:Fr w W)=>Df [e0,e1] (some ⟨eb,eo,none⟩) ce W (he.fr hW) (by simp))
 rw [hrg] at hcg
 rw [hre] at hce
 have hGf:=hZ (fun W (hW:Fr w W)=>hG.fr hW)
 obtain ⟨n,hn⟩:∃ n,n=names.length:=⟨_,rfl⟩
 rw [← hn] at h hc ⊢
 have h62:Hid (n≤62):=hZ (by unfold I0 at h; omega)
 have ho36:Hid (sh.size≤36∧oct.size≤36):=hZ (by unfold I0 at h; omega)
 have hss:Hid (-1000≤s∧s≤1000):=hZ (by omega)
 have d1:decide (s < (-1000:Int))=false:=Aa (by omega)
 have d2:decide ((1000:Int) < s)=false:=Aa (by omega)
 have hk0:Hid (w.cell? ⟨gb,go,none⟩=some (.int .i64 g0)):=hZ (by
  rcases hg with h | ⟨b,o,h1,-,h2⟩
  ·cases h
  ·injection h1 with h1; injection h1 with h3 h4; subst h3; subst h4; exact h2 0 g0 rfl)
 have hk1:Hid (w.cell? ⟨gb,go+1,none⟩=some (.int .i64 g1)):=hZ (by
  rcases hg with h | ⟨b,o,h1,-,h2⟩
  ·cases h
  ·injection h1 with h1; injection h1 with h3 h4; subst h3; subst h4; exact h2 1 g1 rfl)
 have hgbw:gb < w.heap.size:=AX _ _ hk0.out
 have hebw:eb < w.heap.size:=by
  rcases he with h | ⟨b,o,h1,h2,-⟩
  ·cases h
  ·injection h1 with h1; injection h1 with h3 h4; subst h3; exact h2
 clear hfg0 hrg hre hsr h0
 have hk:=hZ (fun W (hW:Fr w W)=>Id W (hG.fr hW) (hEr.fr hW) (hmx.imp fun m h=>hW.keep h))
 obtain ⟨cb,hcb⟩:∃ cb,cb=w.heap.size:=⟨_,rfl⟩
 obtain ⟨W1,hW1⟩:∃ W1,W1=w.alloc (.cells #[.slice a n c,.int .i64 s,.slice (some ⟨gb,go,none⟩) 2 cg,.slice (some ⟨eb,eo,none⟩) 2 ce,.string sh,.string oct] 57):=⟨_,rfl⟩
 have f1:Fr w W1:=by rw [hW1]; exact (Fr.refl _).alloc _
 have hL:Dv W1 cb (.slice a n c) (.int .i64 s) (.slice (some ⟨gb,go,none⟩) 2 cg) (.slice (some ⟨eb,eo,none⟩) 2 ce) (.string sh) (.string oct):=by rw [hW1,hcb]; exact Dv.new w _ _ _ _ _ _ _
 clear hG hmx hEr h
 replace hn:=hZ hn
 replace hx:=hZ hx
 replace hg:=hZ hg
 replace he:=hZ he
 replace hlg0:=hZ hlg0
 replace hle0:=hZ hle0
 go_enter Tryz.func4,Tryz.ntmps4
 go_upto_region 1 with (fail)
 rw [← hW1,← hcb]
 clear hW1
 replace hcb:=hZ hcb
 go_cut [58] from 15 to 58 (fun s58 wc=>s58=.bool false∧Fr W1 wc)
 case first=>
  obtain ⟨l0,l1,l2,l3,l4,l5⟩:=hL
  rcases hc with d8 | ⟨d8,d60,d62⟩
  all_goals
   go_wp2_with fail
   refine (hk.out _ f1).mono ?_
   rintro e w2 ⟨rfl,hf2⟩
   replace l0:=hf2.keep l0
   replace l1:=hf2.keep l1
   replace l2:=hf2.keep l2
   replace l3:=hf2.keep l3
   replace l4:=hf2.keep l4
   replace l5:=hf2.keep l5
   go_wp2_with fail
   go_meet
   case rel=>exact ⟨rfl,hf2⟩
 obtain ⟨rfl,hf2⟩:=hcut
 clear hc dg de ds do'
 obtain ⟨w2,rfl⟩:∃ w2:World,w2=wc:=⟨_,rfl⟩
 have f2:=f1.trans hf2
 replace hL:=hL.fr hf2
 obtain ⟨l0,l1,l2,l3,l4,l5⟩:=hL
 have hLh:=hZ (show Dv w2 cb (.slice a n c) (.int .i64 s) (.slice (some ⟨gb,go,none⟩) 2 cg) (.slice (some ⟨eb,eo,none⟩) 2 ce) (.string sh) (.string oct) from ⟨l0,l1,l2,l3,l4,l5⟩)
 obtain ⟨W3,hW3⟩:∃ W3,W3=w2.alloc (.cells #[.slice (some ⟨gb,go,none⟩) 2 cg,.slice (some ⟨eb,eo,none⟩) 2 ce] 44):=⟨_,rfl⟩
 have f23:Fr w2 W3:=by rw [hW3]; exact (Fr.refl _).alloc _
 obtain ⟨tb,htb⟩:∃ tb,tb=w2.heap.size:=⟨_,rfl⟩
 have hT3:Br W3 tb (.slice (some ⟨gb,go,none⟩) 2 cg) (.slice (some ⟨eb,eo,none⟩) 2 ce):=by rw [hW3,htb]; exact Br.new _ _ _ _
 have t0:=hT3.a
 have t1:=hT3.b
 replace hT3:=hZ hT3
 go_wp2_with fail
 rw [← hW3,← htb]
 clear hW3
 replace htb:=hZ htb
 refine DE 3 ?_
 rw [Bh]
 go_wp2_with fail
 refine (hcg.out _ (f2.trans f23)).mono ?_
 rintro e w4 ⟨rfl,hf4⟩
 have f24:=f23.trans hf4
 replace t0:=hf4.keep t0
 replace t1:=hf4.keep t1
 go_wp2_with fail
 rw [Bh]
 go_wp2_with fail
 refine (hce.out _ (f2.trans f24)).mono ?_
 rintro e w5 ⟨rfl,hf5⟩
 have f25:=f24.trans hf5
 clear t0 t1
 go_wp2_with fail
 rw [Bh]
 obtain ⟨W6,hW6⟩:∃ W6,W6=w5.alloc (.cells #[.slice none 0 0,.slice none 0 0] 31):=⟨_,rfl⟩
 have f56:Fr w5 W6:=by rw [hW6]; exact (Fr.refl _).alloc _
 obtain ⟨db,hdb⟩:∃ db,db=w5.heap.size:=⟨_,rfl⟩
 have hcn:Br W6 db (.slice none 0 0) (.slice none 0 0):=by rw [hW6,hdb]; exact Br.new _ _ _ _
 have hz6:W6.heap.size=db+1:=by rw [hW6,hdb,AK]
 have f06:=(f2.trans f25).trans f56
 have hL6:=hZ (hLh.out.fr (f25.trans f56))
 have hcbd:cb < db:=by have h1:=hLh.out.c0; have h2:=AX _ _ h1; have h3:=f25.size; have h2:cb < w2.heap.size:=h2; omega
 have hwd:w.heap.size≤db:=by have:=(f2.trans f25).size; omega
 have hgbd:Hid (gb < db∧eb < db):=hZ (by omega)
 clear l0 l1 l2 l3 l4 l5
 obtain ⟨l0,l1,l2,l3,l4,l5⟩:=hL6.out
 go_wp2_with fail
 rw [← hW6,← hdb]
 clear hW6 hLh hT3
 replace hdb:=hZ hdb
 replace hz6:=hZ hz6
 replace hcn:=hZ hcn
 go_loopg [7] n (fun k s7 wr=>∃ (i:Nat) (L:List Sy) (v:Value),s7=.int .i64 i∧i+k=n∧Fx (·=db) W6 wr∧Hid (Br wr db v (.slice none 0 0))∧Hid (Ds wr (db+1) v i L)∧Hid (Cd L=(Dd names s g0 g1).take i)∧Hid (∀ x,x ∈ names.take i→x.size≤36))
 case atStart=>exact ⟨0,[],_,rfl,by omega,Fx.refl _ _,hcn.out,Ds.nil _ _,rfl,fun s hs=>by simp at hs⟩
 case round=>
  clear hcn l0 l1 l2 l3 l4 l5
  obtain ⟨i,L,v,rfl,hik,hfx,hcn,hsy,hba,hsz36⟩:=hrel
  have hFr:Fr w wr:=((Fx.of_fr f06).trans hfx).toFr (fun q hq e=>by have e:q=db:=e; omega)
  obtain ⟨l0,l1,l2,l3,l4,l5⟩:Dv wr cb (.slice a n c) (.int .i64 s) (.slice (some ⟨gb,go,none⟩) 2 cg) (.slice (some ⟨eb,eo,none⟩) 2 ce) (.string sh) (.string oct):=by
   obtain ⟨l0,l1,l2,l3,l4,l5⟩:=hL6.out
   have hne:∀ j:Nat,¬ ((⟨cb,j,none⟩:Addr).block=db):=fun j e=>by have e:cb=db:=e; omega
   exact ⟨hfx.keep l0 (hne 0),hfx.keep l1 (hne 1),hfx.keep l2 (hne 2),hfx.keep l3 (hne 3),hfx.keep l4 (hne 4),hfx.keep l5 (hne 5)⟩
  have m0:=hFr.keep hk0.out
  have m1:=hFr.keep hk1.out
  by_cases hi:i < n
  ·
   have hdI:decide (i < n)=true:=Ac hi
   obtain ⟨b,o,nm,rfl,hbl,hxi,hcell⟩:=(hx.out.fr hFr).at (i:=i) (by rw [← hn.out]; exact hi)
   have hn62:n≤62:=h62.out
   have z0:(0:Int)≤(i:Int):=Af _
   have z1:(i:Int) < (n:Int):=by omega
   have hsn:=hZ (Bx (Gc (s:=s) (g0:=g0) (g1:=g1) hxi))
   have hsn2:=hZ (Bx hxi)
   have hbd:b < db:=by
    obtain ⟨b',o',x',e',h',-⟩:=hx.out.at (i:=i) (by rw [← hn.out]; exact hi)
    injection e' with e'; injection e' with e1 e2
    omega
   replace hxi:=hZ hxi
   by_cases h36:36 < nm.size
   ·have d36:decide ((36:Int) < (nm.size:Int))=true:=Ac (by omega)
    go_wp2_with fail
    go_ret
    exact ⟨rfl,hFr⟩
   ·have d36:decide ((36:Int) < (nm.size:Int))=false:=Aa (by omega)
    have hst:=hss.out
    have hwr:IntKind.i64.wrap (s+(i:Int))=s+i:=Al _ (by omega)
    have hb0:=Iz (k:=s+i) (x:=g0) (by omega) (by omega) hfg.out.1.1 hfg.out.1.2
    have hb1:=Iz (k:=s+i) (x:=g1) (by omega) (by omega) hfg.out.2.1 hfg.out.2.2
    have hw0:IntKind.i64.wrap ((s+(i:Int)) * g0)=(s+i) * g0:=Al _ (by omega)
    have hw1:IntKind.i64.wrap ((s+(i:Int)) * g1)=(s+i) * g1:=Al _ (by omega)
    have hts:Hid (Bw (s+i) g0 g1=[(s+i) * g0,(s+i) * g1]):=GR (by omega) (by omega)
    obtain ⟨wo,rfl⟩:∃ wo:World,wo=wr:=⟨_,rfl⟩
    have nv:=hcn.out.a
    have nf:=hcn.out.fa
    have hS0:=hZ (fun W' (hW':Fr wo W')=>(⟨hW'.keep nv,hW'.keep l0,hW'.keep hcell,hW'.keep l1,hW'.keep l2,hW'.keep m0,hW'.keep m1⟩:W'.cell? ⟨db,0,none⟩=some v∧W'.cell? ⟨cb,0,none⟩=some (.slice (some ⟨b,o,none⟩) n c)∧W'.cell? ⟨b,o+i,none⟩=some (.string nm)∧W'.cell? ⟨cb,1,none⟩=some (.int .i64 s)∧W'.cell? ⟨cb,2,none⟩=some (.slice (some ⟨gb,go,none⟩) 2 cg)∧W'.cell? ⟨gb,go,none⟩=some (.int .i64 g0)∧W'.cell? ⟨gb,go+1,none⟩=some (.int .i64 g1)))
    have hvb:Hid (∀ q,v.ownBlock=some q→db+1≤q∧q < wo.heap.size):=hsy.out.own.lt
    clear hb0 hb1 hst h36 m0 m1 l3 l4 l5
    go_wp2_with fail
    refine BP (S:=fun W'=>W'.cell? ⟨db,0,none⟩=some v∧W'.cell? ⟨cb,0,none⟩=some (.slice (some ⟨b,o,none⟩) n c)∧W'.cell? ⟨b,o+i,none⟩=some (.string nm)∧W'.cell? ⟨cb,1,none⟩=some (.int .i64 s)∧W'.cell? ⟨cb,2,none⟩=some (.slice (some ⟨gb,go,none⟩) 2 cg)∧W'.cell? ⟨gb,go,none⟩=some (.int .i64 g0)∧W'.cell? ⟨gb,go+1,none⟩=some (.int .i64 g1)) 30 (by kernel_rfl) (hS0.out _ ((Fr.refl _).drew)) (fun hHeld=>?_)
    refine uM 0 108 ?_; try simp only [BL,BV,BU]
    refine uM 1 109 ?_; try simp only [BL,BV,BU]
    refine uM 2 110 ?_; try simp only [BL,BV,BU]
    refine uM 3 111 ?_; try simp only [BL,BV,BU]
    refine uM 4 112 ?_; try simp only [BL,BV,BU]
    refine uM 5 113 ?_; try simp only [BL,BV,BU]
    refine uM 6 114 ?_; try simp only [BL,BV,BU]
    refine uM 7 115 ?_; try simp only [BL,BV,BU]
    refine uM 8 116 ?_; try simp only [BL,BV,BU]
    refine uM 9 117 ?_; try simp only [BL,BV,BU]
    refine uM 10 118 ?_; try simp only [BL,BV,BU]
    refine uM 11 119 ?_; try simp only [BL,BV,BU]
    refine uM 12 120 ?_; try simp only [BL,BV,BU]
    refine uM 13 121 ?_; try simp only [BL,BV,BU]
    refine uM 14 122 ?_; try simp only [BL,BV,BU]
    refine uM 15 123 ?_; try simp only [BL,BV,BU]
    refine uM 16 124 ?_; try simp only [BL,BV,BU]
    refine uM 17 125 ?_; try simp only [BL,BV,BU]
    refine uM 18 126 ?_; try simp only [BL,BV,BU]
    refine uM 19 127 ?_; try simp only [BL,BV,BU]
    refine uM 20 128 ?_; try simp only [BL,BV,BU]
    refine uM 21 129 ?_; try simp only [BL,BV,BU]
    refine uM 22 130 ?_; try simp only [BL,BV,BU]
    refine uM 23 131 ?_; try simp only [BL,BV,BU]
    refine uM 24 132 ?_; try simp only [BL,BV,BU]
    refine uC 25 (fun K hK=>?_)
    go_simp
    refine hK.out _ _ (hS0.out _ (by exact BR)) (fun hHeld=>?_)
    clear hK K
    try simp only [Act.put,BL]
    refine uM 26 134 ?_; try simp only [BL,BV,BU]
    refine uC 27 (fun K hK=>?_)
    go_simp
    refine hK.out _ _ (hS0.out _ (by exact BR)) (fun hHeld=>?_)
    clear hK K
    try simp only [Act.put,BL]
    have hs3:=hfx.size
    have hf7:Fr wo ((wo.alloc (.cells #[.int .i64 ((s+i) * g0),.int .i64 ((s+i) * g1)] 3)).alloc (.cells #[.string nm,.slice (some ⟨wo.heap.size,0,none⟩) 2 2] 46)).drew:=(((Fr.refl _).alloc _).alloc _).drew
    have hel:El ((wo.alloc (.cells #[.int .i64 ((s+i) * g0),.int .i64 ((s+i) * g1)] 3)).alloc (.cells #[.string nm,.slice (some ⟨wo.heap.size,0,none⟩) 2 2] 46)).drew iv (some ⟨wo.heap.size,0,none⟩) [(s+i) * g0,(s+i) * g1]:=(El.two' wo _ _ 3).fr (((Fr.refl _).alloc _).drew)
    have hcs:∀ (j:Nat) (u:Value),[Value.string nm,.slice (some ⟨wo.heap.size,0,none⟩) 2 2][j]?=some u→((wo.alloc (.cells #[.int .i64 ((s+i) * g0),.int .i64 ((s+i) * g1)] 3)).alloc (.cells #[.string nm,.slice (some ⟨wo.heap.size,0,none⟩) 2 2] 46)).drew.cell? ((⟨wo.heap.size+1,0,none⟩:Addr).add j)=some u:=fun j u hj=>
     (Fr.refl _).drew.keep (FW (wo.alloc (.cells #[.int .i64 ((s+i) * g0),.int .i64 ((s+i) * g1)] 3)) (.string nm) (.slice (some ⟨wo.heap.size,0,none⟩) 2 2) 46 (wo.heap.size+1) (by simp) j u hj)
    have hsz7:((wo.alloc (.cells #[.int .i64 ((s+i) * g0),.int .i64 ((s+i) * g1)] 3)).alloc (.cells #[.string nm,.slice (some ⟨wo.heap.size,0,none⟩) 2 2] 46)).drew.heap.size=wo.heap.size+2:=by simp
    generalize ((wo.alloc (.cells #[.int .i64 ((s+i) * g0),.int .i64 ((s+i) * g1)] 3)).alloc (.cells #[.string nm,.slice (some ⟨wo.heap.size,0,none⟩) 2 2] 46)).drew=W7 at *
    have hsy7:=hsy.out.fr hf7
    have hown7:=hsy7.own
    have hdw:db < wo.heap.size:=hcn.out.lt
    have hSA:Hid (∀ wA,W7.grownBy wA v.ownBlock→(wA.cell? ⟨db,0,none⟩=some v∧wA.cell? ⟨cb,0,none⟩=some (.slice (some ⟨b,o,none⟩) n c)∧wA.cell? ⟨b,o+i,none⟩=some (.string nm)∧wA.cell? ⟨cb,1,none⟩=some (.int .i64 s)∧wA.cell? ⟨cb,2,none⟩=some (.slice (some ⟨gb,go,none⟩) 2 cg)∧wA.cell? ⟨gb,go,none⟩=some (.int .i64 g0)∧wA.cell? ⟨gb,go+1,none⟩=some (.int .i64 g1))∧wA.frozen? ⟨db,0,none⟩=false):=fun wA hgr=>by
     have hk:=fun (q:Addr) (u:Value) (hq:W7.cell? q=some u) (hlt:q.block < db+1)=>(Fx.of_grown hgr).keep (q:=q) hq (fun e=>by have e1:db+1≤q.block:=(hvb.out q.block e).1; omega)
     obtain ⟨p0,p1,p2,p3,p4,p5,p6⟩:=hS0.out W7 hf7
     have hgd:=hgbd.out
     exact ⟨⟨hk _ _ p0 (by show db < db+1; omega),hk _ _ p1 (by show cb < db+1; omega),hk _ _ p2 (by show b < db+1; omega),hk _ _ p3 (by show cb < db+1; omega),hk _ _ p4 (by show cb < db+1; omega),hk _ _ p5 (by show gb < db+1; omega),hk _ _ p6 (by show gb < db+1; omega)⟩,
      (Fx.of_grown hgr).keepf (q:=⟨db,0,none⟩) (hf7.keep nv) (hf7.keepf nv nf) (fun e=>by have e1:db+1≤db:=(hvb.out db e).1; omega)⟩
    replace hsy7:=hZ hsy7
    replace hcs:=hZ hcs
    replace hel:=hZ hel
    refine uC 28 (fun K hK=>?_)
    (refine En _ rfl (.tmp 109) (.tmp 135) 29 rfl (db+1) 46 i1 _ 2 40 Tryz.underlying29 ji jz0 jz1 jz2 rfl (by decide) v i (Ch (L.map Sy.enc)) (by simp [Act.eval]) hown7 ⟨wo.heap.size+1,0,none⟩ 1 1 [.string nm,.slice (some ⟨wo.heap.size,0,none⟩) 2 2] (by simp [Act.eval]) rfl hcs.out (by simp [Value.oneCell']) (by decide) (by unfold maxLen; omega) (by omega) (by omega) (wo.heap.size+2) hsz7 ?_; intro gA capA wA hownA hgrowA hatA hltA)
    refine hK.out _ _ ((hSA.out wA hgrowA).1) (fun hHeld=>?_)
    clear hK K
    try simp only [Act.put,BL]
    have p3:=(hSA.out wA hgrowA).2
    replace hownA:=hZ hownA
    refine uM 29 137 ?_; try simp only [BL,BV,BU]
    have p1:=hHeld.1
    clear hHeld
    refine uL 30 (fun K hK=>?_)
    go_simp
    refine hK.out _ _ ?_
    clear hK K
    have hpush:=hsy7.out.push (x:=⟨nm,Bw (s+i) g0 g1,some ⟨wo.heap.size,0,none⟩,2⟩) rfl (by omega) (by omega) (fun e=>by have:=(hvb.out _ e).2; omega) (by show El _ _ _ (Bw _ _ _); rw [hts.out]; exact hel.out) hownA.out hgrowA (hatA.imp id (fun e k hk=>by have hk:some gA=some k:=hk; injection hk with hk; rw [← hk,e]; first | omega | simp))
    have hfx9:Fx (·=db) wA (wA.setCell ⟨db,0,none⟩ (.slice (some ⟨gA,0,none⟩) (i+1) capA)):=Fx.setCell (p:=(·=db)) (q:=⟨db,0,none⟩) (Fx.refl _ wA) (.inl rfl) _
    have hpush2:=hpush.fx hfx9 (fun j hj e=>by have e:j=db:=e; omega)
    have hcn7:Br wA db v (.slice none 0 0):=(hcn.out.fr hf7).fx (Fx.of_grown hgrowA) (fun e=>by have e1:db+1≤db:=(hvb.out db e).1; omega)
    have hcn9:=hcn7.set0 (.slice (some ⟨gA,0,none⟩) (i+1) capA)
    have hfxA:Fx (·=db) W6 wA:=by
     have h1:=(hfx.fr hf7)
     have h2:=Fx.of_grown hgrowA
     have h5:=hz6.out
     exact ⟨h2.os.trans h1.os,h2.tape.trans h1.tape,h2.output.trans h1.output,AE h1.size h2.size,fun q hq1 hq2=>by
      have h3:=h1.size
      rw [h2.block q (An hq1 h3) (fun e=>by have e1:=(hvb.out q e).1; omega)]
      exact h1.block q hq1 hq2⟩
    have hsz9:Hid (∀ s',s' ∈ names.take (i+1)→s'.size≤36):=fun s' hs'=>by
     rw [hsn2.out] at hs'
     rcases A5.1 hs' with h9 | h9
     ·exact hsz36.out s' h9
     ·rw [Bo] at h9; rw [h9]
      have:=QQ d36
      omega
    go_wp2_with fail
    go_roundg (gk - 1)
    case measure=>omega
    case rel=>exact ⟨i+1,_,_,by go_num,by omega,hfxA.trans hfx9,hcn9,hpush2,by show Cd _=_; rw [hsn.out,← hba.out]; unfold Cd; rw [Aw]; rfl,hsz9⟩
  ·
   have hdI:decide (i < n)=false:=Aa hi
   obtain rfl:n=i:=by omega
   have hba9:Hid (Cd L=Dd names s g0 g1):=by
    have:=hba.out
    rw [Ak (by rw [EC,← hn.out]; exact Ag _)] at this
    exact this
   have h36:∀ x,x ∈ names→x.size≤36:=by
    have:=hsz36.out
    rw [Ak (by rw [← hn.out]; exact Ag _)] at this
    exact this
   obtain ⟨r,hr1,hr2,hr3⟩:=Wg n h62.out g0 g1 hle0.out
   have hOk:Hid (HI names s g0 g1 e0 e1 sh oct n r):=hZ ⟨hn.out,h62.out,hss.out.1,hss.out.2,hle0.out,ho36.out.1,ho36.out.2,h36,hr1,hr2,hr3⟩
   clear hr1 hr2 hr3 h36
   obtain ⟨aL,cL,rfl,-⟩:=hsy.out.syms
   have h62':=h62.out
   have hb0:=Iz (k:=n) (x:=g0) (by omega) (by omega) hfg.out.1.1 hfg.out.1.2
   have hb1:=Iz (k:=n) (x:=g1) (by omega) (by omega) hfg.out.2.1 hfg.out.2.2
   have hw0:IntKind.i64.wrap ((n:Int) * g0)=n * g0:=Al _ (by omega)
   have hw1:IntKind.i64.wrap ((n:Int) * g1)=n * g1:=Al _ (by omega)
   have hts:Hid (Bw n g0 g1=[(n:Int) * g0,(n:Int) * g1]):=GR (by omega) (by omega)
   obtain ⟨wo,rfl⟩:∃ wo:World,wo=wr:=⟨_,rfl⟩
   have hwo:db < wo.heap.size:=hcn.out.lt
   have hS0:=hZ (fun W' (hW':Fr wo W')=>(⟨hW'.keep l4,hW'.keep l2,hW'.keep m0,hW'.keep m1,hW'.keep l5,hW'.keep l3⟩:W'.cell? ⟨cb,4,none⟩=some (.string sh)∧W'.cell? ⟨cb,2,none⟩=some (.slice (some ⟨gb,go,none⟩) 2 cg)∧W'.cell? ⟨gb,go,none⟩=some (.int .i64 g0)∧W'.cell? ⟨gb,go+1,none⟩=some (.int .i64 g1)∧W'.cell? ⟨cb,5,none⟩=some (.string oct)∧W'.cell? ⟨cb,3,none⟩=some (.slice (some ⟨eb,eo,none⟩) 2 ce)))
   have hLo:=hZ (show Dv wo cb (.slice a n c) (.int .i64 s) (.slice (some ⟨gb,go,none⟩) 2 cg) (.slice (some ⟨eb,eo,none⟩) 2 ce) (.string sh) (.string oct) from ⟨l0,l1,l2,l3,l4,l5⟩)
   have heo:=hZ (he.out.fr hFr)
   clear hb0 hb1 h62' hba hsz36 l1 l2 l3 l4 l5 m0 m1
   go_wp2_with fail
   refine BP (S:=fun W'=>W'.cell? ⟨cb,4,none⟩=some (.string sh)∧W'.cell? ⟨cb,2,none⟩=some (.slice (some ⟨gb,go,none⟩) 2 cg)∧W'.cell? ⟨gb,go,none⟩=some (.int .i64 g0)∧W'.cell? ⟨gb,go+1,none⟩=some (.int .i64 g1)∧W'.cell? ⟨cb,5,none⟩=some (.string oct)∧W'.cell? ⟨cb,3,none⟩=some (.slice (some ⟨eb,eo,none⟩) 2 ce)) 23 (by kernel_rfl) (hS0.out _ ((Fr.refl _).drew)) (fun hHeld=>?_)
   refine uM 0 143 ?_; try simp only [BL,BV,BU]
   refine uM 1 144 ?_; try simp only [BL,BV,BU]
   refine uM 2 145 ?_; try simp only [BL,BV,BU]
   refine uM 3 146 ?_; try simp only [BL,BV,BU]
   refine uM 4 147 ?_; try simp only [BL,BV,BU]
   refine uM 5 148 ?_; try simp only [BL,BV,BU]
   refine uM 6 149 ?_; try simp only [BL,BV,BU]
   refine uM 7 150 ?_; try simp only [BL,BV,BU]
   refine uM 8 151 ?_; try simp only [BL,BV,BU]
   refine uM 9 152 ?_; try simp only [BL,BV,BU]
   refine uM 10 153 ?_; try simp only [BL,BV,BU]
   refine uM 11 154 ?_; try simp only [BL,BV,BU]
   refine uM 12 155 ?_; try simp only [BL,BV,BU]
   refine uM 13 156 ?_; try simp only [BL,BV,BU]
   refine uM 16 159 ?_; try simp only [BL,BV,BU]
   refine uM 17 160 ?_; try simp only [BL,BV,BU]
   refine uM 18 161 ?_; try simp only [BL,BV,BU]
   refine uM 19 162 ?_; try simp only [BL,BV,BU]
   refine uM 20 163 ?_; try simp only [BL,BV,BU]
   refine uC 14 (fun K hK=>?_)
   go_simp
   refine hK.out _ _ (hS0.out _ (by exact BR)) (fun hHeld=>?_)
   clear hK K
   try simp only [Act.put,BL]
   refine uM 15 158 ?_; try simp only [BL,BV,BU]
   refine uC 21 (fun K hK=>?_)
   go_simp
   refine hK.out _ _ (hS0.out _ (by exact BR)) (fun hHeld=>?_)
   clear hK K
   try simp only [Act.put,BL]
   refine uM 22 165 ?_; try simp only [BL,BV,BU]
   have f7:Fr wo ((wo.alloc (.cells #[.int .i64 ((n:Int) * g0),.int .i64 ((n:Int) * g1)] 3)).alloc (.cells #[.string sh,.slice (some ⟨wo.heap.size,0,none⟩) 2 2,.string oct,.slice (some ⟨eb,eo,none⟩) 2 ce] 46)).drew:=(((Fr.refl _).alloc _).alloc _).drew
   have hp8:MA ((wo.alloc (.cells #[.int .i64 ((n:Int) * g0),.int .i64 ((n:Int) * g1)] 3)).alloc (.cells #[.string sh,.slice (some ⟨wo.heap.size,0,none⟩) 2 2,.string oct,.slice (some ⟨eb,eo,none⟩) 2 ce] 46)).drew (some ⟨wo.heap.size+1,0,none⟩) [(.string sh,.slice (some ⟨wo.heap.size,0,none⟩) 2 2),(.string oct,.slice (some ⟨eb,eo,none⟩) 2 ce)]:=by
    have hp:=(D5 (xs:=[(.string sh,.slice (some ⟨wo.heap.size,0,none⟩) 2 2),(.string oct,.slice (some ⟨eb,eo,none⟩) 2 ce)]) (EV (wo.alloc (.cells #[.int .i64 ((n:Int) * g0),.int .i64 ((n:Int) * g1)] 3)) (base:=0) (e:=46) (size:=2) #[.string sh,.slice (some ⟨wo.heap.size,0,none⟩) 2 2,.string oct,.slice (some ⟨eb,eo,none⟩) 2 ce] 2 (Bm _) (by decide) rfl)).1
    rw [AK] at hp
    exact hp.fr (Fr.refl _).drew
   have hE8:El ((wo.alloc (.cells #[.int .i64 ((n:Int) * g0),.int .i64 ((n:Int) * g1)] 3)).alloc (.cells #[.string sh,.slice (some ⟨wo.heap.size,0,none⟩) 2 2,.string oct,.slice (some ⟨eb,eo,none⟩) 2 ce] 46)).drew iv (some ⟨wo.heap.size,0,none⟩) (Bw n g0 g1):=by
    rw [hts.out]
    exact (El.two' wo _ _ 3).fr (((Fr.refl _).alloc _).drew)
   have he8:=heo.out.fr f7
   generalize ((wo.alloc (.cells #[.int .i64 ((n:Int) * g0),.int .i64 ((n:Int) * g1)] 3)).alloc (.cells #[.string sh,.slice (some ⟨wo.heap.size,0,none⟩) 2 2,.string oct,.slice (some ⟨eb,eo,none⟩) 2 ce] 46)).drew=W8 at *
   obtain ⟨tbk,htbk⟩:∃ tbk,tbk=wo.heap.size:=⟨_,rfl⟩
   rw [← htbk] at hp8 hE8 ⊢
   have htd:db < tbk:=by rw [htbk]; exact hwo
   replace hp8:=hZ hp8
   replace hE8:=hZ hE8
   replace he8:=hZ he8
   have hc8:=hcn.out.fr f7
   have p1:=hc8.b
   have p3:=hc8.fb
   have hc9:=hc8.set1 (.slice (some ⟨tbk+1,0,none⟩) 2 2)
   replace hc8:=hZ hc8
   replace hc9:=hZ hc9
   clear hHeld
   refine uL 23 (fun K hK=>?_)
   go_simp
   refine hK.out _ _ ?_
   clear hK K
   rw [← htbk]
   replace htbk:=hZ htbk
   have hfx9:Fx (·=db) W8 (W8.setCell ⟨db,1,none⟩ (.slice (some ⟨tbk+1,0,none⟩) 2 2)):=Fx.setCell (p:=(·=db)) (q:=⟨db,1,none⟩) (Fx.refl _ W8) (.inl rfl) _
   have hsy9:=((hsy.out.fr f7).fx hfx9 (fun j hj e=>by have e:j=db:=e; omega))
   obtain ⟨aL',cL',e9,hsL,-⟩:=hsy9.syms
   injection e9 with e9 _ e10
   subst e9
   subst e10
   have hgd:=hgbd.out
   obtain ⟨X,hX⟩:∃ X:List Sy,X=[⟨sh,Bw n g0 g1,some ⟨tbk,0,none⟩,2⟩,⟨oct,[e0,e1],some ⟨eb,eo,none⟩,ce⟩]:=⟨_,rfl⟩
   have hsX:Gn (W8.setCell ⟨db,1,none⟩ (.slice (some ⟨tbk+1,0,none⟩) 2 2)) (some ⟨tbk+1,0,none⟩) X:=by
    refine ⟨?_,fun x hx=>?_⟩
    ·rw [hX]
     exact hp8.out.fx2 hfx9 (fun e=>by have e:tbk+1=db:=e; omega)
    ·rw [hX] at hx
     rcases A1.1 hx with h9 | h9
     ·rw [h9]; exact hE8.out.fx hfx9 (fun e=>by have e:tbk=db:=e; omega)
     ·rw [Bo] at h9
      rw [h9]; exact he8.out.fx hfx9 (fun e=>by have e:eb=db:=e; omega)
   have hbX:Hid (Cd X=[(sh,Bw n g0 g1),(oct,[e0,e1])]):=by show Cd X=_; rw [hX]; rfl
   have hlX:Hid (X.length=2):=by show X.length=2; rw [hX]; rfl
   have hL9:Dv (W8.setCell ⟨db,1,none⟩ (.slice (some ⟨tbk+1,0,none⟩) 2 2)) cb (.slice a n c) (.int .i64 s) (.slice (some ⟨gb,go,none⟩) 2 cg) (.slice (some ⟨eb,eo,none⟩) 2 ce) (.string sh) (.string oct):=by
    obtain ⟨l0,l1,l2,l3,l4,l5⟩:=hLo.out.fr f7
    have hne:∀ j:Nat,¬ ((⟨cb,j,none⟩:Addr).block=db):=fun j e=>by have e:cb=db:=e; omega
    exact ⟨hfx9.keep l0 (hne 0),hfx9.keep l1 (hne 1),hfx9.keep l2 (hne 2),hfx9.keep l3 (hne 3),hfx9.keep l4 (hne 4),hfx9.keep l5 (hne 5)⟩
   have hF9:Fr w (W8.setCell ⟨db,1,none⟩ (.slice (some ⟨tbk+1,0,none⟩) 2 2)):=((Fx.of_fr (hFr.trans f7)).trans hfx9).toFr (fun q hq e=>by have e:q=db:=e; omega)
   clear hX hfx9 hsy9 p1 p3 hc8
   generalize W8.setCell ⟨db,1,none⟩ (.slice (some ⟨tbk+1,0,none⟩) 2 2)=W9 at *
   obtain ⟨E,hE⟩:∃ E,E=Ck L X r:=⟨_,rfl⟩
   have lL:=hOk.out.lenL hba9.out
   have hchk:=hZ (fun W (hW:Fr W9 W)=>hOk.out.check hba9.out hbX.out aL (some ⟨tbk+1,0,none⟩) cL 2 W (hGf.out _ (hF9.trans hW)) ⟨hsL.fr hW,hsX.fr hW,fun e=>by cases e⟩)
   rw [← hE] at hchk
   have hch:=hZ (fun W (hW:Fr W9 W)=>PM names a c r s g0 g1 e0 e1 gb go cg eb eo ce sh oct W (hGf.out _ (hF9.trans hW)) (hx.out.fr (hF9.trans hW)) (by rw [← hn.out]; have:=h62.out; omega) (fun x hx9=>AE (hOk.out.nm36 x hx9) (by decide)) (by have:=ho36.out.1; omega) (by have:=ho36.out.2; omega) hss.out.1 hss.out.2 (hg.out.fr (hF9.trans hW)) (he.out.fr (hF9.trans hW)) hlg0.out hle0.out (by rw [← hn.out]; exact hOk.out.red))
   rw [← hn.out] at hch
   have hEE:Hid (∀ N A,Cd N=Dd names s g0 g1→Cd A=[(sh,Bw n g0 g1),(oct,[e0,e1])]→Ck N A r=E):=fun N A h1 h2=>by rw [hE,F9 N A,F9 L X,h1,h2,hba9.out,hbX.out]
   have hsm1:=hZ (fun (N:List Sy) (aN:Option Addr) (cN:Nat) W (hW:Fr W9 W) (h1:Gn W aN N) (h2:Cd N=Dd names s g0 g1) (h3:N.length=n)=>OD N L aN aL cN cL n W h1 (hsL.fr hW) (h2.trans hba9.out.symm) h3 lL (by have:=h62.out; omega) (fun x hx9=>SI h2 hx9))
   have hsm2:=hZ (fun (A:List Sy) (aA:Option Addr) (cA:Nat) W (hW:Fr W9 W) (h1:Gn W aA A) (h2:Cd A=[(sh,Bw n g0 g1),(oct,[e0,e1])]) (h3:A.length=2)=>OD A X aA (some ⟨tbk+1,0,none⟩) cA 2 2 W h1 (hsX.fr hW) (h2.trans hbX.out.symm) h3 hlX.out (by decide) (fun x hx9=>by
    have:=Gd h2 hx9
    simp only [A1,BB,DF] at this
    rcases this with e | e <;> injection e with _ e <;> rw [e] <;> simp [Bw]))
   have d0:=hc9.out.a
   have d1:=hc9.out.b
   obtain ⟨l0,l1,l2,l3,l4,l5⟩:=hL9
   have hm9:=hZ (hg.out.fr hF9)
   have hm8:=hZ (he.out.fr hF9)
   replace hE:=hZ hE
   replace lL:=hZ lL
   replace hsL:=hZ hsL
   replace hsX:=hZ hsX
   clear hcn hS0 hLo heo hsy hwo hts hgd
   go_wp2_with fail
   refine (hchk.out _ (Fr.refl _)).mono ?_
   rintro e w10 ⟨rfl,hf10⟩
   replace l0:=hf10.keep l0
   replace l1:=hf10.keep l1
   replace l2:=hf10.keep l2
   replace l3:=hf10.keep l3
   replace l4:=hf10.keep l4
   replace l5:=hf10.keep l5
   replace d0:=hf10.keep d0
   replace d1:=hf10.keep d1
   go_wp2_with fail
   refine (hch.out _ hf10).mono ?_
   rintro e w11 ⟨N,A,aN,cN,aA,cA,hbN,hbA,hnt,hcap,hf11,rfl⟩
   have f11:=hf10.trans hf11
   have lN:N.length=n:=by rw [← C0,hbN,EC]; exact hn.out.symm
   have lA:A.length=2:=by rw [← C0,hbA]; rfl
   rw [hEE.out N A hbN hbA,lN,lA]
   replace l2:=hf11.keep l2
   replace l3:=hf11.keep l3
   replace d0:=hf11.keep d0
   replace d1:=hf11.keep d1
   clear hch hchk l0 l1 l4 l5
   by_cases hE0:E=0
   ·
    subst hE0
    rw [Aj rfl]
    have hE9:Ck L X r=0:=hE.out.symm
    obtain ⟨k1,k60,kd,kN,kA⟩:=hOk.out.zero hba9.out hbX.out hE9
    have rN:=hOk.out.rows hbN
    have rA:=(hOk.out.rowsA hbA).2
    have hFw:=hF9.trans f11
    have hUq:=hZ (fun W (hW:Fr w11 W)=>SX aN aA cN cA W (hGf.out _ (hFw.trans hW)) (hnt.fr hW) lN rN rA k1 k60 kd kN kA (fun W' hW'=>by
     have:=hOk.out.ncheck hbN hbA aN aA cN cA W' (hGf.out _ ((hFw.trans hW).trans hW')) (hnt.fr (hW.trans hW'))
     rw [hEE.out N A hbN hbA] at this
     exact this))
    obtain ⟨D,hD1,hD2,hD3⟩:=Wi hlg0.out hle0.out kd
    rw [← hD1] at hUq
    have hdt:=hZ (fun (a:Option Addr) (c:Nat) W (hW:Fr w11 W) (hm:BT W a [[g0,g1],[e0,e1]])=>hD3 a c W (hGf.out _ (hFw.trans hW)) hm)
    have hab:=hZ (fun W=>XT D W (by have:=hD2.size2; omega))
    have hs1:=hZ (fun W (hW:Fr w11 W)=>hsm1.out N aN cN W (f11.trans hW) (hnt.noms.fr hW) hbN lN)
    have hs2:=hZ (fun W (hW:Fr w11 W)=>hsm2.out A aA cA W (f11.trans hW) (hnt.accs.fr hW) hbA lA)
    have hbo:=NJ (D.natAbs:Int)
    obtain ⟨W12,hW12⟩:∃ W12,W12=w11.alloc (.cells #[.slice aN n cN,.slice aA 2 cA] 31):=⟨_,rfl⟩
    have f12:Fr w11 W12:=by rw [hW12]; exact (Fr.refl _).alloc _
    obtain ⟨nb,hnb⟩:∃ nb,nb=w11.heap.size:=⟨_,rfl⟩
    have hC12:Br W12 nb (.slice aN n cN) (.slice aA 2 cA):=by rw [hW12,hnb]; exact Br.new _ _ _ _
    clear hnt hcap hbN hbA lN lA hsm1 hsm2 hEE kN kA rN rA kd hD1 hD2 hD3 hE9
    go_upto_region 26 with (fail)
    rw [← hW12,← hnb]
    clear hW12
    replace hnb:=hZ hnb
    have n0:=hC12.a
    have n1:=hC12.b
    replace hC12:=hZ hC12
    replace l2:=f12.keep l2
    replace l3:=f12.keep l3
    replace d0:=f12.keep d0
    replace d1:=f12.keep d1
    go_wp2_with fail
    refine (hs1.out _ f12).mono ?_
    rintro e w13 ⟨rfl,hf13⟩
    replace n0:=hf13.keep n0
    replace n1:=hf13.keep n1
    replace d1:=hf13.keep d1
    replace l2:=hf13.keep l2
    replace l3:=hf13.keep l3
    have f13:=f12.trans hf13
    go_wp2_with fail
    refine (hs2.out _ f13).mono ?_
    rintro e w14 ⟨rfl,hf14⟩
    replace n0:=hf14.keep n0
    replace n1:=hf14.keep n1
    replace l2:=hf14.keep l2
    replace l3:=hf14.keep l3
    have f14:=f13.trans hf14
    clear d0 d1
    go_wp2_with fail
    refine (hUq.out _ f14).mono ?_
    rintro e w15 ⟨is,q,a1,a2,a3,y1,c1,y2,c2,y3,c3,i,j,f,rfl,hf15,hpost⟩
    have f15:=f14.trans hf15
    obtain ⟨W16,hW16⟩:∃ W16,W16=w15.alloc (.cells #[.bool q,.slice a1 y1 c1,.int .i64 i,.slice a2 y2 c2,.int .i64 j,.slice a3 y3 c3] 64):=⟨_,rfl⟩
    have f16:Fr w15 W16:=by rw [hW16]; exact (Fr.refl _).alloc _
    replace hpost:=hZ hpost
    clear n0 n1
    go_upto_region 31 with (fail)
    rw [← hW16]
    clear hW16
    replace l2:=(hf15.trans f16).keep l2
    replace l3:=(hf15.trans f16).keep l3
    have f16':=f15.trans f16
    obtain ⟨W17,hW17⟩:∃ W17,W17=W16.alloc (.cells #[.slice (some ⟨gb,go,none⟩) 2 cg,.slice (some ⟨eb,eo,none⟩) 2 ce] 44):=⟨_,rfl⟩
    have f17:Fr W16 W17:=by rw [hW17]; exact (Fr.refl _).alloc _
    obtain ⟨mb,hmb⟩:∃ mb,mb=W16.heap.size:=⟨_,rfl⟩
    have hC17:Br W17 mb (.slice (some ⟨gb,go,none⟩) 2 cg) (.slice (some ⟨eb,eo,none⟩) 2 ce):=by rw [hW17,hmb]; exact Br.new _ _ _ _
    have hF17:=f11.trans (f16'.trans f17)
    have hmat:BT W17 (some ⟨mb,0,none⟩) [[g0,g1],[e0,e1]]:=VU hC17 (hm9.out.fr hF17) (hm8.out.fr hF17)
    have hdt1:=hZ (hdt.out (some ⟨mb,0,none⟩) 2 W17 (f16'.trans f17) hmat)
    clear hmat hC17
    go_wp2_with fail
    rw [← hW17,← hmb]
    clear hW17
    replace hmb:=hZ hmb
    refine hdt1.out.mono ?_
    rintro e w18 ⟨rfl,hf18⟩
    go_wp2_with fail
    refine (hab.out _).mono ?_
    rintro e w19 ⟨rfl,rfl⟩
    have hend:=hFw.trans ((f16'.trans f17).trans hf18)
    rcases hpost.out with ⟨rfl,rfl⟩ | ⟨rfl,hiff⟩
    ·go_wp2_with fail
     go_ret
     exact ⟨rfl,hend⟩
    ·by_cases hD1:D.natAbs=1
     ·obtain rfl:is=true:=hiff.2 hD1
      have hb9:((tx (D.natAbs:Int)).toList == [49])=true:=by rw [hbo]; exact Ac (by omega)
      clear hiff hbo hD1
      go_wp2_with fail
      go_ret
      exact ⟨rfl,hend⟩
     ·have h9:is=false:=by
       cases is with
       | false=>rfl
       | true=>exact absurd (hiff.1 rfl) hD1
      subst h9
      have hb9:((tx (D.natAbs:Int)).toList == [49])=false:=by rw [hbo]; exact Aa (by omega)
      clear hiff hbo hD1
      go_wp2_with fail
      go_ret
      exact ⟨rfl,hend⟩
   ·rw [Ai hE0]
    have qE:(E != 0)=true:=by rw [Bl]; exact hE0
    have qEE:(E == E)=true:=FH E
    replace hE0:=hZ hE0
    obtain ⟨W12,hW12⟩:∃ W12,W12=w11.alloc (.cells #[.slice none 0 0,.slice none 0 0] 31):=⟨_,rfl⟩
    have f12:Fr w11 W12:=by rw [hW12]; exact (Fr.refl _).alloc _
    obtain ⟨nb,hnb⟩:∃ nb,nb=w11.heap.size:=⟨_,rfl⟩
    have hC12:Br W12 nb (.slice none 0 0) (.slice none 0 0):=by rw [hW12,hnb]; exact Br.new _ _ _ _
    clear hnt hcap hbN hbA lN lA hsm1 hsm2 hEE l2 l3 d0 d1
    go_upto_region 26 with (fail)
    rw [← hW12,← hnb]
    clear hW12
    replace hnb:=hZ hnb
    have n0:=hC12.a
    have n1:=hC12.b
    replace hC12:=hZ hC12
    go_wp2_with fail
    go_ret
    exact ⟨rfl,(hF9.trans f11).trans f12⟩
theorem Jn (names:List ByteArray) (a:Option Addr) (c:Nat) (s:Int) (gs es:List Int) (ag ae:Option Addr) (cg ce:Nat) (sh oct:ByteArray) (w:World) (hG:G w) (hEr:Er w) (hmx:∃ m,w.cell? ⟨3,0,none⟩=some (.int .i64 m))
 (hx:El w X6 a names) (hg:El w iv ag gs) (he:El w iv ae es) :
 Calls Tryz.prog 4 #[.agg #[.slice a names.length c,.int .i64 s,.slice ag gs.length cg,.slice ae es.length ce,.string sh,.string oct]] w fun e w'=>e=.returned (.bool true)∧Fr w w':=by
 by_cases h:I0 names.length gs.length es.length sh.size oct.size
 ·exact Jl a names.length c s ag ae gs.length cg es.length ce sh oct w hG hEr hmx h
 ·by_cases h0:ML s gs es=0
  ·have hsr:¬ (s < -1000∨1000 < s):=fun h9=>by unfold ML at h0; rw [Aj h9] at h0; cases h0
   have h1:CR gs=0:=by
    unfold ML at h0; rw [Ai hsr] at h0
    by_cases h9:CR gs=0
    ·exact h9
    ·rw [Aj h9] at h0; exact h0
   have h2:CR es=0:=by
    unfold ML at h0; rw [Ai hsr,Ai (by rw [h1]; simp)] at h0; exact h0
   obtain ⟨g0,g1,rfl⟩:=OZ h1
   obtain ⟨e0,e1,rfl⟩:=OZ h2
   obtain ⟨gb,go,rfl⟩:∃ b o,ag=some ⟨b,o,none⟩:=by
    rcases hg with h | ⟨b,o,h1,-⟩
    ·cases h
    ·exact ⟨b,o,h1⟩
   obtain ⟨eb,eo,rfl⟩:∃ b o,ae=some ⟨b,o,none⟩:=by
    rcases he with h | ⟨b,o,h1,-⟩
    ·cases h
    ·exact ⟨b,o,h1⟩
   exact IP names a c s g0 g1 e0 e1 gb go cg eb eo ce sh oct w hG hEr hmx hx hg he h h0
  ·exact Jm a names.length c s gs es ag ae cg ce sh oct w hG hEr hmx hg he h h0
end Go.Proofs.YtcglmebcfeoedaaGreatDoor
