/- Contracts and laws: VUD. -/
import Derived.Test.YtcglmebcfeoedaaGreatDoorVChk
import Derived.Test.YtcglmebcfeoedaaGreatDoorVSA
import Derived.Test.YtcglmebcfeoedaaGreatDoorVH
import Derived.Test.YtcglmebcfeoedaaGreatDoorVE
import Derived.Test.YtcglmebcfeoedaaGreatDoorVSC

set_option maxRecDepth 100000
set_option maxHeartbeats 4000000
namespace Go.Proofs.YtcglmebcfeoedaaGreatDoor
open Go.RowKit Go.Lib

attribute [local go_sem ↓] AC AD
theorem Vo (m:List (List Int)) (a:Option Addr) (cap n:Nat) (F:RS) (w:World) (hG:G w) (hm:Ca w a m) (hok:Hh n m) (hn:1≤n) (hmn:m.length=n) (hF:C4 (m.map CB) n=some F) :
 Calls Tryz.prog 76 #[.slice a n cap] w fun e w'=>e=.returned (.tuple #[sv F.det.num,.int .i64 0])∧Fr w w':=by
 have hck:=hZ (EP m a cap n w hm hok)
 obtain ⟨h1,h2,h3,h4⟩:=hok
 have hro:=hZ (fun W (hW:Fr w W)=>Mf m a cap n W (hG.fr hW) (hm.fr hW) h3 hn (by omega) (by omega) (fun r hr x hx=>Nb (h4 r hr x hx)))
 have hco:=hZ (fun W (hW:Fr w W)=>HL m a cap W (hm.fr hW))
 have hcn:Ew m=n:=by unfold Ew; rw [B1 (by omega)]; exact h3.row _
 rw [hcn] at hco
 have hrq:Eh n (m.map CB):=fun r hr=>by
  obtain ⟨x,hx,rfl⟩:=BG.1 hr
  unfold CB; rw [Am]; exact h3 x hx
 have hlq:(m.map CB).length=n:=by rw [Am,hmn]
 have hre:=hZ (fun ob oo oc hs W (hGW:G W) (hg:DV W ob oo hs (m.map CB))=>Io ob oo oc n n hs (m.map CB) F W hGW hg hrq (by omega) (by omega) (Ah _) hF)
 rw [hlq] at hre
 replace hrq:=hZ hrq
 replace hlq:=hZ hlq
 replace hF:=hZ hF
 have hGf:=hZ (fun W (hW:Fr w W)=>hG.fr hW)
 rw [hmn] at hck hro hco
 clear h1 h2 h3 h4 hcn hm hG hmn
 go_enter Tryz.func76,Tryz.ntmps76
 have d0:decide ((0:Int) < (n:Int))=true:=Ab (by omega)
 have d1:decide ((n:Int) > 0)=true:=Ab (by omega)
 go_wp2_with fail
 refine hck.out.mono ?_
 rintro e w1 ⟨rfl,hf1⟩
 go_wp2_with fail
 refine (hco.out _ hf1).mono ?_
 rintro e w2 ⟨rfl,hf2⟩
 go_wp2_with fail
 have hf12:=hf1.trans hf2
 refine (hro.out _ hf12).mono ?_
 rintro e w3 ⟨v,hs,rfl,hgg,hnew,hf3⟩
 rcases hgg.own.2 with ⟨hv,h0⟩ | ⟨g,cap2,-,hv,-⟩
 ·have:=hlq.out; omega
 subst hv
 obtain ⟨hg,-,hb,-⟩:=hgg.grid
 have hg1:=hZ hg
 have hf13:=hf12.trans hf3
 have hre2:=hre.out g 0 cap2 hs w3 (hGf.out _ hf13) hg1.out
 rw [hlq.out]
 replace hgg:=hZ hgg
 go_wp2_with fail
 refine hre2.mono ?_
 rintro e w4 ⟨a4,c4,hs4,rfl,-,hfx4,-,-⟩
 have hfr4:Fr w w4:=((Fx.of_fr hf13).trans hfx4).toFr (fun j hj hgb=>by
  have hsz:=hf12.size
  rcases hgb with h | ⟨hd,hm,h⟩
  ·have:w2.heap.size≤g:=hb; omega
  ·have h2:=hnew.out hd hm; have h:hd.1=j:=h; omega)
 clear hre2 hgg hg1 hg hb hnew hfx4
 go_wp2_with fail
 go_ret2
 exact ⟨rfl,hfr4.alloc _⟩
theorem Xk (a:Option Addr) (cap:Nat) (w:World):Calls Tryz.prog 76 #[.slice a 0 cap] w fun e w'=>e=.returned (.tuple #[sv 1,.int .i64 0])∧Fr w w':=by
 have hck:=hZ (EP [] a cap 0 w (.inl rfl) ⟨by simp,by omega,(fun r hr=>by cases hr),(fun r hr=>by cases hr)⟩)
 have hro:=hZ (fun f W=>SH a cap f W)
 have hre:=hZ (fun W=>KS W)
 go_enter Tryz.func76,Tryz.ntmps76
 go_wp2_with fail
 refine hck.out.mono ?_
 rintro e w1 ⟨rfl,hf1⟩
 go_wp2_with fail
 refine (hro.out _ _).mono ?_
 rintro e w2 ⟨rfl,rfl⟩
 go_wp2_with fail
 refine (hre.out _).mono ?_
 rintro e w3 ⟨rfl,hf3⟩
 go_wp2_with fail
 go_ret2
 exact ⟨rfl,(hf1.trans hf3).alloc _⟩
end Go.Proofs.YtcglmebcfeoedaaGreatDoor
