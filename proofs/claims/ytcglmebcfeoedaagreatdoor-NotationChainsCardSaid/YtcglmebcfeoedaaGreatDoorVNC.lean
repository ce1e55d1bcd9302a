/- Contracts and laws: VNC. -/
import Derived.Test.YtcglmebcfeoedaaGreatDoorVSA
import Derived.Test.YtcglmebcfeoedaaGreatDoorVUD
import Derived.Test.YtcglmebcfeoedaaGreatDoorVL

set_option maxRecDepth 100000
namespace Go.Proofs.YtcglmebcfeoedaaGreatDoor
open Go.RowKit Go.Lib
attribute [local go_sem ↓] AA AB
def O7 (s:EZ):Int:=if s.odd=true then -s.last else s.last
theorem Wa {s:EZ} {k:Nat} (h:Bn k s.last):Bn k (O7 s):=by unfold O7; split; exact h.neg; exact h
theorem WD (m:List (List Int)) (n:Nat) (s:EZ) (a:Option Addr) (cap:Nat) (w:World) (hG:G w) (hm:BT w a m) (hr:Ce n m) (hn1:1≤n) (hn:n≤1000) (hl:m.length=n) (hb:∀ r,r ∈ m→∀ x,x ∈ r→Sm x) (hz:G5 m n=some s) (hp:s.piv.length=n) (hL:Bn 200 s.last) :
 Calls Tryz.prog 23 #[.slice a n cap] w fun e w'=>e=.returned (.string (tx (O7 s)))∧Fr w w':=by
 have hbig:=hZ (fun W (hW:Fr w W)=>Pn m a cap n W (hG.fr hW) (hm.fr hW) hr hn1 (by omega) (by omega) hb)
 have hel:=fun ob c hs W (hW:G W) (h:BH W ob 0 hs m)=>PD ob 0 c n n hs m s W hW h hr (Ag _) hn (by omega) hz
 have hng:=hZ (fun W=>WT s.last W (by have:=hL.size2; omega))
 have e1:s.odd=true→O7 s=-s.last:=fun h=>Aj h
 have e2:s.odd=false→O7 s=s.last:=fun h=>Ai (by rw [h]; simp)
 rw [hl] at hbig hel
 replace hel:=hZ hel
 replace e1:=hZ e1
 replace e2:=hZ e2
 have hG1:=hZ hG
 replace hl:=hZ hl
 generalize O7 s=D at *
 obtain ⟨od,hod⟩:∃ od,od=s.odd:=⟨_,rfl⟩
 rw [← hod] at e1 e2
 replace hod:=hZ hod
 replace hp:=hZ hp
 clear hm hb hG hL hr hz
 go_enter Tryz.func23,Tryz.ntmps23
 go_wp2_with fail
 refine (hbig.out _ (Fr.refl _)).mono ?_
 rintro e w1 ⟨v,hs,rfl,hgg,hrw,hnew,hf1⟩
 obtain ⟨gb1,cb1,rfl⟩:=Dh hgg.own (by rw [hl.out]; omega)
 obtain ⟨hgr,-,hge,-⟩:=hgg.grid
 rw [hl.out]
 have he:=hZ (hel.out gb1 cb1 hs w1 (hG1.out.fr hf1) hgr)
 have hbl:Hid (∀ k,gb gb1 hs k→w.heap.size≤k):=by
  rintro k (rfl | ⟨hd,hm2,rfl⟩)
  ·exact hge
  ·exact hnew.out hd hm2
 replace hgg:=hZ hgg
 replace hgr:=hZ hgr
 replace hrw:=hZ hrw
 go_wp2_with fail
 refine he.out.mono ?_
 rintro e w3 ⟨a3,c3,hs3,rfl,-,-,-,-,-,hfx⟩
 have hfr:=hZ (((Fx.of_fr hf1).trans (hfx.mono hbl.out)).toFr (fun k hk e=>by omega))
 rw [hp.out,← hod.out]
 have d1:decide ((n:Int) < (n:Int))=false:=Aa (by omega)
 cases od with
 | false=>
   have e3:=hZ (e2.out rfl)
   go_wp2_with fail
   go_ret
   exact ⟨by rw [e3.out]; rfl,hfr.out⟩
 | true=>
   have e3:=hZ (e1.out rfl)
   go_wp2_with fail
   refine (hng.out _).mono ?_
   rintro e w4 ⟨rfl,rfl⟩
   go_wp2_with fail
   go_ret
   exact ⟨by rw [e3.out]; rfl,hfr.out⟩

end Go.Proofs.YtcglmebcfeoedaaGreatDoor
