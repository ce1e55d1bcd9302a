/- Contracts and laws: FBR. -/
import Derived.Test.YtiniigadkknboaaGreatDoorFBQ
import Derived.Test.YtiniigadkknboaaGreatDoorFBH
import Derived.Test.YtiniigadkknboaaGreatDoorFAV
import Derived.Test.YtiniigadkknboaaGreatDoorFBL
import Derived.Test.YtiniigadkknboaaGreatDoorFBJ
import Derived.Test.YtiniigadkknboaaGreatDoorFBM

set_option maxRecDepth 100000
set_option maxHeartbeats 8000000
namespace Go.Proofs.YtiniigadkknboaaGreatDoor
open Go.RowKit Go.Lib
attribute [local go_sem ↓] Go.wp_at_zero Go.wp_at_succ
theorem RX (a:Option Addr) (c:Nat) (w:World):Calls Tryz.prog 74 #[.slice a 0 c] w fun e w'=>∃ a' c',e=.returned (.tuple #[.slice a' 0 c',.int .i64 0])∧Fr w w':=by
 obtain ⟨i0,hi,hz0,hz1,hz2⟩:=A5 CX
 go_enter Tryz.func74,Tryz.ntmps74
 go_wp2_with (at_make; refine DZ _ rfl _ _ 33 rfl w.heap.size 3 i0 _ 1 Tryz.underlying33 hi hz0 hz1 _ _ _ 0 (by rfl) (by rfl) (by first | rfl | omega) (by rw [hz2]; omega) (by unfold maxLen; omega) (Ah _) ?_; intro w2 hown2 hgr2)
 have hf2:Fr w w2:=(Fr.refl w).grown hgr2 (fun k e=>by cases e)
 clear hgr2 hown2
 go_loopg [4,14] 0 (fun k s4 s14 wr=>s14=.int .i64 0∧s4=.slice (some ⟨w.heap.size,0,none⟩) 0 0∧Fr w wr)
 case atStart=>exact ⟨rfl,rfl,hf2⟩
 case round=>
  obtain ⟨rfl,rfl,hf⟩:=hrel
  go_wp2_with fail
  go_ret2
  exact ⟨_,_,rfl,hf⟩
theorem Uv (xs:List Int) (a:Option Addr) (c:Nat) (w:World) (hx:El w sv a xs) (hl:xs.length≤1000000) (hb:∀ x,x ∈ xs→(tx x).size≤1000000000) (hE:Jd w) :
 Calls Tryz.prog 74 #[.slice a xs.length c] w (Yk w xs):=by
 by_cases h0:xs=[]
 ·subst h0
  exact (RX a c w).mono (fun e w' ⟨a',c',h1,h2⟩=>⟨fun _=>⟨a',c',h1,.inl rfl,h2⟩,fun h=>(by cases h)⟩)
 ·rcases hx with h | ⟨b,o,rfl,h1,h2⟩
  ·exact absurd h h0
  ·refine (MG xs b o c w (.inr ⟨b,o,rfl,h1,h2⟩) hl hb hE).mono (fun e w' ⟨k1,k2⟩=>⟨fun h=>?_,k2⟩)
   obtain ⟨g,c',h3,h4,h5⟩:=k1 h
   obtain ⟨a9,c9,h6,h7,-⟩:=GY h5
   injection h6 with h8 h9
   subst h8
   exact ⟨_,c',h3,h7,h4⟩
theorem Rt {xs:List Int} (h:DN xs=true):FG xs=-1:=by
 unfold FG
 rcases G6 (fun y:Int=>y != 0) xs with ⟨h1,-⟩ | ⟨k,y,h1,h2,h3,-⟩
 ·exact h1
 ·exfalso
  have hm:=Af h2
  unfold DN at h
  rw [Ee,Cu] at h
  exact h y hm h3
theorem M9 (m:List (List Int)) (xs:List Int) (a xa:Option Addr) (cap cx n:Nat) (w:World) (hm:A2 w a m) (hT:DR n m) (hcap:m.length≤cap) (hok:Ex m=true) (hx:El w iv xa xs) (hxl:xs.length=n) (hr:Ck xs=0) :
 Calls Tryz.prog 71 #[.agg #[.int .i64 n,.slice a m.length cap],.slice xa n cx] w fun e w'=>e=.returned (.int .i64 0)∧Fr w w':=by
 have p1:=Ct w (.int .i64 n) (.slice a m.length cap) 76
 have p2:=Ce w (.int .i64 n) (.slice a m.length cap) 76
 have h1:=hZ (fun W (hW:Fr w W)=>FK m a cap n W (hm.fr hW) hT hcap hok)
 have h2:=fun W (hW:Fr w W)=>DT xs xa cx W (hx.fr hW) (by have:=hT.2.1; omega)
 rw [hr,hxl] at h2
 replace h2:=hZ h2
 obtain ⟨wb,hwb⟩:∃ wb,wb=w.alloc (.cells #[.int .i64 n,.slice a m.length cap] 76):=⟨_,rfl⟩
 have hfb:Fr w wb:=by rw [hwb]; exact (Fr.refl _).alloc _
 rw [← hwb] at p1 p2
 generalize m.length=N at *
 have c1:=p1.1
 have c2:=p2.1
 have hd:((n:Int) != (n:Int))=false:=by simp
 clear p1 p2 hm hT hok hx hxl hcap hr
 go_enter Tryz.func71,Tryz.ntmps71
 go_upto_region 1 with (fail)
 rw [← hwb]
 clear hwb
 go_wp2_with fail
 refine (h1.out _ hfb).mono ?_
 rintro e w1 ⟨rfl,hf1⟩
 replace c1:=hf1.keep c1
 replace c2:=hf1.keep c2
 go_wp2_with fail
 refine (h2.out _ (hfb.trans hf1)).mono ?_
 rintro e w2 ⟨rfl,hf2⟩
 replace c1:=hf2.keep c1
 replace c2:=hf2.keep c2
 go_wp2_with fail
 go_ret
 exact ⟨rfl,(hfb.trans hf1).trans hf2⟩
def MM (w:World) (s:List Int) (e:Ending) (w':World):Prop:=Fr w w'∧(s.all Bk=false→e=.returned (.tuple #[.slice none 0 0,.int .i64 4]))∧(s.all Bk=true→∃ a c,e=.returned (.tuple #[.slice a s.length c,.int .i64 0])∧El w' iv a s)
theorem R0 (form:List (List Int)) (xs:List Int) (s:List Int×List Int) (a xa:Option Addr) (cap cx n:Nat) (w:World) (hG:G w) (hE:Jd w) (hm:A2 w a form) (hT:DR n form) (hcap:form.length≤cap) (hok:Ex form=true)
 (hx:El w iv xa xs) (hxl:xs.length=n) (hxr:Ck xs=0) (hred:Gd form xs form.length=some s) (hz:DN s.1=true) (hsz:∀ x,x ∈ s.2→(tx x).size≤1000000000) :
 Calls Tryz.prog 37 #[.agg #[.int .i64 n,.slice a form.length cap],.slice xa n cx] w (MM w s.2):=by
 have hsl:=ED _ s hred
 have fs:∀ x,Bk x=true→Sm x:=fun x h=>by unfold Bk at h; have h:=AV h; exact ⟨by omega,by omega⟩
 have p1:=Ct w (.int .i64 n) (.slice a form.length cap) 76
 have p2:=Ce w (.int .i64 n) (.slice a form.length cap) 76
 have h1:=hZ (fun W (hW:Fr w W)=>M9 form xs a xa cap cx n W (hm.fr hW) hT hcap hok (hx.fr hW) hxl hxr)
 have h2:=hZ (fun W (hW:Fr w W)=>QG form xs s a xa cap cx n W (hG.fr hW) (hm.fr hW) hT.2.2.1 (by have:=hT.2.1; omega) (by have:=hT.1; omega) (fun r hr x hx=>fs x (hT.2.2.2 r hr x hx)) (hx.fr hW) hxl (fun x hx=>fs x (Dq hxr x hx)) hred)
 have h3:=hZ (fun (W:World) (hW:Fr w W) (b:Option Addr) (c:Nat) (hb:El W sv b s.2)=>Uv s.2 b c W hb (by have:=hT.1; omega) hsz (hE.fr hW))
 have h4:=fun (W:World) (b:Nat) (c:Nat) (hb:EN W b 0 s.1)=>Ks s.1 (some ⟨b,0,none⟩) c W hb.el (by have:=hT.2.1; omega)
 rw [Rt hz] at h4
 replace h4:=hZ h4
 obtain ⟨wb,hwb⟩:∃ wb,wb=w.alloc (.cells #[.int .i64 n,.slice a form.length cap] 76):=⟨_,rfl⟩
 have hfb:Fr w wb:=by rw [hwb]; exact (Fr.refl _).alloc _
 rw [← hwb] at p1 p2
 clear hm hT hok hx hG hred hsl fs hxr hsz hcap hE hz hxl
 unfold MM
 generalize form.length=N at *
 have c1:=p1.1
 have c2:=p2.1
 clear p1 p2
 go_enter Tryz.func37,Tryz.ntmps37
 go_upto_region 1 with (fail)
 rw [← hwb]
 clear hwb
 go_wp2_with fail
 refine (h1.out _ hfb).mono ?_
 rintro e w1 ⟨rfl,hf1⟩
 replace c1:=hf1.keep c1
 replace c2:=hf1.keep c2
 have hfw:=hfb.trans hf1
 go_wp2_with fail
 refine (h2.out _ hfw).mono ?_
 rintro e w2 ⟨b,c,v,rfl,hO,hby,hf2⟩
 obtain ⟨ba,bc,rfl,hbe,-⟩:=Ix hby
 have h5:=hZ (h4.out w2 b c hO)
 replace hbe:=hZ hbe
 have hfw2:=hfw.trans hf2
 clear hO hby h4 h1 h2 c1 c2
 go_wp2_with fail
 refine h5.out.mono ?_
 rintro e w3 ⟨rfl,hf3⟩
 have h6:=hZ (h3.out w3 (hfw2.trans hf3) ba bc (hbe.out.fr hf3))
 clear h5 h3 hbe
 go_wp2_with fail
 refine h6.out.mono ?_
 rintro e w4 ⟨k1,k2⟩
 cases hf:s.2.all Bk with
 | false=>
   obtain ⟨rfl,hf4⟩:=k2 hf
   clear k1 k2
   go_wp2_with fail
   go_ret2
   exact ⟨(hfw2.trans hf3).trans hf4,fun _=>rfl,fun h=>(by rw [hf] at h; cases h)⟩
 | true=>
   obtain ⟨a9,c9,rfl,he9,hf4⟩:=k1 hf
   replace he9:=hZ he9
   clear k1 k2
   go_wp2_with fail
   go_ret2
   exact ⟨(hfw2.trans hf3).trans hf4,fun h=>(by rw [hf] at h; cases h),fun _=>⟨a9,c9,rfl,he9.out⟩⟩
theorem YE {P:List Int} {C M:List (List Int)} (hT:Tg P C M) {v:List Int} (hl:v.length=P.length) (hf:∀ y,y ∈ v→Bk y=true):∃ s,Gd M v M.length=some s∧(∀ q,q ∈ s.2→(tx q).size≤1000000000)∧(Dd C v=true→DN s.1=true):=by
 obtain ⟨gW,p,t,r,k⟩:=Dz (n:=P.length) hT.n4 (by decide) C1 (B:=1000000000) (m:=C) (fun r hr x hx=>C9 (hT.tabC.2.2.2 r hr x hx))
 have e:CI P.length C=M:=by unfold CI; rw [hT.ann]; rfl
 rw [e] at k
 have hM4:M.length≤4:=Ar (HB k) hT.n4
 have hB:∀ i k,(Aw M i k).natAbs≤1000000000:=Mq (fun r hr x hx=>C9 (hT.tabM.2.2.2 r hr x hx))
 have hx2:∀ k:Nat,((v[k]?).getD 0).natAbs≤1000000000:=fun k=>by
  cases e:v[k]? with
  | none=>simp
  | some y=>exact C9 (hf y (Af e))
 have hb9:1000000000 < Kb:=An (by decide) RJ
 obtain ⟨s,h1,h2,h3,h4,h5⟩:=Re k.krect k.kech hB hb9 hl hx2 (JP (t:=M.length) (by omega)) M.length (Ah _)
 refine ⟨s,h1,fun q hq=>?_,fun hs=>?_⟩
 ·have h9:Wd q:=A8 (h5 q hq) (JP (t:=M.length) (by omega))
  have:=h9.size
  omega
 ·obtain ⟨b,hb⟩:=Di ((hT.sup hl).1 hs)
  obtain ⟨s2,r1,r2,-⟩:=YF k.krect k.kech (by omega) hB hl hf (b:=b) (fun k hk=>hb k)
  rw [h1] at r1
  injection r1 with r1
  rw [r1]; exact r2
theorem ZD (P v:List Int):sE 0 P v=DU P v:=by unfold sE; simp
theorem RZ (form:List (List Int)) (xs:List Int) (s:List Int×List Int) (a xa:Option Addr) (cap cx n m:Nat) (w:World) (hnm:m=n) (hG:G w) (hE:Jd w) (hm:A2 w a form) (hT:DR n form) (hcap:form.length≤cap) (hok:Ex form=true)
 (hx:El w iv xa xs) (hxl:xs.length=n) (hxr:Ck xs=0) (hred:Gd form xs form.length=some s) (hz:DN s.1=true) (hsz:∀ x,x ∈ s.2→(tx x).size≤1000000000) :
 Calls Tryz.prog 37 #[.agg #[.int .i64 n,.slice a form.length cap],.slice xa m cx] w (MM w s.2):=by
 subst hnm
 exact R0 form xs s a xa cap cx _ w hG hE hm hT hcap hok hx hxl hxr hred hz hsz
theorem Le (np:Int) (qa:Option Addr) (QL:List (List Int)) (qc:Nat) (vb:Bool) (v:List Int) (va:Option Addr) (vc:Nat) (w:World) (hG:G w) (hE:Jd w) (hnp:0≤np∧np≤255) (hQ:Gj w qa QL) (hQ8:MJ QL) (hv:El w iv va v) :
 Calls Tryz.prog 8 #[.agg #[.int .u8 np,.slice qa QL.length qc,.bool vb],.slice va v.length vc] w fun e w'=>e=.returned (.bool true)∧Fr w w':=by
 obtain ⟨wb,hwb⟩:∃ wb,wb=w.alloc (.cells #[.int .u8 np,.slice qa QL.length qc,.bool vb] 42):=⟨_,rfl⟩
 have hfb:Fr w wb:=by rw [hwb]; exact (Fr.refl _).alloc _
 have hBa:=C3.new w (.int .u8 np) (.slice qa QL.length qc) (.bool vb) 42
 rw [← hwb] at hBa
 have x0:=hBa.a
 have x1:=hBa.b
 have x2:=hBa.c
 have hkn:=hZ (fun W (hW:Fr w W)=>Io W (hG.fr hW) (hE.fr hW))
 have hft:=hZ (fun W=>MO np vb qa QL.length qc W)
 have hfe:=hZ (fun (n:Nat) W=>Xz va n vc W)
 by_cases h3:QL.length≤3
 case neg=>
  have d3:decide (QL.length≤3)=false:=Aa h3
  rw [d3] at hft
  generalize QL.length=k at *
  generalize v.length=m at *
  clear hQ hQ8 hG hE h3 d3 hBa hv
  go_enter Tryz.func8,Tryz.ntmps8
  go_upto_region 1 with (fail)
  rw [← hwb]
  clear hwb
  go_wp2_with fail
  refine (hkn.out _ hfb).mono ?_
  rintro e w1 ⟨rfl,hf1⟩
  replace x0:=hf1.keep x0
  replace x1:=hf1.keep x1
  replace x2:=hf1.keep x2
  go_wp2_with fail
  refine (hft.out w1).mono ?_
  rintro e w2 ⟨rfl,hf2⟩
  go_wp2_with fail
  refine (hkn.out _ ((hfb.trans hf1).trans hf2)).mono ?_
  rintro e w3 ⟨rfl,hf3⟩
  go_wp2_with fail
  go_ret
  exact ⟨rfl,((hfb.trans hf1).trans hf2).trans hf3⟩
 have d3:decide (QL.length≤3)=true:=Ab h3
 rw [d3] at hft
 by_cases h7:v.length≤7
 case neg=>
  have d7:decide (v.length≤7)=false:=Aa h7
  generalize QL.length=k at *
  generalize v.length=m at *
  clear hQ hQ8 hG hE h3 d3 hBa hv h7
  go_enter Tryz.func8,Tryz.ntmps8
  go_upto_region 1 with (fail)
  rw [← hwb]
  clear hwb
  go_wp2_with fail
  refine (hkn.out _ hfb).mono ?_
  rintro e w1 ⟨rfl,hf1⟩
  replace x0:=hf1.keep x0
  replace x1:=hf1.keep x1
  replace x2:=hf1.keep x2
  go_wp2_with fail
  refine (hft.out w1).mono ?_
  rintro e w2 ⟨rfl,hf2⟩
  go_wp2_with fail
  refine (hfe.out m w2).mono ?_
  rintro e w2x ⟨rfl,rfl⟩
  go_wp2_with fail
  refine (hkn.out _ ((hfb.trans hf1).trans hf2)).mono ?_
  rintro e w3 ⟨rfl,hf3⟩
  go_wp2_with fail
  go_ret
  exact ⟨rfl,((hfb.trans hf1).trans hf2).trans hf3⟩
 have d7:decide (v.length≤7)=true:=Ab h7
 have hfe:=hZ (hfe.out v.length)
 rw [d7] at hfe
 have hmk:=hZ (fun W (hW:Fr w W)=>ML np qa QL qc vb W (hG.fr hW) (hE.fr hW) hnp (hQ.fr hW) hQ8 h3)
 have hG1:=hZ (fun W (hW:Fr w W)=>hG.fr hW)
 have hE1:=hZ (fun W (hW:Fr w W)=>hE.fr hW)
 generalize QL.length=k at *
 replace hv:=hZ hv
 replace h7:=hZ h7
 obtain ⟨m,hm⟩:∃ m,m=v.length:=⟨_,rfl⟩
 rw [← hm] at hfe ⊢
 replace hm:=hZ hm
 clear hQ hQ8 h3 d3 hBa hG hE d7
 rename_i hfe0
 clear hfe0
 go_enter Tryz.func8,Tryz.ntmps8
 go_upto_region 1 with (fail)
 rw [← hwb]
 clear hwb
 go_wp2_with fail
 refine (hkn.out _ hfb).mono ?_
 rintro e w1 ⟨rfl,hf1⟩
 replace x0:=hf1.keep x0
 replace x1:=hf1.keep x1
 replace x2:=hf1.keep x2
 go_wp2_with fail
 refine (hft.out w1).mono ?_
 rintro e w2 ⟨rfl,hf2⟩
 replace x0:=hf2.keep x0
 replace x1:=hf2.keep x1
 replace x2:=hf2.keep x2
 have hfw:=(hfb.trans hf1).trans hf2
 go_wp2_with fail
 refine (hfe.out w2).mono ?_
 rintro e w2x ⟨rfl,rfl⟩
 go_wp2_with fail
 refine (hmk.out w2x hfw).mono ?_
 rintro e w3 ⟨P,C,M,aP,aC,aM,cP,cC,cM,rfl,hP,hC,hM,hcC,hcM,hPp,hT,hf3⟩
 clear hPp
 have hfw3:=hfw.trans hf3
 have htm:OS w3 aP aC aM cP cC cM P C M 0:=OS.of (hG1.out _ hfw3) hP hC hM hcC hT.w
 obtain ⟨w4,hw4⟩:∃ W,W=w3.alloc (.cells #[.slice aP P.length cP,.slice aC C.length cC,.slice aM M.length cM] 29):=⟨_,rfl⟩
 have hf4:Fr w3 w4:=by rw [hw4]; exact (Fr.refl _).alloc _
 have hB4:=C3.new w3 (.slice aP P.length cP) (.slice aC C.length cC) (.slice aM M.length cM) 29
 rw [← hw4] at hB4
 obtain ⟨tb,htb⟩:∃ q,q=w3.heap.size:=⟨_,rfl⟩
 rw [← htb] at hB4
 have hfw4:=hfw3.trans hf4
 have htm4:=htm.fr hf4
 have t0:=hB4.a
 have t1:=hB4.b
 have t2:=hB4.c
 have hv4:∀ W,Fr w4 W→El W iv va v:=fun W hW=>hv.out.fr (hfw4.trans hW)
 have hM4:∀ W,Fr w4 W→A2 W aM M:=fun W hW=>hM.fr (hf4.trans hW)
 have hC4:∀ W,Fr w4 W→A2 W aC C:=fun W hW=>hC.fr (hf4.trans hW)
 have hG4:∀ W,Fr w4 W→G W:=fun W hW=>hG1.out W (hfw4.trans hW)
 have hE4:∀ W,Fr w4 W→Jd W:=fun W hW=>hE1.out W (hfw4.trans hW)
 have hl7:=h7.out
 have hn4:=hT.n4
 obtain ⟨s,hs⟩:∃ s:List Int×List Int,DU P v=0→Gd M v M.length=some s∧(∀ q,q ∈ s.2→(tx q).size≤1000000000)∧(Dd C v=true→DN s.1=true):=by
  by_cases h0:DU P v=0
  ·obtain ⟨v1,v2,v3⟩:=ES h0
   obtain ⟨s,hs⟩:=YE hT v3 (Dq v2)
   exact ⟨s,fun _=>hs⟩
  ·exact ⟨([],[]),fun h=>absurd h h0⟩
 have hsu:=fun W (hW:Fr w4 W)=>F4 aP aC aM cP cC cM P C M 0 v va vc W (htm4.fr hW) (hv4 W hW) (by omega) (hG4 W hW)
 have hco:=fun W (hW:Fr w4 W)=>MI aP aC aM cP cC cM P C M 0 v s va vc W (htm4.fr hW) (hv4 W hW) (by omega) (hG4 W hW) (hE4 W hW) (fun h=>by
  rw [ZD] at h
  exact ⟨hT.tabM,hcM,hT.formM,(hs h).1,(hs h).2.1⟩)
 rw [ZD] at hsu hco
 have hvk:=fun W (hW:Fr w4 W)=>HH P v aP va cP vc W ((htm4.fr hW).p) (hv4 W hW) (by omega) (by omega)
 have hs2:DU P v=0→Hid (∀ W,Fr w4 W→Calls Tryz.prog 24 #[.agg #[.slice aP P.length cP,.slice aC C.length cC,.slice aM M.length cM],.slice va v.length vc] W fun e w'=>e=.returned (.bool (Dd C v))∧Fr W w'):=fun h0 W hW=>by
  obtain ⟨v1,v2,v3⟩:=ES h0
  exact Q8 C v v.length va aM aP aC vc cM M.length P.length cP cC W (hG4 W hW) (hC4 W hW) (by rw [v3]; exact hT.tabC.2.2.1) (hv4 W hW) rfl (by omega) (by have:=hT.tabC.1; omega) (Dq v2) hT.tabC.2.2.2
 have hlc:DU P v=0→Dd C v=true→Hid (∀ W,Fr w4 W→Calls Tryz.prog 37 #[.agg #[.int .i64 P.length,.slice aM M.length cM],.slice va v.length vc] W (MM W s.2)):=fun h0 h1 W hW=>by
  obtain ⟨v1,v2,v3⟩:=ES h0
  obtain ⟨r1,r2,r3⟩:=hs h0
  exact RZ M v s aM va cM vc P.length v.length W v3 (hG4 W hW) (hE4 W hW) (hM4 W hW) hT.tabM hcM hT.formM (hv4 W hW) v3 v2 r1 (r3 h1) r2
 have hz:DU P v=0→Dd C v=true→Hid (DN s.1=true∧s.2.length≤12):=fun h0 h1=>⟨(hs h0).2.2 h1,by rw [(ED _ s (hs h0).1).2]; have:=hT.tabM.1; omega⟩
 unfold RO at hco
 unfold MM at hlc
 have heq:=hZ (fun (a a':Option Addr) (c c':Nat) W (hl:s.2.length≤12) (h1:El W iv a s.2) (h2:El W iv a' s.2)=>EO s.2 s.2 a a' c c' W h1 h2 (by omega) (by omega))
 rw [Ab rfl] at heq
 have heq0:=hZ (fun W=>EO [] [] none none 0 0 W (.inl rfl) (.inl rfl) (by simp) (by simp))
 rw [Ab rfl,CM] at heq0
 rw [← hm.out] at hsu hco hvk hs2 hlc
 generalize DU P v=E at *
 generalize Dd C v=sb at *
 replace hs:=hZ hs
 replace hsu:=hZ hsu
 replace hco:=hZ hco
 replace hvk:=hZ hvk
 generalize DN s.1=zb at *
 obtain ⟨L,hL⟩:∃ L,L=s.2:=⟨_,rfl⟩
 rw [← hL] at hco hlc hz heq
 clear hs hL hT htm htm4 hP hC hM hB4 hv4 hM4 hC4 hG4 hE4 hcC hcM hv h7 hl7 hn4 hm hkn hft hfe hmk x0 x1 x2 hf1 hf2 hG1 hE1 hfw hfb hfw3 hf3 hf4
 generalize P.length=n at *
 generalize C.length=nC at *
 generalize M.length=nM at *
 go_upto_region 4 with (fail)
 rw [← hw4,← htb]
 clear hw4
 replace htb:=hZ htb
 have hTl:=hZ (fun W (hW:Fr w4 W)=>(⟨hW.keep t0,hW.keep t1,hW.keep t2⟩:W.cell? ⟨tb,0,none⟩=some (.slice aP n cP)∧W.cell? ⟨tb,1,none⟩=some (.slice aC nC cC)∧W.cell? ⟨tb,2,none⟩=some (.slice aM nM cM)))
 by_cases hE0:E=0
 case neg=>
  have q0:(E != 0)=true:=Bb.2 hE0
  have q1:(E == E)=true:=Lh E
  rw [Aa hE0] at hsu
  replace hco:=hZ (fun W (hW:Fr w4 W)=>(hco.out W hW).mono fun e w' h=>(show e=.returned (.tuple #[.slice none 0 0,.int .i64 E])∧Fr W w' from ⟨h.2.1 hE0,h.1⟩))
  clear hs2 hlc hz heq heq0 hE0
  go_wp2_with fail
  refine (hsu.out _ (Fr.refl _)).mono ?_
  rintro e w5 ⟨rfl,hf5⟩
  obtain ⟨t0,t1,t2⟩:=hTl.out w5 hf5
  go_wp2_with fail
  refine (hco.out _ hf5).mono ?_
  rintro e w6 ⟨rfl,hf6⟩
  have hf46:=hf5.trans hf6
  obtain ⟨t0,t1,t2⟩:=hTl.out w6 hf46
  go_wp2_with fail
  refine (hvk.out _ hf46).mono ?_
  rintro e w7 ⟨rfl,hf7⟩
  go_wp2_with fail
  go_ret
  exact ⟨rfl,(hfw4.trans hf46).trans hf7⟩
 subst hE0
 rw [Ab rfl] at hsu
 have hs2:=hZ (hs2 rfl).out
 rename_i hs2x
 clear hs2x
 cases sb with
 | false=>
   replace hco:=hZ (fun W (hW:Fr w4 W)=>(hco.out W hW).mono fun e w' h=>(show e=.returned (.tuple #[.slice none 0 0,.int .i64 26])∧Fr W w' from ⟨h.2.2.1 rfl rfl,h.1⟩))
   clear hlc hz heq heq0
   go_wp2_with fail
   refine (hsu.out _ (Fr.refl _)).mono ?_
   rintro e w5 ⟨rfl,hf5⟩
   obtain ⟨t0,t1,t2⟩:=hTl.out w5 hf5
   go_wp2_with fail
   refine (hco.out _ hf5).mono ?_
   rintro e w6 ⟨rfl,hf6⟩
   have hf46:=hf5.trans hf6
   obtain ⟨t0,t1,t2⟩:=hTl.out w6 hf46
   go_wp2_with fail
   refine (hvk.out _ hf46).mono ?_
   rintro e w7 ⟨rfl,hf7⟩
   have hf47:=hf46.trans hf7
   obtain ⟨t0,t1,t2⟩:=hTl.out w7 hf47
   go_wp2_with fail
   refine (hs2.out _ hf47).mono ?_
   rintro e w8 ⟨rfl,hf8⟩
   go_wp2_with fail
   go_ret
   exact ⟨rfl,(hfw4.trans hf47).trans hf8⟩
 | true=>
   obtain ⟨hz1,hz2⟩:=(hz rfl rfl).out
   have hlc2:=hZ (hlc rfl rfl).out
   subst hz1
   clear hlc hz
   cases hfit:L.all Bk with
   | false=>
     replace hco:=hZ (fun W (hW:Fr w4 W)=>(hco.out W hW).mono fun e w' h=>(show e=.returned (.tuple #[.slice none 0 0,.int .i64 4])∧Fr W w' from ⟨h.2.2.2.2.1 rfl rfl rfl hfit,h.1⟩))
     replace hlc2:=hZ (fun W (hW:Fr w4 W)=>(hlc2.out W hW).mono fun e w' h=>(show e=.returned (.tuple #[.slice none 0 0,.int .i64 4])∧Fr W w' from ⟨h.2.1 hfit,h.1⟩))
     replace hfit:=hZ hfit
     clear heq
     go_wp2_with fail
     refine (hsu.out _ (Fr.refl _)).mono ?_
     rintro e w5 ⟨rfl,hf5⟩
     obtain ⟨t0,t1,t2⟩:=hTl.out w5 hf5
     go_wp2_with fail
     refine (hco.out _ hf5).mono ?_
     rintro e w6 ⟨rfl,hf6⟩
     have hf46:=hf5.trans hf6
     obtain ⟨t0,t1,t2⟩:=hTl.out w6 hf46
     go_wp2_with fail
     refine (hvk.out _ hf46).mono ?_
     rintro e w7 ⟨rfl,hf7⟩
     have hf47:=hf46.trans hf7
     obtain ⟨t0,t1,t2⟩:=hTl.out w7 hf47
     go_wp2_with fail
     refine (hs2.out _ hf47).mono ?_
     rintro e w8 ⟨rfl,hf8⟩
     have hf48:=hf47.trans hf8
     obtain ⟨t0,t1,t2⟩:=hTl.out w8 hf48
     go_wp2_with fail
     refine (hlc2.out _ hf48).mono ?_
     rintro e w9 ⟨rfl,hf9⟩
     go_wp2_with fail
     refine (heq0.out w9).mono ?_
     rintro e wz ⟨rfl,hfz⟩
     go_wp2_with fail
     go_ret
     exact ⟨rfl,((hfw4.trans hf48).trans hf9).trans hfz⟩
   | true=>
     replace hco:=hZ (fun W (hW:Fr w4 W)=>(hco.out W hW).mono fun e w' h=>(show Fr W w'∧∃ a c,e=.returned (.tuple #[.slice a L.length c,.int .i64 0])∧El w' iv a L from ⟨h.1,h.2.2.2.2.2 rfl rfl rfl hfit⟩))
     replace hlc2:=hZ (fun W (hW:Fr w4 W)=>(hlc2.out W hW).mono fun e w' h=>(show Fr W w'∧∃ a c,e=.returned (.tuple #[.slice a L.length c,.int .i64 0])∧El w' iv a L from ⟨h.1,h.2.2 hfit⟩))
     replace hfit:=hZ hfit
     replace hz2:=hZ hz2
     clear heq0
     go_wp2_with fail
     refine (hsu.out _ (Fr.refl _)).mono ?_
     rintro e w5 ⟨rfl,hf5⟩
     obtain ⟨t0,t1,t2⟩:=hTl.out w5 hf5
     go_wp2_with fail
     refine (hco.out _ hf5).mono ?_
     rintro e w6 ⟨hf6,a6,c6,rfl,he6⟩
     replace he6:=hZ he6
     have hf46:=hf5.trans hf6
     obtain ⟨t0,t1,t2⟩:=hTl.out w6 hf46
     go_wp2_with fail
     refine (hvk.out _ hf46).mono ?_
     rintro e w7 ⟨rfl,hf7⟩
     have hf47:=hf46.trans hf7
     obtain ⟨t0,t1,t2⟩:=hTl.out w7 hf47
     go_wp2_with fail
     refine (hs2.out _ hf47).mono ?_
     rintro e w8 ⟨rfl,hf8⟩
     have hf48:=hf47.trans hf8
     obtain ⟨t0,t1,t2⟩:=hTl.out w8 hf48
     go_wp2_with fail
     refine (hlc2.out _ hf48).mono ?_
     rintro e w9 ⟨hf9,a9,c9,rfl,he9⟩
     have heq9:=hZ (heq.out a6 a9 c6 c9 w9 hz2.out (he6.out.fr ((hf7.trans hf8).trans hf9)) he9)
     clear he9 he6 heq
     go_wp2_with fail
     refine heq9.out.mono ?_
     rintro e wz ⟨rfl,hfz⟩
     go_wp2_with fail
     go_ret
     exact ⟨rfl,((hfw4.trans hf48).trans hf9).trans hfz⟩
end Go.Proofs.YtiniigadkknboaaGreatDoor
