/- Contracts and laws: GBH. -/
import Derived.Test.YtiniigadkknboaaGreatDoorGAW
import Derived.Test.YtiniigadkknboaaGreatDoorGBG
import Derived.Test.YtiniigadkknboaaGreatDoorGBF
import Derived.Test.YtiniigadkknboaaGreatDoorGBE
import Derived.Test.YtiniigadkknboaaGreatDoorGAC

set_option maxRecDepth 100000
set_option maxHeartbeats 2000000
namespace Go.Proofs.YtiniigadkknboaaGreatDoor
open Go.RowKit Go.Lib
/- the identity -/
attribute [local go_sem ↓] Go.wp_at_zero Go.wp_at_succ
theorem RR.of {w:World} {aP aC aM:Option Addr} {cP cC cM:Nat} {P:List Int} {C M:List (List Int)} (hG:G w) (hP:El w iv aP P) (hC:A5 w aC C) (hM:A5 w aM M) (hcap:C.length≤cC) (hT:Zb P C M):RR w aP aC aM cP cC cM P C M 0 :=
 ⟨hP,hC,hM,fun W hW=>Vb P C M aP aC aM cP cC cM W (hG.fr hW) (hP.fr hW) (hC.fr hW) (hM.fr hW) hcap hT,by have:=hT.n6; omega,fun _=>⟨hT.n6,hT.tabC.1,hT.tabM.1,hT.tabC.2.2.1,hT.tabM.2.2.1,hT.tabC.2.2.2,hT.tabM.2.2.2⟩⟩
theorem NO (s:List Int×List Int) (a xa:Option Addr) (cap cx n N:Nat) (w:World) (hsl:s.1.length≤1000000)
 (hred:∀ W,Fr w W→Calls Tryz.prog 152 #[.slice a N cap,.slice xa n cx] W (N5 W s)) :
 Calls Tryz.prog 106 #[.slice a N cap,.slice xa n cx] w fun e w'=>∃ b c,e=.returned (.tuple #[.slice b s.2.length c,.bool (IF s.1)])∧El w' sv b s.2∧Fr w w':=by
 have eg:∀ args w,(callFunc 153 args).run Tryz.prog w=.ok (.enter 153 args) w:=Ey Tryz.func153 (by kernel_rfl) rfl
 have hc:=fun (W:World) (b:Option Addr) (c:Nat) (h:El W sv b s.1)=>Kt s.1 b c 153 #[] _ W eg h (by omega) (Ko W s.1)
 have h1:=hZ (hred w (Fr.refl _))
 replace hc:=hZ hc
 clear hred eg
 go_enter Tryz.func106,Tryz.ntmps106
 go_wp2_with fail
 refine h1.out.mono ?_
 rintro e w1 ⟨b,c,v,rfl,hO,hby,hf1⟩
 obtain ⟨ba,bc,rfl,hbe,-⟩:=MH hby
 have h2:=hZ (hc.out w1 _ c hO.el)
 replace hbe:=hZ hbe
 clear hO hc h1 hby
 go_wp2_with fail
 refine h2.out.mono ?_
 rintro e w2 ⟨rfl,hf2⟩
 go_wp2_with fail
 go_ret2
 exact ⟨ba,bc,rfl,hbe.out.fr hf2,hf1.trans hf2⟩
theorem QP (a:Option Addr) (c:Nat) (w:World):Calls Tryz.prog 107 #[.slice a 0 c] w fun e w'=>∃ a' c',e=.returned (.tuple #[.slice a' 0 c',.int .i64 0])∧Fr w w':=by
 obtain ⟨i0,hi,hz0,hz1,hz2⟩:=AZ C6
 go_enter Tryz.func107,Tryz.ntmps107
 go_wp2_with (at_make; refine Ew _ rfl _ _ 33 rfl w.heap.size 3 i0 _ 1 Tryz.underlying33 hi hz0 hz1 _ _ _ 0 (by rfl) (by rfl) (by first | rfl | omega) (by rw [hz2]; omega) (by unfold maxLen; omega) (Ah _) ?_; intro w2 hown2 hgr2)
 have hf2:Fr w w2:=(Fr.refl w).grown hgr2 (fun k e=>by cases e)
 clear hgr2 hown2
 go_loopg [4,14] 0 (fun k s4 s14 wr=>s14=.int .i64 0∧s4=.slice (some ⟨w.heap.size,0,none⟩) 0 0∧Fr w wr)
 case atStart=>exact ⟨rfl,rfl,hf2⟩
 case round=>
  obtain ⟨rfl,rfl,hf⟩:=hrel
  go_wp2_with fail
  go_ret2
  exact ⟨_,_,rfl,hf⟩
def YP (w:World) (xs:List Int) (e:Ending) (w':World):Prop:=(xs.all Bq=true→∃ a c,e=.returned (.tuple #[.slice a xs.length c,.int .i64 0])∧El w' iv a xs∧Fr w w')∧(xs.all Bq=false→e=.returned (.tuple #[.slice none 0 0,.int .i64 4])∧Fr w w')
theorem S4 (xs:List Int) (a:Option Addr) (c:Nat) (w:World) (hx:El w sv a xs) (hl:xs.length≤1000000) (hb:∀ x,x ∈ xs→(tx x).size≤1000000000) (hE:LW w) :
 Calls Tryz.prog 107 #[.slice a xs.length c] w (YP w xs):=by
 by_cases h0:xs=[]
 ·subst h0
  exact (QP a c w).mono (fun e w' ⟨a',c',h1,h2⟩=>⟨fun _=>⟨a',c',h1,.inl rfl,h2⟩,fun h=>(by cases h)⟩)
 ·rcases hx with h | ⟨b,o,rfl,h1,h2⟩
  ·exact absurd h h0
  ·refine (Vp xs b o c w (.inr ⟨b,o,rfl,h1,h2⟩) hl hb hE).mono (fun e w' ⟨k1,k2⟩=>⟨fun h=>?_,k2⟩)
   obtain ⟨g,c',h3,h4,h5⟩:=k1 h
   obtain ⟨a9,c9,h6,h7,-⟩:=HT h5
   injection h6 with h8 h9
   subst h8
   exact ⟨_,c',h3,h7,h4⟩
theorem Qu (m:List (List Int)) (xs:List Int) (a b:Option Addr) (ca cb n:Nat) (w:World) (hm:A5 w a m) (hT:EI n m) (hcap:m.length≤ca) (hok:ET m=true) (hx:El w iv b xs) (hl:xs.length=n) (hr:CA xs=0) :
 Calls Tryz.prog 105 #[.slice a m.length ca,.slice b xs.length cb] w fun e w'=>e=.returned (.int .i64 0)∧Fr w w':=by
 by_cases h0:m.length=0
 ·have h1:=hZ (JX m a ca n w hm hT hcap hok)
  have h2:=hZ (fun W (hW:Fr w W)=>D2 xs b cb W (hx.fr hW) (by have:=hT.2.1; omega))
  rw [hr] at h2
  rw [h0] at h1
  rw [h0]
  clear hm hT hcap hok hx hl hr h0
  generalize xs.length=k at *
  go_enter Tryz.func105,Tryz.ntmps105
  go_wp2_with fail
  refine h1.out.mono ?_
  rintro e w1 ⟨rfl,hf1⟩
  go_wp2_with fail
  refine (h2.out _ hf1).mono ?_
  rintro e w2 ⟨rfl,hf2⟩
  go_wp2_with fail
  go_ret
  exact ⟨rfl,hf1.trans hf2⟩
 ·have h1:=SB m xs a b ca cb n w hm hT hcap hok (by omega) hx (by have:=hT.2.1; omega)
  have e0:Lk n xs=0:=by
   unfold Lk
   rw [Ag (by rw [hr]; simp),Ag (by rw [hl]; simp)]
  rw [e0] at h1
  exact h1
def VI (w:World) (s:List Int×List Int) (e:Ending) (w':World):Prop:=Fr w w'∧(IF s.1=false→e=.returned (.tuple #[.slice none 0 0,.bool false,.int .i64 0])) ∧
 (IF s.1=true→s.2.all Bq=false→e=.returned (.tuple #[.slice none 0 0,.bool false,.int .i64 4])) ∧
 (IF s.1=true→s.2.all Bq=true→∃ a c,e=.returned (.tuple #[.slice a s.2.length c,.bool true,.int .i64 0])∧El w' iv a s.2)
theorem QQ (form:List (List Int)) (xs:List Int) (s:List Int×List Int) (a xa:Option Addr) (cap cx n:Nat) (w:World) (hG:G w) (hE:LW w) (hm:A5 w a form) (hT:EI n form) (hcap:form.length≤cap) (hok:ET form=true) (hn1:1≤n)
 (hx:El w iv xa xs) (hxl:xs.length=n) (hxr:CA xs=0) (hred:Km form xs form.length=some s) (hsz:∀ x,x ∈ s.2→(tx x).size≤1000000000) :
 Calls Tryz.prog 68 #[.slice a form.length cap,.slice xa n cx] w (VI w s):=by
 have hsl:=IZ _ s hred
 have fs:∀ x,Bq x=true→Sm x:=fun x h=>by unfold Bq at h; have h:=AL h; exact ⟨by omega,by omega⟩
 have h1:=Qu form xs a xa cap cx n w hm hT hcap hok hx hxl hxr
 rw [hxl] at h1
 have h2:=hZ (fun W (hW:Fr w W)=>NO s a xa cap cx n form.length W (by have:=hT.2.1; omega) (fun W' hW'=>O8 form xs s a xa cap cx n W' (hG.fr (hW.trans hW')) (hm.fr (hW.trans hW')) hT.2.2.1 hn1 (by have:=hT.2.1; omega) (by have:=hT.1; omega) (fun r hr x hx=>fs x (hT.2.2.2 r hr x hx)) (hx.fr (hW.trans hW')) hxl (fun x hx=>fs x (IY hxr x hx)) hred))
 have h3:=hZ (fun (W:World) (hW:Fr w W) (b:Option Addr) (c:Nat) (hb:El W sv b s.2)=>S4 s.2 b c W hb (by have:=hT.1; omega) hsz (hE.fr hW))
 replace h1:=hZ h1
 clear hm hT hok hx hG hred hsl fs hxr hsz hcap hE
 unfold VI
 generalize form.length=N at *
 cases hz:IF s.1 with
 | false=>
   rw [hz] at h2
   go_enter Tryz.func68,Tryz.ntmps68
   go_wp2_with fail
   refine h1.out.mono ?_
   rintro e w1 ⟨rfl,hf1⟩
   go_wp2_with fail
   refine (h2.out _ hf1).mono ?_
   rintro e w2 ⟨b,c,rfl,hbe,hf2⟩
   go_wp2_with fail
   go_ret3
   exact ⟨hf1.trans hf2,fun _=>rfl,fun h=>(by cases h),fun h=>(by cases h)⟩
 | true=>
   rw [hz] at h2
   cases hfit:s.2.all Bq with
   | false=>
     go_enter Tryz.func68,Tryz.ntmps68
     go_wp2_with fail
     refine h1.out.mono ?_
     rintro e w1 ⟨rfl,hf1⟩
     go_wp2_with fail
     refine (h2.out _ hf1).mono ?_
     rintro e w2 ⟨b,c,rfl,hbe,hf2⟩
     have h4:=hZ (h3.out w2 (hf1.trans hf2) b c hbe)
     clear hbe
     go_wp2_with fail
     refine h4.out.mono ?_
     rintro e w3 ⟨-,h5⟩
     obtain ⟨rfl,hf3⟩:=h5 hfit
     go_wp2_with fail
     go_ret3
     exact ⟨(hf1.trans hf2).trans hf3,fun h=>(by cases h),fun _ _=>rfl,fun _ h=>(by cases h)⟩
   | true=>
     go_enter Tryz.func68,Tryz.ntmps68
     go_wp2_with fail
     refine h1.out.mono ?_
     rintro e w1 ⟨rfl,hf1⟩
     go_wp2_with fail
     refine (h2.out _ hf1).mono ?_
     rintro e w2 ⟨b,c,rfl,hbe,hf2⟩
     have h4:=hZ (h3.out w2 (hf1.trans hf2) b c hbe)
     clear hbe
     go_wp2_with fail
     refine h4.out.mono ?_
     rintro e w3 ⟨h5,-⟩
     have h6:=h5 hfit
     obtain ⟨a9,c9,rfl,he9,hf3⟩:=h6
     replace he9:=hZ he9
     go_wp2_with fail
     go_ret3
     exact ⟨(hf1.trans hf2).trans hf3,fun h=>(by cases h),fun _ h=>(by cases h),fun _ _=>⟨a9,c9,rfl,he9.out⟩⟩
def Vc (w:World) (err:Int) (sup:Bool) (s:List Int×List Int) (e:Ending) (w':World):Prop:=Fr w w'∧(err≠0→e=.returned (.tuple #[.slice none 0 0,.int .i64 err])) ∧
 (err=0→sup=false→e=.returned (.tuple #[.slice none 0 0,.int .i64 26])) ∧
 (err=0→sup=true→IF s.1=false→e=.returned (.tuple #[.slice none 0 0,.int .i64 0])) ∧
 (err=0→sup=true→IF s.1=true→s.2.all Bq=false→e=.returned (.tuple #[.slice none 0 0,.int .i64 4])) ∧
 (err=0→sup=true→IF s.1=true→s.2.all Bq=true→∃ a c,e=.returned (.tuple #[.slice a s.2.length c,.int .i64 0])∧El w' iv a s.2)
theorem QG (aP aC aM:Option Addr) (cP cC cM:Nat) (P:List Int) (C M:List (List Int)) (E:Int) (v:List Int) (s:List Int×List Int) (va:Option Addr) (vc:Nat) (w:World) (ht:RR w aP aC aM cP cC cM P C M E) (hv:El w iv va v) (hvl:v.length≤1000000) (hG:G w) (hE:LW w)
 (hM:sE E P v=0→EI P.length M∧M.length≤cM∧ET M=true∧Km M v M.length=some s∧∀ x,x ∈ s.2→(tx x).size≤1000000000) :
 Calls Tryz.prog 34 #[.agg #[.slice aP P.length cP,.slice aC C.length cC,.slice aM M.length cM],.slice va v.length vc] w (Vc w (sE E P v) (Ei C v) s):=by
 obtain ⟨wb,hwb⟩:∃ wb,wb=w.alloc (.cells #[.slice aP P.length cP,.slice aC C.length cC,.slice aM M.length cM] 29):=⟨_,rfl⟩
 have hfb:Fr w wb:=by rw [hwb]; exact (Fr.refl _).alloc _
 have hT:=C3.new w (.slice aP P.length cP) (.slice aC C.length cC) (.slice aM M.length cM) 29
 rw [← hwb] at hT
 have hzb:wb.heap.size=w.heap.size+1:=by rw [hwb]; simp
 obtain ⟨W2,hW2⟩:∃ W2,W2=wb.alloc (.cells #[.slice va v.length vc] 33):=⟨_,rfl⟩
 have hf2:Fr wb W2:=by rw [hW2]; exact (Fr.refl _).alloc _
 have hm1:A5 W2 (some ⟨w.heap.size+1,0,none⟩) [v]:=by rw [hW2,← hzb]; exact R0 wb va v vc (hv.fr hfb)
 have hbg:=LS aP aC aM cP cC cM P C M E [v] (some ⟨w.heap.size+1,0,none⟩) 1 W2 (ht.fr (hfb.trans hf2)) hm1 (by simp) (fun r hr=>by rw [AX.1 hr]; exact hvl)
 rw [Sk] at hbg
 have hsu:sE E P v=0→Hid (∀ W,Fr w W→Calls Tryz.prog 57 #[.agg #[.slice aP P.length cP,.slice aC C.length cC,.slice aM M.length cM],.slice va v.length vc] W fun e w'=>e=.returned (.bool (Ei C v))∧Fr W w'):=fun h0 W hW=>by
  obtain ⟨h1,h2⟩:=Rd h0
  obtain ⟨k1,k2,k3,k4,k5,k6,k7⟩:=ht.ok h1
  obtain ⟨v1,v2,v3⟩:=HO h2
  exact Fz C v v.length va aM aP aC vc cM P.length cP M.length cC W (hG.fr hW) (ht.c.fr hW) (by rw [v3]; exact k4) (hv.fr hW) rfl (by omega) (by omega) (IY v2) k6
 have hco:sE E P v=0→Hid (∀ W,Fr w W→Calls Tryz.prog 68 #[.slice aM M.length cM,.slice va v.length vc] W (VI W s)):=fun h0 W hW=>by
  obtain ⟨h1,h2⟩:=Rd h0
  obtain ⟨k1,k2,k3,k4,k5,k6,k7⟩:=ht.ok h1
  obtain ⟨v1,v2,v3⟩:=HO h2
  obtain ⟨m1,m2,m3,m4,m5⟩:=hM h0
  exact QQ M v s aM va cM vc v.length W (hG.fr hW) (hE.fr hW) (ht.m.fr hW) (by rw [v3]; exact m1) m2 m3 (by have:=(CV v1).1; omega) (hv.fr hW) rfl v2 m4 m5
 have e1:([v]:List (List Int)).length=1:=rfl
 rw [e1] at hbg
 obtain ⟨sb,hsb⟩:∃ sb,sb=Ei C v:=⟨_,rfl⟩
 obtain ⟨err,herr⟩:∃ err,err=sE E P v:=⟨_,rfl⟩
 rw [← hsb,← herr] at hsu
 rw [← herr] at hbg hco
 rw [← hsb,← herr]
 replace hsb:=hZ hsb
 replace herr:=hZ herr
 replace hbg:=hZ hbg
 have b0:=hT.a
 have b1:=hT.b
 have b2:=hT.c
 have c0:=hf2.keep b0
 have c1:=hf2.keep b1
 have c2:=hf2.keep b2
 have hf3:=hfb.trans hf2
 clear hM
 generalize P.length=n at *
 generalize C.length=nC at *
 generalize M.length=nM at *
 generalize v.length=m at *
 clear ht hT hm1 hv hG hf2 hE
 by_cases e0:err=0
 ·have hsu2:=hsu e0
  have hco2:=hco e0
  subst e0
  clear hsu hco herr
  go_enter Tryz.func34,Tryz.ntmps34
  go_upto_region 1 with (fail)
  rw [← hwb]
  clear hwb
  go_wp2_with fail
  rw [← hW2]
  refine hbg.out.mono ?_
  rintro e w3 ⟨rfl,hf4⟩
  replace c0:=hf4.keep c0
  replace c1:=hf4.keep c1
  replace c2:=hf4.keep c2
  clear hW2 b0 b1 b2
  go_wp2_with fail
  refine (hsu2.out _ (hf3.trans hf4)).mono ?_
  rintro e w4 ⟨rfl,hf5⟩
  replace c2:=hf5.keep c2
  have hf6:=(hf3.trans hf4).trans hf5
  cases sb with
  | false=>
    go_wp2_with fail
    go_ret2
    exact ⟨hf6,fun h=>absurd rfl h,fun _ _=>rfl,fun _ h=>(by cases h),fun _ h=>(by cases h),fun _ h=>(by cases h)⟩
  | true=>
    have hco3:=hZ (hco2.out w4 hf6)
    clear c0 c1 hco2
    go_wp2_with fail
    refine hco3.out.mono ?_
    rintro e w5 ⟨hf7,k1,k2,k3⟩
    cases hz:IF s.1 with
    | false=>
      obtain rfl:=k1 hz
      clear k2 k3
      go_wp2_with fail
      go_ret2
      exact ⟨hf6.trans hf7,fun h=>absurd rfl h,fun _ h=>(by cases h),fun _ _ _=>rfl,fun _ _ h=>(by rw [hz] at h; cases h),fun _ _ h=>(by rw [hz] at h; cases h)⟩
    | true=>
      cases hfit:s.2.all Bq with
      | false=>
        obtain rfl:=k2 hz hfit
        clear k1 k3
        go_wp2_with fail
        go_ret2
        exact ⟨hf6.trans hf7,fun h=>absurd rfl h,fun _ h=>(by cases h),fun _ _ h=>(by rw [hz] at h; cases h),fun _ _ _ _=>rfl,fun _ _ _ h=>(by rw [hfit] at h; cases h)⟩
      | true=>
        obtain ⟨a9,c9,rfl,he9⟩:=k3 hz hfit
        replace he9:=hZ he9
        clear k1 k2
        go_wp2_with fail
        go_ret2
        exact ⟨hf6.trans hf7,fun h=>absurd rfl h,fun _ h=>(by cases h),fun _ _ h=>(by rw [hz] at h; cases h),fun _ _ _ h=>(by rw [hfit] at h; cases h),fun _ _ _ _=>⟨a9,c9,rfl,he9.out⟩⟩
 ·have q0:(err != 0)=true:=Bs.2 e0
  have e9:=hZ e0
  clear hsu hco e0
  go_enter Tryz.func34,Tryz.ntmps34
  go_upto_region 1 with (fail)
  rw [← hwb]
  clear hwb
  go_wp2_with fail
  rw [← hW2]
  refine hbg.out.mono ?_
  rintro e w3 ⟨rfl,hf4⟩
  clear hW2 b0 b1 b2
  go_wp2_with fail
  go_ret2
  exact ⟨hf3.trans hf4,fun _=>rfl,fun h=>absurd h e9.out,fun h=>absurd h e9.out,fun h=>absurd h e9.out,fun h=>absurd h e9.out⟩
end Go.Proofs.YtiniigadkknboaaGreatDoor
