/- Contracts and laws: WBN. -/
import Derived.Test.YtiniigadkknboaaGreatDoorWBL
import Derived.Test.YtiniigadkknboaaGreatDoorWBM
import Derived.Test.YtiniigadkknboaaGreatDoorWBJ

set_option maxRecDepth 100000
set_option maxHeartbeats 1600000
namespace Go.Proofs.YtiniigadkknboaaGreatDoor
open Go.RowKit Go.Lib
attribute [local go_sem ↓] Go.wp_at_zero Go.wp_at_succ
theorem SupportErrors_any (P v:List Int) (aP va:Option Addr) (cP vc:Nat) (lim:Int) (w:World) (hG:G w) (hE:ErX w) (hP:El w iv aP P) (hv:El w iv va v) :
 Calls Tryz.prog 6 #[.slice aP P.length cP,.slice va v.length vc,.int .i64 lim] w fun e w'=>e=.returned (.bool true)∧Fr w w':=by
 have hkn:=hZ (fun W (hW:Fr w W)=>Known22_any W (hG.fr hW) (hE.fr hW))
 have hfe:=hZ (fun (n:Nat) W=>few_any va n vc W)
 by_cases h8:P.length≤8
 case neg=>
  have d8:decide ((8:Int) < (P.length:Int))=true:=decide_eq_true (by omega)
  have d9:decide (8 < P.length)=true:=decide_eq_true (by omega)
  generalize P.length=n at *
  generalize v.length=m at *
  clear hP hv hG hE h8
  go_enter Tryz.func6,Tryz.ntmps6
  go_wp2_with fail
  refine (hkn.out _ (Fr.refl _)).mono ?_
  rintro e w1 ⟨rfl,hf1⟩
  go_wp2_with fail
  refine (hkn.out _ hf1).mono ?_
  rintro e w2 ⟨rfl,hf2⟩
  go_wp2_with fail
  go_ret
  exact ⟨rfl,hf1.trans hf2⟩
 have d8:decide ((8:Int) < (P.length:Int))=false:=decide_eq_false (by omega)
 have d9:decide (8 < P.length)=false:=decide_eq_false (by omega)
 by_cases h7:v.length≤7
 case neg=>
  have d7:decide (v.length≤7)=false:=decide_eq_false h7
  generalize P.length=n at *
  generalize v.length=m at *
  clear hP hv hG hE h8 h7
  go_enter Tryz.func6,Tryz.ntmps6
  go_wp2_with fail
  refine (hkn.out _ (Fr.refl _)).mono ?_
  rintro e w1 ⟨rfl,hf1⟩
  go_wp2_with fail
  refine (hfe.out m w1).mono ?_
  rintro e w2 ⟨rfl,rfl⟩
  go_wp2_with fail
  refine (hkn.out _ hf1).mono ?_
  rintro e w3 ⟨rfl,hf3⟩
  go_wp2_with fail
  go_ret
  exact ⟨rfl,hf1.trans hf3⟩
 have d7:decide (v.length≤7)=true:=decide_eq_true h7
 have hid:=hZ (fun W (hW:Fr w W)=>Ident_any P.length W (hG.fr hW) (by omega))
 have hvk:=hZ (fun W (hW:Fr w W)=>VCheck_any P v aP va cP vc W (hP.fr hW) (hv.fr hW) (by omega) (by omega))
 have hmM:(unitM P.length).length=P.length:=unitM_len _
 go_enter Tryz.func6,Tryz.ntmps6
 go_wp2_with fail
 refine (hkn.out _ (Fr.refl _)).mono ?_
 rintro e w1 ⟨rfl,hf1⟩
 go_wp2_with fail
 refine (hfe.out v.length w1).mono ?_
 rintro e w1x ⟨rfl,rfl⟩
 go_wp2_with fail
 refine (hid.out w1x hf1).mono ?_
 rintro e w2 ⟨aM,cM,rfl,hcM,hMm,hf2⟩
 obtain ⟨w3,hw3⟩:∃ w3,w3=w2.alloc (.cells #[.slice aP P.length cP,.slice none 0 0,.slice aM P.length cM] 29):=⟨_,rfl⟩
 have hf3:Fr w2 w3:=by rw [hw3]; exact (Fr.refl _).alloc _
 have hT:=C3.new w2 (.slice aP P.length cP) (.slice none 0 0) (.slice aM P.length cM) 29
 rw [← hw3] at hT
 obtain ⟨tb,htb⟩:∃ tb,tb=w2.heap.size:=⟨_,rfl⟩
 rw [← htb] at hT
 have hfw3:=(hf1.trans hf2).trans hf3
 go_upto_region 4 with (fail)
 rw [← hw3,← htb]
 clear hw3
 have ht:TmF w3 aP none aM cP 0 cM P [] (unitM P.length) (primeE P):=TmF.idn (hG.fr hfw3) (hP.fr hfw3) (hMm.fr hf3) (by omega)
 have a0:=hT.a
 have a1:=hT.b
 have a2:=hT.c
 have hv3:=hv.fr hfw3
 have hG3:=hG.fr hfw3
 have hE3:=hE.fr hfw3
 have hvk3:=hZ (fun W (hW:Fr w3 W)=>hvk.out W (hfw3.trans hW))
 have hck:=hZ (fun W (hW:Fr w3 W)=>ht.ck W hW)
 have hsu:=hZ (fun W (hW:Fr w3 W)=>Supports_any aP none aM cP 0 cM P [] (unitM P.length) (primeE P) v va vc W (ht.fr hW) (hv3.fr hW) (by omega) (hG3.fr hW))
 obtain ⟨s,hs⟩:∃ s:List Int×List Int,sE (primeE P) P v=0→P.length≤6∧redT (unitM P.length) v (unitM P.length).length=some s∧zeroB s.1=true∧s.2=v∧s.2.all fitB=true∧∀ x,x ∈ s.2→(tx x).size≤1000000000:=by
  by_cases h0:sE (primeE P) P v=0
  ·obtain ⟨h1,h2⟩:=sE_zero h0
   obtain ⟨v1,v2,v3⟩:=valE_zero h2
   have h6:=(primeE_mem v1).2.1
   obtain ⟨s,r1,r2,r3,r4⟩:=unitM_red h6 v3 (rowE_fit v2)
   exact ⟨s,fun _=>⟨h6,r1,r2,r3,by rw [r3]; exact fits_all (rowE_fit v2),r4⟩⟩
  ·exact ⟨([],[]),fun h=>absurd h h0⟩
 have hco:=hZ (fun W (hW:Fr w3 W)=>SCoord_any aP none aM cP 0 cM P [] (unitM P.length) (primeE P) v s va vc W (ht.fr hW) (hv3.fr hW) (by omega) (hG3.fr hW) (hE3.fr hW) (fun h=>by
  obtain ⟨h6,r1,-,-,-,r4⟩:=hs h
  exact ⟨unitM_tab h6,by rw [hmM]; exact hcM,unitM_form _,r1,r4⟩))
 have hch:=hZ (fun W (hW:Fr w3 W)=>Chain_any aP none aM cP 0 cM P [] (unitM P.length) (primeE P) v v va va vc vc 1 W (ht.fr hW) (hv3.fr hW) (hv3.fr hW) (by omega) (by omega) (hG3.fr hW))
 rw [sbegE_two,supS_none,show chL v v ((1:Int).toNat - 2)=some [v,v] from rfl] at hch
 rw [supS_none] at hsu hco
 unfold SCoRet at hco
 unfold ChRet at hch
 have hre:=hZ (fun (a:Option Addr) (c:Nat) W (hW:Fr w3 W) (h1:El W iv a v)=>EqRows_any v v a va c vc W h1 (hv3.fr hW) (by omega) (by omega))
 rw [decide_eq_true rfl] at hre
 have hpe:=hZ (fun (h:limE (primeE P) lim≠0) W (hW:Fr w3 W)=>Patents_err aP none aM cP 0 cM P [] (unitM P.length) (primeE P) lim W (ht.fr hW) h)
 have hle:=hZ (fun (h:limE (primeE P) lim≠0) W (hW:Fr w3 W)=>Least_err aP none aM cP 0 cM P [] (unitM P.length) (primeE P) lim W (ht.fr hW) h)
 have hgood:Hid (∀ k:Nat,lim=(k:Int)→primeE P=0→1≤k→k≤20→∃ L r,L.length=k∧L=1 :: r∧(∀ W,Fr w3 W→Calls Tryz.prog 28 #[.agg #[.slice aP P.length cP,.slice none 0 0,.slice aM P.length cM],.int .i64 k] W (PtRet W 0 L))∧(∀ W,Fr w3 W→Calls Tryz.prog 29 #[.agg #[.slice aP P.length cP,.slice none 0 0,.slice aM P.length cM],.int .i64 k] W (LsRet W 0 L))):=fun k hk h0 h1 h2=>by
  cases P with
  | nil=>cases h0
  | cons p0 r=>
    obtain ⟨e1,r9,e2⟩:=dvT_nil (p0 :: r) h1
    have hl0:limE (primeE (p0 :: r)) lim=0:=by
     unfold limE
     rw [if_neg (by rw [h0]; simp),if_neg (by omega)]
    have hdk:∀ W,Fr w3 W→limE (primeE (p0 :: r)) lim=0→DvOk W aP none p0 r [] lim.toNat:=fun W hW _=>⟨h0,(ht.fr hW).p,.inl rfl,fun r hr=>(by cases hr),by simp,fun r hr=>(by cases hr),by omega,fun j j1 j2=>pat20 h0 j1 (by omega)⟩
    refine ⟨dvT [] (p0 :: r) k,r9,e1,e2,fun W hW=>?_,fun W hW=>?_⟩
    ·have h9:=Patents_any aP none aM cP 0 cM p0 r [] (unitM (p0 :: r).length) (primeE (p0 :: r)) lim W (ht.fr hW) (hdk W hW) (hG3.fr hW)
     rw [hl0,hmM,hk,Int.toNat_natCast] at h9
     exact h9
    ·have h9:=Least_any aP none aM cP 0 cM p0 r [] (unitM (p0 :: r).length) (primeE (p0 :: r)) lim W (ht.fr hW) (hdk W hW) (hG3.fr hW)
     rw [hl0,hmM,hk,Int.toNat_natCast] at h9
     exact h9
 rw [hmM,List.length_nil] at hck hsu hco hch hpe hle
 have hsE:sE (primeE P) P v=if primeE P≠0 then primeE P else valE P v:=rfl
 have hlE:limE (primeE P) lim=if primeE P≠0 then primeE P else if lim < 1∨1000 < lim then 3 else 0:=rfl
 replace hs:=hZ hs
 generalize primeE P=E at *
 generalize valE P v=X at *
 generalize sE E P v=S at *
 generalize limE E lim=Q at *
 replace hsE:=hZ hsE
 replace hlE:=hZ hlE
 generalize P.length=n at *
 generalize hvm:v.length=m at *
 replace hvm:=hZ hvm
 replace htb:=hZ htb
 replace hmM:=hZ hmM
 clear ht hT hv hP hG hE hMm hcM hid hvk hkn hfe hv3 hG3 hE3 d7 d8 d9 h7 h8
 by_cases hE0:E=0
 case neg=>
  have q0:(E != 0)=true:=bne_iff_ne.2 hE0
  have q1:(E == 0)=false:=by rw [beq_eq_false_iff_ne]; exact hE0
  obtain rfl:S=E:=by rw [hsE.out,if_pos hE0]
  obtain rfl:Q=S:=by rw [hlE.out,if_pos hE0]
  have hpe:=hZ (hpe.out hE0)
  have hle:=hZ (hle.out hE0)
  have hx:=hZ hE0
  rw [decide_eq_false hE0,Bool.false_and] at hsu
  have hchE:chE Q true true 1=Q:=by unfold chE; rw [if_pos hE0]
  rw [hchE] at hch
  clear hE0 hchE hgood hvk3 hs hre
  have hmx:=hck.out w3 (Fr.refl _)
  go_wp2_with fail
  refine hmx.mono ?_
  rintro e w4 ⟨rfl,hf4⟩
  replace a0:=hf4.keep a0
  replace a1:=hf4.keep a1
  replace a2:=hf4.keep a2
  go_wp2_with fail
  refine (hsu.out w4 hf4).mono ?_
  rintro e w6 ⟨rfl,hf6⟩
  have hg6:=(hf4).trans hf6
  replace a0:=hf6.keep a0
  replace a1:=hf6.keep a1
  replace a2:=hf6.keep a2
  go_wp2_with fail
  refine (hco.out w6 hg6).mono ?_
  rintro e w7 ⟨hf7,hok,-,-,-,-⟩
  have hg7:=hg6.trans hf7
  replace a0:=hf7.keep a0
  replace a1:=hf7.keep a1
  replace a2:=hf7.keep a2
  obtain rfl:=hok hx.out
  clear hok
  go_wp2_with fail
  refine (hch.out w7 hg7).mono ?_
  rintro e w8 ⟨hf8,hok,-,-⟩
  have hg8:=hg7.trans hf8
  replace a0:=hf8.keep a0
  replace a1:=hf8.keep a1
  replace a2:=hf8.keep a2
  obtain rfl:=hok hx.out
  clear hok
  go_wp2_with fail
  refine (hpe.out _ hg8).mono ?_
  rintro e w9 ⟨rfl,hf9⟩
  have hg9:=hg8.trans hf9
  replace a0:=hf9.keep a0
  replace a1:=hf9.keep a1
  replace a2:=hf9.keep a2
  go_wp2_with fail
  refine (hle.out w9 hg9).mono ?_
  rintro e wA ⟨rfl,hfA⟩
  go_wp2_with fail
  go_ret
  exact ⟨rfl,hfw3.trans (hg9.trans hfA)⟩
 subst hE0
 by_cases hb:lim < 1∨1000 < lim
 ·obtain rfl:Q=3:=by rw [hlE.out,if_neg (by decide),if_pos hb]
  have hpe:=hZ (hpe.out (by decide))
  have hle:=hZ (hle.out (by decide))
  obtain rfl:S=X:=by rw [hsE.out,if_neg (by decide)]
  have l1:decide (lim < 1)=true∨decide (lim < 1)=false∧decide (1000 < lim)=true:=by
   by_cases h:lim < 1
   ·exact .inl (decide_eq_true h)
   ·exact .inr ⟨decide_eq_false h,decide_eq_true (by omega)⟩
  clear hgood hb
  rcases l1 with l1 | ⟨l1,l2⟩
  ·skip
   have hmx:=hck.out w3 (Fr.refl _)
   go_wp2_with fail
   refine hmx.mono ?_
   rintro e w4 ⟨rfl,hf4⟩
   replace a0:=hf4.keep a0
   replace a1:=hf4.keep a1
   replace a2:=hf4.keep a2
   by_cases hX:S=0
   ·obtain ⟨-,-,z1,z2,z3,-⟩:=hs.out hX
    subst hX
    rw [z1,z2,hvm.out] at hco
    have z3':v.all fitB=true:=by rw [← z2]; exact z3
    rw [decide_eq_true rfl,Bool.true_and] at hsu
    have hchE:chE 0 true true 1=0:=rfl
    rw [hchE] at hch
    replace z3':=hZ z3'
    clear hchE hs z1 z2 z3
    go_wp2_with fail
    refine (hvk3.out w4 hf4).mono ?_
    rintro e w5 ⟨rfl,hf5⟩
    replace a0:=hf5.keep a0
    replace a1:=hf5.keep a1
    replace a2:=hf5.keep a2
    have hg5:=hf4.trans hf5
    go_wp2_with fail
    refine (hsu.out w5 hg5).mono ?_
    rintro e w6 ⟨rfl,hf6⟩
    have hg6:=(hg5).trans hf6
    replace a0:=hf6.keep a0
    replace a1:=hf6.keep a1
    replace a2:=hf6.keep a2
    go_wp2_with fail
    refine (hco.out w6 hg6).mono ?_
    rintro e w7 ⟨hf7,-,-,-,-,hok⟩
    have hg7:=hg6.trans hf7
    replace a0:=hf7.keep a0
    replace a1:=hf7.keep a1
    replace a2:=hf7.keep a2
    obtain ⟨ka,kc,rfl,hka⟩:=hok trivial trivial trivial z3'.out
    clear hok
    go_wp2_with fail
    refine (hch.out w7 hg7).mono ?_
    rintro e w8 ⟨hf8,-,-,hok⟩
    have hg8:=hg7.trans hf8
    replace a0:=hf8.keep a0
    replace a1:=hf8.keep a1
    replace a2:=hf8.keep a2
    obtain ⟨da,dc,rfl,-⟩:=hok trivial _ rfl
    clear hok
    have hrq:=hZ (hre.out ka kc w8 hg8 (hka.fr hf8))
    go_wp2_with fail
    refine hrq.out.mono ?_
    rintro e w8x ⟨rfl,hf8x⟩
    replace a0:=hf8x.keep a0
    replace a1:=hf8x.keep a1
    replace a2:=hf8x.keep a2
    obtain ⟨w8y,hw8y⟩:∃ w8y,w8y=w8x:=⟨_,rfl⟩
    have hg8x:=hg8.trans hf8x
    clear hg8 hf8
    have hg8:=hg8x
    clear hg8x hw8y w8y
    go_wp2_with fail
    refine (hpe.out _ hg8).mono ?_
    rintro e w9 ⟨rfl,hf9⟩
    have hg9:=hg8.trans hf9
    replace a0:=hf9.keep a0
    replace a1:=hf9.keep a1
    replace a2:=hf9.keep a2
    go_wp2_with fail
    refine (hle.out w9 hg9).mono ?_
    rintro e wA ⟨rfl,hfA⟩
    go_wp2_with fail
    go_ret
    exact ⟨rfl,hfw3.trans (hg9.trans hfA)⟩
   ·have x0:(S != 0)=true:=bne_iff_ne.2 hX
    have x1:(S == 0)=false:=by rw [beq_eq_false_iff_ne]; exact hX
    have hx:=hZ hX
    rw [decide_eq_false hX,Bool.false_and] at hsu
    have hchE:chE S true true 1=S:=by unfold chE; rw [if_pos hX]
    rw [hchE] at hch
    clear hX hchE hs hre
    go_wp2_with fail
    refine (hvk3.out w4 hf4).mono ?_
    rintro e w5 ⟨rfl,hf5⟩
    replace a0:=hf5.keep a0
    replace a1:=hf5.keep a1
    replace a2:=hf5.keep a2
    have hg5:=hf4.trans hf5
    go_wp2_with fail
    refine (hsu.out w5 hg5).mono ?_
    rintro e w6 ⟨rfl,hf6⟩
    have hg6:=(hg5).trans hf6
    replace a0:=hf6.keep a0
    replace a1:=hf6.keep a1
    replace a2:=hf6.keep a2
    go_wp2_with fail
    refine (hco.out w6 hg6).mono ?_
    rintro e w7 ⟨hf7,hok,-,-,-,-⟩
    have hg7:=hg6.trans hf7
    replace a0:=hf7.keep a0
    replace a1:=hf7.keep a1
    replace a2:=hf7.keep a2
    obtain rfl:=hok hx.out
    clear hok
    go_wp2_with fail
    refine (hch.out w7 hg7).mono ?_
    rintro e w8 ⟨hf8,hok,-,-⟩
    have hg8:=hg7.trans hf8
    replace a0:=hf8.keep a0
    replace a1:=hf8.keep a1
    replace a2:=hf8.keep a2
    obtain rfl:=hok hx.out
    clear hok
    go_wp2_with fail
    refine (hpe.out _ hg8).mono ?_
    rintro e w9 ⟨rfl,hf9⟩
    have hg9:=hg8.trans hf9
    replace a0:=hf9.keep a0
    replace a1:=hf9.keep a1
    replace a2:=hf9.keep a2
    go_wp2_with fail
    refine (hle.out w9 hg9).mono ?_
    rintro e wA ⟨rfl,hfA⟩
    go_wp2_with fail
    go_ret
    exact ⟨rfl,hfw3.trans (hg9.trans hfA)⟩
  ·skip
   have hmx:=hck.out w3 (Fr.refl _)
   go_wp2_with fail
   refine hmx.mono ?_
   rintro e w4 ⟨rfl,hf4⟩
   replace a0:=hf4.keep a0
   replace a1:=hf4.keep a1
   replace a2:=hf4.keep a2
   by_cases hX:S=0
   ·obtain ⟨-,-,z1,z2,z3,-⟩:=hs.out hX
    subst hX
    rw [z1,z2,hvm.out] at hco
    have z3':v.all fitB=true:=by rw [← z2]; exact z3
    rw [decide_eq_true rfl,Bool.true_and] at hsu
    have hchE:chE 0 true true 1=0:=rfl
    rw [hchE] at hch
    replace z3':=hZ z3'
    clear hchE hs z1 z2 z3
    go_wp2_with fail
    refine (hvk3.out w4 hf4).mono ?_
    rintro e w5 ⟨rfl,hf5⟩
    replace a0:=hf5.keep a0
    replace a1:=hf5.keep a1
    replace a2:=hf5.keep a2
    have hg5:=hf4.trans hf5
    go_wp2_with fail
    refine (hsu.out w5 hg5).mono ?_
    rintro e w6 ⟨rfl,hf6⟩
    have hg6:=(hg5).trans hf6
    replace a0:=hf6.keep a0
    replace a1:=hf6.keep a1
    replace a2:=hf6.keep a2
    go_wp2_with fail
    refine (hco.out w6 hg6).mono ?_
    rintro e w7 ⟨hf7,-,-,-,-,hok⟩
    have hg7:=hg6.trans hf7
    replace a0:=hf7.keep a0
    replace a1:=hf7.keep a1
    replace a2:=hf7.keep a2
    obtain ⟨ka,kc,rfl,hka⟩:=hok trivial trivial trivial z3'.out
    clear hok
    go_wp2_with fail
    refine (hch.out w7 hg7).mono ?_
    rintro e w8 ⟨hf8,-,-,hok⟩
    have hg8:=hg7.trans hf8
    replace a0:=hf8.keep a0
    replace a1:=hf8.keep a1
    replace a2:=hf8.keep a2
    obtain ⟨da,dc,rfl,-⟩:=hok trivial _ rfl
    clear hok
    have hrq:=hZ (hre.out ka kc w8 hg8 (hka.fr hf8))
    go_wp2_with fail
    refine hrq.out.mono ?_
    rintro e w8x ⟨rfl,hf8x⟩
    replace a0:=hf8x.keep a0
    replace a1:=hf8x.keep a1
    replace a2:=hf8x.keep a2
    obtain ⟨w8y,hw8y⟩:∃ w8y,w8y=w8x:=⟨_,rfl⟩
    have hg8x:=hg8.trans hf8x
    clear hg8 hf8
    have hg8:=hg8x
    clear hg8x hw8y w8y
    go_wp2_with fail
    refine (hpe.out _ hg8).mono ?_
    rintro e w9 ⟨rfl,hf9⟩
    have hg9:=hg8.trans hf9
    replace a0:=hf9.keep a0
    replace a1:=hf9.keep a1
    replace a2:=hf9.keep a2
    go_wp2_with fail
    refine (hle.out w9 hg9).mono ?_
    rintro e wA ⟨rfl,hfA⟩
    go_wp2_with fail
    go_ret
    exact ⟨rfl,hfw3.trans (hg9.trans hfA)⟩
   ·have x0:(S != 0)=true:=bne_iff_ne.2 hX
    have x1:(S == 0)=false:=by rw [beq_eq_false_iff_ne]; exact hX
    have hx:=hZ hX
    rw [decide_eq_false hX,Bool.false_and] at hsu
    have hchE:chE S true true 1=S:=by unfold chE; rw [if_pos hX]
    rw [hchE] at hch
    clear hX hchE hs hre
    go_wp2_with fail
    refine (hvk3.out w4 hf4).mono ?_
    rintro e w5 ⟨rfl,hf5⟩
    replace a0:=hf5.keep a0
    replace a1:=hf5.keep a1
    replace a2:=hf5.keep a2
    have hg5:=hf4.trans hf5
    go_wp2_with fail
    refine (hsu.out w5 hg5).mono ?_
    rintro e w6 ⟨rfl,hf6⟩
    have hg6:=(hg5).trans hf6
    replace a0:=hf6.keep a0
    replace a1:=hf6.keep a1
    replace a2:=hf6.keep a2
    go_wp2_with fail
    refine (hco.out w6 hg6).mono ?_
    rintro e w7 ⟨hf7,hok,-,-,-,-⟩
    have hg7:=hg6.trans hf7
    replace a0:=hf7.keep a0
    replace a1:=hf7.keep a1
    replace a2:=hf7.keep a2
    obtain rfl:=hok hx.out
    clear hok
    go_wp2_with fail
    refine (hch.out w7 hg7).mono ?_
    rintro e w8 ⟨hf8,hok,-,-⟩
    have hg8:=hg7.trans hf8
    replace a0:=hf8.keep a0
    replace a1:=hf8.keep a1
    replace a2:=hf8.keep a2
    obtain rfl:=hok hx.out
    clear hok
    go_wp2_with fail
    refine (hpe.out _ hg8).mono ?_
    rintro e w9 ⟨rfl,hf9⟩
    have hg9:=hg8.trans hf9
    replace a0:=hf9.keep a0
    replace a1:=hf9.keep a1
    replace a2:=hf9.keep a2
    go_wp2_with fail
    refine (hle.out w9 hg9).mono ?_
    rintro e wA ⟨rfl,hfA⟩
    go_wp2_with fail
    go_ret
    exact ⟨rfl,hfw3.trans (hg9.trans hfA)⟩
 ·obtain rfl:Q=0:=by rw [hlE.out,if_neg (by decide),if_neg hb]
  obtain rfl:S=X:=by rw [hsE.out,if_neg (by decide)]
  have l1:decide (lim < 1)=false:=decide_eq_false (by omega)
  have l2:decide (1000 < lim)=false:=decide_eq_false (by omega)
  by_cases h20:20 < lim
  ·have l3:decide (20 < lim)=true:=decide_eq_true h20
   clear hgood hb h20 hpe hle
   have hmx:=hck.out w3 (Fr.refl _)
   go_wp2_with fail
   refine hmx.mono ?_
   rintro e w4 ⟨rfl,hf4⟩
   replace a0:=hf4.keep a0
   replace a1:=hf4.keep a1
   replace a2:=hf4.keep a2
   by_cases hX:S=0
   ·obtain ⟨-,-,z1,z2,z3,-⟩:=hs.out hX
    subst hX
    rw [z1,z2,hvm.out] at hco
    have z3':v.all fitB=true:=by rw [← z2]; exact z3
    rw [decide_eq_true rfl,Bool.true_and] at hsu
    have hchE:chE 0 true true 1=0:=rfl
    rw [hchE] at hch
    replace z3':=hZ z3'
    clear hchE hs z1 z2 z3
    go_wp2_with fail
    refine (hvk3.out w4 hf4).mono ?_
    rintro e w5 ⟨rfl,hf5⟩
    replace a0:=hf5.keep a0
    replace a1:=hf5.keep a1
    replace a2:=hf5.keep a2
    have hg5:=hf4.trans hf5
    go_wp2_with fail
    refine (hsu.out w5 hg5).mono ?_
    rintro e w6 ⟨rfl,hf6⟩
    have hg6:=(hg5).trans hf6
    replace a0:=hf6.keep a0
    replace a1:=hf6.keep a1
    replace a2:=hf6.keep a2
    go_wp2_with fail
    refine (hco.out w6 hg6).mono ?_
    rintro e w7 ⟨hf7,-,-,-,-,hok⟩
    have hg7:=hg6.trans hf7
    replace a0:=hf7.keep a0
    replace a1:=hf7.keep a1
    replace a2:=hf7.keep a2
    obtain ⟨ka,kc,rfl,hka⟩:=hok trivial trivial trivial z3'.out
    clear hok
    go_wp2_with fail
    refine (hch.out w7 hg7).mono ?_
    rintro e w8 ⟨hf8,-,-,hok⟩
    have hg8:=hg7.trans hf8
    replace a0:=hf8.keep a0
    replace a1:=hf8.keep a1
    replace a2:=hf8.keep a2
    obtain ⟨da,dc,rfl,-⟩:=hok trivial _ rfl
    clear hok
    have hrq:=hZ (hre.out ka kc w8 hg8 (hka.fr hf8))
    go_wp2_with fail
    refine hrq.out.mono ?_
    rintro e w8x ⟨rfl,hf8x⟩
    replace a0:=hf8x.keep a0
    replace a1:=hf8x.keep a1
    replace a2:=hf8x.keep a2
    obtain ⟨w8y,hw8y⟩:∃ w8y,w8y=w8x:=⟨_,rfl⟩
    have hg8x:=hg8.trans hf8x
    clear hg8 hf8
    have hg8:=hg8x
    clear hg8x hw8y w8y
    go_wp2_with fail
    go_ret
    exact ⟨rfl,hfw3.trans hg8⟩
   ·have x0:(S != 0)=true:=bne_iff_ne.2 hX
    have x1:(S == 0)=false:=by rw [beq_eq_false_iff_ne]; exact hX
    have hx:=hZ hX
    rw [decide_eq_false hX,Bool.false_and] at hsu
    have hchE:chE S true true 1=S:=by unfold chE; rw [if_pos hX]
    rw [hchE] at hch
    clear hX hchE hs hre
    go_wp2_with fail
    refine (hvk3.out w4 hf4).mono ?_
    rintro e w5 ⟨rfl,hf5⟩
    replace a0:=hf5.keep a0
    replace a1:=hf5.keep a1
    replace a2:=hf5.keep a2
    have hg5:=hf4.trans hf5
    go_wp2_with fail
    refine (hsu.out w5 hg5).mono ?_
    rintro e w6 ⟨rfl,hf6⟩
    have hg6:=(hg5).trans hf6
    replace a0:=hf6.keep a0
    replace a1:=hf6.keep a1
    replace a2:=hf6.keep a2
    go_wp2_with fail
    refine (hco.out w6 hg6).mono ?_
    rintro e w7 ⟨hf7,hok,-,-,-,-⟩
    have hg7:=hg6.trans hf7
    replace a0:=hf7.keep a0
    replace a1:=hf7.keep a1
    replace a2:=hf7.keep a2
    obtain rfl:=hok hx.out
    clear hok
    go_wp2_with fail
    refine (hch.out w7 hg7).mono ?_
    rintro e w8 ⟨hf8,hok,-,-⟩
    have hg8:=hg7.trans hf8
    replace a0:=hf8.keep a0
    replace a1:=hf8.keep a1
    replace a2:=hf8.keep a2
    obtain rfl:=hok hx.out
    clear hok
    go_wp2_with fail
    go_ret
    exact ⟨rfl,hfw3.trans hg8⟩
  ·have l3:decide (20 < lim)=false:=decide_eq_false h20
   obtain ⟨k,hk⟩:∃ k:Nat,lim=k:=⟨lim.toNat,by omega⟩
   obtain ⟨L,r9,hL1,hL2,hpo,hlo⟩:=hgood.out k hk rfl (by omega) (by omega)
   rw [← hk] at hpo hlo
   have hkl:((k:Int) == lim)=true:=by rw [hk]; simp
   unfold PtRet at hpo
   unfold LsRet at hlo
   rw [hL1] at hpo
   replace hpo:=hZ hpo
   replace hlo:=hZ hlo
   replace hL2:=hZ hL2
   replace hL1:=hZ hL1
   replace hk:=hZ hk
   clear hgood hb h20 hpe hle
   have hmx:=hck.out w3 (Fr.refl _)
   go_wp2_with fail
   refine hmx.mono ?_
   rintro e w4 ⟨rfl,hf4⟩
   replace a0:=hf4.keep a0
   replace a1:=hf4.keep a1
   replace a2:=hf4.keep a2
   by_cases hX:S=0
   ·obtain ⟨-,-,z1,z2,z3,-⟩:=hs.out hX
    subst hX
    rw [z1,z2,hvm.out] at hco
    have z3':v.all fitB=true:=by rw [← z2]; exact z3
    rw [decide_eq_true rfl,Bool.true_and] at hsu
    have hchE:chE 0 true true 1=0:=rfl
    rw [hchE] at hch
    replace z3':=hZ z3'
    clear hchE hs z1 z2 z3
    go_wp2_with fail
    refine (hvk3.out w4 hf4).mono ?_
    rintro e w5 ⟨rfl,hf5⟩
    replace a0:=hf5.keep a0
    replace a1:=hf5.keep a1
    replace a2:=hf5.keep a2
    have hg5:=hf4.trans hf5
    go_wp2_with fail
    refine (hsu.out w5 hg5).mono ?_
    rintro e w6 ⟨rfl,hf6⟩
    have hg6:=(hg5).trans hf6
    replace a0:=hf6.keep a0
    replace a1:=hf6.keep a1
    replace a2:=hf6.keep a2
    go_wp2_with fail
    refine (hco.out w6 hg6).mono ?_
    rintro e w7 ⟨hf7,-,-,-,-,hok⟩
    have hg7:=hg6.trans hf7
    replace a0:=hf7.keep a0
    replace a1:=hf7.keep a1
    replace a2:=hf7.keep a2
    obtain ⟨ka,kc,rfl,hka⟩:=hok trivial trivial trivial z3'.out
    clear hok
    go_wp2_with fail
    refine (hch.out w7 hg7).mono ?_
    rintro e w8 ⟨hf8,-,-,hok⟩
    have hg8:=hg7.trans hf8
    replace a0:=hf8.keep a0
    replace a1:=hf8.keep a1
    replace a2:=hf8.keep a2
    obtain ⟨da,dc,rfl,-⟩:=hok trivial _ rfl
    clear hok
    have hrq:=hZ (hre.out ka kc w8 hg8 (hka.fr hf8))
    go_wp2_with fail
    refine hrq.out.mono ?_
    rintro e w8x ⟨rfl,hf8x⟩
    replace a0:=hf8x.keep a0
    replace a1:=hf8x.keep a1
    replace a2:=hf8x.keep a2
    obtain ⟨w8y,hw8y⟩:∃ w8y,w8y=w8x:=⟨_,rfl⟩
    have hg8x:=hg8.trans hf8x
    clear hg8 hf8
    have hg8:=hg8x
    clear hg8x hw8y w8y
    go_wp2_with fail
    refine (hpo.out _ hg8).mono ?_
    rintro e w9 ⟨hf9,-,hok9⟩
    obtain ⟨la,lc,rfl,-⟩:=hok9 trivial
    clear hok9
    have hg9:=hg8.trans hf9
    replace a0:=hf9.keep a0
    replace a1:=hf9.keep a1
    replace a2:=hf9.keep a2
    go_wp2_with fail
    refine (hlo.out w9 hg9).mono ?_
    rintro e wA ⟨hfA,-,-,hokA⟩
    obtain rfl:=hokA trivial _ _ hL2.out
    clear hokA
    go_wp2_with fail
    go_ret
    exact ⟨rfl,hfw3.trans (hg9.trans hfA)⟩
   ·have x0:(S != 0)=true:=bne_iff_ne.2 hX
    have x1:(S == 0)=false:=by rw [beq_eq_false_iff_ne]; exact hX
    have hx:=hZ hX
    rw [decide_eq_false hX,Bool.false_and] at hsu
    have hchE:chE S true true 1=S:=by unfold chE; rw [if_pos hX]
    rw [hchE] at hch
    clear hX hchE hs hre
    go_wp2_with fail
    refine (hvk3.out w4 hf4).mono ?_
    rintro e w5 ⟨rfl,hf5⟩
    replace a0:=hf5.keep a0
    replace a1:=hf5.keep a1
    replace a2:=hf5.keep a2
    have hg5:=hf4.trans hf5
    go_wp2_with fail
    refine (hsu.out w5 hg5).mono ?_
    rintro e w6 ⟨rfl,hf6⟩
    have hg6:=(hg5).trans hf6
    replace a0:=hf6.keep a0
    replace a1:=hf6.keep a1
    replace a2:=hf6.keep a2
    go_wp2_with fail
    refine (hco.out w6 hg6).mono ?_
    rintro e w7 ⟨hf7,hok,-,-,-,-⟩
    have hg7:=hg6.trans hf7
    replace a0:=hf7.keep a0
    replace a1:=hf7.keep a1
    replace a2:=hf7.keep a2
    obtain rfl:=hok hx.out
    clear hok
    go_wp2_with fail
    refine (hch.out w7 hg7).mono ?_
    rintro e w8 ⟨hf8,hok,-,-⟩
    have hg8:=hg7.trans hf8
    replace a0:=hf8.keep a0
    replace a1:=hf8.keep a1
    replace a2:=hf8.keep a2
    obtain rfl:=hok hx.out
    clear hok
    go_wp2_with fail
    refine (hpo.out _ hg8).mono ?_
    rintro e w9 ⟨hf9,-,hok9⟩
    obtain ⟨la,lc,rfl,-⟩:=hok9 trivial
    clear hok9
    have hg9:=hg8.trans hf9
    replace a0:=hf9.keep a0
    replace a1:=hf9.keep a1
    replace a2:=hf9.keep a2
    go_wp2_with fail
    refine (hlo.out w9 hg9).mono ?_
    rintro e wA ⟨hfA,-,-,hokA⟩
    obtain rfl:=hokA trivial _ _ hL2.out
    clear hokA
    go_wp2_with fail
    go_ret
    exact ⟨rfl,hfw3.trans (hg9.trans hfA)⟩
end Go.Proofs.YtiniigadkknboaaGreatDoor
