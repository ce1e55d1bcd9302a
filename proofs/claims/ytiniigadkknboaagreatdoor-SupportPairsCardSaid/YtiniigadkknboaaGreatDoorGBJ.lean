/- Contracts and laws: GBJ. -/
import Derived.Test.YtiniigadkknboaaGreatDoorGBI
import Derived.Test.YtiniigadkknboaaGreatDoorGBE
import Derived.Test.YtiniigadkknboaaGreatDoorGAE
import Derived.Test.YtiniigadkknboaaGreatDoorGAG
import Derived.IntWalk
import Derived.Test.YtiniigadkknboaaGreatDoorGBB
import Derived.Test.YtiniigadkknboaaGreatDoorGBD
import Derived.Test.YtiniigadkknboaaGreatDoorGBH
import Derived.Test.YtiniigadkknboaaGreatDoorGAT
import Derived.BigQuiet
import Derived.Test.YtiniigadkknboaaGreatDoorGAK

set_option maxRecDepth 100000
set_option maxHeartbeats 1600000
namespace Go.Proofs.YtiniigadkknboaaGreatDoor
open Go.RowKit Go.Lib
attribute [local go_sem ↓] Go.wp_at_zero Go.wp_at_succ
def Mn (a b:List Int):List Int:=LO (a.zip b)
theorem Py {a b:List Int} {n:Nat} (ha:a.length=n) (hb:b.length=n):(Mn a b).length=n:=by
 unfold Mn LO; rw [An,WT,ha,hb,Nat.min_self]
theorem WR (a b:List Int) (n:Nat) (aa ba:Option Addr) (ac bc:Nat) (w:World) (hG:G w) (ha:El w iv aa a) (hb:El w iv ba b) (hla:a.length=n) (hlb:b.length=n) (hra:CA a=0) (hrb:CA b=0) (h1:1≤n) (h64:n≤64) :
 Calls Tryz.prog 26 #[.slice aa n ac,.slice ba n bc] w (Xt w (Mn a b)):=by
 have e1:(a.zip b).map Prod.fst=a:=List.map_fst_zip (by omega)
 have e2:(a.zip b).map Prod.snd=b:=List.map_snd_zip (by omega)
 have el:(a.zip b).length=n:=by rw [WT,hla,hlb,Nat.min_self]
 have h9:=X7 (a.zip b) aa ba ac bc w hG (by rw [e1]; exact ha) (by rw [e2]; exact hb) (by rw [e1]; exact hra) (by rw [e2]; exact hrb) (by omega) (by omega)
 rw [el] at h9
 exact h9
def PX (v u:List Int):Nat→Option (List (List Int))
 | 0=>some [v,u]
 | k+1=>(PX v u k).bind fun l=>if CA (Mn (l[k]?.getD []) (l[k+1]?.getD []))=0 then some (l ++ [Mn (l[k]?.getD []) (l[k+1]?.getD [])]) else none
theorem Pt {n:Nat} {v u:List Int} (hv:v.length=n) (hu:u.length=n) (hrv:CA v=0) (hru:CA u=0):∀ (k:Nat) (l:List (List Int)),PX v u k=some l→l.length=k+2∧∀ r,r ∈ l→r.length=n∧CA r=0
 | 0,l,h=>by
   injection h with h
   subst h
   refine ⟨rfl,fun r hr=>?_⟩
   rcases Bu.1 hr with rfl | hr
   ·exact ⟨hv,hrv⟩
   ·rw [AX.1 hr]; exact ⟨hu,hru⟩
 | k+1,l,h=>by
   rw [PX] at h
   obtain ⟨m,h1,h2⟩:=AY.1 h
   obtain ⟨a,b⟩:=Pt hv hu hrv hru k m h1
   by_cases e:CA (Mn (m[k]?.getD []) (m[k+1]?.getD []))=0
   ·rw [Ai e] at h2
    injection h2 with h2
    subst h2
    refine ⟨by rw [Ar,a]; rfl,fun r hr=>?_⟩
    rcases BD.1 hr with hr | hr
    ·exact b r hr
    ·rw [AX.1 hr]
     refine ⟨Py ?_ ?_,e⟩
     ·rw [Ac (by omega)]; exact (b _ (AG _)).1
     ·rw [Ac (by omega)]; exact (b _ (AG _)).1
   ·rw [Ag e] at h2; cases h2
theorem Pu {v u:List Int} {k:Nat} (h:PX v u k=none):∀ j,PX v u (k+j)=none
 | 0=>h
 | j+1=>by show (PX v u (k+j)).bind _=none; rw [Pu h j]; rfl
theorem Sq {l:List Int} (h:CA l≠0):CA l=4:=by
 unfold CA at h ⊢
 split
 ·rfl
 ·split
  ·rfl
  ·rename_i h1 h2
   rw [Ag h1,Ag h2] at h
   exact absurd rfl h
theorem GI.two {w:World} {base g1 g2 c1 c2:Nat} {v u:List Int} (hg:gN≤base) (hb:base≤w.heap.size) (h1:IB w g1 0 v) (h2:IB w g2 0 u) (hne:g1≠g2):GI (w.alloc (.cells #[.slice (some ⟨g1,0,none⟩) v.length c1,.slice (some ⟨g2,0,none⟩) u.length c2] 33)) base 33 (.slice (some ⟨w.heap.size,0,none⟩) 2 2) [(g1,0,c1),(g2,0,c2)] [v,u]:=by
 refine ⟨hg,rfl,Ig (CB w _) hb rfl (by unfold maxLen; omega),fun i h xs hi hx=>?_,fun i j hi hj h3 h4 hij=>?_⟩
 ·have hs:∀ g,g < w.heap.size→(Value.slice (some ⟨w.heap.size,0,none⟩) 2 2).ownBlock≠some g:=fun g hg e=>by injection e with e; have e:w.heap.size=g:=e; omega
  match i,hi,hx with
  | 0,hi,hx=>
    have hi:(g1,0,c1)=h:=by simpa using hi
    have hx:v=xs:=by simpa using hx
    subst hi; subst hx
    exact ⟨h1.fr ((Fr.refl _).alloc _),hs _ h1.2.1⟩
  | 1,hi,hx=>
    have hi:(g2,0,c2)=h:=by simpa using hi
    have hx:u=xs:=by simpa using hx
    subst hi; subst hx
    exact ⟨h2.fr ((Fr.refl _).alloc _),hs _ h2.2.1⟩
 ·match i,j,h3,h4 with
  | 0,0,_,_=>exact absurd rfl hij
  | 1,1,_,_=>exact absurd rfl hij
  | 0,1,h3,h4=>
    have h3:(g1,0,c1)=hi:=by simpa using h3
    have h4:(g2,0,c2)=hj:=by simpa using h4
    subst h3; subst h4; exact hne
  | 1,0,h3,h4=>
    have h3:(g2,0,c2)=hi:=by simpa using h3
    have h4:(g1,0,c1)=hj:=by simpa using h4
    subst h3; subst h4; exact hne.symm
theorem A5.takeM {w:World} {a:Option Addr} {m:List (List Int)} (h:A5 w a m) (k:Nat):A5 w a (m.take k):=by
 rcases h with h | ⟨b,o,rfl,h1,h2⟩
 ·left; rw [h]; simp
 ·refine .inr ⟨b,o,rfl,h1,fun i xs hx=>h2 i xs ?_⟩
  rw [Bp] at hx
  split at hx
  ·exact hx
  ·cases hx
theorem PR (xs:List Int) (a:Option Addr) (c:Nat) (w:World) (hx:El w iv a xs) (h1:1≤xs.length) (h2:xs.length≤1000) :
 Calls Tryz.prog 58 #[.slice a xs.length c] w fun e w'=>∃ g c,e=.returned (.slice (some ⟨g,0,none⟩) xs.length c)∧Fr w w'∧w'.ownsRow w.heap.size 3 1 (.slice (some ⟨g,0,none⟩) xs.length c) xs.length (xs.map iv):=by
 rcases hx with h | ⟨b,o,rfl,-,hc⟩
 ·rw [h] at h1; simp at h1
 ·exact Tb b o c xs w (by omega) hc
def Za (e1:Int) (s1 s2:Bool) (count:Int):Int:=if e1≠0 then e1 else if s1=false then 26 else if s2=false then 26 else if count < 0 then 3 else if 40 < count then 3 else 0
def Jm (w:World) (err:Int) (L:Option (List (List Int))) (count:Int) (e:Ending) (w':World):Prop:=Fr w w'∧(err≠0→e=.returned (.tuple #[.slice none 0 0,.int .i64 err]))∧(err=0→L=none→e=.returned (.tuple #[.slice none 0 0,.int .i64 4])) ∧
 (err=0→∀ l,L=some l→∃ a c,e=.returned (.tuple #[.slice a count.toNat c,.int .i64 0])∧A5 w' a (l.take count.toNat))
theorem Jm.err {w:World} {err:Int} {L:Option (List (List Int))} {count:Int} {w':World} (hf:Fr w w') (h:err≠0):Jm w err L count (.returned (.tuple #[.slice none 0 0,.int .i64 err])) w':=⟨hf,fun _=>rfl,fun e=>absurd e h,fun e=>absurd e h⟩
theorem Td (aP aC aM:Option Addr) (cP cC cM:Nat) (P:List Int) (C M:List (List Int)) (E:Int) (v u:List Int) (va ua:Option Addr) (vc uc:Nat) (count:Int) (w:World) (ht:RR w aP aC aM cP cC cM P C M E) (hv:El w iv va v) (hu:El w iv ua u) (hvl:v.length≤1000000) (hul:u.length≤1000000) (hG:G w) :
 Calls Tryz.prog 25 #[.agg #[.slice aP P.length cP,.slice aC C.length cC,.slice aM M.length cM],.slice va v.length vc,.slice ua u.length uc,.int .i64 count] w (Jm w (Za (Hf E P [v,u]) (Ei C v) (Ei C u) count) (PX v u (count.toNat - 2)) count):=by
 have hgn:=hZ (GB hG)
 obtain ⟨i1,ji,jz0,jz1,jz2⟩:=AZ NK
 obtain ⟨wb,hwb⟩:∃ wb,wb=w.alloc (.cells #[.slice aP P.length cP,.slice aC C.length cC,.slice aM M.length cM] 29):=⟨_,rfl⟩
 have hfb:Fr w wb:=by rw [hwb]; exact (Fr.refl _).alloc _
 have hT:=C3.new w (.slice aP P.length cP) (.slice aC C.length cC) (.slice aM M.length cM) 29
 rw [← hwb] at hT
 have hzb:wb.heap.size=w.heap.size+1:=by rw [hwb]; simp
 have hmt:=N3 wb va ua v u vc uc (hv.fr hfb) (hu.fr hfb)
 rw [hzb] at hmt
 obtain ⟨W2,hW2⟩:∃ W2,W2=wb.alloc (.cells #[.slice va v.length vc,.slice ua u.length uc] 33):=⟨_,rfl⟩
 have hf2:Fr wb W2:=by rw [hW2]; exact (Fr.refl _).alloc _
 rw [← hW2] at hmt
 have hbg:=LS aP aC aM cP cC cM P C M E [v,u] (some ⟨w.heap.size+1,0,none⟩) 2 W2 (ht.fr (hfb.trans hf2)) hmt (by simp) (fun r hr=>by
  rcases Bu.1 hr with rfl | hr
  ·exact hvl
  ·rw [AX.1 hr]; exact hul)
 have e2:([v,u]:List (List Int)).length=2:=rfl
 rw [e2] at hbg
 have hfacts:Hf E P [v,u]=0→Hid ((v.length=P.length∧u.length=P.length∧1≤P.length∧P.length≤64∧CA v=0∧CA u=0)∧(∀ W,Fr w W→Calls Tryz.prog 57 #[.agg #[.slice aP P.length cP,.slice aC C.length cC,.slice aM M.length cM],.slice va v.length vc] W fun e w'=>e=.returned (.bool (Ei C v))∧Fr W w')∧(∀ W,Fr w W→Calls Tryz.prog 57 #[.agg #[.slice aP P.length cP,.slice aC C.length cC,.slice aM M.length cM],.slice ua u.length uc] W fun e w'=>e=.returned (.bool (Ei C u))∧Fr W w')):=fun h0=>by
  have hE0:E=0:=by
   unfold Hf at h0
   by_cases e:E=0
   ·exact e
   ·rw [Ai e] at h0; exact absurd h0 e
  have h00:EU [EL P v,EL P u]=0:=by
   unfold Hf at h0
   rw [Ag (by rw [hE0]; simp)] at h0
   exact h0
  have hv0:EL P v=0:=by
   by_cases e:EL P v=0
   ·exact e
   ·rw [EU,Ai e] at h00; exact absurd h00 e
  have hu0:EL P u=0:=by
   rw [EU,Ag (by rw [hv0]; simp)] at h00
   by_cases e:EL P u=0
   ·exact e
   ·rw [EU,Ai e] at h00; exact absurd h00 e
  obtain ⟨k1,k2,k3,k4,k5,k6,k7⟩:=ht.ok hE0
  obtain ⟨v1,v2,v3⟩:=HO hv0
  obtain ⟨-,u2,u3⟩:=HO hu0
  have hp1:=(CV v1).1
  refine ⟨⟨v3,u3,hp1,by omega,v2,u2⟩,fun W hW=>?_,fun W hW=>?_⟩
  ·exact Fz C v v.length va aM aP aC vc cM P.length cP M.length cC W (hG.fr hW) (ht.c.fr hW) (by rw [v3]; exact k4) (hv.fr hW) rfl (by omega) (by omega) (IY v2) k6
  ·exact Fz C u u.length ua aM aP aC uc cM P.length cP M.length cC W (hG.fr hW) (ht.c.fr hW) (by rw [u3]; exact k4) (hu.fr hW) rfl (by omega) (by omega) (IY u2) k6
 have hcv:=hZ (fun (h1:1≤v.length) (h2:v.length≤64) W (hW:Fr w W)=>PR v va vc W (hv.fr hW) h1 (by omega))
 have hcu:=hZ (fun (h1:1≤u.length) (h2:u.length≤64) W (hW:Fr w W)=>PR u ua uc W (hu.fr hW) h1 (by omega))
 have hsm:=hZ (fun (n:Nat) (h1:v.length=n) (h2:u.length=n) (h3:CA v=0) (h4:CA u=0)=>@Pt n v u h1 h2 h3 h4)
 obtain ⟨sv1,hs1⟩:∃ s,s=Ei C v:=⟨_,rfl⟩
 obtain ⟨su1,hs2⟩:∃ s,s=Ei C u:=⟨_,rfl⟩
 obtain ⟨e1,he1⟩:∃ e1,e1=Hf E P [v,u]:=⟨_,rfl⟩
 rw [← hs1,← hs2,← he1] at hfacts
 rw [← he1] at hbg
 rw [← hs1,← hs2,← he1]
 replace hs1:=hZ hs1
 replace hs2:=hZ hs2
 replace he1:=hZ he1
 replace hbg:=hZ hbg
 obtain ⟨err,herr⟩:∃ err,err=Za e1 sv1 su1 count:=⟨_,rfl⟩
 rw [← herr]
 unfold Za at herr
 replace herr:=hZ herr
 have b0:=hT.a
 have b1:=hT.b
 have b2:=hT.c
 have c0:=hf2.keep b0
 have c1:=hf2.keep b1
 have c2:=hf2.keep b2
 have hf3:=hfb.trans hf2
 obtain ⟨nv,hnv⟩:∃ n,n=v.length:=⟨_,rfl⟩
 obtain ⟨nu,hnu⟩:∃ n,n=u.length:=⟨_,rfl⟩
 rw [← hnv,← hnu] at hfacts
 rw [← hnv] at hcv hsm
 rw [← hnu] at hcu hsm
 rw [← hnv,← hnu] at hW2
 rw [← hnv,← hnu]
 generalize P.length=n at *
 generalize C.length=nC at *
 generalize M.length=nM at *
 replace hnv:=hZ hnv
 replace hnu:=hZ hnu
 clear ht hT hmt hv hu hf2 hvl hul
 go_enter Tryz.func25,Tryz.ntmps25
 go_upto_region 1 with (fail)
 rw [← hwb]
 clear hwb
 go_wp2_with fail
 rw [← hW2]
 refine hbg.out.mono ?_
 rintro e w3 ⟨rfl,hf4⟩
 replace c0:=hf4.keep c0
 replace c1:=hf4.keep c1
 replace c2:=hf4.keep c2
 have hfw:=hf3.trans hf4
 clear hW2 b0 b1 b2 hbg
 by_cases h1:e1=0
 case neg=>
  have q0:(e1 != 0)=true:=Bs.2 h1
  obtain rfl:err=e1:=by rw [herr.out,Ai h1]
  replace h1:=hZ h1
  clear hfacts
  go_wp2_with fail
  go_ret2
  exact Jm.err hfw h1.out
 obtain ⟨⟨f1,f2,f3,f4,f5,f6⟩,hsv,hsu⟩:=(hfacts h1).out
 subst f1
 subst f2
 have herr2:=herr.out
 rw [Ag (by rw [h1]; simp)] at herr2
 replace herr2:=hZ herr2
 subst h1
 clear hfacts herr
 replace hsv:=hZ hsv
 replace hsu:=hZ hsu
 cases sv1 with
 | false=>
   obtain rfl:err=26:=by rw [herr2.out,Ai rfl]
   go_wp2_with fail
   refine (hsv.out _ hfw).mono ?_
   rintro e w4 ⟨rfl,hf5⟩
   go_wp2_with fail
   go_ret2
   exact Jm.err (hfw.trans hf5) (by decide)
 | true=>
 have herr3:=herr2.out
 rw [Ag (by decide)] at herr3
 replace herr3:=hZ herr3
 clear herr2
 go_wp2_with fail
 refine (hsv.out _ hfw).mono ?_
 rintro e w4 ⟨rfl,hf5⟩
 replace c0:=hf5.keep c0
 replace c1:=hf5.keep c1
 replace c2:=hf5.keep c2
 have hfw4:=hfw.trans hf5
 clear hf4 hf3 hfw hf5
 cases su1 with
 | false=>
   obtain rfl:err=26:=by rw [herr3.out,Ai rfl]
   go_wp2_with fail
   refine (hsu.out _ hfw4).mono ?_
   rintro e w5 ⟨rfl,hf6⟩
   go_wp2_with fail
   go_ret2
   exact Jm.err (hfw4.trans hf6) (by decide)
 | true=>
 have herr4:=herr3.out
 rw [Ag (by decide)] at herr4
 replace herr4:=hZ herr4
 clear herr3
 go_wp2_with fail
 refine (hsu.out _ hfw4).mono ?_
 rintro e w5 ⟨rfl,hf6⟩
 have hfw5:=hfw4.trans hf6
 clear hfw4 hf6 c0 c1 c2
 by_cases k0:count < 0
 ·have d0:decide (count < 0)=true:=Ab k0
  obtain rfl:err=3:=by rw [herr4.out,Ai k0]
  clear k0
  go_wp2_with fail
  go_ret2
  exact Jm.err hfw5 (by decide)
 have d0:decide (count < 0)=false:=Aa k0
 by_cases k1:40 < count
 ·have d1:decide (40 < count)=true:=Ab k1
  obtain rfl:err=3:=by rw [herr4.out,Ag k0,Ai k1]
  clear k0 k1
  go_wp2_with fail
  go_ret2
  exact Jm.err hfw5 (by decide)
 have d1:decide (40 < count)=false:=Aa k1
 obtain rfl:err=0:=by rw [herr4.out,Ag k0,Ag k1]
 obtain ⟨Po,rfl⟩:∃ Po:Nat,count=Po:=⟨count.toNat,by omega⟩
 rw [AR]
 clear herr4 k0
 have hcv5:=hZ (hcv.out f3 f4 w5 hfw5)
 clear hcv
 go_wp2_with fail
 refine hcv5.out.mono ?_
 rintro e w6 ⟨g1,p1,rfl,hf7,hown1⟩
 have hcu6:=hZ (hcu.out f3 f4 w6 (hfw5.trans hf7))
 replace hown1:=hZ hown1
 clear hcu hcv5
 go_wp2_with fail
 refine hcu6.out.mono ?_
 rintro e w7 ⟨g2,p2,rfl,hf8,hown2⟩
 have hs6:=hfw5.size
 have hs7:=hf7.size
 obtain ⟨hO1,-,-,hb1,-⟩:=DV (As hgn.out hs6) hown1.out
 obtain ⟨hO2,-,-,hb2,-⟩:=DV (As (As hgn.out hs6) hs7) hown2
 have hne:g1≠g2:=by have:=hO1.2.1; omega
 have hGI:=GI.two (c1:=p1) (c2:=p2) (As hgn.out hs6) (As hs7 hf8.size) (hO1.fr hf8) hO2 hne
 rw [← hnv.out,← hnu.out] at hGI
 obtain ⟨w8,hw8⟩:∃ w8,w8=w7.alloc (.cells #[.slice (some ⟨g1,0,none⟩) nu p1,.slice (some ⟨g2,0,none⟩) nu p2] 33):=⟨_,rfl⟩
 rw [← hw8] at hGI
 have hf9:Fr w5 w8:=by rw [hw8]; exact (hf7.trans hf8).alloc _
 have hGw:=hZ (fun W (hW:Fr w5 W)=>hG.fr (hfw5.trans hW))
 have hch:=hZ (hsm.out nu rfl rfl f5 f6)
 have hgb5:=hZ (As hgn.out hs6)
 replace hGI:=hZ hGI
 obtain ⟨K,hK⟩:∃ K,K=Po - 2:=⟨_,rfl⟩
 rw [← hK]
 replace hK:=hZ hK
 have hcn:Po≤40:=by omega
 replace k1:=hZ k1
 replace hne:=hZ hne
 clear hG hown1 hown2 hO1 hO2 hcu6 hsm hb1 hb2 d0 d1 hf7 hf8 hs6 hs7
 go_wp2_with fail
 rw [← hw8]
 clear hw8
 go_loopg [11] K (fun k s11 wr=>∃ (j:Nat) (l:List (List Int)) (hs:List (Nat×Nat×Nat)),j+k=K∧Hid (PX v u j=some l)∧Fr w5 wr∧Hid (GI wr w5.heap.size 33 s11 hs l))
 case atStart=>exact ⟨0,[v,u],_,by omega,rfl,hf9,hGI.out⟩
 case round=>
  obtain ⟨j,l,hs,hjk,hcl,hf,hgi⟩:=hrel
  obtain ⟨hll,hlr⟩:=hch.out j l hcl.out
  have hlr9:=hlr
  replace hlr:=hZ hlr
  obtain ⟨lb,lc,hv9⟩:∃ g c,u11=.slice (some ⟨g,0,none⟩) l.length c:=C5 hgi.out.own (by omega)
  subst hv9
  have hcap:=(Bo hgi.out.own).2.2.2.1
  have hma:=hgi.out.mat
  obtain ⟨N,hN⟩:∃ N,N=l.length:=⟨_,rfl⟩
  rw [← hN] at hgi hcap ⊢
  have hN2:N=j+2:=by omega
  replace hma:=hZ hma
  by_cases hlt:j < K
  ·have d2:decide ((N:Int) < (Po:Int))=true:=Ab (by have:=hK.out; omega)
   have d3:decide (N < Po)=true:=Ab (by have:=hK.out; omega)
   obtain ⟨ab,ao,xa,xc,hae,hac,hxe⟩:=hma.out.at (i:=j) (by omega)
   obtain ⟨bb,bo,ya,yc,hbe,hbc,hye⟩:=hma.out.at (i:=j+1) (by omega)
   injection hae with hae
   injection hae with q1 q2
   subst q1
   subst q2
   injection hbe with hbe
   injection hbe with q1 q2
   subst q1
   subst q2
   obtain ⟨r1,r2⟩:=hlr9 _ (AG (show j < l.length by omega))
   obtain ⟨r3,r4⟩:=hlr9 _ (AG (show j+1 < l.length by omega))
   rw [r1,AN] at hac
   rw [r3,AN] at hbc
   have hadd:=hZ (fun W (hW:Fr wr W)=>WR l[j] l[j+1] nu xa ya xc yc W (hGw.out W (hf.trans hW)) (hxe.fr hW) (hye.fr hW) r1 r3 r2 r4 f3 f4)
   have hsum:Hid (PX v u (j+1)=if CA (Mn l[j] l[j+1])=0 then some (l ++ [Mn l[j] l[j+1]]) else none):=by
    show _=_
    rw [PX,hcl.out,CG,Ac (show j < l.length by omega),Ac (show j+1 < l.length by omega)]
    rfl
   have hsl:(Mn l[j] l[j+1]).length=nu:=Py r1 r3
   generalize Mn l[j] l[j+1]=sm at *
   obtain ⟨J1,hJ1⟩:∃ J1,J1=j+1:=⟨_,rfl⟩
   rw [← hJ1] at hbc
   have z1:(N:Int) - 2=(j:Int):=by omega
   have z2:(N:Int) - 1=(J1:Int):=by omega
   have z3:(0:Int)≤(j:Int):=by omega
   have z4:(j:Int) < (N:Int):=by omega
   have z5:(0:Int)≤(J1:Int):=by omega
   have z6:(J1:Int) < (N:Int):=by omega
   obtain ⟨wo,rfl⟩:∃ wo:World,wo=wr:=⟨_,rfl⟩
   have hNb:N≤42:=by have:=hK.out; omega
   have hw1:IntKind.i64.wrap (j:Int)=(j:Int):=Ak _ (by omega)
   have hw2:IntKind.i64.wrap (J1:Int)=(J1:Int):=Ak _ (by omega)
   have hS0:=hZ (fun W' (hW':Fr wo W')=>(⟨hW'.keep hac,hW'.keep hbc⟩:W'.cell? ⟨lb,j,none⟩=some (.slice xa nu xc)∧W'.cell? ⟨lb,J1,none⟩=some (.slice ya nu yc)))
   replace hN:=hZ hN
   replace hN2:=hZ hN2
   replace hJ1:=hZ hJ1
   replace hxe:=hZ hxe
   replace hye:=hZ hye
   replace r1:=hZ r1
   replace r3:=hZ r3
   replace r2:=hZ r2
   replace r4:=hZ r4
   replace hsl:=hZ hsl
   clear hlr9
   by_cases e0:CA sm=0
   ·have hs2:=hsum.out
    rw [Ai e0] at hs2
    replace hsum:=hZ hs2
    replace e0:=hZ e0
    clear hs2
    go_wp2_with fail
    refine Dm (S:=fun W'=>W'.cell? ⟨lb,j,none⟩=some (.slice xa nu xc)∧W'.cell? ⟨lb,J1,none⟩=some (.slice ya nu yc)) 17 (by kernel_rfl) (hS0.out _ ((Fr.refl _).drew)) (fun hHeld=>?_)
    refine uK 0 ?_
    refine uK 1 ?_
    refine uK 2 ?_
    refine uK 3 ?_
    refine uK 4 ?_
    refine uK 5 ?_
    refine uK 6 ?_
    refine uK 7 ?_
    refine uK 8 ?_
    refine uK 9 ?_
    refine uK 10 ?_
    refine uK 11 ?_
    refine uC 12 (fun K hK=>?_)
    go_simp
    (refine (hadd.out _ (by exact B9)).mono ?_; rintro e w6 ⟨hf6,hok,hno⟩; obtain ⟨g,c,rfl,hownN⟩:=hok e0.out; clear hok hno; replace hownN:=hZ hownN)
    go_wp2_with fail
    refine hK.out _ _ (hS0.out _ (by exact B9)) (fun hHeld=>?_)
    clear hK K
    refine uK 13 ?_
    refine uK 14 ?_
    refine uK 15 ?_
    refine uK 16 ?_
    clear hHeld
    refine uL 17 (fun K hK=>?_)
    go_simp
    refine hK.out _ _ ?_
    clear hK K
    have hf9:Fr wo w6:=by exact B9
    have hgb6:=As hgb5.out (As hf.size hf9.size)
    have hgb7:=As hgb5.out hf.size
    have hs6:wo.heap.size≤w6.heap.size:=hf9.size
    have hgg2:=hgi.out.fr hf9
    have hown3:=hgg2.own
    rw [← hN.out] at hown3
    obtain ⟨hON,-,-,hbN,-⟩:=DV (As hgb5.out (As hf.size (Ah _))) hownN.out
    have hgl:lb < wo.heap.size:=(hgi.out.own.lt lb rfl).2
    have hdz:wo.drew.heap.size=wo.heap.size:=rfl
    have hne9:(Value.slice (some ⟨lb,0,none⟩) N lc).ownBlock≠some g:=fun e=>by injection e with e; have e:lb=g:=e; omega
    have hne8:∀ h',h' ∈ hs→h'.1≠g:=fun h' hm e2=>by have h9:=hgi.out.lt h' hm; omega
    have hs7:w5.heap.size≤w6.heap.size:=As hf.size hs6
    replace hgg2:=hZ hgg2
    replace hON:=hZ hON
    clear hdz hgb6 hgb7 hownN
    go_wp2_with (at_builtin; refine wpList_append_lies _ rfl _ _ 26 (by rfl) _ 33 _ _ 1 24 Tryz.underlying26 ji jz0 jz1 jz2 rfl (by decide) _ N _ (by rfl) (Az hown3 _) ⟨w6.heap.size,0,none⟩ 1 1 [.slice (some ⟨g,0,none⟩) sm.length c] (by rfl) rfl (AK _ _ _ _ (by simp)) (by simp [Value.oneCell']) (by decide) (by unfold maxLen; omega) (by omega) (by skip; simp; omega) (w6.heap.size+1) (by simp) ?_; intro gA capA wA hownA hgrowA hatA hltA)
    have hpush:=(hgg2.out.fr ((Fr.refl _).alloc _)).pushN (hd:=(g,0,c)) (hON.out.fr ((Fr.refl _).alloc _)) hne8 hne9 hN.out.symm (by unfold Jq; rfl) hownA hgrowA (hatA.imp id (fun e=>by rw [e]; simp))
    have hfrA:Fr w5 wA:=((hf.trans hf9).alloc _).grown hgrowA (fun k e=>(hgg2.out.own.lt k e).1)
    go_wp2_with fail
    go_roundg (gk - 1)
    case measure=>omega
    case rel=>exact ⟨j+1,l ++ [sm],_,by omega,hsum.out,hfrA,hpush⟩
   ·have e4:=Sq e0
    have hs2:=hsum.out
    rw [Ag e0] at hs2
    have hLn:Hid (PX v u K=none):=by
     have:=Pu hs2 (K - (j+1))
     rw [Nat.add_sub_cancel' (by omega)] at this
     exact this
    have e9:=hZ e0
    clear e0 hs2
    go_wp2_with fail
    refine Dm (S:=fun W'=>W'.cell? ⟨lb,j,none⟩=some (.slice xa nu xc)∧W'.cell? ⟨lb,J1,none⟩=some (.slice ya nu yc)) 17 (by kernel_rfl) (hS0.out _ ((Fr.refl _).drew)) (fun hHeld=>?_)
    refine uK 0 ?_
    refine uK 1 ?_
    refine uK 2 ?_
    refine uK 3 ?_
    refine uK 4 ?_
    refine uK 5 ?_
    refine uK 6 ?_
    refine uK 7 ?_
    refine uK 8 ?_
    refine uK 9 ?_
    refine uK 10 ?_
    refine uK 11 ?_
    refine uC 12 (fun K hK=>?_)
    go_simp
    (refine (hadd.out _ (by exact B9)).mono ?_; rintro e w6 ⟨hf6,hok,hno⟩; obtain rfl:=hno e9.out; clear hok hno)
    go_wp2_with fail
    refine hK.out _ _ (hS0.out _ (by exact B9)) (fun hHeld=>?_)
    clear hK K
    refine uK 13 ?_
    refine uK 14 ?_
    refine uK 15 ?_
    refine uK 16 ?_
    clear hHeld
    refine uL 17 (fun K hK=>?_)
    go_simp
    refine hK.out _ _ ?_
    clear hK K
    have hf9:Fr wo w6:=by exact B9
    go_wp2_with fail
    go_ret2
    exact ⟨(hfw5.trans hf).trans hf9,fun h=>absurd rfl h,fun _ _=>rfl,fun _ l' hl'=>(by have hl2:PX v u (Po - 2)=some l':=hl'; rw [← hK.out,hLn.out] at hl2; cases hl2)⟩
  ·have d2:decide ((N:Int) < (Po:Int))=false:=Aa (by have:=hK.out; omega)
   have d3:decide (N < Po)=false:=Aa (by have:=hK.out; omega)
   obtain rfl:j=K:=by omega
   have z3:(0:Int)≤(Po:Int):=by omega
   have z4:(Po:Int)≤(lc:Int):=by have:=hK.out; omega
   have z5:Po≤lc:=by have:=hK.out; omega
   replace hN:=hZ hN
   replace hN2:=hZ hN2
   clear hlr9
   go_wp2_with fail
   go_ret2
   exact ⟨hfw5.trans hf,fun h=>absurd rfl h,fun _ h=>(by have h2:PX v u (Po - 2)=none:=h; rw [← hK.out,hcl.out] at h2; cases h2),fun _ l' hl'=>⟨_,_,rfl,by
    have hl2:PX v u (Po - 2)=some l':=hl'
    rw [← hK.out,hcl.out] at hl2
    injection hl2 with hl2
    rw [← hl2]
    exact hma.out.takeM Po⟩⟩
theorem V0:((List.range 10).all fun j=>(List.range 400).all fun k=>FP (AV j) ((k:Int)+1))=true:=by decide +kernel
theorem Nz:∀ j,10≤j→AV j=AV 9
 | _+10,_=>rfl
theorem Iu (j:Nat) {k:Nat} (h1:1≤k) (h2:k≤400):FP (AV j) k=true:=by
 have key:∀ j,j < 10→FP (AV j) k=true:=fun j hj=>by
  have h8:=AE.1 (AE.1 V0 j (BH.2 hj)) (k - 1) (BH.2 (by omega))
  rw [show ((k - 1:Nat):Int)+1=(k:Int) by omega] at h8
  exact h8
 by_cases hj:j < 10
 ·exact key j hj
 ·rw [Nz j (by omega)]; exact key 9 (by decide)
def Ev:List Int:=[2,3,5]
def FC:List (List Int):=[[4,-4,1]]
def Gz:List (List Int):=[[1,0,-4],[0,1,4]]
theorem Rx:BM Ev 12=[12,19,28]∧BM Ev 19=[19,30,44]:=by decide +kernel
theorem XH:H7 3 [[12,19,28],[19,30,44]]=Gz:=MK (by decide +kernel)
theorem Uq:Dc 1000 3 Gz=some FC:=by decide +kernel
theorem Up:Dc 1000 3 FC=some Gz:=by decide +kernel
theorem KL:Dj 3 Gz=FC∧Dj 3 FC=Gz:=⟨FH Uq,FH Up⟩
theorem Qp:BQ Ev=0:=by decide +kernel
theorem Xa:jL Ev (BM Ev 12) (BM Ev 19)=Gz:=by rw [Rx.1,Rx.2]; exact XH
theorem Xb:jA Ev (BM Ev 12) (BM Ev 19)=FC:=by unfold jA; rw [Xa]; exact KL.1
theorem WZ:jS Ev (BM Ev 12) (BM Ev 19)=Gz:=by unfold jS; rw [Xb]; exact KL.2
theorem YD:Wu Ev 12 19=0:=by
 unfold Wu
 rw [Ag (by decide)]
 unfold Rz
 rw [Xa,WZ]
 have h:Fq Ev.length Gz=true:=by
  unfold Fq
  rw [show Ev.length=3 from rfl,KL.1,KL.2]
  decide
 rw [h]
 decide
theorem O2:Zb Ev FC Gz :=
 ⟨by decide,by decide,Qp,⟨by decide,by decide,fun r hr=>by simp [FC] at hr; subst hr; rfl,by decide⟩,⟨by decide,by decide,fun r hr=>by simp [Gz] at hr; rcases hr with rfl | rfl <;> rfl,by decide⟩,by decide,
  Iw (As (by decide) R1) Up,Iw (As (by decide) R1) Uq⟩
theorem XI:Kj FC Ev 31=[5,7,12,19,24,26,31]:=by decide +kernel
theorem Qq (k:Nat) (h1:1≤k) (h2:k≤31):FP Ev k=true:=Iu 0 h1 (by omega)
theorem Wn:Km Gz [12,19,28] 2=some ([0,0,0],[12,19]):=by decide +kernel
theorem NF:EL Ev [12,19,28]=0∧EL Ev [5,8,12]=0∧EL Ev [7,11,16]=0:=by decide +kernel
theorem NG:Ei FC [12,19,28]=true∧Ei FC [5,8,12]=true∧Ei FC [7,11,16]=true:=by decide +kernel
theorem XJ:PX [5,8,12] [7,11,16] 3=some [[5,8,12],[7,11,16],[12,19,28],[19,30,44],[31,49,72]]:=by decide +kernel
theorem UG {a b:List Int} (hl:a.length=b.length) (h:∀ (i:Nat) (x y:Int),a[i]?=some x→b[i]?=some y→x=y):a=b:=by
 refine DI fun i=>?_
 by_cases hi:i < a.length
 ·rw [Ac hi,Ac (by omega)]
  exact congrArg some (h i _ _ (Ac hi) (Ac (by omega)))
 ·rw [A3 (by omega),A3 (by omega)]
theorem E6 (a b:List Int) (aa ba:Option Addr) (ac bc:Nat) (w:World) (ha:El w iv aa a) (hb:El w iv ba b) (hl:a.length≤1000000) (hl2:b.length≤1000000) :
 Calls Tryz.prog 27 #[.slice aa a.length ac,.slice ba b.length bc] w fun e w'=>e=.returned (.bool (decide (a=b)))∧Fr w w':=by
 obtain ⟨n,hn⟩:∃ n,n=a.length:=⟨_,rfl⟩
 obtain ⟨m,hm⟩:∃ m,m=b.length:=⟨_,rfl⟩
 rw [← hn] at hl ⊢
 rw [← hm] at hl2 ⊢
 by_cases hlen:n=m
 ·subst hlen
  have q0:((n:Int) != (n:Int))=false:=by simp
  have hyes:Hid ((∀ (i:Nat) (x y:Int),i < n→a[i]?=some x→b[i]?=some y→x=y)→decide (a=b)=true):=fun h=>Ab (UG (by rw [← hn,← hm]) (fun i x y h1 h2=>h i x y (by rw [hn]; exact (Ae.1 h1).1) h1 h2))
  have hno:Hid (∀ (i:Nat) (x y:Int),a[i]?=some x→b[i]?=some y→x≠y→decide (a=b)=false):=fun i x y h1 h2 h3=>Aa (fun e=>by subst e; rw [h1] at h2; injection h2 with h2; exact h3 h2)
  obtain ⟨res,hres⟩:∃ res,res=decide (a=b):=⟨_,rfl⟩
  rw [← hres] at hyes hno ⊢
  replace hres:=hZ hres
  replace ha:=hZ ha
  replace hb:=hZ hb
  replace hn:=hZ hn
  replace hm:=hZ hm
  go_enter Tryz.func27,Tryz.ntmps27
  go_wp2_with fail
  go_loopg [5] n (fun k s5 wr=>∃ i:Nat,s5=.int .i64 i∧i+k=n∧Fr w wr∧Hid (∀ (j:Nat) (x y:Int),j < i→a[j]?=some x→b[j]?=some y→x=y))
  case atStart=>exact ⟨0,rfl,by omega,Fr.refl _,fun j x y h=>absurd h (Bj _)⟩
  case round=>
   obtain ⟨i,rfl,hik,hf,hz⟩:=hrel
   by_cases hi:i < n
   ·have hd:decide (i < n)=true:=Ab hi
    have hd2:decide ((i:Int) < (n:Int))=true:=Ab (by omega)
    obtain ⟨xb,xo,x,rfl,-,hx,hxc⟩:=(ha.out.fr hf).at (i:=i) (by rw [← hn.out]; exact hi)
    obtain ⟨yb,yo,y,rfl,-,hy,hyc⟩:=(hb.out.fr hf).at (i:=i) (by rw [← hm.out]; exact hi)
    have z0:(0:Int)≤(i:Int):=Aj _
    have z1:(i:Int) < (n:Int):=by omega
    by_cases hxy:x=y
    ·subst hxy
     have d1:(x != x)=false:=by simp
     have hz2:Hid (∀ (j:Nat) (x y:Int),j < i+1→a[j]?=some x→b[j]?=some y→x=y):=fun j x' y' hj h1 h2=>by
      by_cases e:j=i
      ·subst e; rw [hx] at h1; rw [hy] at h2; injection h1 with h1; injection h2 with h2; rw [← h1,← h2]
      ·exact hz.out j x' y' (by omega) h1 h2
     replace hx:=hZ hx
     replace hy:=hZ hy
     go_wp2_with fail
     go_quiet (fail)
     go_wp2_with fail
     go_roundg (gk - 1)
     case measure=>omega
     case rel=>exact ⟨i+1,by go_num,by omega,hf.drewN _,hz2⟩
    ·have d1:(x != y)=true:=Bs.2 hxy
     have hfin:=hZ (hno.out i x y hx hy hxy)
     replace hx:=hZ hx
     replace hy:=hZ hy
     replace hxy:=hZ hxy
     go_wp2_with fail
     go_quiet (fail)
     go_wp2_with fail
     go_ret
     exact ⟨by rw [hfin.out]; rfl,hf.drewN _⟩
   ·obtain rfl:i=n:=by omega
    have hd:decide (i < i)=false:=Aa (by omega)
    have hd2:decide ((i:Int) < (i:Int))=false:=Aa (by omega)
    have hfin:=hZ (hyes.out (fun j x y hj h1 h2=>hz.out j x y hj h1 h2))
    go_wp2_with fail
    go_ret
    exact ⟨by rw [hfin.out]; rfl,hf⟩
 ·have q0:((n:Int) != (m:Int))=true:=Bs.2 (by omega)
  have hfin:=hZ (show decide (a=b)=false from Aa (fun e=>hlen (by rw [hn,hm,e])))
  clear ha hb hn hm
  replace hlen:=hZ hlen
  go_enter Tryz.func27,Tryz.ntmps27
  go_wp2_with fail
  go_ret
  exact ⟨by rw [hfin.out]; rfl,Fr.refl _⟩
theorem WO (m:List (List Int)) (aa ba:Option Addr) (ac bc:Nat) (w:World) (ha:A5 w aa m) (hb:A5 w ba m) (hl:m.length≤1000) (hr:∀ r,r ∈ m→r.length≤1000000) :
 Calls Tryz.prog 43 #[.slice aa m.length ac,.slice ba m.length bc] w fun e w'=>e=.returned (.bool true)∧Fr w w':=by
 obtain ⟨n,hn⟩:∃ n,n=m.length:=⟨_,rfl⟩
 rw [← hn] at hl ⊢
 have q0:((n:Int) != (n:Int))=false:=by simp
 replace ha:=hZ ha
 replace hb:=hZ hb
 replace hn:=hZ hn
 replace hr:=hZ hr
 go_enter Tryz.func43,Tryz.ntmps43
 go_wp2_with fail
 go_loopg [5] n (fun k s5 wr=>∃ i:Nat,s5=.int .i64 i∧i+k=n∧Fr w wr)
 case atStart=>exact ⟨0,rfl,by omega,Fr.refl _⟩
 case round=>
  obtain ⟨i,rfl,hik,hf⟩:=hrel
  by_cases hi:i < n
  ·have hd:decide (i < n)=true:=Ab hi
   have hd2:decide ((i:Int) < (n:Int))=true:=Ab (by omega)
   have hi2:i < m.length:=by rw [← hn.out]; exact hi
   obtain ⟨xb,xo,xa,xc,rfl,hxc,hxe⟩:=(ha.out.fr hf).at hi2
   obtain ⟨yb,yo,ya,yc,rfl,hyc,hye⟩:=(hb.out.fr hf).at hi2
   have hl9:=hr.out _ (AG hi2)
   generalize m[i]=r at *
   have heq:=E6 r r xa ya xc yc
   rw [Ab (rfl:r=r)] at heq
   replace heq:=hZ (fun W (hW:Fr wr W)=>heq W (hxe.fr hW) (hye.fr hW) hl9 hl9)
   generalize r.length=d at *
   have z0:(0:Int)≤(i:Int):=Aj _
   have z1:(i:Int) < (n:Int):=by omega
   obtain ⟨wo,rfl⟩:∃ wo:World,wo=wr:=⟨_,rfl⟩
   replace hxe:=hZ hxe
   replace hye:=hZ hye
   go_wp2_with fail
   go_region_held3 (fun w'=>w'.cell? ⟨xb,xo+i,none⟩=some (.slice xa d xc)∧w'.cell? ⟨yb,yo+i,none⟩=some (.slice ya d yc))
    (first | go_keep | (go_split_ands; refine ⟨?_, ?_⟩ <;> (refine Fr.keep (by assumption) ?_; assumption)) | trivial)
    ((go_at_call 27; (with_reducible refine (heq.out _ ?_).mono ?_); (exact B9); rintro e w6 ⟨rfl,hf6⟩))
   have hf9:Fr wo w6:=by exact B9
   go_wp2_with fail
   go_roundg (gk - 1)
   case measure=>omega
   case rel=>exact ⟨i+1,by go_num,by omega,hf.trans hf9⟩
  ·obtain rfl:i=n:=by omega
   have hd:decide (i < i)=false:=Aa (by omega)
   have hd2:decide ((i:Int) < (i:Int))=false:=Aa (by omega)
   go_wp2_with fail
   go_ret
   exact ⟨rfl,hf⟩
theorem Sl (a b:List Int) (aa ba:Option Addr) (ac bc:Nat) (w:World) (ha:El w iv aa a) (hb:El w iv ba b) (hl:a.length≤1000000) (hl2:b.length≤1000000) :
 Calls Tryz.prog 30 #[.slice aa a.length ac,.slice ba b.length bc] w fun e w'=>e=.returned (.bool (decide (a=b)))∧Fr w w':=by
 have h1:=hZ (E6 a b aa ba ac bc w ha hb hl hl2)
 obtain ⟨res,hres⟩:∃ res,res=decide (a=b):=⟨_,rfl⟩
 rw [← hres] at h1 ⊢
 replace hres:=hZ hres
 generalize a.length=n at *
 generalize b.length=m at *
 clear ha hb
 go_enter Tryz.func30,Tryz.ntmps30
 go_wp2_with fail
 refine h1.out.mono ?_
 rintro e w1 ⟨rfl,hf1⟩
 go_wp2_with fail
 go_ret
 exact ⟨rfl,hf1⟩
end Go.Proofs.YtiniigadkknboaaGreatDoor
