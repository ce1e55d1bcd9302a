/- Contracts and laws: FBC. -/
import Derived.Test.YtiniigadkknboaaGreatDoorFBB
import Derived.Test.YtiniigadkknboaaGreatDoorFAW
import Derived.Test.YtiniigadkknboaaGreatDoorFAU
import Derived.Test.YtiniigadkknboaaGreatDoorFAV

set_option maxRecDepth 100000
set_option maxHeartbeats 2000000
namespace Go.Proofs.YtiniigadkknboaaGreatDoor
open Go.RowKit Go.Lib
attribute [local go_sem ↓] Go.wp_at_zero Go.wp_at_succ
theorem GW (P:List Int) (s:Int):(BI P s).length=P.length:=by
 cases P with
 | nil=>rfl
 | cons p0 r=>unfold BI; simp
theorem On (P:List Int) (pa:Option Addr) (pc:Nat) (s:Int) (w:World) (hs:1≤s∧s≤50000) :
 Calls Tryz.prog 84 #[.slice pa P.length pc,.int .i64 (2 * s),.int .i64 0] w fun e w'=>e=.returned (.int .i64 s)∧Fr w w':=by
 obtain ⟨h1,h2⟩:=hs
 have k1:IntKind.i64.wrap (2 * s+1)=2 * s+1:=Am _ (by omega)
 obtain ⟨t,ht⟩:∃ t,t=2 * s:=⟨_,rfl⟩
 rw [← ht] at k1 ⊢
 replace ht:=hZ ht
 go_enter Tryz.func84,Tryz.ntmps84
 go_wp2_with fail
 have e2:(t+1) / 2=s:=by have:=ht.out; omega
 rw [e2]
 go_ret
 exact ⟨rfl,Fr.refl _⟩
theorem Pz (p0:Int) (r:List Int) (j:Nat) (p:Int) (pa:Option Addr) (pc:Nat) (s:Int) (w:World) (hp:r[j]?=some p) (hs:1≤s∧s≤50000) (hE:BM (p0 :: r)=0) (hq:qOk p0 p s=true) (hP:El w iv pa (p0 :: r)) (hG:G w) :
 Calls Tryz.prog 84 #[.slice pa (r.length+1) pc,.int .i64 (2 * s),.int .i64 ((j+1:Nat):Int)] w fun e w'=>e=.returned (.int .i64 (qV p0 p s))∧Fr w w':=by
 have hj:=(Ag.1 hp).1
 have h6:=(Dx hE).2.1
 rw [Ay] at h6
 have hask:=YW hp hs hE hq
 have hb:=hask.qb
 have hl1:=hZ (fun W (hW:Fr w W)=>PS (r.length+1) pa pc (2 * s) 1 (j+1) 0 W (by omega) (by omega) (by omega) (by omega) (by omega) (hG.fr hW))
 have hl2:=hZ (fun W (hW:Fr w W)=>PS (r.length+1) pa pc 2 0 0 0 W (by omega) (by omega) (by omega) (by omega) (by omega) (hG.fr hW))
 have hfl:=hZ (fun (W:World) (aa ba:Option Addr) (ac bc:Nat) (hW:Fr w W) (hA:Hc W aa (Ge (r.length+1) (2 * s) (j+1) 1 0)) (hB:Hc W ba (Ge (r.length+1) 2 0 0 0))=>Ux (p0 :: r) _ _ Pc (qV p0 p s) pa aa ba pc ac bc W hask (hP.fr hW) hA hB (hG.fr hW))
 have hla:=hask.la
 have hlb:=hask.lb
 rw [Ay] at hla hlb hfl
 replace hla:=hZ hla
 replace hlb:=hZ hlb
 have hsm:=hZ (fun W=>EH (qV p0 p s) (by omega) (by omega) W)
 have b1:(((j+1:Nat):Int) == 0)=false:=Ba (by omega)
 generalize Ge (r.length+1) (2 * s) (j+1) 1 0=A at *
 generalize Ge (r.length+1) 2 0 0 0=B at *
 generalize qV p0 p s=q at *
 obtain ⟨n,hn⟩:∃ n,n=r.length+1:=⟨_,rfl⟩
 rw [← hn] at hl1 hl2 hfl hla hlb ⊢
 replace hn:=hZ hn
 obtain ⟨t,ht⟩:∃ t,t=2 * s:=⟨_,rfl⟩
 rw [← ht] at hl1 ⊢
 replace ht:=hZ ht
 obtain ⟨J,hJ⟩:∃ J,J=j+1:=⟨_,rfl⟩
 rw [← hJ] at hl1 b1 ⊢
 replace hJ:=hZ hJ
 clear hask hp hq hP hG hE hs hb
 go_enter Tryz.func84,Tryz.ntmps84
 go_wp2_with fail
 refine (hl1.out _ (Fr.refl _)).mono ?_
 rintro e w1 ⟨g1,c1,rfl,hA1,hf1⟩
 rw [← hla.out]
 go_wp2_with fail
 refine (hl2.out _ hf1).mono ?_
 rintro e w2 ⟨g2,c2,rfl,hB2,hf2⟩
 rw [← hlb.out]
 have hf12:=hf1.trans hf2
 go_wp2_with fail
 refine (hfl.out _ _ _ _ _ hf12 (hA1.fr hf2) hB2).mono ?_
 rintro e w3 ⟨rfl,hf3⟩
 go_wp2_with fail
 refine (hsm.out _).mono ?_
 rintro e w4 ⟨rfl,hf4⟩
 go_wp2_with fail
 go_ret
 exact ⟨rfl,(hf12.trans hf3).trans hf4⟩
theorem Hf (P:List Int) (a:Option Addr) (cap:Nat) (w:World) (hP:El w iv a P) (hl:P.length≤1000000) :
 Calls Tryz.prog 44 #[.slice a P.length cap] w fun e w'=>e=.returned (.int .i64 (BM P))∧Fr w w':=Jw (Ft P a cap w hP hl)
theorem PA (p0:Int) (r:List Int) (pa:Option Addr) (pc:Nat) (s:Int) (i:Nat) (v:Int) (w:World) (hv:(BI (p0 :: r) s)[i]?=some v) (hs:1≤s∧s≤50000) (hE:BM (p0 :: r)=0) (hq:FD (p0 :: r) s=true) (hP:El w iv pa (p0 :: r)) (hG:G w) :
 Calls Tryz.prog 84 #[.slice pa (r.length+1) pc,.int .i64 (2 * s),.int .i64 (i:Int)] w fun e w'=>e=.returned (.int .i64 v)∧Fr w w':=by
 unfold BI at hv
 cases i with
 | zero=>
   have hv:s=v:=by simpa using hv
   subst hv
   exact On (p0 :: r) pa pc s w hs
 | succ j=>
   rw [Lm,Au] at hv
   cases hr:r[j]? with
   | none=>rw [hr] at hv; cases hv
   | some p=>
     rw [hr] at hv
     injection hv with hv
     subst hv
     exact Pz p0 r j p pa pc s w hr hs hE (AF.1 hq p (Af hr)) hP hG
theorem RV (p0:Int) (r:List Int) (pa:Option Addr) (pc:Nat) (s:Int) (i:Nat) (v:Int) (w:World) (hv:(BI (p0 :: r) s)[i]?=some v) (hs:1≤s∧s≤50000) (hE:BM (p0 :: r)=0) (hq:FD (p0 :: r) s=true) (hP:El w iv pa (p0 :: r)) (hG:G w) :
 Calls Tryz.prog 46 #[.slice pa (r.length+1) pc,.int .i64 s,.int .i64 (i:Int)] w fun e w'=>e=.returned (.tuple #[.int .i64 v,.int .i64 0])∧Fr w w':=by
 have hi:=(Ag.1 hv).1
 rw [GW,Ay] at hi
 have h6:=(Dx hE).2.1
 have hck:=Hf (p0 :: r) pa pc w hP (by omega)
 rw [hE,Ay] at hck
 have hro:=hZ (fun W (hW:Fr w W)=>PA p0 r pa pc s i v W hv hs hE hq (hP.fr hW) (hG.fr hW))
 obtain ⟨hs1,hs2⟩:=hs
 have k1:IntKind.i64.wrap (2 * s)=2 * s:=Am _ (by omega)
 have d1:decide (s < 1)=false:=Aa (by omega)
 have d2:decide (100000 < s)=false:=Aa (by omega)
 have d3:decide ((i:Int) < 0)=false:=Aa (by omega)
 generalize r.length+1=n at *
 have d4:decide ((n:Int)≤(i:Int))=false:=Aa (by omega)
 replace hck:=hZ hck
 clear hv hE hq hP hG
 go_enter Tryz.func46,Tryz.ntmps46
 go_wp2_with fail
 refine hck.out.mono ?_
 rintro e w1 ⟨rfl,hf1⟩
 go_wp2_with fail
 refine (hro.out _ hf1).mono ?_
 rintro e w2 ⟨rfl,hf2⟩
 go_wp2_with fail
 go_ret2
 exact ⟨rfl,hf1.trans hf2⟩
theorem RU (P:List Int) (pa:Option Addr) (pc:Nat) (s i:Int) (w:World) (hE:BM P=0) (hs:s < 1∨100000 < s) (hP:El w iv pa P) (hl:P.length≤1000000) :
 Calls Tryz.prog 46 #[.slice pa P.length pc,.int .i64 s,.int .i64 i] w fun e w'=>e=.returned (.tuple #[.int .i64 0,.int .i64 3])∧Fr w w':=by
 have hck:=Hf P pa pc w hP hl
 rw [hE] at hck
 generalize P.length=n at *
 replace hck:=hZ hck
 clear hE hP
 by_cases h1:s < 1
 ·have d1:decide (s < 1)=true:=Ab h1
  clear hs h1
  go_enter Tryz.func46,Tryz.ntmps46
  go_wp2_with fail
  refine hck.out.mono ?_
  rintro e w1 ⟨rfl,hf1⟩
  go_wp2_with fail
  go_ret2
  exact ⟨rfl,hf1⟩
 ·have d1:decide (s < 1)=false:=Aa h1
  have d2:decide (100000 < s)=true:=Ab (by omega)
  clear hs h1
  go_enter Tryz.func46,Tryz.ntmps46
  go_wp2_with fail
  refine hck.out.mono ?_
  rintro e w1 ⟨rfl,hf1⟩
  go_wp2_with fail
  go_ret2
  exact ⟨rfl,hf1⟩
def Wv (w:World) (v:List Int) (e:Ending) (w':World):Prop:=∃ a c,e=.returned (.tuple #[.slice a v.length c,.int .i64 0])∧El w' iv a v∧v.length≤c∧(∀ ad,a=some ad→w.heap.size≤ad.block)∧Fr w w'
theorem KF (p0:Int) (r:List Int) (pa:Option Addr) (pc:Nat) (s:Int) (w:World) (hs:1≤s∧s≤50000) (hE:BM (p0 :: r)=0) (hq:FD (p0 :: r) s=true) (hP:El w iv pa (p0 :: r)) (hG:G w) :
 Calls Tryz.prog 14 #[.slice pa (r.length+1) pc,.int .i64 s] w fun e w'=>Wv w (BI (p0 :: r) s) e w':=by
 have hvl:=GW (p0 :: r) s
 rw [Ay] at hvl
 have h6:=(Dx hE).2.1
 rw [Ay] at h6
 have hne:=hZ (fun (i:Nat) (v:Int) (h:(BI (p0 :: r) s)[i]?=some v) W (hW:Fr w W)=>RV p0 r pa pc s i v W h hs hE hq (hP.fr hW) (hG.fr hW))
 have hn1:1≤r.length+1:=by omega
 generalize r.length+1=n at *
 generalize BI (p0 :: r) s=V at *
 have hmx:max (1:Int) (n:Int)=(n:Int):=by omega
 obtain ⟨iI,jI,iz0,iz1,iz2⟩:=A5 CX
 replace hvl:=hZ hvl
 clear hs hE hq hP hG
 go_enter Tryz.func14,Tryz.ntmps14
 go_wp2_with fail
 go_loopg [6,13] n (fun k s6 s13 wr=>∃ i:Nat,s13=.int .i64 i∧i+k=n∧Fr w wr∧Hid (wr.ownsRow w.heap.size 3 1 s6 i ((V.take i).map iv)))
 case atStart=>exact ⟨0,rfl,by omega,Fr.refl _,Br _ _ _ _⟩
 case round=>
  obtain ⟨i,rfl,hik,hf,hown⟩:=hrel
  obtain ⟨kv,rfl⟩:∃ kv:Nat,kv=gk:=⟨_,rfl⟩
  obtain ⟨wo,rfl⟩:∃ wo:World,wo=wr:=⟨_,rfl⟩
  by_cases hi:i < n
  ·have hd:decide (i < n)=true:=Ab hi
   have hd2:decide ((i:Int) < (n:Int))=true:=Ab (by omega)
   obtain ⟨v,hv⟩:∃ v,V[i]?=some v:=⟨_,Ac (by rw [hvl.out]; exact hi)⟩
   have hsn:=hZ (show (V.take (i+1)).map iv=(V.take i).map iv ++ [.int .i64 v] by rw [BH hv,AD]; rfl)
   have hnv:=hZ (hne.out i v hv)
   replace hv:=hZ hv
   go_wp2_with fail
   refine (hnv.out _ hf).mono ?_
   rintro e w5 ⟨rfl,hf5⟩
   have hown5:=Bj hown.out hf5
   go_wp2_with (at_builtin; refine wpList_append_lies _ rfl _ _ 33 (by rfl) _ 3 _ _ 1 8 Tryz.underlying33 jI iz0 iz1 iz2 rfl (by decide) _ i _ (by rfl) (AA hown5 _) ⟨w5.heap.size,0,none⟩ 1 1 [.int .i64 v] (by rfl) rfl (AN _ _ _ _ (by simp)) (by simp [Value.oneCell']) (by decide) (by unfold maxLen; omega) (by omega) (by have:=(hf.trans hf5).size; simp; omega) (w5.heap.size+1) (by simp) ?_; intro gA capA wA hownA hgrowA hatA hltA)
   go_wp2_with fail
   go_roundg (kv - 1)
   case measure=>omega
   case rel=>exact ⟨i+1,by go_num,by omega,((hf.trans hf5).alloc _).grown hgrowA (fun k e=>(hown5.lt k e).1),by show World.ownsRow _ _ _ _ _ _ _; rw [hsn.out]; exact hownA⟩
  ·have hd:decide (i < n)=false:=Aa hi
   have hd2:decide ((i:Int) < (n:Int))=false:=Aa (by omega)
   obtain rfl:i=n:=by omega
   have hown9:=hown.out
   rw [Ap (by rw [hvl.out]; exact Ah _),← hvl.out] at hown9
   obtain ⟨a9,c9,rfl,he9,hc9,hb9⟩:=GZ hown9
   replace he9:=hZ he9
   replace hb9:=hZ hb9
   clear hown9
   go_wp2_with fail
   go_ret2
   exact ⟨a9,c9,rfl,he9.out,hc9,hb9.out,hf⟩
def Ww (w:World) (err:Int) (e:Ending) (w':World):Prop:=e=.returned (.tuple #[.slice none 0 0,.int .i64 err])∧Fr w w'
theorem NY (P:List Int) (pa:Option Addr) (pc:Nat) (s:Int) (w:World) (hE:BM P=0) (hs:s < 1∨100000 < s) (hP:El w iv pa P) (hl:P.length≤1000000) :
 Calls Tryz.prog 14 #[.slice pa P.length pc,.int .i64 s] w fun e w'=>Ww w 3 e w':=by
 have hne:=hZ (RU P pa pc s 0 w hE hs hP hl)
 generalize P.length=n at *
 have d1:decide ((0:Int) < max (1:Int) (n:Int))=true:=Ab (by omega)
 have d2:(0:Int) < max (1:Int) (n:Int):=by omega
 clear hE hP hs
 go_enter Tryz.func14,Tryz.ntmps14
 go_wp2_with fail
 go_loopg [6,13] 0 (fun m s6 s13 wr=>s13=.int .i64 0∧wr=w)
 case atStart=>exact ⟨rfl,rfl⟩
 case round=>
  obtain ⟨rfl,rfl⟩:=hrel
  go_wp2_with fail
  refine hne.out.mono ?_
  rintro e w1 ⟨rfl,hf1⟩
  go_wp2_with fail
  go_ret2
  exact ⟨rfl,hf1⟩
def DU (P v:List Int):Int:=if BM P≠0 then BM P else if Ck v≠0 then Ck v else if v.length≠P.length then 5 else 0
theorem HH (P v:List Int) (pa va:Option Addr) (pc vc:Nat) (w:World) (hP:El w iv pa P) (hv:El w iv va v) (hpl:P.length≤1000000) (hvl:v.length≤1000000) :
 Calls Tryz.prog 23 #[.slice pa P.length pc,.slice va v.length vc] w fun e w'=>e=.returned (.int .i64 (DU P v))∧Fr w w':=by
 have hpr:=hZ (Hf P pa pc w hP hpl)
 have hro:=hZ (fun W (hW:Fr w W)=>DT v va vc W (hv.fr hW) (by omega))
 obtain ⟨res,hres⟩:∃ res,res=DU P v:=⟨_,rfl⟩
 rw [← hres]
 unfold DU at hres
 generalize BM P=E0 at *
 generalize Ck v=E1 at *
 generalize P.length=n at *
 generalize v.length=m at *
 clear hP hv
 by_cases e0:E0=0
 ·rw [Ae (by rw [e0]; simp)] at hres
  have q0:(E0 != 0)=false:=by rw [e0]; rfl
  replace e0:=hZ e0
  by_cases e1:E1=0
  ·rw [Ae (by rw [e1]; simp)] at hres
   have q1:(E1 != 0)=false:=by rw [e1]; rfl
   replace e1:=hZ e1
   by_cases e2:m=n
   ·rw [Ae (by rw [e2]; simp)] at hres
    subst hres
    have q2:((m:Int) != (n:Int))=false:=by rw [e2]; simp
    replace e2:=hZ e2
    go_enter Tryz.func23,Tryz.ntmps23
    go_wp2_with fail
    refine hpr.out.mono ?_
    rintro e w1 ⟨rfl,hf1⟩
    go_wp2_with fail
    refine (hro.out _ hf1).mono ?_
    rintro e w2 ⟨rfl,hf2⟩
    go_wp2_with fail
    go_ret
    exact ⟨rfl,hf1.trans hf2⟩
   ·rw [Ai e2] at hres
    subst hres
    have q2:((m:Int) != (n:Int))=true:=Bb.2 (by omega)
    replace e2:=hZ e2
    go_enter Tryz.func23,Tryz.ntmps23
    go_wp2_with fail
    refine hpr.out.mono ?_
    rintro e w1 ⟨rfl,hf1⟩
    go_wp2_with fail
    refine (hro.out _ hf1).mono ?_
    rintro e w2 ⟨rfl,hf2⟩
    go_wp2_with fail
    go_ret
    exact ⟨rfl,hf1.trans hf2⟩
  ·have q1:(E1 != 0)=true:=Bb.2 e1
   rw [Ai e1] at hres
   subst hres
   replace e1:=hZ e1
   go_enter Tryz.func23,Tryz.ntmps23
   go_wp2_with fail
   refine hpr.out.mono ?_
   rintro e w1 ⟨rfl,hf1⟩
   go_wp2_with fail
   refine (hro.out _ hf1).mono ?_
   rintro e w2 ⟨rfl,hf2⟩
   go_wp2_with fail
   go_ret
   exact ⟨rfl,hf1.trans hf2⟩
 ·have q0:(E0 != 0)=true:=Bb.2 e0
  rw [Ai e0] at hres
  subst hres
  replace e0:=hZ e0
  go_enter Tryz.func23,Tryz.ntmps23
  go_wp2_with fail
  refine hpr.out.mono ?_
  rintro e w1 ⟨rfl,hf1⟩
  go_wp2_with fail
  go_ret
  exact ⟨rfl,hf1⟩
structure OS (w:World) (aP aC aM:Option Addr) (cP cC cM:Nat) (P:List Int) (C M:List (List Int)) (E:Int):Prop where
 p:El w iv aP P
 c:A2 w aC C
 m:A2 w aM M
 ck:∀ W,Fr w W→Calls Tryz.prog 32 #[.agg #[.slice aP P.length cP,.slice aC C.length cC,.slice aM M.length cM]] W fun e w'=>e=.returned (.int .i64 E)∧Fr W w'
 pl:P.length≤1000000
 ok:E=0→P.length≤6∧C.length≤12∧M.length≤12∧Bq P.length C∧Bq P.length M∧(∀ r,r ∈ C→∀ x,x ∈ r→Bk x=true)∧(∀ r,r ∈ M→∀ x,x ∈ r→Bk x=true)
theorem OS.fr {w w':World} {aP aC aM:Option Addr} {cP cC cM:Nat} {P:List Int} {C M:List (List Int)} {E:Int} (h:OS w aP aC aM cP cC cM P C M E) (k:Fr w w'):OS w' aP aC aM cP cC cM P C M E :=
 ⟨h.p.fr k,h.c.fr k,h.m.fr k,fun W hW=>h.ck W (k.trans hW),h.pl,h.ok⟩
def Fl:List Int→Int
 | []=>0
 | x :: l=>if x≠0 then x else Fl l
def HM (E:Int) (P:List Int) (L:List (List Int)):Int:=if E≠0 then E else Fl (L.map (DU P))
theorem NK:∀ (l:List Int) (i:Nat) (x:Int),(∀ j y,j < i→l[j]?=some y→y=0)→l[i]?=some x→x≠0→Fl l=x
 | [],i,x,_,h,_=>by simp at h
 | y :: l,0,x,_,h,h0=>by
   have h:y=x:=by simpa using h
   subst h
   rw [Fl,Ai h0]
 | y :: l,i+1,x,hz,h,h0=>by
   have hy:=hz 0 y (by omega) rfl
   rw [Fl,Ae (by rw [hy]; simp)]
   exact NK l i x (fun j z hj hz9=>hz (j+1) z (by omega) (by simpa using hz9)) (by simpa using h) h0
theorem K4:∀ (l:List Int),(∀ x,x ∈ l→x=0)→Fl l=0
 | [],_=>rfl
 | y :: l,h=>by
   rw [Fl,Ae (by rw [h y Cz]; simp)]
   exact K4 l (fun x hx=>h x (CA _ hx))
theorem Jb (aP aC aM:Option Addr) (cP cC cM:Nat) (P:List Int) (C M:List (List Int)) (E:Int) (L:List (List Int)) (la:Option Addr) (lc:Nat) (w:World) (ht:OS w aP aC aM cP cC cM P C M E) (hL:A2 w la L) (hll:L.length≤1000) (hlr:∀ r,r ∈ L→r.length≤1000000) :
 Calls Tryz.prog 56 #[.agg #[.slice aP P.length cP,.slice aC C.length cC,.slice aM M.length cM],.slice la L.length lc] w fun e w'=>e=.returned (.int .i64 (HM E P L))∧Fr w w':=by
 have hch:=hZ ht.ck
 have hvk:=hZ (fun (v:List Int) (va:Option Addr) (vc:Nat) W (hW:Fr w W) (hv:El W iv va v) (hvl:v.length≤1000000)=>HH P v aP va cP vc W (ht.p.fr hW) hv ht.pl hvl)
 obtain ⟨wb,hwb⟩:∃ wb,wb=w.alloc (.cells #[.slice aP P.length cP,.slice aC C.length cC,.slice aM M.length cM] 29):=⟨_,rfl⟩
 have hfb:Fr w wb:=by rw [hwb]; exact (Fr.refl _).alloc _
 have hT:=C3.new w (.slice aP P.length cP) (.slice aC C.length cC) (.slice aM M.length cM) 29
 rw [← hwb] at hT
 obtain ⟨N,hN⟩:∃ N,N=L.length:=⟨_,rfl⟩
 rw [← hN] at hll ⊢
 obtain ⟨res,hres⟩:∃ res,res=HM E P L:=⟨_,rfl⟩
 rw [← hres]
 unfold HM at hres
 replace hN:=hZ hN
 replace hlr:=hZ hlr
 have b0:=hT.a
 have b1:=hT.b
 have b2:=hT.c
 generalize P.length=n at *
 generalize C.length=nC at *
 generalize M.length=nM at *
 replace hL:=hZ hL
 clear ht hT
 by_cases e0:E=0
 ·rw [Ae (by rw [e0]; simp)] at hres
  have q0:(E != 0)=false:=by rw [e0]; rfl
  replace e0:=hZ e0
  replace hres:=hZ hres
  go_enter Tryz.func56,Tryz.ntmps56
  go_upto_region 1 with (fail)
  rw [← hwb]
  clear hwb
  go_wp2_with fail
  refine (hch.out _ hfb).mono ?_
  rintro e w1 ⟨rfl,hf1⟩
  replace b0:=hf1.keep b0
  replace hfb:=hfb.trans hf1
  clear hf1 b1 b2
  go_wp2_with fail
  go_loopg [16] N (fun k s16 wr=>∃ i:Nat,s16=.int .i64 i∧i+k=N∧Fr w1 wr∧Hid (∀ (j:Nat) (y:Int),j < i→(L.map (DU P))[j]?=some y→y=0))
  case atStart=>exact ⟨0,rfl,by omega,Fr.refl _,fun j y h=>absurd h (A3 _)⟩
  case round=>
   obtain ⟨i,rfl,hik,hf,hz⟩:=hrel
   by_cases hi:i < N
   ·have hd:decide (i < N)=true:=Ab hi
    have hd2:decide ((i:Int) < (N:Int))=true:=Ab (by omega)
    have hi2:i < L.length:=by rw [← hN.out]; exact hi
    obtain ⟨mb,mo,va,vc,rfl,hcm,hev⟩:=(hL.out.fr (hfb.trans hf)).at hi2
    have hvl:=hlr.out _ (AJ hi2)
    have hgi:(L.map (DU P))[i]?=some (DU P L[i]):=by rw [Au,Ac hi2]; rfl
    have hck:=hZ (hvk.out _ va vc wr (hfb.trans hf) hev hvl)
    have z0:(0:Int)≤(i:Int):=by omega
    have z1:(i:Int) < (N:Int):=by omega
    have c0:=hf.keep b0
    generalize L[i]=v at *
    obtain ⟨ev,hev2⟩:∃ ev,ev=DU P v:=⟨_,rfl⟩
    rw [← hev2] at hck hgi
    replace hev2:=hZ hev2
    by_cases ez:ev=0
    ·have q1:(ev != 0)=false:=by rw [ez]; rfl
     have hz2:Hid (∀ (j:Nat) (y:Int),j < i+1→(L.map (DU P))[j]?=some y→y=0):=fun j y hj hy=>by
      by_cases e:j=i
      ·subst e; rw [hgi] at hy; injection hy with hy; omega
      ·exact hz.out j y (by omega) hy
     replace ez:=hZ ez
     replace hgi:=hZ hgi
     clear hev hvl hz
     go_wp2_with fail
     refine hck.out.mono ?_
     rintro e w2 ⟨rfl,hf2⟩
     go_wp2_with fail
     go_roundg (gk - 1)
     case measure=>omega
     case rel=>exact ⟨i+1,by go_num,by omega,hf.trans hf2,hz2⟩
    ·have q1:(ev != 0)=true:=Bb.2 ez
     have hfin:=hZ (hres.out.trans (NK _ i ev hz.out hgi ez))
     replace ez:=hZ ez
     replace hgi:=hZ hgi
     clear hev hvl hz
     go_wp2_with fail
     refine hck.out.mono ?_
     rintro e w2 ⟨rfl,hf2⟩
     go_wp2_with fail
     go_ret
     exact ⟨by rw [hfin.out]; rfl,(hfb.trans hf).trans hf2⟩
   ·have hd:decide (i < N)=false:=Aa hi
    have hd2:decide ((i:Int) < (N:Int))=false:=Aa (by omega)
    have hfin:res=0:=hres.out.trans (K4 _ (fun x hx=>by
     obtain ⟨j,hj,e⟩:=FS hx
     refine hz.out j x ?_ (by rw [Ac hj,e])
     rw [AE] at hj
     have:=hN.out; omega))
    replace hfin:=hZ hfin
    clear hz
    go_wp2_with fail
    go_ret
    exact ⟨by rw [hfin.out]; rfl,hfb.trans hf⟩
 ·have q0:(E != 0)=true:=Bb.2 e0
  rw [Ai e0] at hres
  subst hres
  replace e0:=hZ e0
  go_enter Tryz.func56,Tryz.ntmps56
  go_upto_region 1 with (fail)
  rw [← hwb]
  clear hwb
  go_wp2_with fail
  refine (hch.out _ hfb).mono ?_
  rintro e w1 ⟨rfl,hf1⟩
  go_wp2_with fail
  go_ret
  exact ⟨rfl,hfb.trans hf1⟩
theorem Nr (B n:Nat) (v:Value) (g:List (List Int)) (w:World) (hG:G w) (hv:LG w B v g) (hl:g.length≤1000000) (hr:∀ r,r ∈ g→r.length≤1000000) (hb:∀ r,r ∈ g→∀ x,x ∈ r→(tx x).size≤1000000000) (hE:Jd w) :
 Calls Tryz.prog 91 #[v,.int .i64 n] w (FW w n g):=by
 rcases hv with ⟨rfl,rfl⟩ | ⟨ob,oc,hs,gF,tF,rfl,hg,h2,-,rfl,-⟩
 ·exact (Ki n w).mono fun e w' ⟨he,hf⟩=>⟨fun _=>⟨none,0,he,Ah _,fun W _=>.inl rfl,hf⟩,fun h=>by cases h⟩
 ·have:=Ss ob oc tF n (hs.take tF) (gF.take tF) w hG (hg.take tF) hl (by rw [Av]; omega) hr hb hE
  rw [Ap (by rw [Av]; omega)] at this
  exact this
theorem O4 (m K:List (List Int)) (a:Option Addr) (cap n F:Nat) (w:World) (hG:G w) (hm:A2 w a m) (hC:GE w n a m.length cap) (hr:Bq n m) (hn:1≤n) (hn2:n≤12) (hl:m.length≤12) (hsm:∀ r,r ∈ m→∀ x,x ∈ r→Sm x)
 (hk:DY F n m=some K) (hKl:K.length≤1000000) (hKr:∀ r,r ∈ K→r.length≤1000000) (hKf:∀ r,r ∈ K→∀ x,x ∈ r→(tx x).size≤1000000000) (hE:Jd w) :
 Calls Tryz.prog 49 #[.agg #[.int .i64 n,.slice a m.length cap]] w (FW w n K):=by
 obtain ⟨k,hkl⟩:∃ k,k=m.length:=⟨_,rfl⟩
 have hlo:=fun W (hW:Fr w W)=>FF m a cap W (hG.fr hW) (hm.fr hW) (fun r hrm=>by rw [hr r hrm]; omega) (by omega) hsm
 have hke:=fun W a' c' (hW:Fr w W) (hx:IL W a' m)=>EU m K a' c' n F W (hG.fr hW) hx hr hn (by omega) (by omega) hk
 have hsh:=fun W B v (hW:Fr w W) (hx:LG W B v K)=>Nr B n v K W (hG.fr hW) hx hKl hKr hKf (hE.fr hW)
 obtain ⟨wb,hwb⟩:∃ wb,wb=Dj w [(.cells #[.int .i64 n,.slice a m.length cap] 76),(.cells #[.int .i64 0,.slice none 0 0] 76)]:=⟨_,rfl⟩
 have hfb:Fr w wb:=by rw [hwb]; exact Ds _ w
 have g0:wb.heap[w.heap.size]?=some (.cells #[.int .i64 n,.slice a m.length cap] 76 (0,0)):=by rw [hwb]; exact BT _ w 0 _ rfl
 have g1:wb.heap[w.heap.size+1]?=some (.cells #[.int .i64 0,.slice none 0 0] 76 (0,0)):=by rw [hwb]; exact BT _ w 1 _ rfl
 have b0:wb.cell? ⟨w.heap.size,0,none⟩=some (.int .i64 n):=AH g0 0
 have b1:wb.cell? ⟨w.heap.size,1,none⟩=some (.slice a m.length cap):=AH g0 1
 have q4:wb.cell? ⟨w.heap.size+1,0,none⟩=some (.int .i64 0):=AH g1 0
 have q5:wb.cell? ⟨w.heap.size+1,1,none⟩=some (.slice none 0 0):=AH g1 1
 have q6:wb.frozen? ⟨w.heap.size+1,0,none⟩=false:=by unfold World.frozen?; rw [g1]; rfl
 have q7:wb.frozen? ⟨w.heap.size+1,1,none⟩=false:=by unfold World.frozen?; rw [g1]; rfl
 clear g0 g1
 have hC1:=hC wb hfb
 rw [← hkl] at hlo hke hC1 b1 hwb ⊢
 replace hC1:=hZ hC1
 replace hlo:=hZ hlo
 replace hke:=hZ hke
 replace hsh:=hZ hsh
 replace hkl:=hZ hkl
 clear hC hm hr hk hsm hKl hKr hKf
 clear hE
 cases hbr:Bp K with
 | true=>
   replace hbr:=hZ hbr
   go_enter Tryz.func49,Tryz.ntmps49
   go_upto_region 1 with (fail)
   change Code.wp _ _ _ _ (Dj w [(.cells #[.int .i64 n,.slice a k cap] 76),(.cells #[.int .i64 0,.slice none 0 0] 76)])
   rw [← hwb]
   clear hwb
   go_wp2_with fail
   refine hC1.out.mono ?_
   rintro e w2 ⟨rfl,hf2⟩
   replace q6:=hf2.keepf q4 q6
   replace q7:=hf2.keepf q5 q7
   replace q4:=hf2.keep q4
   replace q5:=hf2.keep q5
   replace b0:=hf2.keep b0
   replace b1:=hf2.keep b1
   replace q4:=hZ q4
   replace q5:=hZ q5
   replace q6:=hZ q6
   replace q7:=hZ q7
   have hfw:=hfb.trans hf2
   clear hfb hf2 hC1
   go_wp2_with fail
   go_region_held3 (fun w'=>w'.cell? ⟨w.heap.size,0,none⟩=some (.int .i64 n)∧w'.cell? ⟨w.heap.size,1,none⟩=some (.slice a k cap))
    (first | go_keep | (go_split_ands; refine ⟨?_, ?_⟩ <;> (refine Fr.keep (by assumption) ?_; assumption)) | (refine FB _ _ _ _ _ _ _ ⟨by assumption,by assumption⟩ (by omega)))
    (first
     | (go_at_call 89; (with_reducible refine (hlo.out _ ?_).mono ?_); (exact BU); rintro e w3 ⟨v3,hs3,rfl,hgg3,-,hf3⟩; obtain ⟨a3,c3,hv3,hm3⟩:=hgg3.mats; rw [← hkl.out] at hv3; subst hv3; replace hm3:=hZ hm3; clear hgg3)
     | (go_at_call 92; (with_reducible refine (hke.out _ _ _ ?_ hm3.out).mono ?_); (exact BU); rintro e w4 ⟨v4,rfl,hl4,hf4⟩; replace hl4:=hZ hl4)
     | (go_at_call 91; (with_reducible refine (hsh.out _ _ _ ?_ hl4.out).mono ?_); (exact BU); rintro e w5 hrr; obtain ⟨a5,c5,rfl,hcp5,hm5,hf5⟩:=hrr.1 hbr.out; clear hrr; replace hm5:=hZ hm5; have hfz:Fr w2 w5:=(by exact BU); have t4:=hfz.keep q4.out; have t5:=hfz.keep q5.out; have t6:=hfz.keepf q4.out q6.out; have t7:=hfz.keepf q5.out q7.out; have qs:=Ci w5 (w.heap.size+1) (.int .i64 n) (.slice a5 K.length c5) _ _ t4 t5; have q8:=qs.2.2.1; have u0:=hZ qs.1; have u1:=hZ qs.2.1; have hfx:=hZ qs.2.2.2; clear qs))
   have hsz4:=(show Fr w2 w4 by exact BU).size
   have hszb:w.heap.size+1 < w2.heap.size:=A0 w2 ⟨w.heap.size+1,0,none⟩ q4.out
   clear q8 t4 t5 t6 t7
   go_wp2_with fail
   have v0:=u0.out
   have v1:=u1.out
   refine AK (v:=.tuple #[.agg #[.int .i64 n,.slice a5 K.length c5],.int .i64 0]) (by simp [results,Tryz.results49,go_sem,v0,v1]) rfl ⟨fun _=>⟨a5,c5,rfl,hcp5, ?_, ?_⟩,fun h=>(by rw [hbr.out] at h; cases h)⟩
   ·intro W hW
    exact hm5.out W ((hfx.out.mono (fun k e=>by have e:k=w.heap.size+1:=e; show k < _; omega)).trans (hW.mono (fun k e=>by have e:k < w.heap.size:=e; show k < _; omega)))
   ·exact ((Fx.of_fr (p:=fun q=>q=w.heap.size+1) (hfw.trans hfz)).trans hfx.out).toFr (fun q hq e=>by have e:q=w.heap.size+1:=e; omega)
 | false=>
   replace hbr:=hZ hbr
   go_enter Tryz.func49,Tryz.ntmps49
   go_upto_region 1 with (fail)
   change Code.wp _ _ _ _ (Dj w [(.cells #[.int .i64 n,.slice a k cap] 76),(.cells #[.int .i64 0,.slice none 0 0] 76)])
   rw [← hwb]
   clear hwb
   go_wp2_with fail
   refine hC1.out.mono ?_
   rintro e w2 ⟨rfl,hf2⟩
   replace q6:=hf2.keepf q4 q6
   replace q7:=hf2.keepf q5 q7
   replace q4:=hf2.keep q4
   replace q5:=hf2.keep q5
   replace b0:=hf2.keep b0
   replace b1:=hf2.keep b1
   replace q4:=hZ q4
   replace q5:=hZ q5
   replace q6:=hZ q6
   replace q7:=hZ q7
   have hfw:=hfb.trans hf2
   clear hfb hf2 hC1
   go_wp2_with fail
   go_region_held3 (fun w'=>w'.cell? ⟨w.heap.size,0,none⟩=some (.int .i64 n)∧w'.cell? ⟨w.heap.size,1,none⟩=some (.slice a k cap))
    (first | go_keep | (go_split_ands; refine ⟨?_, ?_⟩ <;> (refine Fr.keep (by assumption) ?_; assumption)) | (refine FB _ _ _ _ _ _ _ ⟨by assumption,by assumption⟩ (by omega)))
    (first
     | (go_at_call 89; (with_reducible refine (hlo.out _ ?_).mono ?_); (exact BU); rintro e w3 ⟨v3,hs3,rfl,hgg3,-,hf3⟩; obtain ⟨a3,c3,hv3,hm3⟩:=hgg3.mats; rw [← hkl.out] at hv3; subst hv3; replace hm3:=hZ hm3; clear hgg3)
     | (go_at_call 92; (with_reducible refine (hke.out _ _ _ ?_ hm3.out).mono ?_); (exact BU); rintro e w4 ⟨v4,rfl,hl4,hf4⟩; replace hl4:=hZ hl4)
     | (go_at_call 91; (with_reducible refine (hsh.out _ _ _ ?_ hl4.out).mono ?_); (exact BU); rintro e w5 hrr; obtain ⟨rfl,hf5⟩:=hrr.2 hbr.out; clear hrr; have hfz:Fr w2 w5:=(by exact BU); have t4:=hfz.keep q4.out; have t5:=hfz.keep q5.out; have t6:=hfz.keepf q4.out q6.out; have t7:=hfz.keepf q5.out q7.out; have qs:=Ci w5 (w.heap.size+1) (.int .i64 0) (.slice none 0 0) _ _ t4 t5; have q8:=qs.2.2.1; have u0:=hZ qs.1; have u1:=hZ qs.2.1; have hfx:=hZ qs.2.2.2; clear qs))
   have hsz4:=(show Fr w2 w4 by exact BU).size
   have hszb:w.heap.size+1 < w2.heap.size:=A0 w2 ⟨w.heap.size+1,0,none⟩ q4.out
   clear q8 t4 t5 t6 t7
   go_wp2_with fail
   have v0:=u0.out
   have v1:=u1.out
   refine AK (v:=.tuple #[.agg #[.int .i64 0,.slice none 0 0],.int .i64 4]) (by simp [results,Tryz.results49,go_sem,v0,v1]) rfl ⟨fun h=>(by rw [hbr.out] at h; cases h),fun _=>⟨rfl, ?_⟩⟩
   exact ((Fx.of_fr (p:=fun q=>q=w.heap.size+1) (hfw.trans hfz)).trans hfx.out).toFr (fun q hq e=>by have e:q=w.heap.size+1:=e; omega)
theorem OU (m K1 K:List (List Int)) (a:Option Addr) (cap n F:Nat) (w:World) (hG:G w) (hm:A2 w a m) (hC:GE w n a m.length cap) (hr:Bq n m) (hn:1≤n) (hn2:n≤12) (hl:m.length≤12) (hsm:∀ r,r ∈ m→∀ x,x ∈ r→Sm x)
 (hk:DY F n m=some K1) (hk2:DY F n K1=some K) (hr1:Bq n K1) (hl1:K1.length≤1000) (hKl:K.length≤1000000) (hKr:∀ r,r ∈ K→r.length≤1000000) (hKf:∀ r,r ∈ K→∀ x,x ∈ r→(tx x).size≤1000000000) (hE:Jd w) :
 Calls Tryz.prog 50 #[.agg #[.int .i64 n,.slice a m.length cap]] w (FW w n K):=by
 obtain ⟨k,hkl⟩:∃ k,k=m.length:=⟨_,rfl⟩
 have hlo:=fun W (hW:Fr w W)=>FF m a cap W (hG.fr hW) (hm.fr hW) (fun r hrm=>by rw [hr r hrm]; omega) (by omega) hsm
 have hke:=fun W a' c' (hW:Fr w W) (hx:IL W a' m)=>EU m K1 a' c' n F W (hG.fr hW) hx hr hn (by omega) (by omega) hk
 have hkf:=fun W a' c' (hW:Fr w W) (hx:IL W a' K1)=>EU K1 K a' c' n F W (hG.fr hW) hx hr1 hn (by omega) hl1 hk2
 have hsh:=fun W B v (hW:Fr w W) (hx:LG W B v K)=>Nr B n v K W (hG.fr hW) hx hKl hKr hKf (hE.fr hW)
 obtain ⟨wb,hwb⟩:∃ wb,wb=Dj w [(.cells #[.int .i64 n,.slice a m.length cap] 76),(.cells #[.int .i64 0,.slice none 0 0] 76)]:=⟨_,rfl⟩
 have hfb:Fr w wb:=by rw [hwb]; exact Ds _ w
 have g0:wb.heap[w.heap.size]?=some (.cells #[.int .i64 n,.slice a m.length cap] 76 (0,0)):=by rw [hwb]; exact BT _ w 0 _ rfl
 have g1:wb.heap[w.heap.size+1]?=some (.cells #[.int .i64 0,.slice none 0 0] 76 (0,0)):=by rw [hwb]; exact BT _ w 1 _ rfl
 have b0:wb.cell? ⟨w.heap.size,0,none⟩=some (.int .i64 n):=AH g0 0
 have b1:wb.cell? ⟨w.heap.size,1,none⟩=some (.slice a m.length cap):=AH g0 1
 have q4:wb.cell? ⟨w.heap.size+1,0,none⟩=some (.int .i64 0):=AH g1 0
 have q5:wb.cell? ⟨w.heap.size+1,1,none⟩=some (.slice none 0 0):=AH g1 1
 have q6:wb.frozen? ⟨w.heap.size+1,0,none⟩=false:=by unfold World.frozen?; rw [g1]; rfl
 have q7:wb.frozen? ⟨w.heap.size+1,1,none⟩=false:=by unfold World.frozen?; rw [g1]; rfl
 clear g0 g1
 have hC1:=hC wb hfb
 rw [← hkl] at hlo hke hC1 b1 hwb ⊢
 replace hC1:=hZ hC1
 replace hlo:=hZ hlo
 replace hke:=hZ hke
 replace hkf:=hZ hkf
 replace hsh:=hZ hsh
 replace hkl:=hZ hkl
 clear hC hm hr hk hk2 hr1 hl1 hsm hKl hKr hKf
 clear hE
 cases hbr:Bp K with
 | true=>
   replace hbr:=hZ hbr
   go_enter Tryz.func50,Tryz.ntmps50
   go_upto_region 1 with (fail)
   change Code.wp _ _ _ _ (Dj w [(.cells #[.int .i64 n,.slice a k cap] 76),(.cells #[.int .i64 0,.slice none 0 0] 76)])
   rw [← hwb]
   clear hwb
   go_wp2_with fail
   refine hC1.out.mono ?_
   rintro e w2 ⟨rfl,hf2⟩
   replace q6:=hf2.keepf q4 q6
   replace q7:=hf2.keepf q5 q7
   replace q4:=hf2.keep q4
   replace q5:=hf2.keep q5
   replace b0:=hf2.keep b0
   replace b1:=hf2.keep b1
   replace q4:=hZ q4
   replace q5:=hZ q5
   replace q6:=hZ q6
   replace q7:=hZ q7
   have hfw:=hfb.trans hf2
   clear hfb hf2 hC1
   go_wp2_with fail
   go_region_held3 (fun w'=>w'.cell? ⟨w.heap.size,0,none⟩=some (.int .i64 n)∧w'.cell? ⟨w.heap.size,1,none⟩=some (.slice a k cap))
    (first | go_keep | (go_split_ands; refine ⟨?_, ?_⟩ <;> (refine Fr.keep (by assumption) ?_; assumption)) | (refine FB _ _ _ _ _ _ _ ⟨by assumption,by assumption⟩ (by omega)))
    (first
     | (go_at_call 89; (with_reducible refine (hlo.out _ ?_).mono ?_); (exact BU); rintro e w3 ⟨v3,hs3,rfl,hgg3,-,hf3⟩; obtain ⟨a3,c3,hv3,hm3⟩:=hgg3.mats; rw [← hkl.out] at hv3; subst hv3; replace hm3:=hZ hm3; clear hgg3)
     | (go_at_call 92; (with_reducible refine (hkf.out _ _ _ ?_ hm6.out).mono ?_); (exact BU); rintro e w4 ⟨v4,rfl,hl4,hf4⟩; replace hl4:=hZ hl4)
     | (go_at_call 92; (with_reducible refine (hke.out _ _ _ ?_ hm3.out).mono ?_); (exact BU); rintro e w6 ⟨v6,rfl,hl6,hf6⟩; obtain ⟨a6,c6,hv6,hm6⟩:=hl6.mats; subst hv6; replace hm6:=hZ hm6; clear hl6)
     | (go_at_call 91; (with_reducible refine (hsh.out _ _ _ ?_ hl4.out).mono ?_); (exact BU); rintro e w5 hrr; obtain ⟨a5,c5,rfl,hcp5,hm5,hf5⟩:=hrr.1 hbr.out; clear hrr; replace hm5:=hZ hm5; have hfz:Fr w2 w5:=(by exact BU); have t4:=hfz.keep q4.out; have t5:=hfz.keep q5.out; have t6:=hfz.keepf q4.out q6.out; have t7:=hfz.keepf q5.out q7.out; have qs:=Ci w5 (w.heap.size+1) (.int .i64 n) (.slice a5 K.length c5) _ _ t4 t5; have q8:=qs.2.2.1; have u0:=hZ qs.1; have u1:=hZ qs.2.1; have hfx:=hZ qs.2.2.2; clear qs))
   have hsz4:=(show Fr w2 w4 by exact BU).size
   have hszb:w.heap.size+1 < w2.heap.size:=A0 w2 ⟨w.heap.size+1,0,none⟩ q4.out
   clear q8 t4 t5 t6 t7
   go_wp2_with fail
   have v0:=u0.out
   have v1:=u1.out
   refine AK (v:=.tuple #[.agg #[.int .i64 n,.slice a5 K.length c5],.int .i64 0]) (by simp [results,Tryz.results50,go_sem,v0,v1]) rfl ⟨fun _=>⟨a5,c5,rfl,hcp5, ?_, ?_⟩,fun h=>(by rw [hbr.out] at h; cases h)⟩
   ·intro W hW
    exact hm5.out W ((hfx.out.mono (fun k e=>by have e:k=w.heap.size+1:=e; show k < _; omega)).trans (hW.mono (fun k e=>by have e:k < w.heap.size:=e; show k < _; omega)))
   ·exact ((Fx.of_fr (p:=fun q=>q=w.heap.size+1) (hfw.trans hfz)).trans hfx.out).toFr (fun q hq e=>by have e:q=w.heap.size+1:=e; omega)
 | false=>
   replace hbr:=hZ hbr
   go_enter Tryz.func50,Tryz.ntmps50
   go_upto_region 1 with (fail)
   change Code.wp _ _ _ _ (Dj w [(.cells #[.int .i64 n,.slice a k cap] 76),(.cells #[.int .i64 0,.slice none 0 0] 76)])
   rw [← hwb]
   clear hwb
   go_wp2_with fail
   refine hC1.out.mono ?_
   rintro e w2 ⟨rfl,hf2⟩
   replace q6:=hf2.keepf q4 q6
   replace q7:=hf2.keepf q5 q7
   replace q4:=hf2.keep q4
   replace q5:=hf2.keep q5
   replace b0:=hf2.keep b0
   replace b1:=hf2.keep b1
   replace q4:=hZ q4
   replace q5:=hZ q5
   replace q6:=hZ q6
   replace q7:=hZ q7
   have hfw:=hfb.trans hf2
   clear hfb hf2 hC1
   go_wp2_with fail
   go_region_held3 (fun w'=>w'.cell? ⟨w.heap.size,0,none⟩=some (.int .i64 n)∧w'.cell? ⟨w.heap.size,1,none⟩=some (.slice a k cap))
    (first | go_keep | (go_split_ands; refine ⟨?_, ?_⟩ <;> (refine Fr.keep (by assumption) ?_; assumption)) | (refine FB _ _ _ _ _ _ _ ⟨by assumption,by assumption⟩ (by omega)))
    (first
     | (go_at_call 89; (with_reducible refine (hlo.out _ ?_).mono ?_); (exact BU); rintro e w3 ⟨v3,hs3,rfl,hgg3,-,hf3⟩; obtain ⟨a3,c3,hv3,hm3⟩:=hgg3.mats; rw [← hkl.out] at hv3; subst hv3; replace hm3:=hZ hm3; clear hgg3)
     | (go_at_call 92; (with_reducible refine (hkf.out _ _ _ ?_ hm6.out).mono ?_); (exact BU); rintro e w4 ⟨v4,rfl,hl4,hf4⟩; replace hl4:=hZ hl4)
     | (go_at_call 92; (with_reducible refine (hke.out _ _ _ ?_ hm3.out).mono ?_); (exact BU); rintro e w6 ⟨v6,rfl,hl6,hf6⟩; obtain ⟨a6,c6,hv6,hm6⟩:=hl6.mats; subst hv6; replace hm6:=hZ hm6; clear hl6)
     | (go_at_call 91; (with_reducible refine (hsh.out _ _ _ ?_ hl4.out).mono ?_); (exact BU); rintro e w5 hrr; obtain ⟨rfl,hf5⟩:=hrr.2 hbr.out; clear hrr; have hfz:Fr w2 w5:=(by exact BU); have t4:=hfz.keep q4.out; have t5:=hfz.keep q5.out; have t6:=hfz.keepf q4.out q6.out; have t7:=hfz.keepf q5.out q7.out; have qs:=Ci w5 (w.heap.size+1) (.int .i64 0) (.slice none 0 0) _ _ t4 t5; have q8:=qs.2.2.1; have u0:=hZ qs.1; have u1:=hZ qs.2.1; have hfx:=hZ qs.2.2.2; clear qs))
   have hsz4:=(show Fr w2 w4 by exact BU).size
   have hszb:w.heap.size+1 < w2.heap.size:=A0 w2 ⟨w.heap.size+1,0,none⟩ q4.out
   clear q8 t4 t5 t6 t7
   go_wp2_with fail
   have v0:=u0.out
   have v1:=u1.out
   refine AK (v:=.tuple #[.agg #[.int .i64 0,.slice none 0 0],.int .i64 4]) (by simp [results,Tryz.results50,go_sem,v0,v1]) rfl ⟨fun h=>(by rw [hbr.out] at h; cases h),fun _=>⟨rfl, ?_⟩⟩
   exact ((Fx.of_fr (p:=fun q=>q=w.heap.size+1) (hfw.trans hfz)).trans hfx.out).toFr (fun q hq e=>by have e:q=w.heap.size+1:=e; omega)
end Go.Proofs.YtiniigadkknboaaGreatDoor
namespace Go.Proofs.YtiniigadkknboaaGreatDoor
theorem RF {c g:Nat→Int}:∀ n,(∀ l,l < n→g l=0)→Cd c g n=0
 | 0,_=>rfl
 | n+1,h=>by show Cd c g n+c n * g n=0; rw [RF n (fun l hl=>h l (by omega)),h n (by omega)]; omega
theorem OJ (f g:Nat→Int):∀ n,Cd f g (n+1)=f 0 * g 0+Cd (fun i=>f (i+1)) (fun i=>g (i+1)) n
 | 0=>by show Cd f g 0+f 0 * g 0=f 0 * g 0+0; show 0+f 0 * g 0=_; omega
 | n+1=>by
   show Cd f g (n+1)+f (n+1) * g (n+1)=f 0 * g 0+(Cd (fun i=>f (i+1)) (fun i=>g (i+1)) n+f (n+1) * g (n+1))
   rw [OJ f g n]; omega
def sA (f:Nat→Int):Nat→Nat
 | 0=>0
 | n+1=>sA f n+(f n).natAbs
theorem OK {f g:Nat→Int} {P:Nat}:∀ n,(∀ l,l < n→(g l).natAbs≤P)→(Cd f g n).natAbs≤sA f n * P
 | 0,_=>by show (0:Int).natAbs≤_; simp
 | n+1,h=>by
   have ih:=OK (f:=f) n (fun l hl=>h l (by omega))
   have h1:(f n * g n).natAbs≤(f n).natAbs * P:=by rw [AZ]; exact A7 _ (h n (by omega))
   show (Cd f g n+f n * g n).natAbs≤(sA f n+(f n).natAbs) * P
   rw [EK]
   omega
theorem X3 (f:Nat→Int):∀ n,sA f (n+1)=(f 0).natAbs+sA (fun i=>f (i+1)) n
 | 0=>by show sA f 0+(f 0).natAbs=(f 0).natAbs+0; show 0+_=_; omega
 | n+1=>by
   show sA f (n+1)+(f (n+1)).natAbs=(f 0).natAbs+(sA (fun i=>f (i+1)) n+(f (n+1)).natAbs)
   rw [X3 f n]; omega
structure WG (p:Nat→Nat) (t:Nat) (E:Nat→Nat→Int):Prop where
 inc:∀ i j,i < j→j < t→p i < p j
 pos:∀ i,i < t→0 < E i (p i)
 low:∀ i,i < t→∀ k,k < p i→E i k=0
 up:∀ i j,i < j→j < t→0≤E i (p j)∧E i (p j) < E j (p j)
theorem WG.tail {p:Nat→Nat} {t:Nat} {E:Nat→Nat→Int} (h:WG p (t+1) E):WG (fun i=>p (i+1)) t (fun i=>E (i+1)) :=
 ⟨fun i j a b=>h.inc (i+1) (j+1) (by omega) (by omega),fun i a=>h.pos (i+1) (by omega),fun i a k b=>h.low (i+1) (by omega) k b,fun i j a b=>h.up (i+1) (j+1) (by omega) (by omega)⟩
theorem FL.fn {p:Nat→Nat} {c t:Nat} {g:List (List Int)} (h:FL p c t g):WG p t (Aw g):=⟨h.inc,h.pos,h.low,h.up⟩
def SpF (t:Nat) (E:Nat→Nat→Int) (x:Nat→Int):Prop:=∃ c:Nat→Int,∀ k,x k=Cd c (fun i=>E i k) t
def RSp (N:Nat) (V:Nat→Nat→Int) (t:Nat) (E:Nat→Nat→Int):Prop:=∀ i,i < t→∃ d:Int,d≠0∧∃ c:Nat→Int,∀ k,d * E i k=Cd c (fun l=>V l k) N
def IF (Z:Nat→Bool):Nat→Nat
 | 0=>0
 | n+1=>IF Z n+if Z n then 0 else 1
theorem Ql {Z Z':Nat→Bool}:∀ n,(∀ l,l < n→Z l=Z' l)→IF Z n=IF Z' n
 | 0,_=>rfl
 | n+1,h=>by
   show IF Z n+_=IF Z' n+_
   rw [Ql n (fun l hl=>h l (by omega)),h n (by omega)]
theorem FI {Z:Nat→Bool} {q:Nat} (hq:Z q=false):∀ n,q < n→IF (fun l=>if l=q then true else Z l) n+1=IF Z n
 | 0,h=>by omega
 | n+1,h=>by
   show IF (fun l=>if l=q then true else Z l) n+(if (if n=q then true else Z n)=true then 0 else 1)+1=IF Z n+if Z n=true then 0 else 1
   by_cases e:n=q
   ·subst e
    rw [Ql (Z':=Z) n (fun l hl=>by rw [Ae (by omega)]),Ai rfl,Ai rfl,hq]
    rfl
   ·rw [Ae e]
    have:=FI hq n (by omega)
    omega
def Mx:Nat→Nat→Nat
 | 0,_=>0
 | t+1,B=>B+2 ^ t * (B+1) * Mx t (2 * B * B)
theorem YJ {a B Z e:Nat} (ha:1≤a) (h:a * e≤B+(B+a) * Z):e≤B+(B+1) * Z:=by
 obtain ⟨a',rfl⟩:∃ a',a=a'+1:=⟨a - 1,by omega⟩
 refine Nat.le_of_not_lt fun h1=>?_
 have h2:(a'+1) * (B+(B+1) * Z+1)≤(a'+1) * e:=A7 _ h1
 have h3:a' * Z≤a' * (B+(B+1) * Z+1):=A7 _ (by
  have:Z≤(B+1) * Z:=EQ _ (by omega)
  omega)
 have h4:(a'+1) * (B+(B+1) * Z+1)=a' * (B+(B+1) * Z+1)+(B+(B+1) * Z+1):=by rw [EK,D7]
 have h5:(B+(a'+1)) * Z=(B+1) * Z+a' * Z:=by rw [← EK]; congr 1; omega
 omega
theorem LH:∀ (t:Nat) (p:Nat→Nat) (E:Nat→Nat→Int) (N:Nat) (V:Nat→Nat→Int) (Z:Nat→Bool) (B:Nat),WG p t E→(∀ l,l < N→SpF t E (V l))→RSp N V t E→(∀ l,l < N→∀ k,(V l k).natAbs≤B)→(∀ l,l < N→Z l=true→∀ k,V l k=0) →
 t≤IF Z N∧∀ i,i < t→∀ k,(E i k).natAbs≤Mx t B
 | 0,_,_,_,_,_,_,_,_,_,_,_=>⟨Cp _,fun i h=>absurd h (A3 _)⟩
 | t+1,p,E,N,V,Z,B,hE,hS,hR,hB,hZv=>by
   have hp0:=hE.pos 0 (by omega)
   -- a vector that does not vanish at the first pivot
   obtain ⟨q,hqN,hq⟩:∃ q,q < N∧V q (p 0)≠0:=by
    refine At fun hno=>?_
    obtain ⟨d,hd,c,hc⟩:=hR 0 (by omega)
    have h1:=hc (p 0)
    rw [RF N (fun l hl=>At fun h=>hno ⟨l,hl,h⟩)] at h1
    rcases CB.1 h1 with h | h <;> omega
   have hZq:Z q=false:=by
    cases h:Z q with
    | false=>rfl
    | true=>exact absurd (hZv q hqN h (p 0)) hq
   have hv0:∀ (c:Nat→Int),Cd c (fun i=>E i (p 0)) (t+1)=c 0 * E 0 (p 0):=fun c=>by
    rw [OJ,RF t (fun l hl=>hE.low (l+1) (by omega) (p 0) (hE.inc 0 (l+1) (by omega) (by omega)))]; omega
   obtain ⟨a,ha⟩:=hS q hqN
   have ha0:V q (p 0)=a 0 * E 0 (p 0):=by rw [ha (p 0),hv0]
   have ha1:a 0≠0:=fun e=>by rw [e] at ha0; apply hq; rw [ha0]; omega
   -- the rest
   obtain ⟨ih1,ih2⟩:=LH t (fun i=>p (i+1)) (fun i=>E (i+1)) N (fun l k=>V q (p 0) * V l k - V l (p 0) * V q k) (fun l=>if l=q then true else Z l) (2 * B * B) hE.tail
    (fun l hl=>by
     obtain ⟨b,hb⟩:=hS l hl
     have hb0:V l (p 0)=b 0 * E 0 (p 0):=by rw [hb (p 0),hv0]
     refine ⟨fun i=>V q (p 0) * b (i+1) - V l (p 0) * a (i+1),fun k=>?_⟩
     have e1:Cd (fun i=>V q (p 0) * b (i+1) - V l (p 0) * a (i+1)) (fun i=>E (i+1) k) t=V q (p 0) * Cd (fun i=>b (i+1)) (fun i=>E (i+1) k) t - V l (p 0) * Cd (fun i=>a (i+1)) (fun i=>E (i+1) k) t:=by
      rw [← Co,show (fun i=>V q (p 0) * b (i+1) - V l (p 0) * a (i+1))=(fun i=>V q (p 0) * b (i+1)+(-V l (p 0)) * a (i+1)) from funext fun i=>by grind,CZ,Co,Co]
      grind
     show V q (p 0) * V l k - V l (p 0) * V q k=_
     rw [e1]
     have h1:=hb k
     have h2:=ha k
     rw [OJ] at h1 h2
     generalize Cd (fun i=>b (i+1)) (fun i=>E (i+1) k) t=X at *
     generalize Cd (fun i=>a (i+1)) (fun i=>E (i+1) k) t=Y at *
     rw [h1,h2,hb0,ha0]
     grind)
    (fun i hi=>by
     obtain ⟨d,hd,c,hc⟩:=hR (i+1) (by omega)
     refine ⟨V q (p 0) * d,fun e=>by rcases CB.1 e with h | h; exact hq h; exact hd h,c,fun k=>?_⟩
     have h0:=hc (p 0)
     rw [hE.low (i+1) (by omega) (p 0) (hE.inc 0 (i+1) (by omega) (by omega))] at h0
     have e1:Cd c (fun l=>V q (p 0) * V l k - V l (p 0) * V q k) N=V q (p 0) * Cd c (fun l=>V l k) N - Cd c (fun l=>V l (p 0)) N * V q k:=by
      rw [BP c (fun l=>V q (p 0) * V l k - V l (p 0) * V q k),BP c (fun l=>V l k),BP c (fun l=>V l (p 0)),
       show (fun l=>V q (p 0) * V l k - V l (p 0) * V q k)=(fun l=>V q (p 0) * V l k+(-V q k) * V l (p 0)) from funext fun i=>by grind,CZ,Co,Co]
      grind
     show V q (p 0) * d * E (i+1) k=_
     rw [e1,← hc k,← h0]
     grind)
    (fun l hl k=>by
     have b1:=hB l hl k
     have b2:=hB q hqN k
     have b3:=hB l hl (p 0)
     have b4:=hB q hqN (p 0)
     have m1:=Az b4 b1
     have m2:=Az b3 b2
     rw [← AZ] at m1 m2
     show (V q (p 0) * V l k - V l (p 0) * V q k).natAbs≤2 * B * B
     rw [E3]
     omega)
    (fun l hl hz k=>by
     show V q (p 0) * V l k - V l (p 0) * V q k=0
     by_cases e:l=q
     ·subst e; rw [Ed]; omega
     ·rw [Ae e] at hz
      rw [hZv l hl hz k,hZv l hl hz (p 0)]; omega)
   refine ⟨by have:=FI hZq N hqN; omega, ?_⟩
   have hM0:Mx t (2 * B * B)≤Mx (t+1) B:=by
    show _≤B+2 ^ t * (B+1) * Mx t (2 * B * B)
    have:Mx t (2 * B * B)≤2 ^ t * (B+1) * Mx t (2 * B * B):=EQ _ (WW (EJ (by decide)) (by omega))
    omega
   -- the multiples
   have hT:∀ i,i≤t→B+sA a (i+1)≤2 ^ i * (B+(a 0).natAbs):=fun i=>by
    induction i with
    | zero=>intro _; show B+(0+(a 0).natAbs)≤2 ^ 0 * _; omega
    | succ i ihi=>
      intro hi
      have h1:=ihi (by omega)
      have hpi:=hE.pos (i+1) (by omega)
      -- column of the pivot
      have h2:V q (p (i+1))=Cd a (fun l=>E l (p (i+1))) (i+1)+a (i+1) * E (i+1) (p (i+1)):=by
       rw [ha (p (i+1))]
       have key:∀ n,i+2≤n→n≤t+1→Cd a (fun l=>E l (p (i+1))) n=Cd a (fun l=>E l (p (i+1))) (i+2):=fun n=>by
        induction n with
        | zero=>intro h; omega
        | succ n ihn=>
          intro h h'
          by_cases e:i+2=n+1
          ·rw [e]
          ·show Cd a (fun l=>E l (p (i+1))) n+a n * E n (p (i+1))=_
           rw [ihn (by omega) (by omega),hE.low n (by omega) (p (i+1)) (hE.inc (i+1) n (by omega) (by omega)),BJ,Dl]
       rw [key (t+1) (by omega) (Ah _)]; rfl
      have h3:=OK (f:=a) (g:=fun l=>E l (p (i+1))) (P:=(E (i+1) (p (i+1))).natAbs) (i+1) (fun l hl=>by
       have:=hE.up l (i+1) (by omega) (by omega)
       show (E l (p (i+1))).natAbs≤_
       omega)
      have h4:=hB q hqN (p (i+1))
      generalize Cd a (fun l=>E l (p (i+1))) (i+1)=X at *
      have h5:(a (i+1)).natAbs * (E (i+1) (p (i+1))).natAbs≤(B+sA a (i+1)) * (E (i+1) (p (i+1))).natAbs:=by
       rw [← AZ,EK]
       have h6:B≤B * (E (i+1) (p (i+1))).natAbs:=Ez _ (by omega)
       generalize a (i+1) * E (i+1) (p (i+1))=Y at *
       omega
      have h7:=Nat.le_of_mul_le_mul_right h5 (by omega)
      show B+(sA a (i+1)+(a (i+1)).natAbs)≤2 ^ (i+1) * _
      rw [Bl,CL (2 ^ i) 2,E3]
      omega
   intro i hi k
   cases i with
   | succ i=>exact Ar (ih2 i (by omega) k) hM0
   | zero=>
     have h1:=ha k
     rw [OJ] at h1
     have h2:=OK (f:=fun i=>a (i+1)) (g:=fun i=>E (i+1) k) (P:=Mx t (2 * B * B)) t (fun l hl=>ih2 l hl k)
     have h3:=hB q hqN k
     have h4:=hT t (Ah _)
     rw [X3] at h4
     generalize Cd (fun i=>a (i+1)) (fun i=>E (i+1) k) t=X at *
     have h5:sA (fun i=>a (i+1)) t≤2 ^ t * (B+(a 0).natAbs):=by omega
     have h6:=A6 (Mx t (2 * B * B)) h5
     have h7:(a 0).natAbs * (E 0 k).natAbs≤B+(B+(a 0).natAbs) * (2 ^ t * Mx t (2 * B * B)):=by
      rw [← AZ]
      have e:2 ^ t * (B+(a 0).natAbs) * Mx t (2 * B * B)=(B+(a 0).natAbs) * (2 ^ t * Mx t (2 * B * B)):=by
       rw [CL (2 ^ t),E3]
      rw [e] at h6
      generalize a 0 * E 0 k=Y at *
      omega
     have h8:=YJ (by omega) h7
     show _≤B+2 ^ t * (B+1) * Mx t (2 * B * B)
     rw [CL (2 ^ t),E3]
     exact h8
end Go.Proofs.YtiniigadkknboaaGreatDoor
