/- Contracts and laws: GBC. -/
import Derived.Test.YtiniigadkknboaaGreatDoorGBB
import Derived.Test.YtiniigadkknboaaGreatDoorGAW
import Derived.Test.YtiniigadkknboaaGreatDoorGAU
import Derived.Test.YtiniigadkknboaaGreatDoorGAV

set_option maxRecDepth 100000
set_option maxHeartbeats 2000000
namespace Go.Proofs.YtiniigadkknboaaGreatDoor
open Go.RowKit Go.Lib
attribute [local go_sem ↓] Go.wp_at_zero Go.wp_at_succ
theorem Fg (P:List Int) (s:Int):(BM P s).length=P.length:=by
 cases P with
 | nil=>rfl
 | cons p0 r=>unfold BM; simp
theorem Nv (P:List Int) (pa:Option Addr) (pc:Nat) (s:Int) (w:World) (hs:1≤s∧s≤50000) :
 Calls Tryz.prog 84 #[.slice pa P.length pc,.int .i64 (2 * s),.int .i64 0] w fun e w'=>e=.returned (.int .i64 s)∧Fr w w':=by
 obtain ⟨h1,h2⟩:=hs
 have k1:IntKind.i64.wrap (2 * s+1)=2 * s+1:=Ak _ (by omega)
 obtain ⟨t,ht⟩:∃ t,t=2 * s:=⟨_,rfl⟩
 rw [← ht] at k1 ⊢
 replace ht:=hZ ht
 go_enter Tryz.func84,Tryz.ntmps84
 go_wp2_with fail
 have e2:(t+1) / 2=s:=by have:=ht.out; omega
 rw [e2]
 go_ret
 exact ⟨rfl,Fr.refl _⟩
theorem Ou (p0:Int) (r:List Int) (j:Nat) (p:Int) (pa:Option Addr) (pc:Nat) (s:Int) (w:World) (hp:r[j]?=some p) (hs:1≤s∧s≤50000) (hE:BQ (p0 :: r)=0) (hq:Zj p0 p s=true) (hP:El w iv pa (p0 :: r)) (hG:G w) :
 Calls Tryz.prog 84 #[.slice pa (r.length+1) pc,.int .i64 (2 * s),.int .i64 ((j+1:Nat):Int)] w fun e w'=>e=.returned (.int .i64 (qV p0 p s))∧Fr w w':=by
 have hj:=(Ae.1 hp).1
 have h6:=(CV hE).2.1
 rw [Aw] at h6
 have hask:=XP hp hs hE hq
 have hb:=hask.qb
 have hl1:=hZ (fun W (hW:Fr w W)=>OS (r.length+1) pa pc (2 * s) 1 (j+1) 0 W (by omega) (by omega) (by omega) (by omega) (by omega) (hG.fr hW))
 have hl2:=hZ (fun W (hW:Fr w W)=>OS (r.length+1) pa pc 2 0 0 0 W (by omega) (by omega) (by omega) (by omega) (by omega) (hG.fr hW))
 have hfl:=hZ (fun (W:World) (aa ba:Option Addr) (ac bc:Nat) (hW:Fr w W) (hA:GJ W aa (FQ (r.length+1) (2 * s) (j+1) 1 0)) (hB:GJ W ba (FQ (r.length+1) 2 0 0 0))=>S6 (p0 :: r) _ _ Oe (qV p0 p s) pa aa ba pc ac bc W hask (hP.fr hW) hA hB (hG.fr hW))
 have hla:=hask.la
 have hlb:=hask.lb
 rw [Aw] at hla hlb hfl
 replace hla:=hZ hla
 replace hlb:=hZ hlb
 have hsm:=hZ (fun W=>Eg (qV p0 p s) (by omega) (by omega) W)
 have b1:(((j+1:Nat):Int) == 0)=false:=A2 (by omega)
 generalize FQ (r.length+1) (2 * s) (j+1) 1 0=A at *
 generalize FQ (r.length+1) 2 0 0 0=B at *
 generalize qV p0 p s=q at *
 obtain ⟨n,hn⟩:∃ n,n=r.length+1:=⟨_,rfl⟩
 rw [← hn] at hl1 hl2 hfl hla hlb ⊢
 replace hn:=hZ hn
 obtain ⟨t,ht⟩:∃ t,t=2 * s:=⟨_,rfl⟩
 rw [← ht] at hl1 ⊢
 replace ht:=hZ ht
 obtain ⟨J,hJ⟩:∃ J,J=j+1:=⟨_,rfl⟩
 rw [← hJ] at hl1 b1 ⊢
 replace hJ:=hZ hJ
 clear hask hp hq hP hG hE hs hb
 go_enter Tryz.func84,Tryz.ntmps84
 go_wp2_with fail
 refine (hl1.out _ (Fr.refl _)).mono ?_
 rintro e w1 ⟨g1,c1,rfl,hA1,hf1⟩
 rw [← hla.out]
 go_wp2_with fail
 refine (hl2.out _ hf1).mono ?_
 rintro e w2 ⟨g2,c2,rfl,hB2,hf2⟩
 rw [← hlb.out]
 have hf12:=hf1.trans hf2
 go_wp2_with fail
 refine (hfl.out _ _ _ _ _ hf12 (hA1.fr hf2) hB2).mono ?_
 rintro e w3 ⟨rfl,hf3⟩
 go_wp2_with fail
 refine (hsm.out _).mono ?_
 rintro e w4 ⟨rfl,hf4⟩
 go_wp2_with fail
 go_ret
 exact ⟨rfl,(hf12.trans hf3).trans hf4⟩
theorem E5 (P:List Int) (a:Option Addr) (cap:Nat) (w:World) (hP:El w iv a P) (hl:P.length≤1000000) :
 Calls Tryz.prog 44 #[.slice a P.length cap] w fun e w'=>e=.returned (.int .i64 (BQ P))∧Fr w w':=IP (Ha P a cap w hP hl)
theorem Ov (p0:Int) (r:List Int) (pa:Option Addr) (pc:Nat) (s:Int) (i:Nat) (v:Int) (w:World) (hv:(BM (p0 :: r) s)[i]?=some v) (hs:1≤s∧s≤50000) (hE:BQ (p0 :: r)=0) (hq:FP (p0 :: r) s=true) (hP:El w iv pa (p0 :: r)) (hG:G w) :
 Calls Tryz.prog 84 #[.slice pa (r.length+1) pc,.int .i64 (2 * s),.int .i64 (i:Int)] w fun e w'=>e=.returned (.int .i64 v)∧Fr w w':=by
 unfold BM at hv
 cases i with
 | zero=>
   have hv:s=v:=by simpa using hv
   subst hv
   exact Nv (p0 :: r) pa pc s w hs
 | succ j=>
   rw [Kz,At] at hv
   cases hr:r[j]? with
   | none=>rw [hr] at hv; cases hv
   | some p=>
     rw [hr] at hv
     injection hv with hv
     subst hv
     exact Ou p0 r j p pa pc s w hr hs hE (AE.1 hq p (Af hr)) hP hG
theorem QK (p0:Int) (r:List Int) (pa:Option Addr) (pc:Nat) (s:Int) (i:Nat) (v:Int) (w:World) (hv:(BM (p0 :: r) s)[i]?=some v) (hs:1≤s∧s≤50000) (hE:BQ (p0 :: r)=0) (hq:FP (p0 :: r) s=true) (hP:El w iv pa (p0 :: r)) (hG:G w) :
 Calls Tryz.prog 46 #[.slice pa (r.length+1) pc,.int .i64 s,.int .i64 (i:Int)] w fun e w'=>e=.returned (.tuple #[.int .i64 v,.int .i64 0])∧Fr w w':=by
 have hi:=(Ae.1 hv).1
 rw [Fg,Aw] at hi
 have h6:=(CV hE).2.1
 have hck:=E5 (p0 :: r) pa pc w hP (by omega)
 rw [hE,Aw] at hck
 have hro:=hZ (fun W (hW:Fr w W)=>Ov p0 r pa pc s i v W hv hs hE hq (hP.fr hW) (hG.fr hW))
 obtain ⟨hs1,hs2⟩:=hs
 have k1:IntKind.i64.wrap (2 * s)=2 * s:=Ak _ (by omega)
 have d1:decide (s < 1)=false:=Aa (by omega)
 have d2:decide (100000 < s)=false:=Aa (by omega)
 have d3:decide ((i:Int) < 0)=false:=Aa (by omega)
 generalize r.length+1=n at *
 have d4:decide ((n:Int)≤(i:Int))=false:=Aa (by omega)
 replace hck:=hZ hck
 clear hv hE hq hP hG
 go_enter Tryz.func46,Tryz.ntmps46
 go_wp2_with fail
 refine hck.out.mono ?_
 rintro e w1 ⟨rfl,hf1⟩
 go_wp2_with fail
 refine (hro.out _ hf1).mono ?_
 rintro e w2 ⟨rfl,hf2⟩
 go_wp2_with fail
 go_ret2
 exact ⟨rfl,hf1.trans hf2⟩
theorem QJ (P:List Int) (pa:Option Addr) (pc:Nat) (s i:Int) (w:World) (hE:BQ P=0) (hs:s < 1∨100000 < s) (hP:El w iv pa P) (hl:P.length≤1000000) :
 Calls Tryz.prog 46 #[.slice pa P.length pc,.int .i64 s,.int .i64 i] w fun e w'=>e=.returned (.tuple #[.int .i64 0,.int .i64 3])∧Fr w w':=by
 have hck:=E5 P pa pc w hP hl
 rw [hE] at hck
 generalize P.length=n at *
 replace hck:=hZ hck
 clear hE hP
 by_cases h1:s < 1
 ·have d1:decide (s < 1)=true:=Ab h1
  clear hs h1
  go_enter Tryz.func46,Tryz.ntmps46
  go_wp2_with fail
  refine hck.out.mono ?_
  rintro e w1 ⟨rfl,hf1⟩
  go_wp2_with fail
  go_ret2
  exact ⟨rfl,hf1⟩
 ·have d1:decide (s < 1)=false:=Aa h1
  have d2:decide (100000 < s)=true:=Ab (by omega)
  clear hs h1
  go_enter Tryz.func46,Tryz.ntmps46
  go_wp2_with fail
  refine hck.out.mono ?_
  rintro e w1 ⟨rfl,hf1⟩
  go_wp2_with fail
  go_ret2
  exact ⟨rfl,hf1⟩
def X1 (w:World) (v:List Int) (e:Ending) (w':World):Prop:=∃ a c,e=.returned (.tuple #[.slice a v.length c,.int .i64 0])∧El w' iv a v∧v.length≤c∧(∀ ad,a=some ad→w.heap.size≤ad.block)∧Fr w w'
theorem JW (p0:Int) (r:List Int) (pa:Option Addr) (pc:Nat) (s:Int) (w:World) (hs:1≤s∧s≤50000) (hE:BQ (p0 :: r)=0) (hq:FP (p0 :: r) s=true) (hP:El w iv pa (p0 :: r)) (hG:G w) :
 Calls Tryz.prog 14 #[.slice pa (r.length+1) pc,.int .i64 s] w fun e w'=>X1 w (BM (p0 :: r) s) e w':=by
 have hvl:=Fg (p0 :: r) s
 rw [Aw] at hvl
 have h6:=(CV hE).2.1
 rw [Aw] at h6
 have hne:=hZ (fun (i:Nat) (v:Int) (h:(BM (p0 :: r) s)[i]?=some v) W (hW:Fr w W)=>QK p0 r pa pc s i v W h hs hE hq (hP.fr hW) (hG.fr hW))
 have hn1:1≤r.length+1:=by omega
 generalize r.length+1=n at *
 generalize BM (p0 :: r) s=V at *
 have hmx:max (1:Int) (n:Int)=(n:Int):=by omega
 obtain ⟨iI,jI,iz0,iz1,iz2⟩:=AZ C6
 replace hvl:=hZ hvl
 clear hs hE hq hP hG
 go_enter Tryz.func14,Tryz.ntmps14
 go_wp2_with fail
 go_loopg [6,13] n (fun k s6 s13 wr=>∃ i:Nat,s13=.int .i64 i∧i+k=n∧Fr w wr∧Hid (wr.ownsRow w.heap.size 3 1 s6 i ((V.take i).map iv)))
 case atStart=>exact ⟨0,rfl,by omega,Fr.refl _,Bl _ _ _ _⟩
 case round=>
  obtain ⟨i,rfl,hik,hf,hown⟩:=hrel
  obtain ⟨kv,rfl⟩:∃ kv:Nat,kv=gk:=⟨_,rfl⟩
  obtain ⟨wo,rfl⟩:∃ wo:World,wo=wr:=⟨_,rfl⟩
  by_cases hi:i < n
  ·have hd:decide (i < n)=true:=Ab hi
   have hd2:decide ((i:Int) < (n:Int))=true:=Ab (by omega)
   obtain ⟨v,hv⟩:∃ v,V[i]?=some v:=⟨_,Ac (by rw [hvl.out]; exact hi)⟩
   have hsn:=hZ (show (V.take (i+1)).map iv=(V.take i).map iv ++ [.int .i64 v] by rw [BN hv,Ay]; rfl)
   have hnv:=hZ (hne.out i v hv)
   replace hv:=hZ hv
   go_wp2_with fail
   refine (hnv.out _ hf).mono ?_
   rintro e w5 ⟨rfl,hf5⟩
   have hown5:=Bg hown.out hf5
   go_wp2_with (at_builtin; refine wpList_append_lies _ rfl _ _ 33 (by rfl) _ 3 _ _ 1 8 Tryz.underlying33 jI iz0 iz1 iz2 rfl (by decide) _ i _ (by rfl) (Az hown5 _) ⟨w5.heap.size,0,none⟩ 1 1 [.int .i64 v] (by rfl) rfl (AK _ _ _ _ (by simp)) (by simp [Value.oneCell']) (by decide) (by unfold maxLen; omega) (by omega) (by have:=(hf.trans hf5).size; simp; omega) (w5.heap.size+1) (by simp) ?_; intro gA capA wA hownA hgrowA hatA hltA)
   go_wp2_with fail
   go_roundg (kv - 1)
   case measure=>omega
   case rel=>exact ⟨i+1,by go_num,by omega,((hf.trans hf5).alloc _).grown hgrowA (fun k e=>(hown5.lt k e).1),by show World.ownsRow _ _ _ _ _ _ _; rw [hsn.out]; exact hownA⟩
  ·have hd:decide (i < n)=false:=Aa hi
   have hd2:decide ((i:Int) < (n:Int))=false:=Aa (by omega)
   obtain rfl:i=n:=by omega
   have hown9:=hown.out
   rw [Ao (by rw [hvl.out]; exact Ah _),← hvl.out] at hown9
   obtain ⟨a9,c9,rfl,he9,hc9,hb9⟩:=Gt hown9
   replace he9:=hZ he9
   replace hb9:=hZ hb9
   clear hown9
   go_wp2_with fail
   go_ret2
   exact ⟨a9,c9,rfl,he9.out,hc9,hb9.out,hf⟩
def X2 (w:World) (err:Int) (e:Ending) (w':World):Prop:=e=.returned (.tuple #[.slice none 0 0,.int .i64 err])∧Fr w w'
theorem S2 (P:List Int) (pa:Option Addr) (pc:Nat) (s:Int) (w:World) (hE:BQ P=0) (hs:s < 1∨100000 < s) (hP:El w iv pa P) (hl:P.length≤1000000) :
 Calls Tryz.prog 14 #[.slice pa P.length pc,.int .i64 s] w fun e w'=>X2 w 3 e w':=by
 have hne:=hZ (QJ P pa pc s 0 w hE hs hP hl)
 generalize P.length=n at *
 have d1:decide ((0:Int) < max (1:Int) (n:Int))=true:=Ab (by omega)
 have d2:(0:Int) < max (1:Int) (n:Int):=by omega
 clear hE hP hs
 go_enter Tryz.func14,Tryz.ntmps14
 go_wp2_with fail
 go_loopg [6,13] 0 (fun m s6 s13 wr=>s13=.int .i64 0∧wr=w)
 case atStart=>exact ⟨rfl,rfl⟩
 case round=>
  obtain ⟨rfl,rfl⟩:=hrel
  go_wp2_with fail
  refine hne.out.mono ?_
  rintro e w1 ⟨rfl,hf1⟩
  go_wp2_with fail
  go_ret2
  exact ⟨rfl,hf1⟩
def EL (P v:List Int):Int:=if BQ P≠0 then BQ P else if CA v≠0 then CA v else if v.length≠P.length then 5 else 0
theorem QD (P v:List Int) (pa va:Option Addr) (pc vc:Nat) (w:World) (hP:El w iv pa P) (hv:El w iv va v) (hpl:P.length≤1000000) (hvl:v.length≤1000000) :
 Calls Tryz.prog 23 #[.slice pa P.length pc,.slice va v.length vc] w fun e w'=>e=.returned (.int .i64 (EL P v))∧Fr w w':=by
 have hpr:=hZ (E5 P pa pc w hP hpl)
 have hro:=hZ (fun W (hW:Fr w W)=>D2 v va vc W (hv.fr hW) (by omega))
 obtain ⟨res,hres⟩:∃ res,res=EL P v:=⟨_,rfl⟩
 rw [← hres]
 unfold EL at hres
 generalize BQ P=E0 at *
 generalize CA v=E1 at *
 generalize P.length=n at *
 generalize v.length=m at *
 clear hP hv
 by_cases e0:E0=0
 ·rw [Ag (by rw [e0]; simp)] at hres
  have q0:(E0 != 0)=false:=by rw [e0]; rfl
  replace e0:=hZ e0
  by_cases e1:E1=0
  ·rw [Ag (by rw [e1]; simp)] at hres
   have q1:(E1 != 0)=false:=by rw [e1]; rfl
   replace e1:=hZ e1
   by_cases e2:m=n
   ·rw [Ag (by rw [e2]; simp)] at hres
    subst hres
    have q2:((m:Int) != (n:Int))=false:=by rw [e2]; simp
    replace e2:=hZ e2
    go_enter Tryz.func23,Tryz.ntmps23
    go_wp2_with fail
    refine hpr.out.mono ?_
    rintro e w1 ⟨rfl,hf1⟩
    go_wp2_with fail
    refine (hro.out _ hf1).mono ?_
    rintro e w2 ⟨rfl,hf2⟩
    go_wp2_with fail
    go_ret
    exact ⟨rfl,hf1.trans hf2⟩
   ·rw [Ai e2] at hres
    subst hres
    have q2:((m:Int) != (n:Int))=true:=Bs.2 (by omega)
    replace e2:=hZ e2
    go_enter Tryz.func23,Tryz.ntmps23
    go_wp2_with fail
    refine hpr.out.mono ?_
    rintro e w1 ⟨rfl,hf1⟩
    go_wp2_with fail
    refine (hro.out _ hf1).mono ?_
    rintro e w2 ⟨rfl,hf2⟩
    go_wp2_with fail
    go_ret
    exact ⟨rfl,hf1.trans hf2⟩
  ·have q1:(E1 != 0)=true:=Bs.2 e1
   rw [Ai e1] at hres
   subst hres
   replace e1:=hZ e1
   go_enter Tryz.func23,Tryz.ntmps23
   go_wp2_with fail
   refine hpr.out.mono ?_
   rintro e w1 ⟨rfl,hf1⟩
   go_wp2_with fail
   refine (hro.out _ hf1).mono ?_
   rintro e w2 ⟨rfl,hf2⟩
   go_wp2_with fail
   go_ret
   exact ⟨rfl,hf1.trans hf2⟩
 ·have q0:(E0 != 0)=true:=Bs.2 e0
  rw [Ai e0] at hres
  subst hres
  replace e0:=hZ e0
  go_enter Tryz.func23,Tryz.ntmps23
  go_wp2_with fail
  refine hpr.out.mono ?_
  rintro e w1 ⟨rfl,hf1⟩
  go_wp2_with fail
  go_ret
  exact ⟨rfl,hf1⟩
structure RR (w:World) (aP aC aM:Option Addr) (cP cC cM:Nat) (P:List Int) (C M:List (List Int)) (E:Int):Prop where
 p:El w iv aP P
 c:A5 w aC C
 m:A5 w aM M
 ck:∀ W,Fr w W→Calls Tryz.prog 32 #[.agg #[.slice aP P.length cP,.slice aC C.length cC,.slice aM M.length cM]] W fun e w'=>e=.returned (.int .i64 E)∧Fr W w'
 pl:P.length≤1000000
 ok:E=0→P.length≤6∧C.length≤12∧M.length≤12∧Bx P.length C∧Bx P.length M∧(∀ r,r ∈ C→∀ x,x ∈ r→Bq x=true)∧(∀ r,r ∈ M→∀ x,x ∈ r→Bq x=true)
theorem RR.fr {w w':World} {aP aC aM:Option Addr} {cP cC cM:Nat} {P:List Int} {C M:List (List Int)} {E:Int} (h:RR w aP aC aM cP cC cM P C M E) (k:Fr w w'):RR w' aP aC aM cP cC cM P C M E :=
 ⟨h.p.fr k,h.c.fr k,h.m.fr k,fun W hW=>h.ck W (k.trans hW),h.pl,h.ok⟩
def EU:List Int→Int
 | []=>0
 | x :: l=>if x≠0 then x else EU l
def Hf (E:Int) (P:List Int) (L:List (List Int)):Int:=if E≠0 then E else EU (L.map (EL P))
theorem MX:∀ (l:List Int) (i:Nat) (x:Int),(∀ j y,j < i→l[j]?=some y→y=0)→l[i]?=some x→x≠0→EU l=x
 | [],i,x,_,h,_=>by simp at h
 | y :: l,0,x,_,h,h0=>by
   have h:y=x:=by simpa using h
   subst h
   rw [EU,Ai h0]
 | y :: l,i+1,x,hz,h,h0=>by
   have hy:=hz 0 y (by omega) rfl
   rw [EU,Ag (by rw [hy]; simp)]
   exact MX l i x (fun j z hj hz9=>hz (j+1) z (by omega) (by simpa using hz9)) (by simpa using h) h0
theorem Kg:∀ (l:List Int),(∀ x,x ∈ l→x=0)→EU l=0
 | [],_=>rfl
 | y :: l,h=>by
   rw [EU,Ag (by rw [h y BC]; simp)]
   exact Kg l (fun x hx=>h x (BI _ hx))
theorem LS (aP aC aM:Option Addr) (cP cC cM:Nat) (P:List Int) (C M:List (List Int)) (E:Int) (L:List (List Int)) (la:Option Addr) (lc:Nat) (w:World) (ht:RR w aP aC aM cP cC cM P C M E) (hL:A5 w la L) (hll:L.length≤1000) (hlr:∀ r,r ∈ L→r.length≤1000000) :
 Calls Tryz.prog 56 #[.agg #[.slice aP P.length cP,.slice aC C.length cC,.slice aM M.length cM],.slice la L.length lc] w fun e w'=>e=.returned (.int .i64 (Hf E P L))∧Fr w w':=by
 have hch:=hZ ht.ck
 have hvk:=hZ (fun (v:List Int) (va:Option Addr) (vc:Nat) W (hW:Fr w W) (hv:El W iv va v) (hvl:v.length≤1000000)=>QD P v aP va cP vc W (ht.p.fr hW) hv ht.pl hvl)
 obtain ⟨wb,hwb⟩:∃ wb,wb=w.alloc (.cells #[.slice aP P.length cP,.slice aC C.length cC,.slice aM M.length cM] 29):=⟨_,rfl⟩
 have hfb:Fr w wb:=by rw [hwb]; exact (Fr.refl _).alloc _
 have hT:=C3.new w (.slice aP P.length cP) (.slice aC C.length cC) (.slice aM M.length cM) 29
 rw [← hwb] at hT
 obtain ⟨N,hN⟩:∃ N,N=L.length:=⟨_,rfl⟩
 rw [← hN] at hll ⊢
 obtain ⟨res,hres⟩:∃ res,res=Hf E P L:=⟨_,rfl⟩
 rw [← hres]
 unfold Hf at hres
 replace hN:=hZ hN
 replace hlr:=hZ hlr
 have b0:=hT.a
 have b1:=hT.b
 have b2:=hT.c
 generalize P.length=n at *
 generalize C.length=nC at *
 generalize M.length=nM at *
 replace hL:=hZ hL
 clear ht hT
 by_cases e0:E=0
 ·rw [Ag (by rw [e0]; simp)] at hres
  have q0:(E != 0)=false:=by rw [e0]; rfl
  replace e0:=hZ e0
  replace hres:=hZ hres
  go_enter Tryz.func56,Tryz.ntmps56
  go_upto_region 1 with (fail)
  rw [← hwb]
  clear hwb
  go_wp2_with fail
  refine (hch.out _ hfb).mono ?_
  rintro e w1 ⟨rfl,hf1⟩
  replace b0:=hf1.keep b0
  replace hfb:=hfb.trans hf1
  clear hf1 b1 b2
  go_wp2_with fail
  go_loopg [16] N (fun k s16 wr=>∃ i:Nat,s16=.int .i64 i∧i+k=N∧Fr w1 wr∧Hid (∀ (j:Nat) (y:Int),j < i→(L.map (EL P))[j]?=some y→y=0))
  case atStart=>exact ⟨0,rfl,by omega,Fr.refl _,fun j y h=>absurd h (Bj _)⟩
  case round=>
   obtain ⟨i,rfl,hik,hf,hz⟩:=hrel
   by_cases hi:i < N
   ·have hd:decide (i < N)=true:=Ab hi
    have hd2:decide ((i:Int) < (N:Int))=true:=Ab (by omega)
    have hi2:i < L.length:=by rw [← hN.out]; exact hi
    obtain ⟨mb,mo,va,vc,rfl,hcm,hev⟩:=(hL.out.fr (hfb.trans hf)).at hi2
    have hvl:=hlr.out _ (AG hi2)
    have hgi:(L.map (EL P))[i]?=some (EL P L[i]):=by rw [At,Ac hi2]; rfl
    have hck:=hZ (hvk.out _ va vc wr (hfb.trans hf) hev hvl)
    have z0:(0:Int)≤(i:Int):=by omega
    have z1:(i:Int) < (N:Int):=by omega
    have c0:=hf.keep b0
    generalize L[i]=v at *
    obtain ⟨ev,hev2⟩:∃ ev,ev=EL P v:=⟨_,rfl⟩
    rw [← hev2] at hck hgi
    replace hev2:=hZ hev2
    by_cases ez:ev=0
    ·have q1:(ev != 0)=false:=by rw [ez]; rfl
     have hz2:Hid (∀ (j:Nat) (y:Int),j < i+1→(L.map (EL P))[j]?=some y→y=0):=fun j y hj hy=>by
      by_cases e:j=i
      ·subst e; rw [hgi] at hy; injection hy with hy; omega
      ·exact hz.out j y (by omega) hy
     replace ez:=hZ ez
     replace hgi:=hZ hgi
     clear hev hvl hz
     go_wp2_with fail
     refine hck.out.mono ?_
     rintro e w2 ⟨rfl,hf2⟩
     go_wp2_with fail
     go_roundg (gk - 1)
     case measure=>omega
     case rel=>exact ⟨i+1,by go_num,by omega,hf.trans hf2,hz2⟩
    ·have q1:(ev != 0)=true:=Bs.2 ez
     have hfin:=hZ (hres.out.trans (MX _ i ev hz.out hgi ez))
     replace ez:=hZ ez
     replace hgi:=hZ hgi
     clear hev hvl hz
     go_wp2_with fail
     refine hck.out.mono ?_
     rintro e w2 ⟨rfl,hf2⟩
     go_wp2_with fail
     go_ret
     exact ⟨by rw [hfin.out]; rfl,(hfb.trans hf).trans hf2⟩
   ·have hd:decide (i < N)=false:=Aa hi
    have hd2:decide ((i:Int) < (N:Int))=false:=Aa (by omega)
    have hfin:res=0:=hres.out.trans (Kg _ (fun x hx=>by
     obtain ⟨j,hj,e⟩:=H6 hx
     refine hz.out j x ?_ (by rw [Ac hj,e])
     rw [An] at hj
     have:=hN.out; omega))
    replace hfin:=hZ hfin
    clear hz
    go_wp2_with fail
    go_ret
    exact ⟨by rw [hfin.out]; rfl,hfb.trans hf⟩
 ·have q0:(E != 0)=true:=Bs.2 e0
  rw [Ai e0] at hres
  subst hres
  replace e0:=hZ e0
  go_enter Tryz.func56,Tryz.ntmps56
  go_upto_region 1 with (fail)
  rw [← hwb]
  clear hwb
  go_wp2_with fail
  refine (hch.out _ hfb).mono ?_
  rintro e w1 ⟨rfl,hf1⟩
  go_wp2_with fail
  go_ret
  exact ⟨rfl,hfb.trans hf1⟩
theorem MA (B n:Nat) (v:Value) (g:List (List Int)) (w:World) (hG:G w) (hv:LG w B v g) (hl:g.length≤1000000) (hr:∀ r,r ∈ g→r.length≤1000000) (hb:∀ r,r ∈ g→∀ x,x ∈ r→(tx x).size≤1000000000) (hE:LW w) :
 Calls Tryz.prog 91 #[v,.int .i64 n] w (GM w n g):=by
 rcases hv with ⟨rfl,rfl⟩ | ⟨ob,oc,hs,gF,tF,rfl,hg,h2,-,rfl,-⟩
 ·exact (JA n w).mono fun e w' ⟨he,hf⟩=>⟨fun _=>⟨none,0,he,Ah _,fun W _=>.inl rfl,hf⟩,fun h=>by cases h⟩
 ·have:=Ra ob oc tF n (hs.take tF) (gF.take tF) w hG (hg.take tF) hl (by rw [Av]; omega) hr hb hE
  rw [Ao (by rw [Av]; omega)] at this
  exact this
theorem R6 (m K:List (List Int)) (a:Option Addr) (cap n F:Nat) (w:World) (hG:G w) (hm:A5 w a m) (hC:Hb w n a m.length cap) (hr:Bx n m) (hn:1≤n) (hn2:n≤12) (hl:m.length≤12) (hsm:∀ r,r ∈ m→∀ x,x ∈ r→Sm x)
 (hk:Dc F n m=some K) (hKl:K.length≤1000000) (hKr:∀ r,r ∈ K→r.length≤1000000) (hKf:∀ r,r ∈ K→∀ x,x ∈ r→(tx x).size≤1000000000) (hE:LW w) :
 Calls Tryz.prog 49 #[.agg #[.int .i64 n,.slice a m.length cap]] w (GM w n K):=by
 obtain ⟨k,hkl⟩:∃ k,k=m.length:=⟨_,rfl⟩
 have hlo:=fun W (hW:Fr w W)=>Fi m a cap W (hG.fr hW) (hm.fr hW) (fun r hrm=>by rw [hr r hrm]; omega) (by omega) hsm
 have hke:=fun W a' c' (hW:Fr w W) (hx:H9 W a' m)=>Ep m K a' c' n F W (hG.fr hW) hx hr hn (by omega) (by omega) hk
 have hsh:=fun W B v (hW:Fr w W) (hx:LG W B v K)=>MA B n v K W (hG.fr hW) hx hKl hKr hKf (hE.fr hW)
 obtain ⟨wb,hwb⟩:∃ wb,wb=Ef w [(.cells #[.int .i64 n,.slice a m.length cap] 76),(.cells #[.int .i64 0,.slice none 0 0] 76)]:=⟨_,rfl⟩
 have hfb:Fr w wb:=by rw [hwb]; exact EG _ w
 have g0:wb.heap[w.heap.size]?=some (.cells #[.int .i64 n,.slice a m.length cap] 76 (0,0)):=by rw [hwb]; exact Cu _ w 0 _ rfl
 have g1:wb.heap[w.heap.size+1]?=some (.cells #[.int .i64 0,.slice none 0 0] 76 (0,0)):=by rw [hwb]; exact Cu _ w 1 _ rfl
 have b0:wb.cell? ⟨w.heap.size,0,none⟩=some (.int .i64 n):=A1 g0 0
 have b1:wb.cell? ⟨w.heap.size,1,none⟩=some (.slice a m.length cap):=A1 g0 1
 have q4:wb.cell? ⟨w.heap.size+1,0,none⟩=some (.int .i64 0):=A1 g1 0
 have q5:wb.cell? ⟨w.heap.size+1,1,none⟩=some (.slice none 0 0):=A1 g1 1
 have q6:wb.frozen? ⟨w.heap.size+1,0,none⟩=false:=by unfold World.frozen?; rw [g1]; rfl
 have q7:wb.frozen? ⟨w.heap.size+1,1,none⟩=false:=by unfold World.frozen?; rw [g1]; rfl
 clear g0 g1
 have hC1:=hC wb hfb
 rw [← hkl] at hlo hke hC1 b1 hwb ⊢
 replace hC1:=hZ hC1
 replace hlo:=hZ hlo
 replace hke:=hZ hke
 replace hsh:=hZ hsh
 replace hkl:=hZ hkl
 clear hC hm hr hk hsm hKl hKr hKf
 clear hE
 cases hbr:BG K with
 | true=>
   replace hbr:=hZ hbr
   go_enter Tryz.func49,Tryz.ntmps49
   go_upto_region 1 with (fail)
   change Code.wp _ _ _ _ (Ef w [(.cells #[.int .i64 n,.slice a k cap] 76),(.cells #[.int .i64 0,.slice none 0 0] 76)])
   rw [← hwb]
   clear hwb
   go_wp2_with fail
   refine hC1.out.mono ?_
   rintro e w2 ⟨rfl,hf2⟩
   replace q6:=hf2.keepf q4 q6
   replace q7:=hf2.keepf q5 q7
   replace q4:=hf2.keep q4
   replace q5:=hf2.keep q5
   replace b0:=hf2.keep b0
   replace b1:=hf2.keep b1
   replace q4:=hZ q4
   replace q5:=hZ q5
   replace q6:=hZ q6
   replace q7:=hZ q7
   have hfw:=hfb.trans hf2
   clear hfb hf2 hC1
   go_wp2_with fail
   go_region_held3 (fun w'=>w'.cell? ⟨w.heap.size,0,none⟩=some (.int .i64 n)∧w'.cell? ⟨w.heap.size,1,none⟩=some (.slice a k cap))
    (first | go_keep | (go_split_ands; refine ⟨?_, ?_⟩ <;> (refine Fr.keep (by assumption) ?_; assumption)) | (refine Gk _ _ _ _ _ _ _ ⟨by assumption,by assumption⟩ (by omega)))
    (first
     | (go_at_call 89; (with_reducible refine (hlo.out _ ?_).mono ?_); (exact B9); rintro e w3 ⟨v3,hs3,rfl,hgg3,-,hf3⟩; obtain ⟨a3,c3,hv3,hm3⟩:=hgg3.mats; rw [← hkl.out] at hv3; subst hv3; replace hm3:=hZ hm3; clear hgg3)
     | (go_at_call 92; (with_reducible refine (hke.out _ _ _ ?_ hm3.out).mono ?_); (exact B9); rintro e w4 ⟨v4,rfl,hl4,hf4⟩; replace hl4:=hZ hl4)
     | (go_at_call 91; (with_reducible refine (hsh.out _ _ _ ?_ hl4.out).mono ?_); (exact B9); rintro e w5 hrr; obtain ⟨a5,c5,rfl,hcp5,hm5,hf5⟩:=hrr.1 hbr.out; clear hrr; replace hm5:=hZ hm5; have hfz:Fr w2 w5:=(by exact B9); have t4:=hfz.keep q4.out; have t5:=hfz.keep q5.out; have t6:=hfz.keepf q4.out q6.out; have t7:=hfz.keepf q5.out q7.out; have qs:=Cq w5 (w.heap.size+1) (.int .i64 n) (.slice a5 K.length c5) _ _ t4 t5; have q8:=qs.2.2.1; have u0:=hZ qs.1; have u1:=hZ qs.2.1; have hfx:=hZ qs.2.2.2; clear qs))
   have hsz4:=(show Fr w2 w4 by exact B9).size
   have hszb:w.heap.size+1 < w2.heap.size:=A6 w2 ⟨w.heap.size+1,0,none⟩ q4.out
   clear q8 t4 t5 t6 t7
   go_wp2_with fail
   have v0:=u0.out
   have v1:=u1.out
   refine AP (v:=.tuple #[.agg #[.int .i64 n,.slice a5 K.length c5],.int .i64 0]) (by simp [results,Tryz.results49,go_sem,v0,v1]) rfl ⟨fun _=>⟨a5,c5,rfl,hcp5, ?_, ?_⟩,fun h=>(by rw [hbr.out] at h; cases h)⟩
   ·intro W hW
    exact hm5.out W ((hfx.out.mono (fun k e=>by have e:k=w.heap.size+1:=e; show k < _; omega)).trans (hW.mono (fun k e=>by have e:k < w.heap.size:=e; show k < _; omega)))
   ·exact ((Fx.of_fr (p:=fun q=>q=w.heap.size+1) (hfw.trans hfz)).trans hfx.out).toFr (fun q hq e=>by have e:q=w.heap.size+1:=e; omega)
 | false=>
   replace hbr:=hZ hbr
   go_enter Tryz.func49,Tryz.ntmps49
   go_upto_region 1 with (fail)
   change Code.wp _ _ _ _ (Ef w [(.cells #[.int .i64 n,.slice a k cap] 76),(.cells #[.int .i64 0,.slice none 0 0] 76)])
   rw [← hwb]
   clear hwb
   go_wp2_with fail
   refine hC1.out.mono ?_
   rintro e w2 ⟨rfl,hf2⟩
   replace q6:=hf2.keepf q4 q6
   replace q7:=hf2.keepf q5 q7
   replace q4:=hf2.keep q4
   replace q5:=hf2.keep q5
   replace b0:=hf2.keep b0
   replace b1:=hf2.keep b1
   replace q4:=hZ q4
   replace q5:=hZ q5
   replace q6:=hZ q6
   replace q7:=hZ q7
   have hfw:=hfb.trans hf2
   clear hfb hf2 hC1
   go_wp2_with fail
   go_region_held3 (fun w'=>w'.cell? ⟨w.heap.size,0,none⟩=some (.int .i64 n)∧w'.cell? ⟨w.heap.size,1,none⟩=some (.slice a k cap))
    (first | go_keep | (go_split_ands; refine ⟨?_, ?_⟩ <;> (refine Fr.keep (by assumption) ?_; assumption)) | (refine Gk _ _ _ _ _ _ _ ⟨by assumption,by assumption⟩ (by omega)))
    (first
     | (go_at_call 89; (with_reducible refine (hlo.out _ ?_).mono ?_); (exact B9); rintro e w3 ⟨v3,hs3,rfl,hgg3,-,hf3⟩; obtain ⟨a3,c3,hv3,hm3⟩:=hgg3.mats; rw [← hkl.out] at hv3; subst hv3; replace hm3:=hZ hm3; clear hgg3)
     | (go_at_call 92; (with_reducible refine (hke.out _ _ _ ?_ hm3.out).mono ?_); (exact B9); rintro e w4 ⟨v4,rfl,hl4,hf4⟩; replace hl4:=hZ hl4)
     | (go_at_call 91; (with_reducible refine (hsh.out _ _ _ ?_ hl4.out).mono ?_); (exact B9); rintro e w5 hrr; obtain ⟨rfl,hf5⟩:=hrr.2 hbr.out; clear hrr; have hfz:Fr w2 w5:=(by exact B9); have t4:=hfz.keep q4.out; have t5:=hfz.keep q5.out; have t6:=hfz.keepf q4.out q6.out; have t7:=hfz.keepf q5.out q7.out; have qs:=Cq w5 (w.heap.size+1) (.int .i64 0) (.slice none 0 0) _ _ t4 t5; have q8:=qs.2.2.1; have u0:=hZ qs.1; have u1:=hZ qs.2.1; have hfx:=hZ qs.2.2.2; clear qs))
   have hsz4:=(show Fr w2 w4 by exact B9).size
   have hszb:w.heap.size+1 < w2.heap.size:=A6 w2 ⟨w.heap.size+1,0,none⟩ q4.out
   clear q8 t4 t5 t6 t7
   go_wp2_with fail
   have v0:=u0.out
   have v1:=u1.out
   refine AP (v:=.tuple #[.agg #[.int .i64 0,.slice none 0 0],.int .i64 4]) (by simp [results,Tryz.results49,go_sem,v0,v1]) rfl ⟨fun h=>(by rw [hbr.out] at h; cases h),fun _=>⟨rfl, ?_⟩⟩
   exact ((Fx.of_fr (p:=fun q=>q=w.heap.size+1) (hfw.trans hfz)).trans hfx.out).toFr (fun q hq e=>by have e:q=w.heap.size+1:=e; omega)
theorem RT (m K1 K:List (List Int)) (a:Option Addr) (cap n F:Nat) (w:World) (hG:G w) (hm:A5 w a m) (hC:Hb w n a m.length cap) (hr:Bx n m) (hn:1≤n) (hn2:n≤12) (hl:m.length≤12) (hsm:∀ r,r ∈ m→∀ x,x ∈ r→Sm x)
 (hk:Dc F n m=some K1) (hk2:Dc F n K1=some K) (hr1:Bx n K1) (hl1:K1.length≤1000) (hKl:K.length≤1000000) (hKr:∀ r,r ∈ K→r.length≤1000000) (hKf:∀ r,r ∈ K→∀ x,x ∈ r→(tx x).size≤1000000000) (hE:LW w) :
 Calls Tryz.prog 50 #[.agg #[.int .i64 n,.slice a m.length cap]] w (GM w n K):=by
 obtain ⟨k,hkl⟩:∃ k,k=m.length:=⟨_,rfl⟩
 have hlo:=fun W (hW:Fr w W)=>Fi m a cap W (hG.fr hW) (hm.fr hW) (fun r hrm=>by rw [hr r hrm]; omega) (by omega) hsm
 have hke:=fun W a' c' (hW:Fr w W) (hx:H9 W a' m)=>Ep m K1 a' c' n F W (hG.fr hW) hx hr hn (by omega) (by omega) hk
 have hkf:=fun W a' c' (hW:Fr w W) (hx:H9 W a' K1)=>Ep K1 K a' c' n F W (hG.fr hW) hx hr1 hn (by omega) hl1 hk2
 have hsh:=fun W B v (hW:Fr w W) (hx:LG W B v K)=>MA B n v K W (hG.fr hW) hx hKl hKr hKf (hE.fr hW)
 obtain ⟨wb,hwb⟩:∃ wb,wb=Ef w [(.cells #[.int .i64 n,.slice a m.length cap] 76),(.cells #[.int .i64 0,.slice none 0 0] 76)]:=⟨_,rfl⟩
 have hfb:Fr w wb:=by rw [hwb]; exact EG _ w
 have g0:wb.heap[w.heap.size]?=some (.cells #[.int .i64 n,.slice a m.length cap] 76 (0,0)):=by rw [hwb]; exact Cu _ w 0 _ rfl
 have g1:wb.heap[w.heap.size+1]?=some (.cells #[.int .i64 0,.slice none 0 0] 76 (0,0)):=by rw [hwb]; exact Cu _ w 1 _ rfl
 have b0:wb.cell? ⟨w.heap.size,0,none⟩=some (.int .i64 n):=A1 g0 0
 have b1:wb.cell? ⟨w.heap.size,1,none⟩=some (.slice a m.length cap):=A1 g0 1
 have q4:wb.cell? ⟨w.heap.size+1,0,none⟩=some (.int .i64 0):=A1 g1 0
 have q5:wb.cell? ⟨w.heap.size+1,1,none⟩=some (.slice none 0 0):=A1 g1 1
 have q6:wb.frozen? ⟨w.heap.size+1,0,none⟩=false:=by unfold World.frozen?; rw [g1]; rfl
 have q7:wb.frozen? ⟨w.heap.size+1,1,none⟩=false:=by unfold World.frozen?; rw [g1]; rfl
 clear g0 g1
 have hC1:=hC wb hfb
 rw [← hkl] at hlo hke hC1 b1 hwb ⊢
 replace hC1:=hZ hC1
 replace hlo:=hZ hlo
 replace hke:=hZ hke
 replace hkf:=hZ hkf
 replace hsh:=hZ hsh
 replace hkl:=hZ hkl
 clear hC hm hr hk hk2 hr1 hl1 hsm hKl hKr hKf
 clear hE
 cases hbr:BG K with
 | true=>
   replace hbr:=hZ hbr
   go_enter Tryz.func50,Tryz.ntmps50
   go_upto_region 1 with (fail)
   change Code.wp _ _ _ _ (Ef w [(.cells #[.int .i64 n,.slice a k cap] 76),(.cells #[.int .i64 0,.slice none 0 0] 76)])
   rw [← hwb]
   clear hwb
   go_wp2_with fail
   refine hC1.out.mono ?_
   rintro e w2 ⟨rfl,hf2⟩
   replace q6:=hf2.keepf q4 q6
   replace q7:=hf2.keepf q5 q7
   replace q4:=hf2.keep q4
   replace q5:=hf2.keep q5
   replace b0:=hf2.keep b0
   replace b1:=hf2.keep b1
   replace q4:=hZ q4
   replace q5:=hZ q5
   replace q6:=hZ q6
   replace q7:=hZ q7
   have hfw:=hfb.trans hf2
   clear hfb hf2 hC1
   go_wp2_with fail
   go_region_held3 (fun w'=>w'.cell? ⟨w.heap.size,0,none⟩=some (.int .i64 n)∧w'.cell? ⟨w.heap.size,1,none⟩=some (.slice a k cap))
    (first | go_keep | (go_split_ands; refine ⟨?_, ?_⟩ <;> (refine Fr.keep (by assumption) ?_; assumption)) | (refine Gk _ _ _ _ _ _ _ ⟨by assumption,by assumption⟩ (by omega)))
    (first
     | (go_at_call 89; (with_reducible refine (hlo.out _ ?_).mono ?_); (exact B9); rintro e w3 ⟨v3,hs3,rfl,hgg3,-,hf3⟩; obtain ⟨a3,c3,hv3,hm3⟩:=hgg3.mats; rw [← hkl.out] at hv3; subst hv3; replace hm3:=hZ hm3; clear hgg3)
     | (go_at_call 92; (with_reducible refine (hkf.out _ _ _ ?_ hm6.out).mono ?_); (exact B9); rintro e w4 ⟨v4,rfl,hl4,hf4⟩; replace hl4:=hZ hl4)
     | (go_at_call 92; (with_reducible refine (hke.out _ _ _ ?_ hm3.out).mono ?_); (exact B9); rintro e w6 ⟨v6,rfl,hl6,hf6⟩; obtain ⟨a6,c6,hv6,hm6⟩:=hl6.mats; subst hv6; replace hm6:=hZ hm6; clear hl6)
     | (go_at_call 91; (with_reducible refine (hsh.out _ _ _ ?_ hl4.out).mono ?_); (exact B9); rintro e w5 hrr; obtain ⟨a5,c5,rfl,hcp5,hm5,hf5⟩:=hrr.1 hbr.out; clear hrr; replace hm5:=hZ hm5; have hfz:Fr w2 w5:=(by exact B9); have t4:=hfz.keep q4.out; have t5:=hfz.keep q5.out; have t6:=hfz.keepf q4.out q6.out; have t7:=hfz.keepf q5.out q7.out; have qs:=Cq w5 (w.heap.size+1) (.int .i64 n) (.slice a5 K.length c5) _ _ t4 t5; have q8:=qs.2.2.1; have u0:=hZ qs.1; have u1:=hZ qs.2.1; have hfx:=hZ qs.2.2.2; clear qs))
   have hsz4:=(show Fr w2 w4 by exact B9).size
   have hszb:w.heap.size+1 < w2.heap.size:=A6 w2 ⟨w.heap.size+1,0,none⟩ q4.out
   clear q8 t4 t5 t6 t7
   go_wp2_with fail
   have v0:=u0.out
   have v1:=u1.out
   refine AP (v:=.tuple #[.agg #[.int .i64 n,.slice a5 K.length c5],.int .i64 0]) (by simp [results,Tryz.results50,go_sem,v0,v1]) rfl ⟨fun _=>⟨a5,c5,rfl,hcp5, ?_, ?_⟩,fun h=>(by rw [hbr.out] at h; cases h)⟩
   ·intro W hW
    exact hm5.out W ((hfx.out.mono (fun k e=>by have e:k=w.heap.size+1:=e; show k < _; omega)).trans (hW.mono (fun k e=>by have e:k < w.heap.size:=e; show k < _; omega)))
   ·exact ((Fx.of_fr (p:=fun q=>q=w.heap.size+1) (hfw.trans hfz)).trans hfx.out).toFr (fun q hq e=>by have e:q=w.heap.size+1:=e; omega)
 | false=>
   replace hbr:=hZ hbr
   go_enter Tryz.func50,Tryz.ntmps50
   go_upto_region 1 with (fail)
   change Code.wp _ _ _ _ (Ef w [(.cells #[.int .i64 n,.slice a k cap] 76),(.cells #[.int .i64 0,.slice none 0 0] 76)])
   rw [← hwb]
   clear hwb
   go_wp2_with fail
   refine hC1.out.mono ?_
   rintro e w2 ⟨rfl,hf2⟩
   replace q6:=hf2.keepf q4 q6
   replace q7:=hf2.keepf q5 q7
   replace q4:=hf2.keep q4
   replace q5:=hf2.keep q5
   replace b0:=hf2.keep b0
   replace b1:=hf2.keep b1
   replace q4:=hZ q4
   replace q5:=hZ q5
   replace q6:=hZ q6
   replace q7:=hZ q7
   have hfw:=hfb.trans hf2
   clear hfb hf2 hC1
   go_wp2_with fail
   go_region_held3 (fun w'=>w'.cell? ⟨w.heap.size,0,none⟩=some (.int .i64 n)∧w'.cell? ⟨w.heap.size,1,none⟩=some (.slice a k cap))
    (first | go_keep | (go_split_ands; refine ⟨?_, ?_⟩ <;> (refine Fr.keep (by assumption) ?_; assumption)) | (refine Gk _ _ _ _ _ _ _ ⟨by assumption,by assumption⟩ (by omega)))
    (first
     | (go_at_call 89; (with_reducible refine (hlo.out _ ?_).mono ?_); (exact B9); rintro e w3 ⟨v3,hs3,rfl,hgg3,-,hf3⟩; obtain ⟨a3,c3,hv3,hm3⟩:=hgg3.mats; rw [← hkl.out] at hv3; subst hv3; replace hm3:=hZ hm3; clear hgg3)
     | (go_at_call 92; (with_reducible refine (hkf.out _ _ _ ?_ hm6.out).mono ?_); (exact B9); rintro e w4 ⟨v4,rfl,hl4,hf4⟩; replace hl4:=hZ hl4)
     | (go_at_call 92; (with_reducible refine (hke.out _ _ _ ?_ hm3.out).mono ?_); (exact B9); rintro e w6 ⟨v6,rfl,hl6,hf6⟩; obtain ⟨a6,c6,hv6,hm6⟩:=hl6.mats; subst hv6; replace hm6:=hZ hm6; clear hl6)
     | (go_at_call 91; (with_reducible refine (hsh.out _ _ _ ?_ hl4.out).mono ?_); (exact B9); rintro e w5 hrr; obtain ⟨rfl,hf5⟩:=hrr.2 hbr.out; clear hrr; have hfz:Fr w2 w5:=(by exact B9); have t4:=hfz.keep q4.out; have t5:=hfz.keep q5.out; have t6:=hfz.keepf q4.out q6.out; have t7:=hfz.keepf q5.out q7.out; have qs:=Cq w5 (w.heap.size+1) (.int .i64 0) (.slice none 0 0) _ _ t4 t5; have q8:=qs.2.2.1; have u0:=hZ qs.1; have u1:=hZ qs.2.1; have hfx:=hZ qs.2.2.2; clear qs))
   have hsz4:=(show Fr w2 w4 by exact B9).size
   have hszb:w.heap.size+1 < w2.heap.size:=A6 w2 ⟨w.heap.size+1,0,none⟩ q4.out
   clear q8 t4 t5 t6 t7
   go_wp2_with fail
   have v0:=u0.out
   have v1:=u1.out
   refine AP (v:=.tuple #[.agg #[.int .i64 0,.slice none 0 0],.int .i64 4]) (by simp [results,Tryz.results50,go_sem,v0,v1]) rfl ⟨fun h=>(by rw [hbr.out] at h; cases h),fun _=>⟨rfl, ?_⟩⟩
   exact ((Fx.of_fr (p:=fun q=>q=w.heap.size+1) (hfw.trans hfz)).trans hfx.out).toFr (fun q hq e=>by have e:q=w.heap.size+1:=e; omega)
end Go.Proofs.YtiniigadkknboaaGreatDoor
namespace Go.Proofs.YtiniigadkknboaaGreatDoor
def sA (f:Nat→Int):Nat→Nat
 | 0=>0
 | n+1=>sA f n+(f n).natAbs
def Po (Z:Nat→Bool):Nat→Nat
 | 0=>0
 | n+1=>Po Z n+if Z n then 0 else 1
end Go.Proofs.YtiniigadkknboaaGreatDoor
