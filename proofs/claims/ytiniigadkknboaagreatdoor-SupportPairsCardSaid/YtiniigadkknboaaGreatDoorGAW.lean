/- Contracts and laws: GAW. -/
import Derived.Test.YtiniigadkknboaaGreatDoorGAV
import Derived.Test.YtiniigadkknboaaGreatDoorGAB
import Derived.Test.YtiniigadkknboaaGreatDoorGAD
import Derived.Deep.Cut
import Derived.Deep.CutBlock
import Derived.Test.YtiniigadkknboaaGreatDoorGAE
import Derived.Maps.OwnIn
import Derived.Sort.LoopGhostIn
import Derived.Sort.QuietIn
import Derived.Stop.RegionWithIn
import Derived.Laws.BitsAllLaws

set_option maxRecDepth 100000
set_option maxHeartbeats 4000000
namespace Go.Proofs.YtiniigadkknboaaGreatDoor
open Go.RowKit Go.Lib
theorem FU.cutT {p:Nat→Nat} {c t:Nat} {g:List (List Int)} (h:FU p c t g):FU p c (g.take t).length (g.take t):=by
 have hl:(g.take t).length=t:=by rw [Av]; have:=h.le; omega
 have he:∀ i,i < t→∀ k,AC (g.take t) i k=AC g i k:=fun i hi k=>by
  unfold AC BT; rw [Bp,Ai hi]
 rw [hl]
 exact ⟨by rw [hl]; exact Ah _,fun i a b k _=>absurd b (by rw [hl]; omega),h.lt,h.inc,fun i hi=>by rw [he i hi]; exact h.pos i hi,fun i hi k hk=>by rw [he i hi]; exact h.low i hi k hk,fun i j hij hj=>by rw [he i (by omega),he j hj]; exact h.up i j hij hj⟩
theorem Bx.takeR {n:Nat} {g:List (List Int)} (h:Bx n g) (t:Nat):Bx n (g.take t):=fun r hr=>h r (BZ hr)
theorem NE {x:Int} (h:x.natAbs≤KB):(tx x).size≤1000000000:=by
 have h1:Wd x:=A4 h QN
 have:=h1.size
 omega
theorem We (n:Nat):H7 n []=[]:=by
 unfold H7
 cases e:CF FX n 0 [] 0 with
 | none=>rfl
 | some r=>
   obtain ⟨g,t⟩:=r
   exact MU n e
theorem Ua {n B:Nat} {m:List (List Int)} (_hn:n≤4) (hm:m.length≤4) (hr:Bx n m) (h1:1≤B) (hB:B≤KA) (hb:∀ r,r ∈ m→∀ x,x ∈ r→x.natAbs≤B) :
 (∀ r,r ∈ H7 n m→∀ x,x ∈ r→(tx x).size≤1000000000)∧Bx n (H7 n m)∧(H7 n m).length≤4∧ET (H7 n m)=true:=by
 obtain ⟨gF,tF,p,-,e,ht,he,hR,-,hk⟩:=MJ (n:=n) hm hr h1 hB hb
 rw [e]
 exact ⟨fun r hr x hx=>NE (hk r (BZ hr) x hx),hR.takeR tF,by rw [Av]; omega,Ly he.cutT⟩
theorem Un {n:Nat} {L:List (List Int)} (hn:n≤4) (hL:BG L=true):Dc FX n L=some (Dj n L)∧Dc FX n (Dj n L)=some (Dj n (Dj n L))∧Bx n (Dj n L)∧(Dj n L).length≤4∧Bx n (Dj n (Dj n L))∧(Dj n (Dj n L)).length≤4 ∧
 (∀ r,r ∈ Dj n L→∀ x,x ∈ r→(tx x).size≤1000000000)∧∀ r,r ∈ Dj n (Dj n L)→∀ x,x ∈ r→(tx x).size≤1000000000:=by
 have a0:=Df
 obtain ⟨g1,p1,t1,r1,k1⟩:=D5 (n:=n) hn (by decide) a0 (Gc hL)
 have b1:Lr n 1000000000≤KA:=NH (by decide) hn
 have c1:∀ r,r ∈ Dj n L→∀ x,x ∈ r→x.natAbs≤KA:=fun r hr x hx=>As (k1.kbd r hr x hx) b1
 obtain ⟨g2,p2,t2,r2,k2⟩:=D5 (n:=n) (B:=KA) hn (by omega) (Ah _) c1
 have b2:Lr n KA≤KB:=NH (by omega) hn
 have l1:=HU k1
 have l2:=HU k2
 have a1:=Xn
 exact ⟨k1.out,k2.out,k1.krect,by omega,k2.krect,by omega,fun r hr x hx=>NE (As (c1 r hr x hx) a1),fun r hr x hx=>NE (As (k2.kbd r hr x hx) b2)⟩
attribute [local go_sem ↓] Go.wp_at_zero Go.wp_at_succ
def X6 (g:Nat):Prop:=∀ (x y:List Int) (xa ya:Option Addr) (xc yc:Nat) (W:World),El W iv xa x→El W iv ya y→x.length≤1000000→y.length≤1000000 →
 Calls Tryz.prog g #[.slice xa x.length xc,.slice ya y.length yc] W fun e W'=>e=.returned (.bool (decide (x=y)))∧Fr W W'
theorem LX (g:Nat) (xs ys:List (List Int)) (a b:Option Addr) (ca cb:Nat) (w:World) (eg:∀ args w,(callFunc g args).run Tryz.prog w=.ok (.enter g args) w) (hg:X6 g) (hx:A5 w a xs) (hy:A5 w b ys) (hl:xs.length≤1000000) (_hl2:ys.length≤1000000) (hcx:∀ x,x ∈ xs→x.length≤1000000) (hcy:∀ x,x ∈ ys→x.length≤1000000) :
 Calls Tryz.prog 101 #[.slice a xs.length ca,.slice b ys.length cb,.func (.func g) #[] #[]] w fun e w'=>e=.returned (.bool (decide (xs=ys)))∧Fr w w':=by
 by_cases hlen:xs.length=ys.length
 ·have hne:((xs.length:Int) != ys.length)=false:=by rw [hlen]; simp
  obtain ⟨n,hn⟩:∃ n,n=xs.length:=⟨_,rfl⟩
  obtain ⟨m,hm⟩:∃ m,m=ys.length:=⟨_,rfl⟩
  rw [← hn,← hm] at hne
  rw [← hn] at hl
  rw [← hn,← hm]
  have hmn:m≤n∧n≤m:=by omega
  obtain ⟨hmn1,hmn2⟩:=hmn
  replace hn:=hZ hn
  replace hm:=hZ hm
  replace hx:=hZ hx
  replace hy:=hZ hy
  replace hcx:=hZ hcx
  replace hcy:=hZ hcy
  replace hg:=hZ hg
  replace hlen:=hZ hlen
  go_enter Tryz.func101,Tryz.ntmps101
  go_wp2_with fail
  go_loopg [17] n (fun k s17 wr=>∃ j:Nat,s17=.int .i64 j∧j+k=n∧Fr w wr∧Hid (xs.take j=ys.take j))
  case atStart=>exact ⟨0,rfl,by omega,Fr.refl _,rfl⟩
  case round=>
   obtain ⟨j,rfl,hjk,hf,hb⟩:=hrel
   by_cases hj:j < n
   ·have hdJ:decide (j < n)=true:=Ab hj
    have hj1:j < xs.length:=by rw [← hn.out]; exact hj
    have hj2:j < ys.length:=by rw [← hm.out]; omega
    obtain ⟨xb,xo,xa,xc,rfl,x1,xe⟩:=(hx.out.fr hf).at hj1
    obtain ⟨yb,yo,ya,yc,rfl,y1,ye⟩:=(hy.out.fr hf).at hj2
    have hcall:=hg.out xs[j] ys[j] xa ya xc yc wr xe ye (hcx.out _ (AG _)) (hcy.out _ (AG _))
    have htx:=hZ (BN (Ac hj1))
    have hty:=hZ (BN (Ac hj2))
    have hyes:decide (xs[j]=ys[j])=true→Hid (xs.take (j+1)=ys.take (j+1)):=fun h=>by
     show _=_
     rw [htx.out,hty.out,hb.out,AL h]
    have hno:decide (xs[j]=ys[j])=false→Hid (decide (xs=ys)=false):=fun h=>by
     refine Aa (fun e=>QS h ?_)
     have h1:xs[j]?=ys[j]?:=by rw [e]
     rw [Ac hj1,Ac hj2] at h1
     injection h1
    generalize decide (xs[j]=ys[j])=q at *
    generalize xs[j].length=xl at *
    generalize ys[j].length=yl at *
    replace hyes:=hZ hyes
    replace hno:=hZ hno
    replace hcall:=hZ hcall
    clear xe ye htx hty hj1 hj2
    have z1:(j:Int) < (n:Int):=by omega
    have z3:(j:Int) < (m:Int):=by omega
    have z0:(0:Int)≤(j:Int):=by omega
    go_wp2_with fail
    refine hcall.out.mono ?_
    rintro e w3 ⟨rfl,hf3⟩
    have hfw:=hf.trans hf3
    cases q with
    | true=>
      have hy9:=hyes.out rfl
      go_wp2_with fail
      go_roundg (gk - 1)
      case measure=>omega
      case rel=>exact ⟨j+1,by go_num,by omega,hfw,hy9⟩
    | false=>
      have hn9:=hno.out rfl
      go_wp2_with fail
      go_ret
      exact ⟨Ds hn9.out.symm,hfw⟩
   ·obtain rfl:j=n:=by omega
    have hdJ:decide (j < j)=false:=Aa (by omega)
    have hfin:=hZ (show decide (xs=ys)=true from Ab (by
     have h:=hb.out
     rw [Ao (by rw [← hn.out]; exact Ah _),Ao (by rw [← hm.out]; omega)] at h
     exact h))
    go_wp2_with fail
    go_ret
    exact ⟨Ds hfin.out.symm,hf⟩
 ·have hne:((xs.length:Int) != ys.length)=true:=by rw [Bs]; omega
  have hfin:=hZ (show decide (xs=ys)=false from Aa (fun e=>hlen (by rw [e])))
  clear hlen
  go_enter Tryz.func101,Tryz.ntmps101
  go_wp2_with fail
  go_ret
  exact ⟨Ds hfin.out.symm,Fr.refl _⟩
theorem Nu:X6 102:=fun x y xa ya xc yc W hx hy hl hl2=>by
 have heq:=hZ (Nf x y xa ya xc yc W hx hy (by omega) (by omega))
 generalize decide (x=y)=q at *
 clear hx hy
 go_enter Tryz.func102,Tryz.ntmps102
 go_wp2_with fail
 refine heq.out.mono ?_
 rintro e w2 ⟨rfl,hf2⟩
 go_wp2_with fail
 go_ret
 exact ⟨rfl,hf2⟩
theorem Sn:X6 103:=fun x y xa ya xc yc W hx hy hl hl2=>by
 have heq:=hZ (Nf x y xa ya xc yc W hx hy (by omega) (by omega))
 generalize decide (x=y)=q at *
 clear hx hy
 go_enter Tryz.func103,Tryz.ntmps103
 go_wp2_with fail
 refine heq.out.mono ?_
 rintro e w2 ⟨rfl,hf2⟩
 go_wp2_with fail
 go_ret
 exact ⟨rfl,hf2⟩
theorem ST (xs ys:List (List Int)) (a b:Option Addr) (ca cb:Nat) (w:World) (hx:A5 w a xs) (hy:A5 w b ys) (hl:xs.length≤1000000) (hl2:ys.length≤1000000) (hcx:∀ x,x ∈ xs→x.length≤1000000) (hcy:∀ x,x ∈ ys→x.length≤1000000) :
 Calls Tryz.prog 67 #[.slice a xs.length ca,.slice b ys.length cb] w fun e w'=>e=.returned (.bool (decide (xs=ys)))∧Fr w w':=by
 have h:=hZ (LX 103 xs ys a b ca cb w (Ey Tryz.func103 (by kernel_rfl) rfl) Sn hx hy hl hl2 hcx hcy)
 generalize decide (xs=ys)=q at *
 clear hx hy
 go_enter Tryz.func67,Tryz.ntmps67
 go_wp2_with fail
 refine h.out.mono ?_
 rintro e w2 ⟨rfl,hf2⟩
 go_wp2_with fail
 go_ret
 exact ⟨rfl,hf2⟩
theorem QM (n:Nat) (xs ys:List (List Int)) (a b:Option Addr) (ca cb:Nat) (w:World) (hx:A5 w a xs) (hy:A5 w b ys) (hl:xs.length≤1000000) (hl2:ys.length≤1000000) (hcx:∀ x,x ∈ xs→x.length≤1000000) (hcy:∀ x,x ∈ ys→x.length≤1000000) :
 Calls Tryz.prog 66 #[.agg #[.int .i64 n,.slice a xs.length ca],.agg #[.int .i64 n,.slice b ys.length cb]] w fun e w'=>e=.returned (.bool (decide (xs=ys)))∧Fr w w':=by
 have h:=fun W (hW:Fr w W)=>LX 102 xs ys a b ca cb W (Ey Tryz.func102 (by kernel_rfl) rfl) Nu (hx.fr hW) (hy.fr hW) hl hl2 hcx hcy
 have hfA:Fr w ((w.alloc (.cells #[.int .i64 n,.slice a xs.length ca] 76)).alloc (.cells #[.int .i64 n,.slice b ys.length cb] 76)):=((Fr.refl w).alloc _).alloc _
 replace h:=hZ (h _ hfA)
 generalize decide (xs=ys)=q at *
 generalize xs.length=xl at *
 generalize ys.length=yl at *
 replace hfA:=hZ hfA
 have hd2:((n:Int) == (n:Int))=true:=by simp
 clear hx hy
 go_enter Tryz.func66,Tryz.ntmps66
 go_wp2_with fail
 refine h.out.mono ?_
 rintro e w2 ⟨rfl,hf2⟩
 go_wp2_with fail
 go_ret
 exact ⟨rfl,hfA.out.trans hf2⟩
theorem H0 {m:List (List Int)} {n:Nat} (h:EI n m):∀ r,r ∈ m→∀ x,x ∈ r→Sm x:=fun r hr x hx=>UE (h.2.2.2 r hr x hx)
theorem Fc {n:Nat} {m:List (List Int)} (h:Bx n m) (hn:n≤6):∀ r,r ∈ m→r.length≤1000000:=fun r hr=>by rw [h r hr]; omega
structure Zb (P:List Int) (C M:List (List Int)):Prop where
 n1:1≤P.length
 n6:P.length≤6
 prime:BQ P=0
 tabC:EI P.length C
 tabM:EI P.length M
 formC:ET C=true
 ann:Dc FX P.length C=some M
 sat:Dc FX P.length M=some C
theorem Tg.w {P:List Int} {C M:List (List Int)} (h:Tg P C M):Zb P C M:=⟨h.n1,by have:=h.n4; omega,h.prime,h.tabC,h.tabM,h.formC,h.ann,h.sat⟩
theorem Vb (P:List Int) (C M:List (List Int)) (aP aC aM:Option Addr) (cP cC cM:Nat) (w:World) (hG:G w) (hP:El w iv aP P) (hC:A5 w aC C) (hM:A5 w aM M) (hcap:C.length≤cC) (hT:Zb P C M) :
 Calls Tryz.prog 32 #[.agg #[.slice aP P.length cP,.slice aC C.length cC,.slice aM M.length cM]] w fun e w'=>e=.returned (.int .i64 0)∧Fr w w':=by
 have hn1:=hT.n1
 have hn4:=hT.n6
 have lC:=hT.tabC.1
 have lM:=hT.tabM.1
 have hpc:∀ W,Fr w W→Calls Tryz.prog 44 #[.slice aP P.length cP] W fun e w'=>e=.returned (.int .i64 0)∧Fr W w':=fun W hW=>(Ha P aP cP W (hP.fr hW) (by omega)).mono fun e w' ⟨h1,h2⟩=>⟨by rw [h1,hT.prime],by rw [h2]; exact Fr.refl _⟩
 have hfine:Hb w P.length aC C.length cC:=fun W hW=>HM C aC cC P.length W (hC.fr hW) hT.tabC hcap hT.formC
 have hsa:=fun W (hW:Fr w W)=>SV C M C aC cC P.length FX W (hG.fr hW) (hC.fr hW) (fun W' hW'=>hfine W' (hW.trans hW')) hT.tabC.2.2.1 hn1 (by omega) lC (H0 hT.tabC) hT.ann hT.sat hT.tabM.2.2.1 (by omega) (by omega) (Fc hT.tabC.2.2.1 hn4) hT.tabC.2.2.2
 have han:=fun W (hW:Fr w W)=>Te C M aC cC P.length FX W (hG.fr hW) (hC.fr hW) (fun W' hW'=>hfine W' (hW.trans hW')) hT.tabC.2.2.1 hn1 (by omega) lC (H0 hT.tabC) hT.ann (by omega) (Fc hT.tabM.2.2.1 hn4) hT.tabM.2.2.2
 have hle:∀ W a' c',Fr w W→A5 W a' C→Calls Tryz.prog 66 #[.agg #[.int .i64 (P.length:Nat),.slice a' C.length c'],.agg #[.int .i64 (P.length:Nat),.slice aC C.length cC]] W fun e w'=>e=.returned (.bool true)∧Fr W w':=fun W a' c' hW h=>by
  have h9:=QM P.length C C a' aC c' cC W h (hC.fr hW) (by omega) (by omega) (Fc hT.tabC.2.2.1 hn4) (Fc hT.tabC.2.2.1 hn4)
  rw [Ab (rfl:C=C)] at h9
  exact h9
 have hsm:∀ W a' c',Fr w W→A5 W a' M→Calls Tryz.prog 67 #[.slice a' M.length c',.slice aM M.length cM] W fun e w'=>e=.returned (.bool true)∧Fr W w':=fun W a' c' hW h=>by
  have h9:=ST M M a' aM c' cM W h (hM.fr hW) (by omega) (by omega) (Fc hT.tabM.2.2.1 hn4) (Fc hT.tabM.2.2.1 hn4)
  rw [Ab (rfl:M=M)] at h9
  exact h9
 obtain ⟨n,hn⟩:∃ n,n=P.length:=⟨_,rfl⟩
 rw [← hn] at hpc hfine hsa han hle hn1 hn4 ⊢
 obtain ⟨nC,hnC⟩:∃ nC,nC=C.length:=⟨_,rfl⟩
 obtain ⟨nM,hnM⟩:∃ nM,nM=M.length:=⟨_,rfl⟩
 rw [← hnC] at hfine hsa han hle lC ⊢
 rw [← hnM] at hsm lM ⊢
 replace hn:=hZ hn
 replace hnC:=hZ hnC
 replace hnM:=hZ hnM
 replace hpc:=hZ hpc
 replace hfine:=hZ hfine
 replace hsa:=hZ hsa
 replace han:=hZ han
 replace hle:=hZ hle
 replace hsm:=hZ hsm
 clear hP hC hM hT hcap hG
 obtain ⟨wb,hwb⟩:∃ wb,wb=Ef w [(.cells #[.slice aP n cP,.slice aC nC cC,.slice aM nM cM] 29)]:=⟨_,rfl⟩
 have hfb:Fr w wb:=by rw [hwb]; exact EG _ w
 have g0:wb.heap[w.heap.size]?=some (.cells #[.slice aP n cP,.slice aC nC cC,.slice aM nM cM] 29 (0,0)):=by rw [hwb]; exact Cu _ w 0 _ rfl
 have b0:wb.cell? ⟨w.heap.size,0,none⟩=some (.slice aP n cP):=A1 g0 0
 have b1:wb.cell? ⟨w.heap.size,1,none⟩=some (.slice aC nC cC):=A1 g0 1
 have b2:wb.cell? ⟨w.heap.size,2,none⟩=some (.slice aM nM cM):=A1 g0 2
 clear g0
 go_enter Tryz.func32,Tryz.ntmps32
 go_upto_region 1 with (fail)
 change Code.wp _ _ _ _ (Ef w [(.cells #[.slice aP n cP,.slice aC nC cC,.slice aM nM cM] 29)])
 rw [← hwb]
 clear hwb
 go_wp2_with fail
 refine (hpc.out _ hfb).mono ?_
 rintro e w1 ⟨rfl,hf1⟩
 replace b0:=hf1.keep b0
 replace b1:=hf1.keep b1
 replace b2:=hf1.keep b2
 have hfw:=hfb.trans hf1
 clear hfb hf1
 go_upto_region 5 with (fail)
 obtain ⟨W1,hW1⟩:∃ W1,W1=w1.alloc (.cells #[.int .i64 n,.slice aC nC cC] 76):=⟨_,rfl⟩
 have hf1:Fr w1 W1:=by rw [hW1]; exact (Fr.refl _).alloc _
 have l0:W1.cell? ⟨w1.heap.size,0,none⟩=some (.int .i64 n):=by rw [hW1]; exact (CC _ _ _ _).1
 have l1:W1.cell? ⟨w1.heap.size,1,none⟩=some (.slice aC nC cC):=by rw [hW1]; exact (Ct _ _ _ _).1
 rw [← hW1]
 clear hW1
 obtain ⟨lb,hlb⟩:∃ lb,lb=w1.heap.size:=⟨_,rfl⟩
 rw [← hlb] at l0 l1 ⊢
 replace hlb:=hZ hlb
 replace b0:=hf1.keep b0
 replace b1:=hf1.keep b1
 replace b2:=hf1.keep b2
 replace hfw:=hfw.trans hf1
 clear hf1
 go_wp2_with fail
 refine (hfine.out _ hfw).mono ?_
 rintro e w2 ⟨rfl,hf2⟩
 replace b2:=hf2.keep b2
 replace l0:=hf2.keep l0
 replace l1:=hf2.keep l1
 replace hfw:=hfw.trans hf2
 clear hf2 b0 b1
 go_wp2_with fail
 refine (hsa.out _ hfw).mono ?_
 rintro e w3 ⟨sa,sc,rfl,hms,hf3⟩
 replace hms:=hms w3 (Fx.refl _ _)
 rw [← hnC.out]
 replace b2:=hf3.keep b2
 replace l0:=hf3.keep l0
 replace l1:=hf3.keep l1
 replace hfw:=hfw.trans hf3
 clear hf3
 go_upto_region 9 with (fail)
 obtain ⟨W2,hW2⟩:∃ W2,W2=w3.alloc (.cells #[.int .i64 n,.slice sa nC sc] 76):=⟨_,rfl⟩
 have hf1:Fr w3 W2:=by rw [hW2]; exact (Fr.refl _).alloc _
 have s0:W2.cell? ⟨w3.heap.size,0,none⟩=some (.int .i64 n):=by rw [hW2]; exact (CC _ _ _ _).1
 have s1:W2.cell? ⟨w3.heap.size,1,none⟩=some (.slice sa nC sc):=by rw [hW2]; exact (Ct _ _ _ _).1
 rw [← hW2]
 clear hW2
 obtain ⟨sb,hsb⟩:∃ sb,sb=w3.heap.size:=⟨_,rfl⟩
 rw [← hsb] at s0 s1 ⊢
 replace hsb:=hZ hsb
 replace b2:=hf1.keep b2
 replace l0:=hf1.keep l0
 replace l1:=hf1.keep l1
 replace hms:=hZ (hms.fr hf1)
 replace hfw:=hfw.trans hf1
 clear hf1
 go_wp2_with fail
 refine (hle.out _ _ _ hfw hms.out).mono ?_
 rintro e w4 ⟨rfl,hf4⟩
 replace b2:=hf4.keep b2
 replace l0:=hf4.keep l0
 replace l1:=hf4.keep l1
 replace hfw:=hfw.trans hf4
 clear hf4 s0 s1 hms
 go_wp2_with fail
 refine (han.out _ hfw).mono ?_
 rintro e w5 ⟨xa,xc,rfl,hma,hf5⟩
 replace hma:=hma w5 (Fx.refl _ _)
 rw [← hnM.out]
 replace b2:=hf5.keep b2
 replace hfw:=hfw.trans hf5
 clear hf5 l0 l1
 go_upto_region 12 with (fail)
 obtain ⟨W3,hW3⟩:∃ W3,W3=w5.alloc (.cells #[.int .i64 n,.slice xa nM xc] 76):=⟨_,rfl⟩
 have hf1:Fr w5 W3:=by rw [hW3]; exact (Fr.refl _).alloc _
 have s1:W3.cell? ⟨w5.heap.size,1,none⟩=some (.slice xa nM xc):=by rw [hW3]; exact (Ct _ _ _ _).1
 rw [← hW3]
 clear hW3
 obtain ⟨ab,hab⟩:∃ ab,ab=w5.heap.size:=⟨_,rfl⟩
 rw [← hab] at s1 ⊢
 replace hab:=hZ hab
 replace b2:=hf1.keep b2
 replace hma:=hZ (hma.fr hf1)
 replace hfw:=hfw.trans hf1
 clear hf1
 go_wp2_with fail
 refine (hsm.out _ _ _ hfw hma.out).mono ?_
 rintro e w6 ⟨rfl,hf6⟩
 go_wp2_with fail
 go_ret
 exact ⟨rfl,hfw.trans hf6⟩
theorem FD {x:Int} (h:Bq x=true):x.natAbs≤1000000000:=by
 unfold Bq at h
 have:=AL h
 omega
theorem Qz {x y:Int} (hx:x.natAbs≤1000000000) (hy:y.natAbs≤1000000000):(x * y).natAbs≤1000000000000000000:=by
 rw [Be]
 exact AD hx hy
theorem IY {x:List Int} (h:CA x=0):∀ y,y ∈ x→Bq y=true:=by
 unfold CA at h
 split at h
 ·exact absurd h (by decide)
 ·split at h
  ·exact absurd h (by decide)
  ·rename_i h2
   intro y hy
   have h3:=CO.1 (by simpa using h2:x.any (fun n=>!Bq n)=false) y hy
   simpa using h3
theorem Sa (tb base:Nat) (L:List (Int×Int)) (pa fa:Option Addr) (pc fc:Nat) (w0:World) (hP:El w0 iv pa (L.map Prod.fst)) (hF:El w0 sv fa (L.map Prod.snd)) (c0:w0.cell? ⟨tb,0,none⟩=some (.slice pa L.length pc)) (c1:w0.cell? ⟨tb,1,none⟩=some (.slice fa L.length fc)) (hbp:∀ b o s,pa=some ⟨b,o,s⟩→L≠[]→b < base) (hbf:∀ b o s,fa=some ⟨b,o,s⟩→L≠[]→b < base) (q:Nat→Prop) (hq9:∀ k,q k→base≤k∧k≠tb) (hl:L.length≤1000) :
 YQ Fence.wide 3 Tryz.prog 251 #[.pointer (some ⟨tb,0,none⟩)] (fun x:Int×Int=>#[.int .i64 x.1,.string (tx x.2)]) (fun _ _ pre x _=>∃ i,pre=L.take i∧L[i]?=some x) (fun xs=>xs=L) w0 q:=by
 intro l J W hfr hJ hY h0
 refine Y0 Tryz.func251 rfl trivial ?_ rfl
 simp only [Tryz.ntmps251,BL,Aw,DC,Nat.reduceAdd,Nat.reduceSub,DK,DJ,EK,D4,Ex,Fm]
 have e0:=hfr.keep c0
 have e1:=hfr.keep c1
 obtain ⟨n,hn⟩:∃ n,n=L.length:=⟨_,rfl⟩
 rw [← hn] at e0 e1 hl
 replace hn:=hZ hn
 replace hP:=hZ (hP.fr hfr)
 replace hF:=hZ (hF.fr hfr)
 replace hbp:=hZ hbp
 replace hbf:=hZ hbf
 replace hY:=hZ hY
 replace hq9:=hZ hq9
 replace hJ:=hZ hJ
 have hqt:¬ q tb:=fun e=>(hq9.out _ e).2 rfl
 replace hqt:=hZ hqt
 clear c0 c1
 gi_wp2
 gi_loopg [8] n (fun k s8 wr=>∃ i:Nat,s8=.int .i64 i∧i+k=n∧J (fun _=>False) (L.take i) wr∧Fx q W wr)
 case atStart=>exact ⟨0,rfl,by omega,h0,Fx.refl _ _⟩
 case round=>
  obtain ⟨i,rfl,hik,hj,hfx⟩:=hrel
  by_cases hi:i < n
  ·have hd:decide (i < n)=true:=Ab hi
   have hiL:i < L.length:=by rw [← hn.out]; exact hi
   obtain ⟨b1,o1,x1,hae,-,hx1,cx1⟩:=hP.out.at (i:=i) (by rw [An]; exact hiL)
   obtain ⟨b2,o2,x2,hbe,-,hx2,cx2⟩:=hF.out.at (i:=i) (by rw [An]; exact hiL)
   have hne9:L≠[]:=fun e=>by rw [e] at hiL; simp at hiL
   have hb1:=hbp.out _ _ _ hae hne9
   have hb2:=hbf.out _ _ _ hbe hne9
   replace cx1:=hfx.keep cx1 (fun e=>by have:=(hq9.out _ e).1; have e9:base≤b1:=this; omega)
   replace cx2:=hfx.keep cx2 (fun e=>by have:=(hq9.out _ e).1; have e9:base≤b2:=this; omega)
   have hxl:L[i]?=some (x1,x2):=by
    rw [At,Ac hiL] at hx1 hx2
    injection hx1 with hx1
    injection hx2 with hx2
    rw [Ac hiL,← hx1,← hx2]
   have hsn:=hZ (BN hxl)
   have c0:=hfx.keep e0 hqt.out
   have c1:=hfx.keep e1 hqt.out
   obtain ⟨fn,tmps,assign,body,hy,hR⟩:=hY.out (fun _=>False) (L.take i) (x1,x2) wr hj (fun k e=>e.elim) ⟨i,rfl,hxl⟩
   simp only at hy
   subst hae
   subst hbe
   have z1:(i:Int) < (n:Int):=by omega
   have z2:(0:Int)≤(i:Int):=by omega
   clear hx1 hx2 hxl hb1 hb2 hiL hne9
   gi_wp2
   refine hR.mono ?_
   rintro e w5 ⟨rfl,hj5,hk5⟩
   have hfx5:=hfx.trans (hk5.mono fun k e=>e.2)
   clear hR hy
   gi_wp2
   gi_roundg (gk - 1)
   case measure=>omega
   case rel=>exact ⟨i+1,by go_num,by omega,by rw [hsn.out]; exact hj5,hfx5⟩
  ·obtain rfl:i=n:=by omega
   have hd:decide (i < i)=false:=Aa hi
   rw [Ao (by rw [← hn.out]; exact Ah _)] at hj
   gi_wp2
   go_end0
   exact ⟨⟨_,rfl⟩,_,L,rfl,hj⟩
theorem SR (n m:Nat) (pa fa:Option Addr) (pc fc:Nat) (den:ByteArray) (w:World) :
 Calls Tryz.prog 228 #[.agg #[.slice pa n pc,.slice fa m fc,.string den]] w fun e w'=>e=.returned (.func (.func 251) #[] #[.pointer (some ⟨w.heap.size,0,none⟩)])∧w'=w.alloc (.cells #[.slice pa n pc,.slice fa m fc,.string den] 256):=by
 go_enter Tryz.func228,Tryz.ntmps228
 go_wp2_with fail
 go_ret
 exact ⟨rfl,rfl⟩
def Lx:Nat→Nat→Nat→Nat→Option Nat
 | 0,_,_,o=>some o
 | n+1,l,h,o=>
   if l < 9223372036854775808∧h < 9223372036854775808∧o < 4611686018427387904∧h * h / 4611686018427387904+1 < 18446744073709551616 then
    if 9223372036854775808≤l * l / 4611686018427387904 then Lx n (l * l / 4611686018427387904 / 2) ((h * h / 4611686018427387904+1) / 2+1) (2 * o+1)
    else if 9223372036854775808≤h * h / 4611686018427387904+1 then none else Lx n (l * l / 4611686018427387904) (h * h / 4611686018427387904+1) (2 * o)
   else none
theorem IP {f:Nat} {a:Array Value} {w:World} {r:Ending} (h:Calls Tryz.prog f a w fun e w'=>e=r∧w'=w):Calls Tryz.prog f a w fun e w'=>e=r∧Fr w w':=h.mono fun e w' ⟨h1,h2⟩=>⟨h1,by rw [h2]; exact Fr.refl _⟩
theorem Yx (x:Nat) (hx:x < 85070591730234615865843651857942052864):bits .or .u64 ((x:Int) / 18446744073709551616 * 4) ((x:Int) % 18446744073709551616 / 4611686018427387904)=((x / 4611686018427387904:Nat):Int):=by
 have h1:x / 18446744073709551616 * 4 < 18446744073709551616:=by omega
 have h2:x % 18446744073709551616 / 4611686018427387904 < 4:=by omega
 have h3:=u64_or_nat (x / 18446744073709551616 * 4) (x % 18446744073709551616 / 4611686018427387904) h1 (by omega)
 have h4:x / 18446744073709551616 * 4 ||| x % 18446744073709551616 / 4611686018427387904=x / 4611686018427387904:=by
  have:=Nat.two_pow_add_eq_or_of_lt (i:=2) (b:=x % 18446744073709551616 / 4611686018427387904) (by omega) (x / 18446744073709551616)
  rw [Di,← this]
  omega
 rw [h4] at h3
 have e1:(x:Int) / 18446744073709551616 * 4=((x / 18446744073709551616 * 4:Nat):Int):=by omega
 have e2:(x:Int) % 18446744073709551616 / 4611686018427387904=((x % 18446744073709551616 / 4611686018427387904:Nat):Int):=by omega
 rw [e1,e2]
 exact h3
theorem TG {l:Nat} (h:l < 9223372036854775808):l * l < 85070591730234615865843651857942052864:=by
 have:=Kw h h
 omega
theorem Q9 {l:Nat} (h:l < 9223372036854775808):IntKind.u64.wrap ((l:Int) * l / 18446744073709551616 * 4)=(l:Int) * l / 18446744073709551616 * 4:=by
 have h1:=TG h
 have e:(l:Int) * l=((l * l:Nat):Int):=(AM l l).symm
 rw [e]
 exact AH _ (by omega)
theorem TF {l:Nat} (h:l < 9223372036854775808):bits .or .u64 ((l:Int) * l / 18446744073709551616 * 4) ((l:Int) * l % 18446744073709551616 / 4611686018427387904)=((l * l / 4611686018427387904:Nat):Int):=by
 have e:(l:Int) * l=((l * l:Nat):Int):=(AM l l).symm
 rw [e]
 exact Yx _ (TG h)
theorem Vv (p k r:Nat) (w:World) (hk:Lib.bitLen p=k+1) (hk6:k≤60) (hp:p * 2 ^ (62 - k) < 18446744073709551616) (hr:Lx 26 (p * 2 ^ (62 - k)) (p * 2 ^ (62 - k)) k=some r) :
 Calls Tryz.prog 250 #[.int .i64 (p:Int)] w fun e w'=>e=.returned (.tuple #[.int .i64 (r:Int),.bool true])∧Fr w w':=by
 have hpl:p < 18446744073709551616:=by
  have:p * 1≤p * 2 ^ (62 - k):=Bb _ (Nat.one_le_two_pow)
  omega
 have hlen:=IP (Tryz.bits_Len (p:Int) w (by omega) (by omega))
 rw [AR,hk] at hlen
 obtain ⟨L0,hL0⟩:∃ L0,L0=p * 2 ^ (62 - k):=⟨_,rfl⟩
 rw [← hL0] at hp hr
 have hw0:IntKind.u64.wrap ((p:Int) * 2 ^ (62 - k))=(L0:Int):=by
  have e:(p:Int) * 2 ^ (62 - k)=(L0:Int):=by rw [hL0,AM,Int.natCast_pow]; rfl
  rw [e]
  exact AH _ (by omega)
 replace hL0:=hZ hL0
 replace hr:=hZ hr
 replace hlen:=hZ hlen
 clear hp
 go_enter Tryz.func250,Tryz.ntmps250
 go_wp2_with fail
 refine hlen.out.mono ?_
 rintro e w1 ⟨rfl,hf1⟩
 go_wp2_with fail
 go_loopg [5,6,7,21] 26 (fun n s5 s6 s7 s21 wr=>∃ i l h o:Nat,s21=.int .i64 i∧i+n=26∧s5=.int .u64 l∧s6=.int .u64 h∧s7=.int .i64 o∧Hid (Lx n l h o=some r)∧Fr w wr)
 case atStart=>exact ⟨0,L0,L0,k,rfl,by omega,by first | rfl | rw [hw0],by first | rfl | rw [hw0],by go_num,hr,hf1⟩
 case round=>
  obtain ⟨i,l,h,o,rfl,hin,rfl,rfl,rfl,hb,hf⟩:=hrel
  by_cases hi:i < 26
  ·have hdI:decide ((i:Int) < 26)=true:=Ab (by omega)
   obtain ⟨n,rfl⟩:∃ n,gk=n+1:=⟨gk - 1,by omega⟩
   have hb2:=hb.out
   rw [Lx] at hb2
   split at hb2
   ·rename_i hc
    obtain ⟨c1,c2,c3,c4⟩:=hc
    have hm1:=hZ (fun W=>IP (Tryz.bits_Mul64 l l (by omega) (by omega) W))
    have hm2:=hZ (fun W=>IP (Tryz.bits_Mul64 h h (by omega) (by omega) W))
    have k1:=Q9 c1
    have k2:=TF c1
    have k3:=Q9 c2
    have k4:=TF c2
    obtain ⟨l1,hl1⟩:∃ l1,l1=l * l / 4611686018427387904:=⟨_,rfl⟩
    obtain ⟨h1,hh1⟩:∃ h1,h1=h * h / 4611686018427387904:=⟨_,rfl⟩
    have hl1b:l1 < 18446744073709551616:=by have:=TG c1; omega
    rw [← hl1] at k2 hb2
    rw [← hh1] at k4 hb2 c4
    have k5:IntKind.u64.wrap ((h1:Int)+1)=(h1:Int)+1:=AH _ (by omega)
    replace hl1:=hZ hl1
    replace hh1:=hZ hh1
    by_cases hA:9223372036854775808≤l1
    ·rw [Ai hA] at hb2
     have dA:decide ((9223372036854775808:Int)≤(l1:Int))=true:=Ab (by omega)
     replace hb2:=hZ hb2
     go_wp2_with fail
     refine (hm1.out _).mono ?_
     rintro e w2 ⟨rfl,hf2⟩
     go_wp2_with fail
     refine (hm2.out _).mono ?_
     rintro e w3 ⟨rfl,hf3⟩
     go_wp2_with fail
     go_roundg n
     case measure=>omega
     case rel=>exact ⟨i+1,_,_,_,by go_num,by omega,by go_num,by go_num,by go_num,hb2,(hf.trans hf2).trans hf3⟩
    ·rw [Ag hA] at hb2
     have dA:decide ((9223372036854775808:Int)≤(l1:Int))=false:=Aa (by omega)
     by_cases hB:9223372036854775808≤h1+1
     ·rw [Ai hB] at hb2; cases hb2
     ·rw [Ag hB] at hb2
      have dB:decide ((9223372036854775808:Int)≤(h1:Int)+1)=false:=Aa (by omega)
      replace hb2:=hZ hb2
      go_wp2_with fail
      refine (hm1.out _).mono ?_
      rintro e w2 ⟨rfl,hf2⟩
      go_wp2_with fail
      refine (hm2.out _).mono ?_
      rintro e w3 ⟨rfl,hf3⟩
      go_wp2_with fail
      go_roundg n
      case measure=>omega
      case rel=>exact ⟨i+1,_,_,_,by go_num,by omega,by go_num,by go_num,by go_num,hb2,(hf.trans hf2).trans hf3⟩
   ·cases hb2
  ·obtain rfl:i=26:=by omega
   obtain rfl:gk=0:=by omega
   have hb2:=hb.out
   rw [Lx] at hb2
   injection hb2 with hb2
   subst hb2
   go_wp2_with fail
   go_ret2
   exact ⟨rfl,hf⟩
end Go.Proofs.YtiniigadkknboaaGreatDoor
