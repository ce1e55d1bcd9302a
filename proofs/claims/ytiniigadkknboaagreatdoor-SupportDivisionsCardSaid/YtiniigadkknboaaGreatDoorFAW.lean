/- Contracts and laws: FAW. -/
import Derived.Test.YtiniigadkknboaaGreatDoorFAV
import Derived.Test.YtiniigadkknboaaGreatDoorFAB
import Derived.Test.YtiniigadkknboaaGreatDoorFAD
import Derived.Deep.Cut
import Derived.Deep.CutBlock
import Derived.Test.YtiniigadkknboaaGreatDoorFAE
import Derived.Maps.OwnIn
import Derived.Sort.LoopGhostIn
import Derived.Sort.QuietIn
import Derived.Stop.RegionWithIn
import Derived.Laws.BitsAllLaws

set_option maxRecDepth 100000
set_option maxHeartbeats 4000000
namespace Go.Proofs.YtiniigadkknboaaGreatDoor
open Go.RowKit Go.Lib
theorem FL.cutT {p:Nat→Nat} {c t:Nat} {g:List (List Int)} (h:FL p c t g):FL p c (g.take t).length (g.take t):=by
 have hl:(g.take t).length=t:=by rw [Av]; have:=h.le; omega
 have he:∀ i,i < t→∀ k,Aw (g.take t) i k=Aw g i k:=fun i hi k=>by
  unfold Aw BB; rw [Bf,Ai hi]
 rw [hl]
 exact ⟨by rw [hl]; exact Ah _,fun i a b k _=>absurd b (by rw [hl]; omega),h.lt,h.inc,fun i hi=>by rw [he i hi]; exact h.pos i hi,fun i hi k hk=>by rw [he i hi]; exact h.low i hi k hk,fun i j hij hj=>by rw [he i (by omega),he j hj]; exact h.up i j hij hj⟩
theorem Bq.takeR {n:Nat} {g:List (List Int)} (h:Bq n g) (t:Nat):Bq n (g.take t):=fun r hr=>h r (BW hr)
theorem Ou {x:Int} (h:x.natAbs≤KB):(tx x).size≤1000000000:=by
 have h1:Wd x:=A8 h R1
 have:=h1.size
 omega
theorem SM (n:Nat):Hx n []=[]:=by
 unfold Hx
 cases e:CY FX n 0 [] 0 with
 | none=>rfl
 | some r=>
   obtain ⟨g,t⟩:=r
   exact NI n e
theorem Rp {n B:Nat} {m:List (List Int)} (_hn:n≤4) (hm:m.length≤4) (hr:Bq n m) (h1:1≤B) (hB:B≤KA) (hb:∀ r,r ∈ m→∀ x,x ∈ r→x.natAbs≤B) :
 (∀ r,r ∈ Hx n m→∀ x,x ∈ r→(tx x).size≤1000000000)∧Bq n (Hx n m)∧(Hx n m).length≤4∧Ex (Hx n m)=true:=by
 obtain ⟨gF,tF,p,-,e,ht,he,hR,-,hk⟩:=KY (n:=n) hm hr h1 hB hb
 rw [e]
 exact ⟨fun r hr x hx=>Ou (hk r (BW hr) x hx),hR.takeR tF,by rw [Av]; omega,Ms he.cutT⟩
theorem Rv {n:Nat} {L:List (List Int)} (hn:n≤4) (hL:Bp L=true):DY FX n L=some (CI n L)∧DY FX n (CI n L)=some (CI n (CI n L))∧Bq n (CI n L)∧(CI n L).length≤4∧Bq n (CI n (CI n L))∧(CI n (CI n L)).length≤4 ∧
 (∀ r,r ∈ CI n L→∀ x,x ∈ r→(tx x).size≤1000000000)∧∀ r,r ∈ CI n (CI n L)→∀ x,x ∈ r→(tx x).size≤1000000000:=by
 have a0:=C1
 obtain ⟨g1,p1,t1,r1,k1⟩:=Dz (n:=n) hn (by decide) a0 (GL hL)
 have b1:Mk n 1000000000≤KA:=Oy (by decide) hn
 have c1:∀ r,r ∈ CI n L→∀ x,x ∈ r→x.natAbs≤KA:=fun r hr x hx=>Ar (k1.kbd r hr x hx) b1
 obtain ⟨g2,p2,t2,r2,k2⟩:=Dz (n:=n) (B:=KA) hn (by omega) (Ah _) c1
 have b2:Mk n KA≤KB:=Oy (by omega) hn
 have l1:=HB k1
 have l2:=HB k2
 have a1:=Ym
 exact ⟨k1.out,k2.out,k1.krect,by omega,k2.krect,by omega,fun r hr x hx=>Ou (Ar (c1 r hr x hx) a1),fun r hr x hx=>Ou (Ar (k2.kbd r hr x hx) b2)⟩
def TgZ (P:List Int) (C M:List (List Int)):Prop:=(P=[]∧C=[]∧M=[])∨Tg P C M
attribute [local go_sem ↓] Go.wp_at_zero Go.wp_at_succ
def Zb (g:Nat):Prop:=∀ (x y:List Int) (xa ya:Option Addr) (xc yc:Nat) (W:World),El W iv xa x→El W iv ya y→x.length≤1000000→y.length≤1000000 →
 Calls Tryz.prog g #[.slice xa x.length xc,.slice ya y.length yc] W fun e W'=>e=.returned (.bool (decide (x=y)))∧Fr W W'
theorem MP (g:Nat) (xs ys:List (List Int)) (a b:Option Addr) (ca cb:Nat) (w:World) (eg:∀ args w,(callFunc g args).run Tryz.prog w=.ok (.enter g args) w) (hg:Zb g) (hx:A2 w a xs) (hy:A2 w b ys) (hl:xs.length≤1000000) (_hl2:ys.length≤1000000) (hcx:∀ x,x ∈ xs→x.length≤1000000) (hcy:∀ x,x ∈ ys→x.length≤1000000) :
 Calls Tryz.prog 101 #[.slice a xs.length ca,.slice b ys.length cb,.func (.func g) #[] #[]] w fun e w'=>e=.returned (.bool (decide (xs=ys)))∧Fr w w':=by
 by_cases hlen:xs.length=ys.length
 ·have hne:((xs.length:Int) != ys.length)=false:=by rw [hlen]; simp
  obtain ⟨n,hn⟩:∃ n,n=xs.length:=⟨_,rfl⟩
  obtain ⟨m,hm⟩:∃ m,m=ys.length:=⟨_,rfl⟩
  rw [← hn,← hm] at hne
  rw [← hn] at hl
  rw [← hn,← hm]
  have hmn:m≤n∧n≤m:=by omega
  obtain ⟨hmn1,hmn2⟩:=hmn
  replace hn:=hZ hn
  replace hm:=hZ hm
  replace hx:=hZ hx
  replace hy:=hZ hy
  replace hcx:=hZ hcx
  replace hcy:=hZ hcy
  replace hg:=hZ hg
  replace hlen:=hZ hlen
  go_enter Tryz.func101,Tryz.ntmps101
  go_wp2_with fail
  go_loopg [17] n (fun k s17 wr=>∃ j:Nat,s17=.int .i64 j∧j+k=n∧Fr w wr∧Hid (xs.take j=ys.take j))
  case atStart=>exact ⟨0,rfl,by omega,Fr.refl _,rfl⟩
  case round=>
   obtain ⟨j,rfl,hjk,hf,hb⟩:=hrel
   by_cases hj:j < n
   ·have hdJ:decide (j < n)=true:=Ab hj
    have hj1:j < xs.length:=by rw [← hn.out]; exact hj
    have hj2:j < ys.length:=by rw [← hm.out]; omega
    obtain ⟨xb,xo,xa,xc,rfl,x1,xe⟩:=(hx.out.fr hf).at hj1
    obtain ⟨yb,yo,ya,yc,rfl,y1,ye⟩:=(hy.out.fr hf).at hj2
    have hcall:=hg.out xs[j] ys[j] xa ya xc yc wr xe ye (hcx.out _ (AJ _)) (hcy.out _ (AJ _))
    have htx:=hZ (BH (Ac hj1))
    have hty:=hZ (BH (Ac hj2))
    have hyes:decide (xs[j]=ys[j])=true→Hid (xs.take (j+1)=ys.take (j+1)):=fun h=>by
     show _=_
     rw [htx.out,hty.out,hb.out,AV h]
    have hno:decide (xs[j]=ys[j])=false→Hid (decide (xs=ys)=false):=fun h=>by
     refine Aa (fun e=>Jf h ?_)
     have h1:xs[j]?=ys[j]?:=by rw [e]
     rw [Ac hj1,Ac hj2] at h1
     injection h1
    generalize decide (xs[j]=ys[j])=q at *
    generalize xs[j].length=xl at *
    generalize ys[j].length=yl at *
    replace hyes:=hZ hyes
    replace hno:=hZ hno
    replace hcall:=hZ hcall
    clear xe ye htx hty hj1 hj2
    have z1:(j:Int) < (n:Int):=by omega
    have z3:(j:Int) < (m:Int):=by omega
    have z0:(0:Int)≤(j:Int):=by omega
    go_wp2_with fail
    refine hcall.out.mono ?_
    rintro e w3 ⟨rfl,hf3⟩
    have hfw:=hf.trans hf3
    cases q with
    | true=>
      have hy9:=hyes.out rfl
      go_wp2_with fail
      go_roundg (gk - 1)
      case measure=>omega
      case rel=>exact ⟨j+1,by go_num,by omega,hfw,hy9⟩
    | false=>
      have hn9:=hno.out rfl
      go_wp2_with fail
      go_ret
      exact ⟨DO hn9.out.symm,hfw⟩
   ·obtain rfl:j=n:=by omega
    have hdJ:decide (j < j)=false:=Aa (by omega)
    have hfin:=hZ (show decide (xs=ys)=true from Ab (by
     have h:=hb.out
     rw [Ap (by rw [← hn.out]; exact Ah _),Ap (by rw [← hm.out]; omega)] at h
     exact h))
    go_wp2_with fail
    go_ret
    exact ⟨DO hfin.out.symm,hf⟩
 ·have hne:((xs.length:Int) != ys.length)=true:=by rw [Bb]; omega
  have hfin:=hZ (show decide (xs=ys)=false from Aa (fun e=>hlen (by rw [e])))
  clear hlen
  go_enter Tryz.func101,Tryz.ntmps101
  go_wp2_with fail
  go_ret
  exact ⟨DO hfin.out.symm,Fr.refl _⟩
theorem Om:Zb 102:=fun x y xa ya xc yc W hx hy hl hl2=>by
 have heq:=hZ (N1 x y xa ya xc yc W hx hy (by omega) (by omega))
 generalize decide (x=y)=q at *
 clear hx hy
 go_enter Tryz.func102,Tryz.ntmps102
 go_wp2_with fail
 refine heq.out.mono ?_
 rintro e w2 ⟨rfl,hf2⟩
 go_wp2_with fail
 go_ret
 exact ⟨rfl,hf2⟩
theorem TI:Zb 103:=fun x y xa ya xc yc W hx hy hl hl2=>by
 have heq:=hZ (N1 x y xa ya xc yc W hx hy (by omega) (by omega))
 generalize decide (x=y)=q at *
 clear hx hy
 go_enter Tryz.func103,Tryz.ntmps103
 go_wp2_with fail
 refine heq.out.mono ?_
 rintro e w2 ⟨rfl,hf2⟩
 go_wp2_with fail
 go_ret
 exact ⟨rfl,hf2⟩
theorem Um (xs ys:List (List Int)) (a b:Option Addr) (ca cb:Nat) (w:World) (hx:A2 w a xs) (hy:A2 w b ys) (hl:xs.length≤1000000) (hl2:ys.length≤1000000) (hcx:∀ x,x ∈ xs→x.length≤1000000) (hcy:∀ x,x ∈ ys→x.length≤1000000) :
 Calls Tryz.prog 67 #[.slice a xs.length ca,.slice b ys.length cb] w fun e w'=>e=.returned (.bool (decide (xs=ys)))∧Fr w w':=by
 have h:=hZ (MP 103 xs ys a b ca cb w (D2 Tryz.func103 (by kernel_rfl) rfl) TI hx hy hl hl2 hcx hcy)
 generalize decide (xs=ys)=q at *
 clear hx hy
 go_enter Tryz.func67,Tryz.ntmps67
 go_wp2_with fail
 refine h.out.mono ?_
 rintro e w2 ⟨rfl,hf2⟩
 go_wp2_with fail
 go_ret
 exact ⟨rfl,hf2⟩
theorem RY (n:Nat) (xs ys:List (List Int)) (a b:Option Addr) (ca cb:Nat) (w:World) (hx:A2 w a xs) (hy:A2 w b ys) (hl:xs.length≤1000000) (hl2:ys.length≤1000000) (hcx:∀ x,x ∈ xs→x.length≤1000000) (hcy:∀ x,x ∈ ys→x.length≤1000000) :
 Calls Tryz.prog 66 #[.agg #[.int .i64 n,.slice a xs.length ca],.agg #[.int .i64 n,.slice b ys.length cb]] w fun e w'=>e=.returned (.bool (decide (xs=ys)))∧Fr w w':=by
 have h:=fun W (hW:Fr w W)=>MP 102 xs ys a b ca cb W (D2 Tryz.func102 (by kernel_rfl) rfl) Om (hx.fr hW) (hy.fr hW) hl hl2 hcx hcy
 have hfA:Fr w ((w.alloc (.cells #[.int .i64 n,.slice a xs.length ca] 76)).alloc (.cells #[.int .i64 n,.slice b ys.length cb] 76)):=((Fr.refl w).alloc _).alloc _
 replace h:=hZ (h _ hfA)
 generalize decide (xs=ys)=q at *
 generalize xs.length=xl at *
 generalize ys.length=yl at *
 replace hfA:=hZ hfA
 have hd2:((n:Int) == (n:Int))=true:=by simp
 clear hx hy
 go_enter Tryz.func66,Tryz.ntmps66
 go_wp2_with fail
 refine h.out.mono ?_
 rintro e w2 ⟨rfl,hf2⟩
 go_wp2_with fail
 go_ret
 exact ⟨rfl,hfA.out.trans hf2⟩
theorem GD {m:List (List Int)} {n:Nat} (h:DR n m):∀ r,r ∈ m→∀ x,x ∈ r→Sm x:=fun r hr x hx=>VS (h.2.2.2 r hr x hx)
theorem EI {n:Nat} {m:List (List Int)} (h:Bq n m) (hn:n≤6):∀ r,r ∈ m→r.length≤1000000:=fun r hr=>by rw [h r hr]; omega
structure TgW (P:List Int) (C M:List (List Int)):Prop where
 n1:1≤P.length
 n6:P.length≤6
 prime:BM P=0
 tabC:DR P.length C
 tabM:DR P.length M
 formC:Ex C=true
 ann:DY FX P.length C=some M
 sat:DY FX P.length M=some C
theorem Tg.w {P:List Int} {C M:List (List Int)} (h:Tg P C M):TgW P C M:=⟨h.n1,by have:=h.n4; omega,h.prime,h.tabC,h.tabM,h.formC,h.ann,h.sat⟩
theorem Qz (P:List Int) (C M:List (List Int)) (aP aC aM:Option Addr) (cP cC cM:Nat) (w:World) (hG:G w) (hP:El w iv aP P) (hC:A2 w aC C) (hM:A2 w aM M) (hcap:C.length≤cC) (hT:TgW P C M) :
 Calls Tryz.prog 32 #[.agg #[.slice aP P.length cP,.slice aC C.length cC,.slice aM M.length cM]] w fun e w'=>e=.returned (.int .i64 0)∧Fr w w':=by
 have hn1:=hT.n1
 have hn4:=hT.n6
 have lC:=hT.tabC.1
 have lM:=hT.tabM.1
 have hpc:∀ W,Fr w W→Calls Tryz.prog 44 #[.slice aP P.length cP] W fun e w'=>e=.returned (.int .i64 0)∧Fr W w':=fun W hW=>(Ft P aP cP W (hP.fr hW) (by omega)).mono fun e w' ⟨h1,h2⟩=>⟨by rw [h1,hT.prime],by rw [h2]; exact Fr.refl _⟩
 have hfine:GE w P.length aC C.length cC:=fun W hW=>FK C aC cC P.length W (hC.fr hW) hT.tabC hcap hT.formC
 have hsa:=fun W (hW:Fr w W)=>Up C M C aC cC P.length FX W (hG.fr hW) (hC.fr hW) (fun W' hW'=>hfine W' (hW.trans hW')) hT.tabC.2.2.1 hn1 (by omega) lC (GD hT.tabC) hT.ann hT.sat hT.tabM.2.2.1 (by omega) (by omega) (EI hT.tabC.2.2.1 hn4) hT.tabC.2.2.2
 have han:=fun W (hW:Fr w W)=>UG C M aC cC P.length FX W (hG.fr hW) (hC.fr hW) (fun W' hW'=>hfine W' (hW.trans hW')) hT.tabC.2.2.1 hn1 (by omega) lC (GD hT.tabC) hT.ann (by omega) (EI hT.tabM.2.2.1 hn4) hT.tabM.2.2.2
 have hle:∀ W a' c',Fr w W→A2 W a' C→Calls Tryz.prog 66 #[.agg #[.int .i64 (P.length:Nat),.slice a' C.length c'],.agg #[.int .i64 (P.length:Nat),.slice aC C.length cC]] W fun e w'=>e=.returned (.bool true)∧Fr W w':=fun W a' c' hW h=>by
  have h9:=RY P.length C C a' aC c' cC W h (hC.fr hW) (by omega) (by omega) (EI hT.tabC.2.2.1 hn4) (EI hT.tabC.2.2.1 hn4)
  rw [Ab (rfl:C=C)] at h9
  exact h9
 have hsm:∀ W a' c',Fr w W→A2 W a' M→Calls Tryz.prog 67 #[.slice a' M.length c',.slice aM M.length cM] W fun e w'=>e=.returned (.bool true)∧Fr W w':=fun W a' c' hW h=>by
  have h9:=Um M M a' aM c' cM W h (hM.fr hW) (by omega) (by omega) (EI hT.tabM.2.2.1 hn4) (EI hT.tabM.2.2.1 hn4)
  rw [Ab (rfl:M=M)] at h9
  exact h9
 obtain ⟨n,hn⟩:∃ n,n=P.length:=⟨_,rfl⟩
 rw [← hn] at hpc hfine hsa han hle hn1 hn4 ⊢
 obtain ⟨nC,hnC⟩:∃ nC,nC=C.length:=⟨_,rfl⟩
 obtain ⟨nM,hnM⟩:∃ nM,nM=M.length:=⟨_,rfl⟩
 rw [← hnC] at hfine hsa han hle lC ⊢
 rw [← hnM] at hsm lM ⊢
 replace hn:=hZ hn
 replace hnC:=hZ hnC
 replace hnM:=hZ hnM
 replace hpc:=hZ hpc
 replace hfine:=hZ hfine
 replace hsa:=hZ hsa
 replace han:=hZ han
 replace hle:=hZ hle
 replace hsm:=hZ hsm
 clear hP hC hM hT hcap hG
 obtain ⟨wb,hwb⟩:∃ wb,wb=Dj w [(.cells #[.slice aP n cP,.slice aC nC cC,.slice aM nM cM] 29)]:=⟨_,rfl⟩
 have hfb:Fr w wb:=by rw [hwb]; exact Ds _ w
 have g0:wb.heap[w.heap.size]?=some (.cells #[.slice aP n cP,.slice aC nC cC,.slice aM nM cM] 29 (0,0)):=by rw [hwb]; exact BT _ w 0 _ rfl
 have b0:wb.cell? ⟨w.heap.size,0,none⟩=some (.slice aP n cP):=AH g0 0
 have b1:wb.cell? ⟨w.heap.size,1,none⟩=some (.slice aC nC cC):=AH g0 1
 have b2:wb.cell? ⟨w.heap.size,2,none⟩=some (.slice aM nM cM):=AH g0 2
 clear g0
 go_enter Tryz.func32,Tryz.ntmps32
 go_upto_region 1 with (fail)
 change Code.wp _ _ _ _ (Dj w [(.cells #[.slice aP n cP,.slice aC nC cC,.slice aM nM cM] 29)])
 rw [← hwb]
 clear hwb
 go_wp2_with fail
 refine (hpc.out _ hfb).mono ?_
 rintro e w1 ⟨rfl,hf1⟩
 replace b0:=hf1.keep b0
 replace b1:=hf1.keep b1
 replace b2:=hf1.keep b2
 have hfw:=hfb.trans hf1
 clear hfb hf1
 go_upto_region 5 with (fail)
 obtain ⟨W1,hW1⟩:∃ W1,W1=w1.alloc (.cells #[.int .i64 n,.slice aC nC cC] 76):=⟨_,rfl⟩
 have hf1:Fr w1 W1:=by rw [hW1]; exact (Fr.refl _).alloc _
 have l0:W1.cell? ⟨w1.heap.size,0,none⟩=some (.int .i64 n):=by rw [hW1]; exact (Ct _ _ _ _).1
 have l1:W1.cell? ⟨w1.heap.size,1,none⟩=some (.slice aC nC cC):=by rw [hW1]; exact (Ce _ _ _ _).1
 rw [← hW1]
 clear hW1
 obtain ⟨lb,hlb⟩:∃ lb,lb=w1.heap.size:=⟨_,rfl⟩
 rw [← hlb] at l0 l1 ⊢
 replace hlb:=hZ hlb
 replace b0:=hf1.keep b0
 replace b1:=hf1.keep b1
 replace b2:=hf1.keep b2
 replace hfw:=hfw.trans hf1
 clear hf1
 go_wp2_with fail
 refine (hfine.out _ hfw).mono ?_
 rintro e w2 ⟨rfl,hf2⟩
 replace b2:=hf2.keep b2
 replace l0:=hf2.keep l0
 replace l1:=hf2.keep l1
 replace hfw:=hfw.trans hf2
 clear hf2 b0 b1
 go_wp2_with fail
 refine (hsa.out _ hfw).mono ?_
 rintro e w3 ⟨sa,sc,rfl,hms,hf3⟩
 replace hms:=hms w3 (Fx.refl _ _)
 rw [← hnC.out]
 replace b2:=hf3.keep b2
 replace l0:=hf3.keep l0
 replace l1:=hf3.keep l1
 replace hfw:=hfw.trans hf3
 clear hf3
 go_upto_region 9 with (fail)
 obtain ⟨W2,hW2⟩:∃ W2,W2=w3.alloc (.cells #[.int .i64 n,.slice sa nC sc] 76):=⟨_,rfl⟩
 have hf1:Fr w3 W2:=by rw [hW2]; exact (Fr.refl _).alloc _
 have s0:W2.cell? ⟨w3.heap.size,0,none⟩=some (.int .i64 n):=by rw [hW2]; exact (Ct _ _ _ _).1
 have s1:W2.cell? ⟨w3.heap.size,1,none⟩=some (.slice sa nC sc):=by rw [hW2]; exact (Ce _ _ _ _).1
 rw [← hW2]
 clear hW2
 obtain ⟨sb,hsb⟩:∃ sb,sb=w3.heap.size:=⟨_,rfl⟩
 rw [← hsb] at s0 s1 ⊢
 replace hsb:=hZ hsb
 replace b2:=hf1.keep b2
 replace l0:=hf1.keep l0
 replace l1:=hf1.keep l1
 replace hms:=hZ (hms.fr hf1)
 replace hfw:=hfw.trans hf1
 clear hf1
 go_wp2_with fail
 refine (hle.out _ _ _ hfw hms.out).mono ?_
 rintro e w4 ⟨rfl,hf4⟩
 replace b2:=hf4.keep b2
 replace l0:=hf4.keep l0
 replace l1:=hf4.keep l1
 replace hfw:=hfw.trans hf4
 clear hf4 s0 s1 hms
 go_wp2_with fail
 refine (han.out _ hfw).mono ?_
 rintro e w5 ⟨xa,xc,rfl,hma,hf5⟩
 replace hma:=hma w5 (Fx.refl _ _)
 rw [← hnM.out]
 replace b2:=hf5.keep b2
 replace hfw:=hfw.trans hf5
 clear hf5 l0 l1
 go_upto_region 12 with (fail)
 obtain ⟨W3,hW3⟩:∃ W3,W3=w5.alloc (.cells #[.int .i64 n,.slice xa nM xc] 76):=⟨_,rfl⟩
 have hf1:Fr w5 W3:=by rw [hW3]; exact (Fr.refl _).alloc _
 have s1:W3.cell? ⟨w5.heap.size,1,none⟩=some (.slice xa nM xc):=by rw [hW3]; exact (Ce _ _ _ _).1
 rw [← hW3]
 clear hW3
 obtain ⟨ab,hab⟩:∃ ab,ab=w5.heap.size:=⟨_,rfl⟩
 rw [← hab] at s1 ⊢
 replace hab:=hZ hab
 replace b2:=hf1.keep b2
 replace hma:=hZ (hma.fr hf1)
 replace hfw:=hfw.trans hf1
 clear hf1
 go_wp2_with fail
 refine (hsm.out _ _ _ hfw hma.out).mono ?_
 rintro e w6 ⟨rfl,hf6⟩
 go_wp2_with fail
 go_ret
 exact ⟨rfl,hfw.trans hf6⟩
theorem Un (P:List Int) (C M:List (List Int)) (aP aC aM:Option Addr) (cP cC cM:Nat) (w:World) (hG:G w) (hP:El w iv aP P) (hC:A2 w aC C) (hM:A2 w aM M) (hcap:C.length≤cC) (hT:Tg P C M) :
 Calls Tryz.prog 32 #[.agg #[.slice aP P.length cP,.slice aC C.length cC,.slice aM M.length cM]] w fun e w'=>e=.returned (.int .i64 0)∧Fr w w':=Qz P C M aP aC aM cP cC cM w hG hP hC hM hcap hT.w
theorem Wo (w:World) (aP aC aM:Option Addr) (cP cC cM:Nat) :
 Calls Tryz.prog 32 #[.agg #[.slice aP 0 cP,.slice aC 0 cC,.slice aM 0 cM]] w fun e w'=>e=.returned (.int .i64 13)∧Fr w w':=by
 have hpc:∀ W,Calls Tryz.prog 44 #[.slice aP 0 cP] W fun e w'=>e=.returned (.int .i64 13)∧Fr W w':=fun W=>(Ft [] aP cP W (.inl rfl) (by decide)).mono fun e w' ⟨h1,h2⟩=>⟨h1,by rw [h2]; exact Fr.refl _⟩
 have hfA:Fr w (w.alloc (.cells #[.slice aP 0 cP,.slice aC 0 cC,.slice aM 0 cM] 29)):=(Fr.refl w).alloc _
 replace hpc:=hZ hpc
 replace hfA:=hZ hfA
 go_enter Tryz.func32,Tryz.ntmps32
 go_wp2_with fail
 refine (hpc.out _).mono ?_
 rintro e w1 ⟨rfl,hf1⟩
 go_wp2_with fail
 go_ret
 exact ⟨rfl,hfA.out.trans hf1⟩
def Yx (P:List Int):Int:=if P=[] then 13 else 0
theorem RN (P:List Int) (C M:List (List Int)) (aP aC aM:Option Addr) (cP cC cM:Nat) (w:World) (hG:G w) (hP:El w iv aP P) (hC:A2 w aC C) (hM:A2 w aM M) (hcap:C.length≤cC) (hT:TgZ P C M) :
 Calls Tryz.prog 32 #[.agg #[.slice aP P.length cP,.slice aC C.length cC,.slice aM M.length cM]] w fun e w'=>e=.returned (.int .i64 (Yx P))∧Fr w w':=by
 rcases hT with ⟨rfl,rfl,rfl⟩ | hT
 ·exact Wo w aP aC aM cP cC cM
 ·have h1:Yx P=0:=by
   unfold Yx
   rw [Ae (fun e=>by have:=hT.n1; rw [e] at this; simp at this)]
  rw [h1]
  exact Un P C M aP aC aM cP cC cM w hG hP hC hM hcap hT
def We (P x:List Int):Int:=if P=[] then 13 else if Ck x≠0 then Ck x else if x.length≠P.length then 5 else 0
theorem UF (P:List Int) (C M:List (List Int)) (x:List Int) (aP aC aM xa:Option Addr) (cP cC cM xc rb:Nat) (w:World) (hG:G w) (hP:El w iv aP P) (hC:A2 w aC C) (hM:A2 w aM M) (hcap:C.length≤cC) (hT:TgZ P C M) (hx:El w iv xa x) (hxl:x.length≤1000000) (hc:w.cell? ⟨rb,0,none⟩=some (.slice xa x.length xc)) :
 Calls Tryz.prog 75 #[.agg #[.slice aP P.length cP,.slice aC C.length cC,.slice aM M.length cM],.slice (some ⟨rb,0,none⟩) 1 1] w fun e w'=>e=.returned (.int .i64 (We P x))∧Fr w w':=by
 have hch:=fun W (hW:Fr w W)=>RN P C M aP aC aM cP cC cM W (hG.fr hW) (hP.fr hW) (hC.fr hW) (hM.fr hW) hcap hT
 have hrw:=fun W (hW:Fr w W)=>DT x xa xc W (hx.fr hW) (by omega)
 have hbe:We P x=if Yx P≠0 then Yx P else if Ck x≠0 then Ck x else if x.length≠P.length then 5 else 0:=by
  unfold We Yx
  by_cases h:P=[] <;> simp [h]
 rw [hbe]
 obtain ⟨n,hn⟩:∃ n,n=P.length:=⟨_,rfl⟩
 obtain ⟨nC,hnC⟩:∃ nC,nC=C.length:=⟨_,rfl⟩
 obtain ⟨nM,hnM⟩:∃ nM,nM=M.length:=⟨_,rfl⟩
 obtain ⟨m,hm⟩:∃ m,m=x.length:=⟨_,rfl⟩
 obtain ⟨E0,hE0⟩:∃ E0,E0=Yx P:=⟨_,rfl⟩
 obtain ⟨E1,hE1⟩:∃ E1,E1=Ck x:=⟨_,rfl⟩
 rw [← hn,← hnC,← hnM,← hE0] at hch
 rw [← hm,← hE1] at hrw
 rw [← hm] at hc
 rw [← hn,← hnC,← hnM,← hE0,← hE1,← hm]
 obtain ⟨res,hres⟩:∃ res,res=if E0≠0 then E0 else if E1≠0 then E1 else if m≠n then 5 else 0:=⟨_,rfl⟩
 rw [← hres]
 replace hn:=hZ hn
 replace hnC:=hZ hnC
 replace hnM:=hZ hnM
 replace hm:=hZ hm
 replace hE0:=hZ hE0
 replace hE1:=hZ hE1
 replace hch:=hZ hch
 replace hrw:=hZ hrw
 clear hP hC hM hT hcap hG hx hbe
 obtain ⟨wb,hwb⟩:∃ wb,wb=Dj w [(.cells #[.slice aP n cP,.slice aC nC cC,.slice aM nM cM] 29)]:=⟨_,rfl⟩
 have hfb:Fr w wb:=by rw [hwb]; exact Ds _ w
 have g0:wb.heap[w.heap.size]?=some (.cells #[.slice aP n cP,.slice aC nC cC,.slice aM nM cM] 29 (0,0)):=by rw [hwb]; exact BT _ w 0 _ rfl
 have b0:wb.cell? ⟨w.heap.size,0,none⟩=some (.slice aP n cP):=AH g0 0
 have b1:wb.cell? ⟨w.heap.size,1,none⟩=some (.slice aC nC cC):=AH g0 1
 have b2:wb.cell? ⟨w.heap.size,2,none⟩=some (.slice aM nM cM):=AH g0 2
 replace hc:=hfb.keep hc
 clear g0
 by_cases e0:E0=0
 ·rw [Ae (by rw [e0]; simp)] at hres
  have q0:(E0 != 0)=false:=by rw [e0]; rfl
  replace e0:=hZ e0
  go_enter Tryz.func75,Tryz.ntmps75
  go_upto_region 1 with (fail)
  change Code.wp _ _ _ _ (Dj w [(.cells #[.slice aP n cP,.slice aC nC cC,.slice aM nM cM] 29)])
  rw [← hwb]
  clear hwb
  obtain ⟨tb,htb⟩:∃ tb,tb=w.heap.size:=⟨_,rfl⟩
  rw [← htb] at b0 b1 b2 ⊢
  replace htb:=hZ htb
  go_wp2_with fail
  refine (hch.out _ hfb).mono ?_
  rintro e w1 ⟨rfl,hf1⟩
  replace b0:=hf1.keep b0
  replace hc:=hf1.keep hc
  replace hfb:=hfb.trans hf1
  clear hf1 b1 b2
  by_cases e1:E1=0
  ·rw [Ae (by rw [e1]; simp)] at hres
   have q1:(E1 != 0)=false:=by rw [e1]; rfl
   replace e1:=hZ e1
   by_cases e2:m=n
   ·rw [Ae (by rw [e2]; simp)] at hres
    subst hres
    have q2:((m:Int) != (n:Int))=false:=by rw [e2]; simp
    replace e2:=hZ e2
    go_wp2_with fail
    go_loopg [16] 1 (fun k s16 wr=>∃ i:Nat,s16=.int .i64 i∧i+k=1∧Fr w1 wr)
    case atStart=>exact ⟨0,rfl,by omega,Fr.refl _⟩
    case round=>
     obtain ⟨i,rfl,hik,hf⟩:=hrel
     replace b0:=hf.keep b0
     replace hc:=hf.keep hc
     by_cases hi:i < 1
     ·obtain rfl:i=0:=by omega
      go_wp2_with fail
      refine (hrw.out _ (hfb.trans hf)).mono ?_
      rintro e w2 ⟨rfl,hf2⟩
      replace b0:=hf2.keep b0
      go_wp2_with fail
      go_roundg 0
      case measure=>omega
      case rel=>exact ⟨1,by go_num,by omega,hf.trans hf2⟩
     ·obtain rfl:i=1:=by omega
      go_wp2_with fail
      go_ret
      exact ⟨rfl,hfb.trans hf⟩
   ·rw [Ai e2] at hres
    subst hres
    have q2:((m:Int) != (n:Int))=true:=Bb.2 (by omega)
    replace e2:=hZ e2
    go_wp2_with fail
    refine Je 2 ?_
    rw [O5]
    go_wp2_with fail
    refine (hrw.out _ hfb).mono ?_
    rintro e w2 ⟨rfl,hf2⟩
    replace b0:=hf2.keep b0
    go_wp2_with fail
    go_ret
    exact ⟨rfl,hfb.trans hf2⟩
  ·have q1:(E1 != 0)=true:=Bb.2 e1
   rw [Ai e1] at hres
   subst hres
   replace e1:=hZ e1
   go_wp2_with fail
   refine Je 2 ?_
   rw [O5]
   go_wp2_with fail
   refine (hrw.out _ hfb).mono ?_
   rintro e w2 ⟨rfl,hf2⟩
   go_wp2_with fail
   go_ret
   exact ⟨rfl,hfb.trans hf2⟩
 ·have q0:(E0 != 0)=true:=Bb.2 e0
  rw [Ai e0] at hres
  subst hres
  replace e0:=hZ e0
  go_enter Tryz.func75,Tryz.ntmps75
  go_upto_region 1 with (fail)
  change Code.wp _ _ _ _ (Dj w [(.cells #[.slice aP n cP,.slice aC nC cC,.slice aM nM cM] 29)])
  rw [← hwb]
  clear hwb
  go_wp2_with fail
  refine (hch.out _ hfb).mono ?_
  rintro e w1 ⟨rfl,hf1⟩
  go_wp2_with fail
  go_ret
  exact ⟨rfl,hfb.trans hf1⟩
theorem KU {α:Type} {enc:α→Value} {w:World} {base:Nat} {e:TypeId} {a:Option Addr} {n m c:Nat} {xs:List α} (h:w.ownsRow base e 1 (.slice a n c) m (xs.map enc)):El w enc a xs:=by
 rcases Dy h with ⟨a2,c2,hv,h2⟩
 injection hv with e1 e2 e3
 subst e1
 rcases h2 with h2 | ⟨g,rfl⟩
 ·have h1:=h.1
  subst h2
  simp at h1
  exact .inl h1
 ·obtain ⟨-,-,b1,-,f⟩:=Bu h
  refine .inr ⟨g,0,rfl,b1,fun j x hx=>?_⟩
  have:=(f j (enc x) (by rw [Au,hx]; rfl)).1
  simpa using this
theorem C9 {x:Int} (h:Bk x=true):x.natAbs≤1000000000:=by
 unfold Bk at h
 have:=AV h
 omega
theorem I8 {x y:Int} (hx:x.natAbs≤1000000000) (hy:y.natAbs≤1000000000):(x * y).natAbs≤1000000000000000000:=by
 rw [AZ]
 exact Az hx hy
theorem Pn (M:List (List Int)) (x:List Int):(I3 M x).length=M.length:=by unfold I3; rw [AE]
theorem Q6 (x:List Int) (M:List (List Int)) (xa aM aP aC:Option Addr) (xc cM nP cP nC cC:Nat) (w:World) (hG:G w) (hM:A2 w aM M) (hr:Bq x.length M) (hx:El w iv xa x) (hxl:x.length≤4) (hMl:M.length≤1000) (hxf:∀ y,y ∈ x→Bk y=true) (hMf:∀ r,r ∈ M→∀ y,y ∈ r→Bk y=true) :
 Calls Tryz.prog 77 #[.agg #[.slice aP nP cP,.slice aC nC cC,.slice aM M.length cM],.slice xa x.length xc] w fun e w'=>∃ a c,e=.returned (.slice a M.length c)∧El w' sv a (I3 M x)∧Fr w w':=by
 obtain ⟨i0,ji,jz0,jz1,jz2⟩:=A5 HC
 obtain ⟨n,hn⟩:∃ n,n=x.length:=⟨_,rfl⟩
 obtain ⟨N,hN⟩:∃ N,N=M.length:=⟨_,rfl⟩
 rw [← hn] at hr hxl
 rw [← hN] at hMl
 rw [← hn,← hN]
 obtain ⟨L,hL⟩:∃ L,L=I3 M x:=⟨_,rfl⟩
 have hLg:∀ (j:Nat) (v:List Int),M[j]?=some v→L[j]?=some (Cy x v n):=fun j v hv=>by rw [hL]; unfold I3; rw [Au,hv,hn]; rfl
 have hLl:L.length=N:=by rw [hL,Pn,hN]
 rw [← hL]
 replace hn:=hZ hn
 replace hN:=hZ hN
 replace hL:=hZ hL
 replace hLg:=hZ hLg
 replace hLl:=hZ hLl
 replace hM:=hZ hM
 replace hr:=hZ hr
 replace hx:=hZ hx
 replace hxf:=hZ hxf
 replace hMf:=hZ hMf
 obtain ⟨wb,hwb⟩:∃ wb,wb=Dj w [(.cells #[.slice aP nP cP,.slice aC nC cC,.slice aM N cM] 29)]:=⟨_,rfl⟩
 have hfb:Fr w wb:=by rw [hwb]; exact Ds _ w
 have g0:wb.heap[w.heap.size]?=some (.cells #[.slice aP nP cP,.slice aC nC cC,.slice aM N cM] 29 (0,0)):=by rw [hwb]; exact BT _ w 0 _ rfl
 have b2:wb.cell? ⟨w.heap.size,2,none⟩=some (.slice aM N cM):=AH g0 2
 clear g0
 go_enter Tryz.func77,Tryz.ntmps77
 go_upto_region 1 with (fail)
 change Code.wp _ _ _ _ (Dj w [(.cells #[.slice aP nP cP,.slice aC nC cC,.slice aM N cM] 29)])
 rw [← hwb]
 clear hwb
 obtain ⟨tb,htb⟩:∃ tb,tb=w.heap.size:=⟨_,rfl⟩
 rw [← htb] at b2 ⊢
 have hbase:w.heap.size≤wb.heap.size:=hfb.size
 replace htb:=hZ htb
 go_wp2_with fail
 go_loopg [5,14] N (fun k s5 s14 wr=>∃ j:Nat,s14=.int .i64 j∧j+k=N∧Fr wb wr∧wr.ownsRow wb.heap.size 80 1 s5 j ((L.take j).map sv))
 case atStart=>exact ⟨0,rfl,by omega,Fr.refl _,by simpa using Br _ _ _ _⟩
 case round=>
  obtain ⟨j,rfl,hjk,hf,hown⟩:=hrel
  by_cases hj:j < N
  ·have hdJ:decide (j < N)=true:=Ab hj
   obtain ⟨wo,rfl⟩:∃ wo:World,wo=wr:=⟨_,rfl⟩
   obtain ⟨ko,rfl⟩:∃ ko:Nat,ko=gk:=⟨_,rfl⟩
   have hfo:=hfb.trans hf
   have hj2:j < M.length:=by rw [← hN.out]; exact hj
   obtain ⟨mb,mo,va,vc,rfl,hcm,hev⟩:=(hM.out.fr hfo).at hj2
   have hvl:=hr.out _ (AJ hj2)
   have hvf:=hMf.out _ (AJ hj2)
   have hLj:=hLg.out j _ (Ac hj2)
   generalize M[j]=v at *
   rw [hvl] at hcm
   have hsn:=hZ (BH hLj)
   have hGo:=hG.fr hfo
   have hdb:=LI hxf.out hvf
   replace hev:=hZ hev
   replace hvl:=hZ hvl
   replace hvf:=hZ hvf
   replace hLj:=hZ hLj
   replace hdb:=hZ hdb
   replace hown:=hZ hown
   have zj0:(0:Int)≤(j:Int):=Ak _
   have zj1:(j:Int) < (N:Int):=by omega
   go_wp2_with fail
   go_loopg [8,20] n (fun k s8 s20 wr=>∃ i:Nat,s20=.int .i64 i∧i+k=n∧Fr wo wr∧s8=.string (tx (Cy x v i)))
   case atStart=>exact ⟨0,rfl,by omega,Fr.refl _,by rw [Cy,Gv]⟩
   case round=>
    obtain ⟨i,rfl,hik,hf2,rfl⟩:=hrel
    by_cases hi:i < n
    ·have hdI:decide (i < n)=true:=Ab hi
     obtain ⟨wi,rfl⟩:∃ wi:World,wi=wr:=⟨_,rfl⟩
     have hfi:=hfo.trans hf2
     obtain ⟨xb,xo,y,rfl,hxb,hy,cy⟩:=(hx.out.fr hfi).at (i:=i) (by rw [← hn.out]; exact hi)
     obtain ⟨vb,vo,z,rfl,hvb,hz,cz⟩:=(hev.out.fr hf2).at (i:=i) (by rw [hvl.out]; exact hi)
     have hyb:=C9 (hxf.out y (Af hy))
     have hzb:=C9 (hvf.out z (Af hz))
     have hyz:=I8 hyb hzb
     have hS:=hdb.out i
     have hstep:Cy x v (i+1)=Cy x v i+y * z:=by rw [Cy,hy,hz]; rfl
     have hGi:=hGo.fr hf2
     have hofy:=hZ (fun W (hW:Fr wi W)=>Cs y (by omega) (by omega) W (hGi.fr hW))
     have hofz:=hZ (fun W (hW:Fr wi W)=>Cs z (by omega) (by omega) W (hGi.fr hW))
     have hmul:=hZ (fun W (hW:Fr wi W)=>QD y z (Wd.of40 (by omega)) (Wd.of40 (by omega)) W (hGi.fr hW))
     have hadd:=hZ (fun W (hW:Fr wi W)=>Ys (Cy x v i) (y * z) (Wd.of40 (by omega)) (Wd.of40 (by omega)) W (hGi.fr hW))
     generalize Cy x v i=S at *
     generalize y * z=yz at *
     rw [← hstep] at hadd
     have zi0:(0:Int)≤(i:Int):=Ak _
     have zi1:(i:Int) < (n:Int):=by omega
     replace hy:=hZ hy
     replace hz:=hZ hz
     replace hstep:=hZ hstep
     clear hyb hzb hyz hS
     go_wp2_with fail
     go_region_held3 (fun w'=>w'.cell? ⟨vb,vo+i,none⟩=some (.int .i64 z))
      (first | assumption | (refine Fr.keep (by assumption) ?_; assumption) | go_keep)
      (first
       | (go_at_call 96; (with_reducible refine (hofy.out _ ?_).mono ?_); (exact BU); rintro e w3 ⟨rfl,hf3⟩)
       | (go_at_call 96; (with_reducible refine (hofz.out _ ?_).mono ?_); (exact BU); rintro e w4 ⟨rfl,hf4⟩)
       | (go_at_call 95; (with_reducible refine (hmul.out _ ?_).mono ?_); (exact BU); rintro e w5 ⟨rfl,hf5⟩)
       | (go_at_call 94; (with_reducible refine (hadd.out _ ?_).mono ?_); (exact BU); rintro e w6 ⟨rfl,hf6⟩))
     have hf9:Fr wi w6:=by exact BU
     go_wp2_with fail
     go_roundg (gk - 1)
     case measure=>omega
     case rel=>exact ⟨i+1,by go_num,by omega,hf2.trans hf9,rfl⟩
    ·obtain rfl:i=n:=by omega
     have hdI:decide (i < i)=false:=Aa (by omega)
     have hown2:=Bj hown.out hf2
     go_wp2_with (at_builtin; refine wpList_append_lies _ rfl _ _ 119 (by rfl) _ 80 _ _ 1 16 Tryz.underlying119 ji jz0 jz1 jz2 rfl (by decide) _ j _ (by rfl) (AA hown2 _) ⟨wr.heap.size,0,none⟩ 1 1 [sv (Cy x v i)] (by rfl) rfl (AN _ _ _ _ (by simp)) (by simp [Value.oneCell']) (by decide) (by unfold maxLen; omega) (by omega) (by have:=(hf.trans hf2).size; simp; omega) (wr.heap.size+1) (by simp) ?_; intro gA capA wA hownA hgrowA hatA hltA)
     go_wp2_with fail
     go_roundg (ko - 1)
     case measure=>omega
     case rel=>exact ⟨j+1,by go_num,by omega,((hf.trans hf2).alloc _).grown hgrowA (fun k e=>(hown2.lt k e).1),by rw [hsn.out,AD]; exact hownA⟩
  ·obtain rfl:j=N:=by omega
   have hdJ:decide (j < j)=false:=Aa (by omega)
   rw [Ap (by rw [hLl.out]; exact Ah _)] at hown
   obtain ⟨a9,c9,rfl,-⟩:=Dy hown
   go_wp2_with fail
   go_ret
   exact ⟨a9,c9,rfl,KU hown,hfb.trans hf⟩
theorem Dq {x:List Int} (h:Ck x=0):∀ y,y ∈ x→Bk y=true:=by
 unfold Ck at h
 split at h
 ·exact absurd h (by decide)
 ·split at h
  ·exact absurd h (by decide)
  ·rename_i h2
   intro y hy
   have h3:=Cu.1 (by simpa using h2:x.any (fun n=>!Bk n)=false) y hy
   simpa using h3
theorem Tx (tb base:Nat) (L:List (Int×Int)) (pa fa:Option Addr) (pc fc:Nat) (w0:World) (hP:El w0 iv pa (L.map Prod.fst)) (hF:El w0 sv fa (L.map Prod.snd)) (c0:w0.cell? ⟨tb,0,none⟩=some (.slice pa L.length pc)) (c1:w0.cell? ⟨tb,1,none⟩=some (.slice fa L.length fc)) (hbp:∀ b o s,pa=some ⟨b,o,s⟩→L≠[]→b < base) (hbf:∀ b o s,fa=some ⟨b,o,s⟩→L≠[]→b < base) (q:Nat→Prop) (hq9:∀ k,q k→base≤k∧k≠tb) (hl:L.length≤1000) :
 Y4 Fence.wide 3 Tryz.prog 251 #[.pointer (some ⟨tb,0,none⟩)] (fun x:Int×Int=>#[.int .i64 x.1,.string (tx x.2)]) (fun _ _ pre x _=>∃ i,pre=L.take i∧L[i]?=some x) (fun xs=>xs=L) w0 q:=by
 intro l J W hfr hJ hY h0
 refine QZ Tryz.func251 rfl trivial ?_ rfl
 simp only [Tryz.ntmps251,CG,Ay,CM,Nat.reduceAdd,Nat.reduceSub,CV,CU,Du,C6,D5,DG]
 have e0:=hfr.keep c0
 have e1:=hfr.keep c1
 obtain ⟨n,hn⟩:∃ n,n=L.length:=⟨_,rfl⟩
 rw [← hn] at e0 e1 hl
 replace hn:=hZ hn
 replace hP:=hZ (hP.fr hfr)
 replace hF:=hZ (hF.fr hfr)
 replace hbp:=hZ hbp
 replace hbf:=hZ hbf
 replace hY:=hZ hY
 replace hq9:=hZ hq9
 replace hJ:=hZ hJ
 have hqt:¬ q tb:=fun e=>(hq9.out _ e).2 rfl
 replace hqt:=hZ hqt
 clear c0 c1
 gi_wp2
 gi_loopg [8] n (fun k s8 wr=>∃ i:Nat,s8=.int .i64 i∧i+k=n∧J (fun _=>False) (L.take i) wr∧Fx q W wr)
 case atStart=>exact ⟨0,rfl,by omega,h0,Fx.refl _ _⟩
 case round=>
  obtain ⟨i,rfl,hik,hj,hfx⟩:=hrel
  by_cases hi:i < n
  ·have hd:decide (i < n)=true:=Ab hi
   have hiL:i < L.length:=by rw [← hn.out]; exact hi
   obtain ⟨b1,o1,x1,hae,-,hx1,cx1⟩:=hP.out.at (i:=i) (by rw [AE]; exact hiL)
   obtain ⟨b2,o2,x2,hbe,-,hx2,cx2⟩:=hF.out.at (i:=i) (by rw [AE]; exact hiL)
   have hne9:L≠[]:=fun e=>by rw [e] at hiL; simp at hiL
   have hb1:=hbp.out _ _ _ hae hne9
   have hb2:=hbf.out _ _ _ hbe hne9
   replace cx1:=hfx.keep cx1 (fun e=>by have:=(hq9.out _ e).1; have e9:base≤b1:=this; omega)
   replace cx2:=hfx.keep cx2 (fun e=>by have:=(hq9.out _ e).1; have e9:base≤b2:=this; omega)
   have hxl:L[i]?=some (x1,x2):=by
    rw [Au,Ac hiL] at hx1 hx2
    injection hx1 with hx1
    injection hx2 with hx2
    rw [Ac hiL,← hx1,← hx2]
   have hsn:=hZ (BH hxl)
   have c0:=hfx.keep e0 hqt.out
   have c1:=hfx.keep e1 hqt.out
   obtain ⟨fn,tmps,assign,body,hy,hR⟩:=hY.out (fun _=>False) (L.take i) (x1,x2) wr hj (fun k e=>e.elim) ⟨i,rfl,hxl⟩
   simp only at hy
   subst hae
   subst hbe
   have z1:(i:Int) < (n:Int):=by omega
   have z2:(0:Int)≤(i:Int):=by omega
   clear hx1 hx2 hxl hb1 hb2 hiL hne9
   gi_wp2
   refine hR.mono ?_
   rintro e w5 ⟨rfl,hj5,hk5⟩
   have hfx5:=hfx.trans (hk5.mono fun k e=>e.2)
   clear hR hy
   gi_wp2
   gi_roundg (gk - 1)
   case measure=>omega
   case rel=>exact ⟨i+1,by go_num,by omega,by rw [hsn.out]; exact hj5,hfx5⟩
  ·obtain rfl:i=n:=by omega
   have hd:decide (i < i)=false:=Aa hi
   rw [Ap (by rw [← hn.out]; exact Ah _)] at hj
   gi_wp2
   go_end0
   exact ⟨⟨_,rfl⟩,_,L,rfl,hj⟩
theorem Uk (n m:Nat) (pa fa:Option Addr) (pc fc:Nat) (den:ByteArray) (w:World) :
 Calls Tryz.prog 228 #[.agg #[.slice pa n pc,.slice fa m fc,.string den]] w fun e w'=>e=.returned (.func (.func 251) #[] #[.pointer (some ⟨w.heap.size,0,none⟩)])∧w'=w.alloc (.cells #[.slice pa n pc,.slice fa m fc,.string den] 256):=by
 go_enter Tryz.func228,Tryz.ntmps228
 go_wp2_with fail
 go_ret
 exact ⟨rfl,rfl⟩
def Mp:Nat→Nat→Nat→Nat→Option Nat
 | 0,_,_,o=>some o
 | n+1,l,h,o=>
   if l < 9223372036854775808∧h < 9223372036854775808∧o < 4611686018427387904∧h * h / 4611686018427387904+1 < 18446744073709551616 then
    if 9223372036854775808≤l * l / 4611686018427387904 then Mp n (l * l / 4611686018427387904 / 2) ((h * h / 4611686018427387904+1) / 2+1) (2 * o+1)
    else if 9223372036854775808≤h * h / 4611686018427387904+1 then none else Mp n (l * l / 4611686018427387904) (h * h / 4611686018427387904+1) (2 * o)
   else none
theorem Jw {f:Nat} {a:Array Value} {w:World} {r:Ending} (h:Calls Tryz.prog f a w fun e w'=>e=r∧w'=w):Calls Tryz.prog f a w fun e w'=>e=r∧Fr w w':=h.mono fun e w' ⟨h1,h2⟩=>⟨h1,by rw [h2]; exact Fr.refl _⟩
theorem ZA (x:Nat) (hx:x < 85070591730234615865843651857942052864):bits .or .u64 ((x:Int) / 18446744073709551616 * 4) ((x:Int) % 18446744073709551616 / 4611686018427387904)=((x / 4611686018427387904:Nat):Int):=by
 have h1:x / 18446744073709551616 * 4 < 18446744073709551616:=by omega
 have h2:x % 18446744073709551616 / 4611686018427387904 < 4:=by omega
 have h3:=u64_or_nat (x / 18446744073709551616 * 4) (x % 18446744073709551616 / 4611686018427387904) h1 (by omega)
 have h4:x / 18446744073709551616 * 4 ||| x % 18446744073709551616 / 4611686018427387904=x / 4611686018427387904:=by
  have:=Nat.two_pow_add_eq_or_of_lt (i:=2) (b:=x % 18446744073709551616 / 4611686018427387904) (by omega) (x / 18446744073709551616)
  rw [CL,← this]
  omega
 rw [h4] at h3
 have e1:(x:Int) / 18446744073709551616 * 4=((x / 18446744073709551616 * 4:Nat):Int):=by omega
 have e2:(x:Int) % 18446744073709551616 / 4611686018427387904=((x % 18446744073709551616 / 4611686018427387904:Nat):Int):=by omega
 rw [e1,e2]
 exact h3
theorem U5 {l:Nat} (h:l < 9223372036854775808):l * l < 85070591730234615865843651857942052864:=by
 have:=Lj h h
 omega
theorem Sr {l:Nat} (h:l < 9223372036854775808):IntKind.u64.wrap ((l:Int) * l / 18446744073709551616 * 4)=(l:Int) * l / 18446744073709551616 * 4:=by
 have h1:=U5 h
 have e:(l:Int) * l=((l * l:Nat):Int):=(AQ l l).symm
 rw [e]
 exact AL _ (by omega)
theorem U4 {l:Nat} (h:l < 9223372036854775808):bits .or .u64 ((l:Int) * l / 18446744073709551616 * 4) ((l:Int) * l % 18446744073709551616 / 4611686018427387904)=((l * l / 4611686018427387904:Nat):Int):=by
 have e:(l:Int) * l=((l * l:Nat):Int):=(AQ l l).symm
 rw [e]
 exact ZA _ (U5 h)
theorem WE (p k r:Nat) (w:World) (hk:Lib.bitLen p=k+1) (hk6:k≤60) (hp:p * 2 ^ (62 - k) < 18446744073709551616) (hr:Mp 26 (p * 2 ^ (62 - k)) (p * 2 ^ (62 - k)) k=some r) :
 Calls Tryz.prog 250 #[.int .i64 (p:Int)] w fun e w'=>e=.returned (.tuple #[.int .i64 (r:Int),.bool true])∧Fr w w':=by
 have hpl:p < 18446744073709551616:=by
  have:p * 1≤p * 2 ^ (62 - k):=A7 _ (Nat.one_le_two_pow)
  omega
 have hlen:=Jw (Tryz.bits_Len (p:Int) w (by omega) (by omega))
 rw [AR,hk] at hlen
 obtain ⟨L0,hL0⟩:∃ L0,L0=p * 2 ^ (62 - k):=⟨_,rfl⟩
 rw [← hL0] at hp hr
 have hw0:IntKind.u64.wrap ((p:Int) * 2 ^ (62 - k))=(L0:Int):=by
  have e:(p:Int) * 2 ^ (62 - k)=(L0:Int):=by rw [hL0,AQ,Int.natCast_pow]; rfl
  rw [e]
  exact AL _ (by omega)
 replace hL0:=hZ hL0
 replace hr:=hZ hr
 replace hlen:=hZ hlen
 clear hp
 go_enter Tryz.func250,Tryz.ntmps250
 go_wp2_with fail
 refine hlen.out.mono ?_
 rintro e w1 ⟨rfl,hf1⟩
 go_wp2_with fail
 go_loopg [5,6,7,21] 26 (fun n s5 s6 s7 s21 wr=>∃ i l h o:Nat,s21=.int .i64 i∧i+n=26∧s5=.int .u64 l∧s6=.int .u64 h∧s7=.int .i64 o∧Hid (Mp n l h o=some r)∧Fr w wr)
 case atStart=>exact ⟨0,L0,L0,k,rfl,by omega,by first | rfl | rw [hw0],by first | rfl | rw [hw0],by go_num,hr,hf1⟩
 case round=>
  obtain ⟨i,l,h,o,rfl,hin,rfl,rfl,rfl,hb,hf⟩:=hrel
  by_cases hi:i < 26
  ·have hdI:decide ((i:Int) < 26)=true:=Ab (by omega)
   obtain ⟨n,rfl⟩:∃ n,gk=n+1:=⟨gk - 1,by omega⟩
   have hb2:=hb.out
   rw [Mp] at hb2
   split at hb2
   ·rename_i hc
    obtain ⟨c1,c2,c3,c4⟩:=hc
    have hm1:=hZ (fun W=>Jw (Tryz.bits_Mul64 l l (by omega) (by omega) W))
    have hm2:=hZ (fun W=>Jw (Tryz.bits_Mul64 h h (by omega) (by omega) W))
    have k1:=Sr c1
    have k2:=U4 c1
    have k3:=Sr c2
    have k4:=U4 c2
    obtain ⟨l1,hl1⟩:∃ l1,l1=l * l / 4611686018427387904:=⟨_,rfl⟩
    obtain ⟨h1,hh1⟩:∃ h1,h1=h * h / 4611686018427387904:=⟨_,rfl⟩
    have hl1b:l1 < 18446744073709551616:=by have:=U5 c1; omega
    rw [← hl1] at k2 hb2
    rw [← hh1] at k4 hb2 c4
    have k5:IntKind.u64.wrap ((h1:Int)+1)=(h1:Int)+1:=AL _ (by omega)
    replace hl1:=hZ hl1
    replace hh1:=hZ hh1
    by_cases hA:9223372036854775808≤l1
    ·rw [Ai hA] at hb2
     have dA:decide ((9223372036854775808:Int)≤(l1:Int))=true:=Ab (by omega)
     replace hb2:=hZ hb2
     go_wp2_with fail
     refine (hm1.out _).mono ?_
     rintro e w2 ⟨rfl,hf2⟩
     go_wp2_with fail
     refine (hm2.out _).mono ?_
     rintro e w3 ⟨rfl,hf3⟩
     go_wp2_with fail
     go_roundg n
     case measure=>omega
     case rel=>exact ⟨i+1,_,_,_,by go_num,by omega,by go_num,by go_num,by go_num,hb2,(hf.trans hf2).trans hf3⟩
    ·rw [Ae hA] at hb2
     have dA:decide ((9223372036854775808:Int)≤(l1:Int))=false:=Aa (by omega)
     by_cases hB:9223372036854775808≤h1+1
     ·rw [Ai hB] at hb2; cases hb2
     ·rw [Ae hB] at hb2
      have dB:decide ((9223372036854775808:Int)≤(h1:Int)+1)=false:=Aa (by omega)
      replace hb2:=hZ hb2
      go_wp2_with fail
      refine (hm1.out _).mono ?_
      rintro e w2 ⟨rfl,hf2⟩
      go_wp2_with fail
      refine (hm2.out _).mono ?_
      rintro e w3 ⟨rfl,hf3⟩
      go_wp2_with fail
      go_roundg n
      case measure=>omega
      case rel=>exact ⟨i+1,_,_,_,by go_num,by omega,by go_num,by go_num,by go_num,hb2,(hf.trans hf2).trans hf3⟩
   ·cases hb2
  ·obtain rfl:i=26:=by omega
   obtain rfl:gk=0:=by omega
   have hb2:=hb.out
   rw [Mp] at hb2
   injection hb2 with hb2
   subst hb2
   go_wp2_with fail
   go_ret2
   exact ⟨rfl,hf⟩
end Go.Proofs.YtiniigadkknboaaGreatDoor
