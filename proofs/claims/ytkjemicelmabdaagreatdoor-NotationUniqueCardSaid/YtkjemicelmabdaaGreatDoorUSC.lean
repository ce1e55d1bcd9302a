/- Contracts and laws: USC. -/
import Derived.Test.YtkjemicelmabdaaGreatDoorUSW
import Derived.Test.YtkjemicelmabdaaGreatDoorUSB
import Derived.Test.YtkjemicelmabdaaGreatDoorUSA
import Derived.Test.YtkjemicelmabdaaGreatDoorUK
import Derived.Test.YtkjemicelmabdaaGreatDoorUH
import Derived.Test.YtkjemicelmabdaaGreatDoorURd

set_option maxRecDepth 100000
set_option maxHeartbeats 2000000
namespace Go.Proofs.YtkjemicelmabdaaGreatDoor
open Go.RowKit Go.Lib
attribute [local go_sem ↓] AQ AR
theorem O0 (a:Option Addr) (cap:Nat) (f:Value) (w:World) :
 Calls Tryz.prog 109 #[.slice a 0 cap,f] w fun e w'=>e=.returned (.slice none 0 0)∧w=w':=by
 go_enter Tryz.func109,Tryz.ntmps109
 go_wp2_with fail
 refine Ba 1 ?_
 rw [A5]
 go_wp2_with fail
 go_ret
 exact ⟨rfl,rfl⟩
theorem Qd (a:Option Addr) (cap:Nat) (w:World) (hG:G w) :
 Calls Tryz.prog 70 #[.slice a 0 cap] w fun e w'=>e=.returned (.tuple #[.slice none 0 0,.int .i64 0])∧Fr w w':=by
 have hck:=hZ (EP [] a cap 0 w (.inl rfl) ⟨by simp,by omega,(fun r hr=>by cases hr),(fun r hr=>by cases hr)⟩)
 have hro:=hZ (fun f W=>O0 a cap f W)
 have hre:=hZ (fun W=>IY W)
 have hGf:=hZ (fun W (hW:Fr w W)=>hG.fr hW)
 clear hG
 go_enter Tryz.func70,Tryz.ntmps70
 go_wp2_with fail
 refine hck.out.mono ?_
 rintro e w1 ⟨rfl,hf1⟩
 go_upto_region 5 with (fail)
 obtain ⟨pb,hpb⟩:∃ pb,pb=w1.heap.size:=⟨_,rfl⟩
 obtain ⟨w2,hw2⟩:∃ w2,w2=w1.alloc (.cells #[.int .i64 0] 3):=⟨_,rfl⟩
 have c0:w2.cell? ⟨pb,0,none⟩=some (.int .i64 0):=by rw [hw2,hpb]; exact Du _ _ _
 have hf2:Fr w w2:=by rw [hw2]; exact hf1.alloc _
 change Code.wp _ _ _ _ (w1.alloc (.cells #[.int .i64 0] 3))
 rw [← hw2,← hpb]
 clear hw2 hpb
 refine DC (S:=fun W=>W.cell? ⟨pb,0,none⟩=some (.int .i64 0)) (by kernel_rfl) ((Fr.refl w2).drew.keep c0) (fun hHeld=>?_)
 refine hK 0 ?_
 change wpAnyH _ _ _ _ _ _ _ (Act.put _ (some 19) _) _
 simp only [Act.put,BT,Cp,Co]
 refine hK 1 ?_
 change wpAnyH _ _ _ _ _ _ _ (Act.put _ (some 20) _) _
 simp only [Act.put,BT,Cp,Co]
 refine hK 2 ?_
 change wpAnyH _ _ _ _ _ _ _ (Act.put _ (some 21) _) _
 simp only [Act.put,BT,Cp,Co]
 refine hN 3 ?_
 change wpAnyH _ _ _ _ _ _ _ (Act.put _ (some 22) _) _
 simp only [Act.put,BT,Cp,Co]
 refine hN 4 ?_
 change wpAnyH _ _ _ _ _ _ _ (Act.put _ (some 23) _) _
 simp only [Act.put,BT,Cp,Co]
 refine hN 5 ?_
 change wpAnyH _ _ _ _ _ _ _ (Act.put _ (some 24) _) _
 simp only [Act.put,BT,Cp,Co]
 refine hN 6 ?_
 change wpAnyH _ _ _ _ _ _ _ (Act.put _ (some 25) _) _
 simp only [Act.put,BT,Cp,Co]
 refine hK 7 ?_
 change wpAnyH _ _ _ _ _ _ _ (Act.put _ (some 26) _) _
 simp only [Act.put,BT,Cp,Co]
 refine D6 (by kernel_rfl) ?_ _
 have hd:Fr w2 w2.drew:=(Fr.refl w2).drew
 have c1:=hd.keep c0
 clear hHeld c0
 go_wp2_with fail
 refine (hro.out _ _).mono ?_
 rintro e w3 ⟨rfl,rfl⟩
 go_wp2_with fail
 refine (hre.out _).mono ?_
 rintro e w4 ⟨rfl,hf4⟩
 have c4:=hf4.keep c1
 go_upto_region 9 with (fail)
 obtain ⟨w6,hw6⟩:∃ w6,w6=w4.alloc (.cells #[sv (1:Rat).num,sv ((1:Rat).den:Int)] 134):=⟨_,rfl⟩
 have hf46:Fr w4 w6:=by rw [hw6]; exact (Fr.refl w4).alloc _
 change Code.wp _ _ _ _ (w4.alloc (.cells #[sv (1:Rat).num,sv ((1:Rat).den:Int)] 134))
 rw [← hw6]
 clear hw6
 have c6:=hf46.keep c4
 go_wp2_with fail
 refine Ba 1 ?_
 rw [A5]
 go_wp2_with fail
 exact Ay (v:=.tuple #[_,.int .i64 0]) (by simp [results,Tryz.results70,go_sem]) rfl ⟨rfl,((hf2.trans hd).trans hf4).trans hf46⟩
theorem Tn (aN aA:Option Addr) (nN cN cA:Nat) (f t:Value) (w:World) (hG:G w) :
 Calls Tryz.prog 28 #[.agg #[.slice aN nN cN,.slice aA 0 cA],f,t] w fun e w'=>e=.returned (.tuple #[.slice none 0 0,.bool true])∧Fr w w':=by
 have hacc:=hZ (fun W (hW:Fr w W)=>H9 aN aA nN cN cA [] W (hG.fr hW) ⟨.inl rfl,fun x hx=>by cases hx⟩ (by simp))
 have hinv:=hZ (fun a c W (hW:Fr w W)=>Qd a c W (hG.fr hW))
 clear hG
 have hC:=Bm.new w (.slice aN nN cN) (.slice aA 0 cA) 32
 have f1:Fr w (w.alloc (.cells #[.slice aN nN cN,.slice aA 0 cA] 32)):=(Fr.refl _).alloc _
 have n0:=hC.a
 have n1:=hC.b
 clear hC
 go_enter Tryz.func28,Tryz.ntmps28
 go_wp2_with fail
 refine (hacc.out _ f1).mono ?_
 rintro e w2 ⟨a2,c2,rfl,-,hf2⟩
 go_wp2_with fail
 refine (hinv.out _ _ _ (f1.trans hf2)).mono ?_
 rintro e w3 ⟨rfl,hf3⟩
 go_wp2_with fail
 refine Ba 1 ?_
 rw [A5]
 go_wp2_with fail
 go_ret2
 exact ⟨rfl,(f1.trans hf2).trans hf3⟩
theorem Tw (a:Option Addr) (c:Nat) (w:World) :
 Calls Tryz.prog 29 #[.slice a 0 c] w fun e w'=>e=.returned (.slice none 0 0)∧w=w':=by
 go_enter Tryz.func29,Tryz.ntmps29
 go_wp2_with fail
 refine Ba 1 ?_
 rw [A5]
 go_wp2_with fail
 go_ret
 exact ⟨rfl,rfl⟩
theorem MX (a:Option Addr) (cap:Nat) (w:World) :
 Calls Tryz.prog 76 #[.slice a 0 cap] w fun e w'=>e=.returned (.slice none 0 0)∧w=w':=by
 have hcol:∀ W:World,Calls Tryz.prog 114 #[.slice a 0 cap] W fun e w'=>e=.returned (.int .i64 0)∧W=w':=fun W=>by
  go_enter Tryz.func114,Tryz.ntmps114
  go_wp2_with fail
  go_ret
  exact ⟨rfl,rfl⟩
 replace hcol:=hZ hcol
 go_enter Tryz.func76,Tryz.ntmps76
 go_wp2_with fail
 refine Ba 1 ?_
 rw [A5]
 go_wp2_with fail
 refine (hcol.out _).mono ?_
 rintro e w2 ⟨rfl,rfl⟩
 go_wp2_with fail
 go_ret
 exact ⟨rfl,rfl⟩
theorem MZ (a:Option Addr) (cap:Nat) (w:World) (hG:G w) :
 Calls Tryz.prog 77 #[.slice a 0 cap] w fun e w'=>e=.returned (.tuple #[.slice none 0 0,.bool true])∧Fr w w':=by
 have hbig:=hZ (JS [] a cap 1 w hG (.inl rfl) (fun r hr=>by cases hr) (by decide) (by decide) (by simp) (fun r hr=>by cases hr))
 have hel:∀ (b:Option Addr) (c:Nat) (W:World),Calls Tryz.prog 112 #[.slice b 0 c,.int .i64 0] W fun e w'=>e=.returned (.tuple #[.slice none 0 0,.string ⟨#[49]⟩,.bool false])∧W=w':=fun b c W=>by
  go_enter Tryz.func112,Tryz.ntmps112
  go_wp2_with fail
  refine Ba 1 ?_
  rw [A5]
  go_wp2_with fail
  go_ret3
  exact ⟨rfl,rfl⟩
 replace hel:=hZ hel
 clear hG
 go_enter Tryz.func77,Tryz.ntmps77
 go_wp2_with fail
 refine hbig.out.mono ?_
 rintro e w1 ⟨v,hs,rfl,hgg,hrw,hnew,hf1⟩
 obtain ⟨b,c,rfl⟩:=hgg.slice
 go_wp2_with fail
 refine Ba 1 ?_
 rw [A5]
 go_wp2_with fail
 refine (hel.out _ _ _).mono ?_
 rintro e w3 ⟨rfl,rfl⟩
 go_wp2_with fail
 refine Ba 1 ?_
 rw [A5]
 go_wp2_with fail
 go_ret2
 exact ⟨rfl,hf1⟩
theorem MT (aN aA:Option Addr) (M cN cA:Nat) (r:Value) (w:World) (hG:G w) :
 Calls Tryz.prog 34 #[.agg #[.slice aN M cN,.slice aA 0 cA],r] w (Mw w (some []) 0):=by
 have hrow:=hZ (fun W (hW:Fr w W)=>Hc aA cA [] W (hG.fr hW) ⟨.inl rfl,fun x hx=>by cases hx⟩ (by simp))
 have htr:=hZ (fun a c W=>MX a c W)
 have hin:=hZ (fun a c W (hW:Fr w W)=>MZ a c W (hG.fr hW))
 clear hG
 have hC:=Bm.new w (.slice aN M cN) (.slice aA 0 cA) 32
 have f1:Fr w (w.alloc (.cells #[.slice aN M cN,.slice aA 0 cA] 32)):=(Fr.refl _).alloc _
 have n1:=hC.b
 clear hC
 go_enter Tryz.func34,Tryz.ntmps34
 go_wp2_with fail
 refine (hrow.out _ f1).mono ?_
 rintro e w2 ⟨a2,c2,rfl,-,hf2⟩
 go_wp2_with fail
 refine (htr.out _ _ _).mono ?_
 rintro e w3 ⟨rfl,rfl⟩
 go_wp2_with fail
 refine (hin.out _ _ _ (f1.trans hf2)).mono ?_
 rintro e w4 ⟨rfl,hf4⟩
 go_wp2_with fail
 refine Ba 1 ?_
 rw [A5]
 go_wp2_with fail
 go_ret2
 exact ⟨none,0,rfl,.inl rfl,rfl,(f1.trans hf2).trans hf4⟩
def J5 (C:List (List Int)) (D:Int) (RN:List (List Int)) (d:Nat) (r:List Int) (i:Nat):Option (List Int):=CX (B9 C D) (List.zipWith (· - ·) r (A7 RN i)) d
def H6 (RA:List (List Int)) (d:Nat) (C:List (List Int)) (D:Int) (C':List (List Int)) (D':Int):Prop:=1≤d→(Gx RA d C D∧Fw RA d C D)∧Gx (Jm d RA) d C' D'∧Fw (Jm d RA) d C' D'
theorem H6.ok {RA C C':List (List Int)} {d:Nat} {D D':Int} (h:H6 RA d C D C' D') (hd:1≤d):H2 RA C C' d D D':=⟨(h hd).1.2,(h hd).2.2⟩
section
variable {N A:List Sy} {d M:Nat} {aN aA:Option Addr} {cN cA:Nat} {w:World}
theorem DY.lA (hn:DY w aN aA cN cA M d N A):(A.map Sy.row).length=d:=by rw [Al]; exact hn.hd
theorem DY.lRA (hn:DY w aN aA cN cA M d N A):∀ q,q ∈ A.map Sy.row→q.length=d:=fun q hq=>by obtain ⟨x,hx,rfl⟩:=AU.1 hq; exact (hn.rA x hx).2.1
theorem DY.bA (hn:DY w aN aA cN cA M d N A):IB 9 (A.map Sy.row):=fun q hq y hy=>by obtain ⟨x,hx,rfl⟩:=AU.1 hq; exact (hn.rA x hx).2.2 y hy
theorem DY.at (_:DY w aN aA cN cA M d N A) {i:Nat} {x:Sy} (hx:N[i]?=some x):A7 (N.map Sy.row) i=x.row:=by
 have h1:(N.map Sy.row)[i]?=some x.row:=by rw [Am,hx]; rfl
 have h2:=Ah.1 h1
 rw [BB h2.1]; exact h2.2
theorem DY.get (hn:DY w aN aA cN cA M d N A) {i:Nat} (hi:i < M):∃ x,N[i]?=some x∧x ∈ N:=⟨_,Aa (by rw [hn.hM]; exact hi),AK _⟩
theorem DY.inv (hn:DY w aN aA cN cA M d N A):∃ C D C' D',H6 (A.map Sy.row) d C D C' D':=by
 by_cases hd1:1≤d
 ·obtain ⟨C,D,h1⟩:=RT hn.d3 hd1 hn.lA hn.lRA hn.bA hn.det
  obtain ⟨C',D',h2⟩:=RT hn.d3 hd1 (Jl d _) (fun q hq=>by
   obtain ⟨k,-,rfl⟩:=AU.1 hq
   rw [Ma]; exact hn.lA) (Va hn.bA) (by rw [WL hn.d3 hn.lA hn.lRA]; exact hn.det)
  exact ⟨C,D,C',D',fun _=>⟨h1,h2⟩⟩
 ·exact ⟨[],0,[],0,fun h=>absurd h hd1⟩
theorem DY.dif (hn:DY w aN aA cN cA M d N A) {r:List Int} (hrf:∀ x,x ∈ r→Bk x=true) {x:Sy} (hx:x ∈ N):∀ y,y ∈ List.zipWith (fun a b:Int=>a - b) r x.row→y.natAbs≤2000000000:=fun y hy=>by
 obtain ⟨u,v,hu,hv,rfl⟩:=FH hy
 have h1:=Au (hrf u hu)
 have h2:=(hn.rN x hx).2.2 v hv
 omega
variable {C C':List (List Int)} {D D':Int}
theorem Qx (hn:DY w aN aA cN cA M d N A) {r:List Int} {i:Nat} {x:Sy} (hx:N[i]?=some x):J5 C D (N.map Sy.row) d r i=CX (B9 C D) (List.zipWith (· - ·) r x.row) d:=by unfold J5; rw [hn.at hx]
theorem K2 {RN:List (List Int)} {r:List Int} {i:Nat} {cs:List Int} (h:J5 C D RN d r i=some cs):cs.length=d:=by
 unfold J5 CX at h
 split at h
 ·injection h with h; rw [← h]; exact GP _ _ _
 ·cases h
theorem Sr (hn:DY w aN aA cN cA M d N A) (hI:H6 (A.map Sy.row) d C D C' D') {r:List Int} (hrf:∀ x,x ∈ r→Bk x=true) {i:Nat} {cs:List Int} (hi:i < M) (h:J5 C D (N.map Sy.row) d r i=some cs):∀ x,x ∈ cs→x.natAbs < 1000000000000:=by
 by_cases hd1:1≤d
 ·obtain ⟨x,hx,hxm⟩:=hn.get hi
  rw [Qx hn hx] at h
  exact (hI.ok hd1).small hn.d3 (hn.dif hrf hxm) h
 ·have:=K2 h
  rw [Aq (show cs.length=0 by omega)]
  exact fun x hx=>by cases hx
theorem V0 {f:Nat→Option (List Int)} {i:Nat} {cs:List Int} (h:J8 f M=some (i,cs)):i < M∧f i=some cs:=by
 unfold J8 at h
 obtain ⟨j,hj,h2⟩:=List.exists_of_findSome?_eq_some h
 cases hfj:f j with
 | none=>rw [hfj] at h2; cases h2
 | some cs'=>
   rw [hfj] at h2
   injection h2 with h2; injection h2 with h3 h4; subst h3; subst h4
   exact ⟨AL.1 hj,hfj⟩
theorem R4 (hn:DY w aN aA cN cA M d N A) (hI:H6 (A.map Sy.row) d C D C' D') {z:List Int} (hzl:z.length=d) (hz:∀ y,y ∈ z→y.natAbs≤2000000000) (W:World) (a:Option Addr) (c:Nat) (hG:G W) (hW:DA W aN aA cA N A) (he:El W sv a z) :
 Calls Tryz.prog 34 #[.agg #[.slice aN M cN,.slice aA d cA],.slice a d c] W (Mw W (CX (B9 C D) z d) d):=by
 have d3:=hn.d3
 by_cases hd0:d=0
 ·subst hd0
  exact MT aN aA M cN cA _ W hG
 ·have hd1:1≤d:=by omega
  have hok:=hI.ok hd1
  obtain ⟨-,hI2,hI'⟩:=hI hd1
  rw [← hok.same]
  have:=Oj N A d C' D' z aN aA a cN cA c W hG hW hn.hd hd1 d3 hn.lRA (Va hn.bA) hI2 hI' he hzl (fun y hy=>by have:=hz y hy; show y.natAbs < 10 ^ 10; omega)
   (fun i k hi hk=>hok.bds d3 hz hi hk) (fun i k hi hk=>by obtain ⟨h1,h2⟩:=hok.ent hi hk; exact ⟨h1.mono (by decide),h2.mono (by decide)⟩)
  rw [hn.hM] at this
  exact this
theorem XI (hn:DY w aN aA cN cA M d N A) (hI:H6 (A.map Sy.row) d C D C' D') {r:List Int} (hrl:r.length=d) (hrf:∀ x,x ∈ r→Bk x=true) (W:World) (ra:Option Addr) (rc:Nat) (hG:G W) (hW:DY W aN aA cN cA M d N A) (hr:El W iv ra r) :
 Calls Tryz.prog 11 #[.agg #[.slice aN M cN,.slice aA d cA],.slice ra d rc] W (Za W (J8 (J5 C D (N.map Sy.row) d r) M) d):=by
 have hrN:∀ x,x ∈ N→x.row.length=d:=fun x hx=>(hn.rN x hx).2.1
 have m8:=hn.m8
 have d3:=hn.d3
 refine OV N A d M (fun i=>List.zipWith (· - ·) r (A7 (N.map Sy.row) i)) _ ra aN aA rc cN cA W hG hW.hn hn.hM (by omega) d3 hrN
  (fun i x hx W' hW'=>by
   have hxm:=Ac hx
   rw [hn.at hx]
   exact KK r x.row d ra x.ra rc x.rc W' (hG.fr hW') (hr.fr hW') ((hW.hn.noms.2 x hxm).fr hW') hrl (hrN x hxm) (by omega) hrf (fun y hy=>MR ((hn.rN x hxm).2.2 y hy)))
  (fun i hi W' a c hW' he=>by
   obtain ⟨x,hx,hxm⟩:=hn.get hi
   rw [hn.at hx] at he
   rw [Qx hn hx]
   exact R4 hn hI (by rw [Ew,hrl,hrN x hxm]; exact TI _) (hn.dif hrf hxm) W' a c (hG.fr hW') (hW.hn.fr hW') he)
  (fun i cs hi h x hx=>by have:=Sr hn hI hrf hi h x hx; unfold Sm; omega)
end
end Go.Proofs.YtkjemicelmabdaaGreatDoor
