/- Contracts and laws: FAV. -/
import Derived.Test.YtiniigadkknboaaGreatDoorFAI
import Derived.Test.YtiniigadkknboaaGreatDoorFAC
import Derived.Test.YtiniigadkknboaaGreatDoorFAD
import Derived.Test.YtiniigadkknboaaGreatDoorFAR
import Derived.Test.YtiniigadkknboaaGreatDoorFAU
import Derived.Test.YtiniigadkknboaaGreatDoorFAB

set_option maxRecDepth 100000
set_option maxHeartbeats 4000000
namespace Go.Proofs.YtiniigadkknboaaGreatDoor
open Go.RowKit Go.Lib
attribute [local go_sem ↓] Go.wp_at_zero Go.wp_at_succ
theorem OC (w:World) (xs:List Int):J2 w 206 #[] iv (fun x=>x != 0) xs:=fun x W _ _=>by
 show Calls Tryz.prog 206 #[.int .i64 x] W fun e W'=>e=.returned (.bool (x != 0))∧Fr W W'
 go_enter Tryz.func206,Tryz.ntmps206
 go_wp2_with fail
 go_ret
 exact ⟨rfl,Fr.refl _⟩
def EE (xs:List Int):Int:=Pb (fun x=>x != 0) xs
theorem Xn {xs:List Int} (h:0≤EE xs):∃ p:Nat,EE xs=p∧p < xs.length:=by
 unfold EE at h ⊢
 rcases G6 (fun x:Int=>x != 0) xs with ⟨h1,-⟩ | ⟨k,x,h1,h2,-⟩
 ·rw [h1] at h; omega
 ·exact ⟨k,h1,(Ag.1 h2).1⟩
theorem RA (xs:List Int) (a:Option Addr) (cap:Nat) (w:World) (hx:El w iv a xs) (hl:xs.length≤1000000000) :
 Calls Tryz.prog 180 #[.slice a xs.length cap] w fun e w'=>e=.returned (.int .i64 (EE xs))∧Fr w w':=by
 have eg:∀ args w,(callFunc 206 args).run Tryz.prog w=.ok (.enter 206 args) w:=D2 Tryz.func206 (by kernel_rfl) rfl
 have hc:=IX xs a cap 206 #[] (fun x=>x != 0) w eg hx hl (OC w xs)
 replace eg:=hZ eg
 go_enter Tryz.func180,Tryz.ntmps180
 go_wp2_with fail
 refine hc.mono ?_
 rintro e w' ⟨rfl,hf⟩
 go_wp2_with fail
 go_ret
 exact ⟨rfl,hf⟩
structure Rw where
 a:Option Addr
 row:List Int
 c:Nat
abbrev Rw.enc (x:Rw):Value:=.slice x.a x.row.length x.c
theorem Sv:∀ (m:List (List Int)) (P:Nat→Option Addr→Nat→List Int→Prop),(∀ (i:Nat) (xs:List Int),m[i]?=some xs→∃ a' c',P i a' c' xs)→∃ L:List Rw,L.map Rw.row=m∧∀ (i:Nat) (x:Rw),L[i]?=some x→P i x.a x.c x.row
 | [],P,_=>⟨[],rfl,fun i x h=>by simp at h⟩
 | r :: m,P,h=>by
   obtain ⟨a0,c0,h0⟩:=h 0 r rfl
   obtain ⟨L,h1,h2⟩:=Sv m (fun i=>P (i+1)) (fun i xs hx=>h (i+1) xs hx)
   refine ⟨⟨a0,r,c0⟩ :: L,by rw [Z3,h1],fun i x hx=>?_⟩
   match i,hx with
   | 0,hx=>simp at hx; subst hx; exact h0
   | i+1,hx=>exact h2 i x (by simpa using hx)
theorem YB {w:World} {a:Option Addr} {m:List (List Int)} (h:A2 w a m):∃ L:List Rw,L.map Rw.row=m∧El w Rw.enc a L∧∀ x,x ∈ L→El w iv x.a x.row:=by
 rcases h with rfl | ⟨b,o,ha,hb,hc⟩
 ·exact ⟨[],rfl,.inl rfl,fun x hx=>by cases hx⟩
 ·obtain ⟨L,h1,h2⟩:=Sv m (fun i a' c' xs=>w.cell? ⟨b,o+i,none⟩=some (.slice a' xs.length c')∧El w iv a' xs) hc
  refine ⟨L,h1,.inr ⟨b,o,ha,hb,fun i x hx=>(h2 i x hx).1⟩,fun x hx=>?_⟩
  obtain ⟨i,hi⟩:=Bz hx
  exact (h2 i x hi).2
theorem El.takeG {α:Type} {w:World} {enc:α→Value} {a:Option Addr} {xs:List α} (h:El w enc a xs) (k:Nat):El w enc a (xs.take k):=by
 rcases h with rfl | ⟨b,o,ha,hb,hc⟩
 ·exact .inl Q0
 ·refine .inr ⟨b,o,ha,hb,fun i x hx=>hc i x ?_⟩
  rw [Bf] at hx
  split at hx
  ·exact hx
  ·cases hx
theorem Nd (xs:List Rw) (a:Option Addr) (cap:Nat) (g:Nat) (lb:Array Value) (p:Rw→Bool) (w:World)
 (eg:∀ args w,(callFunc g args).run Tryz.prog w=.ok (.enter g args) w) (hx:El w Rw.enc a xs) (hl:xs.length≤1000000000) (hp:J2 w g lb Rw.enc p xs) :
 Calls Tryz.prog 207 #[.slice a xs.length cap,.func (.func g) #[] lb] w fun e w'=>e=.returned (.int .i64 (Pb p xs))∧Fr w w':=by
 go_enter Tryz.func207,Tryz.ntmps207
 go_wp2
 go_loopw [5,8] (fun _ s8 wr=>∃ k:Nat,s8=.int .i64 k∧k≤xs.length∧Fr w wr∧Hid (∀ j x,j < k→xs[j]?=some x→p x=false)) (fun _ s8 _=>xs.length - (RowKit.intOf s8).toNat)
 case atStart=>exact ⟨0,rfl,Cp _,Fr.refl _,fun j x h=>absurd h (A3 _)⟩
 case round=>
  obtain ⟨k,rfl,hk,hf,hb⟩:=hrel
  by_cases hlt:k < xs.length
  ·obtain ⟨b,o,x,rfl,hbl,hxk,hcell⟩:=(hx.fr hf).at hlt
   have hpx:=hp x wr (Af hxk) hf
   have hxk:=hZ hxk
   go_wp2_with fail
   refine hpx.mono ?_
   rintro e w1 ⟨rfl,hf1⟩
   go_wp2_with fail
   ·have hpt:p x=true:=by assumption
    go_ret
    exact ⟨CC (IA hb.out hxk.out hpt).symm,hf.trans hf1⟩
   ·have hpf:p x=false:=by assumption
    go_roundw
    case rel=>exact ⟨k+1,by go_num,by omega,hf.trans hf1,JN hb.out hxk.out hpf⟩
    case measure=>simp [RowKit.intOf]; omega
  ·go_wp2_with fail
   go_ret
   exact ⟨CC (JO (by rw [show xs.length=k by omega]; exact hb.out)).symm,hf⟩
theorem KI (xs:List Rw) (a:Option Addr) (cap:Nat) (g:Nat) (lb:Array Value) (p:Rw→Bool) (w:World)
 (eg:∀ args w,(callFunc g args).run Tryz.prog w=.ok (.enter g args) w) (hx:El w Rw.enc a xs) (hl:xs.length≤1000000000) (hp:J2 w g lb Rw.enc p xs) :
 Calls Tryz.prog 181 #[.slice a xs.length cap,.func (.func g) #[] lb] w fun e w'=>e=.returned (.bool (xs.any p))∧Fr w w':=by
 rw [← OB]
 have hc:=Nd xs a cap g lb p w eg hx hl hp
 clear hp
 go_enter Tryz.func181,Tryz.ntmps181
 go_wp2_with fail
 refine hc.mono ?_
 rintro e w' ⟨rfl,hf⟩
 go_wp2_with fail
 go_ret
 exact ⟨rfl,hf⟩
def KZ (p:Nat) (r x:List Int):Bool:=decide ((x[p]?).getD 0 < 0) || decide ((r[p]?).getD 0≤(x[p]?).getD 0)
theorem P5 (x:Rw) (r:List Int) (ra:Option Addr) (rc p pb rb:Nat) (w:World) (hx:El w iv x.a x.row) (hr:El w iv ra r) (hp:w.cell? ⟨pb,0,none⟩=some (.int .i64 p)) (hrb:w.cell? ⟨rb,0,none⟩=some (.slice ra r.length rc))
 (h1:p < x.row.length) (h2:p < r.length) (_hl1:x.row.length≤1000000) (_hl2:r.length≤1000000) :
 Calls Tryz.prog 182 #[x.enc,.pointer (some ⟨pb,0,none⟩),.pointer (some ⟨rb,0,none⟩)] w fun e w'=>e=.returned (.bool (KZ p r x.row))∧Fr w w':=by
 obtain ⟨b,o,y,hxa,hbl,hxi,hc1⟩:=hx.at h1
 obtain ⟨b2,o2,z,hra,hbl2,hri,hc2⟩:=hr.at h2
 have hfB:KZ p r x.row=(decide (y < 0) || decide (z≤y)):=by unfold KZ; rw [hxi,hri]; rfl
 show Calls Tryz.prog 182 #[.slice x.a x.row.length x.c,.pointer (some ⟨pb,0,none⟩),.pointer (some ⟨rb,0,none⟩)] w _
 rw [hfB,hxa]
 rw [hra] at hrb
 replace hxi:=hZ hxi
 replace hri:=hZ hri
 generalize x.row.length=n at *
 generalize r.length=m at *
 generalize x.c=xc at *
 clear hfB hxa hra hx hr
 have z0:(0:Int)≤(p:Int):=Ak _
 have z1:(p:Int) < (n:Int):=by omega
 have z2:(p:Int) < (m:Int):=by omega
 by_cases hy:y < 0
 ·have d1:decide (y < 0)=true:=Ab hy
  rw [d1,Bool.true_or]
  go_enter Tryz.func182,Tryz.ntmps182
  go_wp2_with fail
  go_quiet (fail)
  go_wp2_with fail
  go_ret
  exact ⟨rfl,Fr.refl _ |>.drewN _⟩
 ·have d1:decide (y < 0)=false:=Aa hy
  rw [d1,KK]
  have d2:decide (y ≥ z)=decide (z≤y):=rfl
  go_enter Tryz.func182,Tryz.ntmps182
  go_wp2_with fail
  go_quiet (fail)
  go_wp2_with fail
  go_ret
  exact ⟨rfl,Fr.refl _ |>.drewN _⟩
def Ex (m:List (List Int)):Bool :=
 (List.range m.length).all fun i=>decide (0≤EE (BB m i)) && decide (0≤((BB m i)[(EE (BB m i)).toNat]?).getD 0) && decide ((if i=0 then -1 else EE (BB m (i - 1))) < EE (BB m i)) && (m.take i).all fun x=>!KZ (EE (BB m i)).toNat (BB m i) x
theorem T6 {m:List (List Int)} (h:Ex m=true) {i:Nat} (hi:i < m.length):∃ p:Nat,EE (BB m i)=p∧p < (BB m i).length∧0≤((BB m i)[p]?).getD 0∧(if i=0 then -1 else EE (BB m (i - 1))) < (p:Int)∧∀ x,x ∈ m.take i→KZ p (BB m i) x=false:=by
 have h1:=AF.1 h i (Cn.2 hi)
 simp only [Bt,Kc] at h1
 obtain ⟨⟨⟨h1,h2⟩,h3⟩,h4⟩:=h1
 obtain ⟨p,hp,hl⟩:=Xn h1
 rw [hp] at h2 h3 h4
 rw [AR] at h2 h4
 exact ⟨p,hp,hl,h2,h3,fun x hx=>by simpa using AF.1 h4 x hx⟩
theorem TX (m:List (List Int)) (a:Option Addr) (cap n:Nat) (w:World) (hm:A2 w a m) (hr:Bq n m) (hn:n≤1000000) (hl:m.length≤1000000) (hcap:m.length≤cap) (hok:Ex m=true) :
 Calls Tryz.prog 151 #[.slice a m.length cap] w fun e w'=>e=.returned (.bool true)∧Fr w w':=by
 obtain ⟨L,hL1,hL2,hL3⟩:=YB hm
 have hlen:L.length=m.length:=by rw [← hL1,AE]
 have eg:∀ args w,(callFunc 182 args).run Tryz.prog w=.ok (.enter 182 args) w:=D2 Tryz.func182 (by kernel_rfl) rfl
 obtain ⟨N,hN⟩:∃ N,N=m.length:=⟨_,rfl⟩
 rw [← hN] at hlen hl hcap ⊢
 have hrow:∀ (i:Nat) (x:Rw),L[i]?=some x→BB m i=x.row∧x.row.length=n:=fun i x hx=>by
  have h1:m[i]?=some x.row:=by rw [← hL1,Au,hx]; rfl
  have h2:=Ag.1 h1
  exact ⟨by rw [CK h2.1]; exact h2.2,hr _ (Af h1)⟩
 have hat:=fun i (hi:i < N)=>T6 hok (i:=i) (by rw [← hN]; exact hi)
 have htk:∀ i,(m.take i)=(L.take i).map Rw.row:=fun i=>by rw [← hL1,Z2]
 replace hN:=hZ hN
 replace hlen:=hZ hlen
 replace hrow:=hZ hrow
 replace hat:=hZ hat
 replace htk:=hZ htk
 replace hL1:=hZ hL1
 replace hL2:=hZ hL2
 replace hL3:=hZ hL3
 replace eg:=hZ eg
 clear hm hr hok
 go_enter Tryz.func151,Tryz.ntmps151
 go_wp2_with fail
 go_loopg [3,9] N (fun k s3 s9 wr=>∃ (i:Nat) (q:Int),s9=.int .i64 i∧s3=.int .i64 q∧i+k=N∧Hid (q=if i=0 then -1 else EE (BB m (i - 1)))∧Fr w wr)
 case atStart=>exact ⟨0,-1,rfl,rfl,by omega,rfl,Fr.refl _⟩
 case round=>
  obtain ⟨i,q,rfl,rfl,hik,hq,hf⟩:=hrel
  by_cases hi:i < N
  ·have hdI:decide (i < N)=true:=Ab hi
   obtain ⟨b,o,x,hae,hbl,hxi,hcell⟩:=(hL2.out.fr hf).at (i:=i) (by rw [hlen.out]; exact hi)
   obtain ⟨p,hp,hpl,hp0,hpq,hpb⟩:=hat.out i hi
   obtain ⟨hr1,hr2⟩:=hrow.out i x hxi
   have hel:=(hL3.out x (Af hxi)).fr hf
   rw [hr1] at hp hpl hp0 hpb
   rw [← hq.out] at hpq
   have hpv:=hZ (fun W (hW:Fr wr W)=>RA x.row x.a x.c W (hel.fr hW) (by rw [hr2]; omega))
   rw [hp] at hpv
   obtain ⟨b3,o3,z,hxa,hbl3,hz,hcz⟩:=hel.at hpl
   rw [hz] at hp0
   replace hp0:0≤z:=hp0
   have hany:(L.take i).any (fun y=>KZ p x.row y.row)=false:=by
    rw [Cu]
    intro y hy
    rw [hpb y.row (by rw [htk.out]; exact List.mem_map_of_mem hy)]
    simp
   have hcf:=fun (W:World) (hW:Fr wr W) (pb rb:Nat) (h1:W.cell? ⟨pb,0,none⟩=some (.int .i64 p)) (h2:W.cell? ⟨rb,0,none⟩=some (.slice x.a x.row.length x.c))=>
    KI (L.take i) a cap 182 #[.pointer (some ⟨pb,0,none⟩),.pointer (some ⟨rb,0,none⟩)] (fun y=>KZ p x.row y.row) W eg.out (((hL2.out.fr hf).fr hW).takeG i) (by rw [Av]; omega)
     (fun y W' hy hW'=>P5 y x.row x.a x.c p pb rb W' (((hL3.out y (BW hy)).fr (hf.trans hW)).fr hW') ((hel.fr hW).fr hW') (hW'.keep h1) (hW'.keep h2) (by
      obtain ⟨j,hj⟩:=Bz (BW hy)
      rw [(hrow.out j y hj).2,← hr2]; exact hpl) hpl (by
      obtain ⟨j,hj⟩:=Bz (BW hy)
      rw [(hrow.out j y hj).2]; exact hn) (by rw [hr2]; exact hn))
   rw [Av,DA (by rw [hlen.out]; omega),hany] at hcf
   replace hcf:=hZ hcf
   have hq9:Hid ((p:Int)=if i+1=0 then -1 else EE (BB m (i+1 - 1))):=by show _=_; rw [Ae (by omega),Nat.add_sub_cancel,hr1]; exact hp.symm
   replace hxi:=hZ hxi
   replace hcell:wr.cell? ⟨b,o+i,none⟩=some (.slice x.a x.row.length x.c):=hcell
   rw [hr2] at hpv hcf hcell hpl
   rw [hxa] at hpv hcf hcell
   subst hae
   replace hr1:=hZ hr1
   replace hr2:=hZ hr2
   replace hz:=hZ hz
   replace hp:=hZ hp
   replace hxa:=hZ hxa
   replace hpb:=hZ hpb
   replace hpv:=hZ hpv
   replace hel:=hZ hel
   generalize x.c=rc at *
   clear hany
   have z0:(0:Int)≤(i:Int):=Ak _
   have z1:(i:Int) < (N:Int):=by omega
   have z2:(0:Int)≤(p:Int):=Ak _
   have z3:(p:Int) < (n:Int):=by omega
   have d1:decide ((p:Int)≤q)=false:=Aa (by omega)
   have d2:decide (z < 0)=false:=Aa (by omega)
   obtain ⟨W1,hW1⟩:∃ W1,W1=wr.alloc (.cells #[.slice (some ⟨b3,o3,none⟩) n rc] 33):=⟨_,rfl⟩
   have f1:Fr wr W1:=by rw [hW1]; exact (Fr.refl _).alloc _
   have c1:W1.cell? ⟨wr.heap.size,0,none⟩=some (.slice (some ⟨b3,o3,none⟩) n rc):=by rw [hW1]; exact DC _ _ _
   go_upto_region 5 with (fail)
   rw [← hW1]
   clear hW1
   obtain ⟨rb,hrb⟩:∃ rb,rb=wr.heap.size:=⟨_,rfl⟩
   rw [← hrb] at c1 ⊢
   replace hrb:=hZ hrb
   go_wp2_with fail
   refine (hpv.out.out _ f1).mono ?_
   rintro e w2 ⟨rfl,hf2⟩
   obtain ⟨W3,hW3⟩:∃ W3,W3=w2.alloc (.cells #[.int .i64 p] 3):=⟨_,rfl⟩
   have f3:Fr wr W3:=by rw [hW3]; exact (f1.trans hf2).alloc _
   have c2:W3.cell? ⟨rb,0,none⟩=some (.slice (some ⟨b3,o3,none⟩) n rc):=by rw [hW3]; exact (hf2.alloc _).keep c1
   have c3:W3.cell? ⟨w2.heap.size,0,none⟩=some (.int .i64 p):=by rw [hW3]; exact DC _ _ _
   replace hcz:=f3.keep hcz
   go_upto_region 6 with (fail)
   rw [← hW3]
   clear hW3
   obtain ⟨pb,hpb2⟩:∃ pb,pb=w2.heap.size:=⟨_,rfl⟩
   rw [← hpb2] at c3 ⊢
   replace hpb2:=hZ hpb2
   go_wp2_with fail
   refine (hcf.out _ f3 pb rb c3 c2).mono ?_
   rintro e w4 ⟨rfl,hf4⟩
   replace c3:=hf4.keep c3
   go_wp2_with fail
   go_roundg (gk - 1)
   case measure=>omega
   case rel=>exact ⟨i+1,p,by go_num,rfl,by omega,hq9,(hf.trans f3).trans hf4⟩
  ·have hdI:decide (i < N)=false:=Aa hi
   go_wp2_with fail
   go_ret
   exact ⟨rfl,hf⟩
theorem KG (m:List (List Int)) (a:Option Addr) (cap n:Nat) (w:World) (hm:A2 w a m) (hT:DR n m) (hcap:m.length≤cap) (hok:Ex m=true) :
 Calls Tryz.prog 100 #[.slice a m.length cap] w fun e w'=>e=.returned (.tuple #[.bool true,.int .i64 0])∧Fr w w':=by
 have h1:=hZ (Pq m a cap n w hm hT)
 have h2:=hZ (fun W (hW:Fr w W)=>TX m a cap n W (hm.fr hW) hT.2.2.1 (by have:=hT.2.1; omega) (by have:=hT.1; omega) hcap hok)
 clear hm hT hok
 generalize m.length=N at *
 go_enter Tryz.func100,Tryz.ntmps100
 go_wp2_with fail
 refine h1.out.mono ?_
 rintro e w1 ⟨rfl,hf1⟩
 go_wp2_with fail
 refine (h2.out _ hf1).mono ?_
 rintro e w2 ⟨rfl,hf2⟩
 go_wp2_with fail
 go_ret2
 exact ⟨rfl,hf1.trans hf2⟩
def Mh (n:Nat) (xs:List Int):Int:=if Ck xs≠0 then Ck xs else if xs.length≠n then 5 else 0
theorem T0 (m:List (List Int)) (xs:List Int) (a b:Option Addr) (ca cb n:Nat) (w:World) (hm:A2 w a m) (hT:DR n m) (hcap:m.length≤ca) (hok:Ex m=true) (hm1:0 < m.length) (hx:El w iv b xs) (hl:xs.length≤1000000000) :
 Calls Tryz.prog 105 #[.slice a m.length ca,.slice b xs.length cb] w fun e w'=>e=.returned (.int .i64 (Mh n xs))∧Fr w w':=by
 have h1:=hZ (KG m a ca n w hm hT hcap hok)
 have h2:=hZ (fun W (hW:Fr w W)=>DT xs b cb W (hx.fr hW) hl)
 have hat:=fun W (hW:Fr w W)=>(hm.fr hW).at hm1
 have hr0:=hT.2.2.1.row hm1
 obtain ⟨E,hE⟩:∃ E,E=Mh n xs:=⟨_,rfl⟩
 rw [← hE]
 have e1:Ck xs≠0→E=Ck xs:=fun h=>by rw [hE]; unfold Mh; rw [Ai h]
 have e2:Ck xs=0→xs.length≠n→E=5:=fun h h2=>by rw [hE]; unfold Mh; rw [Ae (by rw [h]; simp),Ai h2]
 have e3:Ck xs=0→xs.length=n→E=0:=fun h h2=>by rw [hE]; unfold Mh; rw [Ae (by rw [h]; simp),Ae (by rw [h2]; simp)]
 clear hm hT hok hx hE
 generalize Ck xs=re at *
 generalize xs.length=k at *
 replace e1:=hZ e1
 replace e2:=hZ e2
 replace e3:=hZ e3
 go_enter Tryz.func105,Tryz.ntmps105
 go_wp2_with fail
 refine h1.out.mono ?_
 rintro e w1 ⟨rfl,hf1⟩
 go_wp2_with fail
 refine (h2.out _ hf1).mono ?_
 rintro e w2 ⟨rfl,hf2⟩
 by_cases hre:re=0
 ·have d1:(re != 0)=false:=by rw [hre]; rfl
  obtain ⟨b0,o0,a0,c0,hae,hc,-⟩:=hat _ (hf1.trans hf2)
  rw [hr0,Eb] at hc
  subst hae
  have z1:(0:Int) < (m.length:Int):=by omega
  have d3:decide ((m.length:Int) > 0)=true:=Ab z1
  clear hat hr0
  generalize m.length=N at *
  by_cases hk:k=n
  ·have d2:((k:Int) != (n:Int))=false:=by rw [hk]; simp
   have hfin:=hZ (e3.out hre hk)
   replace hre:=hZ hre
   replace hk:=hZ hk
   go_wp2_with fail
   go_ret
   exact ⟨CC hfin.out.symm,hf1.trans hf2⟩
  ·have d2:((k:Int) != (n:Int))=true:=by rw [Bb]; omega
   have hfin:=hZ (e2.out hre hk)
   replace hre:=hZ hre
   replace hk:=hZ hk
   go_wp2_with fail
   go_ret
   exact ⟨CC hfin.out.symm,hf1.trans hf2⟩
 ·have d1:(re != 0)=true:=by rw [Bb]; exact hre
  have hfin:=hZ (e1.out hre)
  replace hre:=hZ hre
  clear hat
  go_wp2_with fail
  go_ret
  exact ⟨CC hfin.out.symm,hf1.trans hf2⟩
theorem PI {w:World} {base:Nat} {e:TypeId} {size:Nat} {a:Option Addr} {n c m:Nat} {xs:List Value} (h:w.ownsRow base e size (.slice a n c) m xs):n≤c:=by
 rcases h.2 with ⟨hv,-⟩ | ⟨g,cap,cur,hv,h2⟩
 ·injection hv with _ h1 h2; omega
 ·injection hv with h1 h3 h4
  subst h1; subst h4
  exact (Bu h).2.2.2.1
def XS (w:World) (n:Nat) (g:List (List Int)) (e:Ending) (w':World):Prop:=∃ a c,e=.returned (.tuple #[.agg #[.int .i64 n,.slice a g.length c],.int .i64 0])∧g.length≤c∧(∀ W,Fx (· < w.heap.size) w' W→A2 W a g)∧Fr w w'
theorem Bx.takeC {w:World} {ob oo:Nat} {hs:List (Nat×Nat×Nat)} {g:List (List Int)} (h:Bx w ob oo hs g) (t:Nat):Bx w ob oo (hs.take t) (g.take t):=by
 have key:∀ {α:Type} {l:List α} {i:Nat} {x:α},(l.take t)[i]?=some x→l[i]?=some x:=fun {α l i x} hx=>by
  rw [Bf] at hx
  split at hx
  ·exact hx
  ·cases hx
 exact ⟨by rw [Av,Av,h.len],h.outer,h.gob,fun i hd xs h1 h2=>h.cell i hd xs (key h1) (key h2),fun i hd xs h1 h2=>h.row i hd xs (key h1) (key h2),fun i j hi hj h1 h2=>h.apart i j hi hj (key h1) (key h2)⟩
def Bp (g:List (List Int)):Bool:=g.all fun r=>r.all Bk
theorem KD {g:List (List Int)} (h:∀ r,r ∈ g→∀ x,x ∈ r→Bk x=true):Bp g=true:=AF.2 fun r hr=>AF.2 (h r hr)
def FW (w:World) (n:Nat) (g:List (List Int)) (e:Ending) (w':World):Prop:=(Bp g=true→XS w n g e w')∧(Bp g=false→e=.returned (.tuple #[.agg #[.int .i64 0,.slice none 0 0],.int .i64 4])∧Fr w w')
theorem Ss (ob oc tF n:Nat) (hs:List (Nat×Nat×Nat)) (g:List (List Int)) (w:World) (hG:G w) (hg:Bx w ob 0 hs g) (hl:g.length≤1000000) (ht:tF≤g.length) (hr:∀ r,r ∈ g→r.length≤1000000) (hb:∀ r,r ∈ g→∀ x,x ∈ r→(tx x).size≤1000000000) (hE:Jd w) :
 Calls Tryz.prog 91 #[.slice (some ⟨ob,0,none⟩) tF oc,.int .i64 n] w (FW w n (g.take tF)):=by
 have hgn:=Fe hG
 obtain ⟨i1,ji,jz0,jz1,jz2⟩:=A5 LC
 replace hg:=hZ hg
 replace hr:=hZ hr
 replace hb:=hZ hb
 replace hG:=hZ hG
 go_enter Tryz.func91,Tryz.ntmps91
 go_wp2_with fail
 have htwo:Qx ((w.alloc (.cells #[.int .i64 0,.slice none 0 0] 76)).alloc (.cells #[.int .i64 n,.slice none 0 0] 76)) w.heap.size n (.slice none 0 0):=by
  have hfr:Fr (w.alloc (.cells #[.int .i64 0,.slice none 0 0] 76)) ((w.alloc (.cells #[.int .i64 0,.slice none 0 0] 76)).alloc (.cells #[.int .i64 n,.slice none 0 0] 76)):=(Fr.refl _).alloc _
  have p1:=Ct w (.int .i64 0) (.slice none 0 0) 76
  have p2:=Ce w (.int .i64 0) (.slice none 0 0) 76
  have p3:=Ct (w.alloc (.cells #[.int .i64 0,.slice none 0 0] 76)) (.int .i64 n) (.slice none 0 0) 76
  have p4:=Ce (w.alloc (.cells #[.int .i64 0,.slice none 0 0] 76)) (.int .i64 n) (.slice none 0 0) 76
  rw [AC] at p3 p4
  exact ⟨⟨_,hfr.keep p1.1⟩,⟨_,hfr.keep p2.1⟩,hfr.keepf p1.1 p1.2,hfr.keepf p2.1 p2.2,p3.1,p4.1,p3.2,p4.2⟩
 have hfr0:Fr w ((w.alloc (.cells #[.int .i64 0,.slice none 0 0] 76)).alloc (.cells #[.int .i64 n,.slice none 0 0] 76)):=((Fr.refl _).alloc _).alloc _
 go_loopg [15] tF (fun k s15 wr=>∃ (j:Nat) (hO:List (Nat×Nat×Nat)) (v:Value),s15=.int .i64 j∧j+k=tF∧Fr w wr∧Hid (w.heap.size+2≤wr.heap.size)∧Qx wr w.heap.size n v∧GI wr (w.heap.size+2) 33 v hO (g.take j)∧Hid (∀ h,h ∈ hO→w.heap.size+2≤h.1)∧Hid (Bp (g.take j)=true))
 case atStart=>exact ⟨0,[],_,rfl,by omega,hfr0,by show _≤_; simp,htwo,GI.nil _ _ _ (by omega),fun h hm=>by simp at hm,rfl⟩
 case round=>
  clear htwo hfr0
  obtain ⟨j,hO,v,rfl,hjk,hf,hsz,htw,hgi,hnew,hfitj⟩:=hrel
  obtain ⟨⟨x0,a0⟩,⟨x1,a1⟩,fa0,fa1,b0,b1,fb0,fb1⟩:=htw
  have htw:=hZ (show Qx wr w.heap.size n v from ⟨⟨x0,a0⟩,⟨x1,a1⟩,fa0,fa1,b0,b1,fb0,fb1⟩)
  by_cases hlt:j < tF
  ·have hjl:j < g.length:=by omega
   obtain ⟨rb,ro,rc,e1,ca1,cf1,ro1,bo1⟩:=(hg.out.fr hf).at hjl
   rw [AU] at ca1
   have hsn:=BH (Ac hjl)
   have hrj:=hr.out _ (AJ hjl)
   have hsh:=MG g[j] rb ro rc wr ro1.el hrj (hb.out _ (AJ hjl)) (hE.fr hf)
   have hrm:g[j] ∈ g.take tF:=BF.2 ⟨j,by rw [Bf,Ai hlt]; exact Ac hjl⟩
   have hgl:(g.take j).length=j:=by rw [Av]; omega
   generalize g[j]=row at *
   obtain ⟨m,hm⟩:∃ m,m=row.length:=⟨_,rfl⟩
   rw [← hm] at ca1 hsh
   replace hm:=hZ hm
   replace hsn:=hZ hsn
   replace hgl:=hZ hgl
   replace hgi:=hZ hgi
   replace ro1:=hZ ro1
   replace e1:=hZ e1
   cases hbr:row.all Bk with
   | false=>
     have hbad:Hid (Bp (g.take tF)=false):=hZ (Kd.2 ⟨row,hrm,by rw [hbr]; simp⟩)
     clear hrm b0 b1 fb0 fb1
     replace a0:=hZ a0
     replace a1:=hZ a1
     replace fa0:=hZ fa0
     replace fa1:=hZ fa1
     go_wp2_with fail
     refine hsh.mono ?_
     clear hsh
     rintro e w2 hrr
     obtain ⟨rfl,hf2⟩:=hrr.2 hbr
     clear hrr
     have fa0:=hf2.keepf a0.out fa0.out
     have fa1:=hf2.keepf a1.out fa1.out
     have a0:=hf2.keep a0.out
     have a1:=hf2.keep a1.out
     go_wp2_with fail
     have q0:(w2.setCell ⟨w.heap.size,0,none⟩ (.int .i64 0)).cell? ⟨w.heap.size,0,none⟩=some (.int .i64 0):=Al _ _ _ (by rw [a0]; rfl)
     have e1:(⟨w.heap.size,0,none⟩:Addr)≠⟨w.heap.size,1,none⟩:=fun e=>by injection e with _ e; omega
     have q1:((w2.setCell ⟨w.heap.size,0,none⟩ (.int .i64 0)).setCell ⟨w.heap.size,1,none⟩ (.slice none 0 0)).cell? ⟨w.heap.size,1,none⟩=some (.slice none 0 0):=Al _ _ _ (by rw [Ad _ _ _ _ e1,a1]; rfl)
     refine AK (v:=.tuple #[.agg #[.int .i64 0,.slice none 0 0],.int .i64 4]) (by simp [results,Tryz.results91,go_sem,q0,q1]) rfl ?_
     exact ⟨fun h=>(by rw [hbad.out] at h; cases h),fun _=>⟨rfl,((hf.trans hf2).setCell (p:=⟨w.heap.size,0,none⟩) (by simp) _).setCell (p:=⟨w.heap.size,1,none⟩) (by simp) _⟩⟩
   | true=>
     clear hrm
     clear a0 a1 fa0 fa1 b0 b1 fb0 fb1
     go_wp2_with fail
     refine hsh.mono ?_
     clear hsh
     rintro e w2 hrr
     obtain ⟨gg,c,rfl,hf2,hown2⟩:=hrr.1 hbr
     clear hrr
     obtain ⟨hO2,-,-,hgb,hcp⟩:=Dr (Ar hgn hf.size) hown2
     have hgi2:=hgi.out.fr hf2
     have hne:v.ownBlock≠some gg:=fun e=>by have h9:=(hgi.out.own.lt gg e).2; omega
     have hne2:∀ h',h' ∈ hO→h'.1≠gg:=fun h' hm e2=>by have h9:=hgi.out.lt h' hm; omega
     have hown3:=hgi2.own
     rw [hgl.out] at hown3
     rw [← hm.out]
     have hvb:∀ b,v.ownBlock=some b→w.heap.size+2≤b:=fun b e=>(hgi2.own.lt b e).1
     have htw2:=htw.out.fx (p:=fun _=>False) (Fx.of_fr hf2) (fun e=>e) (fun e=>e)
     obtain ⟨⟨y0,a0⟩,⟨y1,a1⟩,fa0,fa1,b0,b1,fb0,fb1⟩:=htw2
     have htw2:=hZ (show Qx w2 w.heap.size n v from ⟨⟨y0,a0⟩,⟨y1,a1⟩,fa0,fa1,b0,b1,fb0,fb1⟩)
     clear a0 a1 fa0 fa1 b0
     replace hgi2:=hZ hgi2
     replace hown2:=hZ hown2
     replace hvb:=hZ hvb
     have hszz:=hsz.out
     have htwA:∀ wA:World,(w2.alloc (.cells #[.slice (some ⟨gg,0,none⟩) m c] 33)).grownBy wA v.ownBlock→Qx wA w.heap.size n v:=fun wA hgw=>
      (htw2.out.fx (p:=fun _=>False) (Fx.of_fr ((Fr.refl w2).alloc _)) (fun e=>e) (fun e=>e)).fx (Fx.of_grown hgw) (fun e=>by have:=hvb.out _ e; omega) (fun e=>by have:=hvb.out _ e; omega)
     replace htwA:=hZ htwA
     go_wp2_with (at_builtin; refine wpList_append_lies _ rfl _ _ 27 (by rfl) _ 33 _ _ 1 24 Tryz.underlying27 ji jz0 jz1 jz2 rfl (by decide) _ j _ (by rfl) (AA hown3 _) ⟨w2.heap.size,0,none⟩ 1 1 [.slice (some ⟨gg,0,none⟩) m c] (by rfl) rfl (AN _ _ _ _ (by simp)) (by simp [Value.oneCell']) (by decide) (by unfold maxLen; omega) (by omega) (by have:=(hf.trans hf2).size; have:=hf2.size; simp; omega) (w2.heap.size+1) (by simp) ?_; intro gA capA wA hownA hgrowA hatA hltA; have htw3:=htwA.out wA hgrowA; have hbb:=htw3.b1; have hfb:=htw3.fb1; replace htw3:=hZ htw3)
     have hpush:=(hgi2.out.fr ((Fr.refl w2).alloc _)).pushN (hd:=(gg,0,c)) (hO2.fr ((Fr.refl w2).alloc _)) hne2 hne hgl.out (by unfold HT; rw [← hm.out]) hownA hgrowA (hatA.imp id (fun e=>by rw [e]; simp))
     rw [← hsn.out] at hpush
     have hfrA:Fr w wA:=(((hf.trans hf2).alloc _)).grown hgrowA (fun k e=>by have:=hvb.out k e; omega)
     have hfx9:Fx (·=w.heap.size+1) wA (wA.setCell ⟨w.heap.size+1,1,none⟩ (.slice (some ⟨gA,0,none⟩) (j+1) capA)):=Fx.setCell (p:=(·=w.heap.size+1)) (q:=⟨w.heap.size+1,1,none⟩) (Fx.refl _ wA) (.inl rfl) _
     have hpush2:=hpush.fx hfx9 (fun b e e2=>by have e3:b=w.heap.size+1:=e2; have h9:=(hpush.own.lt b e).1; omega) (fun hd hm9 e2=>by rcases BK.1 hm9 with h1 | h1; (have e3:hd.1=w.heap.size+1:=e2; have:=hnew.out hd h1; omega); (simp at h1; subst h1; have e3:gg=w.heap.size+1:=e2; omega))
     have htw4:=htw3.out.set (.slice (some ⟨gA,0,none⟩) (j+1) capA)
     have hfr9:Fr w (wA.setCell ⟨w.heap.size+1,1,none⟩ (.slice (some ⟨gA,0,none⟩) (j+1) capA)):=hfrA.setCell (p:=⟨w.heap.size+1,1,none⟩) (by simp) _
     go_roundg (gk - 1)
     case measure=>omega
     case rel=>exact ⟨j+1,_,_,by go_num,by omega,hfr9,hZ (by have h7:=hf2.size; have h8:=hgrowA.size; have h9:=hszz; simp at h8; simp; omega),htw4,hpush2,fun h hm9=>by rcases BK.1 hm9 with h1 | h1; exact hnew.out h h1; (simp at h1; subst h1; exact Ar hsz.out hgb),by show Bp _=true; rw [hsn.out]; unfold Bp; rw [X1]; have h1:=hfitj.out; unfold Bp at h1; rw [h1]; simp [hbr]⟩
  ·have hd:decide (j < tF)=false:=Aa hlt
   obtain rfl:j=tF:=by omega
   obtain ⟨a9,c9,rfl,-⟩:=Dy hgi.own
   have hgl:(g.take j).length=j:=by rw [Av]; omega
   have hcp9:(g.take j).length≤c9:=PI hgi.own
   rw [hgl] at hgi b1 htw
   go_wp2_with fail
   have q0:(wr.setCell ⟨w.heap.size,0,none⟩ (.int .i64 n)).cell? ⟨w.heap.size,0,none⟩=some (.int .i64 n):=Al _ _ _ (by rw [a0]; rfl)
   have e1:(⟨w.heap.size,0,none⟩:Addr)≠⟨w.heap.size,1,none⟩:=fun e=>by injection e with _ e; omega
   have q1:((wr.setCell ⟨w.heap.size,0,none⟩ (.int .i64 n)).setCell ⟨w.heap.size,1,none⟩ (.slice a9 j c9)).cell? ⟨w.heap.size,1,none⟩=some (.slice a9 j c9):=Al _ _ _ (by rw [Ad _ _ _ _ e1,a1]; rfl)
   refine AK (v:=.tuple #[.agg #[.int .i64 n,.slice a9 j c9],.int .i64 0]) (by simp [results,Tryz.results91,go_sem,q0,q1]) rfl ?_
   refine ⟨fun _=>⟨a9,c9,by rw [hgl],hcp9, ?_,(hf.setCell (p:=⟨w.heap.size,0,none⟩) (by simp) _).setCell (p:=⟨w.heap.size,1,none⟩) (by simp) _⟩,fun h=>(by rw [hfitj.out] at h; cases h)⟩
   have hfx:Fx (·=w.heap.size) wr ((wr.setCell ⟨w.heap.size,0,none⟩ (.int .i64 n)).setCell ⟨w.heap.size,1,none⟩ (.slice a9 j c9)):=Fx.setCell (p:=(·=w.heap.size)) (q:=⟨w.heap.size,1,none⟩) (Fx.setCell (p:=(·=w.heap.size)) (q:=⟨w.heap.size,0,none⟩) (Fx.refl _ wr) (.inl rfl) _) (.inl rfl) _
   intro W hW
   exact ((hgi.fx hfx (fun b e e2=>by have e3:b=w.heap.size:=e2; have h9:=(hgi.own.lt b e).1; omega) (fun hd hm9 e2=>by have e3:hd.1=w.heap.size:=e2; have:=hnew.out hd hm9; omega)).fx hW (fun b e e2=>by have e3:b < w.heap.size:=e2; have h9:=(hgi.own.lt b e).1; omega) (fun hd hm9 e2=>by have e3:hd.1 < w.heap.size:=e2; have:=hnew.out hd hm9; omega)).mat
theorem Y8 (m gF:List (List Int)) (F tF:Nat) (a:Option Addr) (cap n:Nat) (w:World) (hG:G w) (hm:A2 w a m) (hok:DR n m) (hml:0 < m.length) (hn:1≤n) (hF:CY F n 0 m 0=some (gF,tF)) (hfF:∀ r,r ∈ gF.take tF→∀ x,x ∈ r→(tx x).size≤1000000000) (hE:Jd w) :
 Calls Tryz.prog 48 #[.int .i64 n,.slice a m.length cap] w (FW w n (gF.take tF)):=by
 have hfit:=hok.2.2.2
 have hr1:=hok.2.2.1
 have hsm:∀ r,r ∈ m→∀ y,y ∈ r→Sm y:=fun r hr y hy=>VS (hfit r hr y hy)
 have hn12:=hok.2.1
 have hm12:=hok.1
 have hrl:∀ r,r ∈ m→r.length≤1000000:=fun r hr=>by rw [hr1 r hr]; omega
 have hRE:∀ r,r ∈ m→Ck r=0:=fun r hr=>
  Lu (by rw [hr1 r hr]; omega) (by
   rw [Cu]
   intro y hy
   rw [hfit r hr y hy]; simp)
 have hchk:=fun W hW=>Ic m a cap n W (hm.fr (w':=W) hW) hr1 (by omega) hRE hn12
 have hlongs:=fun W hW=>FF m a cap W (hG.fr hW) (hm.fr hW) hrl (by omega) hsm
 have hform:=fun ob oc hs W hgW hg hoc=>Mo ob 0 oc hs m gF F n n tF W hgW hg hr1 (by omega) (by omega) (Ah n) hoc hF
 have hG1:=hZ hG
 obtain ⟨N,hN⟩:∃ N,N=m.length:=⟨_,rfl⟩
 rw [← hN] at hchk hlongs hform hml hm12 ⊢
 replace hN:=hZ hN
 replace hfF:=hZ hfF
 replace hfit:=hZ hfit
 replace hrl:=hZ hrl
 replace hchk:=hZ hchk
 replace hlongs:=hZ hlongs
 replace hform:=hZ hform
 clear hm hok hG hr1 hsm hRE
 have hgn:=Fe hG1.out
 go_enter Tryz.func48,Tryz.ntmps48
 go_wp2_with fail
 refine (hchk.out _ ((Fr.refl w).alloc _)).mono ?_
 rintro e w1 ⟨rfl,hf1⟩
 go_wp2_with fail
 refine (hlongs.out _ (((Fr.refl w).alloc _).trans hf1)).mono ?_
 rintro e w2 ⟨v,hs,rfl,hgg,hnew,hf2⟩
 obtain ⟨ob,oc,rfl⟩:=Db hgg.own (by rw [← hN.out]; exact hml)
 obtain ⟨hg,-,hgb,hgc⟩:=hgg.grid
 clear hgg
 have hG2:=hG1.out.fr ((((Fr.refl w).alloc _).trans hf1).trans hf2)
 replace hG2:=hZ hG2
 rw [← hN.out] at hgc ⊢
 have hg9:=hZ hg
 go_wp2_with fail
 refine (hform.out ob oc hs _ hG2.out hg9.out hgc).mono ?_
 rintro e w3 ⟨rfl,htl,hgl,hrF,hs',hsame,hfx3,hg3⟩
 replace hg3:=hZ (hg3.takeC tF)
 replace hrF:=hZ hrF
 replace hsame:=hZ hsame
 have hfr3:Fr (w.alloc (.cells #[.int .i64 0,.slice none 0 0] 76)) w3:=((Fx.of_fr (hf1.trans hf2)).trans hfx3).toFr (fun k hk e=>by
  have h1:=hf1.size
  rcases e with rfl | ⟨h,hm9,rfl⟩
  ·omega
  ·have:=hnew.out h hm9; omega)
 have hlt:(gF.take tF).length=tF:=by rw [Av]; omega
 have hsh:=hZ (Ss ob oc tF n (hs'.take tF) (gF.take tF) w3 (hG1.out.fr (((Fr.refl w).alloc _).trans hfr3)) hg3.out (by omega) (by omega) (fun r hr=>by rw [hrF.out r (BW hr)]; omega) hfF.out (hE.fr (((Fr.refl w).alloc _).trans hfr3)))
 rw [Ap (by omega)] at hsh
 replace hlt:=hZ hlt
 go_wp2_with fail
 cases hbr:Bp (gF.take tF) with
 | false=>
   replace hbr:=hZ hbr
   refine hsh.out.mono ?_
   rintro e w4 hrr
   obtain ⟨rfl,hf4⟩:=hrr.2 hbr.out
   clear hrr
   have p1:=Ct w (.int .i64 0) (.slice none 0 0) 76
   have p2:=Ce w (.int .i64 0) (.slice none 0 0) 76
   have c1:=(hfr3.trans hf4).keep p1.1
   have c2:=(hfr3.trans hf4).keep p2.1
   have c3:=(hfr3.trans hf4).keepf p1.1 p1.2
   have c5:=(hfr3.trans hf4).keepf p2.1 p2.2
   clear p1 p2
   go_wp2_with fail
   have e1:(⟨w.heap.size,0,none⟩:Addr)≠⟨w.heap.size,1,none⟩:=fun e=>by injection e with _ e; omega
   have q0:(w4.setCell ⟨w.heap.size,0,none⟩ (.int .i64 0)).cell? ⟨w.heap.size,0,none⟩=some (.int .i64 0):=Al _ _ _ (by rw [c1]; rfl)
   have q1:((w4.setCell ⟨w.heap.size,0,none⟩ (.int .i64 0)).setCell ⟨w.heap.size,1,none⟩ (.slice none 0 0)).cell? ⟨w.heap.size,1,none⟩=some (.slice none 0 0):=Al _ _ _ (by rw [Ad _ _ _ _ e1,c2]; rfl)
   have hfw:Fr w w4:=((Fr.refl w).alloc _).trans (hfr3.trans hf4)
   refine AK (v:=.tuple #[.agg #[.int .i64 0,.slice none 0 0],.int .i64 4]) (by simp [results,Tryz.results48,go_sem,q0,q1]) rfl ?_
   exact ⟨fun h=>(by rw [hbr.out] at h; cases h),fun _=>⟨rfl,(hfw.setCell (p:=⟨w.heap.size,0,none⟩) (by simp) _).setCell (p:=⟨w.heap.size,1,none⟩) (by simp) _⟩⟩
 | true=>
   replace hbr:=hZ hbr
   refine hsh.out.mono ?_
   rintro e w4 hrr
   obtain ⟨a4,c4,rfl,hcp4,hm4,hf4⟩:=hrr.1 hbr.out
   clear hrr
   rw [hlt.out] at hcp4 ⊢
   have p1:=Ct w (.int .i64 0) (.slice none 0 0) 76
   have p2:=Ce w (.int .i64 0) (.slice none 0 0) 76
   have c1:=(hfr3.trans hf4).keep p1.1
   have c2:=(hfr3.trans hf4).keep p2.1
   have c3:=(hfr3.trans hf4).keepf p1.1 p1.2
   have c5:=(hfr3.trans hf4).keepf p2.1 p2.2
   replace hm4:=hZ hm4
   clear p1 p2
   go_wp2_with fail
   have e1:(⟨w.heap.size,0,none⟩:Addr)≠⟨w.heap.size,1,none⟩:=fun e=>by injection e with _ e; omega
   have q0:(w4.setCell ⟨w.heap.size,0,none⟩ (.int .i64 n)).cell? ⟨w.heap.size,0,none⟩=some (.int .i64 n):=Al _ _ _ (by rw [c1]; rfl)
   have q1:((w4.setCell ⟨w.heap.size,0,none⟩ (.int .i64 n)).setCell ⟨w.heap.size,1,none⟩ (.slice a4 tF c4)).cell? ⟨w.heap.size,1,none⟩=some (.slice a4 tF c4):=Al _ _ _ (by rw [Ad _ _ _ _ e1,c2]; rfl)
   have hfw:Fr w w4:=((Fr.refl w).alloc _).trans (hfr3.trans hf4)
   refine AK (v:=.tuple #[.agg #[.int .i64 n,.slice a4 tF c4],.int .i64 0]) (by simp [results,Tryz.results48,go_sem,q0,q1]) rfl ?_
   refine ⟨fun _=>⟨a4,c4,by rw [hlt.out],by rw [hlt.out]; exact hcp4, ?_,(hfw.setCell (p:=⟨w.heap.size,0,none⟩) (by simp) _).setCell (p:=⟨w.heap.size,1,none⟩) (by simp) _⟩,fun h=>(by rw [hbr.out] at h; cases h)⟩
   have hfx:Fx (·=w.heap.size) w4 ((w4.setCell ⟨w.heap.size,0,none⟩ (.int .i64 n)).setCell ⟨w.heap.size,1,none⟩ (.slice a4 tF c4)):=Fx.setCell (p:=(·=w.heap.size)) (q:=⟨w.heap.size,1,none⟩) (Fx.setCell (p:=(·=w.heap.size)) (q:=⟨w.heap.size,0,none⟩) (Fx.refl _ w4) (.inl rfl) _) (.inl rfl) _
   have hs3:=hfr3.size
   have hs3:w.heap.size < w3.heap.size:=by simp at hs3; omega
   intro W hW
   exact hm4.out W ((hfx.mono (fun k e=>by have e2:k=w.heap.size:=e; show k < _; omega)).trans (hW.mono (fun k e=>by have e2:k < w.heap.size:=e; show k < _; omega)))
theorem FK (m:List (List Int)) (a:Option Addr) (cap n:Nat) (w:World) (hm:A2 w a m) (hT:DR n m) (hcap:m.length≤cap) (hok:Ex m=true) :
 Calls Tryz.prog 65 #[.agg #[.int .i64 n,.slice a m.length cap]] w fun e w'=>e=.returned (.int .i64 0)∧Fr w w':=by
 have hfit:=hT.2.2.2
 have hr1:=hT.2.2.1
 have hn12:=hT.2.1
 have hm12:=hT.1
 have hRE:∀ r,r ∈ m→Ck r=0:=fun r hr=>
  Lu (by rw [hr1 r hr]; omega) (by
   rw [Cu]
   intro y hy
   rw [hfit r hr y hy]; simp)
 have hchk:=fun W hW=>Ic m a cap n W (hm.fr (w':=W) hW) hr1 (by omega) hRE hn12
 have hfo:=fun W hW=>KG m a cap n W (hm.fr (w':=W) hW) hT hcap hok
 have hfA:Fr w (w.alloc (.cells #[.int .i64 n,.slice a m.length cap] 76)):=(Fr.refl w).alloc _
 have p1:=Ct w (.int .i64 n) (.slice a m.length cap) 76
 have p2:=Ce w (.int .i64 n) (.slice a m.length cap) 76
 generalize m.length=N at *
 replace hchk:=hZ hchk
 replace hfo:=hZ hfo
 replace hfA:=hZ hfA
 have c1:=p1.1
 have c2:=p2.1
 clear p1 p2 hm hT hok hr1 hfit hRE
 go_enter Tryz.func65,Tryz.ntmps65
 go_wp2_with fail
 refine (hchk.out _ hfA.out).mono ?_
 rintro e w1 ⟨rfl,hf1⟩
 replace c2:=hf1.keep c2
 go_wp2_with fail
 refine (hfo.out _ (hfA.out.trans hf1)).mono ?_
 rintro e w2 ⟨rfl,hf2⟩
 go_wp2_with fail
 go_ret
 exact ⟨rfl,(hfA.out.trans hf1).trans hf2⟩
def ZF:Nat→Int→Int→Bool
 | 0,_,_=>true
 | k+1,n,d=>if d * d≤n then (if n.tmod d=0 then false else ZF k n (d+1)) else true
def Id (n:Int):Bool:=if n < 2∨97 < n then false else ZF 10 n 2
theorem QI (n:Int) (w:World):Calls Tryz.prog 83 #[.int .i64 n] w fun e w'=>e=.returned (.bool (Id n))∧w'=w:=by
 obtain ⟨b,hb⟩:∃ b,b=Id n:=⟨_,rfl⟩
 rw [← hb]
 unfold Id at hb
 go_enter Tryz.func83,Tryz.ntmps83
 by_cases h1:n < 2
 ·rw [Ai (.inl h1)] at hb
  subst hb
  have d1:decide (n < 2)=true:=Ab h1
  go_wp2_with fail
  go_ret
  exact ⟨rfl,rfl⟩
 ·have d1:decide (n < 2)=false:=Aa h1
  by_cases h2:97 < n
  ·rw [Ai (.inr h2)] at hb
   subst hb
   have d2:decide (97 < n)=true:=Ab h2
   go_wp2_with fail
   go_ret
   exact ⟨rfl,rfl⟩
  ·have d2:decide (97 < n)=false:=Aa h2
   rw [Ae (by omega)] at hb
   replace hb:=hZ hb
   go_wp2_with fail
   go_loopg [3] 10 (fun k s3 wr=>∃ d:Nat,s3=.int .i64 d∧d+k=12∧2≤d∧Hid (b=ZF k n d)∧wr=w)
   case atStart=>exact ⟨2,rfl,rfl,by omega,hb,rfl⟩
   case round=>
    obtain ⟨d,rfl,hdk,hd2,hbk,rfl⟩:=hrel
    have hm0:(d:Int) * d≤144:=by
     have:=Az (show d≤12 by omega) (show d≤12 by omega)
     have e:((d * d:Nat):Int)=(d:Int) * d:=AQ d d
     omega
    have hm1:(0:Int)≤(d:Int) * d:=BN (by omega) (by omega)
    have w1:IntKind.i64.wrap ((d:Int) * (d:Int))=(d:Int) * d:=Am _ (by omega)
    by_cases hc:(d:Int) * d≤n
    ·have hdc:decide ((d:Int) * d≤n)=true:=Ab hc
     obtain ⟨k,rfl⟩:∃ k,gk=k+1:=by
      cases gk with
      | zero=>obtain rfl:d=12:=by omega
              exact absurd hc (by omega)
      | succ k=>exact ⟨k,rfl⟩
     have hb2:=hbk.out
     rw [ZF,Ai hc] at hb2
     have z0:(d:Int)≠0:=by omega
     have zt:((d:Int) == 0)=false:=by rw [DB]; exact z0
     have ht1:n.tmod d < d:=Sd _ (by omega)
     have ht2:0≤n.tmod d:=Int.tmod_nonneg _ (by omega)
     have he9:n.tmod d=n % d:=Jh (by omega)
     rw [he9] at hb2 ht1 ht2
     clear he9
     by_cases hz:n % (d:Int)=0
     ·rw [Ai hz] at hb2
      have hzd:(n % (d:Int) == 0)=true:=by rw [hz]; rfl
      subst hb2
      go_wp2_with fail
      go_ret
      exact ⟨rfl,rfl⟩
     ·rw [Ae hz] at hb2
      have hzd:(n % (d:Int) == 0)=false:=by rw [DB]; exact hz
      replace hb2:=hZ hb2
      go_wp2_with fail
      go_roundg k
      case measure=>omega
      case rel=>exact ⟨d+1,by go_num,by omega,by omega,hb2,rfl⟩
    ·have hdc:decide ((d:Int) * d≤n)=false:=Aa hc
     have hb2:b=true:=by
      have h:=hbk.out
      cases gk with
      | zero=>exact h
      | succ k=>rw [ZF,Ae hc] at h; exact h
     subst hb2
     go_wp2_with fail
     go_ret
     exact ⟨rfl,rfl⟩
def PC:Option Int→List Int→Int
 | _,[]=>0
 | none,x :: xs=>if Id x then PC (some x) xs else 25
 | some y,x :: xs=>if Id x then (if x≤y then 6 else PC (some x) xs) else 25
def BM (P:List Int):Int:=if P.length=0 then 13 else if 6 < P.length then 4 else PC none P
def Zn (P:List Int):Nat→Option Int
 | 0=>none
 | k+1=>P[k]?
theorem SH {o:Option Int} {x:Int} {xs:List Int} (h:Id x=false):PC o (x :: xs)=25:=by
 cases o <;> simp [PC,h]
theorem SG {x y:Int} {xs:List Int} (h:Id x=true) (h2:x≤y):PC (some y) (x :: xs)=6:=by simp [PC,h,h2]
theorem Vk {x y:Int} {xs:List Int} (h:Id x=true) (h2:¬ x≤y):PC (some y) (x :: xs)=PC (some x) xs:=by simp [PC,h,h2]
theorem SE {x:Int} {xs:List Int} (h:Id x=true):PC none (x :: xs)=PC (some x) xs:=by simp [PC,h]
theorem Ft (P:List Int) (a:Option Addr) (cap:Nat) (w:World) (hP:El w iv a P) (hl:P.length≤1000000) :
 Calls Tryz.prog 44 #[.slice a P.length cap] w fun e w'=>e=.returned (.int .i64 (BM P))∧w'=w:=by
 obtain ⟨n,hn⟩:∃ n,n=P.length:=⟨_,rfl⟩
 obtain ⟨q,hq⟩:∃ q,q=BM P:=⟨_,rfl⟩
 rw [← hq,← hn]
 unfold BM at hq
 rw [← hn] at hq hl
 by_cases h0:n=0
 ·rw [Ai h0] at hq
  subst hq
  have d0:((n:Int) == 0)=true:=by rw [h0]; rfl
  clear hn hP
  go_enter Tryz.func44,Tryz.ntmps44
  go_wp2_with fail
  go_ret
  exact ⟨rfl,rfl⟩
 ·have d0:((n:Int) == 0)=false:=by rw [DB]; omega
  rw [Ae h0] at hq
  by_cases h6:6 < n
  ·rw [Ai h6] at hq
   subst hq
   have d1:decide ((6:Int) < (n:Int))=true:=Ab (by omega)
   clear hn hP
   go_enter Tryz.func44,Tryz.ntmps44
   go_wp2_with fail
   go_ret
   exact ⟨rfl,rfl⟩
  ·have d1:decide ((6:Int) < (n:Int))=false:=Aa (by omega)
   rw [Ae h6] at hq
   replace hq:=hZ hq
   replace hn:=hZ hn
   replace hP:=hZ hP
   go_enter Tryz.func44,Tryz.ntmps44
   go_wp2_with fail
   go_loopg [15] n (fun k s15 wr=>∃ i:Nat,s15=.int .i64 i∧i+k=n∧Hid (q=PC (Zn P i) (P.drop i))∧wr=w)
   case atStart=>exact ⟨0,rfl,by omega,hq.out,rfl⟩
   case round=>
    obtain ⟨i,rfl,hik,hb,rfl⟩:=hrel
    by_cases hi:i < n
    ·have hdI:decide (i < n)=true:=Ab hi
     obtain ⟨b1,o1,x,rfl,hbl,hx,hc⟩:=hP.out.at (i:=i) (by rw [← hn.out]; exact hi)
     have HT:P.drop i=x :: P.drop (i+1):=by
      obtain ⟨h1,h2⟩:=Ag.1 hx
      rw [← h2]; exact DV h1
     have hip:=QI x wr
     have hb2:=hb.out
     rw [HT] at hb2
     have hx2:Zn P (i+1)=some x:=hx
     replace hx:=hZ hx
     replace hx2:=hZ hx2
     replace HT:=hZ HT
     have z0:(0:Int)≤(i:Int):=Ak _
     have z1:(i:Int) < (n:Int):=by omega
     cases hp:Id x with
     | false=>
       rw [SH hp] at hb2
       subst hb2
       rw [hp] at hip
       clear hb
       go_wp2_with fail
       refine hip.mono ?_
       rintro e w' ⟨rfl,rfl⟩
       go_wp2_with fail
       go_ret
       exact ⟨rfl,rfl⟩
     | true=>
       rw [hp] at hip
       by_cases h00:i=0
       ·have d2:decide (0 < i)=false:=Aa (by omega)
        have hb3:Hid (q=PC (Zn P (i+1)) (P.drop (i+1))):=by
         show _=_
         rw [hx2.out,hb2,h00]; exact SE hp
        clear hb2 h00
        go_wp2_with fail
        refine hip.mono ?_
        rintro e w' ⟨rfl,rfl⟩
        go_wp2_with fail
        go_roundg (gk - 1)
        case measure=>omega
        case rel=>exact ⟨i+1,by go_num,by omega,hb3,rfl⟩
       ·have d2:decide (0 < i)=true:=Ab (by omega)
        obtain ⟨j,hj⟩:∃ j,i=j+1:=⟨i - 1,by omega⟩
        obtain ⟨b2,o2,y,hae,-,hy,hcy⟩:=hP.out.at (i:=j) (by rw [← hn.out]; omega)
        injection hae with hae
        injection hae with e1 e2
        subst e1; subst e2
        have hy2:Zn P i=some y:=by rw [hj]; exact hy
        rw [hy2] at hb2
        rw [show j=i - 1 by omega] at hcy
        have z2:(0:Int)≤(i:Int) - 1:=by omega
        have z3:(i:Int) - 1 < (n:Int):=by omega
        replace hy:=hZ hy
        replace hy2:=hZ hy2
        replace hj:=hZ hj
        by_cases hxy:x≤y
        ·have d3:decide (x≤y)=true:=Ab hxy
         rw [SG hp hxy] at hb2
         subst hb2
         clear hb h00
         go_wp2_with fail
         refine hip.mono ?_
         rintro e w' ⟨rfl,rfl⟩
         go_wp2_with fail
         go_ret
         exact ⟨rfl,rfl⟩
        ·have d3:decide (x≤y)=false:=Aa hxy
         have hb3:Hid (q=PC (Zn P (i+1)) (P.drop (i+1))):=by
          show _=_
          rw [hx2.out,hb2]; exact Vk hp hxy
         clear hb2 h00 hxy
         go_wp2_with fail
         refine hip.mono ?_
         rintro e w' ⟨rfl,rfl⟩
         go_wp2_with fail
         go_roundg (gk - 1)
         case measure=>omega
         case rel=>exact ⟨i+1,by go_num,by omega,hb3,rfl⟩
    ·obtain rfl:i=n:=by omega
     have hdI:decide (i < i)=false:=Aa (by omega)
     have hb2:q=0:=by
      have h:=hb.out
      rw [Aar (by rw [← hn.out]; exact Ah _)] at h
      rw [h]
      cases Zn P i <;> rfl
     subst hb2
     clear hb
     go_wp2_with fail
     go_ret
     exact ⟨rfl,rfl⟩
def KA:Nat:=Mk 4 1000000000
def KB:Nat:=Mk 4 KA
def FX:Nat:=KB+1
theorem C1:1000000000≤KA:=I5 4 1000000000 (by decide)
theorem Ym:KA≤KB:=I5 4 KA (by have:=C1; omega)
theorem R1:KB < Kb:=by
 have h1:KA≤10 ^ Zq 4 9:=Rz 4 9 1000000000 (by decide)
 have h2:KB≤10 ^ Zq 4 (Zq 4 9):=Rz 4 (Zq 4 9) KA h1
 exact A8 h2 (V4 (by decide))
def CI (n:Nat) (m:List (List Int)):List (List Int):=(DY FX n m).getD []
theorem Dz {n B:Nat} {m:List (List Int)} (hn:n≤4) (h1:1≤B) (hB:B≤KA) (hb:∀ r,r ∈ m→∀ x,x ∈ r→x.natAbs≤B):∃ gW p t r,QH FX n m.length (Mk n B) m gW (CI n m) p t r:=by
 have h2:Mk n B≤KB:=Ar (Oy h1 hn) (Mj 4 hB)
 obtain ⟨gW,K,p,t,r,h⟩:=VB (F:=FX) h1 hb (A8 h2 R1) (by unfold FX; omega)
 have e:CI n m=K:=by unfold CI; rw [h.out]; rfl
 exact ⟨gW,p,t,r,by rw [e]; exact h⟩
theorem HB {F n d B:Nat} {m gW K:List (List Int)} {p:Nat→Nat} {t r:Nat} (h:QH F n d B m gW K p t r):K.length≤n:=by
 have h1:=h.klen; have h2:=h.ech.le; have h3:=h.len; omega
theorem Mr {p:Nat→Nat} {c t:Nat} {g:List (List Int)} (h:FL p c t g) {i:Nat} (hi:i < t):EE (BB g i)=p i:=h.lead hi
theorem Ms {p:Nat→Nat} {c:Nat} {g:List (List Int)} (h:FL p c g.length g):Ex g=true:=by
 refine AF.2 fun i hi=>?_
 have hi:=Cn.1 hi
 simp only [Bt,Kc]
 rw [Mr h hi,AR]
 refine ⟨⟨⟨by omega,by have:=h.pos i hi; show 0≤Aw g i (p i); omega⟩, ?_⟩,AF.2 fun x hx=>?_⟩
 ·split
  ·omega
  ·rw [Mr h (show i - 1 < g.length by omega)]
   have:=h.inc (i - 1) i (by omega) hi
   omega
 ·obtain ⟨j,hj⟩:=Bz hx
  have hjl:=(Ag.1 hj).1
  rw [Av] at hjl
  rw [Bf,Ai (by omega)] at hj
  have e:x=BB g j:=by unfold BB; rw [hj]; rfl
  have h9:=h.up j i (by omega) hi
  unfold KZ
  rw [e,Ee,Bool.or_eq_false_iff]
  exact ⟨Aa (by show ¬ Aw g j (p i) < 0; omega),Aa (by show ¬ Aw g i (p i)≤Aw g j (p i); omega)⟩
def Hx (n:Nat) (m:List (List Int)):List (List Int):=((CY FX n 0 m 0).map fun r=>r.1.take r.2).getD []
theorem KY {n B:Nat} {m:List (List Int)} (hm:m.length≤4) (hr:Bq n m) (h1:1≤B) (hB:B≤KA) (hb:∀ r,r ∈ m→∀ x,x ∈ r→x.natAbs≤B):∃ gF tF p,CY FX n 0 m 0=some (gF,tF)∧Hx n m=gF.take tF∧tF≤m.length∧FL p n tF gF∧Bq n gF∧gF.length=m.length∧∀ r,r ∈ gF→∀ x,x ∈ r→x.natAbs≤KB:=by
 have h2:Mk m.length B≤KB:=Ar (Oy h1 hm) (Mj 4 hB)
 obtain ⟨gF,tF,k1,k2⟩:=IC (F:=FX) (m:=m.length) n 0 0 B m hr rfl h1 (by rw [D6]; exact A8 h2 R1) (by rw [D6]; unfold FX; omega) (fun i _ k=>Mq hb i k)
 obtain ⟨p,e1,e2,e3,-⟩:=F6 _ 0 0 m gF tF (fun _=>0) hr (FL.init _ _) k1
 rw [AU] at e1
 refine ⟨gF,tF,p,k1,by unfold Hx; rw [k1]; rfl,by have:=e1.le; omega,e1,e2,e3,RL fun i hi k=>?_⟩
 have:=k2 i (by omega) k
 rw [D6] at this
 exact Ar this h2
structure Tg (P:List Int) (C M:List (List Int)):Prop where
 n1:1≤P.length
 n4:P.length≤4
 prime:BM P=0
 tabC:DR P.length C
 tabM:DR P.length M
 formC:Ex C=true
 formM:Ex M=true
 ann:DY FX P.length C=some M
 sat:DY FX P.length M=some C
theorem GL {m:List (List Int)} (h:Bp m=true):∀ r,r ∈ m→∀ x,x ∈ r→x.natAbs≤1000000000:=fun r hr x hx=>by
 have h1:=AF.1 (AF.1 h r hr) x hx
 unfold Bk at h1
 have:=AV h1
 omega
theorem JS {m:List (List Int)} (h:Bp m=true):∀ r,r ∈ m→∀ x,x ∈ r→Bk x=true:=fun r hr x hx=>AF.1 (AF.1 h r hr) x hx
theorem Sn {P:List Int} {L:List (List Int)} (h1:1≤P.length) (h4:P.length≤4) (hp:BM P=0) (hL:Bp L=true) (hr:Bq P.length L) (hA:Bp (CI P.length L)=true) (hS:Bp (CI P.length (CI P.length L))=true) :
 Tg P (CI P.length (CI P.length L)) (CI P.length L)∧Tg P (CI P.length L) (CI P.length (CI P.length L)):=by
 have a0:=C1
 obtain ⟨g1,p1,t1,r1,k1⟩:=Dz (n:=P.length) h4 (by decide) a0 (GL hL)
 obtain ⟨g2,p2,t2,r2,k2⟩:=Dz (n:=P.length) h4 (by decide) a0 (GL hA)
 obtain ⟨g3,p3,t3,r3,k3⟩:=Dz (n:=P.length) h4 (by decide) a0 (GL hS)
 have e3:=Rk hr k1 k2 k3
 have l1:=HB k1
 have l2:=HB k2
 have o3:=k3.out
 rw [e3] at o3
 have f1:=Ms k1.kech
 have f2:=Ms k2.kech
 have T1:DR P.length (CI P.length L):=⟨by omega,by omega,k1.krect,JS hA⟩
 have T2:DR P.length (CI P.length (CI P.length L)):=⟨by omega,by omega,k2.krect,JS hS⟩
 exact ⟨⟨h1,h4,hp,T2,T1,f2,f1,o3,k2.out⟩,⟨h1,h4,hp,T1,T2,f1,f2,k2.out,o3⟩⟩
def Cy (x v:List Int):Nat→Int
 | 0=>0
 | k+1=>Cy x v k+(x[k]?).getD 0 * (v[k]?).getD 0
theorem LI {x v:List Int} (hx:∀ y,y ∈ x→Bk y=true) (hv:∀ y,y ∈ v→Bk y=true):∀ k,(Cy x v k).natAbs≤k * 1000000000000000000
 | 0=>by rw [Cy]; omega
 | k+1=>by
   have ih:=LI hx hv k
   have bd:∀ (l:List Int) (j:Nat),(∀ y,y ∈ l→Bk y=true)→((l[j]?).getD 0).natAbs≤1000000000:=fun l j hl=>by
    cases e:l[j]? with
    | none=>simp
    | some y=>
      have:=hl y (Af e)
      unfold Bk at this
      have:=AV this
      rw [Bm]; omega
   have h1:=Az (bd x k hx) (bd v k hv)
   rw [← AZ] at h1
   rw [Cy]
   omega
def I3 (M:List (List Int)) (x:List Int):List Int:=M.map fun v=>Cy x v x.length
end Go.Proofs.YtiniigadkknboaaGreatDoor
