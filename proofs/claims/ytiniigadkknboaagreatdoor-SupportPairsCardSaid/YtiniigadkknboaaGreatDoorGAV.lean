/- Contracts and laws: GAV. -/
import Derived.Test.YtiniigadkknboaaGreatDoorGAI
import Derived.Test.YtiniigadkknboaaGreatDoorGAC
import Derived.Test.YtiniigadkknboaaGreatDoorGAD
import Derived.Test.YtiniigadkknboaaGreatDoorGAR
import Derived.Test.YtiniigadkknboaaGreatDoorGAU
import Derived.Test.YtiniigadkknboaaGreatDoorGAB

set_option maxRecDepth 100000
set_option maxHeartbeats 4000000
namespace Go.Proofs.YtiniigadkknboaaGreatDoor
open Go.RowKit Go.Lib
attribute [local go_sem ↓] Go.wp_at_zero Go.wp_at_succ
theorem NN (w:World) (xs:List Int):JV w 206 #[] iv (fun x=>x != 0) xs:=fun x W _ _=>by
 show Calls Tryz.prog 206 #[.int .i64 x] W fun e W'=>e=.returned (.bool (x != 0))∧Fr W W'
 go_enter Tryz.func206,Tryz.ntmps206
 go_wp2_with fail
 go_ret
 exact ⟨rfl,Fr.refl _⟩
def Eu (xs:List Int):Int:=O7 (fun x=>x != 0) xs
theorem Wc {xs:List Int} (h:0≤Eu xs):∃ p:Nat,Eu xs=p∧p < xs.length:=by
 unfold Eu at h ⊢
 rcases JL (fun x:Int=>x != 0) xs with ⟨h1,-⟩ | ⟨k,x,h1,h2,-⟩
 ·rw [h1] at h; omega
 ·exact ⟨k,h1,(Ae.1 h2).1⟩
theorem Qs (xs:List Int) (a:Option Addr) (cap:Nat) (w:World) (hx:El w iv a xs) (hl:xs.length≤1000000000) :
 Calls Tryz.prog 180 #[.slice a xs.length cap] w fun e w'=>e=.returned (.int .i64 (Eu xs))∧Fr w w':=by
 have eg:∀ args w,(callFunc 206 args).run Tryz.prog w=.ok (.enter 206 args) w:=Ey Tryz.func206 (by kernel_rfl) rfl
 have hc:=Il xs a cap 206 #[] (fun x=>x != 0) w eg hx hl (NN w xs)
 replace eg:=hZ eg
 go_enter Tryz.func180,Tryz.ntmps180
 go_wp2_with fail
 refine hc.mono ?_
 rintro e w' ⟨rfl,hf⟩
 go_wp2_with fail
 go_ret
 exact ⟨rfl,hf⟩
structure Rw where
 a:Option Addr
 row:List Int
 c:Nat
abbrev Rw.enc (x:Rw):Value:=.slice x.a x.row.length x.c
theorem Re:∀ (m:List (List Int)) (P:Nat→Option Addr→Nat→List Int→Prop),(∀ (i:Nat) (xs:List Int),m[i]?=some xs→∃ a' c',P i a' c' xs)→∃ L:List Rw,L.map Rw.row=m∧∀ (i:Nat) (x:Rw),L[i]?=some x→P i x.a x.c x.row
 | [],P,_=>⟨[],rfl,fun i x h=>by simp at h⟩
 | r :: m,P,h=>by
   obtain ⟨a0,c0,h0⟩:=h 0 r rfl
   obtain ⟨L,h1,h2⟩:=Re m (fun i=>P (i+1)) (fun i xs hx=>h (i+1) xs hx)
   refine ⟨⟨a0,r,c0⟩ :: L,by rw [J0,h1],fun i x hx=>?_⟩
   match i,hx with
   | 0,hx=>simp at hx; subst hx; exact h0
   | i+1,hx=>exact h2 i x (by simpa using hx)
theorem XA {w:World} {a:Option Addr} {m:List (List Int)} (h:A5 w a m):∃ L:List Rw,L.map Rw.row=m∧El w Rw.enc a L∧∀ x,x ∈ L→El w iv x.a x.row:=by
 rcases h with rfl | ⟨b,o,ha,hb,hc⟩
 ·exact ⟨[],rfl,.inl rfl,fun x hx=>by cases hx⟩
 ·obtain ⟨L,h1,h2⟩:=Re m (fun i a' c' xs=>w.cell? ⟨b,o+i,none⟩=some (.slice a' xs.length c')∧El w iv a' xs) hc
  refine ⟨L,h1,.inr ⟨b,o,ha,hb,fun i x hx=>(h2 i x hx).1⟩,fun x hx=>?_⟩
  obtain ⟨i,hi⟩:=BJ hx
  exact (h2 i x hi).2
theorem El.takeG {α:Type} {w:World} {enc:α→Value} {a:Option Addr} {xs:List α} (h:El w enc a xs) (k:Nat):El w enc a (xs.take k):=by
 rcases h with rfl | ⟨b,o,ha,hb,hc⟩
 ·exact .inl P1
 ·refine .inr ⟨b,o,ha,hb,fun i x hx=>hc i x ?_⟩
  rw [Bp] at hx
  split at hx
  ·exact hx
  ·cases hx
theorem Mp (xs:List Rw) (a:Option Addr) (cap:Nat) (g:Nat) (lb:Array Value) (p:Rw→Bool) (w:World)
 (eg:∀ args w,(callFunc g args).run Tryz.prog w=.ok (.enter g args) w) (hx:El w Rw.enc a xs) (hl:xs.length≤1000000000) (hp:JV w g lb Rw.enc p xs) :
 Calls Tryz.prog 207 #[.slice a xs.length cap,.func (.func g) #[] lb] w fun e w'=>e=.returned (.int .i64 (O7 p xs))∧Fr w w':=by
 go_enter Tryz.func207,Tryz.ntmps207
 go_wp2
 go_loopw [5,8] (fun _ s8 wr=>∃ k:Nat,s8=.int .i64 k∧k≤xs.length∧Fr w wr∧Hid (∀ j x,j < k→xs[j]?=some x→p x=false)) (fun _ s8 _=>xs.length - (RowKit.intOf s8).toNat)
 case atStart=>exact ⟨0,rfl,Ck _,Fr.refl _,fun j x h=>absurd h (Bj _)⟩
 case round=>
  obtain ⟨k,rfl,hk,hf,hb⟩:=hrel
  by_cases hlt:k < xs.length
  ·obtain ⟨b,o,x,rfl,hbl,hxk,hcell⟩:=(hx.fr hf).at hlt
   have hpx:=hp x wr (Af hxk) hf
   have hxk:=hZ hxk
   go_wp2_with fail
   refine hpx.mono ?_
   rintro e w1 ⟨rfl,hf1⟩
   go_wp2_with fail
   ·have hpt:p x=true:=by assumption
    go_ret
    exact ⟨Cv (HX hb.out hxk.out hpt).symm,hf.trans hf1⟩
   ·have hpf:p x=false:=by assumption
    go_roundw
    case rel=>exact ⟨k+1,by go_num,by omega,hf.trans hf1,I8 hb.out hxk.out hpf⟩
    case measure=>simp [RowKit.intOf]; omega
  ·go_wp2_with fail
   go_ret
   exact ⟨Cv (I9 (by rw [show xs.length=k by omega]; exact hb.out)).symm,hf⟩
theorem JY (xs:List Rw) (a:Option Addr) (cap:Nat) (g:Nat) (lb:Array Value) (p:Rw→Bool) (w:World)
 (eg:∀ args w,(callFunc g args).run Tryz.prog w=.ok (.enter g args) w) (hx:El w Rw.enc a xs) (hl:xs.length≤1000000000) (hp:JV w g lb Rw.enc p xs) :
 Calls Tryz.prog 181 #[.slice a xs.length cap,.func (.func g) #[] lb] w fun e w'=>e=.returned (.bool (xs.any p))∧Fr w w':=by
 rw [← NM]
 have hc:=Mp xs a cap g lb p w eg hx hl hp
 clear hp
 go_enter Tryz.func181,Tryz.ntmps181
 go_wp2_with fail
 refine hc.mono ?_
 rintro e w' ⟨rfl,hf⟩
 go_wp2_with fail
 go_ret
 exact ⟨rfl,hf⟩
def Ke (p:Nat) (r x:List Int):Bool:=decide ((x[p]?).getD 0 < 0) || decide ((r[p]?).getD 0≤(x[p]?).getD 0)
theorem O5 (x:Rw) (r:List Int) (ra:Option Addr) (rc p pb rb:Nat) (w:World) (hx:El w iv x.a x.row) (hr:El w iv ra r) (hp:w.cell? ⟨pb,0,none⟩=some (.int .i64 p)) (hrb:w.cell? ⟨rb,0,none⟩=some (.slice ra r.length rc))
 (h1:p < x.row.length) (h2:p < r.length) (_hl1:x.row.length≤1000000) (_hl2:r.length≤1000000) :
 Calls Tryz.prog 182 #[x.enc,.pointer (some ⟨pb,0,none⟩),.pointer (some ⟨rb,0,none⟩)] w fun e w'=>e=.returned (.bool (Ke p r x.row))∧Fr w w':=by
 obtain ⟨b,o,y,hxa,hbl,hxi,hc1⟩:=hx.at h1
 obtain ⟨b2,o2,z,hra,hbl2,hri,hc2⟩:=hr.at h2
 have hfB:Ke p r x.row=(decide (y < 0) || decide (z≤y)):=by unfold Ke; rw [hxi,hri]; rfl
 show Calls Tryz.prog 182 #[.slice x.a x.row.length x.c,.pointer (some ⟨pb,0,none⟩),.pointer (some ⟨rb,0,none⟩)] w _
 rw [hfB,hxa]
 rw [hra] at hrb
 replace hxi:=hZ hxi
 replace hri:=hZ hri
 generalize x.row.length=n at *
 generalize r.length=m at *
 generalize x.c=xc at *
 clear hfB hxa hra hx hr
 have z0:(0:Int)≤(p:Int):=Aj _
 have z1:(p:Int) < (n:Int):=by omega
 have z2:(p:Int) < (m:Int):=by omega
 by_cases hy:y < 0
 ·have d1:decide (y < 0)=true:=Ab hy
  rw [d1,Bool.true_or]
  go_enter Tryz.func182,Tryz.ntmps182
  go_wp2_with fail
  go_quiet (fail)
  go_wp2_with fail
  go_ret
  exact ⟨rfl,Fr.refl _ |>.drewN _⟩
 ·have d1:decide (y < 0)=false:=Aa hy
  rw [d1,J2]
  have d2:decide (y ≥ z)=decide (z≤y):=rfl
  go_enter Tryz.func182,Tryz.ntmps182
  go_wp2_with fail
  go_quiet (fail)
  go_wp2_with fail
  go_ret
  exact ⟨rfl,Fr.refl _ |>.drewN _⟩
def ET (m:List (List Int)):Bool :=
 (List.range m.length).all fun i=>decide (0≤Eu (BT m i)) && decide (0≤((BT m i)[(Eu (BT m i)).toNat]?).getD 0) && decide ((if i=0 then -1 else Eu (BT m (i - 1))) < Eu (BT m i)) && (m.take i).all fun x=>!Ke (Eu (BT m i)).toNat (BT m i) x
theorem SE {m:List (List Int)} (h:ET m=true) {i:Nat} (hi:i < m.length):∃ p:Nat,Eu (BT m i)=p∧p < (BT m i).length∧0≤((BT m i)[p]?).getD 0∧(if i=0 then -1 else Eu (BT m (i - 1))) < (p:Int)∧∀ x,x ∈ m.take i→Ke p (BT m i) x=false:=by
 have h1:=AE.1 h i (BH.2 hi)
 simp only [Bm,Jr] at h1
 obtain ⟨⟨⟨h1,h2⟩,h3⟩,h4⟩:=h1
 obtain ⟨p,hp,hl⟩:=Wc h1
 rw [hp] at h2 h3 h4
 rw [AR] at h2 h4
 exact ⟨p,hp,hl,h2,h3,fun x hx=>by simpa using AE.1 h4 x hx⟩
theorem Sy (m:List (List Int)) (a:Option Addr) (cap n:Nat) (w:World) (hm:A5 w a m) (hr:Bx n m) (hn:n≤1000000) (hl:m.length≤1000000) (hcap:m.length≤cap) (hok:ET m=true) :
 Calls Tryz.prog 151 #[.slice a m.length cap] w fun e w'=>e=.returned (.bool true)∧Fr w w':=by
 obtain ⟨L,hL1,hL2,hL3⟩:=XA hm
 have hlen:L.length=m.length:=by rw [← hL1,An]
 have eg:∀ args w,(callFunc 182 args).run Tryz.prog w=.ok (.enter 182 args) w:=Ey Tryz.func182 (by kernel_rfl) rfl
 obtain ⟨N,hN⟩:∃ N,N=m.length:=⟨_,rfl⟩
 rw [← hN] at hlen hl hcap ⊢
 have hrow:∀ (i:Nat) (x:Rw),L[i]?=some x→BT m i=x.row∧x.row.length=n:=fun i x hx=>by
  have h1:m[i]?=some x.row:=by rw [← hL1,At,hx]; rfl
  have h2:=Ae.1 h1
  exact ⟨by rw [CU h2.1]; exact h2.2,hr _ (Af h1)⟩
 have hat:=fun i (hi:i < N)=>SE hok (i:=i) (by rw [← hN]; exact hi)
 have htk:∀ i,(m.take i)=(L.take i).map Rw.row:=fun i=>by rw [← hL1,Y3]
 replace hN:=hZ hN
 replace hlen:=hZ hlen
 replace hrow:=hZ hrow
 replace hat:=hZ hat
 replace htk:=hZ htk
 replace hL1:=hZ hL1
 replace hL2:=hZ hL2
 replace hL3:=hZ hL3
 replace eg:=hZ eg
 clear hm hr hok
 go_enter Tryz.func151,Tryz.ntmps151
 go_wp2_with fail
 go_loopg [3,9] N (fun k s3 s9 wr=>∃ (i:Nat) (q:Int),s9=.int .i64 i∧s3=.int .i64 q∧i+k=N∧Hid (q=if i=0 then -1 else Eu (BT m (i - 1)))∧Fr w wr)
 case atStart=>exact ⟨0,-1,rfl,rfl,by omega,rfl,Fr.refl _⟩
 case round=>
  obtain ⟨i,q,rfl,rfl,hik,hq,hf⟩:=hrel
  by_cases hi:i < N
  ·have hdI:decide (i < N)=true:=Ab hi
   obtain ⟨b,o,x,hae,hbl,hxi,hcell⟩:=(hL2.out.fr hf).at (i:=i) (by rw [hlen.out]; exact hi)
   obtain ⟨p,hp,hpl,hp0,hpq,hpb⟩:=hat.out i hi
   obtain ⟨hr1,hr2⟩:=hrow.out i x hxi
   have hel:=(hL3.out x (Af hxi)).fr hf
   rw [hr1] at hp hpl hp0 hpb
   rw [← hq.out] at hpq
   have hpv:=hZ (fun W (hW:Fr wr W)=>Qs x.row x.a x.c W (hel.fr hW) (by rw [hr2]; omega))
   rw [hp] at hpv
   obtain ⟨b3,o3,z,hxa,hbl3,hz,hcz⟩:=hel.at hpl
   rw [hz] at hp0
   replace hp0:0≤z:=hp0
   have hany:(L.take i).any (fun y=>Ke p x.row y.row)=false:=by
    rw [CO]
    intro y hy
    rw [hpb y.row (by rw [htk.out]; exact List.mem_map_of_mem hy)]
    simp
   have hcf:=fun (W:World) (hW:Fr wr W) (pb rb:Nat) (h1:W.cell? ⟨pb,0,none⟩=some (.int .i64 p)) (h2:W.cell? ⟨rb,0,none⟩=some (.slice x.a x.row.length x.c))=>
    JY (L.take i) a cap 182 #[.pointer (some ⟨pb,0,none⟩),.pointer (some ⟨rb,0,none⟩)] (fun y=>Ke p x.row y.row) W eg.out (((hL2.out.fr hf).fr hW).takeG i) (by rw [Av]; omega)
     (fun y W' hy hW'=>O5 y x.row x.a x.c p pb rb W' (((hL3.out y (BZ hy)).fr (hf.trans hW)).fr hW') ((hel.fr hW).fr hW') (hW'.keep h1) (hW'.keep h2) (by
      obtain ⟨j,hj⟩:=BJ (BZ hy)
      rw [(hrow.out j y hj).2,← hr2]; exact hpl) hpl (by
      obtain ⟨j,hj⟩:=BJ (BZ hy)
      rw [(hrow.out j y hj).2]; exact hn) (by rw [hr2]; exact hn))
   rw [Av,Db (by rw [hlen.out]; omega),hany] at hcf
   replace hcf:=hZ hcf
   have hq9:Hid ((p:Int)=if i+1=0 then -1 else Eu (BT m (i+1 - 1))):=by show _=_; rw [Ag (by omega),Nat.add_sub_cancel,hr1]; exact hp.symm
   replace hxi:=hZ hxi
   replace hcell:wr.cell? ⟨b,o+i,none⟩=some (.slice x.a x.row.length x.c):=hcell
   rw [hr2] at hpv hcf hcell hpl
   rw [hxa] at hpv hcf hcell
   subst hae
   replace hr1:=hZ hr1
   replace hr2:=hZ hr2
   replace hz:=hZ hz
   replace hp:=hZ hp
   replace hxa:=hZ hxa
   replace hpb:=hZ hpb
   replace hpv:=hZ hpv
   replace hel:=hZ hel
   generalize x.c=rc at *
   clear hany
   have z0:(0:Int)≤(i:Int):=Aj _
   have z1:(i:Int) < (N:Int):=by omega
   have z2:(0:Int)≤(p:Int):=Aj _
   have z3:(p:Int) < (n:Int):=by omega
   have d1:decide ((p:Int)≤q)=false:=Aa (by omega)
   have d2:decide (z < 0)=false:=Aa (by omega)
   obtain ⟨W1,hW1⟩:∃ W1,W1=wr.alloc (.cells #[.slice (some ⟨b3,o3,none⟩) n rc] 33):=⟨_,rfl⟩
   have f1:Fr wr W1:=by rw [hW1]; exact (Fr.refl _).alloc _
   have c1:W1.cell? ⟨wr.heap.size,0,none⟩=some (.slice (some ⟨b3,o3,none⟩) n rc):=by rw [hW1]; exact Dt _ _ _
   go_upto_region 5 with (fail)
   rw [← hW1]
   clear hW1
   obtain ⟨rb,hrb⟩:∃ rb,rb=wr.heap.size:=⟨_,rfl⟩
   rw [← hrb] at c1 ⊢
   replace hrb:=hZ hrb
   go_wp2_with fail
   refine (hpv.out.out _ f1).mono ?_
   rintro e w2 ⟨rfl,hf2⟩
   obtain ⟨W3,hW3⟩:∃ W3,W3=w2.alloc (.cells #[.int .i64 p] 3):=⟨_,rfl⟩
   have f3:Fr wr W3:=by rw [hW3]; exact (f1.trans hf2).alloc _
   have c2:W3.cell? ⟨rb,0,none⟩=some (.slice (some ⟨b3,o3,none⟩) n rc):=by rw [hW3]; exact (hf2.alloc _).keep c1
   have c3:W3.cell? ⟨w2.heap.size,0,none⟩=some (.int .i64 p):=by rw [hW3]; exact Dt _ _ _
   replace hcz:=f3.keep hcz
   go_upto_region 6 with (fail)
   rw [← hW3]
   clear hW3
   obtain ⟨pb,hpb2⟩:∃ pb,pb=w2.heap.size:=⟨_,rfl⟩
   rw [← hpb2] at c3 ⊢
   replace hpb2:=hZ hpb2
   go_wp2_with fail
   refine (hcf.out _ f3 pb rb c3 c2).mono ?_
   rintro e w4 ⟨rfl,hf4⟩
   replace c3:=hf4.keep c3
   go_wp2_with fail
   go_roundg (gk - 1)
   case measure=>omega
   case rel=>exact ⟨i+1,p,by go_num,rfl,by omega,hq9,(hf.trans f3).trans hf4⟩
  ·have hdI:decide (i < N)=false:=Aa hi
   go_wp2_with fail
   go_ret
   exact ⟨rfl,hf⟩
theorem JX (m:List (List Int)) (a:Option Addr) (cap n:Nat) (w:World) (hm:A5 w a m) (hT:EI n m) (hcap:m.length≤cap) (hok:ET m=true) :
 Calls Tryz.prog 100 #[.slice a m.length cap] w fun e w'=>e=.returned (.tuple #[.bool true,.int .i64 0])∧Fr w w':=by
 have h1:=hZ (Om m a cap n w hm hT)
 have h2:=hZ (fun W (hW:Fr w W)=>Sy m a cap n W (hm.fr hW) hT.2.2.1 (by have:=hT.2.1; omega) (by have:=hT.1; omega) hcap hok)
 clear hm hT hok
 generalize m.length=N at *
 go_enter Tryz.func100,Tryz.ntmps100
 go_wp2_with fail
 refine h1.out.mono ?_
 rintro e w1 ⟨rfl,hf1⟩
 go_wp2_with fail
 refine (h2.out _ hf1).mono ?_
 rintro e w2 ⟨rfl,hf2⟩
 go_wp2_with fail
 go_ret2
 exact ⟨rfl,hf1.trans hf2⟩
def Lk (n:Nat) (xs:List Int):Int:=if CA xs≠0 then CA xs else if xs.length≠n then 5 else 0
theorem SB (m:List (List Int)) (xs:List Int) (a b:Option Addr) (ca cb n:Nat) (w:World) (hm:A5 w a m) (hT:EI n m) (hcap:m.length≤ca) (hok:ET m=true) (hm1:0 < m.length) (hx:El w iv b xs) (hl:xs.length≤1000000000) :
 Calls Tryz.prog 105 #[.slice a m.length ca,.slice b xs.length cb] w fun e w'=>e=.returned (.int .i64 (Lk n xs))∧Fr w w':=by
 have h1:=hZ (JX m a ca n w hm hT hcap hok)
 have h2:=hZ (fun W (hW:Fr w W)=>D2 xs b cb W (hx.fr hW) hl)
 have hat:=fun W (hW:Fr w W)=>(hm.fr hW).at hm1
 have hr0:=hT.2.2.1.row hm1
 obtain ⟨E,hE⟩:∃ E,E=Lk n xs:=⟨_,rfl⟩
 rw [← hE]
 have e1:CA xs≠0→E=CA xs:=fun h=>by rw [hE]; unfold Lk; rw [Ai h]
 have e2:CA xs=0→xs.length≠n→E=5:=fun h h2=>by rw [hE]; unfold Lk; rw [Ag (by rw [h]; simp),Ai h2]
 have e3:CA xs=0→xs.length=n→E=0:=fun h h2=>by rw [hE]; unfold Lk; rw [Ag (by rw [h]; simp),Ag (by rw [h2]; simp)]
 clear hm hT hok hx hE
 generalize CA xs=re at *
 generalize xs.length=k at *
 replace e1:=hZ e1
 replace e2:=hZ e2
 replace e3:=hZ e3
 go_enter Tryz.func105,Tryz.ntmps105
 go_wp2_with fail
 refine h1.out.mono ?_
 rintro e w1 ⟨rfl,hf1⟩
 go_wp2_with fail
 refine (h2.out _ hf1).mono ?_
 rintro e w2 ⟨rfl,hf2⟩
 by_cases hre:re=0
 ·have d1:(re != 0)=false:=by rw [hre]; rfl
  obtain ⟨b0,o0,a0,c0,hae,hc,-⟩:=hat _ (hf1.trans hf2)
  rw [hr0,DG] at hc
  subst hae
  have z1:(0:Int) < (m.length:Int):=by omega
  have d3:decide ((m.length:Int) > 0)=true:=Ab z1
  clear hat hr0
  generalize m.length=N at *
  by_cases hk:k=n
  ·have d2:((k:Int) != (n:Int))=false:=by rw [hk]; simp
   have hfin:=hZ (e3.out hre hk)
   replace hre:=hZ hre
   replace hk:=hZ hk
   go_wp2_with fail
   go_ret
   exact ⟨Cv hfin.out.symm,hf1.trans hf2⟩
  ·have d2:((k:Int) != (n:Int))=true:=by rw [Bs]; omega
   have hfin:=hZ (e2.out hre hk)
   replace hre:=hZ hre
   replace hk:=hZ hk
   go_wp2_with fail
   go_ret
   exact ⟨Cv hfin.out.symm,hf1.trans hf2⟩
 ·have d1:(re != 0)=true:=by rw [Bs]; exact hre
  have hfin:=hZ (e1.out hre)
  replace hre:=hZ hre
  clear hat
  go_wp2_with fail
  go_ret
  exact ⟨Cv hfin.out.symm,hf1.trans hf2⟩
theorem OI {w:World} {base:Nat} {e:TypeId} {size:Nat} {a:Option Addr} {n c m:Nat} {xs:List Value} (h:w.ownsRow base e size (.slice a n c) m xs):n≤c:=by
 rcases h.2 with ⟨hv,-⟩ | ⟨g,cap,cur,hv,h2⟩
 ·injection hv with _ h1 h2; omega
 ·injection hv with h1 h3 h4
  subst h1; subst h4
  exact (Bo h).2.2.2.1
def WL (w:World) (n:Nat) (g:List (List Int)) (e:Ending) (w':World):Prop:=∃ a c,e=.returned (.tuple #[.agg #[.int .i64 n,.slice a g.length c],.int .i64 0])∧g.length≤c∧(∀ W,Fx (· < w.heap.size) w' W→A5 W a g)∧Fr w w'
theorem Bz.takeC {w:World} {ob oo:Nat} {hs:List (Nat×Nat×Nat)} {g:List (List Int)} (h:Bz w ob oo hs g) (t:Nat):Bz w ob oo (hs.take t) (g.take t):=by
 have key:∀ {α:Type} {l:List α} {i:Nat} {x:α},(l.take t)[i]?=some x→l[i]?=some x:=fun {α l i x} hx=>by
  rw [Bp] at hx
  split at hx
  ·exact hx
  ·cases hx
 exact ⟨by rw [Av,Av,h.len],h.outer,h.gob,fun i hd xs h1 h2=>h.cell i hd xs (key h1) (key h2),fun i hd xs h1 h2=>h.row i hd xs (key h1) (key h2),fun i j hi hj h1 h2=>h.apart i j hi hj (key h1) (key h2)⟩
def BG (g:List (List Int)):Bool:=g.all fun r=>r.all Bq
theorem JS {g:List (List Int)} (h:∀ r,r ∈ g→∀ x,x ∈ r→Bq x=true):BG g=true:=AE.2 fun r hr=>AE.2 (h r hr)
def GM (w:World) (n:Nat) (g:List (List Int)) (e:Ending) (w':World):Prop:=(BG g=true→WL w n g e w')∧(BG g=false→e=.returned (.tuple #[.agg #[.int .i64 0,.slice none 0 0],.int .i64 4])∧Fr w w')
theorem Ra (ob oc tF n:Nat) (hs:List (Nat×Nat×Nat)) (g:List (List Int)) (w:World) (hG:G w) (hg:Bz w ob 0 hs g) (hl:g.length≤1000000) (ht:tF≤g.length) (hr:∀ r,r ∈ g→r.length≤1000000) (hb:∀ r,r ∈ g→∀ x,x ∈ r→(tx x).size≤1000000000) (hE:LW w) :
 Calls Tryz.prog 91 #[.slice (some ⟨ob,0,none⟩) tF oc,.int .i64 n] w (GM w n (g.take tF)):=by
 have hgn:=GB hG
 obtain ⟨i1,ji,jz0,jz1,jz2⟩:=AZ NK
 replace hg:=hZ hg
 replace hr:=hZ hr
 replace hb:=hZ hb
 replace hG:=hZ hG
 go_enter Tryz.func91,Tryz.ntmps91
 go_wp2_with fail
 have htwo:PA ((w.alloc (.cells #[.int .i64 0,.slice none 0 0] 76)).alloc (.cells #[.int .i64 n,.slice none 0 0] 76)) w.heap.size n (.slice none 0 0):=by
  have hfr:Fr (w.alloc (.cells #[.int .i64 0,.slice none 0 0] 76)) ((w.alloc (.cells #[.int .i64 0,.slice none 0 0] 76)).alloc (.cells #[.int .i64 n,.slice none 0 0] 76)):=(Fr.refl _).alloc _
  have p1:=CC w (.int .i64 0) (.slice none 0 0) 76
  have p2:=Ct w (.int .i64 0) (.slice none 0 0) 76
  have p3:=CC (w.alloc (.cells #[.int .i64 0,.slice none 0 0] 76)) (.int .i64 n) (.slice none 0 0) 76
  have p4:=Ct (w.alloc (.cells #[.int .i64 0,.slice none 0 0] 76)) (.int .i64 n) (.slice none 0 0) 76
  rw [AF] at p3 p4
  exact ⟨⟨_,hfr.keep p1.1⟩,⟨_,hfr.keep p2.1⟩,hfr.keepf p1.1 p1.2,hfr.keepf p2.1 p2.2,p3.1,p4.1,p3.2,p4.2⟩
 have hfr0:Fr w ((w.alloc (.cells #[.int .i64 0,.slice none 0 0] 76)).alloc (.cells #[.int .i64 n,.slice none 0 0] 76)):=((Fr.refl _).alloc _).alloc _
 go_loopg [15] tF (fun k s15 wr=>∃ (j:Nat) (hO:List (Nat×Nat×Nat)) (v:Value),s15=.int .i64 j∧j+k=tF∧Fr w wr∧Hid (w.heap.size+2≤wr.heap.size)∧PA wr w.heap.size n v∧GI wr (w.heap.size+2) 33 v hO (g.take j)∧Hid (∀ h,h ∈ hO→w.heap.size+2≤h.1)∧Hid (BG (g.take j)=true))
 case atStart=>exact ⟨0,[],_,rfl,by omega,hfr0,by show _≤_; simp,htwo,GI.nil _ _ _ (by omega),fun h hm=>by simp at hm,rfl⟩
 case round=>
  clear htwo hfr0
  obtain ⟨j,hO,v,rfl,hjk,hf,hsz,htw,hgi,hnew,hfitj⟩:=hrel
  obtain ⟨⟨x0,a0⟩,⟨x1,a1⟩,fa0,fa1,b0,b1,fb0,fb1⟩:=htw
  have htw:=hZ (show PA wr w.heap.size n v from ⟨⟨x0,a0⟩,⟨x1,a1⟩,fa0,fa1,b0,b1,fb0,fb1⟩)
  by_cases hlt:j < tF
  ·have hjl:j < g.length:=by omega
   obtain ⟨rb,ro,rc,e1,ca1,cf1,ro1,bo1⟩:=(hg.out.fr hf).at hjl
   rw [AN] at ca1
   have hsn:=BN (Ac hjl)
   have hrj:=hr.out _ (AG hjl)
   have hsh:=QE g[j] rb ro rc wr ro1.el hrj (hb.out _ (AG hjl)) (hE.fr hf)
   have hrm:g[j] ∈ g.take tF:=BU.2 ⟨j,by rw [Bp,Ai hlt]; exact Ac hjl⟩
   have hgl:(g.take j).length=j:=by rw [Av]; omega
   generalize g[j]=row at *
   obtain ⟨m,hm⟩:∃ m,m=row.length:=⟨_,rfl⟩
   rw [← hm] at ca1 hsh
   replace hm:=hZ hm
   replace hsn:=hZ hsn
   replace hgl:=hZ hgl
   replace hgi:=hZ hgi
   replace ro1:=hZ ro1
   replace e1:=hZ e1
   cases hbr:row.all Bq with
   | false=>
     have hbad:Hid (BG (g.take tF)=false):=hZ (Jt.2 ⟨row,hrm,by rw [hbr]; simp⟩)
     clear hrm b0 b1 fb0 fb1
     replace a0:=hZ a0
     replace a1:=hZ a1
     replace fa0:=hZ fa0
     replace fa1:=hZ fa1
     go_wp2_with fail
     refine hsh.mono ?_
     clear hsh
     rintro e w2 hrr
     obtain ⟨rfl,hf2⟩:=hrr.2 hbr
     clear hrr
     have fa0:=hf2.keepf a0.out fa0.out
     have fa1:=hf2.keepf a1.out fa1.out
     have a0:=hf2.keep a0.out
     have a1:=hf2.keep a1.out
     go_wp2_with fail
     have q0:(w2.setCell ⟨w.heap.size,0,none⟩ (.int .i64 0)).cell? ⟨w.heap.size,0,none⟩=some (.int .i64 0):=Al _ _ _ (by rw [a0]; rfl)
     have e1:(⟨w.heap.size,0,none⟩:Addr)≠⟨w.heap.size,1,none⟩:=fun e=>by injection e with _ e; omega
     have q1:((w2.setCell ⟨w.heap.size,0,none⟩ (.int .i64 0)).setCell ⟨w.heap.size,1,none⟩ (.slice none 0 0)).cell? ⟨w.heap.size,1,none⟩=some (.slice none 0 0):=Al _ _ _ (by rw [Ad _ _ _ _ e1,a1]; rfl)
     refine AP (v:=.tuple #[.agg #[.int .i64 0,.slice none 0 0],.int .i64 4]) (by simp [results,Tryz.results91,go_sem,q0,q1]) rfl ?_
     exact ⟨fun h=>(by rw [hbad.out] at h; cases h),fun _=>⟨rfl,((hf.trans hf2).setCell (p:=⟨w.heap.size,0,none⟩) (by simp) _).setCell (p:=⟨w.heap.size,1,none⟩) (by simp) _⟩⟩
   | true=>
     clear hrm
     clear a0 a1 fa0 fa1 b0 b1 fb0 fb1
     go_wp2_with fail
     refine hsh.mono ?_
     clear hsh
     rintro e w2 hrr
     obtain ⟨gg,c,rfl,hf2,hown2⟩:=hrr.1 hbr
     clear hrr
     obtain ⟨hO2,-,-,hgb,hcp⟩:=DV (As hgn hf.size) hown2
     have hgi2:=hgi.out.fr hf2
     have hne:v.ownBlock≠some gg:=fun e=>by have h9:=(hgi.out.own.lt gg e).2; omega
     have hne2:∀ h',h' ∈ hO→h'.1≠gg:=fun h' hm e2=>by have h9:=hgi.out.lt h' hm; omega
     have hown3:=hgi2.own
     rw [hgl.out] at hown3
     rw [← hm.out]
     have hvb:∀ b,v.ownBlock=some b→w.heap.size+2≤b:=fun b e=>(hgi2.own.lt b e).1
     have htw2:=htw.out.fx (p:=fun _=>False) (Fx.of_fr hf2) (fun e=>e) (fun e=>e)
     obtain ⟨⟨y0,a0⟩,⟨y1,a1⟩,fa0,fa1,b0,b1,fb0,fb1⟩:=htw2
     have htw2:=hZ (show PA w2 w.heap.size n v from ⟨⟨y0,a0⟩,⟨y1,a1⟩,fa0,fa1,b0,b1,fb0,fb1⟩)
     clear a0 a1 fa0 fa1 b0
     replace hgi2:=hZ hgi2
     replace hown2:=hZ hown2
     replace hvb:=hZ hvb
     have hszz:=hsz.out
     have htwA:∀ wA:World,(w2.alloc (.cells #[.slice (some ⟨gg,0,none⟩) m c] 33)).grownBy wA v.ownBlock→PA wA w.heap.size n v:=fun wA hgw=>
      (htw2.out.fx (p:=fun _=>False) (Fx.of_fr ((Fr.refl w2).alloc _)) (fun e=>e) (fun e=>e)).fx (Fx.of_grown hgw) (fun e=>by have:=hvb.out _ e; omega) (fun e=>by have:=hvb.out _ e; omega)
     replace htwA:=hZ htwA
     go_wp2_with (at_builtin; refine wpList_append_lies _ rfl _ _ 27 (by rfl) _ 33 _ _ 1 24 Tryz.underlying27 ji jz0 jz1 jz2 rfl (by decide) _ j _ (by rfl) (Az hown3 _) ⟨w2.heap.size,0,none⟩ 1 1 [.slice (some ⟨gg,0,none⟩) m c] (by rfl) rfl (AK _ _ _ _ (by simp)) (by simp [Value.oneCell']) (by decide) (by unfold maxLen; omega) (by omega) (by have:=(hf.trans hf2).size; have:=hf2.size; simp; omega) (w2.heap.size+1) (by simp) ?_; intro gA capA wA hownA hgrowA hatA hltA; have htw3:=htwA.out wA hgrowA; have hbb:=htw3.b1; have hfb:=htw3.fb1; replace htw3:=hZ htw3)
     have hpush:=(hgi2.out.fr ((Fr.refl w2).alloc _)).pushN (hd:=(gg,0,c)) (hO2.fr ((Fr.refl w2).alloc _)) hne2 hne hgl.out (by unfold Jq; rw [← hm.out]) hownA hgrowA (hatA.imp id (fun e=>by rw [e]; simp))
     rw [← hsn.out] at hpush
     have hfrA:Fr w wA:=(((hf.trans hf2).alloc _)).grown hgrowA (fun k e=>by have:=hvb.out k e; omega)
     have hfx9:Fx (·=w.heap.size+1) wA (wA.setCell ⟨w.heap.size+1,1,none⟩ (.slice (some ⟨gA,0,none⟩) (j+1) capA)):=Fx.setCell (p:=(·=w.heap.size+1)) (q:=⟨w.heap.size+1,1,none⟩) (Fx.refl _ wA) (.inl rfl) _
     have hpush2:=hpush.fx hfx9 (fun b e e2=>by have e3:b=w.heap.size+1:=e2; have h9:=(hpush.own.lt b e).1; omega) (fun hd hm9 e2=>by rcases BD.1 hm9 with h1 | h1; (have e3:hd.1=w.heap.size+1:=e2; have:=hnew.out hd h1; omega); (simp at h1; subst h1; have e3:gg=w.heap.size+1:=e2; omega))
     have htw4:=htw3.out.set (.slice (some ⟨gA,0,none⟩) (j+1) capA)
     have hfr9:Fr w (wA.setCell ⟨w.heap.size+1,1,none⟩ (.slice (some ⟨gA,0,none⟩) (j+1) capA)):=hfrA.setCell (p:=⟨w.heap.size+1,1,none⟩) (by simp) _
     go_roundg (gk - 1)
     case measure=>omega
     case rel=>exact ⟨j+1,_,_,by go_num,by omega,hfr9,hZ (by have h7:=hf2.size; have h8:=hgrowA.size; have h9:=hszz; simp at h8; simp; omega),htw4,hpush2,fun h hm9=>by rcases BD.1 hm9 with h1 | h1; exact hnew.out h h1; (simp at h1; subst h1; exact As hsz.out hgb),by show BG _=true; rw [hsn.out]; unfold BG; rw [WV]; have h1:=hfitj.out; unfold BG at h1; rw [h1]; simp [hbr]⟩
  ·have hd:decide (j < tF)=false:=Aa hlt
   obtain rfl:j=tF:=by omega
   obtain ⟨a9,c9,rfl,-⟩:=C9 hgi.own
   have hgl:(g.take j).length=j:=by rw [Av]; omega
   have hcp9:(g.take j).length≤c9:=OI hgi.own
   rw [hgl] at hgi b1 htw
   go_wp2_with fail
   have q0:(wr.setCell ⟨w.heap.size,0,none⟩ (.int .i64 n)).cell? ⟨w.heap.size,0,none⟩=some (.int .i64 n):=Al _ _ _ (by rw [a0]; rfl)
   have e1:(⟨w.heap.size,0,none⟩:Addr)≠⟨w.heap.size,1,none⟩:=fun e=>by injection e with _ e; omega
   have q1:((wr.setCell ⟨w.heap.size,0,none⟩ (.int .i64 n)).setCell ⟨w.heap.size,1,none⟩ (.slice a9 j c9)).cell? ⟨w.heap.size,1,none⟩=some (.slice a9 j c9):=Al _ _ _ (by rw [Ad _ _ _ _ e1,a1]; rfl)
   refine AP (v:=.tuple #[.agg #[.int .i64 n,.slice a9 j c9],.int .i64 0]) (by simp [results,Tryz.results91,go_sem,q0,q1]) rfl ?_
   refine ⟨fun _=>⟨a9,c9,by rw [hgl],hcp9, ?_,(hf.setCell (p:=⟨w.heap.size,0,none⟩) (by simp) _).setCell (p:=⟨w.heap.size,1,none⟩) (by simp) _⟩,fun h=>(by rw [hfitj.out] at h; cases h)⟩
   have hfx:Fx (·=w.heap.size) wr ((wr.setCell ⟨w.heap.size,0,none⟩ (.int .i64 n)).setCell ⟨w.heap.size,1,none⟩ (.slice a9 j c9)):=Fx.setCell (p:=(·=w.heap.size)) (q:=⟨w.heap.size,1,none⟩) (Fx.setCell (p:=(·=w.heap.size)) (q:=⟨w.heap.size,0,none⟩) (Fx.refl _ wr) (.inl rfl) _) (.inl rfl) _
   intro W hW
   exact ((hgi.fx hfx (fun b e e2=>by have e3:b=w.heap.size:=e2; have h9:=(hgi.own.lt b e).1; omega) (fun hd hm9 e2=>by have e3:hd.1=w.heap.size:=e2; have:=hnew.out hd hm9; omega)).fx hW (fun b e e2=>by have e3:b < w.heap.size:=e2; have h9:=(hgi.own.lt b e).1; omega) (fun hd hm9 e2=>by have e3:hd.1 < w.heap.size:=e2; have:=hnew.out hd hm9; omega)).mat
theorem YS (m gF:List (List Int)) (F tF:Nat) (a:Option Addr) (cap n:Nat) (w:World) (hG:G w) (hm:A5 w a m) (hok:EI n m) (hml:0 < m.length) (hn:1≤n) (hF:CF F n 0 m 0=some (gF,tF)) (hfF:∀ r,r ∈ gF.take tF→∀ x,x ∈ r→(tx x).size≤1000000000) (hE:LW w) :
 Calls Tryz.prog 48 #[.int .i64 n,.slice a m.length cap] w (GM w n (gF.take tF)):=by
 have hfit:=hok.2.2.2
 have hr1:=hok.2.2.1
 have hsm:∀ r,r ∈ m→∀ y,y ∈ r→Sm y:=fun r hr y hy=>UE (hfit r hr y hy)
 have hn12:=hok.2.1
 have hm12:=hok.1
 have hrl:∀ r,r ∈ m→r.length≤1000000:=fun r hr=>by rw [hr1 r hr]; omega
 have hRE:∀ r,r ∈ m→CA r=0:=fun r hr=>
  IX (by rw [hr1 r hr]; omega) (by
   rw [CO]
   intro y hy
   rw [hfit r hr y hy]; simp)
 have hchk:=fun W hW=>HE m a cap n W (hm.fr (w':=W) hW) hr1 (by omega) hRE hn12
 have hlongs:=fun W hW=>Fi m a cap W (hG.fr hW) (hm.fr hW) hrl (by omega) hsm
 have hform:=fun ob oc hs W hgW hg hoc=>Lv ob 0 oc hs m gF F n n tF W hgW hg hr1 (by omega) (by omega) (Ah n) hoc hF
 have hG1:=hZ hG
 obtain ⟨N,hN⟩:∃ N,N=m.length:=⟨_,rfl⟩
 rw [← hN] at hchk hlongs hform hml hm12 ⊢
 replace hN:=hZ hN
 replace hfF:=hZ hfF
 replace hfit:=hZ hfit
 replace hrl:=hZ hrl
 replace hchk:=hZ hchk
 replace hlongs:=hZ hlongs
 replace hform:=hZ hform
 clear hm hok hG hr1 hsm hRE
 have hgn:=GB hG1.out
 go_enter Tryz.func48,Tryz.ntmps48
 go_wp2_with fail
 refine (hchk.out _ ((Fr.refl w).alloc _)).mono ?_
 rintro e w1 ⟨rfl,hf1⟩
 go_wp2_with fail
 refine (hlongs.out _ (((Fr.refl w).alloc _).trans hf1)).mono ?_
 rintro e w2 ⟨v,hs,rfl,hgg,hnew,hf2⟩
 obtain ⟨ob,oc,rfl⟩:=C5 hgg.own (by rw [← hN.out]; exact hml)
 obtain ⟨hg,-,hgb,hgc⟩:=hgg.grid
 clear hgg
 have hG2:=hG1.out.fr ((((Fr.refl w).alloc _).trans hf1).trans hf2)
 replace hG2:=hZ hG2
 rw [← hN.out] at hgc ⊢
 have hg9:=hZ hg
 go_wp2_with fail
 refine (hform.out ob oc hs _ hG2.out hg9.out hgc).mono ?_
 rintro e w3 ⟨rfl,htl,hgl,hrF,hs',hsame,hfx3,hg3⟩
 replace hg3:=hZ (hg3.takeC tF)
 replace hrF:=hZ hrF
 replace hsame:=hZ hsame
 have hfr3:Fr (w.alloc (.cells #[.int .i64 0,.slice none 0 0] 76)) w3:=((Fx.of_fr (hf1.trans hf2)).trans hfx3).toFr (fun k hk e=>by
  have h1:=hf1.size
  rcases e with rfl | ⟨h,hm9,rfl⟩
  ·omega
  ·have:=hnew.out h hm9; omega)
 have hlt:(gF.take tF).length=tF:=by rw [Av]; omega
 have hsh:=hZ (Ra ob oc tF n (hs'.take tF) (gF.take tF) w3 (hG1.out.fr (((Fr.refl w).alloc _).trans hfr3)) hg3.out (by omega) (by omega) (fun r hr=>by rw [hrF.out r (BZ hr)]; omega) hfF.out (hE.fr (((Fr.refl w).alloc _).trans hfr3)))
 rw [Ao (by omega)] at hsh
 replace hlt:=hZ hlt
 go_wp2_with fail
 cases hbr:BG (gF.take tF) with
 | false=>
   replace hbr:=hZ hbr
   refine hsh.out.mono ?_
   rintro e w4 hrr
   obtain ⟨rfl,hf4⟩:=hrr.2 hbr.out
   clear hrr
   have p1:=CC w (.int .i64 0) (.slice none 0 0) 76
   have p2:=Ct w (.int .i64 0) (.slice none 0 0) 76
   have c1:=(hfr3.trans hf4).keep p1.1
   have c2:=(hfr3.trans hf4).keep p2.1
   have c3:=(hfr3.trans hf4).keepf p1.1 p1.2
   have c5:=(hfr3.trans hf4).keepf p2.1 p2.2
   clear p1 p2
   go_wp2_with fail
   have e1:(⟨w.heap.size,0,none⟩:Addr)≠⟨w.heap.size,1,none⟩:=fun e=>by injection e with _ e; omega
   have q0:(w4.setCell ⟨w.heap.size,0,none⟩ (.int .i64 0)).cell? ⟨w.heap.size,0,none⟩=some (.int .i64 0):=Al _ _ _ (by rw [c1]; rfl)
   have q1:((w4.setCell ⟨w.heap.size,0,none⟩ (.int .i64 0)).setCell ⟨w.heap.size,1,none⟩ (.slice none 0 0)).cell? ⟨w.heap.size,1,none⟩=some (.slice none 0 0):=Al _ _ _ (by rw [Ad _ _ _ _ e1,c2]; rfl)
   have hfw:Fr w w4:=((Fr.refl w).alloc _).trans (hfr3.trans hf4)
   refine AP (v:=.tuple #[.agg #[.int .i64 0,.slice none 0 0],.int .i64 4]) (by simp [results,Tryz.results48,go_sem,q0,q1]) rfl ?_
   exact ⟨fun h=>(by rw [hbr.out] at h; cases h),fun _=>⟨rfl,(hfw.setCell (p:=⟨w.heap.size,0,none⟩) (by simp) _).setCell (p:=⟨w.heap.size,1,none⟩) (by simp) _⟩⟩
 | true=>
   replace hbr:=hZ hbr
   refine hsh.out.mono ?_
   rintro e w4 hrr
   obtain ⟨a4,c4,rfl,hcp4,hm4,hf4⟩:=hrr.1 hbr.out
   clear hrr
   rw [hlt.out] at hcp4 ⊢
   have p1:=CC w (.int .i64 0) (.slice none 0 0) 76
   have p2:=Ct w (.int .i64 0) (.slice none 0 0) 76
   have c1:=(hfr3.trans hf4).keep p1.1
   have c2:=(hfr3.trans hf4).keep p2.1
   have c3:=(hfr3.trans hf4).keepf p1.1 p1.2
   have c5:=(hfr3.trans hf4).keepf p2.1 p2.2
   replace hm4:=hZ hm4
   clear p1 p2
   go_wp2_with fail
   have e1:(⟨w.heap.size,0,none⟩:Addr)≠⟨w.heap.size,1,none⟩:=fun e=>by injection e with _ e; omega
   have q0:(w4.setCell ⟨w.heap.size,0,none⟩ (.int .i64 n)).cell? ⟨w.heap.size,0,none⟩=some (.int .i64 n):=Al _ _ _ (by rw [c1]; rfl)
   have q1:((w4.setCell ⟨w.heap.size,0,none⟩ (.int .i64 n)).setCell ⟨w.heap.size,1,none⟩ (.slice a4 tF c4)).cell? ⟨w.heap.size,1,none⟩=some (.slice a4 tF c4):=Al _ _ _ (by rw [Ad _ _ _ _ e1,c2]; rfl)
   have hfw:Fr w w4:=((Fr.refl w).alloc _).trans (hfr3.trans hf4)
   refine AP (v:=.tuple #[.agg #[.int .i64 n,.slice a4 tF c4],.int .i64 0]) (by simp [results,Tryz.results48,go_sem,q0,q1]) rfl ?_
   refine ⟨fun _=>⟨a4,c4,by rw [hlt.out],by rw [hlt.out]; exact hcp4, ?_,(hfw.setCell (p:=⟨w.heap.size,0,none⟩) (by simp) _).setCell (p:=⟨w.heap.size,1,none⟩) (by simp) _⟩,fun h=>(by rw [hbr.out] at h; cases h)⟩
   have hfx:Fx (·=w.heap.size) w4 ((w4.setCell ⟨w.heap.size,0,none⟩ (.int .i64 n)).setCell ⟨w.heap.size,1,none⟩ (.slice a4 tF c4)):=Fx.setCell (p:=(·=w.heap.size)) (q:=⟨w.heap.size,1,none⟩) (Fx.setCell (p:=(·=w.heap.size)) (q:=⟨w.heap.size,0,none⟩) (Fx.refl _ w4) (.inl rfl) _) (.inl rfl) _
   have hs3:=hfr3.size
   have hs3:w.heap.size < w3.heap.size:=by simp at hs3; omega
   intro W hW
   exact hm4.out W ((hfx.mono (fun k e=>by have e2:k=w.heap.size:=e; show k < _; omega)).trans (hW.mono (fun k e=>by have e2:k < w.heap.size:=e; show k < _; omega)))
theorem HM (m:List (List Int)) (a:Option Addr) (cap n:Nat) (w:World) (hm:A5 w a m) (hT:EI n m) (hcap:m.length≤cap) (hok:ET m=true) :
 Calls Tryz.prog 65 #[.agg #[.int .i64 n,.slice a m.length cap]] w fun e w'=>e=.returned (.int .i64 0)∧Fr w w':=by
 have hfit:=hT.2.2.2
 have hr1:=hT.2.2.1
 have hn12:=hT.2.1
 have hm12:=hT.1
 have hRE:∀ r,r ∈ m→CA r=0:=fun r hr=>
  IX (by rw [hr1 r hr]; omega) (by
   rw [CO]
   intro y hy
   rw [hfit r hr y hy]; simp)
 have hchk:=fun W hW=>HE m a cap n W (hm.fr (w':=W) hW) hr1 (by omega) hRE hn12
 have hfo:=fun W hW=>JX m a cap n W (hm.fr (w':=W) hW) hT hcap hok
 have hfA:Fr w (w.alloc (.cells #[.int .i64 n,.slice a m.length cap] 76)):=(Fr.refl w).alloc _
 have p1:=CC w (.int .i64 n) (.slice a m.length cap) 76
 have p2:=Ct w (.int .i64 n) (.slice a m.length cap) 76
 generalize m.length=N at *
 replace hchk:=hZ hchk
 replace hfo:=hZ hfo
 replace hfA:=hZ hfA
 have c1:=p1.1
 have c2:=p2.1
 clear p1 p2 hm hT hok hr1 hfit hRE
 go_enter Tryz.func65,Tryz.ntmps65
 go_wp2_with fail
 refine (hchk.out _ hfA.out).mono ?_
 rintro e w1 ⟨rfl,hf1⟩
 replace c2:=hf1.keep c2
 go_wp2_with fail
 refine (hfo.out _ (hfA.out.trans hf1)).mono ?_
 rintro e w2 ⟨rfl,hf2⟩
 go_wp2_with fail
 go_ret
 exact ⟨rfl,(hfA.out.trans hf1).trans hf2⟩
def YA:Nat→Int→Int→Bool
 | 0,_,_=>true
 | k+1,n,d=>if d * d≤n then (if n.tmod d=0 then false else YA k n (d+1)) else true
def G5 (n:Int):Bool:=if n < 2∨97 < n then false else YA 10 n 2
theorem PK (n:Int) (w:World):Calls Tryz.prog 83 #[.int .i64 n] w fun e w'=>e=.returned (.bool (G5 n))∧w'=w:=by
 obtain ⟨b,hb⟩:∃ b,b=G5 n:=⟨_,rfl⟩
 rw [← hb]
 unfold G5 at hb
 go_enter Tryz.func83,Tryz.ntmps83
 by_cases h1:n < 2
 ·rw [Ai (.inl h1)] at hb
  subst hb
  have d1:decide (n < 2)=true:=Ab h1
  go_wp2_with fail
  go_ret
  exact ⟨rfl,rfl⟩
 ·have d1:decide (n < 2)=false:=Aa h1
  by_cases h2:97 < n
  ·rw [Ai (.inr h2)] at hb
   subst hb
   have d2:decide (97 < n)=true:=Ab h2
   go_wp2_with fail
   go_ret
   exact ⟨rfl,rfl⟩
  ·have d2:decide (97 < n)=false:=Aa h2
   rw [Ag (by omega)] at hb
   replace hb:=hZ hb
   go_wp2_with fail
   go_loopg [3] 10 (fun k s3 wr=>∃ d:Nat,s3=.int .i64 d∧d+k=12∧2≤d∧Hid (b=YA k n d)∧wr=w)
   case atStart=>exact ⟨2,rfl,rfl,by omega,hb,rfl⟩
   case round=>
    obtain ⟨d,rfl,hdk,hd2,hbk,rfl⟩:=hrel
    have hm0:(d:Int) * d≤144:=by
     have:=AD (show d≤12 by omega) (show d≤12 by omega)
     have e:((d * d:Nat):Int)=(d:Int) * d:=AM d d
     omega
    have hm1:(0:Int)≤(d:Int) * d:=BR (by omega) (by omega)
    have w1:IntKind.i64.wrap ((d:Int) * (d:Int))=(d:Int) * d:=Ak _ (by omega)
    by_cases hc:(d:Int) * d≤n
    ·have hdc:decide ((d:Int) * d≤n)=true:=Ab hc
     obtain ⟨k,rfl⟩:∃ k,gk=k+1:=by
      cases gk with
      | zero=>obtain rfl:d=12:=by omega
              exact absurd hc (by omega)
      | succ k=>exact ⟨k,rfl⟩
     have hb2:=hbk.out
     rw [YA,Ai hc] at hb2
     have z0:(d:Int)≠0:=by omega
     have zt:((d:Int) == 0)=false:=by rw [Cj]; exact z0
     have ht1:n.tmod d < d:=Q0 _ (by omega)
     have ht2:0≤n.tmod d:=WW _ (by omega)
     have he9:n.tmod d=n % d:=ID (by omega)
     rw [he9] at hb2 ht1 ht2
     clear he9
     by_cases hz:n % (d:Int)=0
     ·rw [Ai hz] at hb2
      have hzd:(n % (d:Int) == 0)=true:=by rw [hz]; rfl
      subst hb2
      go_wp2_with fail
      go_ret
      exact ⟨rfl,rfl⟩
     ·rw [Ag hz] at hb2
      have hzd:(n % (d:Int) == 0)=false:=by rw [Cj]; exact hz
      replace hb2:=hZ hb2
      go_wp2_with fail
      go_roundg k
      case measure=>omega
      case rel=>exact ⟨d+1,by go_num,by omega,by omega,hb2,rfl⟩
    ·have hdc:decide ((d:Int) * d≤n)=false:=Aa hc
     have hb2:b=true:=by
      have h:=hbk.out
      cases gk with
      | zero=>exact h
      | succ k=>rw [YA,Ag hc] at h; exact h
     subst hb2
     go_wp2_with fail
     go_ret
     exact ⟨rfl,rfl⟩
def OA:Option Int→List Int→Int
 | _,[]=>0
 | none,x :: xs=>if G5 x then OA (some x) xs else 25
 | some y,x :: xs=>if G5 x then (if x≤y then 6 else OA (some x) xs) else 25
def BQ (P:List Int):Int:=if P.length=0 then 13 else if 6 < P.length then 4 else OA none P
def Yj (P:List Int):Nat→Option Int
 | 0=>none
 | k+1=>P[k]?
theorem Rm {o:Option Int} {x:Int} {xs:List Int} (h:G5 x=false):OA o (x :: xs)=25:=by
 cases o <;> simp [OA,h]
theorem Rl {x y:Int} {xs:List Int} (h:G5 x=true) (h2:x≤y):OA (some y) (x :: xs)=6:=by simp [OA,h,h2]
theorem T0 {x y:Int} {xs:List Int} (h:G5 x=true) (h2:¬ x≤y):OA (some y) (x :: xs)=OA (some x) xs:=by simp [OA,h,h2]
theorem Rj {x:Int} {xs:List Int} (h:G5 x=true):OA none (x :: xs)=OA (some x) xs:=by simp [OA,h]
theorem Ha (P:List Int) (a:Option Addr) (cap:Nat) (w:World) (hP:El w iv a P) (hl:P.length≤1000000) :
 Calls Tryz.prog 44 #[.slice a P.length cap] w fun e w'=>e=.returned (.int .i64 (BQ P))∧w'=w:=by
 obtain ⟨n,hn⟩:∃ n,n=P.length:=⟨_,rfl⟩
 obtain ⟨q,hq⟩:∃ q,q=BQ P:=⟨_,rfl⟩
 rw [← hq,← hn]
 unfold BQ at hq
 rw [← hn] at hq hl
 by_cases h0:n=0
 ·rw [Ai h0] at hq
  subst hq
  have d0:((n:Int) == 0)=true:=by rw [h0]; rfl
  clear hn hP
  go_enter Tryz.func44,Tryz.ntmps44
  go_wp2_with fail
  go_ret
  exact ⟨rfl,rfl⟩
 ·have d0:((n:Int) == 0)=false:=by rw [Cj]; omega
  rw [Ag h0] at hq
  by_cases h6:6 < n
  ·rw [Ai h6] at hq
   subst hq
   have d1:decide ((6:Int) < (n:Int))=true:=Ab (by omega)
   clear hn hP
   go_enter Tryz.func44,Tryz.ntmps44
   go_wp2_with fail
   go_ret
   exact ⟨rfl,rfl⟩
  ·have d1:decide ((6:Int) < (n:Int))=false:=Aa (by omega)
   rw [Ag h6] at hq
   replace hq:=hZ hq
   replace hn:=hZ hn
   replace hP:=hZ hP
   go_enter Tryz.func44,Tryz.ntmps44
   go_wp2_with fail
   go_loopg [15] n (fun k s15 wr=>∃ i:Nat,s15=.int .i64 i∧i+k=n∧Hid (q=OA (Yj P i) (P.drop i))∧wr=w)
   case atStart=>exact ⟨0,rfl,by omega,hq.out,rfl⟩
   case round=>
    obtain ⟨i,rfl,hik,hb,rfl⟩:=hrel
    by_cases hi:i < n
    ·have hdI:decide (i < n)=true:=Ab hi
     obtain ⟨b1,o1,x,rfl,hbl,hx,hc⟩:=hP.out.at (i:=i) (by rw [← hn.out]; exact hi)
     have Jq:P.drop i=x :: P.drop (i+1):=by
      obtain ⟨h1,h2⟩:=Ae.1 hx
      rw [← h2]; exact Dx h1
     have hip:=PK x wr
     have hb2:=hb.out
     rw [Jq] at hb2
     have hx2:Yj P (i+1)=some x:=hx
     replace hx:=hZ hx
     replace hx2:=hZ hx2
     replace Jq:=hZ Jq
     have z0:(0:Int)≤(i:Int):=Aj _
     have z1:(i:Int) < (n:Int):=by omega
     cases hp:G5 x with
     | false=>
       rw [Rm hp] at hb2
       subst hb2
       rw [hp] at hip
       clear hb
       go_wp2_with fail
       refine hip.mono ?_
       rintro e w' ⟨rfl,rfl⟩
       go_wp2_with fail
       go_ret
       exact ⟨rfl,rfl⟩
     | true=>
       rw [hp] at hip
       by_cases h00:i=0
       ·have d2:decide (0 < i)=false:=Aa (by omega)
        have hb3:Hid (q=OA (Yj P (i+1)) (P.drop (i+1))):=by
         show _=_
         rw [hx2.out,hb2,h00]; exact Rj hp
        clear hb2 h00
        go_wp2_with fail
        refine hip.mono ?_
        rintro e w' ⟨rfl,rfl⟩
        go_wp2_with fail
        go_roundg (gk - 1)
        case measure=>omega
        case rel=>exact ⟨i+1,by go_num,by omega,hb3,rfl⟩
       ·have d2:decide (0 < i)=true:=Ab (by omega)
        obtain ⟨j,hj⟩:∃ j,i=j+1:=⟨i - 1,by omega⟩
        obtain ⟨b2,o2,y,hae,-,hy,hcy⟩:=hP.out.at (i:=j) (by rw [← hn.out]; omega)
        injection hae with hae
        injection hae with e1 e2
        subst e1; subst e2
        have hy2:Yj P i=some y:=by rw [hj]; exact hy
        rw [hy2] at hb2
        rw [show j=i - 1 by omega] at hcy
        have z2:(0:Int)≤(i:Int) - 1:=by omega
        have z3:(i:Int) - 1 < (n:Int):=by omega
        replace hy:=hZ hy
        replace hy2:=hZ hy2
        replace hj:=hZ hj
        by_cases hxy:x≤y
        ·have d3:decide (x≤y)=true:=Ab hxy
         rw [Rl hp hxy] at hb2
         subst hb2
         clear hb h00
         go_wp2_with fail
         refine hip.mono ?_
         rintro e w' ⟨rfl,rfl⟩
         go_wp2_with fail
         go_ret
         exact ⟨rfl,rfl⟩
        ·have d3:decide (x≤y)=false:=Aa hxy
         have hb3:Hid (q=OA (Yj P (i+1)) (P.drop (i+1))):=by
          show _=_
          rw [hx2.out,hb2]; exact T0 hp hxy
         clear hb2 h00 hxy
         go_wp2_with fail
         refine hip.mono ?_
         rintro e w' ⟨rfl,rfl⟩
         go_wp2_with fail
         go_roundg (gk - 1)
         case measure=>omega
         case rel=>exact ⟨i+1,by go_num,by omega,hb3,rfl⟩
    ·obtain rfl:i=n:=by omega
     have hdI:decide (i < i)=false:=Aa (by omega)
     have hb2:q=0:=by
      have h:=hb.out
      rw [Zr (by rw [← hn.out]; exact Ah _)] at h
      rw [h]
      cases Yj P i <;> rfl
     subst hb2
     clear hb
     go_wp2_with fail
     go_ret
     exact ⟨rfl,rfl⟩
def KA:Nat:=Lr 4 1000000000
def KB:Nat:=Lr 4 KA
def FX:Nat:=KB+1
theorem Df:1000000000≤KA:=Iv 4 1000000000 (by decide)
theorem Xn:KA≤KB:=Iv 4 KA (by have:=Df; omega)
theorem QN:KB < Mm:=by
 have h1:KA≤10 ^ Yo 4 9:=Qr 4 9 1000000000 (by decide)
 have h2:KB≤10 ^ Yo 4 (Yo 4 9):=Qr 4 (Yo 4 9) KA h1
 exact A4 h2 (XR (by decide))
def Dj (n:Nat) (m:List (List Int)):List (List Int):=(Dc FX n m).getD []
theorem D5 {n B:Nat} {m:List (List Int)} (hn:n≤4) (h1:1≤B) (hB:B≤KA) (hb:∀ r,r ∈ m→∀ x,x ∈ r→x.natAbs≤B):∃ gW p t r,PI FX n m.length (Lr n B) m gW (Dj n m) p t r:=by
 have h2:Lr n B≤KB:=As (NH h1 hn) (Lq 4 hB)
 obtain ⟨gW,K,p,t,r,h⟩:=Um (F:=FX) h1 hb (A4 h2 QN) (by unfold FX; omega)
 have e:Dj n m=K:=by unfold Dj; rw [h.out]; rfl
 exact ⟨gW,p,t,r,by rw [e]; exact h⟩
theorem HU {F n d B:Nat} {m gW K:List (List Int)} {p:Nat→Nat} {t r:Nat} (h:PI F n d B m gW K p t r):K.length≤n:=by
 have h1:=h.klen; have h2:=h.ech.le; have h3:=h.len; omega
theorem Pg {p:Nat→Nat} {c t:Nat} {g:List (List Int)} (h:FU p c t g) {i:Nat} (hi:i < t):Eu (BT g i)=p i:=h.lead hi
theorem Ly {p:Nat→Nat} {c:Nat} {g:List (List Int)} (h:FU p c g.length g):ET g=true:=by
 refine AE.2 fun i hi=>?_
 have hi:=BH.1 hi
 simp only [Bm,Jr]
 rw [Pg h hi,AR]
 refine ⟨⟨⟨by omega,by have:=h.pos i hi; show 0≤AC g i (p i); omega⟩, ?_⟩,AE.2 fun x hx=>?_⟩
 ·split
  ·omega
  ·rw [Pg h (show i - 1 < g.length by omega)]
   have:=h.inc (i - 1) i (by omega) hi
   omega
 ·obtain ⟨j,hj⟩:=BJ hx
  have hjl:=(Ae.1 hj).1
  rw [Av] at hjl
  rw [Bp,Ai (by omega)] at hj
  have e:x=BT g j:=by unfold BT; rw [hj]; rfl
  have h9:=h.up j i (by omega) hi
  unfold Ke
  rw [e,Gi,Bool.or_eq_false_iff]
  exact ⟨Aa (by show ¬ AC g j (p i) < 0; omega),Aa (by show ¬ AC g i (p i)≤AC g j (p i); omega)⟩
def H7 (n:Nat) (m:List (List Int)):List (List Int):=((CF FX n 0 m 0).map fun r=>r.1.take r.2).getD []
theorem MJ {n B:Nat} {m:List (List Int)} (hm:m.length≤4) (hr:Bx n m) (h1:1≤B) (hB:B≤KA) (hb:∀ r,r ∈ m→∀ x,x ∈ r→x.natAbs≤B):∃ gF tF p,CF FX n 0 m 0=some (gF,tF)∧H7 n m=gF.take tF∧tF≤m.length∧FU p n tF gF∧Bx n gF∧gF.length=m.length∧∀ r,r ∈ gF→∀ x,x ∈ r→x.natAbs≤KB:=by
 have h2:Lr m.length B≤KB:=As (NH h1 hm) (Lq 4 hB)
 obtain ⟨gF,tF,k1,k2⟩:=HZ (F:=FX) (m:=m.length) n 0 0 B m hr rfl h1 (by rw [DD]; exact A4 h2 QN) (by rw [DD]; unfold FX; omega) (fun i _ k=>UI hb i k)
 obtain ⟨p,e1,e2,e3,-⟩:=GC _ 0 0 m gF tF (fun _=>0) hr (FU.init _ _) k1
 rw [AN] at e1
 refine ⟨gF,tF,p,k1,by unfold H7; rw [k1]; rfl,by have:=e1.le; omega,e1,e2,e3,U0 fun i hi k=>?_⟩
 have:=k2 i (by omega) k
 rw [DD] at this
 exact As this h2
structure Tg (P:List Int) (C M:List (List Int)):Prop where
 n1:1≤P.length
 n4:P.length≤4
 prime:BQ P=0
 tabC:EI P.length C
 tabM:EI P.length M
 formC:ET C=true
 formM:ET M=true
 ann:Dc FX P.length C=some M
 sat:Dc FX P.length M=some C
theorem Gc {m:List (List Int)} (h:BG m=true):∀ r,r ∈ m→∀ x,x ∈ r→x.natAbs≤1000000000:=fun r hr x hx=>by
 have h1:=AE.1 (AE.1 h r hr) x hx
 unfold Bq at h1
 have:=AL h1
 omega
theorem KM {m:List (List Int)} (h:BG m=true):∀ r,r ∈ m→∀ x,x ∈ r→Bq x=true:=fun r hr x hx=>AE.1 (AE.1 h r hr) x hx
theorem VZ {P:List Int} {L:List (List Int)} (h1:1≤P.length) (h4:P.length≤4) (hp:BQ P=0) (hL:BG L=true) (hr:Bx P.length L) (hA:BG (Dj P.length L)=true) (hS:BG (Dj P.length (Dj P.length L))=true) :
 Tg P (Dj P.length (Dj P.length L)) (Dj P.length L)∧Tg P (Dj P.length L) (Dj P.length (Dj P.length L)):=by
 have a0:=Df
 obtain ⟨g1,p1,t1,r1,k1⟩:=D5 (n:=P.length) h4 (by decide) a0 (Gc hL)
 obtain ⟨g2,p2,t2,r2,k2⟩:=D5 (n:=P.length) h4 (by decide) a0 (Gc hA)
 obtain ⟨g3,p3,t3,r3,k3⟩:=D5 (n:=P.length) h4 (by decide) a0 (Gc hS)
 have e3:=Qk hr k1 k2 k3
 have l1:=HU k1
 have l2:=HU k2
 have o3:=k3.out
 rw [e3] at o3
 have f1:=Ly k1.kech
 have f2:=Ly k2.kech
 have T1:EI P.length (Dj P.length L):=⟨by omega,by omega,k1.krect,KM hA⟩
 have T2:EI P.length (Dj P.length (Dj P.length L)):=⟨by omega,by omega,k2.krect,KM hS⟩
 exact ⟨⟨h1,h4,hp,T2,T1,f2,f1,o3,k2.out⟩,⟨h1,h4,hp,T1,T2,f1,f2,k2.out,o3⟩⟩
def FF (x v:List Int):Nat→Int
 | 0=>0
 | k+1=>FF x v k+(x[k]?).getD 0 * (v[k]?).getD 0
theorem RJ {x v:List Int} (hx:∀ y,y ∈ x→Bq y=true) (hv:∀ y,y ∈ v→Bq y=true):∀ k,(FF x v k).natAbs≤k * 1000000000000000000
 | 0=>by rw [FF]; omega
 | k+1=>by
   have ih:=RJ hx hv k
   have bd:∀ (l:List Int) (j:Nat),(∀ y,y ∈ l→Bq y=true)→((l[j]?).getD 0).natAbs≤1000000000:=fun l j hl=>by
    cases e:l[j]? with
    | none=>simp
    | some y=>
      have:=hl y (Af e)
      unfold Bq at this
      have:=AL this
      rw [BB]; omega
   have h1:=AD (bd x k hx) (bd v k hv)
   rw [← Be] at h1
   rw [FF]
   omega
end Go.Proofs.YtiniigadkknboaaGreatDoor
