/- Contracts and laws: VJ. -/
import Derived.Test.YtmalpgbbddkdcaaGreatDoorVE
import Derived.Test.YtmalpgbbddkdcaaGreatDoorVB
import Derived.Test.YtmalpgbbddkdcaaGreatDoorVC

set_option maxRecDepth 100000
set_option maxHeartbeats 4000000
namespace Go.Proofs.YtmalpgbbddkdcaaGreatDoor
open Go.RowKit Go.Lib
attribute [local go_sem ↓] Go.wp_at_zero Go.wp_at_succ
theorem hpivot1_pred (w:World) (xs:List Int):Pred w 256 #[] iv (fun x=>x != 0) xs:=fun x W _ _=>by
 show Calls Tryz.prog 256 #[.int .i64 x] W fun e W'=>e=.returned (.bool (x != 0))∧Fr W W'
 go_enter Tryz.func256,Tryz.ntmps256
 go_wp2_with fail
 go_ret
 exact ⟨rfl,Fr.refl _⟩
def pivI (xs:List Int):Int:=idx (fun x=>x != 0) xs
theorem pivI_at {xs:List Int} (h:0≤pivI xs):∃ p:Nat,pivI xs=p∧p < xs.length:=by
 unfold pivI at h ⊢
 rcases idx_cases (fun x:Int=>x != 0) xs with ⟨h1,-⟩ | ⟨k,x,h1,h2,-⟩
 ·rw [h1] at h; omega
 ·exact ⟨k,h1,(List.getElem?_eq_some_iff.1 h2).1⟩
theorem hpivot_any (xs:List Int) (a:Option Addr) (cap:Nat) (w:World) (hx:El w iv a xs) (hl:xs.length≤1000000000) :
 Calls Tryz.prog 204 #[.slice a xs.length cap] w fun e w'=>e=.returned (.int .i64 (pivI xs))∧Fr w w':=by
 have eg:∀ args w,(callFunc 256 args).run Tryz.prog w=.ok (.enter 256 args) w:=enters_of Tryz.func256 (by kernel_rfl) rfl
 have hc:=IndexFunc_row xs a cap 256 #[] (fun x=>x != 0) w eg hx hl (hpivot1_pred w xs)
 replace eg:=hZ eg
 go_enter Tryz.func204,Tryz.ntmps204
 go_wp2_with fail
 refine hc.mono ?_
 rintro e w' ⟨rfl,hf⟩
 go_wp2_with fail
 go_ret
 exact ⟨rfl,hf⟩
structure Rw where
 a:Option Addr
 row:List Int
 c:Nat
abbrev Rw.enc (x:Rw):Value:=.slice x.a x.row.length x.c
theorem rws_aux:∀ (m:List (List Int)) (P:Nat→Option Addr→Nat→List Int→Prop),(∀ (i:Nat) (xs:List Int),m[i]?=some xs→∃ a' c',P i a' c' xs)→∃ L:List Rw,L.map Rw.row=m∧∀ (i:Nat) (x:Rw),L[i]?=some x→P i x.a x.c x.row
 | [],P,_=>⟨[],rfl,fun i x h=>by simp at h⟩
 | r :: m,P,h=>by
   obtain ⟨a0,c0,h0⟩:=h 0 r rfl
   obtain ⟨L,h1,h2⟩:=rws_aux m (fun i=>P (i+1)) (fun i xs hx=>h (i+1) xs hx)
   refine ⟨⟨a0,r,c0⟩ :: L,by rw [List.map_cons,h1],fun i x hx=>?_⟩
   match i,hx with
   | 0,hx=>simp at hx; subst hx; exact h0
   | i+1,hx=>exact h2 i x (by simpa using hx)
theorem rws_of {w:World} {a:Option Addr} {m:List (List Int)} (h:MatIs w a m):∃ L:List Rw,L.map Rw.row=m∧El w Rw.enc a L∧∀ x,x ∈ L→El w iv x.a x.row:=by
 rcases h with rfl | ⟨b,o,ha,hb,hc⟩
 ·exact ⟨[],rfl,.inl rfl,fun x hx=>by cases hx⟩
 ·obtain ⟨L,h1,h2⟩:=rws_aux m (fun i a' c' xs=>w.cell? ⟨b,o+i,none⟩=some (.slice a' xs.length c')∧El w iv a' xs) hc
  refine ⟨L,h1,.inr ⟨b,o,ha,hb,fun i x hx=>(h2 i x hx).1⟩,fun x hx=>?_⟩
  obtain ⟨i,hi⟩:=List.getElem?_of_mem hx
  exact (h2 i x hi).2
theorem El.takeG {α:Type} {w:World} {enc:α→Value} {a:Option Addr} {xs:List α} (h:El w enc a xs) (k:Nat):El w enc a (xs.take k):=by
 rcases h with rfl | ⟨b,o,ha,hb,hc⟩
 ·exact .inl List.take_nil
 ·refine .inr ⟨b,o,ha,hb,fun i x hx=>hc i x ?_⟩
  rw [List.getElem?_take] at hx
  split at hx
  ·exact hx
  ·cases hx
theorem IndexFunc_mat (xs:List Rw) (a:Option Addr) (cap:Nat) (g:Nat) (lb:Array Value) (p:Rw→Bool) (w:World)
 (eg:∀ args w,(callFunc g args).run Tryz.prog w=.ok (.enter g args) w) (hx:El w Rw.enc a xs) (hl:xs.length≤1000000000) (hp:Pred w g lb Rw.enc p xs) :
 Calls Tryz.prog 257 #[.slice a xs.length cap,.func (.func g) #[] lb] w fun e w'=>e=.returned (.int .i64 (idx p xs))∧Fr w w':=by
 go_enter Tryz.func257,Tryz.ntmps257
 go_wp2
 go_loopw [5,8] (fun _ s8 wr=>∃ k:Nat,s8=.int .i64 k∧k≤xs.length∧Fr w wr∧Hid (∀ j x,j < k→xs[j]?=some x→p x=false)) (fun _ s8 _=>xs.length - (RowKit.intOf s8).toNat)
 case atStart=>exact ⟨0,rfl,Nat.zero_le _,Fr.refl _,fun j x h=>absurd h (Nat.not_lt_zero _)⟩
 case round=>
  obtain ⟨k,rfl,hk,hf,hb⟩:=hrel
  by_cases hlt:k < xs.length
  ·obtain ⟨b,o,x,rfl,hbl,hxk,hcell⟩:=(hx.fr hf).at hlt
   have hpx:=hp x wr (List.mem_of_getElem? hxk) hf
   have hxk:=hZ hxk
   go_wp2_with fail
   refine hpx.mono ?_
   rintro e w1 ⟨rfl,hf1⟩
   go_wp2_with fail
   ·have hpt:p x=true:=by assumption
    go_ret
    exact ⟨ret_int (idx_found hb.out hxk.out hpt).symm,hf.trans hf1⟩
   ·have hpf:p x=false:=by assumption
    go_roundw
    case rel=>exact ⟨k+1,by go_num,by omega,hf.trans hf1,idx_step hb.out hxk.out hpf⟩
    case measure=>simp [RowKit.intOf]; omega
  ·go_wp2_with fail
   go_ret
   exact ⟨ret_int (idx_none (by rw [show xs.length=k by omega]; exact hb.out)).symm,hf⟩
theorem ContainsFunc_mat (xs:List Rw) (a:Option Addr) (cap:Nat) (g:Nat) (lb:Array Value) (p:Rw→Bool) (w:World)
 (eg:∀ args w,(callFunc g args).run Tryz.prog w=.ok (.enter g args) w) (hx:El w Rw.enc a xs) (hl:xs.length≤1000000000) (hp:Pred w g lb Rw.enc p xs) :
 Calls Tryz.prog 205 #[.slice a xs.length cap,.func (.func g) #[] lb] w fun e w'=>e=.returned (.bool (xs.any p))∧Fr w w':=by
 rw [← idx_any]
 have hc:=IndexFunc_mat xs a cap g lb p w eg hx hl hp
 clear hp
 go_enter Tryz.func205,Tryz.ntmps205
 go_wp2_with fail
 refine hc.mono ?_
 rintro e w' ⟨rfl,hf⟩
 go_wp2_with fail
 go_ret
 exact ⟨rfl,hf⟩
def formB (p:Nat) (r x:List Int):Bool:=decide ((x[p]?).getD 0 < 0) || decide ((r[p]?).getD 0≤(x[p]?).getD 0)
theorem isForm1_any (x:Rw) (r:List Int) (ra:Option Addr) (rc p pb rb:Nat) (w:World) (hx:El w iv x.a x.row) (hr:El w iv ra r) (hp:w.cell? ⟨pb,0,none⟩=some (.int .i64 p)) (hrb:w.cell? ⟨rb,0,none⟩=some (.slice ra r.length rc))
 (h1:p < x.row.length) (h2:p < r.length) (_hl1:x.row.length≤1000000) (_hl2:r.length≤1000000) :
 Calls Tryz.prog 206 #[x.enc,.pointer (some ⟨pb,0,none⟩),.pointer (some ⟨rb,0,none⟩)] w fun e w'=>e=.returned (.bool (formB p r x.row))∧Fr w w':=by
 obtain ⟨b,o,y,hxa,hbl,hxi,hc1⟩:=hx.at h1
 obtain ⟨b2,o2,z,hra,hbl2,hri,hc2⟩:=hr.at h2
 have hfB:formB p r x.row=(decide (y < 0) || decide (z≤y)):=by unfold formB; rw [hxi,hri]; rfl
 show Calls Tryz.prog 206 #[.slice x.a x.row.length x.c,.pointer (some ⟨pb,0,none⟩),.pointer (some ⟨rb,0,none⟩)] w _
 rw [hfB,hxa]
 rw [hra] at hrb
 replace hxi:=hZ hxi
 replace hri:=hZ hri
 generalize x.row.length=n at *
 generalize r.length=m at *
 generalize x.c=xc at *
 clear hfB hxa hra hx hr
 have z0:(0:Int)≤(p:Int):=Int.natCast_nonneg _
 have z1:(p:Int) < (n:Int):=by omega
 have z2:(p:Int) < (m:Int):=by omega
 by_cases hy:y < 0
 ·have d1:decide (y < 0)=true:=decide_eq_true hy
  rw [d1,Bool.true_or]
  go_enter Tryz.func206,Tryz.ntmps206
  go_wp2_with fail
  go_quiet (fail)
  go_wp2_with fail
  go_ret
  exact ⟨rfl,Fr.refl _ |>.drewN _⟩
 ·have d1:decide (y < 0)=false:=decide_eq_false hy
  rw [d1,Bool.false_or]
  have d2:decide (y ≥ z)=decide (z≤y):=rfl
  go_enter Tryz.func206,Tryz.ntmps206
  go_wp2_with fail
  go_quiet (fail)
  go_wp2_with fail
  go_ret
  exact ⟨rfl,Fr.refl _ |>.drewN _⟩
def formOk (m:List (List Int)):Bool :=
 (List.range m.length).all fun i=>decide (0≤pivI (rowAt m i)) && decide (0≤((rowAt m i)[(pivI (rowAt m i)).toNat]?).getD 0) && decide ((if i=0 then -1 else pivI (rowAt m (i - 1))) < pivI (rowAt m i)) && (m.take i).all fun x=>!formB (pivI (rowAt m i)).toNat (rowAt m i) x
theorem formOk_at {m:List (List Int)} (h:formOk m=true) {i:Nat} (hi:i < m.length):∃ p:Nat,pivI (rowAt m i)=p∧p < (rowAt m i).length∧0≤((rowAt m i)[p]?).getD 0∧(if i=0 then -1 else pivI (rowAt m (i - 1))) < (p:Int)∧∀ x,x ∈ m.take i→formB p (rowAt m i) x=false:=by
 have h1:=List.all_eq_true.1 h i (List.mem_range.2 hi)
 simp only [Bool.and_eq_true,decide_eq_true_eq] at h1
 obtain ⟨⟨⟨h1,h2⟩,h3⟩,h4⟩:=h1
 obtain ⟨p,hp,hl⟩:=pivI_at h1
 rw [hp] at h2 h3 h4
 rw [Int.toNat_natCast] at h2 h4
 exact ⟨p,hp,hl,h2,h3,fun x hx=>by simpa using List.all_eq_true.1 h4 x hx⟩
theorem isForm_ok (m:List (List Int)) (a:Option Addr) (cap n:Nat) (w:World) (hm:MatIs w a m) (hr:Rect n m) (hn:n≤1000000) (hl:m.length≤1000000) (hcap:m.length≤cap) (hok:formOk m=true) :
 Calls Tryz.prog 142 #[.slice a m.length cap] w fun e w'=>e=.returned (.bool true)∧Fr w w':=by
 obtain ⟨L,hL1,hL2,hL3⟩:=rws_of hm
 have hlen:L.length=m.length:=by rw [← hL1,List.length_map]
 have eg:∀ args w,(callFunc 206 args).run Tryz.prog w=.ok (.enter 206 args) w:=enters_of Tryz.func206 (by kernel_rfl) rfl
 obtain ⟨N,hN⟩:∃ N,N=m.length:=⟨_,rfl⟩
 rw [← hN] at hlen hl hcap ⊢
 have hrow:∀ (i:Nat) (x:Rw),L[i]?=some x→rowAt m i=x.row∧x.row.length=n:=fun i x hx=>by
  have h1:m[i]?=some x.row:=by rw [← hL1,List.getElem?_map,hx]; rfl
  have h2:=List.getElem?_eq_some_iff.1 h1
  exact ⟨by rw [rowAt_eq h2.1]; exact h2.2,hr _ (List.mem_of_getElem? h1)⟩
 have hat:=fun i (hi:i < N)=>formOk_at hok (i:=i) (by rw [← hN]; exact hi)
 have htk:∀ i,(m.take i)=(L.take i).map Rw.row:=fun i=>by rw [← hL1,List.map_take]
 replace hN:=hZ hN
 replace hlen:=hZ hlen
 replace hrow:=hZ hrow
 replace hat:=hZ hat
 replace htk:=hZ htk
 replace hL1:=hZ hL1
 replace hL2:=hZ hL2
 replace hL3:=hZ hL3
 replace eg:=hZ eg
 clear hm hr hok
 go_enter Tryz.func142,Tryz.ntmps142
 go_wp2_with fail
 go_loopg [3,9] N (fun k s3 s9 wr=>∃ (i:Nat) (q:Int),s9=.int .i64 i∧s3=.int .i64 q∧i+k=N∧Hid (q=if i=0 then -1 else pivI (rowAt m (i - 1)))∧Fr w wr)
 case atStart=>exact ⟨0,-1,rfl,rfl,by omega,rfl,Fr.refl _⟩
 case round=>
  obtain ⟨i,q,rfl,rfl,hik,hq,hf⟩:=hrel
  by_cases hi:i < N
  ·have hdI:decide (i < N)=true:=decide_eq_true hi
   obtain ⟨b,o,x,hae,hbl,hxi,hcell⟩:=(hL2.out.fr hf).at (i:=i) (by rw [hlen.out]; exact hi)
   obtain ⟨p,hp,hpl,hp0,hpq,hpb⟩:=hat.out i hi
   obtain ⟨hr1,hr2⟩:=hrow.out i x hxi
   have hel:=(hL3.out x (List.mem_of_getElem? hxi)).fr hf
   rw [hr1] at hp hpl hp0 hpb
   rw [← hq.out] at hpq
   have hpv:=hZ (fun W (hW:Fr wr W)=>hpivot_any x.row x.a x.c W (hel.fr hW) (by rw [hr2]; omega))
   rw [hp] at hpv
   obtain ⟨b3,o3,z,hxa,hbl3,hz,hcz⟩:=hel.at hpl
   rw [hz] at hp0
   replace hp0:0≤z:=hp0
   have hany:(L.take i).any (fun y=>formB p x.row y.row)=false:=by
    rw [List.any_eq_false]
    intro y hy
    rw [hpb y.row (by rw [htk.out]; exact List.mem_map_of_mem hy)]
    simp
   have hcf:=fun (W:World) (hW:Fr wr W) (pb rb:Nat) (h1:W.cell? ⟨pb,0,none⟩=some (.int .i64 p)) (h2:W.cell? ⟨rb,0,none⟩=some (.slice x.a x.row.length x.c))=>
    ContainsFunc_mat (L.take i) a cap 206 #[.pointer (some ⟨pb,0,none⟩),.pointer (some ⟨rb,0,none⟩)] (fun y=>formB p x.row y.row) W eg.out (((hL2.out.fr hf).fr hW).takeG i) (by rw [List.length_take]; omega)
     (fun y W' hy hW'=>isForm1_any y x.row x.a x.c p pb rb W' (((hL3.out y (List.mem_of_mem_take hy)).fr (hf.trans hW)).fr hW') ((hel.fr hW).fr hW') (hW'.keep h1) (hW'.keep h2) (by
      obtain ⟨j,hj⟩:=List.getElem?_of_mem (List.mem_of_mem_take hy)
      rw [(hrow.out j y hj).2,← hr2]; exact hpl) hpl (by
      obtain ⟨j,hj⟩:=List.getElem?_of_mem (List.mem_of_mem_take hy)
      rw [(hrow.out j y hj).2]; exact hn) (by rw [hr2]; exact hn))
   rw [List.length_take,Nat.min_eq_left (by rw [hlen.out]; omega),hany] at hcf
   replace hcf:=hZ hcf
   have hq9:Hid ((p:Int)=if i+1=0 then -1 else pivI (rowAt m (i+1 - 1))):=by show _=_; rw [if_neg (by omega),Nat.add_sub_cancel,hr1]; exact hp.symm
   replace hxi:=hZ hxi
   replace hcell:wr.cell? ⟨b,o+i,none⟩=some (.slice x.a x.row.length x.c):=hcell
   rw [hr2] at hpv hcf hcell hpl
   rw [hxa] at hpv hcf hcell
   subst hae
   replace hr1:=hZ hr1
   replace hr2:=hZ hr2
   replace hz:=hZ hz
   replace hp:=hZ hp
   replace hxa:=hZ hxa
   replace hpb:=hZ hpb
   replace hpv:=hZ hpv
   replace hel:=hZ hel
   generalize x.c=rc at *
   clear hany
   have z0:(0:Int)≤(i:Int):=Int.natCast_nonneg _
   have z1:(i:Int) < (N:Int):=by omega
   have z2:(0:Int)≤(p:Int):=Int.natCast_nonneg _
   have z3:(p:Int) < (n:Int):=by omega
   have d1:decide ((p:Int)≤q)=false:=decide_eq_false (by omega)
   have d2:decide (z < 0)=false:=decide_eq_false (by omega)
   obtain ⟨W1,hW1⟩:∃ W1,W1=wr.alloc (.cells #[.slice (some ⟨b3,o3,none⟩) n rc] 24):=⟨_,rfl⟩
   have f1:Fr wr W1:=by rw [hW1]; exact (Fr.refl _).alloc _
   have c1:W1.cell? ⟨wr.heap.size,0,none⟩=some (.slice (some ⟨b3,o3,none⟩) n rc):=by rw [hW1]; exact new_cell _ _ _
   go_upto_region 5 with (fail)
   rw [← hW1]
   clear hW1
   obtain ⟨rb,hrb⟩:∃ rb,rb=wr.heap.size:=⟨_,rfl⟩
   rw [← hrb] at c1 ⊢
   replace hrb:=hZ hrb
   go_wp2_with fail
   refine (hpv.out.out _ f1).mono ?_
   rintro e w2 ⟨rfl,hf2⟩
   obtain ⟨W3,hW3⟩:∃ W3,W3=w2.alloc (.cells #[.int .i64 p] 3):=⟨_,rfl⟩
   have f3:Fr wr W3:=by rw [hW3]; exact (f1.trans hf2).alloc _
   have c2:W3.cell? ⟨rb,0,none⟩=some (.slice (some ⟨b3,o3,none⟩) n rc):=by rw [hW3]; exact (hf2.alloc _).keep c1
   have c3:W3.cell? ⟨w2.heap.size,0,none⟩=some (.int .i64 p):=by rw [hW3]; exact new_cell _ _ _
   replace hcz:=f3.keep hcz
   go_upto_region 6 with (fail)
   rw [← hW3]
   clear hW3
   obtain ⟨pb,hpb2⟩:∃ pb,pb=w2.heap.size:=⟨_,rfl⟩
   rw [← hpb2] at c3 ⊢
   replace hpb2:=hZ hpb2
   go_wp2_with fail
   refine (hcf.out _ f3 pb rb c3 c2).mono ?_
   rintro e w4 ⟨rfl,hf4⟩
   replace c3:=hf4.keep c3
   go_wp2_with fail
   go_roundg (gk - 1)
   case measure=>omega
   case rel=>exact ⟨i+1,p,by go_num,rfl,by omega,hq9,(hf.trans f3).trans hf4⟩
  ·have hdI:decide (i < N)=false:=decide_eq_false hi
   go_wp2_with fail
   go_ret
   exact ⟨rfl,hf⟩
theorem IsForm_ok (m:List (List Int)) (a:Option Addr) (cap n:Nat) (w:World) (hm:MatIs w a m) (hT:TabOk n m) (hcap:m.length≤cap) (hok:formOk m=true) :
 Calls Tryz.prog 85 #[.slice a m.length cap] w fun e w'=>e=.returned (.tuple #[.bool true,.int .i64 0])∧Fr w w':=by
 have h1:=hZ (tabCheck_ok m a cap n w hm hT)
 have h2:=hZ (fun W (hW:Fr w W)=>isForm_ok m a cap n W (hm.fr hW) hT.2.2.1 (by have:=hT.2.1; omega) (by have:=hT.1; omega) hcap hok)
 clear hm hT hok
 generalize m.length=N at *
 go_enter Tryz.func85,Tryz.ntmps85
 go_wp2_with fail
 refine h1.out.mono ?_
 rintro e w1 ⟨rfl,hf1⟩
 go_wp2_with fail
 refine (h2.out _ hf1).mono ?_
 rintro e w2 ⟨rfl,hf2⟩
 go_wp2_with fail
 go_ret2
 exact ⟨rfl,hf1.trans hf2⟩
def ErX (w:World):Prop:=∃ ev,w.cell? ⟨1,0,none⟩=some ev∧(ev=.nilIface∨∃ te pe,ev=.iface te pe)
theorem ErX.fr {w w':World} (h:ErX w) (hf:Fr w w'):ErX w':=h.imp fun _ h=>⟨hf.keep h.1,h.2⟩
theorem dgv_ge:∀ (l:List UInt8) (a:Nat),a≤digVal a l
 | [],a=>Nat.le_refl _
 | c :: r,a=>Nat.le_trans (by omega) (dgv_ge r (a * 10+(c.toNat - 48)))
theorem pud_digits:∀ (l:List UInt8) (acc:Nat),(∀ c ∈ l,48≤c.toNat∧c.toNat≤57)→Lib.parseUint10 acc l=.ok (digVal acc l)∨(Lib.parseUint10 acc l=.range∧18446744073709551616≤digVal acc l)
 | [],acc,_=>.inl rfl
 | c :: r,acc,h=>by
   have hc:=h c List.mem_cons_self
   have hr:=fun x hx=>h x (List.mem_cons_of_mem c hx)
   have e:digVal acc (c :: r)=digVal (acc * 10+(c.toNat - 48)) r:=rfl
   have hle:=(dgv_ge r (acc * 10+(c.toNat - 48)))
   unfold Lib.parseUint10
   rw [if_pos hc,e]
   split
   ·exact .inr ⟨rfl,by omega⟩
   ·split
    ·exact .inr ⟨rfl,by omega⟩
    ·exact pud_digits r _ hr
theorem atoi_far {n:Int} (h:n < -9223372036854775808∨9223372036854775807 < n):Lib.atoiAll (tx n).data.toList=.range:=by
 have hd:=dec_digits n.natAbs
 have hv:=digVal_dec n.natAbs
 have hp:Lib.parseMag (decDigits n.natAbs)=.ok n.natAbs∨Lib.parseMag (decDigits n.natAbs)=.range:=by
  unfold Lib.parseMag
  rw [if_neg (dec_ne _)]
  rcases pud_digits (decDigits n.natAbs) 0 hd with h1 | ⟨h1,-⟩
  ·rw [h1,hv]; exact .inl rfl
  ·exact .inr h1
 by_cases hn:n < 0
 ·rw [tx_list,itoa_ng hn]
  unfold Lib.atoiAll
  simp only
  rw [if_pos (by right; rfl)]
  have e45:(45:UInt8).toNat=45:=rfl
  rcases hp with hp | hp
  ·rw [hp]
   simp only [e45,not_true_eq_false,false_and,if_false,true_and]
   rw [if_pos (by omega)]
  ·rw [hp]
 ·have e:(tx n).data.toList=decDigits n.natAbs:=by rw [tx_list,itoa_nn (by omega),show n.toNat=n.natAbs by omega]
  rw [e]
  obtain ⟨c,r,hr⟩:=List.exists_cons_of_ne_nil (dec_ne n.natAbs)
  rw [hr] at hd hp ⊢
  have hc:=hd c List.mem_cons_self
  unfold Lib.atoiAll
  simp only
  rw [if_neg (by omega)]
  rcases hp with hp | hp
  ·rw [hp]
   simp only
   rw [if_pos ⟨by omega,by omega⟩]
  ·rw [hp]
theorem Small_far (n:Int) (h:n < -9223372036854775808∨9223372036854775807 < n) (hs:(tx n).size≤1000000000) (w:World) (hE:ErX w) :
 Calls Tryz.prog 72 #[.string (tx n)] w fun e w'=>e=.returned (.tuple #[.int .i64 0,.bool false])∧Fr w w':=by
 obtain ⟨ev,h1,h2⟩:=hE
 have hp:parseIntB 64 (tx n).data.toList=.range:=by rw [parseIntB_64]; exact atoi_far h
 go_enter Tryz.func72,Tryz.ntmps72
 go_wp2_with fail
 refine (Tryz.strconv_ParseInt_10_at64_range (tx n) (by omega) hp ev _ h1 h2).mono ?_
 rintro e w1 ⟨N,rfl,-,-,hw⟩
 have hf:Fr w w1:=hw
 clear hw
 go_wp2_with fail
 go_ret2
 exact ⟨rfl,hf⟩
def LimX (w:World) (xs:List Int) (e:Ending) (w':World):Prop:=(xs.all fitB=true→RowRetI w xs e w')∧(xs.all fitB=false→e=.returned (.tuple #[.slice none 0 0,.int .i64 4])∧Fr w w')
theorem ShortRow_x (xs:List Int) (b o c:Nat) (w:World) (hx:El w sv (some ⟨b,o,none⟩) xs) (hl:xs.length≤1000000) (hb:∀ x,x ∈ xs→(tx x).size≤1000000000) (hE:ErX w) :
 Calls Tryz.prog 62 #[.slice (some ⟨b,o,none⟩) xs.length c] w (LimX w xs):=by
 obtain ⟨i0,hi,hz0,hz1,hz2⟩:=info_parts infoInt
 obtain ⟨n,hn⟩:∃ n,n=xs.length:=⟨_,rfl⟩
 rw [← hn] at hl
 replace hn:=hZ hn
 replace hx:=hZ hx
 replace hb:=hZ hb
 go_enter Tryz.func62,Tryz.ntmps62
 rw [← hn.out]
 go_wp2_with (at_make; refine wpList_make_own _ rfl _ _ 24 rfl w.heap.size 3 i0 _ 1 Tryz.underlying24 hi hz0 hz1 _ _ _ n (by rfl) (by rfl) (by omega) (by rw [hz2]; omega) (by unfold maxLen; omega) (Nat.le_refl _) ?_; intro w2 hown2 hgr2)
 have hf2:Fr w w2:=(Fr.refl w).grown hgr2 (fun k e=>by cases e)
 replace hown2:=hZ hown2
 clear hgr2
 go_loopg [4,14] n (fun k s4 s14 wr=>∃ t:Nat,s14=.int .i64 t∧t+k=n∧Fr w wr∧wr.ownsRow w.heap.size 3 1 s4 t ((xs.take t).map iv)∧s4≠.slice none 0 0∧Hid ((xs.take t).all fitB=true))
 case atStart=>exact ⟨0,rfl,by omega,hf2,by simpa using hown2.out,by simp,rfl⟩
 case round=>
  obtain ⟨t,rfl,htk,hf,hown,hnn,hfit⟩:=hrel
  by_cases ht:t < n
  ·obtain ⟨b2,o2,x,hae,hbl2,hxt,hcell2⟩:=(hx.out.fr hf).at (i:=t) (by rw [← hn.out]; exact ht)
   injection hae with hae; injection hae with hb2 ho2
   subst hb2; subst ho2
   have hmem:=List.mem_of_getElem? hxt
   have hsz:=hb.out x hmem
   have hEr:=hE.fr hf
   have hsn:=take_snoc hxt
   replace hxt:=hZ hxt
   by_cases hfx:-1000000000≤x∧x≤1000000000
   ·have hd1:decide ((1000000000:Int) < x)=false:=decide_eq_false (by omega)
    have hd2:decide (x < -1000000000)=false:=decide_eq_false (by omega)
    have hft:Hid ((xs.take (t+1)).all fitB=true):=hZ (by
     have h1:fitB x=true:=decide_eq_true hfx
     rw [hsn,List.all_append,hfit.out]; simp [h1])
    have hsn2:=hZ hsn
    clear hmem hsn
    go_wp2_with fail
    refine (Small_ok x (by omega) (by omega) _).mono ?_
    rintro e w3 ⟨rfl,hf3⟩
    go_wp2_with (at_builtin; refine wpList_append_lies _ rfl _ _ 24 (by rfl) _ 3 _ _ 1 8 Tryz.underlying24 hi hz0 hz1 hz2 rfl (by decide) _ t _ (by rfl) (World.ownsRow.alloc (ownsRow_fr hown hf3) _) ⟨w3.heap.size,0,none⟩ 1 1 [iv x] (by rfl) rfl (cell_one_newN _ _ _ _ (by simp)) (by simp [Value.oneCell']) (by decide) (by unfold maxLen; omega) (by omega) (by have:=(hf.trans hf3).size; simp; omega) (w3.heap.size+1) (by simp) ?_; intro gA capA wA hownA hgrowA hatA hltA)
    go_wp2_with fail
    go_roundg (gk - 1)
    case measure=>omega
    case rel=>exact ⟨t+1,by go_num,by omega,((hf.trans hf3).alloc _).grown hgrowA (fun k e=>(hown.lt k e).1),by rw [hsn2.out,List.map_append]; exact hownA,by simp,hft.out⟩
   ·have hbad:Hid (xs.all fitB=false):=hZ (List.all_eq_false.2 ⟨x,hmem,by unfold fitB; rw [decide_eq_false hfx]; simp⟩)
    clear hmem hsn
    by_cases hfar:x < -9223372036854775808∨9223372036854775807 < x
    ·clear hfx
     go_wp2_with fail
     refine (Small_far x hfar hsz _ hEr).mono ?_
     rintro e w3 ⟨rfl,hf3⟩
     go_wp2_with fail
     go_ret2
     exact ⟨fun h=>(by rw [hbad.out] at h; cases h),fun _=>⟨rfl,hf.trans hf3⟩⟩
    have x1:-9223372036854775808≤x:=by omega
    have x2:x≤9223372036854775807:=by omega
    clear hfar
    by_cases hgt:(1000000000:Int) < x
    ·have d1:decide ((1000000000:Int) < x)=true:=decide_eq_true hgt
     clear hfx
     go_wp2_with fail
     refine (Small_ok x (by omega) (by omega) _).mono ?_
     rintro e w3 ⟨rfl,hf3⟩
     go_wp2_with fail
     go_ret2
     exact ⟨fun h=>(by rw [hbad.out] at h; cases h),fun _=>⟨rfl,hf.trans hf3⟩⟩
    ·have d1:decide ((1000000000:Int) < x)=false:=decide_eq_false hgt
     have d2:decide (x < (-1000000000:Int))=true:=decide_eq_true (by omega)
     clear hfx
     go_wp2_with fail
     refine (Small_ok x (by omega) (by omega) _).mono ?_
     rintro e w3 ⟨rfl,hf3⟩
     go_wp2_with fail
     go_ret2
     exact ⟨fun h=>(by rw [hbad.out] at h; cases h),fun _=>⟨rfl,hf.trans hf3⟩⟩
  ·have hd:decide (t < n)=false:=decide_eq_false ht
   obtain rfl:t=n:=by omega
   obtain ⟨gb7,cp7,rfl⟩:=ownsRow_nn hown hnn
   rw [List.take_of_length_le (by rw [← hn.out]; omega)] at hown hfit
   clear hnn
   go_wp2_with fail
   go_ret2
   exact ⟨fun _=>⟨gb7,cp7,by rw [← hn.out]; rfl,hf,by rw [← hn.out]; exact hown⟩,fun h=>(by rw [hfit.out] at h; cases h)⟩
end Go.Proofs.YtmalpgbbddkdcaaGreatDoor
