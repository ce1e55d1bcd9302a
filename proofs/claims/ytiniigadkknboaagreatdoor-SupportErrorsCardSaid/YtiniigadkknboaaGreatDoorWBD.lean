/- Contracts and laws: WBD. -/
import Derived.Test.YtiniigadkknboaaGreatDoorWAW
import Derived.Test.YtiniigadkknboaaGreatDoorWBC
import Derived.Test.YtiniigadkknboaaGreatDoorWAF
import Derived.Deep.CutBlock
import Derived.Test.YtiniigadkknboaaGreatDoorWAE

set_option maxRecDepth 100000
set_option maxHeartbeats 4000000
namespace Go.Proofs.YtiniigadkknboaaGreatDoor
open Go.RowKit Go.Lib
attribute [local go_sem ↓] Go.wp_at_zero Go.wp_at_succ
def pl10:Nat→List Int
 | 0=>[2,3,5]
 | 1=>[2,3,5,7]
 | 2=>[2,3]
 | 3=>[2,3,7]
 | 4=>[2,5,7]
 | 5=>[3,5,7]
 | 6=>[2,3,5,11]
 | 7=>[2]
 | 8=>[2,3,7,13]
 | _=>[3,5,7,13]
theorem pl10_ok:∀ k,primeE (pl10 k)=0∧1≤(pl10 k).length∧(pl10 k).length≤4
 | 0 | 1 | 2 | 3 | 4 | 5 | 6 | 7 | 8=>by refine ⟨?_, ?_, ?_⟩ <;> decide +kernel
 | _+9=>by
   show primeE [3,5,7,13]=0∧1≤[3,5,7,13].length∧[3,5,7,13].length≤4
   refine ⟨?_, ?_, ?_⟩ <;> decide +kernel
def prm (n:Int):List Int:=pl10 (n.tmod 10).toNat
theorem Primes12_any (n:Int) (h0:0≤n) (h1:n≤255) (w:World) :
 Calls Tryz.prog 12 #[.int .u8 n] w fun e w'=>∃ b,e=.returned (.slice (some ⟨b,0,none⟩) (prm n).length (prm n).length)∧El w' iv (some ⟨b,0,none⟩) (prm n)∧w.heap.size≤b∧Fr w w':=by
 obtain ⟨k,hk⟩:∃ k:Nat,n.tmod 10=(k:Int):=⟨(n.tmod 10).toNat,by have:=Int.tmod_nonneg 10 h0; omega⟩
 have hk10:k < 10:=by have:=Int.tmod_lt_of_pos n (show (0:Int) < 10 by decide); omega
 have hp:prm n=pl10 k:=by unfold prm; rw [hk,Int.toNat_natCast]
 rw [hp]
 clear hp
 obtain ⟨W,hW⟩:∃ W,W=alls w [(.cells #[.int .i64 2,.int .i64 3,.int .i64 5] 3),(.cells #[.int .i64 2,.int .i64 3,.int .i64 5,.int .i64 7] 3),(.cells #[.int .i64 2,.int .i64 3] 3),(.cells #[.int .i64 2,.int .i64 3,.int .i64 7] 3),(.cells #[.int .i64 2,.int .i64 5,.int .i64 7] 3),(.cells #[.int .i64 3,.int .i64 5,.int .i64 7] 3),(.cells #[.int .i64 2,.int .i64 3,.int .i64 5,.int .i64 11] 3),(.cells #[.int .i64 2] 3),(.cells #[.int .i64 2,.int .i64 3,.int .i64 7,.int .i64 13] 3),(.cells #[.int .i64 3,.int .i64 5,.int .i64 7,.int .i64 13] 3),(.cells #[.slice (some ⟨w.heap.size,0,none⟩) 3 3,.slice (some ⟨w.heap.size+1,0,none⟩) 4 4,.slice (some ⟨w.heap.size+1+1,0,none⟩) 2 2,.slice (some ⟨w.heap.size+1+1+1,0,none⟩) 3 3,.slice (some ⟨w.heap.size+1+1+1+1,0,none⟩) 3 3,.slice (some ⟨w.heap.size+1+1+1+1+1,0,none⟩) 3 3,.slice (some ⟨w.heap.size+1+1+1+1+1+1,0,none⟩) 4 4,.slice (some ⟨w.heap.size+1+1+1+1+1+1+1,0,none⟩) 1 1,.slice (some ⟨w.heap.size+1+1+1+1+1+1+1+1,0,none⟩) 4 4,.slice (some ⟨w.heap.size+1+1+1+1+1+1+1+1+1,0,none⟩) 4 4] 24)]:=⟨_,rfl⟩
 have hf:Fr w W:=by rw [hW]; exact alls_fr _ w
 have hel:∀ (b:Nat) (xs:List Int) (cs:Array Value),W.heap[b]?=some (.cells cs 3 (0,0))→(∀ (i:Nat) (x:Int),xs[i]?=some x→cs[i]?=some (.int .i64 x))→El W iv (some ⟨b,0,none⟩) xs:=fun b xs cs hb hc=>.inr ⟨b,0,rfl,lt_of_heap hb,fun i x hx=>by rw [Nat.zero_add,cells_of hb]; exact hc i x hx⟩
 have key:∃ b,w.heap.size≤b∧W.cell? ⟨w.heap.size+10,k,none⟩=some (.slice (some ⟨b,0,none⟩) (pl10 k).length (pl10 k).length)∧El W iv (some ⟨b,0,none⟩) (pl10 k):=by
  have hg:∀ (i:Nat) (o:Obj),_→W.heap[w.heap.size+i]?=some o:=fun i o h=>by rw [hW]; exact alls_get _ w i o h
  refine ⟨w.heap.size+k,Nat.le_add_right _ _, ?_, ?_⟩
  ·rw [cells_of (hg 10 _ rfl)]
   match k,hk10 with
   | 0,_ | 1,_ | 2,_ | 3,_ | 4,_ | 5,_ | 6,_ | 7,_ | 8,_ | 9,_=>rfl
  ·match k,hk10 with
   | 0,_ | 1,_ | 2,_ | 3,_ | 4,_ | 5,_ | 6,_ | 7,_ | 8,_ | 9,_=>
     refine hel _ _ _ (hg _ _ rfl) fun i x hx=>?_
     match i,hx with
     | 0,hx=>injection hx with hx; subst hx; rfl
     | 1,hx=>first | (injection hx with hx; subst hx; rfl) | cases hx
     | 2,hx=>first | (injection hx with hx; subst hx; rfl) | cases hx
     | 3,hx=>first | (injection hx with hx; subst hx; rfl) | cases hx
     | i+4,hx=>cases hx
 clear hel
 obtain ⟨b,hb9,hc,he⟩:=key
 replace hb9:=hZ hb9
 generalize pl10 k=P at *
 obtain ⟨m,hm⟩:∃ m,m=P.length:=⟨_,rfl⟩
 rw [← hm] at hc ⊢
 replace he:=hZ he
 replace hm:=hZ hm
 replace hf:=hZ hf
 have zk0:(0:Int)≤(k:Int):=Int.natCast_nonneg _
 have zk1:(k:Int) < 10:=by omega
 go_enter Tryz.func12,Tryz.ntmps12
 go_upto_region 2 with (fail)
 rw [show w.heap.size+10=w.heap.size+1+1+1+1+1+1+1+1+1+1 from rfl] at hc
 change Code.wp _ _ _ _ (alls w [(.cells #[.int .i64 2,.int .i64 3,.int .i64 5] 3),(.cells #[.int .i64 2,.int .i64 3,.int .i64 5,.int .i64 7] 3),(.cells #[.int .i64 2,.int .i64 3] 3),(.cells #[.int .i64 2,.int .i64 3,.int .i64 7] 3),(.cells #[.int .i64 2,.int .i64 5,.int .i64 7] 3),(.cells #[.int .i64 3,.int .i64 5,.int .i64 7] 3),(.cells #[.int .i64 2,.int .i64 3,.int .i64 5,.int .i64 11] 3),(.cells #[.int .i64 2] 3),(.cells #[.int .i64 2,.int .i64 3,.int .i64 7,.int .i64 13] 3),(.cells #[.int .i64 3,.int .i64 5,.int .i64 7,.int .i64 13] 3),(.cells #[.slice (some ⟨w.heap.size,0,none⟩) 3 3,.slice (some ⟨w.heap.size+1,0,none⟩) 4 4,.slice (some ⟨w.heap.size+1+1,0,none⟩) 2 2,.slice (some ⟨w.heap.size+1+1+1,0,none⟩) 3 3,.slice (some ⟨w.heap.size+1+1+1+1,0,none⟩) 3 3,.slice (some ⟨w.heap.size+1+1+1+1+1,0,none⟩) 3 3,.slice (some ⟨w.heap.size+1+1+1+1+1+1,0,none⟩) 4 4,.slice (some ⟨w.heap.size+1+1+1+1+1+1+1,0,none⟩) 1 1,.slice (some ⟨w.heap.size+1+1+1+1+1+1+1+1,0,none⟩) 4 4,.slice (some ⟨w.heap.size+1+1+1+1+1+1+1+1+1,0,none⟩) 4 4] 24)])
 rw [← hW]
 clear hW
 go_wp2_with fail
 go_ret
 exact ⟨b,rfl,he.out,hb9.out,hf.out⟩
theorem OfRet.any {w:World} {n:Nat} {g:List (List Int)} {e:Ending} {w':World} (h:OfRet w n g e w'):∃ (n':Int) (a':Option Addr) (k' c':Nat) (err:Int),e=.returned (.tuple #[.agg #[.int .i64 n',.slice a' k' c'],.int .i64 err])∧Fr w w'∧(allFit g=true→err=0∧n'=n∧k'=g.length∧k'≤c'∧∀ W,Fx (· < w.heap.size) w' W→MatIs W a' g)∧(allFit g=false→err=4):=by
 cases hb:allFit g with
 | true=>
   obtain ⟨a,c,he,hc,hm,hf⟩:=h.1 hb
   exact ⟨n,a,g.length,c,0,he,hf,fun _=>⟨rfl,rfl,rfl,hc,hm⟩,fun h=>(by cases h)⟩
 | false=>
   obtain ⟨he,hf⟩:=h.2 hb
   exact ⟨0,none,0,0,4,he,hf,fun h=>(by cases h),fun _=>rfl⟩
end Go.Proofs.YtiniigadkknboaaGreatDoor
namespace Go.Proofs.YtiniigadkknboaaGreatDoor
open Go.RowKit Go.Lib Go.Shelf
attribute [local go_sem ↓] Go.wp_at_zero Go.wp_at_succ
def layClone_primes_ren:Go.Shelf.Ren:=⟨fun | 41=>109 | n=>n,fun | 22=>24 | 23=>3 | 4=>4 | n=>n,fun | n=>n⟩
theorem layClone_primes:Go.Proofs.SlLaysE0.n41 Tryz.prog layClone_primes_ren:={
 mixed:=by kernel_rfl
 f41:=⟨Tryz.f109.name,by decide,Tryz.func109.trans (congrArg some (by kernel_rfl))⟩
 t4:=Tryz.underlying4
 a4:=Tryz.isAgg4
 z4:=Tryz.sizeOf4
 v4:=Tryz.zeroValue4
 t22:=Tryz.underlying24
 a22:=Tryz.isAgg24
 z22:=Tryz.sizeOf24
 v22:=Tryz.zeroValue24 }
theorem Clone_primes (b o c:Nat) (xs:List Int) (w:World) (hl:xs.length≤1000000) (hc:∀ (j:Nat) (x:Int),xs[j]?=some x→w.cell? ⟨b,o+j,none⟩=some (iv x)) :
 Calls Tryz.prog 109 #[.slice (some ⟨b,o,none⟩) xs.length c] w (RowRetN w xs):=by
 obtain ⟨i0,hi,hz0,hz1,hz2⟩:=info_parts infoInt
 refine (AnyE.slices_Clone layClone_primes i0 _ 1 8 hi hz0 hz1 hz2 rfl (by decide) Tryz.sizeOf3 b o xs.length c (xs.map iv) w (by simp) (by unfold maxLen; omega) (by omega) (fun j u h=>?_) (fun u h=>?_)).mono ?_
 ·rw [List.getElem?_map] at h
  cases hx:xs[j]? with
  | none=>rw [hx] at h; simp at h
  | some x=>rw [hx] at h; injection h with h; rw [← h]; exact hc j x hx
 ·obtain ⟨x,-,rfl⟩:=List.mem_map.1 h; rfl
 ·rintro e w' ⟨v',rfl,hown,hne,hb⟩
  have h2:=hown.2
  rcases h2 with ⟨h0,-⟩ | ⟨g,cap,_,hv,_⟩
  ·exact absurd h0 hne
  ·subst hv
   exact ⟨g,cap,rfl,hb,hown⟩
def FrRet (w:World) (ok:Bool) (S A:List (List Int)) (e:Ending) (w':World):Prop:=∃ (sa aa:Option Addr) (sl sc al ac:Nat) (err:Int),e=.returned (.tuple #[.slice sa sl sc,.slice aa al ac,.int .i64 err])∧Fr w w'∧(ok=true→err=0∧sl=S.length∧al=A.length∧sl≤sc∧al≤ac∧(∀ W,Fx (· < w.heap.size) w' W→MatIs W sa S)∧(∀ W,Fx (· < w.heap.size) w' W→MatIs W aa A))∧(ok=false→err=4)
def frOk (n:Nat) (L:List (List Int)):Bool:=allFit L && (allFit (ker n (ker n L)) && allFit (ker n L))
theorem From_any (P:List Int) (m:List (List Int)) (aP am:Option Addr) (cP cm:Nat) (w:World) (hG:G w) (hE:ErX w) (hp:primeE P=0) (hP4:P.length≤4) (hP:El w iv aP P) (hm:MatIs w am m) (hr:Rect P.length m) (hm4:m.length≤4) (hb:∀ r,r ∈ m→∀ x,x ∈ r→fitB x=true) (hz:m=[]→am=none∧cm=0) :
 Calls Tryz.prog 108 #[.slice aP P.length cP,.slice am m.length cm] w (FrRet w (frOk P.length (ofB P.length m)) (ker P.length (ker P.length (ofB P.length m))) (ker P.length (ofB P.length m))):=by
 have a0:=KA_pos
 have hP1:=(primeE_mem hp).1
 have hbn:∀ r,r ∈ m→∀ x,x ∈ r→x.natAbs≤1000000000:=fun r hr x hx=>fitB_le (hb r hr x hx)
 obtain ⟨oS,oR,oL,oF⟩:=ofB_ok (n:=P.length) (m:=m) (B:=1000000000) hP4 (by omega) hr (by decide) (by omega) hbn
 have hpc:∀ W,Fr w W→Calls Tryz.prog 44 #[.slice aP P.length cP] W fun e w'=>e=.returned (.int .i64 0)∧Fr W w':=fun W hW=>(PCheck_any P aP cP W (hP.fr hW) (by omega)).mono fun e w' ⟨h1,h2⟩=>⟨by rw [h1,hp],by rw [h2]; exact Fr.refl _⟩
 have htab:TabOk P.length m:=⟨by omega,by omega,hr,hb⟩
 have hof:∀ W,Fr w W→Calls Tryz.prog 48 #[.int .i64 (P.length:Nat),.slice am m.length cm] W (OfRet W P.length (ofB P.length m)):=fun W hW=>by
  by_cases h0:m=[]
  ·obtain ⟨rfl,rfl⟩:=hz h0
   subst h0
   rw [ofB_nil]
   exact (Of_nil P.length W hP1 (by omega)).mono fun e w' ⟨h1,h2⟩=>⟨fun _=>⟨none,0,h1,Nat.le_refl _,fun W _=>.inl rfl,h2⟩,fun h=>by cases h⟩
  ·obtain ⟨gF,tF,p,k1,k2,-⟩:=of_is (n:=P.length) (m:=m) (B:=1000000000) (by omega) hr (by decide) (by omega) hbn
   rw [k2] at oS ⊢
   have hm0:0 < m.length:=List.length_pos_iff.2 h0
   exact Of_x m gF FX tF am cm P.length W (hG.fr hW) (hm.fr hW) htab hm0 hP1 k1 oS (hE.fr hW)
 generalize ofB P.length m=L at *
 have hlat:allFit L=true→Hid (∀ W la lc,Fr w W→MatIs W la L→L.length≤lc →
  Calls Tryz.prog 50 #[.agg #[.int .i64 (P.length:Nat),.slice la L.length lc]] W (OfRet W P.length (ker P.length (ker P.length L))) ∧
  Calls Tryz.prog 49 #[.agg #[.int .i64 (P.length:Nat),.slice la L.length lc]] W (OfRet W P.length (ker P.length L))):=fun hL W la lc hW hMt hlc=>by
  obtain ⟨j1,j2,j3,j4,j5,j6,j7,j8⟩:=ker_ok (n:=P.length) hP4 hL
  have hT:TabOk P.length L:=⟨by omega,by omega,oR,fit_mem hL⟩
  have hfine:LatFine W P.length la L.length lc:=fun W' hW'=>LCheck_form L la lc P.length W' (hMt.fr hW') hT hlc oF
  exact ⟨Satur_x L (ker P.length L) _ la lc P.length FX W (hG.fr hW) hMt hfine oR hP1 (by omega) (by omega) (fit_smL hT) j1 j2 j3 (by omega) (by omega) (rect_le j5 (by omega)) j8 (hE.fr hW),
   Annih_x L _ la lc P.length FX W (hG.fr hW) hMt hfine oR hP1 (by omega) (by omega) (fit_smL hT) j1 (by omega) (rect_le j3 (by omega)) j7 (hE.fr hW)⟩
 unfold frOk
 generalize ker P.length (ker P.length L)=S at *
 generalize ker P.length L=A at *
 generalize P.length=n at *
 generalize m.length=nm at *
 replace hpc:=hZ hpc
 replace hof:=hZ hof
 clear hm hr hb hbn hz hp htab oS oR oL oF hG hE hP
 unfold FrRet
 go_enter Tryz.func108,Tryz.ntmps108
 go_wp2_with fail
 refine (hpc.out _ (Fr.refl _)).mono ?_
 rintro e w1 ⟨rfl,hf1⟩
 go_wp2_with fail
 refine (hof.out _ hf1).mono ?_
 rintro e w2 hret
 obtain ⟨n1,la,k1,c1,e1,rfl,hf2,hok,hno⟩:=hret.any
 clear hret
 have hfw:=hf1.trans hf2
 obtain ⟨w3,hw3⟩:∃ w3,w3=w2.alloc (.cells #[.int .i64 n1,.slice la k1 c1] 76):=⟨_,rfl⟩
 have hf3:Fr w2 w3:=by rw [hw3]; exact (Fr.refl _).alloc _
 have l0:w3.cell? ⟨w2.heap.size,0,none⟩=some (.int .i64 n1):=by rw [hw3]; exact (new2a _ _ _ _).1
 have l1:w3.cell? ⟨w2.heap.size,1,none⟩=some (.slice la k1 c1):=by rw [hw3]; exact (new2b _ _ _ _).1
 go_upto_region 5 with (fail)
 rw [← hw3]
 clear hw3
 obtain ⟨lb,hlb⟩:∃ lb,lb=w2.heap.size:=⟨_,rfl⟩
 rw [← hlb] at l0 l1 ⊢
 replace hlb:=hZ hlb
 replace hfw:=hfw.trans hf3
 cases hbL:allFit L with
 | false=>
   obtain rfl:=hno hbL
   clear hok hno hlat
   go_wp2_with fail
   go_ret3
   exact ⟨_,_,_,_,_,_,_,rfl,hfw,fun h=>(by rw [hbL] at h; cases h),fun _=>rfl⟩
 | true=>
   obtain ⟨rfl,rfl,rfl,hc1,hmt⟩:=hok hbL
   clear hok hno
   have hmt3:=hmt w3 (Fx.of_fr hf3)
   have hlat2:=(hlat hbL).out
   have hlat3:=hZ (fun W (hW:Fr w3 W)=>hlat2 W la c1 (hfw.trans hW) (hmt3.fr hW) hc1)
   clear hlat hlat2 hmt hmt3
   generalize L.length=nL at *
   go_wp2_with fail
   refine (hlat3.out _ (Fr.refl _)).1.mono ?_
   rintro e w4 hret
   obtain ⟨n4,sa,k4,c4,e4,rfl,hf4,hok4,hno4⟩:=hret.any
   clear hret
   replace l0:=hf4.keep l0
   replace l1:=hf4.keep l1
   obtain ⟨w5,hw5⟩:∃ w5,w5=w4.alloc (.cells #[.int .i64 n4,.slice sa k4 c4] 76):=⟨_,rfl⟩
   have hf5:Fr w4 w5:=by rw [hw5]; exact (Fr.refl _).alloc _
   have s0:w5.cell? ⟨w4.heap.size,0,none⟩=some (.int .i64 n4):=by rw [hw5]; exact (new2a _ _ _ _).1
   have s1:w5.cell? ⟨w4.heap.size,1,none⟩=some (.slice sa k4 c4):=by rw [hw5]; exact (new2b _ _ _ _).1
   go_upto_region 8 with (fail)
   rw [← hw5]
   clear hw5
   obtain ⟨sb,hsb⟩:∃ sb,sb=w4.heap.size:=⟨_,rfl⟩
   rw [← hsb] at s0 s1 ⊢
   replace hsb:=hZ hsb
   replace l0:=hf5.keep l0
   replace l1:=hf5.keep l1
   have hf35:=hf4.trans hf5
   cases hbS:allFit S with
   | false=>
     obtain rfl:=hno4 hbS
     clear hok4 hno4 hlat3
     go_wp2_with fail
     go_ret3
     exact ⟨_,_,_,_,_,_,_,rfl,hfw.trans hf35,fun h=>(by rw [hbL,hbS] at h; cases h),fun _=>rfl⟩
   | true=>
     obtain ⟨rfl,rfl,rfl,hc4,hm4⟩:=hok4 hbS
     have hmS:=hZ hm4
     clear hok4 hno4 hm4
     go_wp2_with fail
     refine (hlat3.out _ hf35).2.mono ?_
     rintro e w6 hret
     obtain ⟨n6,xa,k6,c6,e6,rfl,hf6,hok6,hno6⟩:=hret.any
     clear hret l0 l1 hlat3
     replace s0:=hf6.keep s0
     replace s1:=hf6.keep s1
     obtain ⟨w7,hw7⟩:∃ w7,w7=w6.alloc (.cells #[.int .i64 n6,.slice xa k6 c6] 76):=⟨_,rfl⟩
     have hf7:Fr w6 w7:=by rw [hw7]; exact (Fr.refl _).alloc _
     have x1:w7.cell? ⟨w6.heap.size,1,none⟩=some (.slice xa k6 c6):=by rw [hw7]; exact (new2b _ _ _ _).1
     replace s1:=hf7.keep s1
     go_upto_region 11 with (fail)
     rw [← hw7]
     clear hw7
     have hf57:=hf6.trans hf7
     have hfw7:=hfw.trans (hf35.trans hf57)
     have hmS7:=hZ (fun W (hW:Fx (· < w.heap.size) w7 W)=>hmS.out W ((Fx.of_fr (hf5.trans hf57)).trans (hW.mono (fun k hk=>Nat.lt_of_lt_of_le hk hfw.size))))
     clear s0 hmS
     cases hbA:allFit A with
     | false=>
       obtain rfl:=hno6 hbA
       clear hok6 hno6
       go_wp2_with fail
       go_quiet (fail)
       go_wp2_with fail
       go_ret3
       exact ⟨_,_,_,_,_,_,_,rfl,hfw7.drewN _,fun h=>(by rw [hbL,hbS,hbA] at h; cases h),fun _=>rfl⟩
     | true=>
       obtain ⟨rfl,rfl,rfl,hc6,hm6⟩:=hok6 hbA
       have hmA:=hZ (fun W (hW:Fx (· < w.heap.size) w7 W)=>hm6 W ((Fx.of_fr hf7).trans (hW.mono (fun k hk=>Nat.lt_of_lt_of_le hk (hfw.trans hf35).size))))
       clear hok6 hno6 hm6
       go_wp2_with fail
       go_quiet (fail)
       go_wp2_with fail
       go_ret3
       exact ⟨_,_,_,_,_,_,_,rfl,hfw7.drewN _,fun _=>⟨rfl,rfl,rfl,hc4,hc6,fun W hW=>hmS7.out W ((Fx.of_fr ((Fr.refl _).drewN _)).trans hW),fun W hW=>hmA.out W ((Fx.of_fr ((Fr.refl _).drewN _)).trans hW)⟩,fun h=>(by rw [hbL,hbS,hbA] at h; cases h)⟩
theorem Clone_prs (P:List Int) (a:Option Addr) (c:Nat) (w:World) (hP:El w iv a P) (h1:1≤P.length) (h2:P.length≤1000) :
 Calls Tryz.prog 109 #[.slice a P.length c] w fun e w'=>∃ a' c',e=.returned (.slice a' P.length c')∧El w' iv a' P∧(∀ ad,a'=some ad→w.heap.size≤ad.block)∧Fr w w':=by
 rcases hP with h | ⟨b,o,rfl,-,hc⟩
 ·rw [h] at h1; simp at h1
 ·refine (Clone_primes b o c P w (by omega) hc).mono ?_
  rintro e w' ⟨g,cp,rfl,hf,hown⟩
  obtain ⟨a9,c9,h6,h7,h7b⟩:=own_readJ hown
  injection h6 with h8 h9 h10
  subst h8
  exact ⟨_,_,rfl,h7,h7b,hf⟩
def FmRet (w:World) (ok:Bool) (P:List Int) (C M:List (List Int)) (e:Ending) (w':World):Prop:=Fr w w'∧(ok=true→∃ (pa:Option Addr) (pc:Nat) (ca:Option Addr) (cc:Nat) (ma:Option Addr) (mc:Nat),e=.returned (.tuple #[.agg #[.slice pa P.length pc,.slice ca C.length cc,.slice ma M.length mc],.int .i64 0])∧(∀ W,Fx (· < w.heap.size) w' W→El W iv pa P)∧(∀ W,Fx (· < w.heap.size) w' W→MatIs W ca C)∧(∀ W,Fx (· < w.heap.size) w' W→MatIs W ma M)∧C.length≤cc∧M.length≤mc) ∧
 (ok=false→e=.returned (.tuple #[.agg #[.slice none 0 0,.slice none 0 0,.slice none 0 0],.int .i64 4]))
theorem FromMapping_any (P:List Int) (m:List (List Int)) (aP am:Option Addr) (cP cm:Nat) (w:World) (hG:G w) (hE:ErX w) (hp:primeE P=0) (hP4:P.length≤4) (hP:El w iv aP P) (hm:MatIs w am m) (hr:Rect P.length m) (hm4:m.length≤4) (hb:∀ r,r ∈ m→∀ x,x ∈ r→fitB x=true) (hz:m=[]→am=none∧cm=0) :
 Calls Tryz.prog 70 #[.slice aP P.length cP,.slice am m.length cm] w (FmRet w (frOk P.length (ofB P.length m)) P (ker P.length (ofB P.length m)) (ker P.length (ker P.length (ofB P.length m)))):=by
 have hP1:=(primeE_mem hp).1
 have hfr:=hZ (fun W (hW:Fr w W)=>From_any P m aP am cP cm W (hG.fr hW) (hE.fr hW) hp hP4 (hP.fr hW) (hm.fr hW) hr hm4 hb hz)
 have hcl:=hZ (fun W (hW:Fr w W)=>Clone_prs P aP cP W (hP.fr hW) (by omega) (by omega))
 have hT:=C3.new w (.slice none 0 0) (.slice none 0 0) (.slice none 0 0) 29
 obtain ⟨wb,hwb⟩:∃ wb,wb=w.alloc (.cells #[.slice none 0 0,.slice none 0 0,.slice none 0 0] 29):=⟨_,rfl⟩
 have hfb:Fr w wb:=by rw [hwb]; exact (Fr.refl _).alloc _
 have hszb:Hid (wb.heap.size=w.heap.size+1):=by show _=_; rw [hwb]; simp
 rw [← hwb] at hT
 generalize frOk P.length (ofB P.length m)=ok at *
 generalize ker P.length (ker P.length (ofB P.length m))=S at *
 generalize ker P.length (ofB P.length m)=A at *
 obtain ⟨n,hn⟩:∃ n,n=P.length:=⟨_,rfl⟩
 rw [← hn] at hfr hcl ⊢
 replace hn:=hZ hn
 generalize m.length=nm at *
 replace hT:=hZ hT
 clear hG hE hp hP hm hr hb hz
 unfold FmRet
 rw [← hn.out]
 go_enter Tryz.func70,Tryz.ntmps70
 go_upto_region 1 with (fail)
 rw [← hwb]
 clear hwb
 obtain ⟨rb,hrb⟩:∃ rb,rb=w.heap.size:=⟨_,rfl⟩
 rw [← hrb] at hT ⊢
 replace hrb:=hZ hrb
 go_wp2_with fail
 refine (hfr.out _ hfb).mono ?_
 rintro e w1 ⟨sa,aa,sl,sc,al,ac,err,rfl,hf1,hok,hno⟩
 have hT1:=hT.out.fr hf1
 cases hb:ok with
 | false=>
   obtain rfl:=hno hb
   clear hok hno
   have q0:=hT1.a
   have q1:=hT1.fa
   have q2:=hT1.b
   have q3:=hT1.fb
   have q4:=hT1.c
   have q5:=hT1.fc
   have hU:=hT1.set0 (.slice none 0 0)
   have p0:=hU.b
   have p1:=hU.fb
   have hU1:=hU.set1 (.slice none 0 0)
   have p2:=hU1.c
   have p3:=hU1.fc
   have hU2:=hU1.set2 (.slice none 0 0)
   have y0:=hZ hU2.a
   have y1:=hZ hU2.b
   have y2:=hZ hU2.c
   have hfx:Fx (·=rb) w1 (((w1.setCell ⟨rb,0,none⟩ (.slice none 0 0)).setCell ⟨rb,1,none⟩ (.slice none 0 0)).setCell ⟨rb,2,none⟩ (.slice none 0 0)):=Fx.setCell (p:=(·=rb)) (q:=⟨rb,2,none⟩) (Fx.setCell (p:=(·=rb)) (q:=⟨rb,1,none⟩) (Fx.setCell (p:=(·=rb)) (q:=⟨rb,0,none⟩) (Fx.refl _ _) (.inl rfl) _) (.inl rfl) _) (.inl rfl) _
   have hfin:=hZ (((Fx.of_fr (hfb.trans hf1)).trans hfx).toFr (fun k hk e=>by have e:k=rb:=e; have:=hrb.out; omega))
   clear hU hU1 hU2 hfx
   go_wp2_with fail
   have v0:=y0.out
   have v1:=y1.out
   have v2:=y2.out
   exact bodyPost_ret (v:=.tuple #[.agg #[.slice none 0 0,.slice none 0 0,.slice none 0 0],.int .i64 4]) (by simp [results,Tryz.results70,go_sem,v0,v1,v2]) rfl ⟨hfin.out,fun h=>(by rw [hb] at h; cases h),fun _=>rfl⟩
 | true=>
   obtain ⟨rfl,rfl,rfl,hc1,hc2,hmS,hmA⟩:=hok hb
   replace hmS:=hZ hmS
   replace hmA:=hZ hmA
   clear hok hno
   go_wp2_with fail
   refine (hcl.out _ (hfb.trans hf1)).mono ?_
   rintro e w2 ⟨pa,pc,rfl,hep,hep2,hf2⟩
   have hT2:=hT1.fr hf2
   have hfw:=(hfb.trans hf1).trans hf2
   have q0:=hT2.a
   have q1:=hT2.fa
   have q2:=hT2.b
   have q3:=hT2.fb
   have q4:=hT2.c
   have q5:=hT2.fc
   have hU:=hT2.set0 (.slice pa n pc)
   have p0:=hU.b
   have p1:=hU.fb
   have hU1:=hU.set1 (.slice aa A.length ac)
   have p2:=hU1.c
   have p3:=hU1.fc
   have hU2:=hU1.set2 (.slice sa S.length sc)
   have y0:=hZ hU2.a
   have y1:=hZ hU2.b
   have y2:=hZ hU2.c
   have hfx:Fx (·=rb) w2 (((w2.setCell ⟨rb,0,none⟩ (.slice pa n pc)).setCell ⟨rb,1,none⟩ (.slice aa A.length ac)).setCell ⟨rb,2,none⟩ (.slice sa S.length sc)):=Fx.setCell (p:=(·=rb)) (q:=⟨rb,2,none⟩) (Fx.setCell (p:=(·=rb)) (q:=⟨rb,1,none⟩) (Fx.setCell (p:=(·=rb)) (q:=⟨rb,0,none⟩) (Fx.refl _ _) (.inl rfl) _) (.inl rfl) _) (.inl rfl) _
   have hfin:=hZ (((Fx.of_fr hfw).trans hfx).toFr (fun k hk e=>by have e:k=rb:=e; have:=hrb.out; omega))
   replace hep:=hZ hep
   replace hep2:=hZ hep2
   have hzb:wb.heap.size=w.heap.size+1:=hszb.out
   have hch1:=fun W (hW:Fx (· < w.heap.size) (((w2.setCell ⟨rb,0,none⟩ (.slice pa n pc)).setCell ⟨rb,1,none⟩ (.slice aa A.length ac)).setCell ⟨rb,2,none⟩ (.slice sa S.length sc)) W)=>(hfx.mono (q:=(· < wb.heap.size)) (fun k e=>by have e:k=rb:=e; have:=hrb.out; show k < _; omega)).trans (hW.mono (q:=(· < wb.heap.size)) (fun k e=>by have e:k < w.heap.size:=e; show k < _; omega))
   have hch:=fun W hW=>(Fx.of_fr hf2).trans (hch1 W hW)
   replace hch:=hZ hch
   replace hch1:=hZ hch1
   replace hfx:=hZ hfx
   clear hU hU1 hU2 hT2 hT1
   go_wp2_with fail
   have v0:=y0.out
   have v1:=y1.out
   have v2:=y2.out
   refine bodyPost_ret (v:=.tuple #[.agg #[.slice pa n pc,.slice aa A.length ac,.slice sa S.length sc],.int .i64 0]) (by simp [results,Tryz.results70,go_sem,v0,v1,v2]) rfl ⟨hfin.out,fun _=>⟨pa,pc,_,_,_,_,rfl, ?_, ?_, ?_,hc2,hc1⟩,fun h=>(by rw [hb] at h; cases h)⟩
   ·intro W hW
    have h9:=hch1.out W hW
    exact hep.out.fxp h9 (fun ad had hk=>by have:=hep2.out ad had; have hk:ad.block < wb.heap.size:=hk; have:=hf1.size; omega)
   ·intro W hW
    exact hmA.out W (hch.out W hW)
   ·intro W hW
    exact hmS.out W (hch.out W hW)
theorem FromCommas_any (P:List Int) (m:List (List Int)) (aP am:Option Addr) (cP cm:Nat) (w:World) (hG:G w) (hE:ErX w) (hp:primeE P=0) (hP4:P.length≤4) (hP:El w iv aP P) (hm:MatIs w am m) (hr:Rect P.length m) (hm4:m.length≤4) (hb:∀ r,r ∈ m→∀ x,x ∈ r→fitB x=true) (hz:m=[]→am=none∧cm=0) :
 Calls Tryz.prog 69 #[.slice aP P.length cP,.slice am m.length cm] w (FmRet w (frOk P.length (ofB P.length m)) P (ker P.length (ker P.length (ofB P.length m))) (ker P.length (ofB P.length m))):=by
 have hP1:=(primeE_mem hp).1
 have hfr:=hZ (fun W (hW:Fr w W)=>From_any P m aP am cP cm W (hG.fr hW) (hE.fr hW) hp hP4 (hP.fr hW) (hm.fr hW) hr hm4 hb hz)
 have hcl:=hZ (fun W (hW:Fr w W)=>Clone_prs P aP cP W (hP.fr hW) (by omega) (by omega))
 have hT:=C3.new w (.slice none 0 0) (.slice none 0 0) (.slice none 0 0) 29
 obtain ⟨wb,hwb⟩:∃ wb,wb=w.alloc (.cells #[.slice none 0 0,.slice none 0 0,.slice none 0 0] 29):=⟨_,rfl⟩
 have hfb:Fr w wb:=by rw [hwb]; exact (Fr.refl _).alloc _
 have hszb:Hid (wb.heap.size=w.heap.size+1):=by show _=_; rw [hwb]; simp
 rw [← hwb] at hT
 generalize frOk P.length (ofB P.length m)=ok at *
 generalize ker P.length (ker P.length (ofB P.length m))=S at *
 generalize ker P.length (ofB P.length m)=A at *
 obtain ⟨n,hn⟩:∃ n,n=P.length:=⟨_,rfl⟩
 rw [← hn] at hfr hcl ⊢
 replace hn:=hZ hn
 generalize m.length=nm at *
 replace hT:=hZ hT
 clear hG hE hp hP hm hr hb hz
 unfold FmRet
 rw [← hn.out]
 go_enter Tryz.func69,Tryz.ntmps69
 go_upto_region 1 with (fail)
 rw [← hwb]
 clear hwb
 obtain ⟨rb,hrb⟩:∃ rb,rb=w.heap.size:=⟨_,rfl⟩
 rw [← hrb] at hT ⊢
 replace hrb:=hZ hrb
 go_wp2_with fail
 refine (hfr.out _ hfb).mono ?_
 rintro e w1 ⟨sa,aa,sl,sc,al,ac,err,rfl,hf1,hok,hno⟩
 have hT1:=hT.out.fr hf1
 cases hb:ok with
 | false=>
   obtain rfl:=hno hb
   clear hok hno
   have q0:=hT1.a
   have q1:=hT1.fa
   have q2:=hT1.b
   have q3:=hT1.fb
   have q4:=hT1.c
   have q5:=hT1.fc
   have hU:=hT1.set0 (.slice none 0 0)
   have p0:=hU.b
   have p1:=hU.fb
   have hU1:=hU.set1 (.slice none 0 0)
   have p2:=hU1.c
   have p3:=hU1.fc
   have hU2:=hU1.set2 (.slice none 0 0)
   have y0:=hZ hU2.a
   have y1:=hZ hU2.b
   have y2:=hZ hU2.c
   have hfx:Fx (·=rb) w1 (((w1.setCell ⟨rb,0,none⟩ (.slice none 0 0)).setCell ⟨rb,1,none⟩ (.slice none 0 0)).setCell ⟨rb,2,none⟩ (.slice none 0 0)):=Fx.setCell (p:=(·=rb)) (q:=⟨rb,2,none⟩) (Fx.setCell (p:=(·=rb)) (q:=⟨rb,1,none⟩) (Fx.setCell (p:=(·=rb)) (q:=⟨rb,0,none⟩) (Fx.refl _ _) (.inl rfl) _) (.inl rfl) _) (.inl rfl) _
   have hfin:=hZ (((Fx.of_fr (hfb.trans hf1)).trans hfx).toFr (fun k hk e=>by have e:k=rb:=e; have:=hrb.out; omega))
   clear hU hU1 hU2 hfx
   go_wp2_with fail
   have v0:=y0.out
   have v1:=y1.out
   have v2:=y2.out
   exact bodyPost_ret (v:=.tuple #[.agg #[.slice none 0 0,.slice none 0 0,.slice none 0 0],.int .i64 4]) (by simp [results,Tryz.results69,go_sem,v0,v1,v2]) rfl ⟨hfin.out,fun h=>(by rw [hb] at h; cases h),fun _=>rfl⟩
 | true=>
   obtain ⟨rfl,rfl,rfl,hc1,hc2,hmS,hmA⟩:=hok hb
   replace hmS:=hZ hmS
   replace hmA:=hZ hmA
   clear hok hno
   go_wp2_with fail
   refine (hcl.out _ (hfb.trans hf1)).mono ?_
   rintro e w2 ⟨pa,pc,rfl,hep,hep2,hf2⟩
   have hT2:=hT1.fr hf2
   have hfw:=(hfb.trans hf1).trans hf2
   have q0:=hT2.a
   have q1:=hT2.fa
   have q2:=hT2.b
   have q3:=hT2.fb
   have q4:=hT2.c
   have q5:=hT2.fc
   have hU:=hT2.set0 (.slice pa n pc)
   have p0:=hU.b
   have p1:=hU.fb
   have hU1:=hU.set1 (.slice sa S.length sc)
   have p2:=hU1.c
   have p3:=hU1.fc
   have hU2:=hU1.set2 (.slice aa A.length ac)
   have y0:=hZ hU2.a
   have y1:=hZ hU2.b
   have y2:=hZ hU2.c
   have hfx:Fx (·=rb) w2 (((w2.setCell ⟨rb,0,none⟩ (.slice pa n pc)).setCell ⟨rb,1,none⟩ (.slice sa S.length sc)).setCell ⟨rb,2,none⟩ (.slice aa A.length ac)):=Fx.setCell (p:=(·=rb)) (q:=⟨rb,2,none⟩) (Fx.setCell (p:=(·=rb)) (q:=⟨rb,1,none⟩) (Fx.setCell (p:=(·=rb)) (q:=⟨rb,0,none⟩) (Fx.refl _ _) (.inl rfl) _) (.inl rfl) _) (.inl rfl) _
   have hfin:=hZ (((Fx.of_fr hfw).trans hfx).toFr (fun k hk e=>by have e:k=rb:=e; have:=hrb.out; omega))
   replace hep:=hZ hep
   replace hep2:=hZ hep2
   have hzb:wb.heap.size=w.heap.size+1:=hszb.out
   have hch1:=fun W (hW:Fx (· < w.heap.size) (((w2.setCell ⟨rb,0,none⟩ (.slice pa n pc)).setCell ⟨rb,1,none⟩ (.slice sa S.length sc)).setCell ⟨rb,2,none⟩ (.slice aa A.length ac)) W)=>(hfx.mono (q:=(· < wb.heap.size)) (fun k e=>by have e:k=rb:=e; have:=hrb.out; show k < _; omega)).trans (hW.mono (q:=(· < wb.heap.size)) (fun k e=>by have e:k < w.heap.size:=e; show k < _; omega))
   have hch:=fun W hW=>(Fx.of_fr hf2).trans (hch1 W hW)
   replace hch:=hZ hch
   replace hch1:=hZ hch1
   replace hfx:=hZ hfx
   clear hU hU1 hU2 hT2 hT1
   go_wp2_with fail
   have v0:=y0.out
   have v1:=y1.out
   have v2:=y2.out
   refine bodyPost_ret (v:=.tuple #[.agg #[.slice pa n pc,.slice sa S.length sc,.slice aa A.length ac],.int .i64 0]) (by simp [results,Tryz.results69,go_sem,v0,v1,v2]) rfl ⟨hfin.out,fun _=>⟨pa,pc,_,_,_,_,rfl, ?_, ?_, ?_,hc1,hc2⟩,fun h=>(by rw [hb] at h; cases h)⟩
   ·intro W hW
    have h9:=hch1.out W hW
    exact hep.out.fxp h9 (fun ad had hk=>by have:=hep2.out ad had; have hk:ad.block < wb.heap.size:=hk; have:=hf1.size; omega)
   ·intro W hW
    exact hmS.out W (hch.out W hW)
   ·intro W hW
    exact hmA.out W (hch.out W hW)
end Go.Proofs.YtiniigadkknboaaGreatDoor
