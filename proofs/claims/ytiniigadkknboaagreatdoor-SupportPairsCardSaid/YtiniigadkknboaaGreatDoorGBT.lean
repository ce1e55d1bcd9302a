/- Contracts and laws: GBT. -/
import Derived.Test.YtiniigadkknboaaGreatDoorGBL
import Derived.Test.YtiniigadkknboaaGreatDoorGBR
import Derived.Test.YtiniigadkknboaaGreatDoorGBS
import Derived.Deep.CutRange

set_option maxRecDepth 100000
set_option maxHeartbeats 16000000
namespace Go.Proofs.YtiniigadkknboaaGreatDoor
open Go.RowKit Go.Lib
attribute [local go_sem ↓] Go.wp_at_zero Go.wp_at_succ
structure VO (P:List Int) (K:Nat) (w:World) (a b:Nat) (v vl:Value) (LL:List PE) (W:World):Prop where
 fr:Fr w W
 po:∃ L,PO P W w.heap.size v L∧L.map PE.key=MP P K a b
 pl:PO P W 0 vl LL∧(∀ x,x ∈ LL→x.hi≤w.heap.size)∧∀ g,vl.ownBlock=some g→g < w.heap.size
theorem VO.step {P:List Int} {K a b:Nat} {w W W':World} {v vl:Value} {LL:List PE} (h:VO P K w a b v vl LL W) (k:Fr W W'):VO P K w a b v vl LL W':=by
 obtain ⟨L,h1,h2⟩:=h.po
 exact ⟨h.fr.trans k,⟨L,h1.fr k,h2⟩,⟨h.pl.1.fr k,h.pl.2⟩⟩
theorem VO.skip {P:List Int} {K a b a' b':Nat} {w W:World} {v vl:Value} {LL:List PE} (h:VO P K w a b v vl LL W) (e:MP P K a' b'=MP P K a b):VO P K w a' b' v vl LL W:=by
 obtain ⟨L,h1,h2⟩:=h.po
 exact ⟨h.fr,⟨L,h1,by rw [e]; exact h2⟩,h.pl⟩
theorem Pb {P:List Int}:∀ {L:List PE} {i:Nat} {x:PE},L[i]?=some x→∀ k,k < 5→(Lw P L)[i * 5+k]?=(PE.cs P x)[k]?
 | [],i,x,h,_,_=>by simp at h
 | y :: L,0,x,h,k,hk=>by
   have e:y=x:=by simpa using h
   subst e
   show (PE.cs P y ++ Lw P L)[0 * 5+k]?=_
   rw [Nat.zero_mul,AN,Bt (by show k < 5; exact hk)]
 | y :: L,i+1,x,h,k,hk=>by
   have h':L[i]?=some x:=by simpa using h
   show (PE.cs P y ++ Lw P L)[(i+1) * 5+k]?=_
   rw [Bi (by show 5≤_; omega)]
   show (Lw P L)[(i+1) * 5+k - 5]?=_
   rw [show (i+1) * 5+k - 5=i * 5+k by omega]
   exact Pb h' k hk
theorem PO.at {P:List Int} {W:World} {base:Nat} {v:Value} {L:List PE} (h:PO P W base v L) {i:Nat} (hi:i < L.length) :
 ∃ g c,v=.slice (some ⟨g,0,none⟩) L.length c∧W.cell? ⟨g,i * 5,none⟩=some (.int .i64 (L[i]).a)∧W.cell? ⟨g,i * 5+1,none⟩=some (.int .i64 (L[i]).b)∧W.cell? ⟨g,i * 5+2,none⟩=some (.slice (L[i]).pa P.length (L[i]).pc)∧W.cell? ⟨g,i * 5+2+1,none⟩=some (.slice (L[i]).ca (Ii P (L[i]).key).length (L[i]).cc)∧W.cell? ⟨g,i * 5+2+2,none⟩=some (.slice (L[i]).ma (Ix P (L[i]).key).length (L[i]).mc):=by
 obtain ⟨g,c,h1⟩:=C5 h.own (by omega)
 have hown:=h.own
 rw [h1] at hown
 obtain ⟨h2,-,-,-,h5⟩:=Bo hown
 have key:∀ (k:Nat) (u:Value),k < 5→(PE.cs P L[i])[k]?=some u→W.cell? ⟨g,i * 5+k,none⟩=some u:=fun k u hk hu=>(h5 _ u (by rw [Pb (Ac hi) k hk]; exact hu)).1
 exact ⟨g,c,by rw [h1,h2],key 0 _ (by decide) rfl,key 1 _ (by decide) rfl,key 2 _ (by decide) rfl,key 3 _ (by decide) rfl,key 4 _ (by decide) rfl⟩
theorem PO.tm {P:List Int} {W:World} {base:Nat} {v:Value} {L:List PE} (h:PO P W base v L) {i:Nat} (hi:i < L.length):El W iv (L[i]).pa P∧A5 W (L[i]).ca (Ii P (L[i]).key)∧A5 W (L[i]).ma (Ix P (L[i]).key) :=
 (h.el _ (AG hi)).1 W (Fx.refl _ _)
theorem Xc (j:Nat) {x:Nat×Nat} (hx:x ∈ FB):(Ii (AV j) x).length≤4∧(Ix (AV j) x).length≤4∧Bx (AV j).length (Ii (AV j) x)∧Bx (AV j).length (Ix (AV j) x):=by
 obtain ⟨-,hp1,hp4⟩:BQ (AV j)=0∧1≤(AV j).length∧(AV j).length≤4:=Ny j
 obtain ⟨A,S,h1,-⟩:=NT j hx
 obtain ⟨h2,-,-⟩:=NX h1
 unfold Fq at h2
 rw [Bm,Bm] at h2
 obtain ⟨gW,p,t,q,k⟩:=D5 (n:=(AV j).length) (m:=jL (AV j) (BM (AV j) (x.1:Int)) (BM (AV j) (x.2:Int))) hp4 (by decide) Df (Gc h2.1)
 obtain ⟨gW2,p2,t2,q2,k2⟩:=D5 (n:=(AV j).length) (m:=Dj (AV j).length (jL (AV j) (BM (AV j) (x.1:Int)) (BM (AV j) (x.2:Int)))) hp4 (by decide) Df (Gc h2.2.2)
 exact ⟨As (HU k) hp4,As (HU k2) hp4,k.krect,k2.krect⟩
theorem PO.base {P:List Int} {W:World} {base base':Nat} {v:Value} {L:List PE} (h:PO P W base v L) (k:base'≤base):PO P W base' v L:=⟨Cw h.own k,h.el⟩
theorem U5 {α:Type} {l:List α} {p:α→Bool} {i:Nat} {x:α} (h:l[i]?=some x):(l.take (i+1)).any p=((l.take i).any p || p x):=by
 rw [BN h,List.any_append]; simp
theorem JT (n lim:Int) (w:World) (hG:G w) (hE:LW w) (hn:0≤n∧n≤255) (hl:0≤lim∧lim≤255) :
 Calls Tryz.prog 10 #[.int .u8 n,.int .u8 lim] w fun e w'=>e=.returned (.bool true)∧Fr w w':=by
 obtain ⟨i0,hi,hz0,hz1,hz2⟩:=AZ O6
 obtain ⟨q,hq⟩:∃ q:Nat,lim.tmod 7=(q:Int):=⟨(lim.tmod 7).toNat,by have:=WW 7 hl.1; omega⟩
 have hq7:q < 7:=by have:=Q0 lim (show (0:Int) < 7 by decide); omega
 have hkn:=hZ (PJ w hG hE)
 have hpm:=hZ (fun W=>N2 n hn.1 hn.2 W)
 obtain ⟨K,hK⟩:∃ K,K=q+1:=⟨_,rfl⟩
 obtain ⟨j,hj⟩:∃ j,j=(n.tmod 10).toNat:=⟨_,rfl⟩
 have hprm:Yi n=AV j:=by rw [hj]; rfl
 rw [hprm] at hpm
 obtain ⟨hp,hp1,hp4⟩:BQ (AV j)=0∧1≤(AV j).length∧(AV j).length≤4:=Ny j
 have hpr:=hZ (fun (aP:Option Addr) (cP:Nat) W (hW:Fr w W) (hP:El W iv aP (AV j))=>S3 j K aP cP W (hG.fr hW) (hE.fr hW) ⟨by omega,by omega⟩ hP)
 have hp0:=hZ (fun (l:Int) (h:l < 1∨40 < l) (aP:Option Addr) (cP:Nat) W (hP:El W iv aP (AV j))=>Vm (AV j) aP cP l W hP hp (by omega) h)
 have hvl:∀ s,(BM (AV j) s).length=(AV j).length:=fun s=>Fg _ _
 have hpt:Hid (∀ (a:Nat) (aP:Option Addr) (cP:Nat) W,(1≤a∧a≤7)→Fr w W→El W iv aP (AV j)→Calls Tryz.prog 14 #[.slice aP (AV j).length cP,.int .i64 a] W fun e w'=>∃ va vc,e=.returned (.tuple #[.slice va (AV j).length vc,.int .i64 0])∧El w' iv va (BM (AV j) (a:Int))∧Fr W w'):=fun a aP cP W h1 hW hP=>by
  have h4:=Iu j (k:=a) h1.1 (by omega)
  have hv:=hvl (a:Int)
  generalize AV j=P at *
  cases P with
  | nil=>simp at hp1
  | cons p0 r=>exact (JW p0 r aP cP a W (by omega) hp h4 hP (hG.fr hW)).mono fun e w' ⟨va,vc,e1,e2,_,_,e3⟩=>⟨va,vc,by rw [e1,hv],e2,e3⟩
 have hjn:Hid (∀ (a b:Nat) (aP va ua:Option Addr) (cP vc uc:Nat) W,(1≤a∧a≤7)→(1≤b∧b≤7)→Fr w W→El W iv va (BM (AV j) (a:Int))→El W iv ua (BM (AV j) (b:Int))→Calls Tryz.prog 16 #[.slice aP (AV j).length cP,.slice va (AV j).length vc,.slice ua (AV j).length uc] W (X4 W (PW (AV j) (a,b)) aP (AV j).length cP (Ii (AV j) (a,b)) (Ix (AV j) (a,b)))):=fun a b aP va ua cP vc uc W h1 h2 hW hv hu=>by
  have hf:∀ s:Nat,(1≤s∧s≤7)→∀ y,y ∈ BM (AV j) (s:Int)→Bq y=true:=fun s hs=>Gq (Iu j hs.1 (by omega)) (by omega)
  have hk:=V4 hp4 hp1 (hvl (a:Int)) (Yy j (k:=a) h1.1 (by omega))
  have hh:Cz (BM (AV j) (a:Int)) 0≠0:=by
   generalize AV j=P at *
   cases P with
   | nil=>simp at hp1
   | cons p0 r=>exact T4 (by omega)
  obtain ⟨s,e1,-,e3⟩:=Wk (P:=AV j) (v:=BM (AV j) (a:Int)) (u:=BM (AV j) (b:Int)) hp1 hp4 hp (hvl _) (hvl _) (hf a h1) (hf b h2) hh hk.1 hk.2
  have h9:=QO (AV j) (BM (AV j) (a:Int)) (BM (AV j) (b:Int)) s aP va ua cP vc uc W (hG.fr hW) (hE.fr hW) hp1 hp4 hv hu (hvl _) (hvl _) (hf a h1) (hf b h2) e1
  rw [← e3] at h9
  exact h9
 have hsm:Hid (∀ (x y:Nat×Nat) (aP bP aC bC aM bM:Option Addr) (cP dP cC dC cM dM:Nat) W,x ∈ FB→y ∈ FB→El W iv aP (AV j)→El W iv bP (AV j)→A5 W aC (Ii (AV j) y)→A5 W bC (Ii (AV j) x)→A5 W aM (Ix (AV j) y)→A5 W bM (Ix (AV j) x) →
  Calls Tryz.prog 17 #[.agg #[.slice aP (AV j).length cP,.slice aC (Ii (AV j) y).length cC,.slice aM (Ix (AV j) y).length cM],.agg #[.slice bP (AV j).length dP,.slice bC (Ii (AV j) x).length dC,.slice bM (Ix (AV j) x).length dM]] W fun e w'=>e=.returned (.bool (Hw (AV j) x y))∧Fr W w'):=fun x y aP bP aC bC aM bM cP dP cC dC cM dM W hx hy k1 k2 k3 k4 k5 k6=>by
  obtain ⟨x1,x2,x3,x4⟩:=Xc j hx
  obtain ⟨y1,y2,y3,y4⟩:=Xc j hy
  exact QF (AV j) _ _ _ _ aP bP aC bC aM bM cP dP cC dC cM dM W k1 k2 k3 k4 k5 k6 (by omega) ⟨by omega,by omega,by omega,by omega⟩ ⟨fun r hr=>by rw [y3 r hr]; omega,fun r hr=>by rw [y4 r hr]; omega,fun r hr=>by rw [x3 r hr]; omega,fun r hr=>by rw [x4 r hr]; omega⟩
 have hnx:=hZ (fun a b (h1:a+1≤b)=>Ul (P:=AV j) (k:=K) (a:=a) (b:=b) h1)
 have hrow:=hZ (fun a (h1:1≤a)=>Ru (P:=AV j) (k:=K) (a:=a) h1)
 have hmem:Hid (∀ a b x,1≤a→a≤K+1→b≤K+1→x ∈ MP (AV j) K a b→x ∈ FB):=fun a b x h1 h2 h3 h=>by
  rw [← ND j (by omega) h1 h2 h3] at h
  exact Wm (by omega) h1 h2 h3 h
 have hlen:Hid (∀ a b,1≤a→a≤K+1→b≤K+1→(MP (AV j) K a b).length≤100):=fun a b h1 h2 h3=>by
  rw [← ND j (by omega) h1 h2 h3]; exact Rt (by omega) h2 h3
 have hfin:Hid (I5 (AV j) K (K+1) (K+2)=MP (AV j) K (K+1) (K+2)):=by
  show _=_
  have h1:=Rs (P:=AV j) (k:=K) (a:=K) (by omega)
  have h2:=Ru (P:=AV j) (k:=K) (a:=K) (by omega)
  rw [← h1,← h2]
  exact ND j (by omega) (by omega) (by omega) (by omega)
 have h00:MP (AV j) K 1 2=[]:=rfl
 have hm4:Hid (1≤(AV j).length):=hp1
 have hz7:Hid (∀ a b:Nat,(1≤a∧a < b)→b≤7→((a,b):Nat×Nat) ∈ FB):=fun a b h1 h2=>I4 h1.1 h1.2 h2
 unfold X4 at hjn
 unfold LT at hpr
 generalize AV j=P at *
 obtain ⟨m,hm⟩:∃ m,m=P.length:=⟨_,rfl⟩
 rw [← hm] at hpm hpr hp0 hpt hjn hsm hm4
 replace hm:=hZ hm
 have hK1:1≤K∧K≤7:=by omega
 have hw1:IntKind.i64.wrap (1+(q:Int))=(K:Int):=by rw [show (1:Int)+(q:Int)=(K:Int) by omega]; exact Ak _ (by omega)
 replace hK:=hZ hK
 clear hp hp1 hp4 hG hE hn hl hj hprm hvl
 go_enter Tryz.func10,Tryz.ntmps10
 go_wp2_with fail
 refine hkn.out.mono ?_
 rintro e w1 ⟨rfl,hf1⟩
 go_wp2_with fail
 refine (hpm.out w1).mono ?_
 rintro e w2 ⟨pb,rfl,hpe,-,hf2⟩
 have hfw2:=hf1.trans hf2
 have hpr2:=hZ (hpr.out _ m w2 hfw2 hpe)
 replace hpe:=hZ hpe
 clear hpm hpr hkn
 go_wp2_with fail
 refine hpr2.out.mono ?_
 rintro e w3 ⟨vl,LL,rfl,hLL,hLk,hf3⟩
 have hfw3:=hfw2.trans hf3
 have hpe3:=hZ (hpe.out.fr hf3)
 have h0w:=hZ (hp0.out 0 (.inl (by decide)) _ m w3 hpe3.out)
 replace hLL:=hZ hLL
 replace hLk:=hZ hLk
 clear hpr2 hpe
 go_wp2_with fail
 refine h0w.out.mono ?_
 rintro e w4 ⟨rfl,hf4⟩
 have h41:=hZ (hp0.out 41 (.inr (by decide)) _ m w4 (hpe3.out.fr hf4))
 clear h0w hp0
 go_wp2_with fail
 refine h41.out.mono ?_
 rintro e w5 ⟨rfl,hf5⟩
 have hf35:=hf4.trans hf5
 have hfw5:=hfw3.trans hf35
 have hI0:=hZ (show VO P K w5 1 2 (.slice none 0 0) vl LL w5 from ⟨Fr.refl _,⟨[],PO.nil _ _ _,by rw [h00]; rfl⟩,(hLL.out.base (Ck _)).fr hf35,fun x hx=>As (hLL.out.el x hx).2.1 hf35.size,fun g e=>Aq (hLL.out.own.lt g e).2 hf35.size⟩)
 have hpe5:=hZ (hpe3.out.fr hf35)
 have hpb:pb < w5.heap.size:=by
  rcases hpe5.out with h | ⟨b9,o9,h1,h2,-⟩
  ·have h3:=hm.out; rw [h] at h3; exact absurd h3 (by have:=hm4.out; show ¬ m=0; omega)
  ·injection h1 with h1; injection h1 with h1; omega
 have hpW:=hZ (fun W (hW:Fr w5 W)=>hpe5.out.fr hW)
 have hwW:=hZ (fun W (hW:Fr w5 W)=>hfw5.trans hW)
 clear h41 hpe3 hLL h00 hpe5
 go_wp2_with fail
 go_loopg [13,14] K (fun k s13 s14 wr=>∃ a:Nat,s14=.int .i64 a∧1≤a∧a+k=K+1∧Hid (VO P K w5 a (a+1) s13 vl LL wr))
 case atStart=>exact ⟨1,rfl,by omega,by omega,hI0⟩
 case round=>
  clear hI0
  obtain ⟨a,rfl,ha1,hak,hI⟩:=hrel
  obtain ⟨ko,rfl⟩:∃ ko:Nat,ko=gk:=⟨_,rfl⟩
  obtain ⟨wo,rfl⟩:∃ wo:World,wo=wr:=⟨_,rfl⟩
  by_cases haK:a≤K
  ·have hd:decide ((a:Int)≤(K:Int))=true:=Ab (by omega)
   have hdN:decide (a≤K)=true:=Ab haK
   have k1:IntKind.i64.wrap ((a:Int)+1)=((a+1:Nat):Int):=by rw [show (a:Int)+1=((a+1:Nat):Int) by omega]; exact Ak _ (by omega)
   go_wp2_with fail
   go_loopg [13,15] (K - a) (fun k s13 s15 wr2=>∃ b:Nat,s15=.int .i64 b∧a+1≤b∧b+k=K+1∧Hid (VO P K w5 a b s13 vl LL wr2))
   case atStart=>exact ⟨a+1,by first | rfl | go_num,by omega,by omega,hI⟩
   case round=>
    clear hI
    obtain ⟨b,rfl,hab,hbk,hJ⟩:=hrel
    obtain ⟨v,rfl⟩:∃ v:Value,v=u13:=⟨_,rfl⟩
    obtain ⟨W0,rfl⟩:∃ W:World,W=wr:=⟨_,rfl⟩
    obtain ⟨kb,rfl⟩:∃ kb:Nat,kb=gk:=⟨_,rfl⟩
    by_cases hbK:b≤K
    ·have he:decide ((b:Int)≤(K:Int))=true:=Ab (by omega)
     have heN:decide (b≤K)=true:=Ab hbK
     have k2:IntKind.i64.wrap ((b:Int)+1)=((b+1:Nat):Int):=by rw [show (b:Int)+1=((b+1:Nat):Int) by omega]; exact Ak _ (by omega)
     have hpa:=hZ (hpt.out a (some ⟨pb,0,none⟩) m W0 (by omega) (hwW.out _ hJ.out.fr) (hpW.out _ hJ.out.fr))
     have hpc:=hZ (fun W (hW:Fr w5 W)=>hpt.out b (some ⟨pb,0,none⟩) m W (by omega) (hwW.out _ hW) (hpW.out _ hW))
     go_wp2_with fail
     refine hpa.out.mono ?_
     rintro e w6 ⟨xa,xc,rfl,hx1,hf6⟩
     have hJ6:=hZ (hJ.out.step hf6)
     have hpc6:=hZ (hpc.out w6 hJ6.out.fr)
     replace hx1:=hZ hx1
     clear hpa hpc
     go_wp2_with fail
     refine hpc6.out.mono ?_
     rintro e w7 ⟨ya,yc,rfl,hx2,hf7⟩
     have hJ7:=hZ (hJ6.out.step hf7)
     have hjw:=hZ (hjn.out a b (some ⟨pb,0,none⟩) xa ya m xc yc w7 (by omega) (by omega) (hwW.out _ hJ7.out.fr) (hx1.out.fr hf7) hx2)
     clear hpc6 hx1 hx2 hJ6
     have hnw:=hZ (hnx.out a b hab)
     have hin:=hZ (hz7.out a b (by omega) (by omega))
     obtain ⟨E,hE9⟩:∃ E,E=PW P (a,b):=⟨_,rfl⟩
     obtain ⟨A,hA⟩:∃ A,A=Ii P (a,b):=⟨_,rfl⟩
     obtain ⟨S,hS⟩:∃ S,S=Ix P (a,b):=⟨_,rfl⟩
     rw [← hE9,← hA,← hS] at hjw
     replace hE9:=hZ hE9
     replace hA:=hZ hA
     replace hS:=hZ hS
     go_wp2_with fail
     refine hjw.out.mono ?_
     rintro e w8 ⟨hf8,hok,hno⟩
     have hJ8:=hZ (hJ7.out.step hf8)
     by_cases hE0:E=0
     case neg=>
      obtain rfl:=hno hE0
      have q0:(E != 0)=true:=Bs.2 hE0
      obtain ⟨w9,hw9⟩:∃ W,W=w8.alloc (.cells #[.slice none 0 0,.slice none 0 0,.slice none 0 0] 29):=⟨_,rfl⟩
      have hf9:Fr w8 w9:=by rw [hw9]; exact (Fr.refl _).alloc _
      have hJ9:=hZ ((hJ8.out.step hf9).skip (a':=a) (b':=b+1) (by rw [hnw.out]; unfold Lp; rw [Ai (by rw [← hE9.out]; exact hE0)]))
      replace hE0:=hZ hE0
      clear hok hno hjw hJ8 hJ7
      go_upto_region 22 with (fail)
      rw [← hw9]
      clear hw9
      go_wp2_with fail
      go_roundg (kb - 1)
      case measure=>omega
      case rel=>exact ⟨b+1,by first | rfl | go_num,by omega,by omega,hJ9⟩
     subst hE0
     obtain ⟨ca,cc,ma,mc,rfl,hmc,hmm⟩:=hok (by trivial)
     clear hok hno hjw
     have q0:((0:Int) != 0)=false:=rfl
     obtain ⟨x,hx⟩:∃ x:PE,x=⟨a,b,some ⟨pb,0,none⟩,m,ca,cc,ma,mc,fun k=>(k < w7.heap.size∨w8.heap.size≤k)∧k≠pb,w8.heap.size⟩:=⟨_,rfl⟩
     have hpe:Tl P x w8:=fun W' hW=>by
      rw [hx] at hW ⊢
      have hW':Fx (· < w7.heap.size) w8 W':=⟨hW.os,hW.tape,hW.output,hW.size,fun k hk hn=>hW.block k hk (fun e=>by rcases e.1 with e | e; exact hn e; exact absurd hk (by show ¬ k < w8.heap.size; exact Nat.not_lt.2 e))⟩
      exact ⟨(hpW.out w8 hJ8.out.fr).fx hW (fun e=>e.2 rfl),by rw [show Ii P (PE.key ⟨a,b,some ⟨pb,0,none⟩,m,ca,cc,ma,mc,fun k=>(k < w7.heap.size∨w8.heap.size≤k)∧k≠pb,w8.heap.size⟩)=A from hA.out.symm]; exact hmc W' hW',by rw [show Ix P (PE.key ⟨a,b,some ⟨pb,0,none⟩,m,ca,cc,ma,mc,fun k=>(k < w7.heap.size∨w8.heap.size≤k)∧k≠pb,w8.heap.size⟩)=S from hS.out.symm]; exact hmm W' hW'⟩
     have hlo7:w5.heap.size≤w7.heap.size:=hJ7.out.fr.size
     have hv7:Hid (∀ g,v.ownBlock=some g→g < w7.heap.size∧w5.heap.size≤g):=by
      obtain ⟨L0,hPO0,-⟩:=hJ7.out.po
      exact fun g e=>⟨(hPO0.own.lt g e).2,(hPO0.own.lt g e).1⟩
     have h78:=hf8.size
     obtain ⟨w9,hw9⟩:∃ W,W=w8.alloc (.cells #[.slice (some ⟨pb,0,none⟩) m m,.slice ca A.length cc,.slice ma S.length mc] 29):=⟨_,rfl⟩
     have hf9:Fr w8 w9:=by rw [hw9]; exact (Fr.refl _).alloc _
     have hB9:=C3.new w8 (.slice (some ⟨pb,0,none⟩) m m) (.slice ca A.length cc) (.slice ma S.length mc) 29
     rw [← hw9] at hB9
     obtain ⟨tb,htb⟩:∃ q,q=w8.heap.size:=⟨_,rfl⟩
     rw [← htb] at hB9
     have hTl:=hZ (fun W (hW:Fr w9 W)=>(⟨hW.keep hB9.a,hW.keep hB9.b,hW.keep hB9.c⟩:W.cell? ⟨tb,0,none⟩=some (.slice (some ⟨pb,0,none⟩) m m)∧W.cell? ⟨tb,1,none⟩=some (.slice ca A.length cc)∧W.cell? ⟨tb,2,none⟩=some (.slice ma S.length mc)))
     have hmc9:=hZ (fun W (hW:Fr w9 W)=>(⟨hmc W (Fx.of_fr (hf9.trans hW)),hmm W (Fx.of_fr (hf9.trans hW))⟩:A5 W ca A∧A5 W ma S))
     have hJ9:=hJ8.out.step hf9
     have hpe9:=hZ (hpe.fr hf9)
     have hx9:x.hi≤w9.heap.size:=by rw [hx]; show w8.heap.size≤_; exact hf9.size
     replace hx9:=hZ hx9
     obtain ⟨L,hPO,hLk⟩:=hJ9.po
     obtain ⟨va,vc,rfl,-⟩:=C9 hPO.own
     obtain ⟨N,hN⟩:∃ N,N=L.length:=⟨_,rfl⟩
     have hN100:N≤100:=by rw [hN,← An (f:=PE.key),hLk]; exact hlen.out a b ha1 (by omega) (by omega)
     have hLm:Hid (∀ y,y ∈ L→y.key ∈ FB):=fun y hy=>hmem.out a b y.key ha1 (by omega) (by omega) (by rw [← hLk]; exact Bc.2 ⟨y,hy,rfl⟩)
     rw [← hN] at hPO hJ9 hv7 ⊢
     have hsw:=hZ (fun (y:PE) (hy:y ∈ L) W (hW:Fr w9 W) (k1:El W iv y.pa P) (k2:A5 W y.ca (Ii P y.key)) (k3:A5 W y.ma (Ix P y.key))=>hsm.out (a,b) y.key y.pa (some ⟨pb,0,none⟩) y.ca ca y.ma ma y.pc m y.cc cc y.mc mc W hin.out (hLm.out y hy) k1 (hpW.out W (hJ9.fr.trans hW)) k2 (by rw [← hA.out]; exact (hmc9.out W hW).1) k3 (by rw [← hS.out]; exact (hmc9.out W hW).2))
     rw [← hA.out,← hS.out] at hsw
     replace hJ9:=hZ hJ9
     replace hPO:=hZ hPO
     replace hLk:=hZ hLk
     replace hN:=hZ hN
     clear hmc hmm hpe hB9 hJ7 hJ8 hmc9 hLm
     go_upto_region 22 with (fail)
     rw [← hw9,← htb]
     clear hw9
     replace htb:=hZ htb
     go_wp2_with fail
     go_loopg [22,23] N (fun k s22 s23 wr3=>∃ (i:Nat) (c:Bool),s23=.int .i64 i∧s22=.bool c∧i+k=N∧Fr w9 wr3∧Hid (c=((L.take i).any fun y=>Hw P (a,b) y.key)))
     case atStart=>exact ⟨0,false,rfl,rfl,by omega,Fr.refl _,rfl⟩
     case round=>
      obtain ⟨i,c,rfl,rfl,hiN,hf,hc⟩:=hrel
      obtain ⟨W3,rfl⟩:∃ W:World,W=wr:=⟨_,rfl⟩
      by_cases hiN2:i < N
      ·have hdi:decide ((i:Int) < (N:Int))=true:=Ab (by omega)
       have hdiN:decide (i < N)=true:=Ab hiN2
       have hiL:i < L.length:=by rw [← hN.out]; exact hiN2
       have k3:IntKind.i64.wrap ((i:Int)+1)=((i+1:Nat):Int):=by rw [show (i:Int)+1=((i+1:Nat):Int) by omega]; exact Ak _ (by omega)
       have hPO3:=hPO.out.fr hf
       obtain ⟨g,c9,hv9,-,-,c2,c3,c4⟩:=hPO3.at hiL
       obtain ⟨e1,e2,e3⟩:=hPO3.tm hiL
       have hmem9:L[i] ∈ L:=AG hiL
       have hat:Hid (∀ p:PE→Bool,(L.take (i+1)).any p=((L.take i).any p || p L[i])):=fun p=>U5 (Ac hiL)
       have hsy:=fun W (hW:Fr W3 W)=>hsw.out L[i] hmem9 W (hf.trans hW) (e1.fr hW) (e2.fr hW) (e3.fr hW)
       injection hv9 with hva hvn hvc
       subst hva
       obtain rfl:=hvc.symm
       clear hvn
       rw [← hm.out] at c2
       obtain ⟨t0,t1,t2⟩:=hTl.out W3 hf
       obtain ⟨sq,hsq⟩:∃ q,q=Hw P (a,b) (L[i]).key:=⟨_,rfl⟩
       rw [← hsq] at hsy
       have hnext:Hid (((L.take (i+1)).any fun y=>Hw P (a,b) y.key)=(c || sq)):=by show _=_; rw [hat.out,hc.out,hsq]
       replace hsq:=hZ hsq
       replace hsy:=hZ hsy
       generalize L[i]=y at *
       generalize (Ii P y.key).length=nA at *
       generalize (Ix P y.key).length=nS at *
       generalize A.length=nA2 at *
       generalize S.length=nS2 at *
       have y0:(0:Int)≤(i:Int):=Aj _
       have y1:(i:Int) < (N:Int):=by omega
       clear e1 e2 e3 hPO3 hmem9 hat
       cases c with
       | true=>
         go_wp2_with fail
         go_quiet (fail)
         go_wp2_with fail
         go_roundg (gk - 1)
         case measure=>omega
         case rel=>exact ⟨i+1,true,by first | rfl | go_num,rfl,by omega,hf.drewN _,by show _=_; rw [hnext.out]; rfl⟩
       | false=>
         go_wp2_with fail
         go_region_held3 (fun w'=>w'.cell? ⟨g,i * 5+2,none⟩=some (.slice y.pa m y.pc)∧w'.cell? ⟨g,i * 5+2+1,none⟩=some (.slice y.ca nA y.cc)∧w'.cell? ⟨g,i * 5+2+2,none⟩=some (.slice y.ma nS y.mc)∧w'.cell? ⟨tb,0,none⟩=some (.slice (some ⟨pb,0,none⟩) m m)∧w'.cell? ⟨tb,1,none⟩=some (.slice ca nA2 cc)∧w'.cell? ⟨tb,2,none⟩=some (.slice ma nS2 mc))
          (first | go_keep | (go_split_ands; refine ⟨?_, ?_, ?_, ?_, ?_, ?_⟩ <;> (refine Fr.keep (by assumption) ?_; assumption)) | trivial)
          ((go_at_call 17; (with_reducible refine (hsy.out _ ?_).mono ?_); (exact B9); rintro e w6b ⟨rfl,hf6b⟩))
         have hf99:Fr W3 w6b:=by exact B9
         go_wp2_with fail
         go_roundg (gk - 1)
         case measure=>omega
         case rel=>exact ⟨i+1,sq,by first | rfl | go_num,rfl,by omega,hf.trans hf99,by show _=_; rw [hnext.out]; rfl⟩
      ·obtain rfl:i=N:=by omega
       have hdi:decide ((i:Int) < (i:Int))=false:=Aa (by omega)
       have hdiN:decide (i < i)=false:=Aa (by omega)
       have hall:c=((MP P K a b).any fun y=>Hw P (a,b) y):=by
        rw [hc.out,Ao (by rw [← hN.out]; exact Ah _),← hLk.out,List.any_map]; rfl
       have hkeep:Hid (MP P K a (b+1)=if c=true then MP P K a b else MP P K a b ++ [(a,b)]):=by
        show _=_
        rw [hnw.out,hall]
        unfold Lp
        rw [Ag (by rw [← hE9.out]; simp)]
       have hJw:=hJ9.out.step hf
       clear hall hc
       cases c with
       | true=>
         have hJ10:=hZ (hJw.skip (a':=a) (b':=b+1) (by rw [hkeep.out,Ai rfl]))
         clear hJw
         go_wp2_with fail
         go_roundg (kb - 1)
         case measure=>omega
         case rel=>exact ⟨b+1,by first | rfl | go_num,by omega,by omega,hJ10⟩
       | false=>
         obtain ⟨t0,t1,t2⟩:=hTl.out W3 hf
         have hPOw:=hPO.out.fr hf
         have hpew:=hZ (hpe9.out.fr hf)
         have hxw:Hid (x.hi≤W3.heap.size):=As hx9.out hf.size
         have hlo3:w5.heap.size≤W3.heap.size:=hJw.fr.size
         have hown3:=hPOw.own
         rw [← hN.out] at hown3
         replace hown3:=hZ hown3
         replace hPOw:=hZ hPOw
         replace hJw:=hZ hJw
         go_wp2_with (at_builtin; refine wpList_append_lies _ rfl _ _ 83 (by rfl) _ 87 _ _ 5 88 Tryz.underlying83 hi hz0 hz1 hz2 rfl (by decide) _ i _ (by rfl) (hown3.out.alloc _) ⟨W3.heap.size,0,none⟩ 1 1 [.int .i64 a,.int .i64 b,.slice (some ⟨pb,0,none⟩) m m,.slice ca A.length cc,.slice ma S.length mc] (by rfl) rfl (LN W3 [.int .i64 a,.int .i64 b,.slice (some ⟨pb,0,none⟩) m m,.slice ca A.length cc,.slice ma S.length mc] _) (by simp [Value.oneCell']) (by decide) (by unfold maxLen; omega) (by omega) (by rw [AF]; omega) (W3.heap.size+1) (by simp) ?_; intro gA capA wA hownA hgrowA hatA hltA)
         have hcs:[.int .i64 a,.int .i64 b,.slice (some ⟨pb,0,none⟩) m m,.slice ca A.length cc,.slice ma S.length mc]=PE.cs P x:=by
          rw [hx]
          unfold PE.cs PE.key
          rw [← hm.out,← hA.out,← hS.out]
         rw [hN.out] at hownA
         have hpush:=PO.push hPOw.out hpew.out hxw.out (fun k hk=>by rw [hx] at hk ⊢; exact ⟨.inr hk,by have hk:w8.heap.size≤k:=hk; show k≠pb; omega⟩) (fun g e=>by
          have:=hv7.out g e
          rw [hx]; exact ⟨.inl this.1,by show g≠pb; omega⟩) (by rw [← hcs]; exact hownA) hgrowA hatA
         have hFr9:Fr w5 wA:=(hJw.out.fr.alloc _).grown hgrowA (fun k e=>(hv7.out k e).2)
         have hpl9:PO P wA 0 vl LL:=(hJw.out.pl.1.fr ((Fr.refl W3).alloc _)).fx (Fx.of_grown hgrowA) (fun g hg e=>by have:=(hv7.out g e).2; have:=hJw.out.pl.2.2 g hg; omega) (fun y hy k e=>(hJw.out.pl.1.el y hy).2.2.1 k (by have:=(hv7.out k e).2; have:=hJw.out.pl.2.1 y hy; omega))
         have hkp:MP P K a (b+1)=MP P K a b ++ [(a,b)]:=by rw [hkeep.out,Ag (by decide)]
         have hJA:VO P K w5 a (b+1) (.slice (some ⟨gA,0,none⟩) (L.length+1) capA) vl LL wA:=⟨hFr9,⟨L ++ [x],hpush,by rw [Ay,hLk.out,hkp,hx]; rfl⟩,hpl9,hJw.out.pl.2⟩
         rw [← hN.out] at hJA
         replace hJA:=hZ hJA
         clear hpush hFr9 hkp hcs hpl9
         go_wp2_with fail
         go_roundg (kb - 1)
         case measure=>omega
         case rel=>exact ⟨b+1,by first | rfl | go_num,by omega,by omega,hJA⟩
    ·obtain rfl:b=K+1:=by omega
     have he:decide (((K+1:Nat):Int)≤(K:Int))=false:=Aa (by omega)
     have heN:decide (K+1≤K)=false:=Aa (by omega)
     have hJ2:=hZ (hJ.out.skip (a':=a+1) (b':=a+1+1) (hrow.out a ha1).symm)
     go_wp2_with fail
     go_roundg (ko - 1)
     case measure=>omega
     case rel=>exact ⟨a+1,by first | rfl | go_num,by omega,by omega,hJ2⟩
  ·obtain rfl:a=K+1:=by omega
   have hd:decide (((K+1:Nat):Int)≤(K:Int))=false:=Aa (by omega)
   have hdN:decide (K+1≤K)=false:=Aa (by omega)
   obtain ⟨L,hPO,hLkk⟩:=hI.out.po
   obtain ⟨va,vc,rfl,-⟩:=C9 hPO.own
   have hpl:=hI.out.pl.1
   obtain ⟨la,lc,rfl,-⟩:=C9 hpl.own
   have hfw:=hI.out.fr
   have hmap:LL.map PE.key=L.map PE.key:=by rw [hLk.out,hfin.out,hLkk]
   have hlen2:LL.length=L.length:=by rw [← An (f:=PE.key),hmap,An]
   have hmm9:Hid (∀ y,y ∈ L→y.key ∈ FB):=fun y hy=>hmem.out K (K+1) y.key hK1.1 (by omega) (by omega) (by rw [hrow.out K hK1.1,← hLkk]; exact Bc.2 ⟨y,hy,rfl⟩)
   have hkk:Hid (∀ (i:Nat) (h1:i < LL.length) (h2:i < L.length),(LL[i]).key=(L[i]).key):=fun i h1 h2=>by
    have h3:=congrArg (fun l=>l[i]?) hmap
    simp only [At,Ac h1,Ac h2,Mc,Option.some.injEq] at h3
    exact h3
   obtain ⟨N,hN⟩:∃ N,N=L.length:=⟨_,rfl⟩
   rw [hlen2] at hpl hI ⊢
   rw [← hN] at hPO hpl hI ⊢
   have q9:((N:Int) != (N:Int))=false:=by simp
   have hN100:N≤100:=by rw [hN,← An (f:=PE.key),hLkk,← hrow.out K hK1.1]; exact hlen.out K (K+1) hK1.1 (by omega) (by omega)
   replace hPO:=hZ hPO
   replace hpl:=hZ hpl
   replace hN:=hZ hN
   replace hlen2:=hZ hlen2
   replace hmap:=hZ hmap
   clear hI hLkk
   go_wp2_with fail
   go_loopg [24] N (fun k s24 wr4=>∃ i:Nat,s24=.int .i64 i∧i+k=N∧Fr wo wr4)
   case atStart=>exact ⟨0,rfl,by omega,Fr.refl _⟩
   case round=>
    obtain ⟨i,rfl,hiN,hf⟩:=hrel
    obtain ⟨W3,rfl⟩:∃ W:World,W=wr:=⟨_,rfl⟩
    by_cases hiN2:i < N
    ·have hdi:decide ((i:Int) < (N:Int))=true:=Ab (by omega)
     have hdiN:decide (i < N)=true:=Ab hiN2
     have hiL:i < L.length:=by rw [← hN.out]; exact hiN2
     have hiLL:i < LL.length:=by rw [hlen2.out]; exact hiL
     have k3:IntKind.i64.wrap ((i:Int)+1)=((i+1:Nat):Int):=by rw [show (i:Int)+1=((i+1:Nat):Int) by omega]; exact Ak _ (by omega)
     obtain ⟨g,c9,hv9,d0,d1,d2,d3,d4⟩:=(hPO.out.fr hf).at hiL
     obtain ⟨h,b9,hv8,e0,e1,e2,e3,e4⟩:=(hpl.out.fr hf).at hiLL
     obtain ⟨l1,l2,l3⟩:=(hPO.out.fr hf).tm hiL
     obtain ⟨m1,m2,m3⟩:=(hpl.out.fr hf).tm hiLL
     have hk:=hkk.out i hiLL hiL
     have ka:(LL[i]).a=(L[i]).a:=congrArg Prod.fst hk
     have kb:(LL[i]).b=(L[i]).b:=congrArg Prod.snd hk
     rw [ka] at e0
     rw [kb] at e1
     rw [hk] at e3 e4 m2 m3
     have hin:=hmm9.out L[i] (AG hiL)
     have hsy:=fun W (hW:Fr W3 W)=>hsm.out (L[i]).key (L[i]).key (LL[i]).pa (L[i]).pa (LL[i]).ca (L[i]).ca (LL[i]).ma (L[i]).ma (LL[i]).pc (L[i]).pc (LL[i]).cc (L[i]).cc (LL[i]).mc (L[i]).mc W hin hin (m1.fr hW) (l1.fr hW) (m2.fr hW) (l2.fr hW) (m3.fr hW) (l3.fr hW)
     rw [show Hw P (L[i]).key (L[i]).key=true by unfold Hw; simp] at hsy
     replace hsy:=hZ hsy
     injection hv9 with hva hvn hvc
     subst hva
     obtain rfl:=hvc.symm
     injection hv8 with hla hln hlc
     subst hla
     obtain rfl:=hlc.symm
     clear hvn hln hk ka kb hin l1 l2 l3 m1 m2 m3
     rw [← hm.out] at d2 e2
     generalize L[i]=y at *
     generalize LL[i]=z at *
     generalize (Ii P y.key).length=nA at *
     generalize (Ix P y.key).length=nS at *
     have qa:((y.a:Int) != (y.a:Int))=false:=by simp
     have qb:((y.b:Int) != (y.b:Int))=false:=by simp
     have y0:(0:Int)≤(i:Int):=Aj _
     have y1:(i:Int) < (N:Int):=by omega
     go_wp2_with fail
     go_region_held3 (fun w'=>w'.cell? ⟨h,i * 5,none⟩=some (.int .i64 y.a)∧w'.cell? ⟨h,i * 5+1,none⟩=some (.int .i64 y.b)∧w'.cell? ⟨h,i * 5+2,none⟩=some (.slice z.pa m z.pc)∧w'.cell? ⟨h,i * 5+2+1,none⟩=some (.slice z.ca nA z.cc)∧w'.cell? ⟨h,i * 5+2+2,none⟩=some (.slice z.ma nS z.mc)∧w'.cell? ⟨g,i * 5,none⟩=some (.int .i64 y.a)∧w'.cell? ⟨g,i * 5+1,none⟩=some (.int .i64 y.b)∧w'.cell? ⟨g,i * 5+2,none⟩=some (.slice y.pa m y.pc)∧w'.cell? ⟨g,i * 5+2+1,none⟩=some (.slice y.ca nA y.cc)∧w'.cell? ⟨g,i * 5+2+2,none⟩=some (.slice y.ma nS y.mc))
      (first | go_keep | (go_split_ands; refine ⟨?_, ?_, ?_, ?_, ?_, ?_, ?_, ?_, ?_, ?_⟩ <;> (refine Fr.keep (by assumption) ?_; assumption)) | trivial)
      ((go_at_call 17; (with_reducible refine (hsy.out _ ?_).mono ?_); (exact B9); rintro e w6b ⟨rfl,hf6b⟩))
     have hf99:Fr W3 w6b:=by exact B9
     go_wp2_with fail
     go_roundg (gk - 1)
     case measure=>omega
     case rel=>exact ⟨i+1,by first | rfl | go_num,by omega,hf.trans hf99⟩
    ·obtain rfl:i=N:=by omega
     have hdi:decide ((i:Int) < (i:Int))=false:=Aa (by omega)
     have hdiN:decide (i < i)=false:=Aa (by omega)
     go_wp2_with fail
     go_ret
     exact ⟨rfl,(hwW.out _ hfw).trans hf⟩
end Go.Proofs.YtiniigadkknboaaGreatDoor
