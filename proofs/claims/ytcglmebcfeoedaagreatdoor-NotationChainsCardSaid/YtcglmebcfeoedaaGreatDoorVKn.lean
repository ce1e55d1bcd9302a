/- Contracts and laws: VKn. -/
import Derived.Test.YtcglmebcfeoedaaGreatDoorVSW
import Derived.Test.YtcglmebcfeoedaaGreatDoorVM
import Derived.Test.YtcglmebcfeoedaaGreatDoorVNA
import Derived.Test.YtcglmebcfeoedaaGreatDoorVNB
import Derived.Test.YtcglmebcfeoedaaGreatDoorVP
import Derived.Lib.SplitLaws
import Derived.Test.YtcglmebcfeoedaaGreatDoorVUG0
import Derived.Test.YtcglmebcfeoedaaGreatDoorVPG
import Derived.Test.YtcglmebcfeoedaaGreatDoorVH

set_option maxRecDepth 100000
set_option maxHeartbeats 16000000
namespace Go.Proofs.YtcglmebcfeoedaaGreatDoor
open Go.RowKit Go.Lib
def FB (p:ByteArray×List Int):Sy:=⟨p.1,p.2,none,0⟩
theorem Qf (d:Nat) (p:List Sy) (x:Sy):Dl d p x=Dl d ((Cd p).map FB) (FB (x.nm,x.row)):=by
 have e:((Cd p).map FB).any (fun y=>y.nm.toList == x.nm.toList)=p.any (fun y=>y.nm.toList == x.nm.toList):=by
  unfold Cd; rw [Da,List.any_map]; rfl
 unfold Dl
 show _=if BG x.nm=false then 8 else if ((Cd p).map FB).any (fun y=>y.nm.toList == x.nm.toList)=true then 9 else if Cx x.row≠0 then Cx x.row else if x.row.length≠d then 5 else 0
 rw [e]
theorem KM (d:Nat) (L:List Sy):∀ k i,CF d L k i=CF d ((Cd L).map FB) k i
 | 0,i=>rfl
 | k+1,i=>by
   have e:((Cd L).map FB)[i]?=(L[i]?).map (fun x=>FB (x.nm,x.row)):=by
    unfold Cd; rw [Da,Ao]; rfl
   have et:((Cd L).map FB).take i=(Cd (L.take i)).map FB:=by unfold Cd; rw [← FS,← FS]
   rw [CF,CF,e]
   cases hx:L[i]? with
   | none=>rfl
   | some x=>
     show (if Dl d (L.take i) x≠0 then _ else _)=(if Dl d (((Cd L).map FB).take i) (FB (x.nm,x.row))≠0 then _ else _)
     rw [et,← Qf d (L.take i) x,KM d L k (i+1)]
theorem F9 (N A:List Sy) (r:Nat):Ck N A r=Ck ((Cd N).map FB) ((Cd A).map FB) r:=by
 have e1:((Cd N).map FB).length=N.length:=by rw [Am,C0]
 have e2:((Cd A).map FB).length=A.length:=by rw [Am,C0]
 have e3:(Cd N).map FB ++ (Cd A).map FB=(Cd (N ++ A)).map FB:=by unfold Cd; rw [Aw,Aw]
 unfold Ck
 rw [e1,e2,e3,← KM,Am,C0]
def GE:List ByteArray:=[⟨#[70]⟩,⟨#[67]⟩,⟨#[71]⟩,⟨#[68]⟩,⟨#[65]⟩,⟨#[69]⟩,⟨#[66]⟩]
def YU:List (ByteArray×List Int):=[(⟨#[35]⟩,Bw (7:Nat) (-1) 1),(⟨#[111]⟩,[1,0])]
theorem WN:Ck ((Dd GE (-1) (-1) 1).map FB) (YU.map FB) 2=0:=by decide +kernel
theorem NT:(Dd GE (-1) (-1) 1).map Prod.snd=Xy∧YU.map Prod.snd=Sh:=by decide +kernel
theorem Yi:(Dd GE (-1) (-1) 1).map Prod.fst=GE:=by decide +kernel
theorem WM:∃ F,Cg ([Bw (7:Nat) (-1) 1,[1,0]].map CM) 2=some F∧F.lead.length=2:=by
 have h:(Cg ([Bw (7:Nat) (-1) 1,[1,0]].map CM) 2).map (·.lead.length)=some 2:=by decide +kernel
 obtain ⟨F,h1,h2⟩:=AV.1 h
 exact ⟨F,h1,h2⟩
def Xg (RN:List (List Int)) (I:List (List Rat)) (d:Nat) (r:List Int):Bool :=
 (List.range RN.length).all fun i=>Lt I (List.zipWith (· - ·) r (Bv RN i)) d && (match X7 I d (Bv RN i) r with | none=>true | some cs=>cs.all Bi)
theorem Rk:Xg Xy (KX Sh 2) 2 [-6,4]=true:=by decide +kernel
theorem Yh:Xh (fun i=>X7 (KX Sh 2) 2 (Bv Xy i) [-6,4]) 7=some (5,[0,-2]):=by decide +kernel
theorem Xv:EP (⟨#[69]⟩ :: EX [⟨#[35]⟩,⟨#[111]⟩] [0,-2] 2)=⟨#[69,32,111,45,50]⟩:=by decide +kernel
def kS:ByteArray:=⟨#[67,32,35,43,49,32,111,45,52]⟩
def YM:ByteArray:=⟨#[35,43,49]⟩
def YL:ByteArray:=⟨#[111,45,52]⟩
def V4:List Pc:=[⟨⟨#[35]⟩,false,1⟩,⟨⟨#[111]⟩,true,4⟩]
theorem VZ:Lib.splitB ⟨#[32]⟩ 0 (Lib.countB kS ⟨#[32]⟩) kS=⟨#[67]⟩ :: [YM,YL]:=by decide +kernel
theorem V3:Lib.countB kS ⟨#[32]⟩=2:=by decide +kernel
theorem Kq:Kk Sh (Kw V4 [0,1] 2 2) [0,0] 2=[-11,7]∧Kw V4 [0,1] 2 2=[1,-4]∧Xl Sh [1,-4] [0,0] 2=true:=by decide +kernel
def Jh:List ByteArray:=[⟨#[97]⟩,⟨#[98]⟩,⟨#[99]⟩]
theorem Yo:Ck ((MH Jh).map FB) ([((⟨#[111]⟩:ByteArray),[((3:Nat):Int)])].map FB) 1=0:=by decide +kernel
theorem XG:Ck (((MH Jh).take 2).map FB) ([((⟨#[111]⟩:ByteArray),[((3:Nat):Int)])].map FB) 1=0:=by decide +kernel
theorem XF:((MH Jh).take 2).map Prod.snd=[[0],[1]]:=by decide +kernel
theorem NW {α β:Type} (f:α→β) (p:β→Bool) (xs:List α):Jf (fun x=>p (f x)) xs=Jf p (xs.map f):=by
 unfold Jf
 rw [List.findIdx?_map]
 rfl
theorem Yj:Jf (fun y:ByteArray=>y.toList == (⟨#[67]⟩:ByteArray).toList) GE=1:=by decide +kernel
theorem Xx:Jf (fun y:ByteArray=>y.toList == (⟨#[35]⟩:ByteArray).toList) [⟨#[35]⟩,⟨#[111]⟩]=0:=by decide +kernel
theorem Xw:Jf (fun y:ByteArray=>y.toList == (⟨#[111]⟩:ByteArray).toList) [⟨#[35]⟩,⟨#[111]⟩]=1:=by decide +kernel
attribute [local go_sem ↓] AA AB
theorem Wx (w:World):Calls Tryz.prog 52 #[] w fun e w'=>∃ g,e=.returned (.slice (some ⟨g,0,none⟩) 7 7)∧El w' X6 (some ⟨g,0,none⟩) GE∧Fr w w':=by
 go_enter Tryz.func52,Tryz.ntmps52
 go_wp2_with fail
 go_ret
 refine ⟨_,rfl,.inr ⟨_,0,rfl,by simp,fun i x hx=>?_⟩,(Fr.refl _).alloc _⟩
 have h:(w.alloc (.cells #[.string ⟨#[70]⟩,.string ⟨#[67]⟩,.string ⟨#[71]⟩,.string ⟨#[68]⟩,.string ⟨#[65]⟩,.string ⟨#[69]⟩,.string ⟨#[66]⟩] 9)).heap[w.heap.size]?=some (.cells #[.string ⟨#[70]⟩,.string ⟨#[67]⟩,.string ⟨#[71]⟩,.string ⟨#[68]⟩,.string ⟨#[65]⟩,.string ⟨#[69]⟩,.string ⟨#[66]⟩] 9 (0,0)):=CG w _
 unfold World.cell?
 show (match (w.alloc _).heap[w.heap.size]? with | some (.cells c _ _)=>c[0+i]? | _=>none)=_
 rw [h,Az]
 match i,hx with
 | 0,hx | 1,hx | 2,hx | 3,hx | 4,hx | 5,hx | 6,hx=>injection hx with hx; subst hx; rfl
 | i+7,hx=>cases hx
structure Kn (w:World) (aN aA:Option Addr) (cN cA:Nat) (N A:List Sy) (SN SA:List (ByteArray×List Int)) (r:Nat):Prop where
 hn:DS w aN aA cA N A
 bN:Cd N=SN
 bA:Cd A=SA
theorem Kn.fr {w w':World} {aN aA:Option Addr} {cN cA:Nat} {N A:List Sy} {SN SA:List (ByteArray×List Int)} {r:Nat} (h:Kn w aN aA cN cA N A SN SA r) (k:Fr w w'):Kn w' aN aA cN cA N A SN SA r:=⟨h.hn.fr k,h.bN,h.bA⟩
def TJ (S:List (ByteArray×List Int)):Bool:=S.all fun p=>decide (p.1.size≤32∧p.2.length≤64)
theorem Fe (L:List Sy):(Cd L).map Prod.snd=L.map Sy.row:=by unfold Cd; rw [Da]; rfl
theorem Po (L:List Sy):(Cd L).map Prod.fst=L.map Sy.nm:=by unfold Cd; rw [Da]; rfl
theorem Jz {L:List Sy} {S:List (ByteArray×List Int)} (h:Cd L=S) (hs:TJ S=true):∀ x,x ∈ L→x.nm.size≤32∧x.row.length≤64:=fun _ hx=>Av (As.1 hs _ (Gd h hx))
theorem Kn.check {w:World} {aN aA:Option Addr} {cN cA:Nat} {N A:List Sy} {SN SA:List (ByteArray×List Int)} {r nN nA:Nat} (h:Kn w aN aA cN cA N A SN SA r) (hG:G w) (h1:TJ SN=true) (h2:TJ SA=true) (hE:Ck (SN.map FB) (SA.map FB) r=0) (hnN:SN.length=nN) (hnA:SA.length=nA) (hb:nN≤1000000000∧nA≤1000000000)
 (hF:∃ F,Cg ((SA.map Prod.snd).map CM) (G6 (SA.map Prod.snd))=some F∧F.lead.length=r):∀ W,Fr w W→Calls Tryz.prog 25 #[.agg #[.slice aN nN cN,.slice aA nA cA]] W fun e w'=>e=.returned (.int .i64 0)∧Fr W w':=fun W hW=>by
 have e1:N.length=nN:=by rw [← hnN,← h.bN,C0]
 have e2:A.length=nA:=by rw [← hnA,← h.bA,C0]
 have hc:=HG aN aA cN cA r N A W (hG.fr hW) (h.hn.fr hW) (fun x hx=>by
  rcases A5.1 hx with h9 | h9
  ·have:=Jz h.bN h1 x h9; omega
  ·have:=Jz h.bA h2 x h9; omega) (by omega) (by omega) (fun _ _ _ _=>by
  rw [← Fe,h.bA]; exact hF)
 rw [F9,h.bN,h.bA,hE,e1,e2] at hc
 exact hc
theorem Jj (xs ys:List Int) (a b:Option Addr) (ca cb n m:Nat) (w:World) (hx:El w iv a xs) (hy:El w iv b ys) (hn:xs.length=n) (hm:ys.length=m) (h1:n≤1000000000) (h2:m≤1000000000) :
 Calls Tryz.prog 54 #[.slice a n ca,.slice b m cb] w fun e w'=>e=.returned (.bool (decide (xs=ys)))∧Fr w w':=by
 have h:=S2 xs ys a b ca cb w hx hy (by omega) (by omega)
 rw [hn,hm] at h
 replace h:=hZ h
 clear hx hy hn hm
 go_enter Tryz.func54,Tryz.ntmps54
 go_wp2_with fail
 refine h.out.mono ?_
 rintro e w1 ⟨rfl,hf1⟩
 go_wp2_with fail
 go_ret
 exact ⟨rfl,hf1⟩
theorem Kn.uq {w:World} {aN aA:Option Addr} {cN cA:Nat} {N A:List Sy} {SN SA:List (ByteArray×List Int)} {r d nN nA:Nat} {RN RA B:List (List Int)} {I:List (List Rat)} {res:Option (List Int)} (h:Kn w aN aA cN cA N A SN SA r) (hG:G w) (hRN:SN.map Prod.snd=RN) (hRA:SA.map Prod.snd=RA) (hU:MO RN RA d B I res) (hnN:SN.length=nN) (hnA:SA.length=nA)
 (hck:∀ W,Fr w W→Calls Tryz.prog 25 #[.agg #[.slice aN nN cN,.slice aA nA cA]] W fun e w'=>e=.returned (.int .i64 0)∧Fr W w'):Calls Tryz.prog 21 #[.agg #[.slice aN nN cN,.slice aA nA cA]] w (RM w d res):=by
 have e1:N.length=nN:=by rw [← hnN,← h.bN,C0]
 have e2:A.length=nA:=by rw [← hnA,← h.bA,C0]
 have r1:N.map Sy.row=RN:=by rw [← Fe,h.bN,hRN]
 have r2:A.map Sy.row=RA:=by rw [← Fe,h.bA,hRA]
 have:=SQ N A d B I res aN aA cN cA w hG h.hn (by rw [r1,r2]; exact hU) (by rw [e1,e2]; exact hck)
 rw [e1,e2] at this
 exact this
instance:DecidableEq Pc:=fun a b=>decidable_of_iff (a.nm=b.nm∧a.ng=b.ng∧a.k=b.k) ⟨fun h=>by cases a; cases b; obtain ⟨rfl,rfl,rfl⟩:=h; rfl,fun h=>by rw [h]; exact ⟨rfl,rfl,rfl⟩⟩
theorem V2:Gb YM=some ⟨⟨#[35]⟩,false,1⟩:=by decide +kernel
theorem V0:Gb YL=some ⟨⟨#[111]⟩,true,4⟩:=by decide +kernel
theorem Id (w:World) (hG:G w) (hEr:Er w) (hmx:∃ m,w.cell? ⟨3,0,none⟩=some (.int .i64 m)):Calls Tryz.prog 16 #[] w fun e w'=>e=.returned (.bool true)∧Fr w w':=by
 have hnm:=Wx w
 have hGf:=hZ (fun W (hW:Fr w W)=>hG.fr hW)
 have hmf:=hZ (fun W (hW:Fr w W)=>hmx.imp fun m h=>hW.keep h)
 have hef:=hZ (fun W (hW:Fr w W)=>hEr.fr hW)
 clear hG hmx hEr
 go_enter Tryz.func16,Tryz.ntmps16
 go_wp2_with fail
 refine hnm.mono ?_
 rintro e w1 ⟨gn,rfl,hel1,hf1⟩
 obtain ⟨W1,hW1⟩:∃ W1,W1=(w1.alloc (.cells #[.int .i64 (-1),.int .i64 1] 3)).alloc (.cells #[.int .i64 1,.int .i64 0] 3):=⟨_,rfl⟩
 obtain ⟨ga,hga⟩:∃ ga,ga=w1.heap.size:=⟨_,rfl⟩
 have f11:Fr w1 W1:=by rw [hW1]; exact ((Fr.refl _).alloc _).alloc _
 have f1:=hf1.trans f11
 have hela:El W1 iv (some ⟨ga,0,none⟩) [-1,1]:=by rw [hW1,hga]; exact (El.two' w1 (-1) 1 3).fr ((Fr.refl _).alloc _)
 have helb:El W1 iv (some ⟨ga+1,0,none⟩) [1,0]:=by
  have:=El.two' (w1.alloc (.cells #[.int .i64 (-1),.int .i64 1] 3)) 1 0 3
  rw [AK] at this
  rw [hW1,hga]; exact this
 have hch:=PM GE (some ⟨gn,0,none⟩) 7 2 (-1) (-1) 1 1 0 ga 0 2 (ga+1) 0 2 ⟨#[35]⟩ ⟨#[111]⟩ W1 (hGf.out _ f1) (hel1.fr f11) (by decide) (by decide) (by decide) (by decide) (by omega) (by omega) hela helb (by decide) (by decide) (fun _=>WM)
 rw [show GE.length=7 from rfl] at hch
 replace hch:=hZ hch
 clear hela helb hel1
 go_wp2_with fail
 rw [← hW1,← hga]
 clear hW1
 replace hga:=hZ hga
 refine hch.out.mono ?_
 clear hch
 rintro e w2 ⟨N,A,aN,cN,aA,cA,bN,bA,hn,-,hf2,rfl⟩
 have hE:Ck N A 2=0:=by rw [F9,bN,bA]; exact WN
 have lN:N.length=7:=by rw [← C0,bN]; rfl
 have lA:A.length=2:=by rw [← C0,bA]; rfl
 rw [hE,Aj rfl,lN,lA]
 have f2:=f1.trans hf2
 have hK2:Kn w2 aN aA cN cA N A (Dd GE (-1) (-1) 1) YU 2:=⟨hn,bN,bA⟩
 have hck:=hZ (hK2.check (hGf.out _ f2) (by decide +kernel) (by decide +kernel) WN (nN:=7) (nA:=2) rfl rfl (by omega) WM)
 have hnN:N.map Sy.nm=GE:=by rw [← Po,bN]; exact Yi
 have hnA:A.map Sy.nm=[⟨#[35]⟩,⟨#[111]⟩]:=by rw [← Po,bA]; rfl
 have hrN:N.map Sy.row=Xy:=by rw [← Fe,bN]; exact NT.1
 have hrA:A.map Sy.row=Sh:=by rw [← Fe,bA]; exact NT.2
 have hsz:∀ x,x ∈ N ++ A→x.nm.size≤1000:=fun x hx=>by
  rcases A5.1 hx with h9 | h9
  ·have:=Jz bN (by decide +kernel) x h9; omega
  ·have:=Jz bA (by decide +kernel) x h9; omega
 have hn9:=hZ (fun W (hW:Fr w2 W)=>hn.fr hW)
 have hUq:=hZ (fun W (hW:Fr w2 W)=>(hK2.fr hW).uq (hGf.out _ (f2.trans hW)) NT.1 NT.2 Uf (nN:=7) (nA:=2) rfl rfl (fun W' hW'=>hck.out W' (hW.trans hW')))
 replace hsz:=hZ hsz
 replace hnN:=hZ hnN
 replace hnA:=hZ hnA
 replace hrN:=hZ hrN
 replace hrA:=hZ hrA
 replace lN:=hZ lN
 replace lA:=hZ lA
 clear hn bN bA hE hK2
 obtain ⟨W3,hW3⟩:∃ W3,W3=w2.alloc (.cells #[.slice aN 7 cN,.slice aA 2 cA] 31):=⟨_,rfl⟩
 have f23:Fr w2 W3:=by rw [hW3]; exact (Fr.refl _).alloc _
 obtain ⟨nb,hnb⟩:∃ nb,nb=w2.heap.size:=⟨_,rfl⟩
 have hC3:Br W3 nb (.slice aN 7 cN) (.slice aA 2 cA):=by rw [hW3,hnb]; exact Br.new _ _ _ _
 go_upto_region 2 with (fail)
 rw [← hW3,← hnb]
 clear hW3
 replace hnb:=hZ hnb
 have n0:=hC3.a
 have n1:=hC3.b
 replace hC3:=hZ hC3
 have hU3:=hZ (hUq.out _ f23)
 clear hUq
 go_wp2_with fail
 refine hU3.out.mono ?_
 clear hU3
 rintro e w4 ⟨rfl,hf4⟩
 have f24:=f23.trans hf4
 obtain ⟨W5,hW5⟩:∃ W5,W5=w4.alloc (.cells #[.bool false,.slice none 0 0,.int .i64 0,.slice none 0 0,.int .i64 0,.slice none 0 0] 64):=⟨_,rfl⟩
 have f45:Fr w4 W5:=by rw [hW5]; exact (Fr.refl _).alloc _
 have f25:=f24.trans f45
 unfold IX
 replace n0:=(hf4.trans f45).keep n0
 replace n1:=(hf4.trans f45).keep n1
 go_upto_region 3 with (fail)
 rw [← hW5]
 clear hW5
 obtain ⟨W6,hW6⟩:∃ W6,W6=W5.alloc (.cells #[.int .i64 (-6),.int .i64 4] 3):=⟨_,rfl⟩
 obtain ⟨gr,hgr⟩:∃ gr,gr=W5.heap.size:=⟨_,rfl⟩
 have f56:Fr W5 W6:=by rw [hW6]; exact (Fr.refl _).alloc _
 have f26:=f25.trans f56
 have helr:El W6 iv (some ⟨gr,0,none⟩) [-6,4]:=by rw [hW6,hgr]; exact El.two' _ _ _ _
 have hspl:=QK N A 2 7 (KX Sh 2) (fun i=>X7 (KX Sh 2) 2 (Bv Xy i) [-6,4]) [-6,4] (some ⟨gr,0,none⟩) aN aA 2 cN cA W6 (hGf.out _ (f2.trans f26)) (hn9.out _ f26) (by rw [hrN.out,hrA.out]; exact Uf.nt) lN.out helr rfl (by decide) (fun i x hx=>by
  have h1:Xy[i]?=some x.row:=by rw [← hrN.out,Ao,hx]; rfl
  obtain ⟨h2,h3⟩:=Ah.1 h1
  have h:=As.1 Rk i (AZ.2 h2)
  rw [Bb,Cb h2,h3] at h
  exact ⟨h.1,by rw [Cb h2,h3]⟩) (fun i cs hi hc x hx=>by
  have h:=As.1 Rk i (AZ.2 hi)
  rw [hc,Bb] at h
  have:=Av (As.1 h.2 x hx)
  omega) (fun W hW=>hck.out W (f26.trans hW))
 rw [Yh] at hspl
 replace hspl:=hZ hspl
 clear helr
 go_wp2_with fail
 rw [← hW6,← hgr]
 clear hW6
 replace hgr:=hZ hgr
 refine hspl.out.mono ?_
 clear hspl
 rintro e w7 ⟨k1,-⟩
 obtain ⟨gs,cs,rfl,hels,-,hf7,-⟩:=k1 (by decide)
 clear k1
 have f27:=f26.trans hf7
 replace n0:=(f56.trans hf7).keep n0
 replace n1:=(f56.trans hf7).keep n1
 obtain ⟨W8,hW8⟩:∃ W8,W8=w7.alloc (.cells #[.int .i64 5,.slice gs 2 cs] 50):=⟨_,rfl⟩
 obtain ⟨sb,hsb⟩:∃ sb,sb=w7.heap.size:=⟨_,rfl⟩
 have f78:Fr w7 W8:=by rw [hW8]; exact (Fr.refl _).alloc _
 have hS8:Br W8 sb (.int .i64 5) (.slice gs 2 cs):=by rw [hW8,hsb]; exact Br.new _ _ _ _
 have f28:=f27.trans f78
 replace n0:=f78.keep n0
 replace n1:=f78.keep n1
 have hels8:=hels.fr f78
 go_upto_region 4 with (fail)
 rw [← hW8,← hsb]
 clear hW8
 replace hsb:=hZ hsb
 have htx:=U6 N A 2 5 [0,-2] ⟨#[69]⟩ gs aN aA cs cN cA W8 (hGf.out _ (f2.trans f28)) (hn9.out _ f28) lA.out (by omega) (by rw [lN.out]; omega) hels8 rfl (by decide) (by rw [lN.out]; decide) (by rw [hnN.out]; rfl) hsz.out (by rw [lN.out,lA.out]; exact fun W hW=>hck.out W (f28.trans hW))
 rw [lN.out,lA.out,hnA.out,Xv] at htx
 replace htx:=hZ htx
 have s0:=hS8.a
 have s1:=hS8.b
 clear hels hels8 hS8
 go_wp2_with fail
 refine htx.out.mono ?_
 clear htx
 rintro e w9 ⟨rfl,hf9⟩
 have f29:=f28.trans hf9
 replace n0:=hf9.keep n0
 replace n1:=hf9.keep n1
 clear s0 s1
 have hx1:Hid (Jf (fun x:Sy=>x.nm.toList == (⟨#[35]⟩:ByteArray).toList) A=0):=by
  have:=NW Sy.nm (fun y:ByteArray=>y.toList == (⟨#[35]⟩:ByteArray).toList) A
  rw [hnA.out,Xx] at this; exact this
 have hx2:Hid (Jf (fun x:Sy=>x.nm.toList == (⟨#[111]⟩:ByteArray).toList) A=1):=by
  have:=NW Sy.nm (fun y:ByteArray=>y.toList == (⟨#[111]⟩:ByteArray).toList) A
  rw [hnA.out,Xw] at this; exact this
 have hps:=SV N A 2 1 kS ⟨#[67]⟩ [YM,YL] V4 [0,1] aN aA cN cA w9 (hGf.out _ (f2.trans f29)) (hef.out _ (f2.trans f29)) (hmf.out _ (f2.trans f29)) (hn9.out _ f29) lA.out (by omega) (by rw [lN.out]; omega) (by decide) VZ V3 (by decide) (by decide) (by decide +kernel) (by decide) ⟨rfl,fun i x p hx hp=>by
  match i,hx,hp with
  | 0,hx,hp=>injection hx with hx; injection hp with hp; subst hx; subst hp; exact V2
  | 1,hx,hp=>injection hx with hx; injection hp with hp; subst hx; subst hp; exact V0
  | i+2,hx,_=>cases hx⟩ (by
    have:=NW Sy.nm (fun y:ByteArray=>y.toList == (⟨#[67]⟩:ByteArray).toList) N
    rw [this,hnN.out]; exact Yj) (fun i p t hp ht=>by
  match i,hp,ht with
  | 0,hp,ht=>injection hp with hp; injection ht with ht; subst hp; subst ht; exact hx1.out
  | 1,hp,ht=>injection hp with hp; injection ht with ht; subst hp; subst ht; exact hx2.out
  | i+2,hp,_=>cases hp) rfl (fun i t u ht hu=>by
  match i,ht,hu with
  | 0,ht,hu=>injection ht with ht; injection hu with hu; omega
  | i+1,_,hu=>cases hu) (fun p hp=>by
  have h:V4.all (fun p=>decide (1≤p.k∧p.k≤1000000000))=true:=by decide
  exact (Av (As.1 h p hp)).2) (by rw [lN.out,lA.out]; exact fun W hW=>hck.out W (f29.trans hW))
 rw [lN.out,lA.out,show [YM,YL].length=2 from rfl,Kq.2.1] at hps
 replace hps:=hZ hps
 go_wp2_with fail
 refine hps.out.mono ?_
 clear hps
 rintro e w10 ⟨gp,cp,rfl,help,-,hf10⟩
 have f210:=f29.trans hf10
 replace n0:=hf10.keep n0
 replace n1:=hf10.keep n1
 obtain ⟨W11,hW11⟩:∃ W11,W11=w10.alloc (.cells #[.int .i64 1,.slice (some ⟨gp,0,none⟩) 2 cp] 50):=⟨_,rfl⟩
 obtain ⟨tb,htb⟩:∃ tb,tb=w10.heap.size:=⟨_,rfl⟩
 have f1011:Fr w10 W11:=by rw [hW11]; exact (Fr.refl _).alloc _
 have hT11:Br W11 tb (.int .i64 1) (.slice (some ⟨gp,0,none⟩) 2 cp):=by rw [hW11,htb]; exact Br.new _ _ _ _
 have f211:=f210.trans f1011
 replace n0:=f1011.keep n0
 replace n1:=f1011.keep n1
 have help11:=help.fr f1011
 go_upto_region 6 with (fail)
 rw [← hW11,← htb]
 clear hW11
 replace htb:=hZ htb
 have hrd:=U7 N A 2 1 (KX Sh 2) [1,-4] [0,0] (some ⟨gp,0,none⟩) aN aA cp cN cA W11 (hGf.out _ (f2.trans f211)) (hn9.out _ f211) (by rw [hrN.out,hrA.out]; exact Uf.nt) help11 rfl (by decide) (by rw [lN.out]; decide) (by rw [hrN.out]; rfl) (by rw [hrA.out]; exact Kq.2.2) (by rw [hrA.out,← Kq.2.1,Kq.1]; decide) (by rw [lN.out,lA.out]; exact fun W hW=>hck.out W (f211.trans hW))
 have hrt:Kk Sh [1,-4] [0,0] 2=[-11,7]:=by rw [← Kq.2.1]; exact Kq.1
 rw [lN.out,lA.out,hrA.out,hrt] at hrd
 replace hrd:=hZ hrd
 have s0:=hT11.a
 have s1:=hT11.b
 clear help help11 hT11
 go_wp2_with fail
 refine hrd.out.mono ?_
 clear hrd
 rintro e w12 ⟨gy,cy,rfl,hely,-,hf12⟩
 have f212:=f211.trans hf12
 clear s0 s1 n0 n1 hck
 have f112:=f2.trans f212
 clear hn9 hsz hnN hnA hrN hrA lN lA f23 f24 f25 f26 f27 f28 f29 f210 f211 f45 f56 f78 f1011 hf4 hf7 hf9 hf10 hf12 hC3
 obtain ⟨W13,hW13⟩:∃ W13,W13=w12.alloc (.cells #[.string ⟨#[97]⟩,.string ⟨#[98]⟩,.string ⟨#[99]⟩] 9):=⟨_,rfl⟩
 obtain ⟨dg,hdg⟩:∃ dg,dg=w12.heap.size:=⟨_,rfl⟩
 have f1213:Fr w12 W13:=by rw [hW13]; exact (Fr.refl _).alloc _
 have held:El W13 X6 (some ⟨dg,0,none⟩) Jh:=by
  refine .inr ⟨dg,0,rfl,by rw [hW13,hdg]; simp,fun i x hx=>?_⟩
  have h3:=FK.new w12 (.string ⟨#[97]⟩) (.string ⟨#[98]⟩) (.string ⟨#[99]⟩) 9
  rw [← hW13,← hdg] at h3
  rw [Az]
  match i,hx with
  | 0,hx=>injection hx with hx; subst hx; exact h3.a
  | 1,hx=>injection hx with hx; subst hx; exact h3.b
  | 2,hx=>injection hx with hx; subst hx; exact h3.c
  | i+3,hx=>cases hx
 have f113:=f112.trans f1213
 have hdg9:=PF Jh (some ⟨dg,0,none⟩) 3 ⟨#[111]⟩ W13 (hGf.out _ f113) held (by decide) (by decide) (by decide)
 rw [show Jh.length=3 from rfl] at hdg9
 replace hdg9:=hZ hdg9
 clear held
 have hely13:=hely.fr f1213
 go_wp2_with fail
 rw [← hW13,← hdg]
 clear hW13 hely
 replace hdg:=hZ hdg
 refine hdg9.out.mono ?_
 clear hdg9
 rintro e w14 ⟨N,A,aN',cN',aA',cA',bN,bA,hn,⟨-,hcap⟩,hf14,rfl⟩
 have hE:Ck N A 1=0:=by rw [F9,bN,bA]; exact Yo
 have lN:N.length=3:=by rw [← C0,bN]; rfl
 have lA:A.length=1:=by rw [← C0,bA]; rfl
 rw [hE,Aj rfl,lN,lA]
 rw [lN] at hcap
 have f114:=f113.trans hf14
 have hely14:=hely13.fr hf14
 obtain ⟨W15,hW15⟩:∃ W15,W15=w14.alloc (.cells #[.slice aN' 3 cN',.slice aA' 1 cA'] 31):=⟨_,rfl⟩
 obtain ⟨db,hdb⟩:∃ db,db=w14.heap.size:=⟨_,rfl⟩
 have f1415:Fr w14 W15:=by rw [hW15]; exact (Fr.refl _).alloc _
 have hD15:Br W15 db (.slice aN' 3 cN') (.slice aA' 1 cA'):=by rw [hW15,hdb]; exact Br.new _ _ _ _
 have f115:=f114.trans f1415
 have hn15:=hn.fr f1415
 have hn14:=hZ hn
 have hely15:=hely14.fr f1415
 replace bN:=hZ bN
 replace bA:=hZ bA
 replace lN:=hZ lN
 replace lA:=hZ lA
 clear hE hn hely13 hely14
 obtain ⟨a,ao,rfl⟩:∃ a ao,aN'=some ⟨a,ao,none⟩:=by
  obtain ⟨b,o,x,h1,-⟩:=hn15.noms.at (i:=0) (by rw [lN.out]; decide)
  exact ⟨b,o,h1⟩
 go_upto_region 8 with (fail)
 rw [← hW15,← hdb]
 clear hW15
 replace hdb:=hZ hdb
 replace hn15:=hZ hn15
 have d0:=hD15.a
 have d1:=hD15.b
 replace hD15:=hZ hD15
 obtain ⟨W16,hW16⟩:∃ W16,W16=W15.alloc (.cells #[.int .i64 (-11),.int .i64 7] 3):=⟨_,rfl⟩
 obtain ⟨ge,hge⟩:∃ ge,ge=W15.heap.size:=⟨_,rfl⟩
 have f1516:Fr W15 W16:=by rw [hW16]; exact (Fr.refl _).alloc _
 have hele:El W16 iv (some ⟨ge,0,none⟩) [-11,7]:=by rw [hW16,hge]; exact El.two' _ _ _ _
 have hqe:=hZ (Jj [-11,7] [-11,7] (some ⟨gy,0,none⟩) (some ⟨ge,0,none⟩) cy 2 2 2 W16 (hely15.fr f1516) hele rfl rfl (by omega) (by omega))
 have d0':=f1516.keep d0
 clear hely15 hele
 go_wp2_with fail
 rw [← hW16,← hge]
 refine hqe.out.mono ?_
 clear hqe hW16
 replace hge:=hZ hge
 rintro e w17 ⟨rfl,hf17⟩
 have f1517:=f1516.trans hf17
 clear d0' d0 d1
 have hD17:=hD15.out.fr f1517
 have d0:=hD17.a
 have d1:=hD17.b
 have e0:=hD17.fa
 have hz2:(2:Int)≤(cN':Int):=by omega
 rw [show decide True=true from rfl]
 obtain ⟨W18,hW18⟩:∃ W18,W18=w17.setCell ⟨db,0,none⟩ (.slice (some ⟨a,ao,none⟩) 2 cN'):=⟨_,rfl⟩
 have hD18:Br W18 db (.slice (some ⟨a,ao,none⟩) 2 cN') (.slice aA' 1 cA'):=by rw [hW18]; exact hD17.set0 _
 have hfx18:Fx (·=db) w17 W18:=by rw [hW18]; exact Fx.setCell (p:=(·=db)) (q:=⟨db,0,none⟩) (Fx.refl _ w17) (.inl rfl) _
 have f1418:Fr w14 W18:=((Fx.of_fr (f1415.trans f1517)).trans hfx18).toFr (fun k hk e=>by have e:k=db:=e; have:=hdb.out; omega)
 have f118:=f114.trans f1418
 have hn18:DS W18 (some ⟨a,ao,none⟩) aA' cA' (N.take 2) A:=by
  have h:=hn14.out.fr f1418
  refine ⟨⟨?_,fun x hx=>h.noms.2 x (Cu hx)⟩,h.accs,h.nil⟩
  rw [FS]
  exact h.noms.1.take 2
 have hK18:Kn W18 (some ⟨a,ao,none⟩) aA' cN' cA' (N.take 2) A ((MH Jh).take 2) [(⟨#[111]⟩,[((3:Nat):Int)])] 1:=⟨hn18,by unfold Cd; rw [FS]; show (Cd N).take 2=_; rw [bN.out],bA.out⟩
 have hck2:=hK18.check (hGf.out _ f118) (by decide +kernel) (by decide +kernel) XG (nN:=2) (nA:=1) rfl rfl (by omega) (M7 3 (by omega) (by omega))
 have hU18:=hZ (hK18.uq (hGf.out _ f118) XF rfl Yk (nN:=2) (nA:=1) rfl rfl hck2)
 clear hK18 hck2 hn18
 go_upto_region 11 with (fail)
 rw [← hW18]
 clear hW18 d0 d1 e0
 have d0:=hD18.a
 have d1:=hD18.b
 go_wp2_with fail
 refine hU18.out.mono ?_
 clear hU18
 rintro e w19 ⟨gw,cw,rfl,helw,-,hf19⟩
 obtain ⟨W20,hW20⟩:∃ W20,W20=w19.alloc (.cells #[.bool true,.slice (some ⟨gw,0,none⟩) 1 cw,.int .i64 0,.slice none 0 0,.int .i64 0,.slice none 0 0] 64):=⟨_,rfl⟩
 obtain ⟨wb,hwb⟩:∃ wb,wb=w19.heap.size:=⟨_,rfl⟩
 have f1920:Fr w19 W20:=by rw [hW20]; exact (Fr.refl _).alloc _
 have hQ20:Io W20 wb (.bool true) (.slice (some ⟨gw,0,none⟩) 1 cw) (.int .i64 0) (.slice none 0 0) (.int .i64 0) (.slice none 0 0):=by rw [hW20,hwb]; exact Io.new _ _ _ _ _ _ _ _
 have helw20:=helw.fr f1920
 clear d0 d1
 go_upto_region 12 with (fail)
 rw [← hW20,← hwb]
 clear hW20
 replace hwb:=hZ hwb
 have w0:=hQ20.c0
 have w1':=hQ20.c1
 obtain ⟨W21,hW21⟩:∃ W21,W21=W20.alloc (.cells #[.int .i64 2] 3):=⟨_,rfl⟩
 obtain ⟨g2,hg2⟩:∃ g2,g2=W20.heap.size:=⟨_,rfl⟩
 have f2021:Fr W20 W21:=by rw [hW21]; exact (Fr.refl _).alloc _
 have hel2:El W21 iv (some ⟨g2,0,none⟩) [2]:=by rw [hW21,hg2]; exact El.one' _ _ _
 have hq2:=hZ (Jj [2] [2] (some ⟨gw,0,none⟩) (some ⟨g2,0,none⟩) cw 1 1 1 W21 (helw20.fr f2021) hel2 rfl rfl (by omega) (by omega))
 clear helw helw20 hel2
 go_wp2_with fail
 rw [← hW21,← hg2]
 refine hq2.out.mono ?_
 clear hq2 hW21
 replace hg2:=hZ hg2
 rintro e w22 ⟨rfl,hf22⟩
 rw [show decide True=true from rfl]
 go_wp2_with fail
 go_ret
 exact ⟨rfl,(((f118.trans hf19).trans f1920).trans f2021).trans hf22⟩
theorem Qh (s:ByteArray) (w:World) (hs:s.size≤1000000000) :
 Calls Tryz.prog 57 #[.string s] w fun e w'=>e=.returned (.bool (BG s))∧w=w':=by
 go_enter Tryz.func57,Tryz.ntmps57
 go_wp2_with fail
 go_loopg [3] s.size (fun g s3 wr=>∃ k:Nat,s3=.int .i64 k∧k+g=s.size∧Hid ((s.data.toList.take k).all Cc=true)∧w=wr)
 case atStart=>exact ⟨0,rfl,by omega,rfl,rfl⟩
 case round=>
  obtain ⟨k,rfl,hk,hb,rfl⟩:=hrel
  by_cases hlt:k < s.size
  ·have hsn:=hZ (show s.data.toList.take (k+1)=s.data.toList.take k ++ [s[k]] by rw [DZ (by simpa using hlt)]; rfl)
   have hc:∃ c,s[k]=c:=⟨_,rfl⟩
   obtain ⟨c,hc⟩:=hc
   rw [hc] at hsn
   have hbad:=hZ (show Cc c=false→BG s=false from fun hok=>by
    unfold BG
    rw [CV.2 ⟨c, ?_,by rw [hok]; simp⟩]
    ·simp
    ·have:c ∈ s.data.toList.take (k+1):=by rw [hsn.out]; simp
     exact Cu this)
   have hgood:=hZ (show Cc c=true→(s.data.toList.take (k+1)).all Cc=true from fun hok=>by
    rw [hsn.out,FY,hb.out]; simp [hok])
   clear hsn hb
   have z0:(0:Int)≤(k:Int):=by omega
   by_cases e43:c.toNat=43
   ·have q43:((c.toNat:Int) == 43)=true:=by rw [e43]; rfl
    have hfin:=hZ (hbad.out (by unfold Cc; exact Aa (fun h=>h.2.2.2.1 e43)))
    have e1:(33:Int)≤c.toNat:=by omega
    have e2:(c.toNat:Int)≤126:=by omega
    have e3:(c.toNat:Int) < 48:=by omega
    clear e43 hbad hgood
    go_wp2_with fail
    all_goals
     go_ret
     exact ⟨Co hfin.out.symm,rfl⟩
   ·by_cases e45:c.toNat=45
    ·have q45:((c.toNat:Int) == 45)=true:=by rw [e45]; rfl
     have q43:((c.toNat:Int) == 43)=false:=Ay (by omega)
     have hfin:=hZ (hbad.out (by unfold Cc; exact Aa (fun h=>h.2.2.2.2 e45)))
     have e1:(33:Int)≤c.toNat:=by omega
     have e2:(c.toNat:Int)≤126:=by omega
     have e3:(c.toNat:Int) < 48:=by omega
     clear e43 e45 hbad hgood
     go_wp2_with fail
     all_goals
      go_ret
      exact ⟨Co hfin.out.symm,rfl⟩
    ·have q45:((c.toNat:Int) == 45)=false:=Ay (by omega)
     have q43:((c.toNat:Int) == 43)=false:=Ay (by omega)
     have e43:=hZ e43
     have e45:=hZ e45
     rename_i r1 r2
     clear r1 r2
     go_wp2_with fail
     all_goals first
      | (have hok:Cc c=true:=by
          unfold Cc
          exact Ac ⟨by omega,by omega,by omega,e43.out,e45.out⟩
         go_roundg (gk - 1)
         case measure=>omega
         case rel=>exact ⟨k+1,by go_num,by omega,hgood.out hok,rfl⟩)
      | (have hok:Cc c=false:=by
          unfold Cc
          exact Aa (fun h=>by have h1:=h.1; have h2:=h.2.1; have h3:=h.2.2.1; omega)
         go_ret
         exact ⟨Co (hbad.out hok).symm,rfl⟩)
  ·have hall:s.data.toList.all Cc=true:=by
    have h:=hb.out
    rw [Ak (by have:s.data.toList.length=s.size:=rfl; omega)] at h
    exact h
   have hfin:=hZ (show BG s=decide (s.size≠0∧s.size≤32) by unfold BG; rw [hall,Bool.and_true])
   have hd:decide (k < s.size)=false:=Aa hlt
   have hk2:=hZ (show s.size=k by omega)
   clear hlt hk
   clear hall hb
   by_cases h0:0 < s.size
   ·have d0:decide ((0:Int) < (s.size:Int))=true:=Ac (by omega)
    by_cases h1:s.size≤32
    ·have d1:decide ((s.size:Int)≤32)=true:=Ac (by omega)
     have hfin2:=hZ (hfin.out.trans (Ac ⟨by omega,h1⟩))
     go_wp2_with fail
     go_ret
     exact ⟨Co hfin2.out.symm,rfl⟩
    ·have d1:decide ((s.size:Int)≤32)=false:=Aa (by omega)
     have hfin2:=hZ (hfin.out.trans (Aa (fun h=>h1 h.2)))
     go_wp2_with fail
     go_ret
     exact ⟨Co hfin2.out.symm,rfl⟩
   ·have d0:decide ((0:Int) < (s.size:Int))=false:=Aa (by omega)
    have hfin2:=hZ (hfin.out.trans (Aa (fun h=>h.1 (by omega))))
    go_wp2_with fail
    go_ret
    exact ⟨Co hfin2.out.symm,rfl⟩
end Go.Proofs.YtcglmebcfeoedaaGreatDoor
