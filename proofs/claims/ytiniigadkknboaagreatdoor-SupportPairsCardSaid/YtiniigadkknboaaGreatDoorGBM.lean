/- Contracts and laws: GBM. -/
import Derived.Test.YtiniigadkknboaaGreatDoorGBL
import Derived.Test.YtiniigadkknboaaGreatDoorGAG
import Derived.IntWalk
import Derived.Test.YtiniigadkknboaaGreatDoorGBJ
import Derived.Test.YtiniigadkknboaaGreatDoorGBD
import Derived.Test.YtiniigadkknboaaGreatDoorGBH
import Derived.Test.YtiniigadkknboaaGreatDoorGBE
import Derived.Test.YtiniigadkknboaaGreatDoorGBG

set_option maxRecDepth 100000
set_option maxHeartbeats 8000000
namespace Go.Proofs.YtiniigadkknboaaGreatDoor
open Go.RowKit Go.Lib
attribute [local go_sem ↓] Go.wp_at_zero Go.wp_at_succ
def JQ (rows:List ByteArray):Nat→List UInt8
 | 0=>[]
 | k+1=>JQ rows k ++ (if k=0 then [] else [32]) ++ ((rows[k]?).getD ⟨#[]⟩).data.toList
def Hy (nm:ByteArray) (rows:List ByteArray):List UInt8:=nm.data.toList ++ (if rows.length=0 then [110,111,110,101] else []) ++ JQ rows rows.length
def Tt (P:List Int) (C M:List (List Int)):List UInt8:=(Nx P).data.toList ++ Hy ⟨#[44,32,99,111,109,109,97,115,32]⟩ (C.map Ft) ++ Hy ⟨#[44,32,109,97,112,112,105,110,103,32]⟩ (M.map Ie)
theorem Je {rows:List ByteArray} (h:∀ x,x ∈ rows→x.size≤1000):∀ k,(JQ rows k).length≤k * 1001
 | 0=>by simp [JQ]
 | k+1=>by
   have ih:=Je h k
   have h1:((rows[k]?).getD ⟨#[]⟩).data.toList.length≤1000:=by
    rw [De]
    cases e:rows[k]? with
    | none=>simp
    | some x=>exact h x (Af e)
   rw [JQ,Ar,Ar]
   have h2:(if k=0 then ([]:List UInt8) else [32]).length≤1:=by split <;> simp
   omega
structure TI (w W:World) (bb:Nat) (qs:List (Nat×Obj)) (l:List UInt8):Prop where
 fr:Fr w W
 lo:w.heap.size≤bb
 bl:GO W bb bb l
 q:∀ x,x ∈ qs→W.heap[x.1]?=some x.2
 ok:∀ x,x ∈ qs→x.1≠bb∧∀ c fz,x.2≠.cells c 5 fz
theorem TI.lt {w W:World} {bb:Nat} {qs:List (Nat×Obj)} {l:List UInt8} (h:TI w W bb qs l):bb < W.heap.size:=by
 rcases h.bl with k | k
 ·exact k.lt
 ·exact k.lt
theorem TI.step_fr {w W W':World} {bb:Nat} {qs:List (Nat×Obj)} {l:List UInt8} (h:TI w W bb qs l) (k:Fr W W'):TI w W' bb qs l :=
 ⟨h.fr.trans k,h.lo,h.bl.fr k,fun x hx=>(k.block _ (A8.1 (h.q x hx)).1).trans (h.q x hx),h.ok⟩
theorem TI.step_b {w W W':World} {bb:Nat} {qs:List (Nat×Obj)} {l l':List UInt8} (h:TI w W bb qs l) (k1:GO W' bb bb l') (k2:Below bb W W') (k3:Bk bb W W'):TI w W' bb qs l' :=
 ⟨Below.trans h.fr (k2.mono h.lo),h.lo,k1,fun x hx=>k3 _ _ (h.q x hx) (fun e=>(h.ok x hx).1 (by injection e)) (h.ok x hx).2,h.ok⟩
theorem TI.add {w W:World} {bb b:Nat} {o:Obj} {qs:List (Nat×Obj)} {l:List UInt8} (h:TI w W bb qs l) (hx:W.heap[b]?=some o) (hb:b≠bb) (ho:∀ c fz,o≠.cells c 5 fz):TI w W bb ((b,o) :: qs) l :=
 ⟨h.fr,h.lo,h.bl,fun x hm=>by
  rcases Bu.1 hm with rfl | hm
  ·exact hx
  ·exact h.q x hm,fun x hm=>by
  rcases Bu.1 hm with rfl | hm
  ·exact ⟨hb,ho⟩
  ·exact h.ok x hm⟩
theorem TI.drop {w W:World} {bb:Nat} {x:Nat×Obj} {qs:List (Nat×Obj)} {l:List UInt8} (h:TI w W bb (x :: qs) l):TI w W bb qs l :=
 ⟨h.fr,h.lo,h.bl,fun y hy=>h.q y (BI _ hy),fun y hy=>h.ok y (BI _ hy)⟩
theorem Va (P:List Int) (C M:List (List Int)) (aP aC aM:Option Addr) (cP cC cM:Nat) (w:World) (hG:G w) (ht:RR w aP aC aM cP cC cM P C M 0) (hp:BQ P=0) :
 Calls Tryz.prog 82 #[.agg #[.slice aP P.length cP,.slice aC C.length cC,.slice aM M.length cM]] w fun e w'=>e=.returned (.tuple #[.string ⟨(Tt P C M).toArray⟩,.int .i64 0])∧Fr w w':=by
 obtain ⟨k1,k2,k3,k4,k5,k6,k7⟩:=ht.ok rfl
 have hpm:=CV hp
 have hn1:=hpm.1
 have hPf:∀ x,x ∈ P→Bq x=true:=fun x hx=>by
  have h9:=hpm.2.2 x hx
  unfold G5 at h9
  unfold Bq
  by_cases h:x < 2∨97 < x
  ·rw [Ai h] at h9; cases h9
  ·exact Ab (by omega)
 have hck:=hZ (fun W (hW:Fr w W)=>ht.ck W hW)
 have hpt:=hZ (fun W (hW:Fr w W)=>Vn P aP cP W (hG.fr hW) (ht.p.fr hW) (by omega) (by omega) hPf hp)
 have hS0:=ME P (by omega) (by omega) hPf
 have hrC:Hid (∀ r a c W,Fr w W→r ∈ C→El W iv a r→Calls Tryz.prog 130 #[.slice a P.length c,.bool true] W fun e w'=>e=.returned (.tuple #[.string (Ft r),.int .i64 0])∧Fr W w'):=fun r a c W hW hr he=>by
  have h9:=Vd r a c W (hG.fr hW) he (by rw [k4 r hr]; omega) (by rw [k4 r hr]; omega) (k6 r hr)
  rw [k4 r hr] at h9; exact h9
 have hrM:Hid (∀ r a c W,Fr w W→r ∈ M→El W iv a r→Calls Tryz.prog 130 #[.slice a P.length c,.bool false] W fun e w'=>e=.returned (.tuple #[.string (Ie r),.int .i64 0])∧Fr W w'):=fun r a c W hW hr he=>by
  have h9:=SW r a c W (hG.fr hW) he (by rw [k5 r hr]; omega) (by rw [k5 r hr]; omega) (k7 r hr)
  rw [k5 r hr] at h9; exact h9
 have hC1:=hZ (fun W (hW:Fr w W)=>ht.c.fr hW)
 have hM1:=hZ (fun W (hW:Fr w W)=>ht.m.fr hW)
 have hzC:Hid (∀ x,x ∈ C.map Ft→x.size≤1000):=fun x hx=>by
  obtain ⟨r,hr,rfl⟩:=Bc.1 hx
  exact K9 r (by rw [k4 r hr]; omega) (by rw [k4 r hr]; omega) (k6 r hr)
 have hzM:Hid (∀ x,x ∈ M.map Ie→x.size≤1000):=fun x hx=>by
  obtain ⟨r,hr,rfl⟩:=Bc.1 hx
  exact Lc r (by rw [k5 r hr]; omega) (by rw [k5 r hr]; omega) (k7 r hr)
 have hlC:Hid (∀ r,r ∈ C→r.length=P.length):=k4
 have hlM:Hid (∀ r,r ∈ M→r.length=P.length):=k5
 obtain ⟨wb,hwb⟩:∃ wb,wb=w.alloc (.cells #[.slice aP P.length cP,.slice aC C.length cC,.slice aM M.length cM] 29):=⟨_,rfl⟩
 have hfb:Fr w wb:=by rw [hwb]; exact (Fr.refl _).alloc _
 have hB:=C3.new w (.slice aP P.length cP) (.slice aC C.length cC) (.slice aM M.length cM) 29
 rw [← hwb] at hB
 obtain ⟨tb,htb⟩:∃ q,q=w.heap.size:=⟨_,rfl⟩
 rw [← htb] at hB
 have a0:=hB.a
 have a1:=hB.b
 have a2:=hB.c
 have hfin:=hZ (show Tt P C M=(Nx P).data.toList ++ Hy ⟨#[44,32,99,111,109,109,97,115,32]⟩ (C.map Ft) ++ Hy ⟨#[44,32,109,97,112,112,105,110,103,32]⟩ (M.map Ie) from rfl)
 obtain ⟨S0,hS⟩:∃ S,S=Nx P:=⟨_,rfl⟩
 rw [← hS] at hpt hfin hS0
 obtain ⟨TL,hTL⟩:∃ q,q=Tt P C M:=⟨_,rfl⟩
 rw [← hTL] at hfin ⊢
 obtain ⟨nC,hnC⟩:∃ q,q=C.length:=⟨_,rfl⟩
 obtain ⟨nM,hnM⟩:∃ q,q=M.length:=⟨_,rfl⟩
 rw [← hnC] at k2 a1 hwb hck ⊢
 rw [← hnM] at k3 a2 hwb hck ⊢
 replace hnC:=hZ hnC
 replace hnM:=hZ hnM
 replace hS:=hZ hS
 replace hTL:=hZ hTL
 generalize P.length=n at *
 clear hG ht hp hpm hPf k4 k5 k6 k7 hB
 go_enter Tryz.func82,Tryz.ntmps82
 go_upto_region 1 with (fail)
 rw [← hwb,← htb]
 clear hwb
 replace htb:=hZ htb
 go_wp2_with fail
 refine (hck.out _ hfb).mono ?_
 rintro e w1 ⟨rfl,hf1⟩
 replace a0:=hf1.keep a0
 replace a1:=hf1.keep a1
 replace a2:=hf1.keep a2
 have hfw1:=hfb.trans hf1
 go_wp2_with fail
 refine (hpt.out _ hfw1).mono ?_
 rintro e w2 ⟨rfl,hf2⟩
 replace a1:=hf2.keep a1
 replace a2:=hf2.keep a2
 have hfw2:=hfw1.trans hf2
 obtain ⟨bb,hbb⟩:∃ q,q=w2.heap.size:=⟨_,rfl⟩
 obtain ⟨W3,hW3⟩:∃ W,W=w2.alloc (.cells #[.pointer none,.slice none 0 0] 179):=⟨_,rfl⟩
 have hf3:Fr w2 W3:=by rw [hW3]; exact (Fr.refl _).alloc _
 have hI3:TI w W3 bb [] []:=⟨hfw2.trans hf3,by rw [hbb]; exact hfw2.size,by rw [hW3,hbb]; exact GO.new w2 w2.heap.size (Ah _),fun x hx=>by simp at hx,fun x hx=>by simp at hx⟩
 have htb9:tb < bb:=by have:=htb.out; have:=hfb.size; have:=(hf1.trans hf2).size; have:=A6 w2 ⟨tb,1,none⟩ a1; rw [hbb]; exact this
 have hw3:=hZ (U8 bb bb [] S0 W3 hI3.bl (by simp; omega) (Ch hI3.lt))
 replace a1:=hf3.keep a1
 replace a2:=hf3.keep a2
 replace hI3:=hZ hI3
 go_upto_region 8 with (fail)
 rw [← hW3,← hbb]
 clear hW3 hpt hck hf3
 replace hbb:=hZ hbb
 go_wp2_with fail
 refine hw3.out.mono ?_
 rintro e W4 ⟨rfl,hb4,hlo4,hk4⟩
 rw [Ex] at hb4
 have hI4:=hI3.out.step_b hb4 hlo4 hk4
 replace a1:W4.cell? ⟨tb,1,none⟩=some (.slice aC nC cC):=by rw [hlo4.cell (p:=⟨tb,1,none⟩) htb9]; exact a1
 replace a2:W4.cell? ⟨tb,2,none⟩=some (.slice aM nM cM):=by rw [hlo4.cell (p:=⟨tb,2,none⟩) htb9]; exact a2
 clear hw3 hI3 hb4 hlo4 hk4
 obtain ⟨qb,hqb⟩:∃ q,q=W4.heap.size:=⟨_,rfl⟩
 obtain ⟨W5,hW5⟩:∃ W,W=W4.alloc (.cells #[.string ⟨#[44,32,99,111,109,109,97,115,32]⟩,.slice aC nC cC,.string ⟨#[44,32,109,97,112,112,105,110,103,32]⟩,.slice aM nM cM] 184):=⟨_,rfl⟩
 have hf5:Fr W4 W5:=by rw [hW5]; exact (Fr.refl _).alloc _
 have hg5:W5.heap[qb]?=some (.cells #[.string ⟨#[44,32,99,111,109,109,97,115,32]⟩,.slice aC nC cC,.string ⟨#[44,32,109,97,112,112,105,110,103,32]⟩,.slice aM nM cM] 184 (0,0)):=by rw [hW5,hqb]; exact CB W4 _
 have hI5:=(hI4.step_fr hf5).add hg5 (by have:=hI4.lt; omega) (fun c fz e=>by injection e with _ e; exact absurd e (by decide))
 replace hI5:=hZ hI5
 go_upto_region 10 with (fail)
 rw [← hW5,← hqb]
 clear hW5 hf5 hg5 a1 a2 hI4
 replace hqb:=hZ hqb
 go_wp2_with fail
 obtain ⟨qo,hqo⟩:∃ o,o=Obj.cells #[.string ⟨#[44,32,99,111,109,109,97,115,32]⟩,.slice aC nC cC,.string ⟨#[44,32,109,97,112,112,105,110,103,32]⟩,.slice aM nM cM] 184 (0,0):=⟨_,rfl⟩
 rw [← hqo] at hI5
 replace hqo:=hZ hqo
 -- the text behind i parts
 obtain ⟨acc,hacc⟩:∃ acc:Nat→List UInt8,acc=fun i=>if i=0 then S0.data.toList else if i=1 then S0.data.toList ++ Hy ⟨#[44,32,99,111,109,109,97,115,32]⟩ (C.map Ft) else TL:=⟨_,rfl⟩
 have hpart:Hid (∀ i:Nat,i < 2→∃ (nm:ByteArray) (X:List (List Int)) (aX:Option Addr) (cX nX:Nat) (f:List Int→ByteArray) (bq:Bool),nm.size≤10∧nX=X.length∧nX≤12∧((i:Int) == 0)=bq∧(acc i).length≤20000∧acc (i+1)=acc i ++ Hy nm (X.map f)∧(∀ W:World,W.heap[qb]?=some qo→W.cell? ⟨qb,i * 2,none⟩=some (.string nm)∧W.cell? ⟨qb,i * 2+1,none⟩=some (.slice aX nX cX))∧(∀ W:World,Fr w W→A5 W aX X)∧(∀ r,r ∈ X→r.length=n)∧(∀ x,x ∈ X.map f→x.size≤1000) ∧
  ∀ (r:List Int) (a:Option Addr) (c:Nat) (W:World),Fr w W→r ∈ X→El W iv a r→Calls Tryz.prog 130 #[.slice a n c,.bool bq] W fun e w'=>e=.returned (.tuple #[.string (f r),.int .i64 0])∧Fr W w'):=fun i hi=>by
  have hSl:S0.data.toList.length≤1000:=by rw [De]; exact hS0
  match i,hi with
  | 0,_=>exact ⟨⟨#[44,32,99,111,109,109,97,115,32]⟩,C,aC,cC,nC,Ft,true,by decide,hnC.out,k2,rfl,by rw [hacc]; show S0.data.toList.length≤_; omega,by rw [hacc]; rfl,fun W hW=>by
     rw [hqo.out] at hW
     exact ⟨by rw [A1 hW]; rfl,by rw [A1 hW]; rfl⟩,hC1.out,hlC.out,hzC.out,hrC.out⟩
  | 1,_=>exact ⟨⟨#[44,32,109,97,112,112,105,110,103,32]⟩,M,aM,cM,nM,Ie,false,by decide,hnM.out,k3,rfl,by
     rw [hacc]
     show (S0.data.toList ++ Hy ⟨#[44,32,99,111,109,109,97,115,32]⟩ (C.map Ft)).length≤_
     unfold Hy
     have h1:=Je hzC.out (C.map Ft).length
     have h2:(C.map Ft).length≤12:=by rw [An,← hnC.out]; exact k2
     have h3:(if (C.map Ft).length=0 then ([110,111,110,101]:List UInt8) else []).length≤4:=by split <;> simp
     have h4:(C.map Ft).length * 1001≤12 * 1001:=AU _ h2
     rw [Ar,Ar,Ar]
     show _+(9+_+_)≤_
     omega,by rw [hacc]; exact hfin.out,fun W hW=>by
     rw [hqo.out] at hW
     exact ⟨by rw [A1 hW]; rfl,by rw [A1 hW]; rfl⟩,hM1.out,hlM.out,hzM.out,hrM.out⟩
 have ha0:acc 0=S0.data.toList:=by rw [hacc]; rfl
 have ha2:Hid (acc 2=TL):=by show _=_; rw [hacc]; rfl
 have hI5:=hZ (show TI w W5 bb [(qb,qo)] (acc 0) by rw [ha0]; exact hI5.out)
 rename_i hI5x
 clear hI5x ha0 hrC hrM hC1 hM1 hzC hzM hlC hlM hfin hnC hnM hS hacc k2 k3 hS0
 go_loopg [40] 2 (fun k s40 wr=>∃ i:Nat,s40=.int .i64 i∧i+k=2∧Hid (TI w wr bb [(qb,qo)] (acc i)))
 case atStart=>exact ⟨0,rfl,by omega,hI5⟩
 case round=>
  clear hI5
  obtain ⟨i,rfl,hik,hI⟩:=hrel
  obtain ⟨wo,rfl⟩:∃ wo:World,wo=wr:=⟨_,rfl⟩
  obtain ⟨ko,rfl⟩:∃ ko:Nat,ko=gk:=⟨_,rfl⟩
  by_cases hi:i < 2
  ·have hdI:decide ((i:Int) < 2)=true:=Ab (by omega)
   obtain ⟨nm,X,aX,cX,nX,f,bq,h1,h2,h3,q0,h4,h5,h6,h7,h8,h9,h10⟩:=hpart.out i hi
   obtain ⟨g0,g1⟩:=h6 wo (hI.out.q _ BC)
   obtain ⟨pb,hpb⟩:∃ q,q=wo.heap.size:=⟨_,rfl⟩
   obtain ⟨W6,hW6⟩:∃ W,W=wo.alloc (.cells #[.string nm,.slice aX nX cX] 184):=⟨_,rfl⟩
   have hf6:Fr wo W6:=by rw [hW6]; exact (Fr.refl _).alloc _
   have hg6:W6.heap[pb]?=some (.cells #[.string nm,.slice aX nX cX] 184 (0,0)):=by rw [hW6,hpb]; exact CB wo _
   have hI6:=(hI.out.step_fr hf6).add hg6 (by have:=hI.out.lt; omega) (fun c fz e=>by injection e with _ e; exact absurd e (by decide))
   have p0:W6.cell? ⟨pb,0,none⟩=some (.string nm):=by rw [A1 hg6]; rfl
   have hw6:=hZ (U8 bb bb _ nm W6 hI6.bl (by omega) (Ch hI6.lt))
   have hnl:nm.data.toList.length≤10:=by rw [De]; exact h1
   replace hI6:=hZ hI6
   replace h2:=hZ h2
   replace h5:=hZ h5
   replace h7:=hZ h7
   replace h8:=hZ h8
   replace h9:=hZ h9
   replace h10:=hZ h10
   have z0:(0:Int)≤(i:Int):=Aj _
   have z1:(i:Int) < 2:=by omega
   clear h6 hg6 hI h1
   go_upto_region 13 with (fail)
   rw [← hW6,← hpb]
   clear hW6 g0 g1 hf6
   replace hpb:=hZ hpb
   go_wp2_with fail
   refine hw6.out.mono ?_
   rintro e W7 ⟨rfl,hb7,hlo7,hk7⟩
   have hI7:=hI6.out.step_b hb7 hlo7 hk7
   have p1:W7.cell? ⟨pb,1,none⟩=some (.slice aX nX cX):=by rw [A1 (hI7.q _ BC)]; rfl
   clear hw6 hI6 hb7 hlo7 hk7 p0
   obtain ⟨L7,hL7⟩:∃ q,q=acc i ++ nm.data.toList:=⟨_,rfl⟩
   have hl7:L7.length≤20010:=by rw [hL7,Ar]; omega
   rw [← hL7] at hI7
   have hnx:Hid (acc (i+1)=L7 ++ (if nX=0 then [110,111,110,101] else []) ++ JQ (X.map f) nX):=by
    show _=_
    rw [h5.out,hL7]
    unfold Hy
    rw [An,← h2.out,Bd,Bd,Bd]
   clear h5 hnl h4
   replace hL7:=hZ hL7
   by_cases hz:nX=0
   ·have d0:((nX:Int) == 0)=true:=by rw [hz]; rfl
    have hw7:=hZ (U8 bb bb L7 ⟨#[110,111,110,101]⟩ W7 hI7.bl (by show _+4≤_; omega) (Ch hI7.lt))
    replace hI7:=hZ hI7
    replace hz:=hZ hz
    go_wp2_with fail
    refine hw7.out.mono ?_
    rintro e W8 ⟨rfl,hb8,hlo8,hk8⟩
    have hI8:=hI7.out.step_b hb8 hlo8 hk8
    have p1:W8.cell? ⟨pb,1,none⟩=some (.slice aX nX cX):=by rw [A1 (hI8.q _ BC)]; rfl
    replace hI8:=hZ hI8
    clear hw7 hI7 hb8 hlo8 hk8
    go_wp2_with fail
    go_loopg [56] 0 (fun k s56 wr2=>s56=.int .i64 0∧W8=wr2)
    case atStart=>exact ⟨rfl,rfl⟩
    case round=>
     obtain ⟨rfl,rfl⟩:=hrel
     have dz:decide ((0:Int) < (nX:Int))=false:=Aa (by have:=hz.out; omega)
     have dz2:decide (0 < nX)=false:=Aa (by have:=hz.out; omega)
     go_wp2_with fail
     go_roundg (ko - 1)
     case measure=>omega
     case rel=>exact ⟨i+1,by go_num,by omega,by
      have h11:=hI8.out.drop
      show TI _ _ _ _ _
      rw [hnx.out,hz.out]
      show TI _ _ _ _ (L7 ++ [110,111,110,101] ++ [])
      rw [BE]
      exact h11⟩
   ·have d0:((nX:Int) == 0)=false:=Cj.2 (by omega)
    have hI7':=hZ hI7.drop
    clear hI7
    go_wp2_with fail
    go_loopg [56] nX (fun k s56 wr2=>∃ j:Nat,s56=.int .i64 j∧j+k=nX∧Hid (TI w wr2 bb [(qb,qo)] (L7 ++ JQ (X.map f) j)))
    case atStart=>exact ⟨0,rfl,by omega,by show TI _ _ _ _ _; rw [JQ,BE]; exact hI7'.out⟩
    case round=>
     obtain ⟨j,rfl,hjk,hJ⟩:=hrel
     clear hI7' p1
     by_cases hj:j < nX
     ·have hdJ:decide ((j:Int) < (nX:Int))=true:=Ab (by omega)
      have hdJ2:decide (j < nX)=true:=Ab hj
      have hjX:j < X.length:=by rw [← h2.out]; exact hj
      obtain ⟨xb,xo,xa,xc,rfl,c1,hel⟩:=(h7.out wr hJ.out.fr).at hjX
      have hrm:X[j] ∈ X:=AG hjX
      rw [h8.out _ hrm] at c1
      have hrt:=hZ (h10.out X[j] xa xc wr hJ.out.fr hrm hel)
      have hsz:=h9.out (f X[j]) (Bc.2 ⟨_,hrm,rfl⟩)
      have hcat:Hid (JQ (X.map f) (j+1)=JQ (X.map f) j ++ (if j=0 then [] else [32]) ++ (f X[j]).data.toList):=by
       show _=_
       rw [JQ,At,Ac hjX]; rfl
      have hcl:=Je h9.out j
      have hcj:(L7 ++ JQ (X.map f) j).length≤40000:=by rw [Ar]; have:j * 1001≤12 * 1001:=AU _ (by omega); omega
      obtain ⟨LJ,hLJ⟩:∃ q,q=L7 ++ JQ (X.map f) j:=⟨_,rfl⟩
      rw [← hLJ] at hJ hcj
      generalize f X[j]=S at *
      replace hLJ:=hZ hLJ
      replace hel:=hZ hel
      have y0:(0:Int)≤(j:Int):=Aj _
      have y1:(j:Int) < (nX:Int):=by omega
      clear hcl hrm
      go_wp2_with fail
      refine hrt.out.mono ?_
      rintro e W8 ⟨rfl,hf8⟩
      have hI8:=hJ.out.step_fr hf8
      clear hJ hrt c1
      by_cases hj0:j=0
      ·have dj:decide ((0:Int) < (j:Int))=false:=Aa (by omega)
       have dj2:decide (0 < j)=false:=Aa (by omega)
       have hw8:=hZ (U8 bb bb LJ S W8 hI8.bl (by omega) (Ch hI8.lt))
       replace hI8:=hZ hI8
       replace hj0:=hZ hj0
       go_wp2_with fail
       refine hw8.out.mono ?_
       rintro e W9 ⟨rfl,hb9,hlo9,hk9⟩
       have hI9:=hZ (hI8.out.step_b hb9 hlo9 hk9)
       clear hw8 hI8 hb9 hlo9 hk9
       go_wp2_with fail
       go_roundg (gk - 1)
       case measure=>omega
       case rel=>exact ⟨j+1,by go_num,by omega,by
        show TI _ _ _ _ _
        rw [hcat.out,Ai hj0.out,BE,← Bd,← hLJ.out]
        exact hI9.out⟩
      ·have dj:decide ((0:Int) < (j:Int))=true:=Ab (by omega)
       have dj2:decide (0 < j)=true:=Ab (by omega)
       have hw8:=hZ (YO bb bb LJ 32 W8 hI8.bl (by omega) (Ch hI8.lt))
       replace hI8:=hZ hI8
       replace hj0:=hZ hj0
       go_wp2_with fail
       refine hw8.out.mono ?_
       rintro e W9 ⟨rfl,hb9,hlo9,hk9⟩
       have hI9:=hI8.out.step_b hb9 hlo9 hk9
       have hw9:=hZ (U8 bb bb (LJ ++ [32]) S W9 hI9.bl (by rw [Ar]; show _+1+_≤_; omega) (Ch hI9.lt))
       replace hI9:=hZ hI9
       clear hw8 hI8 hb9 hlo9 hk9
       go_wp2_with fail
       refine hw9.out.mono ?_
       rintro e Wa ⟨rfl,hba,hloa,hka⟩
       have hIa:=hZ (hI9.out.step_b hba hloa hka)
       clear hw9 hI9 hba hloa hka
       go_wp2_with fail
       go_roundg (gk - 1)
       case measure=>omega
       case rel=>exact ⟨j+1,by go_num,by omega,by
        show TI _ _ _ _ _
        rw [hcat.out,Ag hj0.out,← Bd,← Bd,← hLJ.out]
        exact hIa.out⟩
     ·obtain rfl:j=nX:=by omega
      have hdJ:decide ((j:Int) < (j:Int))=false:=Aa (by omega)
      have hdJ2:decide (j < j)=false:=Aa (by omega)
      go_wp2_with fail
      go_roundg (ko - 1)
      case measure=>omega
      case rel=>exact ⟨i+1,by go_num,by omega,by
       show TI _ _ _ _ _
       rw [hnx.out,Ag hz,BE]
       exact hJ.out⟩
  ·obtain rfl:i=2:=by omega
   have hdI:decide (((2:Nat):Int) < 2)=false:=by decide
   have hbs:=hZ (Zo bb bb (acc 2) wo hI.out.bl (Ch hI.out.lt))
   rw [ha2.out] at hbs
   go_wp2_with fail
   refine hbs.out.mono ?_
   rintro e W9 ⟨rfl,hlo9⟩
   go_wp2_with fail
   go_ret2
   exact ⟨rfl,Below.trans hI.out.fr (hlo9.mono hI.out.lo)⟩

theorem LC (x v:List Int):∀ k,FF x v k=Dn (fun j=>(x[j]?).getD 0) (fun j=>(v[j]?).getD 0) k
 | 0=>rfl
 | k+1=>by show FF x v k+_=Dn _ _ k+_; rw [LC x v k]
theorem K7 {n:Nat} {C:List (List Int)} {v:List Int} (hr:Bx n C):Ei C v=true ↔ ∀ i,i < C.length→Dn (AC C i) (fun j=>(v[j]?).getD 0) n=0:=by
 unfold Ei
 rw [AE]
 constructor
 ·intro h i hi
  have h1:=h _ (AG hi)
  have h2:FF C[i] v C[i].length=0:=by simpa using h1
  rw [hr _ (AG hi),LC] at h2
  have e:BT C i=C[i]:=CU hi
  exact (CT fun k _=>⟨by unfold AC; rw [e],rfl⟩).trans h2
 ·intro h c hc
  obtain ⟨i,hi,rfl⟩:=H6 hc
  have e:BT C i=C[i]:=CU hi
  have h1:=h i hi
  have h2:FF C[i] v C[i].length=0:=by
   rw [hr _ (AG hi),LC]
   exact (CT fun k _=>⟨by unfold AC; rw [e],rfl⟩).trans h1
  rw [h2]; rfl
theorem Tg.krM {P:List Int} {C M:List (List Int)} (h:Tg P C M) (x:Nat→Int):DL M.length (AC M) x ↔ Jh P.length C x:=by
 obtain ⟨gW,p,t,r,k⟩:=D5 (n:=P.length) h.n4 (by decide) Df (B:=1000000000) (m:=C) (fun r hr x hx=>by
  have:=h.tabC.2.2.2 r hr x hx
  unfold Bq at this
  have:=AL this
  omega)
 have e:Dj P.length C=M:=by unfold Dj; rw [h.ann]; rfl
 rw [e] at k
 exact k.spans x
theorem Tg.sup {P:List Int} {C M:List (List Int)} (h:Tg P C M) {v:List Int} (hl:v.length=P.length):Ei C v=true ↔ DL M.length (AC M) (fun j=>(v[j]?).getD 0):=by
 rw [h.krM,K7 h.tabC.2.2.1]
 refine ⟨fun a=>⟨fun k hk=>by show (v[k]?).getD 0=0; rw [A3 (by omega)]; rfl,a⟩,fun a=>a.2⟩
theorem T4 {p0:Int} {r:List Int} {s:Int} (hs:1≤s):((BM (p0 :: r) s)[0]?).getD 0≠0:=by
 show s≠0
 omega

end Go.Proofs.YtiniigadkknboaaGreatDoor
