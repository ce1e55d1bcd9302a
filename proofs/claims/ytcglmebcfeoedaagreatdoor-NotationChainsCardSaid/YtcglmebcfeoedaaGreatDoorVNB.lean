/- Contracts and laws: VNB. -/
import Derived.Test.YtcglmebcfeoedaaGreatDoorVL

set_option maxRecDepth 100000
set_option maxHeartbeats 16000000
namespace Go.Proofs.YtcglmebcfeoedaaGreatDoor
open Go.RowKit Go.Lib
attribute [local go_sem ↓] AA AB
def VH (k:Int):ByteArray:=if 0 < k then ⟨#[43]⟩ else ⟨#[]⟩
def EX (NA:List ByteArray) (cs:List Int):Nat→List ByteArray
 | 0=>[]
 | i+1=>EX NA cs i ++ if (cs[i]?).getD 0=0 then [] else [(NA[i]?).getD ⟨#[]⟩ ++ VH ((cs[i]?).getD 0) ++ tx ((cs[i]?).getD 0)]
theorem M0 (NA:List ByteArray) (cs:List Int) (K:Nat) (hK:∀ x,x ∈ NA→x.size≤K) (hc:∀ x,x ∈ cs→Bi x=true):∀ i,(EX NA cs i).length≤i∧∀ y,y ∈ EX NA cs i→y.size≤K+13
 | 0=>⟨Ag _,fun y hy=>by cases hy⟩
 | i+1=>by
   obtain ⟨h1,h2⟩:=M0 NA cs K hK hc i
   rw [EX]
   split
   ·rw [BJ]; exact ⟨by omega,h2⟩
   ·refine ⟨by rw [Ar]; show _+1≤_; omega,fun y hy=>?_⟩
    rcases A5.1 hy with h | h
    ·exact h2 y h
    ·rw [Bo] at h
     subst h
     rw [C3,C3]
     have e1:((NA[i]?).getD ⟨#[]⟩).size≤K:=by
      cases e:NA[i]? with
      | none=>exact Bm _
      | some x=>exact hK x (Ae e)
     have e2:(VH ((cs[i]?).getD 0)).size≤1:=by unfold VH; split <;> decide
     have e3:(tx ((cs[i]?).getD 0)).size≤12:=by
      cases e:cs[i]? with
      | none=>exact CT 11 0 (by omega) (by decide)
      | some x=>
        have hfx:=hc x (Ae e)
        unfold Bi at hfx
        have hfx:=Av hfx
        exact CT 11 x (by omega) (by omega)
     omega
theorem U6 (N A:List Sy) (d i0:Nat) (cs:List Int) (nm0:ByteArray) (ca aN aA:Option Addr) (cc cN cA:Nat) (w:World) (hG:G w) (hn:DS w aN aA cA N A) (lenA:A.length=d) (d6:d≤6) (n60:N.length≤60) (hc:El w iv ca cs) (hcl:cs.length=d) (hcf:∀ x,x ∈ cs→Bi x=true)
 (hi0:i0 < N.length) (hs0:(N.map Sy.nm)[i0]?=some nm0) (hs:∀ x,x ∈ N ++ A→x.nm.size≤1000)
 (hck:∀ W,Fr w W→Calls Tryz.prog 25 #[.agg #[.slice aN N.length cN,.slice aA A.length cA]] W fun e w'=>e=.returned (.int .i64 0)∧Fr W w') :
 Calls Tryz.prog 31 #[.agg #[.slice aN N.length cN,.slice aA A.length cA],.agg #[.int .i64 i0,.slice ca d cc]] w fun e w'=>e=.returned (.tuple #[.string (EP (nm0 :: EX (A.map Sy.nm) cs d)),.int .i64 0])∧Fr w w':=by
 have hgn:=CS hG
 obtain ⟨i1,ji,jz0,jz1,jz2⟩:=AQ Rl
 have hcs9:=fun W (hW:Fr w W)=>JZ aN aA cN cA N A i0 cs ca cc W (hc.fr hW) (by omega) (by omega) (by omega)
 have hsp:R6 N A i0 cs=0:=by
  unfold R6
  rw [Ai (by omega),Ai (by omega)]
  exact Hm (by omega) (CE.2 (fun x hx=>by rw [hcf x hx]; simp))
 rw [hsp] at hcs9
 rw [lenA] at hck hcs9 ⊢
 rw [hcl] at hcs9
 obtain ⟨M,hM⟩:∃ M,M=N.length:=⟨_,rfl⟩
 rw [← hM] at n60 hck hi0 hcs9 ⊢
 obtain ⟨x0,hx0,hx0r⟩:∃ x0,N[i0]?=some x0∧x0.nm=nm0:=by
  rw [Ao] at hs0
  obtain ⟨x0,h1,h2⟩:=AV.1 hs0
  exact ⟨x0,h1,h2⟩
 have hnm0:nm0.size≤1000:=by rw [← hx0r]; exact hs x0 (Zx _ (Ae hx0))
 have hnA:∀ y,y ∈ A.map Sy.nm→y.size≤1000:=fun y hy=>by
  obtain ⟨x,hx,rfl⟩:=Bg.1 hy
  exact hs x (He _ hx)
 have hwl:=hZ (fun i=>M0 (A.map Sy.nm) cs 1000 hnA hcf i)
 have hat:=hZ (fun (i:Nat) (x:Sy) (hx:A[i]?=some x)=>show (A.map Sy.nm)[i]?=some x.nm by rw [Ao,hx]; rfl)
 have hsA:=hZ (fun (x:Sy) (hx:x ∈ A)=>hs x (He _ hx))
 have hGf:=hZ (fun W (hW:Fr w W)=>hG.fr hW)
 have hnm:=hZ hn.noms
 have hac:=hZ hn.accs
 replace hc:=hZ hc
 replace hcl:=hZ hcl
 replace hck:=hZ hck
 replace hcs9:=hZ hcs9
 replace hM:=hZ hM
 replace hx0:=hZ hx0
 replace lenA:=hZ lenA
 replace hcf:=hZ hcf
 generalize A.map Sy.nm=NA at *
 clear hG hn hs hs0 hsp hnA
 obtain ⟨nb,hnb⟩:∃ nb,nb=w.heap.size:=⟨_,rfl⟩
 obtain ⟨W1,hW1⟩:∃ W1,W1=(w.alloc (.cells #[.slice aN M cN,.slice aA d cA] 31)).alloc (.cells #[.int .i64 i0,.slice ca d cc] 50):=⟨_,rfl⟩
 have f1:Fr w W1:=by rw [hW1]; exact ((Fr.refl _).alloc _).alloc _
 have hN1:Br W1 nb (.slice aN M cN) (.slice aA d cA):=by rw [hW1,hnb]; exact (Br.new w _ _ _).fr ((Fr.refl _).alloc _)
 have hS1:Br W1 (nb+1) (.int .i64 i0) (.slice ca d cc):=by
  have:=Br.new (w.alloc (.cells #[.slice aN M cN,.slice aA d cA] 31)) (.int .i64 i0) (.slice ca d cc) 50
  rw [AK] at this
  rw [hW1,hnb]; exact this
 go_enter Tryz.func31,Tryz.ntmps31
 go_upto_region 1 with (fail)
 rw [← hW1,← hnb]
 clear hW1
 replace hnb:=hZ hnb
 have n0:=hN1.a
 have n1':=hN1.b
 have s0':=hS1.a
 have s1':=hS1.b
 replace hN1:=hZ hN1
 replace hS1:=hZ hS1
 go_wp2_with fail
 refine (hck.out _ f1).mono ?_
 rintro e w2 ⟨rfl,hf2⟩
 replace n0:=hf2.keep n0
 replace n1':=hf2.keep n1'
 replace s0':=hf2.keep s0'
 replace s1':=hf2.keep s1'
 have f2:=f1.trans hf2
 go_wp2_with fail
 refine (hcs9.out _ f2).mono ?_
 rintro e w3 ⟨rfl,hf3⟩
 replace n0:=hf3.keep n0
 replace n1':=hf3.keep n1'
 replace s0':=hf3.keep s0'
 replace s1':=hf3.keep s1'
 have f3:=f2.trans hf3
 have f13:=hf2.trans hf3
 obtain ⟨ab,ao,y0,rfl,hbl,hy0,hc1,hc2,-⟩:=(hnm.out.fr f3).at (i:=i0) (by rw [← hM.out]; exact hi0)
 obtain rfl:x0=y0:=by rw [hx0.out] at hy0; injection hy0
 rw [hx0r] at hc1
 replace hy0:=hZ hy0
 have z0:(0:Int)≤(i0:Int):=Af _
 have z1:(i0:Int) < (M:Int):=by omega
 obtain ⟨W4,hW4⟩:∃ W4,W4=w3.alloc (.cells #[.string nm0] 9):=⟨_,rfl⟩
 have f34:Fr w3 W4:=by rw [hW4]; exact (Fr.refl _).alloc _
 have hown0:W4.ownsRow w3.heap.size 9 1 (.slice (some ⟨w3.heap.size,0,none⟩) 1 1) 1 [.string nm0]:=by
  rw [hW4]
  exact EV w3 #[.string nm0] 1 (Ag _) (by decide) rfl
 obtain ⟨g0,hg0⟩:∃ g0,g0=w3.heap.size:=⟨_,rfl⟩
 rw [← hg0] at hown0
 go_upto_region 8 with (fail)
 rw [← hW4,← hg0]
 clear hW4 hc1 hc2 n0 n1' s0'
 replace s1':=f34.keep s1'
 replace hg0:=hZ hg0
 replace hx0r:=hZ hx0r
 replace hown0:=hZ hown0
 have f14:=f13.trans f34
 have f4:=f3.trans f34
 clear hck hcs9
 go_wp2_with fail
 go_loopg [8,34] d (fun k s8 s34 wr=>∃ (i n:Nat),s34=.int .i64 i∧i+k=d∧Fr w3 wr∧n≤i+1∧1≤n∧Hid (wr.ownsRow g0 9 1 s8 n ((nm0 :: EX NA cs i).map Value.string)))
 case atStart=>exact ⟨0,1,rfl,by omega,f34,by omega,by omega,hown0.out⟩
 case round=>
  clear hown0 s1' f14 f4
  obtain ⟨i,n,rfl,hik,hf,hni,hn1,hown⟩:=hrel
  have hFr:=f3.trans hf
  obtain ⟨wo,rfl⟩:∃ wo:World,wo=wr:=⟨_,rfl⟩
  obtain ⟨ko,rfl⟩:∃ ko:Nat,ko=gk:=⟨_,rfl⟩
  obtain ⟨v,rfl⟩:∃ v:Value,v=u8:=⟨_,rfl⟩
  by_cases hi:i < d
  ·have hdI:decide (i < d)=true:=Ac hi
   obtain ⟨cb,co,k,rfl,-,hkc,hc3⟩:=(hc.out.fr hFr).at (i:=i) (by rw [hcl.out]; exact hi)
   have hkf:=hcf.out k (Ae hkc)
   unfold Bi at hkf
   have hkf:=Av hkf
   obtain ⟨bb,bo,x,hae,hbl,hxi,hc0,-,-⟩:=(hac.out.fr f3).at (i:=i) (by rw [lenA.out]; exact hi)
   subst hae
   have hc1:=hf.keep hc0
   have hxn:=hat.out i x hxi
   have hxs:=hsA.out x (Ae hxi)
   have hkg:(cs[i]?).getD 0=k:=by rw [hkc]; rfl
   have hng:(NA[i]?).getD ⟨#[]⟩=x.nm:=by rw [hxn]; rfl
   have hw1:EX NA cs (i+1)=EX NA cs i ++ if k=0 then [] else [x.nm ++ VH k ++ tx k]:=by rw [EX,hkg,hng]
   have y0:(0:Int)≤(i:Int):=Af _
   have y1:(i:Int) < (d:Int):=by omega
   replace hkc:=hZ hkc
   replace hxi:=hZ hxi
   replace hxn:=hZ hxn
   replace hkg:=hZ hkg
   replace hng:=hZ hng
   by_cases hk0:k=0
   ·have d0:(k == 0)=true:=by rw [hk0]; rfl
    rw [Aj hk0,BJ] at hw1
    replace hw1:=hZ hw1
    replace hk0:=hZ hk0
    go_wp2_with fail
    go_roundg (ko - 1)
    case measure=>omega
    case rel=>exact ⟨i+1,n,by go_num,by omega,hf,by omega,by omega,by show World.ownsRow _ _ _ _ _ _ _; rw [hw1.out]; exact hown.out⟩
   ·have d0:(k == 0)=false:=Ay hk0
    rw [Ai hk0] at hw1
    obtain ⟨sg,hsg⟩:∃ sg,sg=VH k:=⟨_,rfl⟩
    rw [← hsg] at hw1
    have m1:=hf.keep (f13.keep hN1.out.b)
    generalize x.nm=xn at *
    have hit:=hZ (fun W' (hW':Fr wo W')=>FC k (by omega) (by omega) W' (hGf.out _ (hFr.trans hW')))
    have hts:=CT 11 k (by omega) (by omega)
    have hsz:(xn ++ sg ++ tx k).size≤2000:=by
     rw [C3,C3]
     have e2:sg.size≤1:=by rw [hsg]; unfold VH; split <;> decide
     omega
    have hsz2:(xn ++ sg).size≤2000:=by
     rw [C3]
     have e2:sg.size≤1:=by rw [hsg]; unfold VH; split <;> decide
     omega
    have hS0:=hZ (fun W' (hW':Fr wo W')=>(⟨hW'.keep m1,hW'.keep hc1⟩:W'.cell? ⟨nb,1,none⟩=some (.slice (some ⟨bb,bo,none⟩) d cA)∧W'.cell? ⟨bb,bo+i * 2,none⟩=some (.string xn)))
    have hgo9:g0≤wo.heap.size:=by rw [hg0.out]; exact hf.size
    have hvb:∀ j,v.ownBlock=some j→g0≤j∧j < wo.heap.size:=hown.out.lt
    replace hvb:=hZ hvb
    by_cases hkp:0 < k
    ·have d1:decide (k > 0)=true:=Ac hkp
     have hsg9:sg=⟨#[43]⟩:=by rw [hsg]; unfold VH; rw [Aj hkp]
     replace hsg:=hZ hsg
     subst hsg9
     go_wp2_with fail
     refine BP (S:=fun W'=>W'.cell? ⟨nb,1,none⟩=some (.slice (some ⟨bb,bo,none⟩) d cA)∧W'.cell? ⟨bb,bo+i * 2,none⟩=some (.string xn)) 14 (by kernel_rfl) (hS0.out _ ((Fr.refl _).drew)) (fun hHeld=>?_)
     refine uK 0 ?_
     refine uK 1 ?_
     refine uK 2 ?_
     refine uK 3 ?_
     refine uK 4 ?_
     refine uK 5 ?_
     refine uK 6 ?_
     refine uK 7 ?_
     refine uT (v:=?_) 8 rfl (by kernel_rfl) (.inl ⟨by rfl, ?_⟩) (by assumption) ?_
     rotate_left
     ·(intro w hSw; (try dsimp only at hSw); go_simp; rw [Ai (by omega)])
     refine uK 9 ?_
     refine uC 10 (fun K hK=>?_)
     go_simp
     (refine (hit.out _ (by exact BR)).mono ?_; rintro e w6 ⟨rfl,hf6⟩)
     go_wp2_with fail
     refine hK.out _ _ (hS0.out _ (by exact BR)) (fun hHeld=>?_)
     clear hK K
     refine uT (v:=?_) 11 rfl (by kernel_rfl) (.inl ⟨by rfl, ?_⟩) (by assumption) ?_
     rotate_left
     ·(intro w hSw; (try dsimp only at hSw); go_simp; rw [Ai (by omega)])
     refine uC 12 (fun K hK=>?_)
     go_simp
     refine hK.out _ _ (hS0.out _ (by exact BR)) (fun hHeld=>?_)
     clear hK K
     have hf6w:Fr wo w6:=(Fr.refl wo).drew.trans hf6
     have hf7:Fr wo (w6.alloc (.cells #[.string (xn ++ ⟨#[43]⟩ ++ tx k)] 9)):=hf6w.alloc _
     have hown7:=Ba hown.out hf7
     have hcs:=AF w6 (.string (xn ++ ⟨#[43]⟩ ++ tx k)) 9 w6.heap.size rfl
     have hz6:=hf6w.size
     have hSA:∀ wA,(w6.alloc (.cells #[.string (xn ++ ⟨#[43]⟩ ++ tx k)] 9)).grownBy wA v.ownBlock→Fr w3 wA:=fun wA hgr=>(hf.trans hf7).grown hgr (fun j e=>by have:=(hvb.out j e).1; have:=hg0.out; omega)
     replace hSA:=hZ hSA
     replace hcs:=hZ hcs
     refine uC 13 (fun K hK=>?_)
     (refine En _ rfl (.tmp 43) (.tmp 55) 55 rfl g0 9 i1 _ 1 16 Tryz.underlying55 ji jz0 jz1 jz2 rfl (by decide) v n ((nm0 :: EX NA cs i).map Value.string) (by simp [Act.eval]) hown7 ⟨w6.heap.size,0,none⟩ 1 1 [.string (xn ++ ⟨#[43]⟩ ++ tx k)] (by simp [Act.eval]) rfl hcs.out (by simp [Value.oneCell']) (by decide) (by unfold maxLen; omega) (by omega) (by simp; omega) (w6.heap.size+1) (by simp) ?_; intro gA capA wA hownA hgrowA hatA hltA)
     refine hK.out _ _ ((⟨(hSA.out wA hgrowA).keep (f13.keep hN1.out.b),(hSA.out wA hgrowA).keep hc0⟩)) (fun hHeld=>?_)
     clear hK K
     have hfrA:=hSA.out wA hgrowA
     clear hHeld
     refine uL 14 (fun K hK=>?_)
     go_simp
     refine hK.out _ _ ?_
     clear hK K
     replace hownA:=hZ hownA
     go_wp2_with fail
     go_roundg (ko - 1)
     case measure=>omega
     case rel=>exact ⟨i+1,n+1,by go_num,by omega,hfrA,by omega,by omega,by show World.ownsRow _ _ _ _ _ _ _; rw [hw1,BQ,Aw]; exact hownA.out⟩
    ·have d1:decide (k > 0)=false:=Aa hkp
     have hsg9:sg=⟨#[]⟩:=by rw [hsg]; unfold VH; rw [Ai hkp]
     replace hsg:=hZ hsg
     subst hsg9
     go_wp2_with fail
     refine BP (S:=fun W'=>W'.cell? ⟨nb,1,none⟩=some (.slice (some ⟨bb,bo,none⟩) d cA)∧W'.cell? ⟨bb,bo+i * 2,none⟩=some (.string xn)) 14 (by kernel_rfl) (hS0.out _ ((Fr.refl _).drew)) (fun hHeld=>?_)
     refine uK 0 ?_
     refine uK 1 ?_
     refine uK 2 ?_
     refine uK 3 ?_
     refine uK 4 ?_
     refine uK 5 ?_
     refine uK 6 ?_
     refine uK 7 ?_
     refine uT (v:=?_) 8 rfl (by kernel_rfl) (.inl ⟨by rfl, ?_⟩) (by assumption) ?_
     rotate_left
     ·(intro w hSw; (try dsimp only at hSw); go_simp; rw [Ai (by omega)])
     refine uK 9 ?_
     refine uC 10 (fun K hK=>?_)
     go_simp
     (refine (hit.out _ (by exact BR)).mono ?_; rintro e w6 ⟨rfl,hf6⟩)
     go_wp2_with fail
     refine hK.out _ _ (hS0.out _ (by exact BR)) (fun hHeld=>?_)
     clear hK K
     refine uT (v:=?_) 11 rfl (by kernel_rfl) (.inl ⟨by rfl, ?_⟩) (by assumption) ?_
     rotate_left
     ·(intro w hSw; (try dsimp only at hSw); go_simp; rw [Ai (by omega)])
     refine uC 12 (fun K hK=>?_)
     go_simp
     refine hK.out _ _ (hS0.out _ (by exact BR)) (fun hHeld=>?_)
     clear hK K
     have hf6w:Fr wo w6:=(Fr.refl wo).drew.trans hf6
     have hf7:Fr wo (w6.alloc (.cells #[.string (xn ++ ⟨#[]⟩ ++ tx k)] 9)):=hf6w.alloc _
     have hown7:=Ba hown.out hf7
     have hcs:=AF w6 (.string (xn ++ ⟨#[]⟩ ++ tx k)) 9 w6.heap.size rfl
     have hz6:=hf6w.size
     have hSA:∀ wA,(w6.alloc (.cells #[.string (xn ++ ⟨#[]⟩ ++ tx k)] 9)).grownBy wA v.ownBlock→Fr w3 wA:=fun wA hgr=>(hf.trans hf7).grown hgr (fun j e=>by have:=(hvb.out j e).1; have:=hg0.out; omega)
     replace hSA:=hZ hSA
     replace hcs:=hZ hcs
     refine uC 13 (fun K hK=>?_)
     (refine En _ rfl (.tmp 43) (.tmp 55) 55 rfl g0 9 i1 _ 1 16 Tryz.underlying55 ji jz0 jz1 jz2 rfl (by decide) v n ((nm0 :: EX NA cs i).map Value.string) (by simp [Act.eval]) hown7 ⟨w6.heap.size,0,none⟩ 1 1 [.string (xn ++ ⟨#[]⟩ ++ tx k)] (by simp [Act.eval]) rfl hcs.out (by simp [Value.oneCell']) (by decide) (by unfold maxLen; omega) (by omega) (by simp; omega) (w6.heap.size+1) (by simp) ?_; intro gA capA wA hownA hgrowA hatA hltA)
     refine hK.out _ _ ((⟨(hSA.out wA hgrowA).keep (f13.keep hN1.out.b),(hSA.out wA hgrowA).keep hc0⟩)) (fun hHeld=>?_)
     clear hK K
     have hfrA:=hSA.out wA hgrowA
     clear hHeld
     refine uL 14 (fun K hK=>?_)
     go_simp
     refine hK.out _ _ ?_
     clear hK K
     replace hownA:=hZ hownA
     go_wp2_with fail
     go_roundg (ko - 1)
     case measure=>omega
     case rel=>exact ⟨i+1,n+1,by go_num,by omega,hfrA,by omega,by omega,by show World.ownsRow _ _ _ _ _ _ _; rw [hw1,BQ,Aw]; exact hownA.out⟩
  ·have hdI:decide (i < d)=false:=Aa hi
   obtain rfl:d=i:=by omega
   obtain ⟨g,cp,rfl,-⟩:=Ct hown.out (by omega)
   obtain ⟨hnn,-,hgl,hcp,hcells⟩:=Bf hown.out
   have hlen:=hown.out.1
   obtain ⟨hw1,hw2⟩:=hwl.out d
   obtain ⟨L,hL⟩:∃ L,L=nm0 :: EX NA cs d:=⟨_,rfl⟩
   rw [← hL] at hcells hlen
   have hLl:L.length=n:=by simpa using hlen
   have hLs:∀ y,y ∈ L→y.size≤1013:=fun y hy=>by
    rw [hL] at hy
    rcases A1.1 hy with rfl | hy
    ·omega
    ·exact hw2 y hy
   have hjl:(Lib.join (L.map (·.data.toList)) (⟨#[32]⟩:ByteArray).data.toList).length≤140737488355328:=by
    have h1:=Kr L 1013 hLs (by omega)
    have h2:(⟨#[32]⟩:ByteArray).data.toList=[32]:=rfl
    rw [h2]
    omega
   have hjn:=hZ (Tryz.strings_Join g 0 cp L ⟨#[32]⟩ wo (fun j y hj=>by
    have:=(hcells j (.string y) (by rw [Ao,hj]; rfl)).1
    rw [Az]; exact this) hgl (by omega) (by omega) hjl)
   have hje:(⟨(Lib.join (L.map (·.data.toList)) (⟨#[32]⟩:ByteArray).data.toList).toArray⟩:ByteArray)=EP L:=rfl
   rw [hLl,hje] at hjn
   obtain ⟨S,hS⟩:∃ S,S=EP L:=⟨_,rfl⟩
   rw [← hS] at hjn
   rw [hL] at hS
   replace hS:=hZ hS
   replace hL:=hZ hL
   clear hcells hje hjl hLs hlen hw1 hw2
   go_wp2_with fail
   refine hjn.out.mono ?_
   rintro e w4 ⟨rfl,hf4⟩
   go_wp2_with fail
   go_ret2
   exact ⟨by rw [hS.out]; rfl,hFr.trans hf4⟩
end Go.Proofs.YtcglmebcfeoedaaGreatDoor
