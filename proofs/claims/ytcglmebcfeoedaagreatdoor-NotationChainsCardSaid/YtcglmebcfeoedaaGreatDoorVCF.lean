/- Contracts and laws: VCF. -/
import Derived.Test.YtcglmebcfeoedaaGreatDoorVNC
import Derived.Test.YtcglmebcfeoedaaGreatDoorVCP
import Derived.Test.YtcglmebcfeoedaaGreatDoorVM
import Derived.Test.YtcglmebcfeoedaaGreatDoorVChk
import Derived.Test.YtcglmebcfeoedaaGreatDoorVKn

set_option maxRecDepth 100000
set_option maxHeartbeats 4000000
namespace Go.Proofs.YtcglmebcfeoedaaGreatDoor
open Go.RowKit Go.Lib
attribute [local go_sem ↓] AA AB
theorem GR {k g0 g1:Int} (h1:-10000≤k) (h2:k≤10000):Bw k g0 g1=[k * g0,k * g1]:=by
 have e:Fd k=k:=by unfold Fd; omega
 unfold Bw; rw [e]
theorem Ic {a b:Int} (h:CR [a,b]=0):Cx [a,b]=0∧a.natAbs≤1000000000∧b.natAbs≤1000000000:=by
 have h0:Cx [a,b]=0:=by
  unfold CR at h
  by_cases h9:Cx [a,b]=0
  ·exact h9
  ·rw [Aj h9] at h; exact absurd h h9
 have h1:=(FU h0).2
 exact ⟨h0,Hz (h1 a (by simp)),Hz (h1 b (by simp))⟩
theorem OZ {xs:List Int} (h:CR xs=0):∃ a b,xs=[a,b]:=by
 unfold CR at h
 split at h
 ·rename_i h1; exact absurd h h1
 ·split at h
  ·cases h
  ·rename_i _ h2
   match xs,Classical.not_not.1 h2 with
   | [a,b],_=>exact ⟨a,b,rfl⟩
structure HI (names:List ByteArray) (s g0 g1 e0 e1:Int) (sh oct:ByteArray) (n r:Nat):Prop where
 hn:n=names.length
 n62:n≤62
 s1:-1000≤s
 s2:s≤1000
 le:CR [e0,e1]=0
 sh36:sh.size≤36
 oct36:oct.size≤36
 nm36:∀ x,x ∈ names→x.size≤36
 red:Cx (Bw n g0 g1)=0→∃ F,Cg ([Bw n g0 g1,[e0,e1]].map CM) 2=some F∧F.lead.length=r
 acc:Cx (Bw n g0 g1)=0→r≤2∧∀ (a:Option Addr) (c:Nat) (W:World),G W→BT W a [Bw n g0 g1,[e0,e1]]→Calls Tryz.prog 58 #[.slice a 2 c] W fun e w'=>e=.returned (.int .i64 r)∧Fr W w'
 det:Cx (Bw n g0 g1)=0→r=2→g0 * e1 - g1 * e0≠0
theorem Wg (n:Nat) (hn:n≤62) (g0 g1:Int) {e0 e1:Int} (he:CR [e0,e1]=0):∃ r,(Cx (Bw n g0 g1)=0→∃ F,Cg ([Bw n g0 g1,[e0,e1]].map CM) 2=some F∧F.lead.length=r) ∧
 (Cx (Bw n g0 g1)=0→r≤2∧∀ (a:Option Addr) (c:Nat) (W:World),G W→BT W a [Bw n g0 g1,[e0,e1]]→Calls Tryz.prog 58 #[.slice a 2 c] W fun e w'=>e=.returned (.int .i64 r)∧Fr W w')∧(Cx (Bw n g0 g1)=0→r=2→g0 * e1 - g1 * e0≠0):=by
 have ht:=GR (k:=n) (g0:=g0) (g1:=g1) (by omega) (by omega)
 rw [ht]
 by_cases h0:Cx [(n:Int) * g0,(n:Int) * g1]=0
 ·obtain ⟨-,be0,be1⟩:=Ic he
  have hf:=(FU h0).2
  have b0:=Hz (hf ((n:Int) * g0) (by simp))
  have b1:=Hz (hf ((n:Int) * g1) (by simp))
  obtain ⟨F,S,k1,k2,k3,k4,k5⟩:=Zk b0 b1 be0 be1
  have hR:Ce 2 [[(n:Int) * g0,(n:Int) * g1],[e0,e1]]:=fun r hr=>by
   simp only [A1,BB,DF] at hr
   rcases hr with rfl | rfl <;> rfl
  have hS:∀ r,r ∈ [[(n:Int) * g0,(n:Int) * g1],[e0,e1]]→∀ x,x ∈ r→Sm x:=fun r hr x hx=>by
   have:x.natAbs≤1000000000:=by
    simp only [A1,BB,DF] at hr
    rcases hr with rfl | rfl <;> simp only [A1,BB,DF] at hx <;> rcases hx with rfl | rfl <;> assumption
   exact ⟨by omega,by omega⟩
  have hl:([[(n:Int) * g0,(n:Int) * g1],[e0,e1]]:List (List Int)).length=2:=rfl
  refine ⟨S.piv.length,fun _=>⟨F,k1,k3⟩,fun _=>⟨k4,fun a c W hW hm=>?_⟩,fun _ hr hd=>?_⟩
  ·have h:=Wr [[(n:Int) * g0,(n:Int) * g1],[e0,e1]] 2 S a c W hW hm hR (by omega) (by omega) (by omega) (by omega) hS k2
   rw [hl] at h
   exact h
  ·have:=k5 (by
    have e:(n:Int) * g0 * e1 - n * g1 * e0=n * (g0 * e1 - g1 * e0):=by grind
    rw [e,hd,Dw])
   omega
 ·exact ⟨0,fun h=>absurd h h0,fun h=>absurd h h0,fun h=>absurd h h0⟩
section
variable {names:List ByteArray} {s g0 g1 e0 e1:Int} {sh oct:ByteArray} {n r:Nat} {L X:List Sy}
theorem HI.rows (h:HI names s g0 g1 e0 e1 sh oct n r) (hL:Cd L=Dd names s g0 g1):L.map Sy.row=Om n s g0 g1:=by
 rw [← Fe,hL]
 refine Cm fun i=>?_
 unfold Dd Om
 rw [Ao,HQ,Ao]
 have hs1:=h.s1
 have hs2:=h.s2
 have hn:=h.hn
 have h62:=h.n62
 by_cases hi:i < names.length
 ·rw [Ab hi,Do (by omega)]
  show some (Bw (s+i) g0 g1)=_
  rw [GR (by omega) (by omega)]; rfl
 ·rw [AM (by omega),AM (by rw [Bz]; omega)]; rfl
theorem HI.rowsA (h:HI names s g0 g1 e0 e1 sh oct n r) (hX:Cd X=[(sh,Bw n g0 g1),(oct,[e0,e1])]):X.map Sy.row=[Bw n g0 g1,[e0,e1]]∧X.map Sy.row=N7 n g0 g1 e0 e1:=by
 have h62:=h.n62
 have e:X.map Sy.row=[Bw n g0 g1,[e0,e1]]:=by rw [← Fe,hX]; rfl
 exact ⟨e,by rw [e,GR (by omega) (by omega)]; rfl⟩
theorem HI.lenL (h:HI names s g0 g1 e0 e1 sh oct n r) (hL:Cd L=Dd names s g0 g1):L.length=n:=by rw [← C0,hL,EC]; exact h.hn.symm
theorem HI.fit (h:HI names s g0 g1 e0 e1 sh oct n r) (hL:Cd L=Dd names s g0 g1) (hX:Cd X=[(sh,Bw n g0 g1),(oct,[e0,e1])]):US (L ++ X):=fun x hx=>by
 rcases A5.1 hx with h9 | h9
 ·obtain ⟨i,hi,e⟩:=Dn (Gd hL h9)
  have hi2:i < names.length:=by rw [EC] at hi; exact hi
  have e2:=Gc (s:=s) (g0:=g0) (g1:=g1) (Ab hi2)
  rw [Ab hi,e] at e2
  injection e2 with e2
  injection e2 with e3 e4
  rw [e3,e4]
  have:=h.nm36 _ (A8 hi2)
  exact ⟨by omega,by simp [Bw]⟩
 ·have h1:=h.sh36
  have h2:=h.oct36
  have:=Gd hX h9
  simp only [A1,BB,DF] at this
  rcases this with e | e <;> injection e with e1 e2 <;> rw [e1,e2]
  ·exact ⟨by omega,by simp [Bw]⟩
  ·exact ⟨by omega,by simp⟩
theorem HI.row1 (hX:X.map Sy.row=[Bw n g0 g1,[e0,e1]]) (h4:CF X.length (L ++ X) (L ++ X).length 0=0):Cx (Bw n g0 g1)=0:=by
 have hl:X.length=2:=by rw [← Am (f:=Sy.row),hX]; rfl
 have h0:X[0]?.map Sy.row=some (Bw n g0 g1):=by rw [← Ao,hX]; rfl
 obtain ⟨x,hx,e⟩:=AV.1 h0
 have hz:=Fz _ _ h4 L.length x (Bm _) (by rw [Ar,hl]; omega) (by rw [AR (Ag _),ED]; exact hx)
 have:=(IC hz).2.2.1
 rw [e] at this
 exact this
theorem HI.check (h:HI names s g0 g1 e0 e1 sh oct n r) (hL:Cd L=Dd names s g0 g1) (hX:Cd X=[(sh,Bw n g0 g1),(oct,[e0,e1])]) (aL aX:Option Addr) (cL cX:Nat) (w:World) (hG:G w) (hn:DS w aL aX cX L X) :
 Calls Tryz.prog 18 #[.agg #[.slice aL n cL,.slice aX 2 cX]] w fun e w'=>e=.returned (.int .i64 (Ck L X r))∧Fr w w':=by
 have lL:=h.lenL hL
 obtain ⟨eX,-⟩:=h.rowsA hX
 have lX:X.length=2:=by rw [← Am (f:=Sy.row),eX]; rfl
 have h62:=h.n62
 have:=PK aL aX cL cX r L X w hG hn (h.fit hL hX) (by omega) (by omega) (fun h4 a c W hW hm=>by
  rw [eX] at hm
  rw [lX]
  exact (h.acc (HI.row1 eX h4)).2 a c W (hG.fr hW) hm)
 rw [lL,lX] at this
 exact this
theorem HI.ncheck (h:HI names s g0 g1 e0 e1 sh oct n r) (hL:Cd L=Dd names s g0 g1) (hX:Cd X=[(sh,Bw n g0 g1),(oct,[e0,e1])]) (aL aX:Option Addr) (cL cX:Nat) (w:World) (hG:G w) (hn:DS w aL aX cX L X) :
 Calls Tryz.prog 25 #[.agg #[.slice aL n cL,.slice aX 2 cX]] w fun e w'=>e=.returned (.int .i64 (Ck L X r))∧Fr w w':=by
 have lL:=h.lenL hL
 obtain ⟨eX,-⟩:=h.rowsA hX
 have lX:X.length=2:=by rw [← Am (f:=Sy.row),eX]; rfl
 have h62:=h.n62
 have:=HG aL aX cL cX r L X w hG hn (h.fit hL hX) (by omega) (by omega) (fun _ _ _ h4=>by
  rw [eX]
  exact h.red (HI.row1 eX h4))
 rw [lL,lX] at this
 exact this
theorem HI.zero (h:HI names s g0 g1 e0 e1 sh oct n r) (hL:Cd L=Dd names s g0 g1) (hX:Cd X=[(sh,Bw n g0 g1),(oct,[e0,e1])]) (h0:Ck L X r=0) :
 1≤n∧n≤60∧g0 * e1 - g1 * e0≠0∧(∀ q,q ∈ Om n s g0 g1→∀ x,x ∈ q→Bi x=true)∧∀ q,q ∈ N7 n g0 g1 e0 e1→∀ x,x ∈ q→Bi x=true:=by
 have lL:=h.lenL hL
 obtain ⟨eX,eX2⟩:=h.rowsA hX
 have lX:X.length=2:=by rw [← Am (f:=Sy.row),eX]; rfl
 unfold Ck at h0
 split at h0
 ·cases h0
 ·split at h0
  ·cases h0
  ·split at h0
   ·rename_i h4; exact absurd h0 h4
   ·split at h0
    ·cases h0
    ·rename_i h1 h2 h4 h5
     have h4:CF X.length (L ++ X) (L ++ X).length 0=0:=Classical.not_not.1 h4
     have hz:=Fz _ _ h4
     have hr1:=HI.row1 eX h4
     have hrl:=(h.acc hr1).1
     have hfit:∀ x,x ∈ L ++ X→∀ y,y ∈ x.row→Bi y=true:=fun x hx=>by
      obtain ⟨j,hj⟩:=AO hx
      have hl:=(Ah.1 hj).1
      exact (FU (IC (hz j x (Bm _) (by omega) hj)).2.2.1).2
     refine ⟨by omega,by omega,h.det hr1 (by omega),fun q hq=>?_,fun q hq=>?_⟩
     ·rw [← h.rows hL] at hq
      obtain ⟨x,hx,rfl⟩:=Bg.1 hq
      exact hfit x (Zx _ hx)
     ·rw [← eX2] at hq
      obtain ⟨x,hx,rfl⟩:=Bg.1 hq
      exact hfit x (He _ hx)
end
theorem Wi {g0 g1 e0 e1:Int} (hg:CR [g0,g1]=0) (he:CR [e0,e1]=0) (hd:g0 * e1 - g1 * e0≠0):∃ D:Int,D.natAbs=(g0 * e1 - g1 * e0).natAbs∧Bn 200 D∧∀ (a:Option Addr) (c:Nat) (W:World),G W→BT W a [[g0,g1],[e0,e1]] →
 Calls Tryz.prog 23 #[.slice a 2 c] W fun e w'=>e=.returned (.string (tx D))∧Fr W w':=by
 obtain ⟨-,b0,b1⟩:=Ic hg
 obtain ⟨-,b2,b3⟩:=Ic he
 obtain ⟨S,k1,k2,k3⟩:=Za b0 b1 b2 b3 hd
 have hbS:S.last.natAbs≤2000000000000000000:=by
  rw [k3]; exact IK (Dq b0 b3) (Dq b1 b2)
 have hbd:Bn 200 S.last:=BI hbS (by decide +kernel)
 refine ⟨O7 S, ?_,Wa hbd,fun a c W hW hm=>WD [[g0,g1],[e0,e1]] 2 S a c W hW hm (fun r hr=>?_) (by decide) (by decide) rfl (fun r hr x hx=>?_) k1 k2 hbd⟩
 ·rw [← k3]; unfold O7; split <;> omega
 ·simp only [A1,BB,DF] at hr
  rcases hr with rfl | rfl <;> rfl
 ·have:x.natAbs≤1000000000:=by
   simp only [A1,BB,DF] at hr
   rcases hr with rfl | rfl <;> simp only [A1,BB,DF] at hx <;> rcases hx with rfl | rfl <;> assumption
  exact ⟨by omega,by omega⟩
def ML (s:Int) (gs es:List Int):Int:=if s < -1000∨1000 < s then 3 else if CR gs≠0 then CR gs else CR es
theorem S6 (a:Option Addr) (nn c:Nat) (s:Int) (gs es:List Int) (ag ae:Option Addr) (cg ce:Nat) (sh oct:ByteArray) (w:World) (hg:El w iv ag gs) (he:El w iv ae es) (hgl:gs.length≤1000000000) (hel:es.length≤1000000000) (h0:ML s gs es≠0) :
 Calls Tryz.prog 19 #[.agg #[.slice a nn c,.int .i64 s,.slice ag gs.length cg,.slice ae es.length ce,.string sh,.string oct]] w
  fun e w'=>e=.returned (.tuple #[.agg #[.slice none 0 0,.slice none 0 0],.int .i64 (ML s gs es)])∧Fr w w':=by
 have hlg:=hZ (fun W (hW:Fr w W)=>Fu gs ag cg W (hg.fr hW) hgl)
 have hle:=hZ (fun W (hW:Fr w W)=>Fu es ae ce W (he.fr hW) hel)
 have hE3:(s < -1000∨1000 < s)→ML s gs es=3:=fun h=>by unfold ML; rw [Aj h]
 have hEg:¬ (s < -1000∨1000 < s)→CR gs≠0→ML s gs es=CR gs:=fun h h1=>by unfold ML; rw [Ai h,Aj h1]
 have hEe:¬ (s < -1000∨1000 < s)→CR gs=0→ML s gs es=CR es:=fun h h1=>by unfold ML; rw [Ai h,Ai (by rw [h1]; simp)]
 generalize ML s gs es=E at *
 generalize CR gs=Eg at *
 generalize CR es=Ee at *
 generalize gs.length=lg at *
 generalize es.length=le at *
 clear hg he hgl hel
 replace hE3:=hZ hE3
 replace hEg:=hZ hEg
 replace hEe:=hZ hEe
 replace h0:=hZ h0
 obtain ⟨cb,hcb⟩:∃ cb,cb=w.heap.size:=⟨_,rfl⟩
 obtain ⟨rb,hrb⟩:∃ rb,rb=cb+1:=⟨_,rfl⟩
 obtain ⟨w1,hw1⟩:∃ w1,w1=(w.alloc (.cells #[.slice a nn c,.int .i64 s,.slice ag lg cg,.slice ae le ce,.string sh,.string oct] 57)).alloc (.cells #[.slice none 0 0,.slice none 0 0] 31):=⟨_,rfl⟩
 have hL:Dv w1 cb (.slice a nn c) (.int .i64 s) (.slice ag lg cg) (.slice ae le ce) (.string sh) (.string oct):=by rw [hw1,hcb]; exact (Dv.new w _ _ _ _ _ _ _).fr ((Fr.refl _).alloc _)
 have hR:Br w1 rb (.slice none 0 0) (.slice none 0 0):=by
  rw [hw1,hrb,hcb]
  have:=Br.new (w.alloc (.cells #[.slice a nn c,.int .i64 s,.slice ag lg cg,.slice ae le ce,.string sh,.string oct] 57)) (.slice none 0 0) (.slice none 0 0) 31
  rw [AK] at this
  exact this
 have hf0:Fr w w1:=by rw [hw1]; exact ((Fr.refl _).alloc _).alloc _
 have i0:∀ W,(Instr.index 114 (.agg #[.slice ag lg cg,.slice ae le ce]) (.int .i64 0)).run Tryz.prog W=.ok (.slice ag lg cg) W:=fun _=>by kernel_rfl
 have i2:∀ W,(Instr.index 114 (.agg #[.slice ag lg cg,.slice ae le ce]) (.int .i64 1)).run Tryz.prog W=.ok (.slice ae le ce) W:=fun _=>by kernel_rfl
 obtain ⟨l0,l1,l2,l3,l4,l5⟩:=hL
 go_enter Tryz.func19,Tryz.ntmps19
 go_upto_region 1 with (fail)
 rw [← hw1,← hcb,← hrb]
 clear hw1
 replace hcb:=hZ hcb
 replace hrb:=hZ hrb
 replace hR:=hZ hR
 by_cases hs1:s < -1000
 ·have d1:decide (s < (-1000:Int))=true:=Ac hs1
  have hE:=hZ (hE3.out (.inl hs1))
  clear hs1
  have hR9:=hR.out.fr (Fr.refl w1)
  have hfr9:=hf0.trans (Fr.refl w1)
  obtain ⟨a0,a1,g0',g1'⟩:=hR9
  have x1:(w1.setCell ⟨rb,0,none⟩ (.slice none 0 0)).cell? ⟨rb,1,none⟩=some (.slice none 0 0):=by rw [Ad _ _ _ _ (fun e=>by injection e with _ e; omega)]; exact a1
  obtain ⟨y0,y1,-,-⟩:=A7 w1 rb (.slice none 0 0) (.slice none 0 0) _ _ a0 a1
  have hrbw:w.heap.size≤rb:=by have:=hrb.out; have:=hcb.out; omega
  replace y0:=hZ y0
  replace y1:=hZ y1
  go_wp2_with fail
  have q0:=y0.out
  have q1:=y1.out
  refine Ax (v:=.tuple #[.agg #[.slice none 0 0,.slice none 0 0],.int .i64 3]) (by simp [results,Tryz.results19,go_sem,q0,q1]) rfl ?_
  exact ⟨by rw [hE.out],(hfr9.setCell (p:=⟨rb,0,none⟩) hrbw _).setCell (p:=⟨rb,1,none⟩) hrbw _⟩
 ·have d1:decide (s < (-1000:Int))=false:=Aa hs1
  by_cases hs2:1000 < s
  ·have d2:decide ((1000:Int) < s)=true:=Ac hs2
   have hE:=hZ (hE3.out (.inr hs2))
   clear hs1 hs2
   have hR9:=hR.out.fr (Fr.refl w1)
   have hfr9:=hf0.trans (Fr.refl w1)
   obtain ⟨a0,a1,g0',g1'⟩:=hR9
   have x1:(w1.setCell ⟨rb,0,none⟩ (.slice none 0 0)).cell? ⟨rb,1,none⟩=some (.slice none 0 0):=by rw [Ad _ _ _ _ (fun e=>by injection e with _ e; omega)]; exact a1
   obtain ⟨y0,y1,-,-⟩:=A7 w1 rb (.slice none 0 0) (.slice none 0 0) _ _ a0 a1
   have hrbw:w.heap.size≤rb:=by have:=hrb.out; have:=hcb.out; omega
   replace y0:=hZ y0
   replace y1:=hZ y1
   go_wp2_with fail
   have q0:=y0.out
   have q1:=y1.out
   refine Ax (v:=.tuple #[.agg #[.slice none 0 0,.slice none 0 0],.int .i64 3]) (by simp [results,Tryz.results19,go_sem,q0,q1]) rfl ?_
   exact ⟨by rw [hE.out],(hfr9.setCell (p:=⟨rb,0,none⟩) hrbw _).setCell (p:=⟨rb,1,none⟩) hrbw _⟩
  ·have d2:decide ((1000:Int) < s)=false:=Aa hs2
   have hsr:Hid (¬ (s < -1000∨1000 < s)):=hZ (by omega)
   clear hs1 hs2
   go_wp2_with fail
   refine DE 3 ?_
   rw [Bh]
   go_wp2_with fail
   refine (hlg.out _ hf0).mono ?_
   rintro e w2 ⟨rfl,hf2⟩
   by_cases hg0:Eg=0
   ·have e1:=hEe.out hsr.out hg0
    have hge:Ee≠0:=fun h=>h0.out (by rw [e1,h])
    have d3:(Eg != 0)=false:=by rw [hg0]; rfl
    have d4:(Ee != 0)=true:=Bl.2 hge
    have hE:=hZ e1
    clear hge e1
    subst hg0
    go_wp2_with fail
    rw [Bh]
    go_wp2_with fail
    refine (hle.out _ (hf0.trans hf2)).mono ?_
    rintro e w3 ⟨rfl,hf3⟩
    have hR9:=hR.out.fr (hf2.trans hf3)
    have hfr9:=hf0.trans (hf2.trans hf3)
    obtain ⟨a0,a1,g0',g1'⟩:=hR9
    have x1:(w3.setCell ⟨rb,0,none⟩ (.slice none 0 0)).cell? ⟨rb,1,none⟩=some (.slice none 0 0):=by rw [Ad _ _ _ _ (fun e=>by injection e with _ e; omega)]; exact a1
    obtain ⟨y0,y1,-,-⟩:=A7 w3 rb (.slice none 0 0) (.slice none 0 0) _ _ a0 a1
    have hrbw:w.heap.size≤rb:=by have:=hrb.out; have:=hcb.out; omega
    replace y0:=hZ y0
    replace y1:=hZ y1
    go_wp2_with fail
    have q0:=y0.out
    have q1:=y1.out
    refine Ax (v:=.tuple #[.agg #[.slice none 0 0,.slice none 0 0],.int .i64 Ee]) (by simp [results,Tryz.results19,go_sem,q0,q1]) rfl ?_
    exact ⟨by rw [hE.out],(hfr9.setCell (p:=⟨rb,0,none⟩) hrbw _).setCell (p:=⟨rb,1,none⟩) hrbw _⟩
   ·have e1:=hEg.out hsr.out hg0
    have d3:(Eg != 0)=true:=Bl.2 hg0
    have hE:=hZ e1
    clear hg0 e1
    have hR9:=hR.out.fr hf2
    have hfr9:=hf0.trans hf2
    obtain ⟨a0,a1,g0',g1'⟩:=hR9
    have x1:(w2.setCell ⟨rb,0,none⟩ (.slice none 0 0)).cell? ⟨rb,1,none⟩=some (.slice none 0 0):=by rw [Ad _ _ _ _ (fun e=>by injection e with _ e; omega)]; exact a1
    obtain ⟨y0,y1,-,-⟩:=A7 w2 rb (.slice none 0 0) (.slice none 0 0) _ _ a0 a1
    have hrbw:w.heap.size≤rb:=by have:=hrb.out; have:=hcb.out; omega
    replace y0:=hZ y0
    replace y1:=hZ y1
    go_wp2_with fail
    have q0:=y0.out
    have q1:=y1.out
    refine Ax (v:=.tuple #[.agg #[.slice none 0 0,.slice none 0 0],.int .i64 Eg]) (by simp [results,Tryz.results19,go_sem,q0,q1]) rfl ?_
    exact ⟨by rw [hE.out],(hfr9.setCell (p:=⟨rb,0,none⟩) hrbw _).setCell (p:=⟨rb,1,none⟩) hrbw _⟩
end Go.Proofs.YtcglmebcfeoedaaGreatDoor
