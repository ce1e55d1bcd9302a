/- Contracts and laws: VH. -/
import Derived.Test.YtcglmebcfeoedaaGreatDoorVW
import Derived.Test.YtcglmebcfeoedaaGreatDoorVE
import Derived.Test.YtcglmebcfeoedaaGreatDoorShelf
import Derived.Lib.Join

set_option maxRecDepth 100000
set_option maxHeartbeats 8000000
namespace Go.Proofs.YtcglmebcfeoedaaGreatDoor
open Go.RowKit Go.Lib
attribute [local go_sem ↓] AA AB
theorem P7 (w:World) :
 Calls Tryz.prog 133 #[.slice none 0 0,.int .i64 0] w fun e w'=>e=.returned (.tuple #[.slice none 0 0,qv 1])∧Fr w w':=by
 obtain ⟨wb,hwb⟩:∃ wb,wb=w.alloc (.cells #[.string ⟨#[]⟩,.string ⟨#[]⟩] 194):=⟨_,rfl⟩
 have hfb:Fr w wb:=by rw [hwb]; exact (Fr.refl _).alloc _
 have q4:wb.cell? ⟨w.heap.size,0,none⟩=some (.string ⟨#[]⟩):=by rw [hwb]; exact (CZ _ _ _ _).1
 have q5:wb.cell? ⟨w.heap.size,1,none⟩=some (.string ⟨#[]⟩):=by rw [hwb]; exact (CY _ _ _ _).1
 have q6:wb.frozen? ⟨w.heap.size,0,none⟩=false:=by rw [hwb]; exact (CZ _ _ _ _).2
 have q7:wb.frozen? ⟨w.heap.size,1,none⟩=false:=by rw [hwb]; exact (CY _ _ _ _).2
 obtain ⟨o,ho⟩:∃ o:Rat,o=1:=⟨_,rfl⟩
 have hone:Hid (∀ W,Calls Tryz.prog 188 #[] W fun e w'=>e=.returned (qv o)∧Fr W w'):=fun W=>by rw [ho]; exact LM W
 rw [← ho]
 clear ho
 go_enter Tryz.func133,Tryz.ntmps133
 go_upto_region 1 with (fail)
 rw [← hwb]
 clear hwb
 go_wp2_with fail
 refine (hone.out _).mono ?_
 rintro e w1 ⟨rfl,hf1⟩
 replace q6:=hf1.keepf q4 q6
 replace q7:=hf1.keepf q5 q7
 replace q4:=hf1.keep q4
 replace q5:=hf1.keep q5
 obtain ⟨u0,u1,q8,-⟩:=A7 w1 w.heap.size (sv o.num) (sv (o.den:Int)) _ _ q4 q5
 have hfs:Fr w ((w1.setCell ⟨w.heap.size,0,none⟩ (sv o.num)).setCell ⟨w.heap.size,1,none⟩ (sv (o.den:Int))):=((hfb.trans hf1).setCell (p:=⟨w.heap.size,0,none⟩) (Ag _) _).setCell (p:=⟨w.heap.size,1,none⟩) (Ag _) _
 go_upto_region 2 with (fail)
 obtain ⟨w2,hw2⟩:∃ w2,w2=(w1.setCell ⟨w.heap.size,0,none⟩ (sv o.num)).setCell ⟨w.heap.size,1,none⟩ (sv (o.den:Int)):=⟨_,rfl⟩
 change Code.wp _ _ _ _ ((w1.setCell ⟨w.heap.size,0,none⟩ (sv o.num)).setCell ⟨w.heap.size,1,none⟩ (sv (o.den:Int)))
 have q6:w2.frozen? ⟨w.heap.size,0,none⟩=false:=by rw [hw2,Ap,Ap]; exact q6
 have q7:w2.frozen? ⟨w.heap.size,1,none⟩=false:=by rw [hw2,Ap,Ap]; exact q7
 rw [← hw2] at hfs u0 u1 ⊢
 clear hw2 q4 q5 q8 hf1 hfb
 go_wp2_with fail
 go_loopg [4,16] 0 (fun gk s4 s16 wr=>s4=.slice none 0 0∧s16=.int .i64 0∧gk=0∧wr=w2)
 case atStart=>exact ⟨rfl,rfl,rfl,rfl⟩
 case round=>
  obtain ⟨rfl,rfl,rfl,rfl⟩:=hrel
  obtain ⟨D,hD⟩:∃ D,D=w.heap.size:=⟨_,rfl⟩
  rw [← hD] at u0 u1 q6 q7 ⊢
  replace hD:=hZ hD
  have v0:=hZ (A7 wr D (sv o.num) (sv (o.den:Int)) _ _ u0 u1)
  have y0:=v0.out.2.2.1
  have hfe:=(((hfs.setCell (p:=⟨D,0,none⟩) (by rw [hD.out]; exact Ag _) (sv o.num)).setCell (p:=⟨D,1,none⟩) (by rw [hD.out]; exact Ag _) (sv (o.den:Int))).drew)
  go_wp2_with fail
  go_region
  all_goals
   go_wp2_with fail
   have z0:=v0.out.1
   have z1:=v0.out.2.1
   refine Ax (v:=.tuple #[.slice none 0 0,qv o]) (by simp [results,Tryz.results133,go_sem,z0,z1]) rfl ⟨rfl,hfe⟩
theorem Rr {x:Int} (h:Bi x=true):Sm x:=by
 unfold Bi at h; have h:=Av h; exact ⟨by omega,by omega⟩
theorem UV (m:List (List Int)) (a:Option Addr) (cap n:Nat) (F:RS) (w:World) (hG:G w) (hm:BT w a m) (hok:Ge n m) (hn:1≤n) (hF:Cg (m.map CM) (G6 m)=some F) :
 Calls Tryz.prog 75 #[.slice a m.length cap] w fun e w'=>e=.returned (.tuple #[.int .i64 F.lead.length,.int .i64 0])∧Fr w w':=by
 have hck:=hZ (HY m a cap n w hm hok)
 obtain ⟨h1,h2,h3,h4⟩:=hok
 have hro:=hZ (fun W (hW:Fr w W)=>Sa m a cap n W (hG.fr hW) (hm.fr hW) h3 hn (by omega) (by omega) (fun r hr x hx=>Rr (h4 r hr x hx)))
 have hco:=hZ (fun W (hW:Fr w W)=>KU m a cap W (hm.fr hW))
 have hcn:m≠[]→G6 m=n:=fun h=>by unfold G6; rw [Cb (CX.2 h)]; exact h3.row _
 have hc0:m=[]→G6 m=0:=fun h=>by rw [h]; rfl
 have hrq:ET n (m.map CM):=fun r hr=>by
  obtain ⟨x,hx,rfl⟩:=Bg.1 hr
  unfold CM; rw [Am]; exact h3 x hx
 have hlq:(m.map CM).length=m.length:=Am _
 have hre:=hZ (fun ob oo oc hs W (hGW:G W) (hg:Ew W ob oo hs (m.map CM))=>LB ob oo oc n (G6 m) hs (m.map CM) F W hGW hg hrq (by omega) (by omega) (by by_cases h:m=[]; (rw [hc0 h]; omega); (rw [hcn h]; exact Ag _)) hF)
 replace hrq:=hZ hrq
 replace hlq:=hZ hlq
 have hm0:Hid (m=[]→F.lead.length=0):=fun h=>by
  rw [h] at hF
  injection hF with hF
  rw [← hF]; rfl
 replace hF:=hZ hF
 have hGf:=hZ (fun W (hW:Fr w W)=>hG.fr hW)
 obtain ⟨k,hk⟩:∃ k,k=F.lead.length:=⟨_,rfl⟩
 rw [← hk] at hm0 ⊢
 replace hc0:=hZ hc0
 obtain ⟨l,hl⟩:∃ l,l=m.length:=⟨_,rfl⟩
 rw [← hl] at hck hro hco ⊢
 replace hl:=hZ hl
 obtain ⟨cn,hcn2⟩:∃ cn,cn=G6 m:=⟨_,rfl⟩
 rw [← hcn2] at hco hre hc0
 clear h1 h2 h3 h4 hcn hm hG hcn2
 go_enter Tryz.func75,Tryz.ntmps75
 go_wp2_with fail
 refine hck.out.mono ?_
 rintro e w1 ⟨rfl,hf1⟩
 go_wp2_with fail
 refine (hro.out _ hf1).mono ?_
 rintro e w2 ⟨v,hs,rfl,hgg,hnew,hf2⟩
 rcases hgg.own.2 with ⟨hv,h0⟩ | ⟨g,cap2,-,hv,-⟩
 ·subst hv
  have hm9:m=[]:=AD (by rw [← hlq.out]; exact h0)
  have hc9:=hc0.out hm9
  have hk9:=hm0.out hm9
  have hnl8:Hid (∀ W,Calls Tryz.prog 133 #[.slice none 0 0,.int .i64 cn] W fun e w'=>e=.returned (.tuple #[.slice none 0 0,qv 1])∧Fr W w'):=fun W=>by rw [hc9]; exact P7 W
  replace hc9:=hZ hc9
  replace hk9:=hZ hk9
  replace hgg:=hZ hgg
  go_wp2_with fail
  refine (hco.out _ (hf1.trans hf2)).mono ?_
  rintro e w3 ⟨rfl,hf3⟩
  go_wp2_with fail
  refine (hnl8.out _).mono ?_
  rintro e w4 ⟨rfl,hf4⟩
  have hfr4:=((hf1.trans hf2).trans hf3).trans hf4
  go_wp2_with fail
  have hsz9:=hfr4.size
  refine Ax (v:=.tuple #[.int .i64 k,.int .i64 0]) (by rw [hk9.out]; simp [results,Tryz.results75,go_sem]) rfl ⟨rfl,by exact BR⟩
 ·subst hv
  obtain ⟨hg,-,hb,-⟩:=hgg.grid
  have hg1:=hZ hg
  replace hgg:=hZ hgg
  have hl9:(m.map CM).length=l:=by rw [hlq.out,hl.out]
  rw [hl9]
  replace hl9:=hZ hl9
  go_wp2_with fail
  refine (hco.out _ (hf1.trans hf2)).mono ?_
  rintro e w3 ⟨rfl,hf3⟩
  have hre2:=hre.out g 0 cap2 hs w3 (hGf.out _ ((hf1.trans hf2).trans hf3)) (hg1.out.fr hf3)
  rw [hl9.out,← hk] at hre2
  go_wp2_with fail
  refine hre2.mono ?_
  rintro e w4 ⟨a4,c4,hs4,rfl,-,hfx4,-,-⟩
  go_wp2_with fail
  have hfr4:Fr w w4:=(((Fx.of_fr ((hf1.trans hf2).trans hf3)).trans hfx4)).toFr (fun j hj hgb=>by
   rcases hgb with h | ⟨hd,hm,h⟩
   ·have:=hf1.size; have:w1.heap.size≤g:=hb; omega
   ·have h2:=hnew.out hd hm; have:=hf1.size; have h:hd.1=j:=h; omega)
  have hsz9:=hfr4.size
  refine Ax (v:=.tuple #[.int .i64 k,.int .i64 0]) (by simp [results,Tryz.results75,go_sem,hk]) rfl ⟨rfl,by exact BR⟩
def Dl (d:Nat) (prev:List Sy) (x:Sy):Int :=
 if BG x.nm=false then 8 else if prev.any (fun y=>y.nm.toList == x.nm.toList)=true then 9 else if Cx x.row≠0 then Cx x.row else if x.row.length≠d then 5 else 0
def CF (d:Nat) (L:List Sy):Nat→Nat→Int
 | 0,_=>0
 | k+1,i=>match L[i]? with
   | none=>0
   | some x=>if Dl d (L.take i) x≠0 then Dl d (L.take i) x else CF d L k (i+1)
theorem DD {d:Nat} {L:List Sy} {k i:Nat} {x:Sy} (h:L[i]?=some x) (hb:Dl d (L.take i) x≠0):CF d L (k+1) i=Dl d (L.take i) x:=by
 show (match L[i]? with | none=>0 | some x=>if Dl d (L.take i) x≠0 then Dl d (L.take i) x else CF d L k (i+1))=_
 rw [h]; exact Aj hb
theorem Ko {d:Nat} {L:List Sy} {k i:Nat} {x:Sy} (h:L[i]?=some x) (hb:Dl d (L.take i) x=0):CF d L (k+1) i=CF d L k (i+1):=by
 show (match L[i]? with | none=>0 | some x=>if Dl d (L.take i) x≠0 then Dl d (L.take i) x else CF d L k (i+1))=_
 rw [h]; exact Ai (by rw [hb]; simp)
theorem Fz {d:Nat} {L:List Sy}:∀ (k i:Nat),CF d L k i=0→∀ (j:Nat) (x:Sy),i≤j→j < i+k→L[j]?=some x→Dl d (L.take j) x=0
 | 0,i,_,j,x,h1,h2,_=>by omega
 | k+1,i,h,j,x,h1,h2,hx=>by
   have hl:j < L.length:=(Ah.1 hx).1
   have hi:L[i]?=some L[i]:=Ab (by omega)
   by_cases hb:Dl d (L.take i) L[i]=0
   ·rw [Ko hi hb] at h
    by_cases e:i=j
    ·subst e; rw [hi] at hx; injection hx with hx; rw [← hx]; exact hb
    ·exact Fz k (i+1) h j x (by omega) (by omega) hx
   ·rw [DD hi hb] at h; exact absurd h hb
theorem Ht {d:Nat} {p:List Sy} {x:Sy} (h:BG x.nm=false):Dl d p x=8:=by unfold Dl; rw [Aj h]
theorem ID {d:Nat} {p:List Sy} {x:Sy} (h:BG x.nm=true) (h2:p.any (fun y=>y.nm.toList == x.nm.toList)=true):Dl d p x=9:=by
 unfold Dl; rw [Ai (by rw [h]; simp),Aj h2]
theorem IB {d:Nat} {p:List Sy} {x:Sy} (h:BG x.nm=true) (h2:p.any (fun y=>y.nm.toList == x.nm.toList)=false) (h3:Cx x.row≠0):Dl d p x=Cx x.row:=by
 unfold Dl; rw [Ai (by rw [h]; simp),Ai (by rw [h2]; simp),Aj h3]
theorem Hs {d:Nat} {p:List Sy} {x:Sy} (h:BG x.nm=true) (h2:p.any (fun y=>y.nm.toList == x.nm.toList)=false) (h3:Cx x.row=0) (h5:x.row.length≠d):Dl d p x=5:=by
 unfold Dl; rw [Ai (by rw [h]; simp),Ai (by rw [h2]; simp),Ai (by rw [h3]; simp),Aj h5]
theorem OS {d:Nat} {p:List Sy} {x:Sy} (h:BG x.nm=true) (h2:p.any (fun y=>y.nm.toList == x.nm.toList)=false) (h3:Cx x.row=0) (h5:x.row.length=d):Dl d p x=0:=by
 unfold Dl; rw [Ai (by rw [h]; simp),Ai (by rw [h2]; simp),Ai (by rw [h3]; simp),Ai (by rw [h5]; simp)]
theorem FU {xs:List Int} (h:Cx xs=0):xs.length≤64∧∀ x,x ∈ xs→Bi x=true:=by
 unfold Cx at h
 split at h
 ·simp at h
 ·split at h
  ·simp at h
  ·rename_i h1 h2
   refine ⟨by omega,fun x hx=>?_⟩
   exact (by simpa using h2:∀ x,x ∈ xs→Bi x=true) x hx
theorem IC {d:Nat} {p:List Sy} {x:Sy} (h:Dl d p x=0):BG x.nm=true∧p.any (fun y=>y.nm.toList == x.nm.toList)=false∧Cx x.row=0∧x.row.length=d:=by
 unfold Dl at h
 split at h
 ·simp at h
 ·split at h
  ·simp at h
  ·split at h
   ·rename_i h3; exact absurd h h3
   ·split at h
    ·simp at h
    ·rename_i h1 h2 h3 h4
     exact ⟨by simpa using h1,by simpa using h2,De h3,De h4⟩
def Ck (N A:List Sy) (r:Nat):Int :=
 if N.length=0 then 13 else if 60 < N.length∨6 < A.length then 4 else if CF A.length (N ++ A) (N ++ A).length 0≠0 then CF A.length (N ++ A) (N ++ A).length 0 else if r < A.length then 18 else 0
theorem HG (aN aA:Option Addr) (cN cA r:Nat) (N A:List Sy) (w:World) (hG:G w) (hn:DS w aN aA cA N A) (hs:US (N ++ A)) (hNl:N.length≤1000000000) (hAl:A.length≤1000000000)
 (hF:1≤N.length→N.length≤60→A.length≤6→CF A.length (N ++ A) (N ++ A).length 0=0→∃ F,Cg ((A.map Sy.row).map CM) (G6 (A.map Sy.row))=some F∧F.lead.length=r) :
 Calls Tryz.prog 25 #[.agg #[.slice aN N.length cN,.slice aA A.length cA]] w fun e w'=>e=.returned (.int .i64 (Ck N A r))∧Fr w w':=by
 have f0:Fr w (w.alloc (.cells #[.slice aN N.length cN,.slice aA A.length cA] 31)):=(Fr.refl w).alloc _
 by_cases hn1:N.length=0
 ·have hfin:=hZ (show Ck N A r=13 by unfold Ck; rw [Aj hn1])
  have d1:((N.length:Int) == 0)=true:=by rw [hn1]; rfl
  replace f0:=hZ f0
  clear hn hs hG hF
  replace hn1:=hZ hn1
  go_enter Tryz.func25,Tryz.ntmps25
  go_wp2_with fail
  go_ret
  exact ⟨Bk hfin.out.symm,f0.out⟩
 have d1:((N.length:Int) == 0)=false:=Ay (by omega)
 by_cases hn60:60 < N.length
 ·have hfin:=hZ (show Ck N A r=4 by unfold Ck; rw [Ai hn1,Aj (.inl hn60)])
  have d2:decide ((60:Int) < (N.length:Int))=true:=Ac (by omega)
  replace f0:=hZ f0
  clear hn hs hG hF
  replace hn1:=hZ hn1
  go_enter Tryz.func25,Tryz.ntmps25
  go_wp2_with fail
  go_ret
  exact ⟨Bk hfin.out.symm,f0.out⟩
 have d2:decide ((60:Int) < (N.length:Int))=false:=Aa (by omega)
 by_cases ha6:6 < A.length
 ·have hfin:=hZ (show Ck N A r=4 by unfold Ck; rw [Ai hn1,Aj (.inr ha6)])
  have d3:decide ((6:Int) < (A.length:Int))=true:=Ac (by omega)
  replace f0:=hZ f0
  clear hn hs hG hF
  replace hn1:=hZ hn1
  go_enter Tryz.func25,Tryz.ntmps25
  go_wp2_with fail
  go_ret
  exact ⟨Bk hfin.out.symm,f0.out⟩
 have d3:decide ((6:Int) < (A.length:Int))=false:=Aa (by omega)
 have hlen:(N ++ A).length=N.length+A.length:=Ar
 have hE1:CF A.length (N ++ A) (N ++ A).length 0≠0→Ck N A r=CF A.length (N ++ A) (N ++ A).length 0:=fun h=>by unfold Ck; rw [Ai hn1,Ai (by omega),Aj h]
 have hE2:CF A.length (N ++ A) (N ++ A).length 0=0→Ck N A r=if r < A.length then 18 else 0:=fun h=>by unfold Ck; rw [Ai hn1,Ai (by omega),Ai (by rw [h]; simp)]
 have hrank:CF A.length (N ++ A) (N ++ A).length 0=0→∀ (a:Option Addr) (c:Nat) (W:World),Fr w W→BT W a (A.map Sy.row)→Calls Tryz.prog 75 #[.slice a A.length c] W fun e w'=>e=.returned (.tuple #[.int .i64 r,.int .i64 0])∧Fr W w':=fun h0 a c W hW hm=>by
  obtain ⟨F,hF1,hF2⟩:=hF (by omega) (by omega) (by omega) h0
  have hz:=Fz _ _ h0
  have hin:∀ x,x ∈ A→Cx x.row=0∧x.row.length=A.length:=fun x hx=>by
   obtain ⟨j,hj⟩:=AO (He N hx)
   have:=IC (hz j x (Bm _) (by have:=(Ah.1 hj).1; omega) hj)
   exact ⟨this.2.2.1,this.2.2.2⟩
  have hok:Ge (if A.length=0 then 1 else A.length) (A.map Sy.row):=by
   refine ⟨by rw [Am]; omega,by split <;> omega,fun q hq=>?_,fun q hq x hx=>?_⟩
   ·obtain ⟨y,hy,rfl⟩:=Bg.1 hq
    rw [(hin y hy).2]
    split
    ·rename_i h; rw [Gl] at h; rw [h] at hy; cases hy
    ·rfl
   ·obtain ⟨y,hy,rfl⟩:=Bg.1 hq
    exact (FU (hin y hy).1).2 x hx
  have:=UV (A.map Sy.row) a c _ F W (hG.fr hW) hm hok (by split <;> omega) hF1
  rw [hF2,Am] at this
  exact this
 have hacc:=fun W (hW:Fr w W)=>J4 aN aA N.length cN cA A W (hG.fr hW) (hn.accs.fr hW) (by omega)
 replace hn1:0 < N.length:=by omega
 have hcat:∀ W:World,Fr w W→∀ (p c:Nat),p < W.heap.size→W.cell? ⟨p,0,none⟩=some (.slice aN N.length cN)→W.cell? ⟨p,1,none⟩=some (.slice aA A.length cA) →
  Calls Tryz.prog 73 #[.slice (some ⟨p,0,none⟩) 2 c] W (fun e w'=>∃ g cp,e=.returned (.slice (some ⟨g,0,none⟩) (N ++ A).length cp)∧Gn w' (some ⟨g,0,none⟩) (N ++ A)∧W.heap.size≤g∧Fr W w'):=fun W hW p c hp h1 h2=>by
  have hN:=hn.fr hW
  have h:=QO p c aN aA cN cA (N.map Sy.enc) (A.map Sy.enc) W hp (by rw [Am]; exact h1) (by rw [Am]; exact h2) hN.noms.1 hN.accs.1 (fun e=>⟨(hN.nil e).1,by rw [(hN.nil e).2]; rfl⟩) (Sy.one N) (Sy.one A) (by rw [Am,Am]; omega) (by rw [Am]; exact hn1)
  rw [← Aw] at h
  refine h.mono ?_
  rintro e w' ⟨g,cp,rfl,hp',hgW,-,hf⟩
  refine ⟨g,cp,by rw [Am],⟨hp',fun x hx=>?_⟩,hgW,hf⟩
  rcases A5.1 hx with h9 | h9
  ·exact (hN.noms.2 x h9).fr hf
  ·exact (hN.accs.2 x h9).fr hf
 have hEl:∀ x,x ∈ N ++ A→El w iv x.ra x.row:=fun x hx=>by
  rcases A5.1 hx with h9 | h9
  ·exact hn.noms.2 x h9
  ·exact hn.accs.2 x h9
 obtain ⟨T,hT⟩:∃ T,T=(N ++ A).length:=⟨_,rfl⟩
 rw [← hT] at hcat hlen hE1 hE2 hrank
 have hT1:0 < T:=by omega
 have hT2:T≤66:=by omega
 obtain ⟨n,hnn⟩:∃ n,n=N.length:=⟨_,rfl⟩
 obtain ⟨a,han⟩:∃ a,a=A.length:=⟨_,rfl⟩
 rw [← hnn] at hcat hn1 hn60 d1 d2 f0 hacc ⊢
 rw [← han] at hcat ha6 d3 f0 hacc hE1 hE2 hrank ⊢
 generalize Ck N A r=E at *
 generalize A.map Sy.row=M at *
 generalize N ++ A=L at *
 clear hn hlen hnn han hF hG
 obtain ⟨S,hS⟩:∃ S,S=CF a L T 0:=⟨_,rfl⟩
 rw [← hS] at hE1 hE2 hrank
 replace hcat:=hZ hcat
 replace hs:=hZ hs
 replace hT:=hZ hT
 replace hE1:=hZ hE1
 replace hE2:=hZ hE2
 replace hS:=hZ hS
 replace hrank:=hZ hrank
 replace hacc:=hZ hacc
 replace hEl:=hZ hEl
 have hmm:=@run_makeMap Tryz.prog
 go_enter Tryz.func25,Tryz.ntmps25
 go_upto_region 5 with (fail)
 obtain ⟨w0,hw0⟩:∃ w0,w0=w.alloc (.cells #[.slice aN n cN,.slice aA a cA] 31):=⟨_,rfl⟩
 have n0:w0.cell? ⟨w.heap.size,0,none⟩=some (.slice aN n cN):=by rw [hw0]; exact (CZ _ _ _ _).1
 have n1:w0.cell? ⟨w.heap.size,1,none⟩=some (.slice aA a cA):=by rw [hw0]; exact (CY _ _ _ _).1
 have z0s:=hZ (show w0.heap.size=w.heap.size+1 by rw [hw0]; simp)
 rw [← hw0] at f0 ⊢
 clear hw0
 go_upto_region 6 with (fail)
 have hsn0:=C7.nil w0
 obtain ⟨w1,hw1⟩:∃ w1,w1=w0.alloc (.map #[] 0):=⟨_,rfl⟩
 have f1:Fr w0 w1:=by rw [hw1]; exact (Fr.refl _).alloc _
 have z1s:w1.heap.size=w0.heap.size+1:=by rw [hw1]; simp
 rw [← hw1] at hsn0 ⊢
 clear hw1
 have m0:=f1.keep n0
 have m1:=f1.keep n1
 obtain ⟨mb,hmb⟩:∃ mb,mb=w0.heap.size:=⟨_,rfl⟩
 rw [← hmb] at hsn0 z1s ⊢
 rw [z0s.out] at hmb
 obtain ⟨nb,hnb⟩:∃ nb,nb=w.heap.size:=⟨_,rfl⟩
 rw [← hnb] at m0 m1 hmb ⊢
 replace hmb:=hZ hmb
 replace hnb:=hZ hnb
 replace z1s:=hZ z1s
 clear hmm z0s n0 n1
 go_wp2_with fail
 have p1:=CZ w1 (.slice aN n cN) (.slice aA a cA) 29
 have p2:=CY w1 (.slice aN n cN) (.slice aA a cA) 29
 refine (hcat.out _ ((f0.trans f1).alloc _) w1.heap.size 2 (by simp) p1.1 p2.1).mono ?_
 rintro e w2 ⟨g,cp,rfl,hsy,hgW,hf1⟩
 rw [AK] at hgW
 have hfb:Fr w1 w2:=((Fr.refl w1).alloc _).trans hf1
 have hf:Fr w w2:=(f0.trans f1).trans hfb
 replace hsn0:=hsn0.fr hfb
 have k0:=hfb.keep m0
 have k1:=hfb.keep m1
 have hgm:g≠mb:=by have:=z1s.out; omega
 have hnm:nb≠mb:=by have:=hmb.out; omega
 have hFW:Hid (∀ W,Fx (·=mb) w2 W→Fr w W):=fun W h=>((Fx.of_fr hf).trans h).toFr (fun k hk e=>by have e:k=mb:=e; have:=hmb.out; have:=hnb.out; omega)
 clear p1 p2 hcat hf1 m0 m1 hgW f0 f1 hfb hf
 replace hsy:=hZ hsy
 go_wp2_with fail
 go_loopg [31] T (fun gk s31 wr=>∃ i:Nat,s31=.int .i64 i∧i+gk=T∧Hid (CF a L gk i=S)∧Fx (·=mb) w2 wr∧Hid (C7 wr mb ((L.take i).map Sy.nm)))
 case atStart=>exact ⟨0,rfl,by omega,hS.out.symm,Fx.refl _ _,hsn0⟩
 case round=>
  clear hsn0
  obtain ⟨i,rfl,hik,hsc,hfx,hsn⟩:=hrel
  have hFr:=hFW.out wr hfx
  replace k0:=hfx.keep k0 hnm
  replace k1:=hfx.keep k1 hnm
  by_cases hi:i < T
  ·have hdI:decide (i < T)=true:=Ac hi
   obtain ⟨b,o,x,hae,hbl,hxi,hc1,hc2,-⟩:=hsy.out.at (i:=i) (by rw [← hT.out]; exact hi)
   injection hae with hae; injection hae with h1 h2
   subst h1; subst h2
   replace hc1:=hfx.keep hc1 hgm
   replace hc2:=hfx.keep hc2 hgm
   have hmem:x ∈ L:=Ae hxi
   have hel:=hEl.out x hmem
   obtain ⟨hnl,hrl⟩:=hs.out x hmem
   have hN:=Jo x.nm
   have hck:=fun W (hW:Fr w W)=>Df x.row x.ra x.rc W (hel.fr hW) hrl
   have hlk:((L.take i).map Sy.nm).length≤1000000:=by rw [Am,AG]; omega
   have hcd:((L.take i).map Sy.nm).any (fun y=>y.toList == x.nm.toList)=(L.take i).any (fun y=>y.nm.toList == x.nm.toList):=by rw [List.any_map]; rfl
   have hsn9:(L.take (i+1)).map Sy.nm=(L.take i).map Sy.nm ++ [x.nm]:=by rw [Bx hxi,Aw]; rfl
   obtain ⟨j1,rfl⟩:∃ j1,gk=j1+1:=⟨gk - 1,by omega⟩
   have eN:=fun (h:BG x.nm=false)=>(DD (k:=j1) hxi (by rw [Ht h]; simp)).symm.trans hsc.out |>.symm.trans (Ht (d:=a) (p:=L.take i) h)
   have eD:=fun (h:BG x.nm=true) h2=>(DD (k:=j1) hxi (by rw [ID h h2]; simp)).symm.trans hsc.out |>.symm.trans (ID (d:=a) (p:=L.take i) h h2)
   have eR:=fun (h:BG x.nm=true) h2 h3=>(DD (k:=j1) hxi (by rw [IB h h2 h3]; exact h3)).symm.trans hsc.out |>.symm.trans (IB (d:=a) (p:=L.take i) h h2 h3)
   have eS:=fun (h:BG x.nm=true) h2 h3 h5=>(DD (k:=j1) hxi (by rw [Hs h h2 h3 h5]; simp)).symm.trans hsc.out |>.symm.trans (Hs (d:=a) (p:=L.take i) h h2 h3 h5)
   have eO:=fun (h:BG x.nm=true) h2 h3 h5=>(Ko (k:=j1) hxi (OS (d:=a) (p:=L.take i) h h2 h3 h5)).symm.trans hsc.out
   have hE1':=fun (h:S≠0)=>hE1.out h
   clear hsc hxi hmem hel
   replace hN:=hZ hN
   replace hck:=hZ hck
   replace hcd:=hZ hcd
   replace hsn9:=hZ hsn9
   replace eN:=hZ eN
   replace eD:=hZ eD
   replace eR:=hZ eR
   replace eS:=hZ eS
   replace eO:=hZ eO
   replace hE1':=hZ hE1'
   generalize (L.take i).map Sy.nm=NM at *
   generalize (L.take i).any (fun y=>y.nm.toList == x.nm.toList)=bD at *
   generalize BG x.nm=bN at *
   generalize Cx x.row=bR at *
   generalize x.row.length=d at *
   generalize x.nm=nm at *
   generalize x.ra=ra at *
   generalize x.rc=rc at *
   rw [Az] at hc1 hc2
   have y1:(i:Int) < (T:Int):=by omega
   have y2:(0:Int)≤(i:Int):=by omega
   obtain ⟨wo,rfl⟩:∃ wo:World,wo=wr:=⟨_,rfl⟩
   go_upto_region 9 with (fail)
   obtain ⟨w3,hw3⟩:∃ w3,w3=wo.alloc (.cells #[.string nm,.slice ra d rc] 46):=⟨_,rfl⟩
   have f3:Fr wo w3:=by rw [hw3]; exact (Fr.refl _).alloc _
   have a1:w3.cell? ⟨wo.heap.size,0,none⟩=some (.string nm):=by rw [hw3]; exact (CZ _ _ _ _).1
   have a2:w3.cell? ⟨wo.heap.size,1,none⟩=some (.slice ra d rc):=by rw [hw3]; exact (CY _ _ _ _).1
   rw [← hw3]
   clear hw3 hc1 hc2
   have hsn3:=hZ (hsn.out.fr f3)
   have hpm:wo.heap.size≠mb:=by have:=hsn.out.lt; omega
   replace k1:=f3.keep k1
   replace k0:=f3.keep k0
   obtain ⟨xb,hxb⟩:∃ xb,xb=wo.heap.size:=⟨_,rfl⟩
   rw [← hxb] at a1 a2 hpm ⊢
   clear hxb
   go_wp2_with fail
   refine (hN.out _ hnl).mono ?_
   rintro e w9 ⟨rfl,rfl⟩
   cases bN with
   | false=>
     have hS8:=eN.out (by trivial)
     have hfin:=hZ ((hE1'.out (by rw [hS8]; simp)).trans hS8)
     clear hS8
     go_wp2_with fail
     go_ret
     exact ⟨Bk hfin.out.symm,hFr.trans f3⟩
   | true=>
   cases bD with
   | true=>
     have hS8:=eD.out (by trivial) (by trivial)
     have hfin:=hZ ((hE1'.out (by rw [hS8]; simp)).trans hS8)
     clear hS8
     go_wp2_with (at_lookup; refine Gq _ mb NM nm true rfl _ _ rfl (by rfl) (by rfl) hsn3.out (by unfold maxLen; omega) hcd.out ?_)
     go_ret
     exact ⟨Bk hfin.out.symm,hFr.trans f3⟩
   | false=>
   go_wp2_with (first
    | (at_lookup; refine Gq _ mb NM nm false rfl _ _ rfl (by rfl) (by rfl) hsn3.out (by unfold maxLen; omega) hcd.out ?_)
    | (at_mapUpdate; refine Lg _ mb NM nm rfl _ _ _ rfl (by rfl) (by rfl) (by rfl) hsn3.out hlk (by unfold maxLen; omega) ?_; intro w4 hsn4 hfx4; have a3:=hfx4.keep a2 hpm; have k3:=hfx4.keep k1 hnm; replace hsn4:=hZ hsn4; have hfx5:=(hfx.fr f3).trans hfx4; have hFr4:=hFW.out _ hfx5))
   refine (hck.out _ hFr4).mono ?_
   rintro e w5 ⟨rfl,hf5⟩
   have a4:=hf5.keep a3
   have k4:=hf5.keep k3
   have hFr5:=hFr4.trans hf5
   clear hck hN a1 a2 a3 k0 k1 k3 hsn hsn3 hFr4
   by_cases h3:bR≠0
   ·have q1:(bR != 0)=true:=by rw [Bl]; exact h3
    have hS8:=eR.out (by trivial) (by trivial) h3
    have hfin:=hZ ((hE1'.out (by rw [hS8]; exact h3)).trans hS8)
    clear hS8
    go_wp2_with fail
    go_ret
    exact ⟨Bk hfin.out.symm,hFr5⟩
   replace h3:bR=0:=De h3
   have q1:(bR != 0)=false:=by rw [h3]; rfl
   replace h3:=hZ h3
   by_cases h5:d≠a
   ·have q3:((d:Int) != (a:Int))=true:=by rw [Bl]; omega
    have hS8:=eS.out (by trivial) (by trivial) h3.out h5
    have hfin:=hZ ((hE1'.out (by rw [hS8]; simp)).trans hS8)
    clear hS8
    go_wp2_with fail
    go_ret
    exact ⟨Bk hfin.out.symm,hFr5⟩
   replace h5:d=a:=De h5
   have q3:((d:Int) != (a:Int))=false:=by rw [h5]; simp
   have hO:=hZ (eO.out (by trivial) (by trivial) h3.out h5)
   clear eN eD eR eS eO
   replace h5:=hZ h5
   go_wp2_with fail
   go_roundg j1
   case measure=>omega
   case rel=>exact ⟨i+1,by go_num,by omega,hO,hfx5.fr hf5,by show C7 _ _ _; rw [hsn9.out]; exact hsn4.out.fr hf5⟩
  ·have hdI:decide (i < T)=false:=Aa hi
   obtain rfl:gk=0:=by omega
   have hS0:S=0:=hsc.out.symm
   have hfin:=hE2.out hS0
   have hrk:=hrank.out hS0
   clear hE1 hE2 hrank hsc hsn hsy
   replace hfin:=hZ hfin
   replace hrk:=hZ hrk
   replace hS0:=hZ hS0
   go_wp2_with fail
   refine (hacc.out _ hFr).mono ?_
   rintro e w3 ⟨ra,rc,rfl,hma,hf3⟩
   have k2:=hf3.keep k1
   go_wp2_with fail
   refine (hrk.out ra rc _ (hFr.trans hf3) hma).mono ?_
   rintro e w4 ⟨rfl,hf4⟩
   have k3:=hf4.keep k2
   have hfr4:=(hFr.trans hf3).trans hf4
   by_cases hra:r < a
   ·have q1:decide (r < a)=true:=Ac hra
    go_wp2_with fail
    go_ret
    exact ⟨Bk (by rw [hfin.out,Aj hra]),hfr4⟩
   ·have q1:decide (r < a)=false:=Aa hra
    go_wp2_with fail
    go_ret
    exact ⟨Bk (by rw [hfin.out,Ai hra]),hfr4⟩
theorem LZ (l:List (Value×Value)) (x:Value×Value):Ch (l ++ [x])=Ch l ++ [x.1,x.2]:=by rw [Hy]; rfl
structure Ds (w:World) (base:Nat) (v:Value) (n:Nat) (L:List Sy):Prop where
 len:n=L.length
 own:w.ownsRow base 46 2 v n (Ch (L.map Sy.enc))
 row:∀ x,x ∈ L→∃ g,x.ra=some ⟨g,0,none⟩∧base≤g∧g < w.heap.size∧v.ownBlock≠some g∧El w iv x.ra x.row
theorem Ds.nil (w:World) (base:Nat):Ds w base (.slice none 0 0) 0 []:=⟨rfl,A6 _ _ _ _,fun x hx=>by cases hx⟩
theorem Ds.fx {p:Nat→Prop} {w w':World} {base:Nat} {v:Value} {n:Nat} {L:List Sy} (h:Ds w base v n L) (k:Fx p w w') (hp:∀ j,base≤j→¬ p j):Ds w' base v n L :=
 ⟨h.len,BM h.own k (fun g e=>hp g (h.own.lt g e).1),fun x hx=>by
  obtain ⟨g,e,h1,h2,h3,h4⟩:=h.row x hx
  rw [e] at h4
  exact ⟨g,e,h1,An h2 k.size,h3,by rw [e]; exact h4.fx k (hp g h1)⟩⟩
theorem Ds.fr {w w':World} {base:Nat} {v:Value} {n:Nat} {L:List Sy} (h:Ds w base v n L) (k:Fr w w'):Ds w' base v n L :=
 h.fx (p:=fun _=>False) (Fx.of_fr k) (fun _ _ e=>e)
theorem Ds.push {w w':World} {base:Nat} {v v':Value} {n:Nat} {L:List Sy} (h:Ds w base v n L) {x:Sy} {g:Nat} (he:x.ra=some ⟨g,0,none⟩) (hb:base≤g) (hl:g < w.heap.size) (hv:v.ownBlock≠some g) (hel:El w iv x.ra x.row)
 (hown:w'.ownsRow base 46 2 v' (n+1) (Ch (L.map Sy.enc) ++ [x.enc.1,x.enc.2])) (hg:w.grownBy w' v.ownBlock) (hat:v.ownBlock=v'.ownBlock∨∀ k,v'.ownBlock=some k→w.heap.size≤k):Ds w' base v' (n+1) (L ++ [x]):=by
 have hfx:=Fx.of_grown hg
 have key:∀ (y:Sy) (g:Nat),y.ra=some ⟨g,0,none⟩→base≤g→g < w.heap.size→v.ownBlock≠some g→El w iv y.ra y.row→∃ g,y.ra=some ⟨g,0,none⟩∧base≤g∧g < w'.heap.size∧v'.ownBlock≠some g∧El w' iv y.ra y.row:=fun y g e h1 h2 h3 h4=>by
  rw [e] at h4
  refine ⟨g,e,h1,An h2 hfx.size,fun e2=>?_,by rw [e]; exact h4.fx hfx (fun e2=>h3 e2)⟩
  rcases hat with h9 | h9
  ·rw [h9] at h3; exact h3 e2
  ·have:=h9 g e2; omega
 refine ⟨by rw [Ar,← h.len]; rfl,by rw [Aw,List.map_singleton,LZ]; exact hown,fun y hy=>?_⟩
 rcases A5.1 hy with h9 | h9
 ·obtain ⟨g',e,h1,h2,h3,h4⟩:=h.row y h9
  exact key y g' e h1 h2 h3 h4
 ·rw [Bo] at h9
  subst h9
  exact key y g he hb hl hv hel
theorem Ds.syms {w:World} {base:Nat} {v:Value} {n:Nat} {L:List Sy} (h:Ds w base v n L):∃ a c,v=.slice a n c∧Gn w a L∧(a=none→c=0∧L=[]):=by
 have hel:∀ x,x ∈ L→El w iv x.ra x.row:=fun x hx=>by
  obtain ⟨g,e,h1,h2,h3,h4⟩:=h.row x hx
  exact h4
 rcases h.own.2 with ⟨h1,h2⟩ | ⟨g,cap,cur,hv,_⟩
 ·have e:L=[]:=AD (by rw [← h.len]; exact h2)
  subst e
  subst h2
  exact ⟨none,0,h1,⟨.inl rfl,hel⟩,fun _=>⟨rfl,rfl⟩⟩
 ·subst hv
  exact ⟨_,_,rfl,⟨(D5 h.own).1,hel⟩,fun e=>by cases e⟩
theorem Ds.lit {w:World} {base:Nat} {x:Sy} {g:Nat} (hb:base≤w.heap.size) (he:x.ra=some ⟨g,0,none⟩) (hg:base≤g) (hl:g < w.heap.size) (hel:El w iv x.ra x.row):Ds (w.alloc (.cells #[x.enc.1,x.enc.2] 46)) base (.slice (some ⟨w.heap.size,0,none⟩) 1 1) 1 [x] :=
 ⟨rfl,EV w #[x.enc.1,x.enc.2] 1 hb (by decide) rfl,fun y hy=>by
  rw [Bo] at hy
  subst hy
  refine ⟨g,he,hg,by rw [AK]; omega,fun e=>?_,hel.fr ((Fr.refl _).alloc _)⟩
  have e:some w.heap.size=some g:=e
  injection e with e
  omega⟩
theorem El.one' (w:World) (x:Int) (t:TypeId):El (w.alloc (.cells #[.int .i64 x] t)) iv (some ⟨w.heap.size,0,none⟩) [x] :=
 .inr ⟨_,0,rfl,by rw [AK]; omega,fun i y hy=>by
  match i,hy with
  | 0,hy=>simp at hy; subst hy; exact D6 _ _ _
  | i+1,hy=>simp at hy⟩
theorem El.two' (w:World) (x y:Int) (t:TypeId):El (w.alloc (.cells #[.int .i64 x,.int .i64 y] t)) iv (some ⟨w.heap.size,0,none⟩) [x,y] :=
 .inr ⟨_,0,rfl,by rw [AK]; omega,fun i z hz=>by
  match i,hz with
  | 0,hz=>simp at hz; subst hz; exact (CZ w _ _ t).1
  | 1,hz=>simp at hz; subst hz; exact (CY w _ _ t).1
  | i+2,hz=>simp at hz⟩
structure HE (w:World) (r:Nat) (v u:Value):Prop where
 a0:w.cell? ⟨r,0,none⟩=some (.slice none 0 0)
 a1:w.cell? ⟨r,1,none⟩=some (.slice none 0 0)
 fa0:w.frozen? ⟨r,0,none⟩=false
 fa1:w.frozen? ⟨r,1,none⟩=false
 b0:w.cell? ⟨r+1,0,none⟩=some v
 b1:w.cell? ⟨r+1,1,none⟩=some u
 fb0:w.frozen? ⟨r+1,0,none⟩=false
 fb1:w.frozen? ⟨r+1,1,none⟩=false
theorem HE.fx {p:Nat→Prop} {w w':World} {r:Nat} {v u:Value} (h:HE w r v u) (k:Fx p w w') (h1:¬ p r) (h2:¬ p (r+1)):HE w' r v u :=
 ⟨k.keep h.a0 h1,k.keep h.a1 h1,k.keepf h.a0 h.fa0 h1,k.keepf h.a1 h.fa1 h1,k.keep h.b0 h2,k.keep h.b1 h2,k.keepf h.b0 h.fb0 h2,k.keepf h.b1 h.fb1 h2⟩
theorem HE.fr {w w':World} {r:Nat} {v u:Value} (h:HE w r v u) (k:Fr w w'):HE w' r v u:=h.fx (p:=fun _=>False) (Fx.of_fr k) (fun e=>e) (fun e=>e)
theorem HE.new (w:World) (t:TypeId):HE ((w.alloc (.cells #[.slice none 0 0,.slice none 0 0] t)).alloc (.cells #[.slice none 0 0,.slice none 0 0] t)) w.heap.size (.slice none 0 0) (.slice none 0 0):=by
 have hf:Fr (w.alloc (.cells #[.slice none 0 0,.slice none 0 0] t)) ((w.alloc (.cells #[.slice none 0 0,.slice none 0 0] t)).alloc (.cells #[.slice none 0 0,.slice none 0 0] t)):=(Fr.refl _).alloc _
 have p1:=CZ w (.slice none 0 0) (.slice none 0 0) t
 have p2:=CY w (.slice none 0 0) (.slice none 0 0) t
 have p3:=CZ (w.alloc (.cells #[.slice none 0 0,.slice none 0 0] t)) (.slice none 0 0) (.slice none 0 0) t
 have p4:=CY (w.alloc (.cells #[.slice none 0 0,.slice none 0 0] t)) (.slice none 0 0) (.slice none 0 0) t
 rw [AK] at p3 p4
 exact ⟨hf.keep p1.1,hf.keep p2.1,hf.keepf p1.1 p1.2,hf.keepf p2.1 p2.2,p3.1,p4.1,p3.2,p4.2⟩
theorem HE.set0 {w:World} {r:Nat} {v u:Value} (h:HE w r v u) (v':Value):HE (w.setCell ⟨r+1,0,none⟩ v') r v' u:=by
 have hfx:Fx (·=r+1) w (w.setCell ⟨r+1,0,none⟩ v'):=Fx.setCell (p:=(·=r+1)) (q:=⟨r+1,0,none⟩) (Fx.refl _ w) (.inl rfl) _
 have ne:r≠r+1:=by omega
 refine ⟨hfx.keep h.a0 ne,hfx.keep h.a1 ne,hfx.keepf h.a0 h.fa0 ne,hfx.keepf h.a1 h.fa1 ne,Aq _ _ _ (by rw [h.b0]; rfl), ?_,by rw [Ap]; exact h.fb0,by rw [Ap]; exact h.fb1⟩
 rw [Ad _ _ _ _ (fun e=>by injection e with _ e; omega)]; exact h.b1
theorem HE.set1 {w:World} {r:Nat} {v u:Value} (h:HE w r v u) (u':Value):HE (w.setCell ⟨r+1,1,none⟩ u') r v u':=by
 have hfx:Fx (·=r+1) w (w.setCell ⟨r+1,1,none⟩ u'):=Fx.setCell (p:=(·=r+1)) (q:=⟨r+1,1,none⟩) (Fx.refl _ w) (.inl rfl) _
 have ne:r≠r+1:=by omega
 refine ⟨hfx.keep h.a0 ne,hfx.keep h.a1 ne,hfx.keepf h.a0 h.fa0 ne,hfx.keepf h.a1 h.fa1 ne, ?_,Aq _ _ _ (by rw [h.b1]; rfl),by rw [Ap]; exact h.fb0,by rw [Ap]; exact h.fb1⟩
 rw [Ad _ _ _ _ (fun e=>by injection e with _ e; omega)]; exact h.b0
abbrev X6:ByteArray→Value:=fun s=>.string s
def Cd (L:List Sy):List (ByteArray×List Int):=L.map fun x=>(x.nm,x.row)
theorem C0 (L:List Sy):(Cd L).length=L.length:=Am _
def MH (names:List ByteArray):List (ByteArray×List Int):=names.mapIdx fun i s=>(s,[(i:Int)])
theorem Pg {names:List ByteArray} {i:Nat} {s:ByteArray} (h:names[i]?=some s):(MH names)[i]?=some (s,[(i:Int)]):=by
 unfold MH; rw [HQ,h]; rfl
theorem Pf (names:List ByteArray):(MH names).length=names.length:=QT
theorem OP {w:World} {base:Nat} {e:TypeId} {size:Nat} {a:Option Addr} {n c m:Nat} {xs:List Value} (h:w.ownsRow base e size (.slice a n c) m xs):n≤c:=by
 rcases h.2 with ⟨hv,-⟩ | ⟨g,cap,cur,hv,h2⟩
 ·injection hv with _ h1 h2; omega
 ·injection hv with h1 h3 h4
  subst h1; subst h4
  exact (Bf h).2.2.2.1
def WV (w:World) (SN SA:List (ByteArray×List Int)) (r:Nat) (e:Ending) (w':World):Prop :=
 ∃ (N A:List Sy) (aN:Option Addr) (cN:Nat) (aA:Option Addr) (cA:Nat),Cd N=SN∧Cd A=SA∧DS w' aN aA cA N A∧((aN=none→cN=0)∧N.length≤cN)∧Fr w w' ∧
   e=.returned (.tuple #[if Ck N A r=0 then .agg #[.slice aN N.length cN,.slice aA A.length cA] else .agg #[.slice none 0 0,.slice none 0 0],.int .i64 (Ck N A r)])
theorem Gd {L:List Sy} {S:List (ByteArray×List Int)} (h:Cd L=S) {x:Sy} (hx:x ∈ L):(x.nm,x.row) ∈ S:=by
 rw [← h]; exact Bg.2 ⟨x,hx,rfl⟩
theorem M7 (n:Nat) (h1:1≤n) (h2:n≤60):∃ F,Cg [[((n:Int):Rat)]] 1=some F∧F.lead.length=1:=by
 have key:∀ i:Fin 60,(Cg [[(((i.val+1:Nat):Int):Rat)]] 1).map (fun F=>F.lead.length)=some 1:=by decide +kernel
 have:=key ⟨n - 1,by omega⟩
 rw [show n - 1+1=n by omega] at this
 exact AV.1 this
theorem PF (names:List ByteArray) (a:Option Addr) (c:Nat) (oct:ByteArray) (w:World) (hG:G w) (hx:El w X6 a names) (hl:names.length≤1000000) (hs:∀ s,s ∈ names→s.size≤1000000000) (ho:oct.size≤1000000000) :
 Calls Tryz.prog 53 #[.slice a names.length c,.string oct] w (WV w (MH names) [(oct,[(names.length:Int)])] 1):=by
 have hgn:=CS hG
 obtain ⟨i1,ji,jz0,jz1,jz2⟩:=AQ JK
 obtain ⟨n,hn⟩:∃ n,n=names.length:=⟨_,rfl⟩
 rw [← hn] at hl ⊢
 have hGf:=hZ (fun W (hW:Fr w W)=>hG.fr hW)
 replace hn:=hZ hn
 replace hx:=hZ hx
 replace hs:=hZ hs
 clear hG
 obtain ⟨w1,hw1⟩:∃ w1,w1=(w.alloc (.cells #[.slice none 0 0,.slice none 0 0] 31)).alloc (.cells #[.slice none 0 0,.slice none 0 0] 31):=⟨_,rfl⟩
 have ht0:HE w1 w.heap.size (.slice none 0 0) (.slice none 0 0):=by rw [hw1]; exact HE.new w _
 have hf0:Fr w w1:=by rw [hw1]; exact ((Fr.refl _).alloc _).alloc _
 have hz1:w.heap.size+2≤w1.heap.size:=by rw [hw1]; simp
 replace ht0:=hZ ht0
 go_enter Tryz.func53,Tryz.ntmps53
 go_upto_region 2 with (fail)
 rw [← hw1]
 clear hw1
 go_wp2_with fail
 go_loopg [12] n (fun k Vr wr=>∃ (i:Nat) (L:List Sy) (v:Value),Vr=.int .i64 i∧i+k=n∧Fr w wr∧w.heap.size+2≤wr.heap.size∧Hid (HE wr w.heap.size v (.slice none 0 0))∧Hid (Ds wr (w.heap.size+2) v i L)∧Hid (Cd L=(MH names).take i))
 case atStart=>exact ⟨0,[],_,rfl,by omega,hf0,hz1,ht0.out,Ds.nil _ _,rfl⟩
 case round=>
  clear hf0 hz1 ht0
  obtain ⟨i,L,v,rfl,hik,hf,hz,htw,hsy,hba⟩:=hrel
  by_cases hi:i < n
  ·have hdI:decide (i < n)=true:=Ac hi
   obtain ⟨b,o,s,rfl,hbl,hxi,hcell⟩:=(hx.out.fr hf).at (i:=i) (by rw [← hn.out]; exact hi)
   have hsn:=hZ (Bx (Pg hxi))
   replace hxi:=hZ hxi
   have z0:(0:Int)≤(i:Int):=Af _
   have z1:(i:Int) < (n:Int):=by omega
   have b0:=htw.out.b0
   have hfa:Fr wr ((wr.alloc (.cells #[.int .i64 i] 3)).alloc (.cells #[.string s,.slice (some ⟨wr.heap.size,0,none⟩) 1 1] 46)):=((Fr.refl _).alloc _).alloc _
   have hsy2:=hsy.out.fr hfa
   have hownG:=hsy2.own
   have htwA:∀ wA:World,((wr.alloc (.cells #[.int .i64 i] 3)).alloc (.cells #[.string s,.slice (some ⟨wr.heap.size,0,none⟩) 1 1] 46)).grownBy wA v.ownBlock→HE wA w.heap.size v (.slice none 0 0):=fun wA hg=>
    (htw.out.fr hfa).fx (Fx.of_grown hg) (fun e=>by have:=(hsy2.own.lt _ e).1; omega) (fun e=>by have:=(hsy2.own.lt _ e).1; omega)
   have hel:El ((wr.alloc (.cells #[.int .i64 i] 3)).alloc (.cells #[.string s,.slice (some ⟨wr.heap.size,0,none⟩) 1 1] 46)) iv (some ⟨wr.heap.size,0,none⟩) [(i:Int)]:=(El.one' wr i 3).fr ((Fr.refl _).alloc _)
   have hcs:=FW (wr.alloc (.cells #[.int .i64 i] 3)) (.string s) (.slice (some ⟨wr.heap.size,0,none⟩) 1 1) 46 (wr.heap.size+1) (by simp)
   have hvn:v.ownBlock≠some wr.heap.size:=fun e=>by have:=(hsy.out.own.lt _ e).2; omega
   replace hsy2:=hZ hsy2
   replace htwA:=hZ htwA
   replace hcs:=hZ hcs
   replace hel:=hZ hel
   go_wp2_with (at_builtin; refine At _ rfl _ _ 29 (by rfl) _ 46 _ _ 2 40 Tryz.underlying29 ji jz0 jz1 jz2 rfl (by decide) _ i _ (by rfl) hownG ⟨wr.heap.size+1,0,none⟩ 1 1 [.string s,.slice (some ⟨wr.heap.size,0,none⟩) 1 1] (by rfl) rfl hcs.out (by simp [Value.oneCell']) (by decide) (by unfold maxLen; omega) (by omega) (by simp; omega) (wr.heap.size+2) (by simp) ?_; intro gA capA wA hownA hgrowA hatA hltA; have htw3:=htwA.out wA hgrowA; have hb3:=htw3.b0; have hfb3:=htw3.fb0; replace htw3:=hZ htw3; replace hownA:=hZ hownA)
   have hpush:=hsy2.out.push (x:=⟨s,[(i:Int)],some ⟨wr.heap.size,0,none⟩,1⟩) rfl (by omega) (by simp; omega) hvn hel.out hownA.out hgrowA (hatA.imp id (fun e k hk=>by have hk:some gA=some k:=hk; injection hk with hk; rw [← hk,e]; simp))
   have htw4:=htw3.out.set0 (.slice (some ⟨gA,0,none⟩) (i+1) capA)
   have hfx9:Fx (·=w.heap.size+1) wA (wA.setCell ⟨w.heap.size+1,0,none⟩ (.slice (some ⟨gA,0,none⟩) (i+1) capA)):=Fx.setCell (p:=(·=w.heap.size+1)) (q:=⟨w.heap.size+1,0,none⟩) (Fx.refl _ wA) (.inl rfl) _
   have hpush2:=hpush.fx hfx9 (fun j hj e=>by have e:j=w.heap.size+1:=e; omega)
   have hfrA:Fr w wA:=(hf.trans hfa).grown hgrowA (fun k e=>by have:=(hsy.out.own.lt k e).1; omega)
   have hfr9:Fr w (wA.setCell ⟨w.heap.size+1,0,none⟩ (.slice (some ⟨gA,0,none⟩) (i+1) capA)):=hfrA.setCell (p:=⟨w.heap.size+1,0,none⟩) (by simp) _
   have hszA:=hgrowA.size
   go_wp2_with fail
   go_roundg (gk - 1)
   case measure=>omega
   case rel=>exact ⟨i+1,_,_,by go_num,by omega,hfr9,by simp at hszA ⊢; omega,htw4,hpush2,by show Cd _=_; rw [hsn.out,← hba.out]; unfold Cd; rw [Aw]; rfl⟩
  ·have hdI:decide (i < n)=false:=Aa hi
   obtain rfl:n=i:=by omega
   have hba9:Hid (Cd L=MH names):=by
    have:=hba.out
    rw [Ak (by rw [Pf,← hn.out]; exact Ag _)] at this
    exact this
   have hLn:n=L.length:=hsy.out.len
   obtain ⟨aN,cN,rfl,-,-⟩:=hsy.out.syms
   have hmem:∀ x,x ∈ L→x.nm.size≤1000000000∧x.row.length≤1000000000:=fun x hx9=>by
    have:=Gd hba9.out hx9
    obtain ⟨i,hi,e⟩:=Dn this
    have hi2:i < names.length:=by rw [Pf] at hi; exact hi
    have e2:=Pg (Ab hi2)
    rw [Ab hi,e] at e2
    injection e2 with e2
    injection e2 with e2 e3
    exact ⟨by rw [e2]; exact hs.out _ (A8 hi2),by rw [e3]; simp⟩
   obtain ⟨xo,hxo⟩:∃ xo:Sy,xo=⟨oct,[(n:Int)],some ⟨wr.heap.size,0,none⟩,1⟩:=⟨_,rfl⟩
   have hfa1:Fr wr (wr.alloc (.cells #[.int .i64 n] 3)):=(Fr.refl _).alloc _
   have hfa:Fr wr ((wr.alloc (.cells #[.int .i64 n] 3)).alloc (.cells #[.string oct,.slice (some ⟨wr.heap.size,0,none⟩) 1 1] 46)):=((Fr.refl _).alloc _).alloc _
   have hlit:Ds ((wr.alloc (.cells #[.int .i64 n] 3)).alloc (.cells #[.string oct,.slice (some ⟨wr.heap.size,0,none⟩) 1 1] 46)) (w.heap.size+2) (.slice (some ⟨wr.heap.size+1,0,none⟩) 1 1) 1 [xo]:=by
    have:=Ds.lit (w:=wr.alloc (.cells #[.int .i64 n] 3)) (base:=w.heap.size+2) (x:=xo) (g:=wr.heap.size) (by simp; omega) (by rw [hxo]) (by omega) (by simp) (by rw [hxo]; exact El.one' wr n 3)
    rw [AK] at this
    rw [hxo] at this ⊢
    exact this
   have htw2:=htw.out.fr hfa
   have hsy2:=hsy.out.fr hfa
   obtain ⟨-,-,-,-,-,t5,-,t7⟩:=htw2
   have hz3:((wr.alloc (.cells #[.int .i64 n] 3)).alloc (.cells #[.string oct,.slice (some ⟨wr.heap.size,0,none⟩) 1 1] 46)).heap.size=wr.heap.size+2:=by simp
   have hw5s:=htw.out.fr hfa
   replace hfa:=hZ hfa
   replace hz3:=hZ hz3
   replace hw5s:=hZ hw5s
   replace hmem:=hZ hmem
   replace hsy2:=hZ hsy2
   replace hlit:=hZ hlit
   replace hxo:=hZ hxo
   replace hLn:=hZ hLn
   go_upto_region 8 with (fail)
   obtain ⟨W3,hW3⟩:∃ W3,W3=(wr.alloc (.cells #[.int .i64 n] 3)).alloc (.cells #[.string oct,.slice (some ⟨wr.heap.size,0,none⟩) 1 1] 46):=⟨_,rfl⟩
   rw [← hW3] at hfa hlit hsy2 hz3 hw5s t5 t7 ⊢
   clear hW3
   obtain ⟨W4,hW4⟩:∃ W4,W4=W3.setCell ⟨w.heap.size+1,1,none⟩ (.slice (some ⟨wr.heap.size+1,0,none⟩) 1 1):=⟨_,rfl⟩
   have hfx4:Fx (·=w.heap.size+1) W3 W4:=by rw [hW4]; exact Fx.setCell (p:=(·=w.heap.size+1)) (q:=⟨w.heap.size+1,1,none⟩) (Fx.refl _ W3) (.inl rfl) _
   have htw4:HE W4 w.heap.size (.slice aN n cN) (.slice (some ⟨wr.heap.size+1,0,none⟩) 1 1):=by rw [hW4]; exact hw5s.out.set1 _
   have hfr4:Fr w W4:=by rw [hW4]; exact (hf.trans hfa.out).setCell (p:=⟨w.heap.size+1,1,none⟩) (by simp) _
   rw [← hW4]
   clear hW4 t5 t7
   have hso1:=hZ (hsy2.out.fx hfx4 (fun j hj e=>by have e:j=w.heap.size+1:=e; omega))
   have hso2:=hZ (hlit.out.fx hfx4 (fun j hj e=>by have e:j=w.heap.size+1:=e; omega))
   obtain ⟨aN2,cN2,e9,hs1,hs2⟩:=hso1.out.syms
   injection e9 with e9 e10 e11
   subst e9; subst e11
   obtain ⟨aA2,cA2,e9,hs3,hs4⟩:=hso2.out.syms
   injection e9 with e9 e10 e11
   subst e9; subst e11
   obtain ⟨A,hA⟩:∃ A,A=[xo]:=⟨_,rfl⟩
   have hA1:A.length=1:=by rw [hA]; rfl
   rw [← hA] at hs3 hs4 hso2
   have hnot:DS W4 aN (some ⟨wr.heap.size+1,0,none⟩) 1 L A:=⟨hs1,hs3,fun e=>by cases e⟩
   have hbA:Cd A=[(oct,[(n:Int)])]:=by rw [hA]; unfold Cd; rw [hxo.out]; rfl
   have hck:=HG aN (some ⟨wr.heap.size+1,0,none⟩) cN 1 1 L A W4 (hGf.out _ hfr4) hnot (fun x hx9=>by
    rcases A5.1 hx9 with h9 | h9
    ·exact hmem.out x h9
    ·rw [hA,Bo] at h9
     rw [h9,hxo.out]
     exact ⟨ho,by simp⟩) (by rw [← hLn.out]; omega) (by omega) (fun h1 h2 _ _=>by
    rw [← hLn.out] at h1 h2
    have:=M7 n h1 h2
    rw [hA,hxo.out]
    exact this)
   rw [← hLn.out,hA1] at hck
   have hcN:(aN=none→cN=0)∧L.length≤cN:=⟨fun e=>(hs2 e).1,by rw [← hLn.out]; exact OP hso1.out.own⟩
   obtain ⟨E,hE⟩:∃ E,E=Ck L A 1:=⟨_,rfl⟩
   rw [← hE] at hck
   replace hnot:=hZ hnot
   replace hcN:=hZ hcN
   replace hbA:=hZ hbA
   replace hA1:=hZ hA1
   replace hE:=hZ hE
   clear hs1 hs2 hs3 hs4 hA hsy2 hlit hfx4 hw5s hmem
   have b0:=htw4.b0
   have b1:=htw4.b1
   go_wp2_with fail
   refine hck.mono ?_
   rintro e w5 ⟨rfl,hf5⟩
   obtain ⟨a0,a1,f0,f1,c0,c1,-,-⟩:=htw4.fr hf5
   have hfr5:=hfr4.trans hf5
   clear b0 b1 htw4 hck
   have hsz9:=hfr5.size
   have hnF:Hid (∀ W,Fx (·=w.heap.size) w5 W→DS W aN (some ⟨wr.heap.size+1,0,none⟩) 1 L A):=fun W hW=>by
    obtain ⟨a7,c7,e1,k1,-⟩:=((hso1.out.fr hf5).fx hW (fun j hj e=>by have e:j=w.heap.size:=e; omega)).syms
    injection e1 with e1 _ _; subst e1
    obtain ⟨a8,c8,e1,k3,-⟩:=((hso2.out.fr hf5).fx hW (fun j hj e=>by have e:j=w.heap.size:=e; omega)).syms
    injection e1 with e1 _ _; subst e1
    exact ⟨k1,k3,fun e=>by cases e⟩
   clear hso1 hso2
   by_cases hE0:E=0
   ·have d1:(E != 0)=false:=by rw [hE0]; rfl
    have x1:(w5.setCell ⟨w.heap.size,0,none⟩ (.slice aN n cN)).cell? ⟨w.heap.size,1,none⟩=some (.slice none 0 0):=by rw [Ad _ _ _ _ (fun e=>by injection e with _ e; omega)]; exact a1
    obtain ⟨y0,y1,-,-⟩:=A7 w5 w.heap.size (.slice aN n cN) (.slice (some ⟨wr.heap.size+1,0,none⟩) 1 1) _ _ a0 a1
    have hfx5:=(A7 w5 w.heap.size (.slice aN n cN) (.slice (some ⟨wr.heap.size+1,0,none⟩) 1 1) _ _ a0 a1).2.2.2
    replace y0:=hZ y0
    replace y1:=hZ y1
    replace hE0:=hZ hE0
    go_wp2_with fail
    have q0:=y0.out
    have q1:=y1.out
    refine Ax (v:=.tuple #[.agg #[.slice aN n cN,.slice (some ⟨wr.heap.size+1,0,none⟩) 1 1],.int .i64 0]) (by simp [results,Tryz.results53,go_sem,q0,q1]) rfl ?_
    exact ⟨L,A,aN,cN,_,1,hba9.out,hbA.out,hnF.out _ hfx5,hcN.out,(hfr5.setCell (p:=⟨w.heap.size,0,none⟩) (Ag _) _).setCell (p:=⟨w.heap.size,1,none⟩) (Ag _) _,by rw [← hE.out,hE0.out,Aj rfl,← hLn.out,hA1.out]⟩
   ·have d1:(E != 0)=true:=by rw [Bl]; exact hE0
    have x1:(w5.setCell ⟨w.heap.size,0,none⟩ (.slice none 0 0)).cell? ⟨w.heap.size,1,none⟩=some (.slice none 0 0):=by rw [Ad _ _ _ _ (fun e=>by injection e with _ e; omega)]; exact a1
    obtain ⟨y0,y1,-,-⟩:=A7 w5 w.heap.size (.slice none 0 0) (.slice none 0 0) _ _ a0 a1
    have hfx5:=(A7 w5 w.heap.size (.slice none 0 0) (.slice none 0 0) _ _ a0 a1).2.2.2
    replace y0:=hZ y0
    replace y1:=hZ y1
    replace hE0:=hZ hE0
    go_wp2_with fail
    have q0:=y0.out
    have q1:=y1.out
    refine Ax (v:=.tuple #[.agg #[.slice none 0 0,.slice none 0 0],.int .i64 E]) (by simp [results,Tryz.results53,go_sem,q0,q1]) rfl ?_
    exact ⟨L,A,aN,cN,_,1,hba9.out,hbA.out,hnF.out _ hfx5,hcN.out,(hfr5.setCell (p:=⟨w.heap.size,0,none⟩) (Ag _) _).setCell (p:=⟨w.heap.size,1,none⟩) (Ag _) _,by rw [← hE.out,Ai hE0.out]⟩
theorem Rl:(Tryz.prog.info? 9).map (fun i=>(i.zero,i.size,i.bytes))=some (some (.string ⟨#[]⟩),1,16):=by kernel_rfl
def EP (l:List ByteArray):ByteArray:=⟨(Lib.join (l.map (·.data.toList)) [32]).toArray⟩
def Dk (xs:List Int):ByteArray:=⟨#[91]⟩ ++ EP (xs.map tx) ++ ⟨#[62]⟩
theorem VY (l:List ByteArray) (k:Nat) (h:∀ x,x ∈ l→x.size≤k):lens (l.map (·.data.toList))≤k * l.length:=by
 induction l with
 | nil=>simp [lens]
 | cons x l ih=>
   have h1:=h x (by simp)
   have h2:=ih (fun y hy=>h y (by simp [hy]))
   have e:lens ((x :: l).map (·.data.toList))=x.size+lens (l.map (·.data.toList)):=by
    show x.data.toList.length+_=x.data.size+_
    rw [ZF]
    rfl
   rw [e,A3,Nat.mul_add]
   omega
theorem Kr (l:List ByteArray) (k:Nat) (h:∀ x,x ∈ l→x.size≤k) (hl:0 < l.length):(Lib.join (l.map (·.data.toList)) [32]).length≤(k+1) * l.length:=by
 have h1:=VY l k h
 match l,hl with
 | x :: l,_=>
   have e:(x :: l).map (·.data.toList)=x.data.toList :: l.map (·.data.toList):=rfl
   rw [e] at h1 ⊢
   rw [join_length,Am,Ze,A3,J8]
   rw [A3] at h1
   omega
theorem I8 (xs:List Int) (hl:xs.length≤64) (hl1:0 < xs.length) (hb:∀ x,x ∈ xs→Bi x=true):(Dk xs).size≤1000:=by
 have h1:=Kr (xs.map tx) 12 (fun y hy=>by
  obtain ⟨x,hx,rfl⟩:=Bg.1 hy
  have hfx:=hb x hx
  unfold Bi at hfx
  have hfx:=Av hfx
  exact CT 11 x (by omega) (by omega)) (by rw [Am]; omega)
 rw [Am] at h1
 have h2:(EP (xs.map tx)).size=(Lib.join ((xs.map tx).map (·.data.toList)) [32]).length:=by
  show (Lib.join ((xs.map tx).map (·.data.toList)) [32]).toArray.size=_
  rw [J9]
 unfold Dk
 rw [C3,C3,h2]
 show 1+_+1≤_
 omega
theorem UW (xs:List Int) (a:Option Addr) (cap:Nat) (w:World) (hG:G w) (hx:El w iv a xs) (hl:xs.length≤64) (hl1:0 < xs.length) (hb:∀ x,x ∈ xs→Bi x=true) :
 Calls Tryz.prog 128 #[.slice a xs.length cap,.bool true] w fun e w'=>e=.returned (.tuple #[.string (Dk xs),.int .i64 0])∧Fr w w':=by
 obtain ⟨i1,ji,jz0,jz1,jz2⟩:=AQ Rl
 have hck:=hZ (Df xs a cap w hx (by omega))
 rw [Hm (by omega) (CE.2 (fun x hx=>by rw [hb x hx]; simp))] at hck
 obtain ⟨n,hn⟩:∃ n,n=xs.length:=⟨_,rfl⟩
 rw [← hn] at hl hl1 hck ⊢
 replace hn:=hZ hn
 replace hx:=hZ hx
 replace hb:=hZ hb
 replace hG:=hZ hG
 go_enter Tryz.func128,Tryz.ntmps128
 go_wp2_with fail
 refine hck.out.mono ?_
 rintro e w1 ⟨rfl,hf1⟩
 go_wp2_with fail
 go_loopg [7,18] n (fun k s7 s18 wr=>∃ i:Nat,s18=.int .i64 i∧i+k=n∧Fr w wr∧Hid (wr.ownsRow w.heap.size 9 1 s7 i ((xs.take i).map sv)))
 case atStart=>exact ⟨0,rfl,by omega,hf1,A6 _ _ _ _⟩
 case round=>
  obtain ⟨i,rfl,hik,hf,hown⟩:=hrel
  by_cases hi:i < n
  ·have hdI:decide (i < n)=true:=Ac hi
   obtain ⟨b,o,x,rfl,hbl,hxi,hcell⟩:=(hx.out.fr hf).at (i:=i) (by rw [← hn.out]; exact hi)
   have hfx:=hb.out x (Ae hxi)
   unfold Bi at hfx
   have hfx:=Av hfx
   have hsn:Hid ((xs.take (i+1)).map sv=(xs.take i).map sv ++ [sv x]):=hZ (by rw [Bx hxi,Aw]; rfl)
   replace hxi:=hZ hxi
   have z0:(0:Int)≤(i:Int):=Af _
   have z1:(i:Int) < (n:Int):=by omega
   go_wp2_with fail
   refine (FC x (by omega) (by omega) _ (hG.out.fr hf)).mono ?_
   rintro e w3 ⟨rfl,hf3⟩
   have hownG:=Ba hown.out hf3
   have hz7:=hf.size
   have hz8:=hf3.size
   go_wp2_with (at_builtin; refine At _ rfl _ _ 55 (by rfl) _ 9 _ _ 1 16 Tryz.underlying55 ji jz0 jz1 jz2 rfl (by decide) _ i _ (by rfl) (Au hownG _) ⟨w3.heap.size,0,none⟩ 1 1 [.string (tx x)] (by rfl) rfl (AF _ _ _ _ (by simp)) (by simp [Value.oneCell']) (by decide) (by unfold maxLen; omega) (by omega) (by skip; simp; omega) (w3.heap.size+1) (by simp) ?_; intro gA capA wA hownA hgrowA hatA hltA)
   go_wp2_with fail
   go_roundg (gk - 1)
   case measure=>omega
   case rel=>exact ⟨i+1,by go_num,by omega,((hf.trans hf3).alloc _).grown hgrowA (fun k e=>(hown.out.lt k e).1),by show _; rw [hsn.out]; exact hownA⟩
  ·have hdI:decide (i < n)=false:=Aa hi
   obtain rfl:n=i:=by omega
   have hown9:=hown.out
   rw [Ak (by rw [← hn.out]; exact Ag _)] at hown9
   obtain ⟨g,cp,h9,-⟩:=Ct hown9 hl1
   subst h9
   obtain ⟨-,-,hgl,hcp,hcells⟩:=Bf hown9
   have hjl:(Lib.join ((xs.map tx).map (·.data.toList)) (⟨#[32]⟩:ByteArray).data.toList).length≤140737488355328:=by
    have h1:=Kr (xs.map tx) 12 (fun y hy=>by
     obtain ⟨x,hx,rfl⟩:=Bg.1 hy
     have hfx:=hb.out x hx
     unfold Bi at hfx
     have hfx:=Av hfx
     exact CT 11 x (by omega) (by omega)) (by rw [Am,← hn.out]; omega)
    rw [Am] at h1
    have h2:(⟨#[32]⟩:ByteArray).data.toList=[32]:=rfl
    rw [h2]
    have:=hn.out
    omega
   have hjn:=hZ (Tryz.strings_Join g 0 cp (xs.map tx) ⟨#[32]⟩ wr (fun j y hj=>by
    rw [Ao] at hj
    obtain ⟨x,hx1,rfl⟩:=AV.1 hj
    have:=(hcells j (sv x) (by rw [Ao,hx1]; rfl)).1
    rw [Az]; exact this) hgl (by rw [Am,← hn.out]; omega) (by rw [Am,← hn.out]; omega) hjl)
   have hje:(⟨(Lib.join ((xs.map tx).map (·.data.toList)) (⟨#[32]⟩:ByteArray).data.toList).toArray⟩:ByteArray)=EP (xs.map tx):=rfl
   rw [Am,← hn.out,hje] at hjn
   have hSl:(EP (xs.map tx)).size≤140737488355328:=by
    show (Lib.join ((xs.map tx).map (·.data.toList)) [32]).toArray.size≤_
    rw [J9]
    exact hjl
   have hfin:=hZ (show Dk xs=⟨#[91]⟩ ++ EP (xs.map tx) ++ ⟨#[62]⟩ from rfl)
   generalize EP (xs.map tx)=S at *
   clear hje hjl
   clear hown9 hcells
   go_wp2_with fail
   refine hjn.out.mono ?_
   rintro e w4 ⟨rfl,hf4⟩
   go_wp2_with fail
   go_ret2
   exact ⟨by rw [hfin.out]; rfl,hf.trans hf4⟩
theorem QL (xs:List Int) (a:Option Addr) (cap n:Nat) (w:World) (hG:G w) (hx:El w iv a xs) (hn:xs.length=n) (hl:n≤64) (hl1:0 < n) (hb:∀ x,x ∈ xs→Bi x=true) :
 Calls Tryz.prog 67 #[.slice a n cap] w fun e w'=>e=.returned (.string (Dk xs))∧Fr w w':=by
 have h1:=UW xs a cap w hG hx (by omega) (by omega) hb
 rw [hn] at h1
 clear hG hx hn hb
 replace h1:=hZ h1
 go_enter Tryz.func67,Tryz.ntmps67
 go_wp2_with fail
 refine h1.out.mono ?_
 rintro e w1 ⟨rfl,hf1⟩
 go_wp2_with fail
 go_ret
 exact ⟨rfl,hf1⟩
end Go.Proofs.YtcglmebcfeoedaaGreatDoor
