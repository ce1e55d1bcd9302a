/- Contracts and laws: RH. -/
import Derived.Test.YtcglmebcfeoedaaGreatDoorRW
import Derived.Test.YtcglmebcfeoedaaGreatDoorRE
import Derived.Test.YtcglmebcfeoedaaGreatDoorShelf
import Derived.Lib.Join

set_option maxRecDepth 100000
set_option maxHeartbeats 8000000
namespace Go.Proofs.YtcglmebcfeoedaaGreatDoor
open Go.RowKit Go.Lib
attribute [local go_sem ↓] Go.wp_at_zero Go.wp_at_succ
theorem reduce_nil (w:World) :
 Calls Tryz.prog 133 #[.slice none 0 0,.int .i64 0] w fun e w'=>e=.returned (.tuple #[.slice none 0 0,qv 1])∧Fr w w':=by
 obtain ⟨wb,hwb⟩:∃ wb,wb=w.alloc (.cells #[.string ⟨#[]⟩,.string ⟨#[]⟩] 194):=⟨_,rfl⟩
 have hfb:Fr w wb:=by rw [hwb]; exact (Fr.refl _).alloc _
 have q4:wb.cell? ⟨w.heap.size,0,none⟩=some (.string ⟨#[]⟩):=by rw [hwb]; exact (new2a _ _ _ _).1
 have q5:wb.cell? ⟨w.heap.size,1,none⟩=some (.string ⟨#[]⟩):=by rw [hwb]; exact (new2b _ _ _ _).1
 have q6:wb.frozen? ⟨w.heap.size,0,none⟩=false:=by rw [hwb]; exact (new2a _ _ _ _).2
 have q7:wb.frozen? ⟨w.heap.size,1,none⟩=false:=by rw [hwb]; exact (new2b _ _ _ _).2
 obtain ⟨o,ho⟩:∃ o:Rat,o=1:=⟨_,rfl⟩
 have hone:Hid (∀ W,Calls Tryz.prog 188 #[] W fun e w'=>e=.returned (qv o)∧Fr W w'):=fun W=>by rw [ho]; exact oneQ_any W
 rw [← ho]
 clear ho
 go_enter Tryz.func133,Tryz.ntmps133
 go_upto_region 1 with (fail)
 rw [← hwb]
 clear hwb
 go_wp2_with fail
 refine (hone.out _).mono ?_
 rintro e w1 ⟨rfl,hf1⟩
 replace q6:=hf1.keepf q4 q6
 replace q7:=hf1.keepf q5 q7
 replace q4:=hf1.keep q4
 replace q5:=hf1.keep q5
 obtain ⟨u0,u1,q8,-⟩:=two_store w1 w.heap.size (sv o.num) (sv (o.den:Int)) _ _ q4 q5
 have hfs:Fr w ((w1.setCell ⟨w.heap.size,0,none⟩ (sv o.num)).setCell ⟨w.heap.size,1,none⟩ (sv (o.den:Int))):=((hfb.trans hf1).setCell (p:=⟨w.heap.size,0,none⟩) (Nat.le_refl _) _).setCell (p:=⟨w.heap.size,1,none⟩) (Nat.le_refl _) _
 go_upto_region 2 with (fail)
 obtain ⟨w2,hw2⟩:∃ w2,w2=(w1.setCell ⟨w.heap.size,0,none⟩ (sv o.num)).setCell ⟨w.heap.size,1,none⟩ (sv (o.den:Int)):=⟨_,rfl⟩
 change Code.wp _ _ _ _ ((w1.setCell ⟨w.heap.size,0,none⟩ (sv o.num)).setCell ⟨w.heap.size,1,none⟩ (sv (o.den:Int)))
 have q6:w2.frozen? ⟨w.heap.size,0,none⟩=false:=by rw [hw2,World.frozen?_setCell,World.frozen?_setCell]; exact q6
 have q7:w2.frozen? ⟨w.heap.size,1,none⟩=false:=by rw [hw2,World.frozen?_setCell,World.frozen?_setCell]; exact q7
 rw [← hw2] at hfs u0 u1 ⊢
 clear hw2 q4 q5 q8 hf1 hfb
 go_wp2_with fail
 go_loopg [4,16] 0 (fun gk s4 s16 wr=>s4=.slice none 0 0∧s16=.int .i64 0∧gk=0∧wr=w2)
 case atStart=>exact ⟨rfl,rfl,rfl,rfl⟩
 case round=>
  obtain ⟨rfl,rfl,rfl,rfl⟩:=hrel
  obtain ⟨D,hD⟩:∃ D,D=w.heap.size:=⟨_,rfl⟩
  rw [← hD] at u0 u1 q6 q7 ⊢
  replace hD:=hZ hD
  have v0:=hZ (two_store wr D (sv o.num) (sv (o.den:Int)) _ _ u0 u1)
  have y0:=v0.out.2.2.1
  have hfe:=(((hfs.setCell (p:=⟨D,0,none⟩) (by rw [hD.out]; exact Nat.le_refl _) (sv o.num)).setCell (p:=⟨D,1,none⟩) (by rw [hD.out]; exact Nat.le_refl _) (sv (o.den:Int))).drew)
  go_wp2_with fail
  go_region
  all_goals
   go_wp2_with fail
   have z0:=v0.out.1
   have z1:=v0.out.2.1
   refine bodyPost_ret (v:=.tuple #[.slice none 0 0,qv o]) (by simp [results,Tryz.results133,go_sem,z0,z1]) rfl ⟨rfl,hfe⟩
theorem fit_smR {x:Int} (h:fitB x=true):Sm x:=by
 unfold fitB at h; have h:=of_decide_eq_true h; exact ⟨by omega,by omega⟩
theorem Rank_any (m:List (List Int)) (a:Option Addr) (cap n:Nat) (F:RS) (w:World) (hG:G w) (hm:MatIs w a m) (hok:TabOk n m) (hn:1≤n) (hF:redTo (m.map qrow) (colsN m)=some F) :
 Calls Tryz.prog 75 #[.slice a m.length cap] w fun e w'=>e=.returned (.tuple #[.int .i64 F.lead.length,.int .i64 0])∧Fr w w':=by
 have hck:=hZ (tabCheck_ok m a cap n w hm hok)
 obtain ⟨h1,h2,h3,h4⟩:=hok
 have hro:=hZ (fun W (hW:Fr w W)=>rows0_any m a cap n W (hG.fr hW) (hm.fr hW) h3 hn (by omega) (by omega) (fun r hr x hx=>fit_smR (h4 r hr x hx)))
 have hco:=hZ (fun W (hW:Fr w W)=>Columns_any m a cap W (hm.fr hW))
 have hcn:m≠[]→colsN m=n:=fun h=>by unfold colsN; rw [rowAt_eq (List.length_pos_iff.2 h)]; exact h3.row _
 have hc0:m=[]→colsN m=0:=fun h=>by rw [h]; rfl
 have hrq:RectQ n (m.map qrow):=fun r hr=>by
  obtain ⟨x,hx,rfl⟩:=List.mem_map.1 hr
  unfold qrow; rw [List.length_map]; exact h3 x hx
 have hlq:(m.map qrow).length=m.length:=List.length_map _
 have hre:=hZ (fun ob oo oc hs W (hGW:G W) (hg:GridQ W ob oo hs (m.map qrow))=>reduce_any ob oo oc n (colsN m) hs (m.map qrow) F W hGW hg hrq (by omega) (by omega) (by by_cases h:m=[]; (rw [hc0 h]; omega); (rw [hcn h]; exact Nat.le_refl _)) hF)
 replace hrq:=hZ hrq
 replace hlq:=hZ hlq
 have hm0:Hid (m=[]→F.lead.length=0):=fun h=>by
  rw [h] at hF
  injection hF with hF
  rw [← hF]; rfl
 replace hF:=hZ hF
 have hGf:=hZ (fun W (hW:Fr w W)=>hG.fr hW)
 obtain ⟨k,hk⟩:∃ k,k=F.lead.length:=⟨_,rfl⟩
 rw [← hk] at hm0 ⊢
 replace hc0:=hZ hc0
 obtain ⟨l,hl⟩:∃ l,l=m.length:=⟨_,rfl⟩
 rw [← hl] at hck hro hco ⊢
 replace hl:=hZ hl
 obtain ⟨cn,hcn2⟩:∃ cn,cn=colsN m:=⟨_,rfl⟩
 rw [← hcn2] at hco hre hc0
 clear h1 h2 h3 h4 hcn hm hG hcn2
 go_enter Tryz.func75,Tryz.ntmps75
 go_wp2_with fail
 refine hck.out.mono ?_
 rintro e w1 ⟨rfl,hf1⟩
 go_wp2_with fail
 refine (hro.out _ hf1).mono ?_
 rintro e w2 ⟨v,hs,rfl,hgg,hnew,hf2⟩
 rcases hgg.own.2 with ⟨hv,h0⟩ | ⟨g,cap2,-,hv,-⟩
 ·subst hv
  have hm9:m=[]:=List.eq_nil_of_length_eq_zero (by rw [← hlq.out]; exact h0)
  have hc9:=hc0.out hm9
  have hk9:=hm0.out hm9
  have hnl8:Hid (∀ W,Calls Tryz.prog 133 #[.slice none 0 0,.int .i64 cn] W fun e w'=>e=.returned (.tuple #[.slice none 0 0,qv 1])∧Fr W w'):=fun W=>by rw [hc9]; exact reduce_nil W
  replace hc9:=hZ hc9
  replace hk9:=hZ hk9
  replace hgg:=hZ hgg
  go_wp2_with fail
  refine (hco.out _ (hf1.trans hf2)).mono ?_
  rintro e w3 ⟨rfl,hf3⟩
  go_wp2_with fail
  refine (hnl8.out _).mono ?_
  rintro e w4 ⟨rfl,hf4⟩
  have hfr4:=((hf1.trans hf2).trans hf3).trans hf4
  go_wp2_with fail
  have hsz9:=hfr4.size
  refine bodyPost_ret (v:=.tuple #[.int .i64 k,.int .i64 0]) (by rw [hk9.out]; simp [results,Tryz.results75,go_sem]) rfl ⟨rfl,by exact fr9⟩
 ·subst hv
  obtain ⟨hg,-,hb,-⟩:=hgg.grid
  have hg1:=hZ hg
  replace hgg:=hZ hgg
  have hl9:(m.map qrow).length=l:=by rw [hlq.out,hl.out]
  rw [hl9]
  replace hl9:=hZ hl9
  go_wp2_with fail
  refine (hco.out _ (hf1.trans hf2)).mono ?_
  rintro e w3 ⟨rfl,hf3⟩
  have hre2:=hre.out g 0 cap2 hs w3 (hGf.out _ ((hf1.trans hf2).trans hf3)) (hg1.out.fr hf3)
  rw [hl9.out,← hk] at hre2
  go_wp2_with fail
  refine hre2.mono ?_
  rintro e w4 ⟨a4,c4,hs4,rfl,-,hfx4,-,-⟩
  go_wp2_with fail
  have hfr4:Fr w w4:=(((Fx.of_fr ((hf1.trans hf2).trans hf3)).trans hfx4)).toFr (fun j hj hgb=>by
   rcases hgb with h | ⟨hd,hm,h⟩
   ·have:=hf1.size; have:w1.heap.size≤g:=hb; omega
   ·have h2:=hnew.out hd hm; have:=hf1.size; have h:hd.1=j:=h; omega)
  have hsz9:=hfr4.size
  refine bodyPost_ret (v:=.tuple #[.int .i64 k,.int .i64 0]) (by simp [results,Tryz.results75,go_sem,hk]) rfl ⟨rfl,by exact fr9⟩
def nsymE (d:Nat) (prev:List Sy) (x:Sy):Int :=
 if isName x.nm=false then 8 else if prev.any (fun y=>y.nm.toList == x.nm.toList)=true then 9 else if rowE x.row≠0 then rowE x.row else if x.row.length≠d then 5 else 0
def nscanE (d:Nat) (L:List Sy):Nat→Nat→Int
 | 0,_=>0
 | k+1,i=>match L[i]? with
   | none=>0
   | some x=>if nsymE d (L.take i) x≠0 then nsymE d (L.take i) x else nscanE d L k (i+1)
theorem nscanE_bad {d:Nat} {L:List Sy} {k i:Nat} {x:Sy} (h:L[i]?=some x) (hb:nsymE d (L.take i) x≠0):nscanE d L (k+1) i=nsymE d (L.take i) x:=by
 show (match L[i]? with | none=>0 | some x=>if nsymE d (L.take i) x≠0 then nsymE d (L.take i) x else nscanE d L k (i+1))=_
 rw [h]; exact if_pos hb
theorem nscanE_ok {d:Nat} {L:List Sy} {k i:Nat} {x:Sy} (h:L[i]?=some x) (hb:nsymE d (L.take i) x=0):nscanE d L (k+1) i=nscanE d L k (i+1):=by
 show (match L[i]? with | none=>0 | some x=>if nsymE d (L.take i) x≠0 then nsymE d (L.take i) x else nscanE d L k (i+1))=_
 rw [h]; exact if_neg (by rw [hb]; simp)
theorem nscanE_zero {d:Nat} {L:List Sy}:∀ (k i:Nat),nscanE d L k i=0→∀ (j:Nat) (x:Sy),i≤j→j < i+k→L[j]?=some x→nsymE d (L.take j) x=0
 | 0,i,_,j,x,h1,h2,_=>by omega
 | k+1,i,h,j,x,h1,h2,hx=>by
   have hl:j < L.length:=(List.getElem?_eq_some_iff.1 hx).1
   have hi:L[i]?=some L[i]:=List.getElem?_eq_getElem (by omega)
   by_cases hb:nsymE d (L.take i) L[i]=0
   ·rw [nscanE_ok hi hb] at h
    by_cases e:i=j
    ·subst e; rw [hi] at hx; injection hx with hx; rw [← hx]; exact hb
    ·exact nscanE_zero k (i+1) h j x (by omega) (by omega) hx
   ·rw [nscanE_bad hi hb] at h; exact absurd h hb
theorem nsymE_name {d:Nat} {p:List Sy} {x:Sy} (h:isName x.nm=false):nsymE d p x=8:=by unfold nsymE; rw [if_pos h]
theorem nsymE_dup {d:Nat} {p:List Sy} {x:Sy} (h:isName x.nm=true) (h2:p.any (fun y=>y.nm.toList == x.nm.toList)=true):nsymE d p x=9:=by
 unfold nsymE; rw [if_neg (by rw [h]; simp),if_pos h2]
theorem nsymE_row {d:Nat} {p:List Sy} {x:Sy} (h:isName x.nm=true) (h2:p.any (fun y=>y.nm.toList == x.nm.toList)=false) (h3:rowE x.row≠0):nsymE d p x=rowE x.row:=by
 unfold nsymE; rw [if_neg (by rw [h]; simp),if_neg (by rw [h2]; simp),if_pos h3]
theorem nsymE_size {d:Nat} {p:List Sy} {x:Sy} (h:isName x.nm=true) (h2:p.any (fun y=>y.nm.toList == x.nm.toList)=false) (h3:rowE x.row=0) (h5:x.row.length≠d):nsymE d p x=5:=by
 unfold nsymE; rw [if_neg (by rw [h]; simp),if_neg (by rw [h2]; simp),if_neg (by rw [h3]; simp),if_pos h5]
theorem nsymE_ok {d:Nat} {p:List Sy} {x:Sy} (h:isName x.nm=true) (h2:p.any (fun y=>y.nm.toList == x.nm.toList)=false) (h3:rowE x.row=0) (h5:x.row.length=d):nsymE d p x=0:=by
 unfold nsymE; rw [if_neg (by rw [h]; simp),if_neg (by rw [h2]; simp),if_neg (by rw [h3]; simp),if_neg (by rw [h5]; simp)]
theorem nrowE_inv {xs:List Int} (h:rowE xs=0):xs.length≤64∧∀ x,x ∈ xs→fitB x=true:=by
 unfold rowE at h
 split at h
 ·simp at h
 ·split at h
  ·simp at h
  ·rename_i h1 h2
   refine ⟨by omega,fun x hx=>?_⟩
   exact (by simpa using h2:∀ x,x ∈ xs→fitB x=true) x hx
theorem nsymE_inv {d:Nat} {p:List Sy} {x:Sy} (h:nsymE d p x=0):isName x.nm=true∧p.any (fun y=>y.nm.toList == x.nm.toList)=false∧rowE x.row=0∧x.row.length=d:=by
 unfold nsymE at h
 split at h
 ·simp at h
 ·split at h
  ·simp at h
  ·split at h
   ·rename_i h3; exact absurd h h3
   ·split at h
    ·simp at h
    ·rename_i h1 h2 h3 h4
     exact ⟨by simpa using h1,by simpa using h2,Decidable.of_not_not h3,Decidable.of_not_not h4⟩
def nchkE (N A:List Sy) (r:Nat):Int :=
 if N.length=0 then 13 else if 60 < N.length∨6 < A.length then 4 else if nscanE A.length (N ++ A) (N ++ A).length 0≠0 then nscanE A.length (N ++ A) (N ++ A).length 0 else if r < A.length then 18 else 0
theorem NCheck_any (aN aA:Option Addr) (cN cA r:Nat) (N A:List Sy) (w:World) (hG:G w) (hn:NotIs w aN aA cA N A) (hs:SyFit (N ++ A)) (hNl:N.length≤1000000000) (hAl:A.length≤1000000000)
 (hF:1≤N.length→N.length≤60→A.length≤6→nscanE A.length (N ++ A) (N ++ A).length 0=0→∃ F,redTo ((A.map Sy.row).map qrow) (colsN (A.map Sy.row))=some F∧F.lead.length=r) :
 Calls Tryz.prog 25 #[.agg #[.slice aN N.length cN,.slice aA A.length cA]] w fun e w'=>e=.returned (.int .i64 (nchkE N A r))∧Fr w w':=by
 have f0:Fr w (w.alloc (.cells #[.slice aN N.length cN,.slice aA A.length cA] 31)):=(Fr.refl w).alloc _
 by_cases hn1:N.length=0
 ·have hfin:=hZ (show nchkE N A r=13 by unfold nchkE; rw [if_pos hn1])
  have d1:((N.length:Int) == 0)=true:=by rw [hn1]; rfl
  replace f0:=hZ f0
  clear hn hs hG hF
  replace hn1:=hZ hn1
  go_enter Tryz.func25,Tryz.ntmps25
  go_wp2_with fail
  go_ret
  exact ⟨ret_int hfin.out.symm,f0.out⟩
 have d1:((N.length:Int) == 0)=false:=beq_false_of_ne (by omega)
 by_cases hn60:60 < N.length
 ·have hfin:=hZ (show nchkE N A r=4 by unfold nchkE; rw [if_neg hn1,if_pos (.inl hn60)])
  have d2:decide ((60:Int) < (N.length:Int))=true:=decide_eq_true (by omega)
  replace f0:=hZ f0
  clear hn hs hG hF
  replace hn1:=hZ hn1
  go_enter Tryz.func25,Tryz.ntmps25
  go_wp2_with fail
  go_ret
  exact ⟨ret_int hfin.out.symm,f0.out⟩
 have d2:decide ((60:Int) < (N.length:Int))=false:=decide_eq_false (by omega)
 by_cases ha6:6 < A.length
 ·have hfin:=hZ (show nchkE N A r=4 by unfold nchkE; rw [if_neg hn1,if_pos (.inr ha6)])
  have d3:decide ((6:Int) < (A.length:Int))=true:=decide_eq_true (by omega)
  replace f0:=hZ f0
  clear hn hs hG hF
  replace hn1:=hZ hn1
  go_enter Tryz.func25,Tryz.ntmps25
  go_wp2_with fail
  go_ret
  exact ⟨ret_int hfin.out.symm,f0.out⟩
 have d3:decide ((6:Int) < (A.length:Int))=false:=decide_eq_false (by omega)
 have hlen:(N ++ A).length=N.length+A.length:=List.length_append
 have hE1:nscanE A.length (N ++ A) (N ++ A).length 0≠0→nchkE N A r=nscanE A.length (N ++ A) (N ++ A).length 0:=fun h=>by unfold nchkE; rw [if_neg hn1,if_neg (by omega),if_pos h]
 have hE2:nscanE A.length (N ++ A) (N ++ A).length 0=0→nchkE N A r=if r < A.length then 18 else 0:=fun h=>by unfold nchkE; rw [if_neg hn1,if_neg (by omega),if_neg (by rw [h]; simp)]
 have hrank:nscanE A.length (N ++ A) (N ++ A).length 0=0→∀ (a:Option Addr) (c:Nat) (W:World),Fr w W→MatIs W a (A.map Sy.row)→Calls Tryz.prog 75 #[.slice a A.length c] W fun e w'=>e=.returned (.tuple #[.int .i64 r,.int .i64 0])∧Fr W w':=fun h0 a c W hW hm=>by
  obtain ⟨F,hF1,hF2⟩:=hF (by omega) (by omega) (by omega) h0
  have hz:=nscanE_zero _ _ h0
  have hin:∀ x,x ∈ A→rowE x.row=0∧x.row.length=A.length:=fun x hx=>by
   obtain ⟨j,hj⟩:=List.getElem?_of_mem (List.mem_append_right N hx)
   have:=nsymE_inv (hz j x (Nat.zero_le _) (by have:=(List.getElem?_eq_some_iff.1 hj).1; omega) hj)
   exact ⟨this.2.2.1,this.2.2.2⟩
  have hok:TabOk (if A.length=0 then 1 else A.length) (A.map Sy.row):=by
   refine ⟨by rw [List.length_map]; omega,by split <;> omega,fun q hq=>?_,fun q hq x hx=>?_⟩
   ·obtain ⟨y,hy,rfl⟩:=List.mem_map.1 hq
    rw [(hin y hy).2]
    split
    ·rename_i h; rw [List.length_eq_zero_iff] at h; rw [h] at hy; cases hy
    ·rfl
   ·obtain ⟨y,hy,rfl⟩:=List.mem_map.1 hq
    exact (nrowE_inv (hin y hy).1).2 x hx
  have:=Rank_any (A.map Sy.row) a c _ F W (hG.fr hW) hm hok (by split <;> omega) hF1
  rw [hF2,List.length_map] at this
  exact this
 have hacc:=fun W (hW:Fr w W)=>Accs_any aN aA N.length cN cA A W (hG.fr hW) (hn.accs.fr hW) (by omega)
 replace hn1:0 < N.length:=by omega
 have hcat:∀ W:World,Fr w W→∀ (p c:Nat),p < W.heap.size→W.cell? ⟨p,0,none⟩=some (.slice aN N.length cN)→W.cell? ⟨p,1,none⟩=some (.slice aA A.length cA) →
  Calls Tryz.prog 73 #[.slice (some ⟨p,0,none⟩) 2 c] W (fun e w'=>∃ g cp,e=.returned (.slice (some ⟨g,0,none⟩) (N ++ A).length cp)∧Syms w' (some ⟨g,0,none⟩) (N ++ A)∧W.heap.size≤g∧Fr W w'):=fun W hW p c hp h1 h2=>by
  have hN:=hn.fr hW
  have h:=Concat_sym p c aN aA cN cA (N.map Sy.enc) (A.map Sy.enc) W hp (by rw [List.length_map]; exact h1) (by rw [List.length_map]; exact h2) hN.noms.1 hN.accs.1 (fun e=>⟨(hN.nil e).1,by rw [(hN.nil e).2]; rfl⟩) (Sy.one N) (Sy.one A) (by rw [List.length_map,List.length_map]; omega) (by rw [List.length_map]; exact hn1)
  rw [← List.map_append] at h
  refine h.mono ?_
  rintro e w' ⟨g,cp,rfl,hp',hgW,-,hf⟩
  refine ⟨g,cp,by rw [List.length_map],⟨hp',fun x hx=>?_⟩,hgW,hf⟩
  rcases List.mem_append.1 hx with h9 | h9
  ·exact (hN.noms.2 x h9).fr hf
  ·exact (hN.accs.2 x h9).fr hf
 have hEl:∀ x,x ∈ N ++ A→El w iv x.ra x.row:=fun x hx=>by
  rcases List.mem_append.1 hx with h9 | h9
  ·exact hn.noms.2 x h9
  ·exact hn.accs.2 x h9
 obtain ⟨T,hT⟩:∃ T,T=(N ++ A).length:=⟨_,rfl⟩
 rw [← hT] at hcat hlen hE1 hE2 hrank
 have hT1:0 < T:=by omega
 have hT2:T≤66:=by omega
 obtain ⟨n,hnn⟩:∃ n,n=N.length:=⟨_,rfl⟩
 obtain ⟨a,han⟩:∃ a,a=A.length:=⟨_,rfl⟩
 rw [← hnn] at hcat hn1 hn60 d1 d2 f0 hacc ⊢
 rw [← han] at hcat ha6 d3 f0 hacc hE1 hE2 hrank ⊢
 generalize nchkE N A r=E at *
 generalize A.map Sy.row=M at *
 generalize N ++ A=L at *
 clear hn hlen hnn han hF hG
 obtain ⟨S,hS⟩:∃ S,S=nscanE a L T 0:=⟨_,rfl⟩
 rw [← hS] at hE1 hE2 hrank
 replace hcat:=hZ hcat
 replace hs:=hZ hs
 replace hT:=hZ hT
 replace hE1:=hZ hE1
 replace hE2:=hZ hE2
 replace hS:=hZ hS
 replace hrank:=hZ hrank
 replace hacc:=hZ hacc
 replace hEl:=hZ hEl
 have hmm:=@run_makeMap Tryz.prog
 go_enter Tryz.func25,Tryz.ntmps25
 go_upto_region 5 with (fail)
 obtain ⟨w0,hw0⟩:∃ w0,w0=w.alloc (.cells #[.slice aN n cN,.slice aA a cA] 31):=⟨_,rfl⟩
 have n0:w0.cell? ⟨w.heap.size,0,none⟩=some (.slice aN n cN):=by rw [hw0]; exact (new2a _ _ _ _).1
 have n1:w0.cell? ⟨w.heap.size,1,none⟩=some (.slice aA a cA):=by rw [hw0]; exact (new2b _ _ _ _).1
 have z0s:=hZ (show w0.heap.size=w.heap.size+1 by rw [hw0]; simp)
 rw [← hw0] at f0 ⊢
 clear hw0
 go_upto_region 6 with (fail)
 have hsn0:=SeenIs.nil w0
 obtain ⟨w1,hw1⟩:∃ w1,w1=w0.alloc (.map #[] 0):=⟨_,rfl⟩
 have f1:Fr w0 w1:=by rw [hw1]; exact (Fr.refl _).alloc _
 have z1s:w1.heap.size=w0.heap.size+1:=by rw [hw1]; simp
 rw [← hw1] at hsn0 ⊢
 clear hw1
 have m0:=f1.keep n0
 have m1:=f1.keep n1
 obtain ⟨mb,hmb⟩:∃ mb,mb=w0.heap.size:=⟨_,rfl⟩
 rw [← hmb] at hsn0 z1s ⊢
 rw [z0s.out] at hmb
 obtain ⟨nb,hnb⟩:∃ nb,nb=w.heap.size:=⟨_,rfl⟩
 rw [← hnb] at m0 m1 hmb ⊢
 replace hmb:=hZ hmb
 replace hnb:=hZ hnb
 replace z1s:=hZ z1s
 clear hmm z0s n0 n1
 go_wp2_with fail
 have p1:=new2a w1 (.slice aN n cN) (.slice aA a cA) 29
 have p2:=new2b w1 (.slice aN n cN) (.slice aA a cA) 29
 refine (hcat.out _ ((f0.trans f1).alloc _) w1.heap.size 2 (by simp) p1.1 p2.1).mono ?_
 rintro e w2 ⟨g,cp,rfl,hsy,hgW,hf1⟩
 rw [World.size_alloc] at hgW
 have hfb:Fr w1 w2:=((Fr.refl w1).alloc _).trans hf1
 have hf:Fr w w2:=(f0.trans f1).trans hfb
 replace hsn0:=hsn0.fr hfb
 have k0:=hfb.keep m0
 have k1:=hfb.keep m1
 have hgm:g≠mb:=by have:=z1s.out; omega
 have hnm:nb≠mb:=by have:=hmb.out; omega
 have hFW:Hid (∀ W,Fx (·=mb) w2 W→Fr w W):=fun W h=>((Fx.of_fr hf).trans h).toFr (fun k hk e=>by have e:k=mb:=e; have:=hmb.out; have:=hnb.out; omega)
 clear p1 p2 hcat hf1 m0 m1 hgW f0 f1 hfb hf
 replace hsy:=hZ hsy
 go_wp2_with fail
 go_loopg [31] T (fun gk s31 wr=>∃ i:Nat,s31=.int .i64 i∧i+gk=T∧Hid (nscanE a L gk i=S)∧Fx (·=mb) w2 wr∧Hid (SeenIs wr mb ((L.take i).map Sy.nm)))
 case atStart=>exact ⟨0,rfl,by omega,hS.out.symm,Fx.refl _ _,hsn0⟩
 case round=>
  clear hsn0
  obtain ⟨i,rfl,hik,hsc,hfx,hsn⟩:=hrel
  have hFr:=hFW.out wr hfx
  replace k0:=hfx.keep k0 hnm
  replace k1:=hfx.keep k1 hnm
  by_cases hi:i < T
  ·have hdI:decide (i < T)=true:=decide_eq_true hi
   obtain ⟨b,o,x,hae,hbl,hxi,hc1,hc2,-⟩:=hsy.out.at (i:=i) (by rw [← hT.out]; exact hi)
   injection hae with hae; injection hae with h1 h2
   subst h1; subst h2
   replace hc1:=hfx.keep hc1 hgm
   replace hc2:=hfx.keep hc2 hgm
   have hmem:x ∈ L:=List.mem_of_getElem? hxi
   have hel:=hEl.out x hmem
   obtain ⟨hnl,hrl⟩:=hs.out x hmem
   have hN:=IsName_any x.nm
   have hck:=fun W (hW:Fr w W)=>Check_row x.row x.ra x.rc W (hel.fr hW) hrl
   have hlk:((L.take i).map Sy.nm).length≤1000000:=by rw [List.length_map,List.length_take]; omega
   have hcd:((L.take i).map Sy.nm).any (fun y=>y.toList == x.nm.toList)=(L.take i).any (fun y=>y.nm.toList == x.nm.toList):=by rw [List.any_map]; rfl
   have hsn9:(L.take (i+1)).map Sy.nm=(L.take i).map Sy.nm ++ [x.nm]:=by rw [take_snoc hxi,List.map_append]; rfl
   obtain ⟨j1,rfl⟩:∃ j1,gk=j1+1:=⟨gk - 1,by omega⟩
   have eN:=fun (h:isName x.nm=false)=>(nscanE_bad (k:=j1) hxi (by rw [nsymE_name h]; simp)).symm.trans hsc.out |>.symm.trans (nsymE_name (d:=a) (p:=L.take i) h)
   have eD:=fun (h:isName x.nm=true) h2=>(nscanE_bad (k:=j1) hxi (by rw [nsymE_dup h h2]; simp)).symm.trans hsc.out |>.symm.trans (nsymE_dup (d:=a) (p:=L.take i) h h2)
   have eR:=fun (h:isName x.nm=true) h2 h3=>(nscanE_bad (k:=j1) hxi (by rw [nsymE_row h h2 h3]; exact h3)).symm.trans hsc.out |>.symm.trans (nsymE_row (d:=a) (p:=L.take i) h h2 h3)
   have eS:=fun (h:isName x.nm=true) h2 h3 h5=>(nscanE_bad (k:=j1) hxi (by rw [nsymE_size h h2 h3 h5]; simp)).symm.trans hsc.out |>.symm.trans (nsymE_size (d:=a) (p:=L.take i) h h2 h3 h5)
   have eO:=fun (h:isName x.nm=true) h2 h3 h5=>(nscanE_ok (k:=j1) hxi (nsymE_ok (d:=a) (p:=L.take i) h h2 h3 h5)).symm.trans hsc.out
   have hE1':=fun (h:S≠0)=>hE1.out h
   clear hsc hxi hmem hel
   replace hN:=hZ hN
   replace hck:=hZ hck
   replace hcd:=hZ hcd
   replace hsn9:=hZ hsn9
   replace eN:=hZ eN
   replace eD:=hZ eD
   replace eR:=hZ eR
   replace eS:=hZ eS
   replace eO:=hZ eO
   replace hE1':=hZ hE1'
   generalize (L.take i).map Sy.nm=NM at *
   generalize (L.take i).any (fun y=>y.nm.toList == x.nm.toList)=bD at *
   generalize isName x.nm=bN at *
   generalize rowE x.row=bR at *
   generalize x.row.length=d at *
   generalize x.nm=nm at *
   generalize x.ra=ra at *
   generalize x.rc=rc at *
   rw [Nat.zero_add] at hc1 hc2
   have y1:(i:Int) < (T:Int):=by omega
   have y2:(0:Int)≤(i:Int):=by omega
   obtain ⟨wo,rfl⟩:∃ wo:World,wo=wr:=⟨_,rfl⟩
   go_upto_region 9 with (fail)
   obtain ⟨w3,hw3⟩:∃ w3,w3=wo.alloc (.cells #[.string nm,.slice ra d rc] 46):=⟨_,rfl⟩
   have f3:Fr wo w3:=by rw [hw3]; exact (Fr.refl _).alloc _
   have a1:w3.cell? ⟨wo.heap.size,0,none⟩=some (.string nm):=by rw [hw3]; exact (new2a _ _ _ _).1
   have a2:w3.cell? ⟨wo.heap.size,1,none⟩=some (.slice ra d rc):=by rw [hw3]; exact (new2b _ _ _ _).1
   rw [← hw3]
   clear hw3 hc1 hc2
   have hsn3:=hZ (hsn.out.fr f3)
   have hpm:wo.heap.size≠mb:=by have:=hsn.out.lt; omega
   replace k1:=f3.keep k1
   replace k0:=f3.keep k0
   obtain ⟨xb,hxb⟩:∃ xb,xb=wo.heap.size:=⟨_,rfl⟩
   rw [← hxb] at a1 a2 hpm ⊢
   clear hxb
   go_wp2_with fail
   refine (hN.out _ hnl).mono ?_
   rintro e w9 ⟨rfl,rfl⟩
   cases bN with
   | false=>
     have hS8:=eN.out (by trivial)
     have hfin:=hZ ((hE1'.out (by rw [hS8]; simp)).trans hS8)
     clear hS8
     go_wp2_with fail
     go_ret
     exact ⟨ret_int hfin.out.symm,hFr.trans f3⟩
   | true=>
   cases bD with
   | true=>
     have hS8:=eD.out (by trivial) (by trivial)
     have hfin:=hZ ((hE1'.out (by rw [hS8]; simp)).trans hS8)
     clear hS8
     go_wp2_with (at_lookup; refine wpList_seen _ mb NM nm true rfl _ _ rfl (by rfl) (by rfl) hsn3.out (by unfold maxLen; omega) hcd.out ?_)
     go_ret
     exact ⟨ret_int hfin.out.symm,hFr.trans f3⟩
   | false=>
   go_wp2_with (first
    | (at_lookup; refine wpList_seen _ mb NM nm false rfl _ _ rfl (by rfl) (by rfl) hsn3.out (by unfold maxLen; omega) hcd.out ?_)
    | (at_mapUpdate; refine wpList_see _ mb NM nm rfl _ _ _ rfl (by rfl) (by rfl) (by rfl) hsn3.out hlk (by unfold maxLen; omega) ?_; intro w4 hsn4 hfx4; have a3:=hfx4.keep a2 hpm; have k3:=hfx4.keep k1 hnm; replace hsn4:=hZ hsn4; have hfx5:=(hfx.fr f3).trans hfx4; have hFr4:=hFW.out _ hfx5))
   refine (hck.out _ hFr4).mono ?_
   rintro e w5 ⟨rfl,hf5⟩
   have a4:=hf5.keep a3
   have k4:=hf5.keep k3
   have hFr5:=hFr4.trans hf5
   clear hck hN a1 a2 a3 k0 k1 k3 hsn hsn3 hFr4
   by_cases h3:bR≠0
   ·have q1:(bR != 0)=true:=by rw [bne_iff_ne]; exact h3
    have hS8:=eR.out (by trivial) (by trivial) h3
    have hfin:=hZ ((hE1'.out (by rw [hS8]; exact h3)).trans hS8)
    clear hS8
    go_wp2_with fail
    go_ret
    exact ⟨ret_int hfin.out.symm,hFr5⟩
   replace h3:bR=0:=Decidable.of_not_not h3
   have q1:(bR != 0)=false:=by rw [h3]; rfl
   replace h3:=hZ h3
   by_cases h5:d≠a
   ·have q3:((d:Int) != (a:Int))=true:=by rw [bne_iff_ne]; omega
    have hS8:=eS.out (by trivial) (by trivial) h3.out h5
    have hfin:=hZ ((hE1'.out (by rw [hS8]; simp)).trans hS8)
    clear hS8
    go_wp2_with fail
    go_ret
    exact ⟨ret_int hfin.out.symm,hFr5⟩
   replace h5:d=a:=Decidable.of_not_not h5
   have q3:((d:Int) != (a:Int))=false:=by rw [h5]; simp
   have hO:=hZ (eO.out (by trivial) (by trivial) h3.out h5)
   clear eN eD eR eS eO
   replace h5:=hZ h5
   go_wp2_with fail
   go_roundg j1
   case measure=>omega
   case rel=>exact ⟨i+1,by go_num,by omega,hO,hfx5.fr hf5,by show SeenIs _ _ _; rw [hsn9.out]; exact hsn4.out.fr hf5⟩
  ·have hdI:decide (i < T)=false:=decide_eq_false hi
   obtain rfl:gk=0:=by omega
   have hS0:S=0:=hsc.out.symm
   have hfin:=hE2.out hS0
   have hrk:=hrank.out hS0
   clear hE1 hE2 hrank hsc hsn hsy
   replace hfin:=hZ hfin
   replace hrk:=hZ hrk
   replace hS0:=hZ hS0
   go_wp2_with fail
   refine (hacc.out _ hFr).mono ?_
   rintro e w3 ⟨ra,rc,rfl,hma,hf3⟩
   have k2:=hf3.keep k1
   go_wp2_with fail
   refine (hrk.out ra rc _ (hFr.trans hf3) hma).mono ?_
   rintro e w4 ⟨rfl,hf4⟩
   have k3:=hf4.keep k2
   have hfr4:=(hFr.trans hf3).trans hf4
   by_cases hra:r < a
   ·have q1:decide (r < a)=true:=decide_eq_true hra
    go_wp2_with fail
    go_ret
    exact ⟨ret_int (by rw [hfin.out,if_pos hra]),hfr4⟩
   ·have q1:decide (r < a)=false:=decide_eq_false hra
    go_wp2_with fail
    go_ret
    exact ⟨ret_int (by rw [hfin.out,if_neg hra]),hfr4⟩
theorem flat2_snoc (l:List (Value×Value)) (x:Value×Value):flat2 (l ++ [x])=flat2 l ++ [x.1,x.2]:=by rw [flat2_append]; rfl
structure SyOwn (w:World) (base:Nat) (v:Value) (n:Nat) (L:List Sy):Prop where
 len:n=L.length
 own:w.ownsRow base 46 2 v n (flat2 (L.map Sy.enc))
 row:∀ x,x ∈ L→∃ g,x.ra=some ⟨g,0,none⟩∧base≤g∧g < w.heap.size∧v.ownBlock≠some g∧El w iv x.ra x.row
theorem SyOwn.nil (w:World) (base:Nat):SyOwn w base (.slice none 0 0) 0 []:=⟨rfl,World.ownsRow_nil _ _ _ _,fun x hx=>by cases hx⟩
theorem SyOwn.fx {p:Nat→Prop} {w w':World} {base:Nat} {v:Value} {n:Nat} {L:List Sy} (h:SyOwn w base v n L) (k:Fx p w w') (hp:∀ j,base≤j→¬ p j):SyOwn w' base v n L :=
 ⟨h.len,ownsRow_fx h.own k (fun g e=>hp g (h.own.lt g e).1),fun x hx=>by
  obtain ⟨g,e,h1,h2,h3,h4⟩:=h.row x hx
  rw [e] at h4
  exact ⟨g,e,h1,Nat.lt_of_lt_of_le h2 k.size,h3,by rw [e]; exact h4.fx k (hp g h1)⟩⟩
theorem SyOwn.fr {w w':World} {base:Nat} {v:Value} {n:Nat} {L:List Sy} (h:SyOwn w base v n L) (k:Fr w w'):SyOwn w' base v n L :=
 h.fx (p:=fun _=>False) (Fx.of_fr k) (fun _ _ e=>e)
theorem SyOwn.push {w w':World} {base:Nat} {v v':Value} {n:Nat} {L:List Sy} (h:SyOwn w base v n L) {x:Sy} {g:Nat} (he:x.ra=some ⟨g,0,none⟩) (hb:base≤g) (hl:g < w.heap.size) (hv:v.ownBlock≠some g) (hel:El w iv x.ra x.row)
 (hown:w'.ownsRow base 46 2 v' (n+1) (flat2 (L.map Sy.enc) ++ [x.enc.1,x.enc.2])) (hg:w.grownBy w' v.ownBlock) (hat:v.ownBlock=v'.ownBlock∨∀ k,v'.ownBlock=some k→w.heap.size≤k):SyOwn w' base v' (n+1) (L ++ [x]):=by
 have hfx:=Fx.of_grown hg
 have key:∀ (y:Sy) (g:Nat),y.ra=some ⟨g,0,none⟩→base≤g→g < w.heap.size→v.ownBlock≠some g→El w iv y.ra y.row→∃ g,y.ra=some ⟨g,0,none⟩∧base≤g∧g < w'.heap.size∧v'.ownBlock≠some g∧El w' iv y.ra y.row:=fun y g e h1 h2 h3 h4=>by
  rw [e] at h4
  refine ⟨g,e,h1,Nat.lt_of_lt_of_le h2 hfx.size,fun e2=>?_,by rw [e]; exact h4.fx hfx (fun e2=>h3 e2)⟩
  rcases hat with h9 | h9
  ·rw [h9] at h3; exact h3 e2
  ·have:=h9 g e2; omega
 refine ⟨by rw [List.length_append,← h.len]; rfl,by rw [List.map_append,List.map_singleton,flat2_snoc]; exact hown,fun y hy=>?_⟩
 rcases List.mem_append.1 hy with h9 | h9
 ·obtain ⟨g',e,h1,h2,h3,h4⟩:=h.row y h9
  exact key y g' e h1 h2 h3 h4
 ·rw [List.mem_singleton] at h9
  subst h9
  exact key y g he hb hl hv hel
theorem SyOwn.syms {w:World} {base:Nat} {v:Value} {n:Nat} {L:List Sy} (h:SyOwn w base v n L):∃ a c,v=.slice a n c∧Syms w a L∧(a=none→c=0∧L=[]):=by
 have hel:∀ x,x ∈ L→El w iv x.ra x.row:=fun x hx=>by
  obtain ⟨g,e,h1,h2,h3,h4⟩:=h.row x hx
  exact h4
 rcases h.own.2 with ⟨h1,h2⟩ | ⟨g,cap,cur,hv,_⟩
 ·have e:L=[]:=List.eq_nil_of_length_eq_zero (by rw [← h.len]; exact h2)
  subst e
  subst h2
  exact ⟨none,0,h1,⟨.inl rfl,hel⟩,fun _=>⟨rfl,rfl⟩⟩
 ·subst hv
  exact ⟨_,_,rfl,⟨(ownsRow_prs h.own).1,hel⟩,fun e=>by cases e⟩
theorem SyOwn.lit {w:World} {base:Nat} {x:Sy} {g:Nat} (hb:base≤w.heap.size) (he:x.ra=some ⟨g,0,none⟩) (hg:base≤g) (hl:g < w.heap.size) (hel:El w iv x.ra x.row):SyOwn (w.alloc (.cells #[x.enc.1,x.enc.2] 46)) base (.slice (some ⟨w.heap.size,0,none⟩) 1 1) 1 [x] :=
 ⟨rfl,World.ownsRow_lit w #[x.enc.1,x.enc.2] 1 hb (by decide) rfl,fun y hy=>by
  rw [List.mem_singleton] at hy
  subst hy
  refine ⟨g,he,hg,by rw [World.size_alloc]; omega,fun e=>?_,hel.fr ((Fr.refl _).alloc _)⟩
  have e:some w.heap.size=some g:=e
  injection e with e
  omega⟩
structure TwoN (w:World) (r:Nat) (v u:Value):Prop where
 a0:w.cell? ⟨r,0,none⟩=some (.slice none 0 0)
 a1:w.cell? ⟨r,1,none⟩=some (.slice none 0 0)
 fa0:w.frozen? ⟨r,0,none⟩=false
 fa1:w.frozen? ⟨r,1,none⟩=false
 b0:w.cell? ⟨r+1,0,none⟩=some v
 b1:w.cell? ⟨r+1,1,none⟩=some u
 fb0:w.frozen? ⟨r+1,0,none⟩=false
 fb1:w.frozen? ⟨r+1,1,none⟩=false
theorem TwoN.fx {p:Nat→Prop} {w w':World} {r:Nat} {v u:Value} (h:TwoN w r v u) (k:Fx p w w') (h1:¬ p r) (h2:¬ p (r+1)):TwoN w' r v u :=
 ⟨k.keep h.a0 h1,k.keep h.a1 h1,k.keepf h.a0 h.fa0 h1,k.keepf h.a1 h.fa1 h1,k.keep h.b0 h2,k.keep h.b1 h2,k.keepf h.b0 h.fb0 h2,k.keepf h.b1 h.fb1 h2⟩
theorem TwoN.fr {w w':World} {r:Nat} {v u:Value} (h:TwoN w r v u) (k:Fr w w'):TwoN w' r v u:=h.fx (p:=fun _=>False) (Fx.of_fr k) (fun e=>e) (fun e=>e)
theorem TwoN.new (w:World) (t:TypeId):TwoN ((w.alloc (.cells #[.slice none 0 0,.slice none 0 0] t)).alloc (.cells #[.slice none 0 0,.slice none 0 0] t)) w.heap.size (.slice none 0 0) (.slice none 0 0):=by
 have hf:Fr (w.alloc (.cells #[.slice none 0 0,.slice none 0 0] t)) ((w.alloc (.cells #[.slice none 0 0,.slice none 0 0] t)).alloc (.cells #[.slice none 0 0,.slice none 0 0] t)):=(Fr.refl _).alloc _
 have p1:=new2a w (.slice none 0 0) (.slice none 0 0) t
 have p2:=new2b w (.slice none 0 0) (.slice none 0 0) t
 have p3:=new2a (w.alloc (.cells #[.slice none 0 0,.slice none 0 0] t)) (.slice none 0 0) (.slice none 0 0) t
 have p4:=new2b (w.alloc (.cells #[.slice none 0 0,.slice none 0 0] t)) (.slice none 0 0) (.slice none 0 0) t
 rw [World.size_alloc] at p3 p4
 exact ⟨hf.keep p1.1,hf.keep p2.1,hf.keepf p1.1 p1.2,hf.keepf p2.1 p2.2,p3.1,p4.1,p3.2,p4.2⟩
theorem TwoN.set0 {w:World} {r:Nat} {v u:Value} (h:TwoN w r v u) (v':Value):TwoN (w.setCell ⟨r+1,0,none⟩ v') r v' u:=by
 have hfx:Fx (·=r+1) w (w.setCell ⟨r+1,0,none⟩ v'):=Fx.setCell (p:=(·=r+1)) (q:=⟨r+1,0,none⟩) (Fx.refl _ w) (.inl rfl) _
 have ne:r≠r+1:=by omega
 refine ⟨hfx.keep h.a0 ne,hfx.keep h.a1 ne,hfx.keepf h.a0 h.fa0 ne,hfx.keepf h.a1 h.fa1 ne,World.cell?_setCell_same' _ _ _ (by rw [h.b0]; rfl), ?_,by rw [World.frozen?_setCell]; exact h.fb0,by rw [World.frozen?_setCell]; exact h.fb1⟩
 rw [World.cell?_setCell_other _ _ _ _ (fun e=>by injection e with _ e; omega)]; exact h.b1
theorem TwoN.set1 {w:World} {r:Nat} {v u:Value} (h:TwoN w r v u) (u':Value):TwoN (w.setCell ⟨r+1,1,none⟩ u') r v u':=by
 have hfx:Fx (·=r+1) w (w.setCell ⟨r+1,1,none⟩ u'):=Fx.setCell (p:=(·=r+1)) (q:=⟨r+1,1,none⟩) (Fx.refl _ w) (.inl rfl) _
 have ne:r≠r+1:=by omega
 refine ⟨hfx.keep h.a0 ne,hfx.keep h.a1 ne,hfx.keepf h.a0 h.fa0 ne,hfx.keepf h.a1 h.fa1 ne, ?_,World.cell?_setCell_same' _ _ _ (by rw [h.b1]; rfl),by rw [World.frozen?_setCell]; exact h.fb0,by rw [World.frozen?_setCell]; exact h.fb1⟩
 rw [World.cell?_setCell_other _ _ _ _ (fun e=>by injection e with _ e; omega)]; exact h.b0
def bare (L:List Sy):List (ByteArray×List Int):=L.map fun x=>(x.nm,x.row)
theorem bare_len (L:List Sy):(bare L).length=L.length:=List.length_map _
theorem bare_mem {L:List Sy} {S:List (ByteArray×List Int)} (h:bare L=S) {x:Sy} (hx:x ∈ L):(x.nm,x.row) ∈ S:=by
 rw [← h]; exact List.mem_map.2 ⟨x,hx,rfl⟩
def joinW (l:List ByteArray):ByteArray:=⟨(Lib.join (l.map (·.data.toList)) [32]).toArray⟩
def rowTx (xs:List Int):ByteArray:=⟨#[91]⟩ ++ joinW (xs.map tx) ++ ⟨#[62]⟩
end Go.Proofs.YtcglmebcfeoedaaGreatDoor
