/- Contracts and laws: GAY. -/
import Derived.Test.YtiniigadkknboaaGreatDoorGAW
import Derived.Test.YtiniigadkknboaaGreatDoorGAD
import Derived.Test.YtiniigadkknboaaGreatDoorGAX
import Derived.BigRegionIn
import Derived.Stop.RegionWithIn

set_option maxRecDepth 100000
set_option maxHeartbeats 4000000
namespace Go.Proofs.YtiniigadkknboaaGreatDoor
open Go.RowKit Go.Lib
attribute [local go_sem] Md
def UC (fv:Int→Int) (p:Int):Int:=if p=2 then fv p else fv p+1
def JI (fv:Int→Int) (L:List (Int×Int)):Int:=L.foldl (fun s x=>s+min (x.2 * fv x.1) (x.2 * UC fv x.1)) 0
def JJ (fv:Int→Int) (L:List (Int×Int)):Int:=L.foldl (fun s x=>s+max (x.2 * fv x.1) (x.2 * UC fv x.1)) 0
theorem OM (fv:Int→Int) (L:List (Int×Int)) (x:Int×Int):JI fv (L ++ [x])=JI fv L+min (x.2 * fv x.1) (x.2 * UC fv x.1):=by unfold JI; rw [Js]; rfl
theorem ON (fv:Int→Int) (L:List (Int×Int)) (x:Int×Int):JJ fv (L ++ [x])=JJ fv L+max (x.2 * fv x.1) (x.2 * UC fv x.1):=by unfold JJ; rw [Js]; rfl
theorem KH {x f:Int} (h1:-10000000≤x) (h2:x≤10000000) (h3:0≤f) (h4:f≤1000000001):-20000000000000000≤x * f∧x * f≤20000000000000000:=by
 have h:=AD (show x.natAbs≤10000000 by omega) (show f.natAbs≤1000000001 by omega)
 rw [← Be] at h
 omega
theorem KI (fv:Int→Int):∀ (n:Nat) (L:List (Int×Int)),L.length=n→(∀ x,x ∈ L→-10000000≤x.2∧x.2≤10000000∧0≤fv x.1∧fv x.1≤1000000000)→(-20000000000000000 * (n:Int)≤JI fv L∧JI fv L≤20000000000000000 * (n:Int))∧(-20000000000000000 * (n:Int)≤JJ fv L∧JJ fv L≤20000000000000000 * (n:Int))
 | 0,L,h,_=>by
   obtain rfl:=Bf h
   simp [JI,JJ]
 | n+1,L,h,hL=>by
   have hne:L≠[]:=fun e=>by rw [e] at h; cases h
   obtain ⟨pre,x,rfl⟩:∃ pre x,L=pre ++ [x]:=⟨L.dropLast,L.getLast hne,(List.dropLast_concat_getLast hne).symm⟩
   have ih:=KI fv n pre (by rw [Ar] at h; simpa using h) (fun y hy=>hL y (List.mem_append_left _ hy))
   obtain ⟨a1,a2,a3,a4⟩:=hL x (List.mem_append_right _ (AX.2 rfl))
   have b1:=KH (f:=fv x.1) a1 a2 a3 (by omega)
   have b2:=KH (f:=UC fv x.1) a1 a2 (by unfold UC; split <;> omega) (by unfold UC; split <;> omega)
   rw [OM,ON]
   omega
def Vs (W:World) (b:Nat) (v:Value):Prop:=W.cell? ⟨b,0,none⟩=some v∧W.frozen? ⟨b,0,none⟩=false
theorem Vs.fx {p:Nat→Prop} {W W':World} {b:Nat} {v:Value} (h:Vs W b v) (k:Fx p W W') (hp:¬ p b):Vs W' b v:=⟨k.keep h.1 hp,k.keepf h.1 h.2 hp⟩
structure LU (fv:Int→Int) (W0:World) (B:Nat) (p:Nat→Prop) (s:List (Int×Int)) (W:World):Prop where
 fx:Fx (fun k=>k=B+1+1∨k=B+1+1+1∨k=B+1+1+1+1) W0 W
 pD:∀ k,p k→W0.heap.size+2≤k
 lo:Vs W (B+1+1) (.int .i64 (JI fv s))
 hi:Vs W (B+1+1+1) (.int .i64 (JJ fv s))
 is:Vs W (B+1+1+1+1) (.bool false)
theorem LU.step {fv:Int→Int} {W0:World} {B:Nat} {p p':Nat→Prop} {s:List (Int×Int)} {W W':World} (h:LU fv W0 B p s W) (hB:B+1+1+1+1 < W0.heap.size) (k:Fx (fun k=>p k∨k=W0.heap.size∨k=W0.heap.size+1) W W') (hp':∀ k,p' k→W0.heap.size+2≤k):LU fv W0 B p' s W':=by
 have ne:∀ j,j≤B+1+1+1+1→¬ (p j∨j=W0.heap.size∨j=W0.heap.size+1):=fun j hj e=>by
  rcases e with e | e | e
  ·have:=h.pD j e; omega
  ·omega
  ·omega
 refine ⟨⟨k.os.trans h.fx.os,k.tape.trans h.fx.tape,k.output.trans h.fx.output,As h.fx.size k.size,fun j hj hn=>?_⟩,hp',h.lo.fx k (ne _ (by omega)),h.hi.fx k (ne _ (by omega)),h.is.fx k (ne _ (by omega))⟩
 refine (k.block j (Aq hj h.fx.size) (fun e=>?_)).trans (h.fx.block j hj hn)
 rcases e with e | e | e
 ·have:=h.pD j e; omega
 ·omega
 ·omega
theorem LU.next {fv:Int→Int} {W0:World} {B:Nat} {p:Nat→Prop} {s:List (Int×Int)} {W W':World} (h:LU fv W0 B p s W) (hB:W0.heap.size=B+6) (hf:Fr W W') {x:Int×Int} {lo hi:Int} (hlo:JI fv (s ++ [x])=lo) (hhi:JJ fv (s ++ [x])=hi) :
 Fx (fun k=>¬ p k∧(B≤k∧k≠B+5)∧k≠W0.heap.size∧k≠W0.heap.size+1) W ((W'.setCell ⟨B+1+1,0,none⟩ (.int .i64 lo)).setCell ⟨B+1+1+1,0,none⟩ (.int .i64 hi)).drew ∧
  LU fv W0 B p (s ++ [x]) ((W'.setCell ⟨B+1+1,0,none⟩ (.int .i64 lo)).setCell ⟨B+1+1+1,0,none⟩ (.int .i64 hi)).drew:=by
 have hp:∀ j,j≤B+4→¬ p j:=fun j hj e=>by have:=h.pD j e; omega
 have k1:Fx (fun k=>k=B+1+1∨k=B+1+1+1∨k=B+1+1+1+1) W ((W'.setCell ⟨B+1+1,0,none⟩ (.int .i64 lo)).setCell ⟨B+1+1+1,0,none⟩ (.int .i64 hi)).drew :=
  (Fx.setCell (q:=⟨B+1+1+1,0,none⟩) (Fx.setCell (q:=⟨B+1+1,0,none⟩) (Fx.of_fr hf) (.inl (.inl rfl)) _) (.inl (.inr (.inl rfl))) _).drew
 have c1:=hf.keep h.lo.1
 have c2:=hf.keep h.hi.1
 have f1:=hf.keepf h.lo.1 h.lo.2
 have f2:=hf.keepf h.hi.1 h.hi.2
 have ne:∀ (a b:Nat),a≠b→(⟨a,0,none⟩:Addr)≠⟨b,0,none⟩:=fun a b hab e=>hab (by injection e)
 refine ⟨k1.mono fun k e=>?_,h.fx.trans k1,h.pD,⟨?_, ?_⟩,⟨?_, ?_⟩, ?_⟩
 ·have hk:B≤k∧k≤B+4:=by omega
  exact ⟨hp k hk.2,⟨hk.1,by omega⟩,by omega,by omega⟩
 ·rw [Dl,Ad _ _ _ _ (ne _ _ (by omega)),hlo]
  exact Al _ _ _ (by rw [c1]; rfl)
 ·rw [QT,Am,Am]; exact f1
 ·rw [Dl,hhi]
  exact Al _ _ _ (by rw [Ad _ _ _ _ (ne _ _ (by omega)),c2]; rfl)
 ·rw [QT,Am,Am]; exact f2
 ·have f3:Vs W' (B+1+1+1+1) (.bool false):=h.is.fx (p:=fun _=>False) (Fx.of_fr hf) (fun e=>e)
  refine ⟨?_, ?_⟩
  ·rw [Dl,Ad _ _ _ _ (ne _ _ (by omega)),Ad _ _ _ _ (ne _ _ (by omega))]; exact f3.1
  ·rw [QT,Am,Am]; exact f3.2
theorem PF (fv:Int→Int) (L:List (Int×Int)) (pa fa:Option Addr) (pc fc:Nat) (den:ByteArray) (most:Int) (w:World) (hP:El w iv pa (L.map Prod.fst)) (hF:El w sv fa (L.map Prod.snd)) (hl:L.length≤6) (hm:0≤most∧most≤10000000)
 (hL:∀ x,x ∈ L→-most≤x.2∧x.2≤most∧0≤fv x.1∧fv x.1≤1000000000∧∀ W,Calls Tryz.prog 250 #[.int .i64 x.1] W fun e w'=>e=.returned (.tuple #[.int .i64 (fv x.1),.bool true])∧Fr W w') :
 Calls Tryz.prog 226 #[.agg #[.slice pa L.length pc,.slice fa L.length fc,.string den],.int .i64 most] w fun e w'=>e=.returned (.tuple #[.int .i64 (JI fv L),.int .i64 (JJ fv L),.bool true])∧Fr w w':=by
 refine (CY (n:=4)).1 ?_
 refine callsIn_of_wp_marks Tryz.func226 rfl trivial ?_ rfl
 simp only [Tryz.ntmps226,BL,Aw,DC,Nat.reduceAdd,Nat.reduceSub,DK,DJ,EK,D4,Ex,Fm]
 obtain ⟨n,hn⟩:∃ n,n=L.length:=⟨_,rfl⟩
 rw [← hn] at hl
 rw [← hn]
 obtain ⟨wb,hwb⟩:∃ wb,wb=Ef w [(.cells #[.slice pa n pc,.slice fa n fc,.string den] 256),(.cells #[.int .i64 most] 3),(.cells #[.int .i64 0] 3),(.cells #[.int .i64 0] 3),(.cells #[.bool false] 4)]:=⟨_,rfl⟩
 have hfb:Fr w wb:=by rw [hwb]; exact EG _ w
 have hsz:wb.heap.size=w.heap.size+5:=by rw [hwb]; simp [Ef]
 have hg:∀ (i:Nat) (o:Obj),[(.cells #[.slice pa n pc,.slice fa n fc,.string den] 256),(.cells #[.int .i64 most] 3),(.cells #[.int .i64 0] 3),(.cells #[.int .i64 0] 3),(.cells #[.bool false] 4)][i]?=some o→wb.heap[w.heap.size+i]?=some o:=fun i o h=>by rw [hwb]; exact Cu _ w i o h
 have b1:wb.cell? ⟨w.heap.size+1,0,none⟩=some (.int .i64 most):=A1 (hg 1 _ rfl) 0
 have hfre:∀ (i:Nat) (v:Value) (t:TypeId),wb.heap[w.heap.size+i]?=some (.cells #[v] t (0,0))→Vs wb (w.heap.size+i) v:=fun i v t h=>⟨by rw [A1 h]; rfl,by unfold World.frozen?; rw [h]; rfl⟩
 have b2:=hfre 2 _ _ (hg 2 _ rfl)
 have b3:=hfre 3 _ _ (hg 3 _ rfl)
 have b4:=hfre 4 _ _ (hg 4 _ rfl)
 obtain ⟨W0,hW0⟩:∃ W0,W0=wb.alloc (.cells #[.slice pa n pc,.slice fa n fc,.string den] 256):=⟨_,rfl⟩
 have hf0:Fr wb W0:=by rw [hW0]; exact (Fr.refl _).alloc _
 have hs0:W0.heap.size=w.heap.size+6:=by rw [hW0,AF,hsz]
 have hg0:W0.heap[w.heap.size+5]?=some (.cells #[.slice pa n pc,.slice fa n fc,.string den] 256 (0,0)):=by rw [hW0,← hsz]; exact CB wb _
 have c0:W0.cell? ⟨w.heap.size+5,0,none⟩=some (.slice pa n pc):=A1 hg0 0
 have c1:W0.cell? ⟨w.heap.size+5,1,none⟩=some (.slice fa n fc):=A1 hg0 1
 have hall:=(SR n n pa fa pc fc den wb).mono (fun e w' h=>show e=.returned (.func (.func 251) #[] #[.pointer (some ⟨w.heap.size+5,0,none⟩)])∧w'=W0 from ⟨by rw [h.1,hsz],by rw [h.2,hW0]⟩)
 rw [hwb] at hall
 simp only [Ef] at hall
 replace b1:=hf0.keep b1
 replace b2:=b2.fx (p:=fun _=>False) (Fx.of_fr hf0) (fun e=>e)
 replace b3:=b3.fx (p:=fun _=>False) (Fx.of_fr hf0) (fun e=>e)
 replace b4:=b4.fx (p:=fun _=>False) (Fx.of_fr hf0) (fun e=>e)
 have hfw:=hfb.trans hf0
 obtain ⟨B,hB⟩:∃ B,B=w.heap.size:=⟨_,rfl⟩
 have hbp:∀ b o s,pa=some ⟨b,o,s⟩→L≠[]→b < B:=fun b o s e hne=>by
  rcases hP with h | ⟨b9,o9,h1,h2,-⟩
  ·exact absurd (H5.1 h) hne
  ·rw [h1] at e; injection e with e; injection e with e; rw [hB,← e]; exact h2
 have hbf:∀ b o s,fa=some ⟨b,o,s⟩→L≠[]→b < B:=fun b o s e hne=>by
  rcases hF with h | ⟨b9,o9,h1,h2,-⟩
  ·exact absurd (H5.1 h) hne
  ·rw [h1] at e; injection e with e; injection e with e; rw [hB,← e]; exact h2
 have hseq:=Sa (B+5) B L pa fa pc fc W0 (hP.fr hfw) (hF.fr hfw) (by rw [hB,← hn]; exact c0) (by rw [hB,← hn]; exact c1) hbp hbf (fun k=>B≤k∧k≠B+5) (fun k h=>h) (by rw [← hn]; omega)
 rw [← hB] at b1 b2 b3 b4 hs0
 have hall2:=hZ hall
 replace hn:=hZ hn
 replace hP:=hZ hP
 replace hF:=hZ hF
 replace hL:=hZ hL
 replace hB:=hZ hB
 clear hall c0 c1 hg0 hW0 hf0 hg hfre hwb hfb hsz hbp hbf
 gi_wp2
 refine ⟨trivial,(CY.2 hall2.out).mono ?_⟩
 rintro e W0' ⟨rfl,rfl⟩
 rw [← hB.out]
 clear hall2
 have b2':Vs W0' (B+1+1) (.int .i64 0):=b2
 have b3':Vs W0' (B+1+1+1) (.int .i64 0):=b3
 have b4':Vs W0' (B+1+1+1+1) (.bool false):=b4
 clear b2 b3 b4
 replace hs0:=hZ hs0
 gi_wp2
 refine Og (n:=4) rfl (by omega) (gf:=251) (lb:=#[.pointer (some ⟨B+5,0,none⟩)]) rfl trivial (Ey Tryz.func251 (by kernel_rfl) rfl)
  hseq (Fr.refl _) ⟨by have:=hs0.out; omega,by have:=hs0.out; omega⟩ (fun x=>rfl)
  (fun p pre W=>LU fv W0' B p pre W)
  (fun p p' s W W' h1 h2 h3 h4=>h1.step (by have:=hs0.out; omega) h2 h4)
  ⟨Fx.refl _ _,fun k e=>e.elim,b2',b3',b4'⟩
  (fun p pre x a' W=>(∃ i,pre=L.take i∧L[i]?=some x)∧a'={ tmps:=#[.agg #[.slice pa n pc,.slice fa n fc,.string den],.int .i64 most,.pointer (some ⟨B,0,none⟩),.pointer (some ⟨B+1,0,none⟩),.pointer (some ⟨B+1+1,0,none⟩),.pointer (some ⟨B+1+1+1,0,none⟩),.pointer (some ⟨B+1+1+1+1,0,none⟩),.int .i64 x.1,.string (tx x.2),undef,undef,undef,undef,undef,.agg #[.slice pa n pc,.slice fa n fc,.string den],.func (.func 251) #[] #[.pointer (some ⟨B+5,0,none⟩)],.int .i64 x.1,.string (tx x.2),undef,undef,undef,undef,undef,undef,undef,undef,undef,undef,undef,undef,undef,undef,undef,undef,undef,undef,undef,undef,undef,undef,undef,undef,undef,undef,undef,undef,undef,undef,undef,undef,undef,undef,undef,undef,undef,undef,undef,undef,undef,undef,undef,undef,undef,undef,undef,undef,undef,undef],defers:=[] })
  (fun p pre x a' W W' h k=>h) ?assign ?body ?done
 case assign=>
  intro l p pre x W K hW hp hfr hK
  have hK2:=hZ (fun a' h=>hK a' _ (Fr.refl W) ⟨hfr,h⟩)
  clear hK
  gi_wp2
  exact hK2.out _ rfl
 case body=>
  rintro l p pre ⟨x1,x2⟩ a' W hW hp hI ⟨⟨i,rfl,hxi⟩,rfl⟩
  obtain ⟨x3,x4,x5,x6,hfast⟩:=hL.out (x1,x2) (Af hxi)
  simp only at x3 x4 x5 x6 hfast
  have hlo:=OM fv (L.take i) (x1,x2)
  have hhi:=ON fv (L.take i) (x1,x2)
  simp only at hlo hhi
  have hsm:=hZ (fun W'=>Eg x2 (by omega) (by omega) W')
  have c1:=hI.fx.keep b1 (fun e=>by rcases e with e | e | e <;> (have e9:B+1=_:=e; omega))
  obtain ⟨l1,l2⟩:=hI.lo
  obtain ⟨h1,h2⟩:=hI.hi
  replace hI:=hZ hI
  replace hfast:=hZ hfast
  obtain ⟨f,hf⟩:∃ f,f=fv x1:=⟨_,rfl⟩
  rw [← hf] at x5 x6 hfast hlo hhi
  replace hf:=hZ hf
  have d1:decide (most < x2)=false:=Aa (by omega)
  have d2:decide (x2 < -most)=false:=Aa (by omega)
  obtain ⟨hm1,hm2⟩:=hm
  gi_wp2
  refine ⟨trivial,(CallsIn.inRound l (CY.2 (hsm.out _))).mono ?_⟩
  rintro e w1 ⟨rfl,hf1⟩
  replace c1:=hf1.keep c1
  gi_wp2
  refine ⟨trivial,(CallsIn.inRound l (CY.2 (hfast.out _))).mono ?_⟩
  rintro e w2 ⟨rfl,hf2⟩
  replace c1:=hf2.keep c1
  have l1:=(hf1.trans hf2).keepf l1 l2 |> fun z=>And.intro ((hf1.trans hf2).keep l1) z
  have h1:=(hf1.trans hf2).keepf h1 h2 |> fun z=>And.intro ((hf1.trans hf2).keep h1) z
  obtain ⟨l1,l2⟩:=l1
  obtain ⟨h1,h2⟩:=h1
  have hil:(L.take i).length=i:=by
   have:=(Ae.1 hxi).1
   rw [Av]; omega
  have hi6:i < 6:=by
   have:=(Ae.1 hxi).1
   have:=hn.out
   omega
  have hbd:=KI fv i (L.take i) hil (fun y hy=>by obtain ⟨a1,a2,a3,a4,-⟩:=hL.out y (BZ hy); exact ⟨by omega,by omega,a3,a4⟩)
  have p1:=KH (x:=x2) (f:=f) (by omega) (by omega) x5 (by omega)
  have p2:=KH (x:=x2) (f:=f+1) (by omega) (by omega) (by omega) (by omega)
  replace hil:=hZ hil
  replace hlo:=hZ hlo
  replace hhi:=hZ hhi
  obtain ⟨s1,hs1⟩:∃ s1,s1=JI fv (L.take i):=⟨_,rfl⟩
  obtain ⟨s2,hs2⟩:∃ s2,s2=JJ fv (L.take i):=⟨_,rfl⟩
  rw [← hs1] at l1 hbd
  rw [← hs2] at h1 hbd
  replace hs1:=hZ hs1
  replace hs2:=hZ hs2
  obtain ⟨⟨q1,q2⟩,q3,q4⟩:=hbd
  obtain ⟨p3,p4⟩:=p1
  obtain ⟨p5,p6⟩:=p2
  have ks1:IntKind.i64.wrap (x2 * f)=x2 * f:=Ak _ (by omega)
  have ks2:IntKind.i64.wrap (x2 * (f+1))=x2 * (f+1):=Ak _ (by omega)
  by_cases h22:x1=2
  ·have e2:(x1 == 2)=true:=by rw [h22]; rfl
   have ks3:IntKind.i64.wrap (s1+x2 * f)=s1+x2 * f:=Ak _ (by omega)
   have ks4:IntKind.i64.wrap (s2+x2 * f)=s2+x2 * f:=Ak _ (by omega)
   have hfb:UC fv x1=f:=by unfold UC; rw [Ai h22,hf.out]
   have hlo2:Hid (JI fv (L.take i ++ [(x1,x2)])=s1+x2 * f):=by show _=_; rw [hlo.out,hfb,hs1.out]; simp
   have hhi2:Hid (JJ fv (L.take i ++ [(x1,x2)])=s2+x2 * f):=by show _=_; rw [hhi.out,hfb,hs2.out]; simp
   clear hfb
   gi_wp2
   refine Ic (S:=fun W=>W.cell? ⟨B+1+1+1,0,none⟩=some (.int .i64 s2)) (fun i=>decide (19≤i)) (by kernel_rfl) ((Fr.refl w2).drew.keep h1) (fun hHeld=>?_)
   refine A7 (i:=1) (v:=?_) rfl (by kernel_rfl) (by kernel_rfl) rfl (by kernel_rfl) (by kernel_rfl) (by kernel_rfl) (fun _ _ _ h=>h) (fun _=>rfl) (Or.inl ⟨by rfl, ?_⟩) (by assumption) ?_
   rotate_left
   ·(intro w hSw; (try dsimp only at hSw); go_simp; try (with_reducible rfl))
   change Bv _ _ _ _ _ _ _ _ _ _ (Act.put _ (some 49) _) _
   simp only [Act.put,Ap,Au,AA]
   refine A7 (i:=2) (v:=?_) rfl (by kernel_rfl) (by kernel_rfl) rfl (by kernel_rfl) (by kernel_rfl) (by kernel_rfl) (fun _ _ _ h=>h) (fun _=>rfl) (Or.inl ⟨by rfl, ?_⟩) (by assumption) ?_
   rotate_left
   ·(intro w hSw; (try dsimp only at hSw); go_simp; try (with_reducible rfl))
   change Bv _ _ _ _ _ _ _ _ _ _ (Act.put _ (some 50) _) _
   simp only [Act.put,Ap,Au,AA]
   refine A7 (i:=3) (v:=?_) rfl (by kernel_rfl) (by kernel_rfl) rfl (by kernel_rfl) (by kernel_rfl) (by kernel_rfl) (fun _ _ _ h=>h) (fun _=>rfl) (Or.inl ⟨by rfl, ?_⟩) (by assumption) ?_
   rotate_left
   ·(intro w hSw; (try dsimp only at hSw); go_simp; try (with_reducible rfl))
   change Bv _ _ _ _ _ _ _ _ _ _ (Act.put _ (some 51) _) _
   simp only [Act.put,Ap,Au,AA]
   refine A7 (i:=4) (v:=?_) rfl (by kernel_rfl) (by kernel_rfl) rfl (by kernel_rfl) (by kernel_rfl) (by kernel_rfl) (fun _ _ _ h=>h) (fun _=>rfl) (Or.inl ⟨by rfl, ?_⟩) (by assumption) ?_
   rotate_left
   ·(intro w hSw; (try dsimp only at hSw); go_simp; try (with_reducible rfl))
   change Bv _ _ _ _ _ _ _ _ _ _ (Act.put _ (some 52) _) _
   simp only [Act.put,Ap,Au,AA]
   refine A7 (i:=5) (v:=?_) rfl (by kernel_rfl) (by kernel_rfl) rfl (by kernel_rfl) (by kernel_rfl) (by kernel_rfl) (fun _ _ _ h=>h) (fun _=>rfl) (Or.inl ⟨by rfl, ?_⟩) (by assumption) ?_
   rotate_left
   ·(intro w hSw; (try dsimp only at hSw); go_simp; try (with_reducible rfl))
   change Bv _ _ _ _ _ _ _ _ _ _ (Act.put _ (some 53) _) _
   simp only [Act.put,Ap,Au,AA]
   refine A7 (i:=6) (v:=?_) rfl (by kernel_rfl) (by kernel_rfl) rfl (by kernel_rfl) (by kernel_rfl) (by kernel_rfl) (fun _ _ _ h=>h) (fun _=>rfl) (Or.inl ⟨by rfl, ?_⟩) (by assumption) ?_
   rotate_left
   ·(intro w hSw; (try dsimp only at hSw); go_simp; try (with_reducible rfl))
   change Bv _ _ _ _ _ _ _ _ _ _ (Act.put _ (some 54) _) _
   simp only [Act.put,Ap,Au,AA]
   refine A7 (i:=7) (v:=?_) rfl (by kernel_rfl) (by kernel_rfl) rfl (by kernel_rfl) (by kernel_rfl) (by kernel_rfl) (fun _ _ _ h=>h) (fun _=>rfl) (Or.inl ⟨by rfl, ?_⟩) (by assumption) ?_
   rotate_left
   ·(intro w hSw; (try dsimp only at hSw); go_simp; try (with_reducible rfl))
   change Bv _ _ _ _ _ _ _ _ _ _ (Act.put _ (some 55) _) _
   simp only [Act.put,Ap,Au,AA]
   refine A7 (i:=9) (v:=?_) rfl (by kernel_rfl) (by kernel_rfl) rfl (by kernel_rfl) (by kernel_rfl) (by kernel_rfl) (fun _ _ _ h=>h) (fun _=>rfl) (Or.inl ⟨by rfl, ?_⟩) (by assumption) ?_
   rotate_left
   ·(intro w hSw; (try dsimp only at hSw); go_simp; try (with_reducible rfl))
   change Bv _ _ _ _ _ _ _ _ _ _ (Act.put _ (some 57) _) _
   simp only [Act.put,Ap,Au,AA]
   refine A7 (i:=10) (v:=?_) rfl (by kernel_rfl) (by kernel_rfl) rfl (by kernel_rfl) (by kernel_rfl) (by kernel_rfl) (fun _ _ _ h=>h) (fun _=>rfl) (Or.inl ⟨by rfl, ?_⟩) (by assumption) ?_
   rotate_left
   ·(intro w hSw; (try dsimp only at hSw); go_simp; try (with_reducible rfl))
   change Bv _ _ _ _ _ _ _ _ _ _ (Act.put _ (some 58) _) _
   simp only [Act.put,Ap,Au,AA]
   refine A7 (i:=11) (v:=?_) rfl (by kernel_rfl) (by kernel_rfl) rfl (by kernel_rfl) (by kernel_rfl) (by kernel_rfl) (fun _ _ _ h=>h) (fun _=>rfl) (Or.inl ⟨by rfl, ?_⟩) (by assumption) ?_
   rotate_left
   ·(intro w hSw; (try dsimp only at hSw); go_simp; try (with_reducible rfl))
   change Bv _ _ _ _ _ _ _ _ _ _ (Act.put _ (some 59) _) _
   simp only [Act.put,Ap,Au,AA]
   refine A7 (i:=12) (v:=?_) rfl (by kernel_rfl) (by kernel_rfl) rfl (by kernel_rfl) (by kernel_rfl) (by kernel_rfl) (fun _ _ _ h=>h) (fun _=>rfl) (Or.inl ⟨by rfl, ?_⟩) (by assumption) ?_
   rotate_left
   ·(intro w hSw; (try dsimp only at hSw); go_simp; try (with_reducible rfl))
   change Bv _ _ _ _ _ _ _ _ _ _ (Act.put _ (some 60) _) _
   simp only [Act.put,Ap,Au,AA]
   refine A7 (i:=13) (v:=?_) rfl (by kernel_rfl) (by kernel_rfl) rfl (by kernel_rfl) (by kernel_rfl) (by kernel_rfl) (fun _ _ _ h=>h) (fun _=>rfl) (Or.inl ⟨by rfl, ?_⟩) (by assumption) ?_
   rotate_left
   ·(intro w hSw; (try dsimp only at hSw); go_simp; try (with_reducible rfl))
   change Bv _ _ _ _ _ _ _ _ _ _ (Act.put _ (some 61) _) _
   simp only [Act.put,Ap,Au,AA]
   refine A7 (i:=14) (v:=?_) rfl (by kernel_rfl) (by kernel_rfl) rfl (by kernel_rfl) (by kernel_rfl) (by kernel_rfl) (fun _ _ _ h=>h) (fun _=>rfl) (Or.inl ⟨by rfl, ?_⟩) (by assumption) ?_
   rotate_left
   ·(intro w hSw; (try dsimp only at hSw); go_simp; try (with_reducible rfl))
   change Bv _ _ _ _ _ _ _ _ _ _ (Act.put _ (some 62) _) _
   simp only [Act.put,Ap,Au,AA]
   refine A7 (i:=15) (v:=?_) rfl (by kernel_rfl) (by kernel_rfl) rfl (by kernel_rfl) (by kernel_rfl) (by kernel_rfl) (fun _ _ _ h=>h) (fun _=>rfl) (Or.inl ⟨by rfl, ?_⟩) (by assumption) ?_
   rotate_left
   ·(intro w hSw; (try dsimp only at hSw); go_simp; try (with_reducible rfl))
   change Bv _ _ _ _ _ _ _ _ _ _ (Act.put _ (some 63) _) _
   simp only [Act.put,Ap,Au,AA]
   refine A7 (i:=16) (v:=?_) rfl (by kernel_rfl) (by kernel_rfl) rfl (by kernel_rfl) (by kernel_rfl) (by kernel_rfl) (fun _ _ _ h=>h) (fun _=>rfl) (Or.inl ⟨by rfl, ?_⟩) (by assumption) ?_
   rotate_left
   ·(intro w hSw; (try dsimp only at hSw); go_simp; try (with_reducible rfl))
   change Bv _ _ _ _ _ _ _ _ _ _ (Act.put _ (some 64) _) _
   simp only [Act.put,Ap,Au,AA]
   refine A7 (i:=17) (v:=?_) rfl (by kernel_rfl) (by kernel_rfl) rfl (by kernel_rfl) (by kernel_rfl) (by kernel_rfl) (fun _ _ _ h=>h) (fun _=>rfl) (Or.inl ⟨by rfl, ?_⟩) (by assumption) ?_
   rotate_left
   ·(intro w hSw; (try dsimp only at hSw); go_simp; try (with_reducible rfl))
   change Bv _ _ _ _ _ _ _ _ _ _ (Act.put _ (some 65) _) _
   simp only [Act.put,Ap,Au,AA]
   have l1d:=(Fr.refl w2).drew.keep l1
   refine GU (i:=0) (v:=?_) rfl (by kernel_rfl) (by kernel_rfl) (by rfl) rfl ?_ (fun _=>(by assumption)) ?_
   rotate_left
   ·(go_simp; try (with_reducible rfl))
   change Bv _ _ _ _ _ _ _ _ _ _ (Act.put _ (some 48) _) _
   simp only [Act.put,Ap,Au,AA]
   refine GU (i:=8) (v:=?_) rfl (by kernel_rfl) (by kernel_rfl) (by rfl) rfl ?_ (fun _=>(by assumption)) ?_
   rotate_left
   ·(go_simp; try (with_reducible rfl))
   change Bv _ _ _ _ _ _ _ _ _ _ (Act.put _ (some 56) _) _
   simp only [Act.put,Ap,Au,AA]
   have l2d:=(Fr.refl w2).drew.keepf l1 l2
   have h2d:=(Fr.refl w2).drew.keepf h1 h2
   have h1d:=(Fr.refl w2).drew.keep h1
   refine F0 (i:=18) (w':=?_) rfl (by kernel_rfl) (by kernel_rfl) (by rfl) rfl ?_ (fun hlate=>?_) ?_
   rotate_left
   ·(go_simp; try (with_reducible rfl))
   ·(rw [Dl,Ad _ _ _ _ (fun e=>by injection e with e; omega)]; exact h1)
   change Bv _ _ _ _ _ _ _ _ _ _ (Act.put _ none undef) _
   simp only [Act.put]
   try simp only [ks1,ks3]
   have g1:(w2.setCell ⟨B+1+1,0,none⟩ (.int .i64 (s1+x2 * f))).cell? ⟨B+1+1+1,0,none⟩=some (.int .i64 s2):=by rw [Ad _ _ _ _ (fun e=>by injection e with e; omega)]; exact h1
   have g2:(w2.setCell ⟨B+1+1,0,none⟩ (.int .i64 (s1+x2 * f))).frozen? ⟨B+1+1+1,0,none⟩=false:=by rw [Am]; exact h2
   refine F0 (i:=19) (w':=?_) rfl (by kernel_rfl) (by kernel_rfl) (by rfl) rfl ?_ (fun hlate=>?_) ?_
   rotate_left
   ·(go_simp; try (with_reducible rfl))
   ·(exact absurd hlate (by decide))
   change Bv _ _ _ _ _ _ _ _ _ _ (Act.put _ none undef) _
   simp only [Act.put]
   refine J5 (by kernel_rfl) ?_ _
   try simp only [ks1,ks3,ks4]
   exact hI.out.next hs0.out (hf1.trans hf2) hlo2.out hhi2.out
  ·have e2:(x1 == 2)=false:=A2 h22
   have ks3:IntKind.i64.wrap (s1+min (x2 * f) (x2 * (f+1)))=s1+min (x2 * f) (x2 * (f+1)):=Ak _ (by omega)
   have ks4:IntKind.i64.wrap (s2+max (x2 * f) (x2 * (f+1)))=s2+max (x2 * f) (x2 * (f+1)):=Ak _ (by omega)
   have hfb:UC fv x1=f+1:=by unfold UC; rw [Ag h22,hf.out]
   have hlo2:Hid (JI fv (L.take i ++ [(x1,x2)])=s1+min (x2 * f) (x2 * (f+1))):=by show _=_; rw [hlo.out,hfb,hs1.out]
   have hhi2:Hid (JJ fv (L.take i ++ [(x1,x2)])=s2+max (x2 * f) (x2 * (f+1))):=by show _=_; rw [hhi.out,hfb,hs2.out]
   clear hfb
   gi_wp2
   refine Ic (S:=fun W=>W.cell? ⟨B+1+1+1,0,none⟩=some (.int .i64 s2)) (fun i=>decide (19≤i)) (by kernel_rfl) ((Fr.refl w2).drew.keep h1) (fun hHeld=>?_)
   refine A7 (i:=1) (v:=?_) rfl (by kernel_rfl) (by kernel_rfl) rfl (by kernel_rfl) (by kernel_rfl) (by kernel_rfl) (fun _ _ _ h=>h) (fun _=>rfl) (Or.inl ⟨by rfl, ?_⟩) (by assumption) ?_
   rotate_left
   ·(intro w hSw; (try dsimp only at hSw); go_simp; try (with_reducible rfl))
   change Bv _ _ _ _ _ _ _ _ _ _ (Act.put _ (some 49) _) _
   simp only [Act.put,Ap,Au,AA]
   refine A7 (i:=2) (v:=?_) rfl (by kernel_rfl) (by kernel_rfl) rfl (by kernel_rfl) (by kernel_rfl) (by kernel_rfl) (fun _ _ _ h=>h) (fun _=>rfl) (Or.inl ⟨by rfl, ?_⟩) (by assumption) ?_
   rotate_left
   ·(intro w hSw; (try dsimp only at hSw); go_simp; try (with_reducible rfl))
   change Bv _ _ _ _ _ _ _ _ _ _ (Act.put _ (some 50) _) _
   simp only [Act.put,Ap,Au,AA]
   refine A7 (i:=3) (v:=?_) rfl (by kernel_rfl) (by kernel_rfl) rfl (by kernel_rfl) (by kernel_rfl) (by kernel_rfl) (fun _ _ _ h=>h) (fun _=>rfl) (Or.inl ⟨by rfl, ?_⟩) (by assumption) ?_
   rotate_left
   ·(intro w hSw; (try dsimp only at hSw); go_simp; try (with_reducible rfl))
   change Bv _ _ _ _ _ _ _ _ _ _ (Act.put _ (some 51) _) _
   simp only [Act.put,Ap,Au,AA]
   refine A7 (i:=4) (v:=?_) rfl (by kernel_rfl) (by kernel_rfl) rfl (by kernel_rfl) (by kernel_rfl) (by kernel_rfl) (fun _ _ _ h=>h) (fun _=>rfl) (Or.inl ⟨by rfl, ?_⟩) (by assumption) ?_
   rotate_left
   ·(intro w hSw; (try dsimp only at hSw); go_simp; try (with_reducible rfl))
   change Bv _ _ _ _ _ _ _ _ _ _ (Act.put _ (some 52) _) _
   simp only [Act.put,Ap,Au,AA]
   refine A7 (i:=5) (v:=?_) rfl (by kernel_rfl) (by kernel_rfl) rfl (by kernel_rfl) (by kernel_rfl) (by kernel_rfl) (fun _ _ _ h=>h) (fun _=>rfl) (Or.inl ⟨by rfl, ?_⟩) (by assumption) ?_
   rotate_left
   ·(intro w hSw; (try dsimp only at hSw); go_simp; try (with_reducible rfl))
   change Bv _ _ _ _ _ _ _ _ _ _ (Act.put _ (some 53) _) _
   simp only [Act.put,Ap,Au,AA]
   refine A7 (i:=6) (v:=?_) rfl (by kernel_rfl) (by kernel_rfl) rfl (by kernel_rfl) (by kernel_rfl) (by kernel_rfl) (fun _ _ _ h=>h) (fun _=>rfl) (Or.inl ⟨by rfl, ?_⟩) (by assumption) ?_
   rotate_left
   ·(intro w hSw; (try dsimp only at hSw); go_simp; try (with_reducible rfl))
   change Bv _ _ _ _ _ _ _ _ _ _ (Act.put _ (some 54) _) _
   simp only [Act.put,Ap,Au,AA]
   refine A7 (i:=7) (v:=?_) rfl (by kernel_rfl) (by kernel_rfl) rfl (by kernel_rfl) (by kernel_rfl) (by kernel_rfl) (fun _ _ _ h=>h) (fun _=>rfl) (Or.inl ⟨by rfl, ?_⟩) (by assumption) ?_
   rotate_left
   ·(intro w hSw; (try dsimp only at hSw); go_simp; try (with_reducible rfl))
   change Bv _ _ _ _ _ _ _ _ _ _ (Act.put _ (some 55) _) _
   simp only [Act.put,Ap,Au,AA]
   refine A7 (i:=9) (v:=?_) rfl (by kernel_rfl) (by kernel_rfl) rfl (by kernel_rfl) (by kernel_rfl) (by kernel_rfl) (fun _ _ _ h=>h) (fun _=>rfl) (Or.inl ⟨by rfl, ?_⟩) (by assumption) ?_
   rotate_left
   ·(intro w hSw; (try dsimp only at hSw); go_simp; try (with_reducible rfl))
   change Bv _ _ _ _ _ _ _ _ _ _ (Act.put _ (some 57) _) _
   simp only [Act.put,Ap,Au,AA]
   refine A7 (i:=10) (v:=?_) rfl (by kernel_rfl) (by kernel_rfl) rfl (by kernel_rfl) (by kernel_rfl) (by kernel_rfl) (fun _ _ _ h=>h) (fun _=>rfl) (Or.inl ⟨by rfl, ?_⟩) (by assumption) ?_
   rotate_left
   ·(intro w hSw; (try dsimp only at hSw); go_simp; try (with_reducible rfl))
   change Bv _ _ _ _ _ _ _ _ _ _ (Act.put _ (some 58) _) _
   simp only [Act.put,Ap,Au,AA]
   refine A7 (i:=11) (v:=?_) rfl (by kernel_rfl) (by kernel_rfl) rfl (by kernel_rfl) (by kernel_rfl) (by kernel_rfl) (fun _ _ _ h=>h) (fun _=>rfl) (Or.inl ⟨by rfl, ?_⟩) (by assumption) ?_
   rotate_left
   ·(intro w hSw; (try dsimp only at hSw); go_simp; try (with_reducible rfl))
   change Bv _ _ _ _ _ _ _ _ _ _ (Act.put _ (some 59) _) _
   simp only [Act.put,Ap,Au,AA]
   refine A7 (i:=12) (v:=?_) rfl (by kernel_rfl) (by kernel_rfl) rfl (by kernel_rfl) (by kernel_rfl) (by kernel_rfl) (fun _ _ _ h=>h) (fun _=>rfl) (Or.inl ⟨by rfl, ?_⟩) (by assumption) ?_
   rotate_left
   ·(intro w hSw; (try dsimp only at hSw); go_simp; try (with_reducible rfl))
   change Bv _ _ _ _ _ _ _ _ _ _ (Act.put _ (some 60) _) _
   simp only [Act.put,Ap,Au,AA]
   refine A7 (i:=13) (v:=?_) rfl (by kernel_rfl) (by kernel_rfl) rfl (by kernel_rfl) (by kernel_rfl) (by kernel_rfl) (fun _ _ _ h=>h) (fun _=>rfl) (Or.inl ⟨by rfl, ?_⟩) (by assumption) ?_
   rotate_left
   ·(intro w hSw; (try dsimp only at hSw); go_simp; try (with_reducible rfl))
   change Bv _ _ _ _ _ _ _ _ _ _ (Act.put _ (some 61) _) _
   simp only [Act.put,Ap,Au,AA]
   refine A7 (i:=14) (v:=?_) rfl (by kernel_rfl) (by kernel_rfl) rfl (by kernel_rfl) (by kernel_rfl) (by kernel_rfl) (fun _ _ _ h=>h) (fun _=>rfl) (Or.inl ⟨by rfl, ?_⟩) (by assumption) ?_
   rotate_left
   ·(intro w hSw; (try dsimp only at hSw); go_simp; try (with_reducible rfl))
   change Bv _ _ _ _ _ _ _ _ _ _ (Act.put _ (some 62) _) _
   simp only [Act.put,Ap,Au,AA]
   refine A7 (i:=15) (v:=?_) rfl (by kernel_rfl) (by kernel_rfl) rfl (by kernel_rfl) (by kernel_rfl) (by kernel_rfl) (fun _ _ _ h=>h) (fun _=>rfl) (Or.inl ⟨by rfl, ?_⟩) (by assumption) ?_
   rotate_left
   ·(intro w hSw; (try dsimp only at hSw); go_simp; try (with_reducible rfl))
   change Bv _ _ _ _ _ _ _ _ _ _ (Act.put _ (some 63) _) _
   simp only [Act.put,Ap,Au,AA]
   refine A7 (i:=16) (v:=?_) rfl (by kernel_rfl) (by kernel_rfl) rfl (by kernel_rfl) (by kernel_rfl) (by kernel_rfl) (fun _ _ _ h=>h) (fun _=>rfl) (Or.inl ⟨by rfl, ?_⟩) (by assumption) ?_
   rotate_left
   ·(intro w hSw; (try dsimp only at hSw); go_simp; try (with_reducible rfl))
   change Bv _ _ _ _ _ _ _ _ _ _ (Act.put _ (some 64) _) _
   simp only [Act.put,Ap,Au,AA]
   refine A7 (i:=17) (v:=?_) rfl (by kernel_rfl) (by kernel_rfl) rfl (by kernel_rfl) (by kernel_rfl) (by kernel_rfl) (fun _ _ _ h=>h) (fun _=>rfl) (Or.inl ⟨by rfl, ?_⟩) (by assumption) ?_
   rotate_left
   ·(intro w hSw; (try dsimp only at hSw); go_simp; try (with_reducible rfl))
   change Bv _ _ _ _ _ _ _ _ _ _ (Act.put _ (some 65) _) _
   simp only [Act.put,Ap,Au,AA]
   have l1d:=(Fr.refl w2).drew.keep l1
   refine GU (i:=0) (v:=?_) rfl (by kernel_rfl) (by kernel_rfl) (by rfl) rfl ?_ (fun _=>(by assumption)) ?_
   rotate_left
   ·(go_simp; try (with_reducible rfl))
   change Bv _ _ _ _ _ _ _ _ _ _ (Act.put _ (some 48) _) _
   simp only [Act.put,Ap,Au,AA]
   refine GU (i:=8) (v:=?_) rfl (by kernel_rfl) (by kernel_rfl) (by rfl) rfl ?_ (fun _=>(by assumption)) ?_
   rotate_left
   ·(go_simp; try (with_reducible rfl))
   change Bv _ _ _ _ _ _ _ _ _ _ (Act.put _ (some 56) _) _
   simp only [Act.put,Ap,Au,AA]
   have l2d:=(Fr.refl w2).drew.keepf l1 l2
   have h2d:=(Fr.refl w2).drew.keepf h1 h2
   have h1d:=(Fr.refl w2).drew.keep h1
   refine F0 (i:=18) (w':=?_) rfl (by kernel_rfl) (by kernel_rfl) (by rfl) rfl ?_ (fun hlate=>?_) ?_
   rotate_left
   ·(go_simp; try (with_reducible rfl))
   ·(rw [Dl,Ad _ _ _ _ (fun e=>by injection e with e; omega)]; exact h1)
   change Bv _ _ _ _ _ _ _ _ _ _ (Act.put _ none undef) _
   simp only [Act.put]
   try simp only [ks1,ks2,ks3]
   have g1:(w2.setCell ⟨B+1+1,0,none⟩ (.int .i64 (s1+min (x2 * f) (x2 * (f+1))))).cell? ⟨B+1+1+1,0,none⟩=some (.int .i64 s2):=by rw [Ad _ _ _ _ (fun e=>by injection e with e; omega)]; exact h1
   have g2:(w2.setCell ⟨B+1+1,0,none⟩ (.int .i64 (s1+min (x2 * f) (x2 * (f+1))))).frozen? ⟨B+1+1+1,0,none⟩=false:=by rw [Am]; exact h2
   refine F0 (i:=19) (w':=?_) rfl (by kernel_rfl) (by kernel_rfl) (by rfl) rfl ?_ (fun hlate=>?_) ?_
   rotate_left
   ·(go_simp; try (with_reducible rfl))
   ·(exact absurd hlate (by decide))
   change Bv _ _ _ _ _ _ _ _ _ _ (Act.put _ none undef) _
   simp only [Act.put]
   refine J5 (by kernel_rfl) ?_ _
   try simp only [ks1,ks2,ks3,ks4]
   exact hI.out.next hs0.out (hf1.trans hf2) hlo2.out hhi2.out
 case done=>
  intro p xs W hS hI hK
  rw [hS] at hI
  obtain ⟨l1,l2⟩:=hI.lo
  obtain ⟨h1,h2⟩:=hI.hi
  obtain ⟨i1,i2⟩:=hI.is
  have hfr:Fr w W:=((Fx.of_fr hfw).trans hI.fx).toFr (fun k hk e=>by have:=hB.out; omega)
  obtain ⟨lo,hlo⟩:∃ lo,lo=JI fv L:=⟨_,rfl⟩
  obtain ⟨hi,hhi⟩:∃ hi,hi=JJ fv L:=⟨_,rfl⟩
  rw [← hlo] at l1
  rw [← hhi] at h1
  replace hlo:=hZ hlo
  replace hhi:=hZ hhi
  clear hI hS hseq hL
  gi_wp2
  have hmx:Tryz.prog.follows .mixedOrders=true:=by kernel_rfl
  have g1:(W.setCell ⟨B+1+1,0,none⟩ (.int .i64 lo)).cell? ⟨B+1+1+1,0,none⟩=some (.int .i64 hi):=by rw [Ad _ _ _ _ (fun e=>by injection e with e; omega)]; exact h1
  have g2:(W.setCell ⟨B+1+1,0,none⟩ (.int .i64 lo)).frozen? ⟨B+1+1+1,0,none⟩=false:=by rw [Am]; exact h2
  have g3:((W.setCell ⟨B+1+1,0,none⟩ (.int .i64 lo)).setCell ⟨B+1+1+1,0,none⟩ (.int .i64 hi)).cell? ⟨B+1+1+1+1,0,none⟩=some (.bool false):=by rw [Ad _ _ _ _ (fun e=>by injection e with e; omega),Ad _ _ _ _ (fun e=>by injection e with e; omega)]; exact i1
  have g4:((W.setCell ⟨B+1+1,0,none⟩ (.int .i64 lo)).setCell ⟨B+1+1+1,0,none⟩ (.int .i64 hi)).frozen? ⟨B+1+1+1+1,0,none⟩=false:=by rw [Am,Am]; exact i2
  gi_region
  gi_wp2
  obtain ⟨W9,hW9⟩:∃ W9,W9=(((W.setCell ⟨B+1+1,0,none⟩ (.int .i64 lo)).setCell ⟨B+1+1+1,0,none⟩ (.int .i64 hi)).setCell ⟨B+1+1+1+1,0,none⟩ (.bool true)).drew:=⟨_,rfl⟩
  have ne:∀ (a b:Nat),a≠b→(⟨a,0,none⟩:Addr)≠⟨b,0,none⟩:=fun a b hab e=>hab (by injection e)
  have r1:W9.cell? ⟨B+1+1,0,none⟩=some (.int .i64 lo):=by
   rw [hW9,Dl,Ad _ _ _ _ (ne _ _ (by omega)),Ad _ _ _ _ (ne _ _ (by omega))]
   exact Al _ _ _ (by rw [l1]; rfl)
  have r2:W9.cell? ⟨B+1+1+1,0,none⟩=some (.int .i64 hi):=by
   rw [hW9,Dl,Ad _ _ _ _ (ne _ _ (by omega))]
   exact Al _ _ _ (by rw [g1]; rfl)
  have r3:W9.cell? ⟨B+1+1+1+1,0,none⟩=some (.bool true):=by
   rw [hW9,Dl]
   exact Al _ _ _ (by rw [g3]; rfl)
  have hfx9:Fx (fun k=>k=B+1+1∨k=B+1+1+1∨k=B+1+1+1+1) W W9:=by
   rw [hW9]
   exact (Fx.setCell (q:=⟨B+1+1+1+1,0,none⟩) (Fx.setCell (q:=⟨B+1+1+1,0,none⟩) (Fx.setCell (q:=⟨B+1+1,0,none⟩) (Fx.refl _ _) (.inl (.inl rfl)) _) (.inl (.inr (.inl rfl))) _) (.inl (.inr (.inr rfl))) _).drew
  have hK9:W9.heap[W0'.heap.size]?=some (.deferred (some [])):=(hfx9.block _ (A8.1 hK).1 (fun e=>by have:=hs0.out; omega)).trans hK
  have hfr9:Fr w W9:=((Fx.of_fr hfr).trans hfx9).toFr (fun k hk e=>by have:=hB.out; omega)
  rw [← hW9]
  clear hW9
  refine ⟨by simp,.inl ⟨_,_,rfl,run_takeDeferred hK9, ?_⟩⟩
  have hpo:=Fx.putObj W9 W0'.heap.size (.deferred none)
  have q1:=hpo.keep r1 (fun e=>by have e:B+1+1=W0'.heap.size:=e; have:=hs0.out; omega)
  have q2:=hpo.keep r2 (fun e=>by have e:B+1+1+1=W0'.heap.size:=e; have:=hs0.out; omega)
  have q3:=hpo.keep r3 (fun e=>by have e:B+1+1+1+1=W0'.heap.size:=e; have:=hs0.out; omega)
  refine ⟨.tuple #[.int .i64 lo,.int .i64 hi,.bool true],by simp [results,Tryz.results226,go_sem,q1,q2,q3],by rw [hlo.out,hhi.out], ?_⟩
  exact ((Fx.of_fr hfr9).trans hpo).toFr (fun k hk e=>by have e:k=W0'.heap.size:=e; have:=hs0.out; have:=hB.out; omega)
end Go.Proofs.YtiniigadkknboaaGreatDoor
