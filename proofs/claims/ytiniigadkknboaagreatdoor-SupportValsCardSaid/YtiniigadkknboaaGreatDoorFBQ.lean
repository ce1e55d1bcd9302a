/- Contracts and laws: FBQ. -/
import Derived.Test.YtiniigadkknboaaGreatDoorFBP
import Derived.Test.YtiniigadkknboaaGreatDoorFAY
import Derived.Test.YtiniigadkknboaaGreatDoorFBA
import Derived.Test.YtiniigadkknboaaGreatDoorFBG
import Derived.Sort.CutIn

set_option maxRecDepth 100000
set_option maxHeartbeats 8000000
namespace Go.Proofs.YtiniigadkknboaaGreatDoor
open Go.RowKit Go.Lib
attribute [local go_sem] It
structure QA (form:List (List Int)) (x:List Int) (W0:World) (Mb rg:Nat) (p:Nat→Prop) (k:Nat) (W:World):Prop where
 fx:Fx (fun j=>j=rg∨j=Mb) W0 W
 pD:∀ k,p k→W0.heap.size+2≤k
 st:∃ s v,Gd form x k=some s∧EN W rg 0 s.1∧N0 W Mb v∧W.ownsRow (W0.heap.size+2) 80 1 v s.2.length (s.2.map sv)∧∀ g,v.ownBlock=some g→¬ p g∧g < W.heap.size
theorem QA.step {form:List (List Int)} {x:List Int} {W0:World} {Mb rg:Nat} {p p':Nat→Prop} {i:Nat} {W W':World} (h:QA form x W0 Mb rg p i W) (hM:Mb < W0.heap.size) (hR:rg < W0.heap.size) (k:Fx (fun k=>p k∨k=W0.heap.size∨k=W0.heap.size+1) W W') (hp:∀ k,p' k→p k∨(W.heap.size≤k∧k < W'.heap.size)) (hp2:∀ k,p' k→W0.heap.size+2≤k):QA form x W0 Mb rg p' i W':=by
 obtain ⟨s,v,h1,h2,h3,h4,h5⟩:=h.st
 have hlow:∀ j,j < W0.heap.size→¬ (p j∨j=W0.heap.size∨j=W0.heap.size+1):=fun j hj e=>by
  rcases e with e | e | e
  ·have:=h.pD j e; omega
  ·omega
  ·omega
 refine ⟨⟨k.os.trans h.fx.os,k.tape.trans h.fx.tape,k.output.trans h.fx.output,Ar h.fx.size k.size,fun j hj hne=>(k.block j (An hj h.fx.size) (hlow j hj)).trans (h.fx.block j hj hne)⟩,hp2,s,v,h1,h2.fx k (hlow rg hR),h3.fx k (hlow Mb hM),BG h4 k (fun g hg e=>?_),fun g hg=>?_⟩
 ·have hb:=Eg h4 g hg
  rcases e with e | e | e
  ·exact (h5 g hg).1 e
  ·omega
  ·omega
 ·refine ⟨fun e=>?_,An (h5 g hg).2 k.size⟩
  rcases hp g e with e | e
  ·exact (h5 g hg).1 e
  ·have:=(h5 g hg).2; omega
theorem QA.push {form:List (List Int)} {x:List Int} {W0 W w2 w3:World} {Mb rg:Nat} {p:Nat→Prop} {i:Nat} {v v':Value} {o:Obj} {s s':List Int×List Int} {q:Int}
 (hM:Mb < W0.heap.size) (hR:rg < W0.heap.size) (hMR:rg≠Mb) (x6:Fx (fun j=>j=rg∨j=Mb) W0 W) (x5:∀ k,p k→W0.heap.size+2≤k) (o4:∀ g,v.ownBlock=some g→¬ p g∧g < W.heap.size) (hp:∀ k,p k→k < W.heap.size)
 (hfZ:Fx (·=rg) W w2) (hO:EN w2 rg 0 s'.1) (y6:w2.ownsRow (W0.heap.size+2) 80 1 v s.2.length (s.2.map sv)) (hFx:Fx (fun k=>v.ownBlock=some k) (w2.alloc o) w3)
 (hown:w3.ownsRow (W0.heap.size+2) 80 1 v' (s.2.length+1) (s.2.map sv ++ [sv q])) (hat:v'.ownBlock=v.ownBlock∨v'.ownBlock=some (w2.alloc o).heap.size) (u:N0 w3 Mb v) (hred:Gd form x (i+1)=some s') (hs':s'.2=s.2 ++ [q]) :
 QA form x W0 Mb rg p (i+1) (w3.setCell ⟨Mb,0,none⟩ v')∧Fx (fun k=>v.ownBlock=some k∨k=Mb∨k=rg) W (w3.setCell ⟨Mb,0,none⟩ v'):=by
 have hvo:∀ k,v.ownBlock=some k→W0.heap.size+2≤k:=fun k hk=>Eg y6 k hk
 have hFA:Fx (·=rg) W (w2.alloc o):=hfZ.trans (Fx.of_fr ((Fr.refl w2).alloc o))
 have hF1:Fx (fun k=>v.ownBlock=some k∨k=Mb∨k=rg) W w3:=(hFA.mono fun k e=>.inr (.inr e)).trans (hFx.mono fun k e=>.inl e)
 have hF2:=hF1.setCell (q:=⟨Mb,0,none⟩) (.inl (.inr (.inl rfl))) v'
 have hS:Fx (·=Mb) w3 (w3.setCell ⟨Mb,0,none⟩ v'):=Fx.setCell (p:=(·=Mb)) (q:=⟨Mb,0,none⟩) (Fx.refl _ w3) (.inl rfl) _
 refine ⟨⟨⟨hF2.os.trans x6.os,hF2.tape.trans x6.tape,hF2.output.trans x6.output,Ar x6.size hF2.size,fun j hj hne=>(hF2.block j (An hj x6.size) (fun e=>?_)).trans (x6.block j hj hne)⟩,x5,s',v',hred, ?_,⟨Al _ _ _ (by rw [u.1]; rfl),by rw [Ao]; exact u.2⟩, ?_,fun g hg=>?_⟩,hF2⟩
 ·rcases e with e | e | e
  ·have:=hvo j e; omega
  ·exact hne (.inr e)
  ·exact hne (.inl e)
 ·exact ((hO.fr ((Fr.refl w2).alloc o)).fx hFx (fun e=>by have:=hvo _ e; omega)).fx hS hMR
 ·rw [hs',AB,AD]
  refine BG hown hS (fun g hg e=>?_)
  have e:g=Mb:=e
  have:=Eg hown g hg
  omega
 ·have hlt:=(hown.lt g hg).2
  refine ⟨fun e=>?_,An hlt hS.size⟩
  rcases hat with h | h
  ·exact (o4 g (by rw [← h]; exact hg)).1 e
  ·rw [h] at hg
   injection hg with hg
   have:=hp g e
   have:=hFA.size
   omega
def Tk (w:World) (s:List Int×List Int) (e:Ending) (w':World):Prop:=∃ b c v,e=.returned (.tuple #[.slice (some ⟨b,0,none⟩) s.1.length c,v])∧EN w' b 0 s.1∧w'.ownsRow w.heap.size 80 1 v s.2.length (s.2.map sv)∧Fr w w'
theorem QG (form:List (List Int)) (xs:List Int) (s9:List Int×List Int) (a xa:Option Addr) (cap cx n:Nat) (w:World) (hG:G w) (hm:A2 w a form) (hr:Bq n form) (hn2:n≤1000000) (hl:form.length≤1000) (hb:∀ r,r ∈ form→∀ x,x ∈ r→Sm x)
 (hx:El w iv xa xs) (hxl:xs.length=n) (hxb:∀ x,x ∈ xs→Sm x) (hred:Gd form xs form.length=some s9) :
 Calls Tryz.prog 72 #[.agg #[.int .i64 n,.slice a form.length cap],.slice xa n cx] w (Tk w s9):=by
 have hgn:=Fe hG
 obtain ⟨i2,ki,kz0,kz1,kz2⟩:=A5 HC
 refine (BV (n:=4)).1 ?_
 refine callsIn_of_wp_marks Tryz.func72 rfl trivial ?_ rfl
 simp only [Tryz.ntmps72,CG,Ay,CM,Nat.reduceAdd,Nat.reduceSub,CV,CU,Du,C6,D5,DG]
 obtain ⟨N,hN⟩:∃ N,N=form.length:=⟨_,rfl⟩
 rw [← hN] at hl hred
 rw [← hN]
 unfold Tk
 obtain ⟨wb,hwb⟩:∃ wb,wb=Dj w [(.cells #[.int .i64 n,.slice a N cap] 76),(.cells #[.slice none 0 0] 120),(.cells #[.slice none 0 0] 120)]:=⟨_,rfl⟩
 have hfb:Fr w wb:=by rw [hwb]; exact Ds _ w
 have hsz:wb.heap.size=w.heap.size+3:=by rw [hwb]; simp [Dj]
 have hg:∀ (i:Nat) (o:Obj),[(.cells #[.int .i64 n,.slice a N cap] 76),(.cells #[.slice none 0 0] 120),(.cells #[.slice none 0 0] 120)][i]?=some o→wb.heap[w.heap.size+i]?=some o:=fun i o h=>by rw [hwb]; exact BT _ w i o h
 have b0:wb.cell? ⟨w.heap.size,0,none⟩=some (.int .i64 n):=AH (hg 0 _ rfl) 0
 have b1:wb.cell? ⟨w.heap.size,1,none⟩=some (.slice a N cap):=AH (hg 0 _ rfl) 1
 have hfre:∀ (i:Nat) (v:Value) (t:TypeId),wb.heap[w.heap.size+i]?=some (.cells #[v] t (0,0))→N0 wb (w.heap.size+i) v:=fun i v t h=>⟨by rw [AH h]; rfl,by unfold World.frozen?; rw [h]; rfl⟩
 have f1:=hfre 1 _ _ (hg 1 _ rfl)
 have f2:=hfre 2 _ _ (hg 2 _ rfl)
 obtain ⟨B,hB⟩:∃ B,B=w.heap.size:=⟨_,rfl⟩
 rw [← hB] at b0 b1 f1 f2 hsz
 have hlo:Calls Tryz.prog 110 #[.slice xa n cx] wb fun e w'=>∃ g c,e=.returned (.slice (some ⟨g,0,none⟩) n c)∧Fr wb w'∧B+3≤g∧EN w' g 0 xs:=by
  have h9:=HA xs xa cx wb (hG.fr hfb) (hx.fr hfb) (by omega) hxb
  rw [hxl] at h9
  exact h9.mono fun e w' ⟨g,c,h1,h2,h3⟩=>by
   obtain ⟨k1,-,-,k4,-⟩:=Eh (Fe (hG.fr hfb)) h3
   exact ⟨g,c,by rw [h1,hxl],h2,by omega,k1⟩
 rw [hwb] at hlo
 simp only [Dj] at hlo
 have hme:∀ (p:Nat→Prop) W0 W,(∀ k,p k→B≤k)→Fr w W0→Fx p W0 W→A2 W a form:=fun p W0 W hp h k=>hm.fxb h k (fun j hj e=>by have:=hp j e; omega)
 have hge:∀ (p:Nat→Prop) W0 W,(∀ k,p k→B≤k)→Fr w W0→Fx p W0 W→G W:=fun p W0 W hp h k=>(hG.fr h).fx k (fun j e=>by have:=hp j e; omega)
 have h0B:gN≤B:=by omega
 replace hN:=hZ hN
 replace hme:=hZ hme
 replace hge:=hZ hge
 replace hr:=hZ hr
 replace hb:=hZ hb
 replace hxl:=hZ hxl
 replace hred:=hZ hred
 replace hlo:=hZ hlo
 replace hB:=hZ hB
 clear hm hG hx hxb hg hfre
 gi_wp2
 refine ⟨trivial,(BV.2 hlo.out).mono ?_⟩
 rintro e w1 ⟨rg,rc,rfl,hf1,hrg,hO1⟩
 replace hf1:Fr wb w1:=by rw [hwb]; exact hf1
 rw [← hB.out]
 clear hlo hwb
 have f1':N0 w1 (B+1) (.slice none 0 0):=f1.fx (p:=fun _=>False) (Fx.of_fr hf1) (fun e=>e)
 have f2':N0 w1 (B+1+1) (.slice none 0 0):=f2.fx (p:=fun _=>False) (Fx.of_fr hf1) (fun e=>e)
 obtain ⟨u1,u2⟩:=f1'
 obtain ⟨W1,hW1⟩:∃ W,W=w1.setCell ⟨B+1,0,none⟩ (.slice (some ⟨rg,0,none⟩) n rc):=⟨_,rfl⟩
 have hfx1:Fx (·=B+1) w1 W1:=by rw [hW1]; exact Fx.setCell (p:=(·=B+1)) (q:=⟨B+1,0,none⟩) (Fx.refl _ w1) (.inl rfl) _
 have hfw1:Fr w W1:=((Fx.of_fr (hfb.trans hf1)).trans hfx1).toFr (fun k hk e=>by have e:k=B+1:=e; have:=hB.out; omega)
 have r1:W1.cell? ⟨B+1,0,none⟩=some (.slice (some ⟨rg,0,none⟩) n rc):=by rw [hW1]; exact Al _ _ _ (by rw [u1]; rfl)
 have r2:W1.frozen? ⟨B+1,0,none⟩=false:=by rw [hW1,Ao]; exact u2
 have hm1:N0 W1 (B+1+1) (.slice none 0 0):=f2'.fx hfx1 (fun e=>by have e:B+1+1=B+1:=e; omega)
 have k0:W1.cell? ⟨B,0,none⟩=some (.int .i64 n):=hfx1.keep (hf1.keep b0) (fun e=>by have e:B=B+1:=e; omega)
 have k1:W1.cell? ⟨B,1,none⟩=some (.slice a N cap):=hfx1.keep (hf1.keep b1) (fun e=>by have e:B=B+1:=e; omega)
 have hO2:=hO1.fx hfx1 (fun e=>by have e:rg=B+1:=e; omega)
 have hsz1:B+3≤W1.heap.size:=by have:=hf1.size; have:=hfx1.size; omega
 gi_upto_region 2 with (fail)
 rw [← hW1]
 clear hW1 f1 f2 f2' b0 b1 u1 u2 hO1 hfx1 hf1 hfb hsz
 gi_wp2
 refine ⟨trivial,(BV.2 (Ri n a N cap W1)).mono ?_⟩
 rintro e W0 ⟨rfl,hW0⟩
 obtain ⟨pb,hpb⟩:∃ pb,pb=W1.heap.size:=⟨_,rfl⟩
 have hf0:Fr W1 W0:=by rw [hW0]; exact (Fr.refl _).alloc _
 have hs0:W0.heap.size=pb+1:=by rw [hW0,AC,hpb]
 have hc1:W0.cell? ⟨pb,1,none⟩=some (.slice a form.length cap):=by
  have h9:=(Ce W1 (.int .i64 n) (.slice a N cap) 76).1
  rw [← hW0,← hpb] at h9
  rw [← hN.out]; exact h9
 rw [← hpb] at hsz1 ⊢
 have hfw0:=hfw1.trans hf0
 have hrg0:rg < pb:=by rw [hpb]; exact hO2.2.1
 have hseq:=Rh pb n cap form a W0 (fun k=>B≤k∧k≠pb) hc1 (fun W hW=>hge.out _ W0 W (fun k e=>e.1) hfw0 hW) (fun W hW=>hme.out _ W0 W (fun k e=>e.1) hfw0 hW) (fun e=>e.2 rfl) hr.out hn2 (by rw [← hN.out]; exact hl) hb.out
 replace hs0:=hZ hs0
 replace hpb:=hZ hpb
 have r1':=hf0.keep r1
 have r2':=hf0.keepf r1 r2
 have hm0:N0 W0 (B+1+1) (.slice none 0 0):=hm1.fx (p:=fun _=>False) (Fx.of_fr hf0) (fun e=>e)
 have hO0:=hO2.fr hf0
 clear hW0 hc1 r1 r2 k0 k1 hm1 hO2 hf0 hfw1
 gi_wp2
 refine KL (n:=4) rfl (by omega) (gf:=154) (lb:=#[.pointer (some ⟨pb,0,none⟩)]) rfl trivial (D2 Tryz.func154 (by kernel_rfl) rfl)
  hseq (Fr.refl _) ⟨by have:=hs0.out; omega,by have:=hs0.out; omega⟩ (fun x=>rfl)
  (fun p pre W=>QA form xs W0 (B+1+1) rg p pre.length W)
  (fun p p' s W W' h1 h2 h3 h4=>h1.step (by have:=hs0.out; omega) (by have:=hs0.out; omega) h2 h3 h4)
  ⟨Fx.refl _ _,fun k e=>e.elim,(xs,[]),.slice none 0 0,rfl,hO0,hm0,Br _ _ _ _,fun g hg=>by simp [Value.ownBlock] at hg⟩
  (fun p pre x a' W=>form[pre.length]?=some x.xs∧W0.heap.size+2≤x.g∧EN W x.g 0 x.xs∧a'={ tmps:=#[.agg #[.int .i64 n,.slice a N cap],.slice xa n cx,.pointer (some ⟨B,0,none⟩),undef,.pointer (some ⟨B+1,0,none⟩),.pointer (some ⟨B+1+1,0,none⟩),.int .i64 (FG x.xs),.slice (some ⟨x.g,0,none⟩) n x.c,undef,undef,undef,.slice xa n cx,.slice (some ⟨rg,0,none⟩) n rc,.agg #[.int .i64 n,.slice a N cap],.func (.func 154) #[] #[.pointer (some ⟨pb,0,none⟩)],.int .i64 (FG x.xs),.slice (some ⟨x.g,0,none⟩) n x.c,undef,undef,undef,undef,undef,undef,undef,undef,undef,undef,undef,undef,undef,undef,undef,undef,undef,undef,undef,undef,undef,undef,undef],defers:=[] })
  (fun p pre x a' W W' h k=>⟨h.1,h.2.1,h.2.2.1.fx k (fun e=>by have e:x.g=W0.heap.size+1:=e; have:=h.2.1; omega),h.2.2.2⟩) ?assign ?body ?done
 case assign=>
  intro l p pre x W K hW hp hfr hK
  have hK2:=hZ (fun a' h=>hK a' _ (Fr.refl W) ⟨hfr.1,hfr.2.1,hfr.2.2,h⟩)
  clear hK
  simp only [PV.enc]
  gi_wp2
  exact hK2.out _ rfl
 case body=>
  rintro l p pre x a' W hW hp hI ⟨hfx1,hxg,hxO,rfl⟩
  obtain ⟨s,v,st1,st2,⟨st3,st3f⟩,st4,st5⟩:=hI.st
  have hi:pre.length < N:=by rw [hN.out]; exact (Ag.1 hfx1).1
  obtain ⟨s',hst9⟩:=Kn N (pre.length+1) s9 hred.out (by omega)
  have hst:=hst9
  rw [Gd,st1] at hst
  replace hst:Gz (BB form pre.length) s=some s':=hst
  rw [show BB form pre.length=x.xs from by unfold BB; rw [hfx1]; rfl] at hst
  obtain ⟨q1,q2,q3,q4,q5⟩:=Hu hst
  obtain ⟨k,hk,hkl⟩:∃ k:Nat,EE x.xs=k∧k < x.xs.length:=by
   unfold EE at q3 ⊢
   rcases G6 (fun y:Int=>y != 0) x.xs with ⟨-,h2⟩ | ⟨k,y,h1,h2,-⟩
   ·exfalso
    apply q3
    cases e:x.xs[(Pb (fun y:Int=>y != 0) x.xs).toNat]? with
    | none=>rfl
    | some y=>have:=h2 y (Af e); simpa using this
   ·exact ⟨k,h1,(Ag.1 h2).1⟩
  rw [hk,AR] at q1 q2 q3 q4 q5
  have hsl:=ED _ s st1
  have sl:s.1.length=n:=hsl.1.trans hxl.out
  have rl:x.xs.length=n:=hr.out x.xs (Af hfx1)
  have hkn:k < n:=by omega
  obtain ⟨y,hy⟩:∃ y,s.1[k]?=some y:=⟨_,Ac (by omega)⟩
  obtain ⟨z,hz⟩:∃ z,x.xs[k]?=some z:=⟨_,Ac hkl⟩
  rw [hy] at q1 q4 q5
  rw [hz] at q2 q3 q4 q5
  simp only [Bm] at q1 q2 q3 q4 q5
  have hle:FG x.xs=k:=hk
  rw [hle]
  have hGW:G W:=hge.out _ W0 W (fun j e=>by rcases e with e | e <;> omega) hfw0 hI.fx
  have r1:=hI.fx.keep r1' (fun e=>by rcases e with e | e <;> (have e9:B+1=_:=e; omega))
  have n1:=(st2.2.2 k y hy).1
  have n2:=(hxO.2.2 k z hz).1
  rw [AU] at n1 n2
  have hsz9:=hs0.out
  have hdv:=hZ (fun W' (hW':Fr W W')=>Is y z q1 q2 q3 W' (hGW.fr hW'))
  obtain ⟨q,hq⟩:∃ q,q=y.fdiv z:=⟨_,rfl⟩
  rw [← hq] at q4 q5 hdv
  have hls:=hZ (fun W' (hW':Fr W W')=>PX rg 0 rc x.g 0 x.c n n q s.1 x.xs s'.1 W' (hGW.fr hW') (st2.fr hW') (hxO.fr hW') (by omega) (by omega) sl.symm rl.symm (by omega) q4)
  obtain ⟨yb,hyb⟩:∃ yb,yb=x.g:=⟨_,rfl⟩
  obtain ⟨yc,hyc⟩:∃ yc,yc=x.c:=⟨_,rfl⟩
  rw [← hyb] at n2 hls hxg
  rw [← hyc] at hls
  rw [← hyb,← hyc]
  have z2:(0:Int)≤(k:Int):=Ak _
  have z3:(k:Int) < (n:Int):=by omega
  have hmx:Tryz.prog.follows .mixedOrders=true:=by kernel_rfl
  have hft:Fence.wide.fn 112:=trivial
  obtain ⟨L,hL⟩:∃ L,L=s.2.length:=⟨_,rfl⟩
  have hpl:(pre ++ [x]).length=pre.length+1:=by rw [AB]; rfl
  have hL9:L≤1000:=by omega
  rw [← hL] at st4
  replace hpl:=hZ hpl
  replace hL:=hZ hL
  replace hI:=hZ hI
  replace hst9:=hZ hst9
  replace st1:=hZ st1
  replace st2:=hZ st2
  replace st4:=hZ st4
  replace st5:=hZ st5
  replace hp:=hZ hp
  replace q5:=hZ q5
  replace hq:=hZ hq
  replace hy:=hZ hy
  replace hz:=hZ hz
  replace hk:=hZ hk
  replace hle:=hZ hle
  replace hyb:=hZ hyb
  replace hyc:=hZ hyc
  clear hfx1 hxO hst q1 q2 q3 q4 hsl sl rl hkl hseq
  gi_wp2
  refine GF (S:=fun W=>W.cell? ⟨B+1,0,none⟩=some (.slice (some ⟨rg,0,none⟩) n rc)∧W.cell? ⟨rg,k,none⟩=some (sv y)∧W.cell? ⟨yb,k,none⟩=some (sv z)) (fun _=>false) (by kernel_rfl) ⟨(Fr.refl W).drew.keep r1,(Fr.refl W).drew.keep n1,(Fr.refl W).drew.keep n2⟩ (fun hHeld=>?_)
  refine AP (i:=0) (v:=?_) rfl (by kernel_rfl) (by kernel_rfl) rfl (by kernel_rfl) (by kernel_rfl) (by kernel_rfl) (fun _ _ _ h=>h) (fun _=>rfl) (Or.inl ⟨by rfl, ?_⟩) (by assumption) ?_
  rotate_left
  ·(intro w hSw; (try dsimp only at hSw); go_simp; try (with_reducible rfl))
  change Bc _ _ _ _ _ _ _ _ _ _ (Act.put _ (some 18) _) _
  simp only [Act.put,Aj,Aq,As]
  refine AP (i:=1) (v:=?_) rfl (by kernel_rfl) (by kernel_rfl) rfl (by kernel_rfl) (by kernel_rfl) (by kernel_rfl) (fun _ _ _ h=>h) (fun _=>rfl) (Or.inl ⟨by rfl, ?_⟩) (by assumption) ?_
  rotate_left
  ·(intro w hSw; (try dsimp only at hSw); go_simp; try (with_reducible rfl))
  change Bc _ _ _ _ _ _ _ _ _ _ (Act.put _ (some 19) _) _
  simp only [Act.put,Aj,Aq,As]
  refine AP (i:=2) (v:=?_) rfl (by kernel_rfl) (by kernel_rfl) rfl (by kernel_rfl) (by kernel_rfl) (by kernel_rfl) (fun _ _ _ h=>h) (fun _=>rfl) (Or.inl ⟨by rfl, ?_⟩) (by assumption) ?_
  rotate_left
  ·(intro w hSw; (try dsimp only at hSw); go_simp; try (with_reducible rfl))
  change Bc _ _ _ _ _ _ _ _ _ _ (Act.put _ (some 20) _) _
  simp only [Act.put,Aj,Aq,As]
  refine AP (i:=3) (v:=?_) rfl (by kernel_rfl) (by kernel_rfl) rfl (by kernel_rfl) (by kernel_rfl) (by kernel_rfl) (fun _ _ _ h=>h) (fun _=>rfl) (Or.inl ⟨by rfl, ?_⟩) (by assumption) ?_
  rotate_left
  ·(intro w hSw; (try dsimp only at hSw); go_simp; try (with_reducible rfl))
  change Bc _ _ _ _ _ _ _ _ _ _ (Act.put _ (some 21) _) _
  simp only [Act.put,Aj,Aq,As]
  refine AP (i:=4) (v:=?_) rfl (by kernel_rfl) (by kernel_rfl) rfl (by kernel_rfl) (by kernel_rfl) (by kernel_rfl) (fun _ _ _ h=>h) (fun _=>rfl) (Or.inl ⟨by rfl, ?_⟩) (by assumption) ?_
  rotate_left
  ·(intro w hSw; (try dsimp only at hSw); go_simp; try (with_reducible rfl))
  change Bc _ _ _ _ _ _ _ _ _ _ (Act.put _ (some 22) _) _
  simp only [Act.put,Aj,Aq,As]
  refine AP (i:=5) (v:=?_) rfl (by kernel_rfl) (by kernel_rfl) rfl (by kernel_rfl) (by kernel_rfl) (by kernel_rfl) (fun _ _ _ h=>h) (fun _=>rfl) (Or.inl ⟨by rfl, ?_⟩) (by assumption) ?_
  rotate_left
  ·(intro w hSw; (try dsimp only at hSw); go_simp; try (with_reducible rfl))
  change Bc _ _ _ _ _ _ _ _ _ _ (Act.put _ (some 23) _) _
  simp only [Act.put,Aj,Aq,As]
  refine AP (i:=6) (v:=?_) rfl (by kernel_rfl) (by kernel_rfl) rfl (by kernel_rfl) (by kernel_rfl) (by kernel_rfl) (fun _ _ _ h=>h) (fun _=>rfl) (Or.inl ⟨by rfl, ?_⟩) (by assumption) ?_
  rotate_left
  ·(intro w hSw; (try dsimp only at hSw); go_simp; try (with_reducible rfl))
  change Bc _ _ _ _ _ _ _ _ _ _ (Act.put _ (some 24) _) _
  simp only [Act.put,Aj,Aq,As]
  refine AP (i:=7) (v:=?_) rfl (by kernel_rfl) (by kernel_rfl) rfl (by kernel_rfl) (by kernel_rfl) (by kernel_rfl) (fun _ _ _ h=>h) (fun _=>rfl) (Or.inl ⟨by rfl, ?_⟩) (by assumption) ?_
  rotate_left
  ·(intro w hSw; (try dsimp only at hSw); go_simp; try (with_reducible rfl))
  change Bc _ _ _ _ _ _ _ _ _ _ (Act.put _ (some 25) _) _
  simp only [Act.put,Aj,Aq,As]
  refine Q3 (i:=8) rfl (by kernel_rfl) (fun K hK=>?_)
  go_simp
  gi_wp2_with (gi_at_call 112; (with_reducible refine (CallsIn.inRound l (BV.2 (hdv.out _ ?_))).mono ?_); (exact (Fr.refl W).drew); rintro e w1 ⟨rfl,hf1⟩)
  have hf01:Fr W w1:=(Fr.refl W).drew.trans hf1
  have hHeld2:w1.cell? ⟨B+1,0,none⟩=some (.slice (some ⟨rg,0,none⟩) n rc)∧w1.cell? ⟨rg,k,none⟩=some (sv y)∧w1.cell? ⟨yb,k,none⟩=some (sv z):=⟨hf01.keep r1,hf01.keep n1,hf01.keep n2⟩
  refine hK.out _ _ hHeld2 ?_
  clear hK K hHeld
  refine AP (i:=9) (v:=?_) rfl (by kernel_rfl) (by kernel_rfl) rfl (by kernel_rfl) (by kernel_rfl) (by kernel_rfl) (fun _ _ _ h=>h) (fun _=>rfl) (Or.inl ⟨by rfl, ?_⟩) (by assumption) ?_
  rotate_left
  ·(intro w hSw; (try dsimp only at hSw); go_simp; try (with_reducible rfl))
  change Bc _ _ _ _ _ _ _ _ _ _ (Act.put _ (some 17) _) _
  simp only [Act.put,Aj,Aq,As]
  refine AP (i:=10) (v:=?_) rfl (by kernel_rfl) (by kernel_rfl) rfl (by kernel_rfl) (by kernel_rfl) (by kernel_rfl) (fun _ _ _ h=>h) (fun _=>rfl) (Or.inl ⟨by rfl, ?_⟩) (by assumption) ?_
  rotate_left
  ·(intro w hSw; (try dsimp only at hSw); go_simp; try (with_reducible rfl))
  change Bc _ _ _ _ _ _ _ _ _ _ (Act.put _ (some 27) _) _
  simp only [Act.put,Aj,Aq,As]
  refine AP (i:=11) (v:=?_) rfl (by kernel_rfl) (by kernel_rfl) rfl (by kernel_rfl) (by kernel_rfl) (by kernel_rfl) (fun _ _ _ h=>h) (fun _=>rfl) (Or.inl ⟨by rfl, ?_⟩) (by assumption) ?_
  rotate_left
  ·(intro w hSw; (try dsimp only at hSw); go_simp; try (with_reducible rfl))
  change Bc _ _ _ _ _ _ _ _ _ _ (Act.put _ (some 28) _) _
  simp only [Act.put,Aj,Aq,As]
  refine AP (i:=12) (v:=?_) rfl (by kernel_rfl) (by kernel_rfl) rfl (by kernel_rfl) (by kernel_rfl) (by kernel_rfl) (fun _ _ _ h=>h) (fun _=>rfl) (Or.inl ⟨by rfl, ?_⟩) (by assumption) ?_
  rotate_left
  ·(intro w hSw; (try dsimp only at hSw); go_simp; try (with_reducible rfl))
  change Bc _ _ _ _ _ _ _ _ _ _ (Act.put _ (some 29) _) _
  simp only [Act.put,Aj,Aq,As]
  refine AP (i:=13) (v:=?_) rfl (by kernel_rfl) (by kernel_rfl) rfl (by kernel_rfl) (by kernel_rfl) (by kernel_rfl) (fun _ _ _ h=>h) (fun _=>rfl) (Or.inl ⟨by rfl, ?_⟩) (by assumption) ?_
  rotate_left
  ·(intro w hSw; (try dsimp only at hSw); go_simp; try (with_reducible rfl))
  change Bc _ _ _ _ _ _ _ _ _ _ (Act.put _ (some 8) _) _
  simp only [Act.put,Aj,Aq,As]
  refine AP (i:=14) (v:=?_) rfl (by kernel_rfl) (by kernel_rfl) rfl (by kernel_rfl) (by kernel_rfl) (by kernel_rfl) (fun _ _ _ h=>h) (fun _=>rfl) (Or.inl ⟨by rfl, ?_⟩) (by assumption) ?_
  rotate_left
  ·(intro w hSw; (try dsimp only at hSw); go_simp; try (with_reducible rfl))
  change Bc _ _ _ _ _ _ _ _ _ _ (Act.put _ (some 9) _) _
  simp only [Act.put,Aj,Aq,As]
  refine AP (i:=15) (v:=?_) rfl (by kernel_rfl) (by kernel_rfl) rfl (by kernel_rfl) (by kernel_rfl) (by kernel_rfl) (fun _ _ _ h=>h) (fun _=>rfl) (Or.inl ⟨by rfl, ?_⟩) (by assumption) ?_
  rotate_left
  ·(intro w hSw; (try dsimp only at hSw); go_simp; try (with_reducible rfl))
  change Bc _ _ _ _ _ _ _ _ _ _ (Act.put _ (some 10) _) _
  simp only [Act.put,Aj,Aq,As]
  refine HV (by kernel_rfl) ?_ _
  clear hHeld2
  replace r1:=hf01.keep r1
  clear n1 n2
  gi_wp2
  refine ⟨trivial,(CallsIn.inRound l ((BV (n:=1)).2 (hls.out _ hf01))).mono ?_⟩
  rintro e w2 ⟨rfl,hfx2,hO2⟩
  have hRg:rg < W0.heap.size:=by omega
  have hvo:∀ j,v.ownBlock=some j→W0.heap.size+2≤j:=fun j hj=>Eg st4.out j hj
  have hown2:=BG (Bj st4.out hf01) hfx2 (fun j e=>fun e2=>by have e2:j=rg:=e2; have:=hvo j e; omega)
  have hM2:N0 w2 (B+1+1) v:=N0.fx ⟨hf01.keep st3,hf01.keepf st3 st3f⟩ hfx2 (fun e=>by have e:B+1+1=rg:=e; omega)
  have hfZ:Fx (·=rg) W w2:=(Fx.of_fr hf01).trans hfx2
  have hzA:Fr w2 (w2.alloc (.cells #[sv q] 80)):=(Fr.refl w2).alloc _
  have s1:=hZ (hzA.keep hM2.1)
  have s2:=hZ (hzA.keepf hM2.1 hM2.2)
  replace hvo:=hZ hvo
  replace hO2:=hZ hO2
  replace hown2:=hZ hown2
  have mm1:=hM2.1
  replace hM2:=hZ hM2
  replace hzA:=hZ hzA
  have hz2:=hfZ.size
  clear r1 hls hdv
  gi_wp2_with (gi_at_builtin; refine wpListIn_append_own_at _ rfl _ _ 120 (by rfl) (W0.heap.size+2) 80 i2 _ 1 16 Tryz.underlying120 ki kz0 kz1 kz2 rfl (by decide) _ L _ (by rfl) (hown2.out.alloc _) ⟨w2.heap.size,0,none⟩ 1 1 [sv q] (by rfl) rfl (MR _ _ _) (by simp [Value.oneCell']) (by unfold maxLen; omega) (by omega) (by rw [AC]; omega) ?_; intro v' w3 hown3 hgr3 _ hat3; obtain ⟨g9,cap9,rfl⟩:=Db hown3 (by omega); have hFx:=Fx.of_grown hgr3; have u1:=hFx.keep s1.out (fun e=>by have e9:W0.heap.size+2≤B+1+1:=hvo.out _ e; omega); have u2:=hFx.keepf s1.out s2.out (fun e=>by have e9:W0.heap.size+2≤B+1+1:=hvo.out _ e; omega); replace hFx:=hZ hFx; clear hgr3)
  rw [hL.out] at hown3 hown2
  obtain ⟨hpush,hFF⟩:=QA.push (by omega) hRg (by omega) hI.out.fx hI.out.pD st5.out (fun j hj=>(hp.out j hj).2) hfZ hO2.out hown2.out hFx.out hown3 hat3 ⟨u1,u2⟩ hst9.out q5.out
  rw [← hL.out] at hpush hFF
  refine ⟨hFF.mono (fun j e=>?_),by show QA form xs W0 (B+1+1) rg p (pre ++ [x]).length _; rw [hpl.out]; exact hpush⟩
  rcases e with e | e | e
  ·have h1:=(st5.out j e).1
   have h2:=hvo.out j e
   exact ⟨h1,⟨by omega,by omega⟩,by omega,by omega⟩
  ·exact ⟨fun h=>by have:=(hp.out j h).1; omega,⟨by omega,by omega⟩,by omega,by omega⟩
  ·exact ⟨fun h=>by have:=(hp.out j h).1; omega,⟨by omega,by omega⟩,by omega,by omega⟩
 case done=>
  intro p ys W hS hI hK
  have hyl:ys.length=N:=by rw [hN.out,← hS,AE]
  rw [hyl] at hI
  obtain ⟨s,v,st1,st2,⟨st3,st3f⟩,st4,st5⟩:=hI.st
  obtain ⟨ba,bc,rfl,-⟩:=Ix st4
  have hs9:s=s9:=by have:=hred.out; rw [st1] at this; injection this
  subst hs9
  have hsl:=ED _ s st1
  have sl:s.1.length=n:=hsl.1.trans hxl.out
  have hsz9:=hs0.out
  have r1:=hI.fx.keep r1' (fun e=>by rcases e with e | e <;> (have e9:B+1=_:=e; omega))
  have r2:=hI.fx.keepf r1' r2' (fun e=>by rcases e with e | e <;> (have e9:B+1=_:=e; omega))
  have hfr:Fr w W:=((Fx.of_fr hfw0).trans hI.fx).toFr (fun j hj e=>by have:=hB.out; rcases e with e | e <;> omega)
  have hfxI:=hI.fx
  replace st1:=hZ st1
  replace st2:=hZ st2
  replace st4:=hZ st4
  replace st5:=hZ st5
  replace sl:=hZ sl
  clear hI hS hseq hyl hsl
  have hmx:Tryz.prog.follows .mixedOrders=true:=by kernel_rfl
  have ne1:(⟨B+1+1,0,none⟩:Addr)≠⟨B+1,0,none⟩:=fun e=>by injection e with e; omega
  have g1:(W.setCell ⟨B+1,0,none⟩ (.slice (some ⟨rg,0,none⟩) n rc)).cell? ⟨B+1+1,0,none⟩=some (.slice ba s.2.length bc):=by rw [Ad _ _ _ _ ne1.symm]; exact st3
  have g2:(W.setCell ⟨B+1,0,none⟩ (.slice (some ⟨rg,0,none⟩) n rc)).frozen? ⟨B+1+1,0,none⟩=false:=by rw [Ao]; exact st3f
  gi_wp2
  gi_region
  all_goals
   gi_wp2
   obtain ⟨W9,hW9⟩:∃ W9,W9=((W.setCell ⟨B+1,0,none⟩ (.slice (some ⟨rg,0,none⟩) n rc)).setCell ⟨B+1+1,0,none⟩ (.slice ba s.2.length bc)).drew:=⟨_,rfl⟩
   have r9:W9.cell? ⟨B+1,0,none⟩=some (.slice (some ⟨rg,0,none⟩) n rc):=by
    rw [hW9,CO,Ad _ _ _ _ ne1]
    exact Al _ _ _ (by rw [r1]; rfl)
   have m9:W9.cell? ⟨B+1+1,0,none⟩=some (.slice ba s.2.length bc):=by
    rw [hW9,CO]
    exact Al _ _ _ (by rw [g1]; rfl)
   have hfx9:Fx (fun j=>j=B+1∨j=B+1+1) W W9:=by
    rw [hW9]
    exact (Fx.setCell (q:=⟨B+1+1,0,none⟩) (Fx.setCell (q:=⟨B+1,0,none⟩) (Fx.refl _ _) (.inl (.inl rfl)) _) (.inl (.inr rfl)) _).drew
   have hK9:W9.heap[W0.heap.size]?=some (.deferred (some [])):=(hfx9.block _ (Bo.1 hK).1 (fun e=>by rcases e with e | e <;> omega)).trans hK
   have hfr9:Fr w W9:=((Fx.of_fr hfr).trans hfx9).toFr (fun j hj e=>by have:=hB.out; rcases e with e | e <;> omega)
   rw [← hW9]
   clear hW9
   refine ⟨by simp,.inl ⟨_,_,rfl,run_takeDeferred hK9, ?_⟩⟩
   have hpo:=Fx.putObj W9 W0.heap.size (.deferred none)
   have q1:=hpo.keep r9 (fun e=>by have e:B+1=W0.heap.size:=e; omega)
   have q2:=hpo.keep m9 (fun e=>by have e:B+1+1=W0.heap.size:=e; omega)
   refine ⟨.tuple #[.slice (some ⟨rg,0,none⟩) n rc,.slice ba s.2.length bc],by simp [results,Tryz.results72,go_sem,q1,q2], ?_⟩
   have hF9:Fx (fun j=>j=B+1∨j=B+1+1∨j=W0.heap.size) W (W9.putObj W0.heap.size (.deferred none)):=(hfx9.mono fun j e=>by rcases e with e | e; exact .inl e; exact .inr (.inl e)).trans (hpo.mono fun j e=>.inr (.inr e))
   refine ⟨rg,rc,.slice ba s.2.length bc,by rw [sl.out],st2.out.fx hF9 (fun e=>by omega),Cw (BG st4.out hF9 (fun j hj e=>?_)) (by have:=hB.out; omega),((Fx.of_fr hfr9).trans hpo).toFr (fun k hk e=>by have e:k=W0.heap.size:=e; have:=hB.out; omega)⟩
   have h2:=Eg st4.out j hj
   omega
end Go.Proofs.YtiniigadkknboaaGreatDoor
