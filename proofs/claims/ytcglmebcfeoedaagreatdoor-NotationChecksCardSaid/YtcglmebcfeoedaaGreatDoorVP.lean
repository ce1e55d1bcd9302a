/- Contracts and laws: VP. -/
import Derived.Test.YtcglmebcfeoedaaGreatDoorShelf
import Derived.Test.YtcglmebcfeoedaaGreatDoorVH
import Derived.Test.YtcglmebcfeoedaaGreatDoorVD
import Derived.IntWalk
import Derived.Test.YtcglmebcfeoedaaGreatDoorVL
import Derived.Test.YtcglmebcfeoedaaGreatDoorVIX

set_option maxRecDepth 100000
set_option maxHeartbeats 8000000
namespace Go.Proofs.YtcglmebcfeoedaaGreatDoor
open Go.RowKit Go.Lib
attribute [local go_sem ↓] AC AD
theorem PF (w:World) (p:Nat) (s:ByteArray) (L:List Sy) (hp:w.cell? ⟨p,0,none⟩=some (.string s)) :
 VK w 151 #[.pointer (some ⟨p,0,none⟩)] Sy.enc (fun y=>y.nm.toList == s.toList) L:=fun x W _ hW=>by
 have hp2:=hW.keep hp
 show Calls Tryz.prog 151 #[.agg #[.string x.nm,.slice x.ra x.row.length x.rc],.pointer (some ⟨p,0,none⟩)] W _
 have hf:Fr W (W.alloc (.cells #[.string x.nm,.slice x.ra x.row.length x.rc] 46)):=(Fr.refl _).alloc _
 have c0:=hf.keep hp2
 have c1:=(Cw W (.string x.nm) (.slice x.ra x.row.length x.rc) 46).1
 go_enter Tryz.func151,Tryz.ntmps151
 go_wp2_with fail
 go_ret
 exact ⟨rfl,hf⟩
theorem OT (L:List Sy) (a:Option Addr) (c n:Nat) (s:ByteArray) (w:World) (hL:Hm w a L) (hn:L.length=n) (hl:n≤1000000000) :
 Calls Tryz.prog 86 #[.slice a n c,.string s] w fun e w'=>e=.returned (.int .i64 (Iv (fun y:Sy=>y.nm.toList == s.toList) L))∧Fr w w':=by
 subst hn
 have eg:∀ args w,(callFunc 151 args).run Tryz.prog w=.ok (.enter 151 args) w:=NC Tryz.func151 (by kernel_rfl) rfl
 have hf:Fr w (w.alloc (.cells #[.string s] 9)):=(Fr.refl _).alloc _
 have c0:(w.alloc (.cells #[.string s] 9)).cell? ⟨w.heap.size,0,none⟩=some (.string s):=DM _ _ _
 have hi:=L4 Sy.enc L a c 151 #[.pointer (some ⟨w.heap.size,0,none⟩)] (fun y:Sy=>y.nm.toList == s.toList) _ eg (hL.fr hf).1 hl (PF _ w.heap.size s L c0)
 replace eg:=hZ eg
 clear c0 hL
 go_enter Tryz.func86,Tryz.ntmps86
 go_wp2_with fail
 refine hi.mono ?_
 rintro e w' ⟨rfl,hf2⟩
 go_wp2_with fail
 go_ret
 exact ⟨rfl,hf.trans hf2⟩
structure E6 (w:World) (r:Nat) (v u t:Value):Prop where
 a:w.cell? ⟨r,0,none⟩=some v
 b:w.cell? ⟨r,1,none⟩=some u
 c:w.cell? ⟨r,2,none⟩=some t
 fa:w.frozen? ⟨r,0,none⟩=false
 fb:w.frozen? ⟨r,1,none⟩=false
 fc:w.frozen? ⟨r,2,none⟩=false
theorem E6.fx {p:Nat→Prop} {w w':World} {r:Nat} {v u t:Value} (h:E6 w r v u t) (k:Fx p w w') (h1:¬ p r):E6 w' r v u t :=
 ⟨k.keep h.a h1,k.keep h.b h1,k.keep h.c h1,k.keepf h.a h.fa h1,k.keepf h.b h.fb h1,k.keepf h.c h.fc h1⟩
theorem E6.fr {w w':World} {r:Nat} {v u t:Value} (h:E6 w r v u t) (k:Fr w w'):E6 w' r v u t:=h.fx (p:=fun _=>False) (Fx.of_fr k) (fun e=>e)
theorem E6.new (w:World) (v u t:Value) (T:TypeId):E6 (w.alloc (.cells #[v,u,t] T)) w.heap.size v u t:=by
 have h:(w.alloc (.cells #[v,u,t] T)).heap[w.heap.size]?=some (.cells #[v,u,t] T (0,0)):=Ct w _
 refine ⟨?_, ?_, ?_, ?_, ?_, ?_⟩ <;> (first | (unfold World.cell?; rw [h]; rfl) | (unfold World.frozen?; rw [h]; rfl))
theorem E6.stored {w:World} {r:Nat} {v u t:Value} (h:E6 w r v u t) (v' u' t':Value):E6 (((w.setCell ⟨r,0,none⟩ v').setCell ⟨r,1,none⟩ u').setCell ⟨r,2,none⟩ t') r v' u' t':=by
 obtain ⟨c0,c1,c2,f0,f1,f2⟩:=h
 have ne:∀ i j:Nat,i≠j→(⟨r,i,none⟩:Addr)≠⟨r,j,none⟩:=fun i j hij e=>by injection e with _ e; exact hij e
 refine ⟨?_, ?_, ?_, ?_, ?_, ?_⟩
 ·rw [Ad _ _ _ _ (ne 2 0 (by decide)),Ad _ _ _ _ (ne 1 0 (by decide))]
  exact Ar _ _ _ (by rw [c0]; rfl)
 ·rw [Ad _ _ _ _ (ne 2 1 (by decide))]
  exact Ar _ _ _ (by rw [Ad _ _ _ _ (ne 0 1 (by decide)),c1]; rfl)
 ·exact Ar _ _ _ (by rw [Ad _ _ _ _ (ne 1 2 (by decide)),Ad _ _ _ _ (ne 0 2 (by decide)),c2]; rfl)
 all_goals (simp only [Ao]; assumption)
theorem Nh (w:World) (r:Nat) (u0 u1 u2:Value):Fx (·=r) w (((w.setCell ⟨r,0,none⟩ u0).setCell ⟨r,1,none⟩ u1).setCell ⟨r,2,none⟩ u2) :=
 ((Fx.setCell (p:=(·=r)) (q:=⟨r,0,none⟩) (Fx.refl _ w) (.inl rfl) u0).setCell (q:=⟨r,1,none⟩) (.inl rfl) u1).setCell (q:=⟨r,2,none⟩) (.inl rfl) u2
structure Pc where
 nm:ByteArray
 ng:Bool
 k:Int
def Pc.cells (p:Pc):List Value:=[.string p.nm,.bool p.ng,.string (tx p.k)]
def Pc.val (p:Pc):Int:=if p.ng then -p.k else p.k
def JP (pcs:List Pc) (ats:List Nat) (d:Nat):Nat→List Int
 | 0=>List.replicate d 0
 | i+1=>match pcs[i]?,ats[i]? with
   | some p,some t=>(JP pcs ats d i).set t p.val
   | _,_=>JP pcs ats d i
theorem Gz (pcs:List Pc) (ats:List Nat) (d:Nat):∀ i,(JP pcs ats d i).length=d
 | 0=>AJ
 | i+1=>by
   rw [JP]
   split
   ·rw [A2,Gz pcs ats d i]
   ·exact Gz pcs ats d i
def Ib (l:List Pc):List Value:=l.flatMap Pc.cells
theorem PE (l:List Pc) (p:Pc):Ib (l ++ [p])=Ib l ++ [.string p.nm,.bool p.ng,.string (tx p.k)]:=by
 unfold Ib; rw [Ye]; simp [Pc.cells]
theorem Li:∀ (l:List Pc) (i:Nat) (p:Pc),l[i]?=some p→(Ib l)[i * 3]?=some (.string p.nm)∧(Ib l)[i * 3+1]?=some (.bool p.ng)∧(Ib l)[i * 3+2]?=some (.string (tx p.k))
 | q :: l,0,p,h=>by
   simp at h; subst h
   exact ⟨rfl,rfl,rfl⟩
 | q :: l,i+1,p,h=>by
   have h2:=Li l i p (by simpa using h)
   have e:Ib (q :: l)=.string q.nm :: .bool q.ng :: .string (tx q.k) :: Ib l:=rfl
   rw [e,Nat.succ_mul]
   exact ⟨by simpa using h2.1,by simpa using h2.2.1,by simpa using h2.2.2⟩
theorem Wk:(Tryz.prog.info? 143).map (fun i=>(i.zero,i.size,i.bytes))=some (some (.agg #[.string ⟨#[]⟩,.bool false,.string ⟨#[]⟩]),3,40):=by kernel_rfl
theorem PK (w:World) (x y z:Value) (t:TypeId) (n:Nat) (hn:w.heap.size=n):∀ (j:Nat) (u:Value),[x,y,z][j]?=some u→(w.alloc (.cells #[x,y,z] t)).cell? ((⟨n,0,none⟩:Addr).add j)=some u:=fun j u hu=>by
 subst hn
 have h:(w.alloc (.cells #[x,y,z] t)).heap[w.heap.size]?=some (.cells #[x,y,z] t (0,0)):=Ct w _
 match j,hu with
 | 0,hu=>injection hu with hu; subst hu; exact (E6.new w x y z t).a
 | 1,hu=>injection hu with hu; subst hu; exact (E6.new w x y z t).b
 | 2,hu=>injection hu with hu; subst hu; exact (E6.new w x y z t).c
 | j+3,hu=>cases hu
theorem CK {P:Program} (w:World) {ops:Array Oper} {o:Oper} {a:Act} {K:Act→World→Prop} {Q:Exit→Act→World→Prop} {E:Prop}
 (hg:o.guard=none) (l c:Operand) (t:TypeId) (hop:o.op=Op.makeSlice t l c)
 (base:Nat) (e:TypeId) (i:TypeInfo) (z:Value) (size:Nat) (h1:P.underlying t=some (.slice e)) (h2:P.info? e=some i) (h3:i.zero=some z) (h4:i.size=size)
 (kl kc:IntKind) (L C:Int) (n:Nat) (hl:a.eval l=.int kl L) (hc:a.eval c=.int kc C) (hL:L=(n:Int)) (hC:C=(n:Int)) (b2:i.bytes * n≤281474976710656) (b3:n≤maxLen) (b4:base≤w.heap.size)
 (hK:∀ w',w'.ownsRow base e size (.slice (some ⟨w.heap.size,0,none⟩) n n) n (madeCells z.cells (n * size)).toList→w.grownBy w' none→K (a.put o.dst (.slice (some ⟨w.heap.size,0,none⟩) n n)) w') :
 if Region.wanted o (yielded ops a.tmps)=true then Oper.wp P o a w K Q else E:=by
 have hw:Region.wanted o (yielded ops a.tmps)=true:=by simp [Region.wanted,hg]
 rw [Al hw]
 obtain ⟨w',hrun,r1,r2⟩:=run_make_full (P:=P) w base t e i z size h1 h2 h3 h4 kl kc n b2 b3 b4
 subst hL
 subst hC
 unfold Oper.wp
 simp [execOp,hop,hl,hc,hrun,Result.andThen]
 exact hK w' r1 r2
theorem Oq (l:List UInt8) (c:UInt8) (a:Nat):AU a (l ++ [c])=AU a l * 10+(c.toNat - 48):=by
 rw [Dv]; rfl
theorem Wp:∀ (n:Nat) (l:List UInt8),l.length=n→l≠[]→l.head?≠some 48→(∀ c ∈ l,48≤c.toNat∧c.toNat≤57)→decDigits (AU 0 l)=l∧1≤AU 0 l:=by
 intro n
 induction n with
 | zero=>intro l h hne; exact absurd (Az h) hne
 | succ n ih=>
   intro l hl hne hh hd
   obtain ⟨m,c,rfl⟩:∃ m c,l=m ++ [c]:=⟨l.dropLast,l.getLast hne,(List.dropLast_concat_getLast hne).symm⟩
   have hc:=hd c (by simp)
   have hcc:UInt8.ofNat (48+(c.toNat - 48))=c:=by
    rw [show 48+(c.toNat - 48)=c.toNat by omega]; simp
   rw [Oq]
   by_cases hm:m=[]
   ·subst hm
    have h1:c≠48:=by simpa using hh
    have h2:c.toNat≠48:=fun e=>h1 (Vu.1 e)
    have e:AU 0 []=0:=rfl
    rw [e,Nat.zero_mul,Ay,decDigits_one (by omega),hcc]
    exact ⟨rfl,by omega⟩
   ·have hl2:m.length=n:=by rw [Aq] at hl; simpa using hl
    obtain ⟨h1,h2⟩:=ih m hl2 hm (by
     cases m with
     | nil=>exact absurd rfl hm
     | cons x t=>simpa using hh) (fun x hx=>hd x (by simp [hx]))
    refine ⟨?_,by omega⟩
    rw [decDigits,XQ (by omega),show (AU 0 m * 10+(c.toNat - 48)) / 10=AU 0 m by omega,show (AU 0 m * 10+(c.toNat - 48)) % 10=c.toNat - 48 by omega,h1,hcc]
def G2 (d:ByteArray):Bool:=decide (d.data.toList≠[]) && decide (d.data.toList.head?≠some 48) && d.data.toList.all (fun c=>decide (48≤c.toNat) && decide (c.toNat≤57))
theorem QK {d:ByteArray} (h:G2 d=true):d=tx (AU 0 d.data.toList:Nat)∧1≤AU 0 d.data.toList:=by
 unfold G2 at h
 rw [AW,AW] at h
 obtain ⟨⟨h1,h2⟩,h3⟩:=h
 have h1:=Ax h1
 have h2:=Ax h2
 obtain ⟨e1,e2⟩:=Wp _ d.data.toList rfl h1 h2 (fun c hc=>by
  have:=Aw.1 h3 c hc
  rw [AW] at this
  exact ⟨Ax this.1,Ax this.2⟩)
 refine ⟨?_,e2⟩
 apply Ly
 rw [Ff,itoa_nonneg,e1]
def FJ (s:ByteArray):Option Pc :=
 let k:=(Lib.indexAny s.data.toList [43,45])
 if 0≤k∧Bx (s.extract 0 k.toNat)=true∧G2 (s.extract (k.toNat+1) s.size)=true then
  some ⟨s.extract 0 k.toNat,s.data.toList[k.toNat]? == some 45,(AU 0 (s.extract (k.toNat+1) s.size).data.toList:Nat)⟩
 else none
theorem Pu (s:ByteArray) (i:Nat) (hi:i < s.size):s.data.toList=(s.extract 0 i).data.toList ++ (s[i]'hi) :: (s.extract (i+1) s.size).data.toList:=by
 have e1:(s.extract 0 i).data.toList=s.data.toList.take i:=by
  rw [Gf,Ho]; simp
 have e2:(s.extract (i+1) s.size).data.toList=s.data.toList.drop (i+1):=by
  rw [Gf,Ho,Nw]
  simp only [List.extract_eq_take_drop]
  rw [Ak (by rw [BQ]; omega)]
 have hl:i < s.data.toList.length:=by rw [← Nw]; exact hi
 have h:=DJ s i hi
 rw [Ac hl] at h
 injection h with h
 rw [e1,e2,← h,List.getElem_cons_drop,Dr]
theorem Nf (s:ByteArray) (i:Nat) (hi:i < s.size) (hs:s[i]'hi=43∨s[i]'hi=45) (hn:Bx (s.extract 0 i)=true) (hd:G2 (s.extract (i+1) s.size)=true) :
 (∀ (j:Nat) b,s.data.toList[j]?=some b→b.toNat < 128)∧Lib.indexAny s.data.toList [43,45]=i:=by
 have hp:=Pu s i hi
 unfold Bx at hn
 rw [AW] at hn
 unfold G2 at hd
 rw [AW] at hd
 have h1:∀ b,b ∈ (s.extract 0 i).data.toList→b.toNat < 128∧b≠43∧b≠45:=fun b hb=>by
  have:=Aw.1 hn.2 b hb
  unfold B3 at this
  simp at this
  refine ⟨?_, ?_, ?_⟩
  ·omega
  ·rintro rfl; simp at this
  ·rintro rfl; simp at this
 have h3:∀ b,b ∈ (s.extract (i+1) s.size).data.toList→b.toNat < 128:=fun b hb=>by
  have:=Aw.1 hd.2 b hb
  rw [AW] at this
  have:=Ax this.2
  omega
 have h2:(s[i]'hi).toNat < 128:=by rcases hs with h | h <;> rw [h] <;> decide
 refine ⟨fun j b hj=>?_, ?_⟩
 ·have hm:=Ae hj
  rw [hp] at hm
  rcases Bb.1 hm with h | h
  ·exact (h1 b h).1
  ·rcases Dd.1 h with h | h
   ·rw [h]; exact h2
   ·exact h3 b h
 ·have hl:(s.extract 0 i).data.toList.length=i:=by rw [← Nw,Dc]; omega
  refine Lib.indexAny_hit (fun j b hj hb=>?_) (DJ s i hi) (by rcases hs with h | h <;> rw [h] <;> decide)
  rw [hp,AP (by omega)] at hb
  obtain ⟨-,h4,h5⟩:=h1 b (Ae hb)
  simp [h4,h5]
theorem Rz (s:ByteArray) (i:Nat) (hi:i < s.size) (hs:s[i]'hi=43∨s[i]'hi=45) (hn:Bx (s.extract 0 i)=true) (hd:G2 (s.extract (i+1) s.size)=true) :
 FJ s=some ⟨s.extract 0 i,decide (s[i]'hi=45),(AU 0 (s.extract (i+1) s.size).data.toList:Nat)⟩:=by
 unfold FJ
 rw [(Nf s i hi hs hn hd).2]
 have e:(i:Int).toNat=i:=rfl
 simp only [e]
 rw [Al ⟨by omega,hn,hd⟩,DJ s i hi]
 congr 2
theorem MF (s:ByteArray) (i:Nat) (hasc:(∀ (j:Nat) b,s.data.toList[j]?=some b→b.toNat < 128)→(i:Int)=Lib.indexAny s.data.toList [43,45]) (h:¬ (Bx (s.extract 0 i)=true∧G2 (s.extract (i+1) s.size)=true)):FJ s=none:=by
 unfold FJ
 by_cases h9:0≤(Lib.indexAny s.data.toList [43,45])∧Bx (s.extract 0 (Lib.indexAny s.data.toList [43,45]).toNat)=true∧G2 (s.extract ((Lib.indexAny s.data.toList [43,45]).toNat+1) s.size)=true
 ·rcases Ko s with h8 | ⟨j,hj,e,hjs⟩
  ·rw [h8] at h9; exact absurd h9.1 (by decide)
  ·rw [e] at h9
   have:=hasc (Nf s j hj hjs h9.2.1 h9.2.2).1
   rw [e] at this
   have e3:i=j:=by omega
   subst e3
   exact absurd h9.2 h
 ·simp only [h9,RZ]
theorem PJ (s:ByteArray) (hasc:(∀ (j:Nat) b,s.data.toList[j]?=some b→b.toNat < 128)→(-1:Int)=Lib.indexAny s.data.toList [43,45]):FJ s=none:=by
 unfold FJ
 by_cases h9:0≤(Lib.indexAny s.data.toList [43,45])∧Bx (s.extract 0 (Lib.indexAny s.data.toList [43,45]).toNat)=true∧G2 (s.extract ((Lib.indexAny s.data.toList [43,45]).toNat+1) s.size)=true
 ·rcases Ko s with h8 | ⟨j,hj,e,hjs⟩
  ·rw [h8] at h9; exact absurd h9.1 (by decide)
  ·rw [e] at h9
   have:=hasc (Nf s j hj hjs h9.2.1 h9.2.2).1
   rw [e] at this
   omega
 ·simp only [h9,RZ]
def Uh (s:ByteArray) (w:World) (e:Ending) (w':World):Prop :=
 ((∃ p,FJ s=some p∧e=.returned (.tuple #[.agg #[.string p.nm,.bool p.ng,.string (tx p.k)],.bool true]))∨(FJ s=none∧e=.returned (.tuple #[.agg #[.string ⟨#[]⟩,.bool false,.string ⟨#[]⟩],.bool false])))∧Fr w w'
theorem Vr (s:ByteArray) (w:World) (hs:s.size≤100000):Calls Tryz.prog 85 #[.string s] w (Uh s w):=by
 have hia:=hZ (fun W:World=>OS s W hs)
 have f0:Fr w (w.alloc (.cells #[.string ⟨#[]⟩,.bool false,.string ⟨#[]⟩] 143)):=(Fr.refl _).alloc _
 obtain ⟨W1,hW1⟩:∃ W1,W1=w.alloc (.cells #[.string ⟨#[]⟩,.bool false,.string ⟨#[]⟩] 143):=⟨_,rfl⟩
 have hP1:E6 W1 w.heap.size (.string ⟨#[]⟩) (.bool false) (.string ⟨#[]⟩):=by rw [hW1]; exact E6.new _ _ _ _ _
 rw [← hW1] at f0
 go_enter Tryz.func85,Tryz.ntmps85
 go_upto_region 1 with (fail)
 rw [← hW1]
 clear hW1
 obtain ⟨pb,hpb⟩:∃ pb,pb=w.heap.size:=⟨_,rfl⟩
 rw [← hpb] at hP1 ⊢
 replace hpb:=hZ hpb
 go_wp2_with fail
 refine (hia.out _).mono ?_
 rintro e w2 ⟨k,rfl,hk,hasc,hf2⟩
 have hPz:=hP1.fr hf2
 have hS9:=hZ (hPz.stored (.string ⟨#[]⟩) (.bool false) (.string ⟨#[]⟩))
 have hfx9:=hZ (Nh w2 pb (.string ⟨#[]⟩) (.bool false) (.string ⟨#[]⟩))
 have hfz:Hid (Fr w (((w2.setCell ⟨pb,0,none⟩ (.string ⟨#[]⟩)).setCell ⟨pb,1,none⟩ (.bool false)).setCell ⟨pb,2,none⟩ (.string ⟨#[]⟩))):=((Fx.of_fr (f0.trans hf2)).trans hfx9.out).toFr (fun k hk e=>by have e:k=pb:=e; have:=hpb.out; omega)
 rcases hk with rfl | ⟨i,hi,rfl,hsi⟩
 ·have hno:=hZ (PJ s hasc)
  clear hasc
  obtain ⟨a0,a1,a2,g0,g1,g2⟩:=hPz
  go_wp2_with fail
  obtain ⟨q0,q1,q2,-⟩:=hS9.out
  refine At (v:=.tuple #[.agg #[.string ⟨#[]⟩,.bool false,.string ⟨#[]⟩],.bool false]) (by simp [results,Tryz.results85,go_sem,q0,q1,q2]) rfl ?_
  exact ⟨.inr ⟨hno.out,rfl⟩,hfz.out⟩
 ·obtain ⟨nm,hnm⟩:∃ nm,nm=s.extract 0 i:=⟨_,rfl⟩
  have hin:=hZ (fun W:World=>IC nm W (by rw [hnm,Dc]; omega))
  have d0:decide ((i:Int) < 0)=false:=Aa (by omega)
  have z0:(0:Int)≤(i:Int):=by omega
  have z1:(i:Int) < (s.size:Int):=by omega
  have hnm2:=hnm.symm
  replace hnm:=hZ hnm
  cases hb:Bx nm with
  | false=>
    have hno:=hZ (MF s i hasc (by rw [← hnm.out,hb]; simp))
    rw [hb] at hin
    clear hasc hsi
    obtain ⟨a0,a1,a2,g0,g1,g2⟩:=hPz
    go_wp2_with fail
    refine (hin.out _).mono ?_
    rintro e w3 ⟨rfl,rfl⟩
    go_wp2_with fail
    obtain ⟨q0,q1,q2,-⟩:=hS9.out
    refine At (v:=.tuple #[.agg #[.string ⟨#[]⟩,.bool false,.string ⟨#[]⟩],.bool false]) (by simp [results,Tryz.results85,go_sem,q0,q1,q2]) rfl ?_
    exact ⟨.inr ⟨hno.out,rfl⟩,hfz.out⟩
  | true=>
    rw [hb] at hin
    obtain ⟨ds,hds⟩:∃ ds,ds=s.extract (i+1) s.size:=⟨_,rfl⟩
    obtain ⟨ng,hng⟩:∃ ng,ng=((s[i].toNat:Int) == 45):=⟨_,rfl⟩
    have hdsz:ds.size≤100000:=by rw [hds,Dc]; omega
    have hno:Hid (G2 ds=false→FJ s=none):=fun h=>MF s i hasc (by rw [← hds,h]; simp)
    have hok:Hid (G2 ds=true→∃ p,FJ s=some p∧p.nm=nm∧p.ng=ng∧tx p.k=ds):=fun h=>by
     have h2:=h
     rw [hds] at h2
     refine ⟨_,Rz s i hi hsi (by rw [← hnm.out]; exact hb) h2,hnm.out.symm, ?_, ?_⟩
     ·show decide _=_
      rw [hng]
      rcases hsi with h9 | h9 <;> rw [h9] <;> rfl
     ·show tx _=_
      rw [← hds]
      exact (QK h).1.symm
    have hPzh:=hZ hPz
    have f2:=f0.trans hf2
    clear hasc hsi hS9 hfx9 hfz hPz hf2 f0 hP1 hb
    have z2:(i:Int)+1≤(s.size:Int):=by omega
    have z3:(0:Int)≤(i:Int)+1:=by omega
    replace hng:=hZ hng
    replace hds:=hZ hds
    go_wp2_with fail
    refine (hin.out _).mono ?_
    rintro e w3 ⟨rfl,rfl⟩
    have hw1:IntKind.i64.wrap ((i:Int)+1)=(i:Int)+1:=Aj _ (by omega)
    have ht1:((i:Int)+1).toNat=i+1:=by omega
    have hd8:Fr w2 w2.drew:=(Fr.refl w2).drew
    go_wp2_with fail
    refine BL (S:=fun _=>True) 13 (by kernel_rfl) trivial (fun hHeld=>?_)
    refine uK 0 ?_
    refine uK 1 ?_
    refine uT (v:=?_) 2 rfl (by kernel_rfl) (.inl ⟨by rfl, ?_⟩) (by assumption) ?_
    rotate_left
    ·(intro w hSw; (try dsimp only at hSw); go_simp; rw [Al (by omega)])
    refine uK 3 ?_
    refine uK 4 ?_
    refine uK 5 ?_
    refine uK 6 ?_
    refine uK 7 ?_
    refine uK 8 ?_
    refine uK 9 ?_
    refine uK 10 ?_
    refine uK 11 ?_
    refine B9 (rs:=[12]) (by kernel_rfl) (by simp) ?_
    refine A4.cons rfl (fun K hK=>?_) A4.nil
    go_simp
    refine hK.out _ _ trivial (fun hHeld=>?_)
    clear hK K
    clear hHeld
    refine uL 13 (fun K hK=>?_)
    go_simp
    refine hK.out _ _ ?_
    clear hK K
    obtain ⟨W4,hW4⟩:∃ W4,W4=(w2.alloc (.cells #[.string nm,.bool ng,.string ds] 143)).drew:=⟨_,rfl⟩
    have f4:Fr w2 W4:=by rw [hW4]; exact ((Fr.refl _).alloc _).drew
    obtain ⟨qb,hqb⟩:∃ qb,qb=w2.heap.size:=⟨_,rfl⟩
    have hP4:E6 W4 qb (.string nm) (.bool ng) (.string ds):=by rw [hW4,hqb]; exact (E6.new w2 _ _ _ _).fr (Fr.refl _).drew
    rw [← hng.out,← hds.out,← hqb]
    rw [← hW4]
    clear hW4
    replace hqb:=hZ hqb
    have f24:=f2.trans f4
    have hP5:=hPzh.out.fr f4
    have hP6:=hZ hP4
    have hS9:=hZ (hP5.stored (.string ⟨#[]⟩) (.bool false) (.string ⟨#[]⟩))
    have hfx9:=hZ (Nh W4 pb (.string ⟨#[]⟩) (.bool false) (.string ⟨#[]⟩))
    have hfz:Hid (Fr w (((W4.setCell ⟨pb,0,none⟩ (.string ⟨#[]⟩)).setCell ⟨pb,1,none⟩ (.bool false)).setCell ⟨pb,2,none⟩ (.string ⟨#[]⟩))):=((Fx.of_fr f24).trans hfx9.out).toFr (fun k hk e=>by have e:k=pb:=e; have:=hpb.out; omega)
    have m2:=hP4.c
    clear hP4
    have hlen:ds.data.toList.length=ds.size:=(Nw ds).symm
    by_cases hz:ds.size=0
    ·have hnil:ds.data.toList=[]:=Az (by omega)
     have hne:ds.toList.isEmpty=true:=by rw [Lib.toList_data,hnil]; rfl
     have hbad:=hZ (show G2 ds=false by unfold G2; rw [hnil]; rfl)
     obtain ⟨a0,a1,a2,g0,g1,g2⟩:=hP5
     replace hnil:=hZ hnil
     go_wp2_with fail
     obtain ⟨q0,q1,q2,-⟩:=hS9.out
     refine At (v:=.tuple #[.agg #[.string ⟨#[]⟩,.bool false,.string ⟨#[]⟩],.bool false]) (by simp [results,Tryz.results85,go_sem,q0,q1,q2]) rfl ?_
     exact ⟨.inr ⟨hno.out (hbad.out),rfl⟩,hfz.out⟩
    ·have hne:ds.toList.isEmpty=false:=by
      rw [Lib.toList_data]
      cases hh:ds.data.toList with
      | nil=>rw [hh] at hlen; exact absurd hlen.symm hz
      | cons=>rfl
     have y0:(0:Int) < (ds.size:Int):=by omega
     have hhd:ds.data.toList.head?=some (ds[0]'(by omega)):=by
      rw [List.head?_eq_getElem?,DJ ds 0 (by omega)]
     by_cases h48:ds[0]'(by omega)=48
     ·have y1:(((ds[0]'(by omega)).toNat:Int) == 48)=true:=by rw [h48]; rfl
      have hbad:=hZ (show G2 ds=false by unfold G2; rw [hhd,h48]; simp)
      obtain ⟨a0,a1,a2,g0,g1,g2⟩:=hP5
      replace hhd:=hZ hhd
      replace h48:=hZ h48
      go_wp2_with fail
      obtain ⟨q0,q1,q2,-⟩:=hS9.out
      refine At (v:=.tuple #[.agg #[.string ⟨#[]⟩,.bool false,.string ⟨#[]⟩],.bool false]) (by simp [results,Tryz.results85,go_sem,q0,q1,q2]) rfl ?_
      exact ⟨.inr ⟨hno.out (hbad.out),rfl⟩,hfz.out⟩
     ·have y1:(((ds[0]'(by omega)).toNat:Int) == 48)=false:=AB (fun e=>h48 (Vu.1 (by show _=48; omega)))
      have hfine:Hid ((∀ (j:Nat) (h:j < ds.size),48≤(ds[j]'h).toNat∧(ds[j]'h).toNat≤57)→G2 ds=true):=fun h=>by
       unfold G2
       rw [hhd,Ab (by intro e; rw [e] at hlen; exact hz hlen.symm),Ab (by simpa using h48)]
       refine Aw.2 fun c hc=>?_
       obtain ⟨j,hj,e⟩:=E8 hc
       have h1:=DJ ds j (by omega)
       rw [Ac hj,e] at h1
       injection h1 with h1
       obtain ⟨h2,h3⟩:=h j (by omega)
       rw [← h1] at h2 h3
       rw [Ab h2,Ab h3]; rfl
      have hbad:Hid (∀ (j:Nat) (h:j < ds.size),¬ (48≤(ds[j]'h).toNat∧(ds[j]'h).toNat≤57)→G2 ds=false):=fun j h h9=>by
       unfold G2
       rw [Bool.and_eq_false_iff]
       refine .inr (Bool.eq_false_iff.2 fun e=>h9 ?_)
       have:=Aw.1 e _ (Ae (DJ ds j h))
       rw [AW] at this
       exact ⟨Ax this.1,Ax this.2⟩
      have hP5h:=hZ hP5
      clear hP5
      replace hhd:=hZ hhd
      replace h48:=hZ h48
      replace hlen:=hZ hlen
      go_wp2_with fail
      go_loopg [44] ds.size (fun m s44 wr=>∃ j:Nat,s44=.int .i64 j∧j+m=ds.size∧wr=W4∧Hid (∀ (t:Nat) (h:t < ds.size),t < j→48≤(ds[t]'h).toNat∧(ds[t]'h).toNat≤57))
      case atStart=>exact ⟨0,rfl,by omega,rfl,fun t _ h=>absurd h (DD _)⟩
      case round=>
       obtain ⟨j,rfl,hjm,rfl,hall⟩:=hrel
       by_cases hj:j < ds.size
       ·have dj:decide (j < ds.size)=true:=Ab hj
        have u0:(0:Int)≤(j:Int):=by omega
        have u1:(j:Int) < (ds.size:Int):=by omega
        by_cases b1:(ds[j]'hj).toNat < 48
        ·have e1:decide (((ds[j]'hj).toNat:Int) < 48)=true:=Ab (by omega)
         have hb9:=hZ (hbad.out j hj (by omega))
         clear b1
         obtain ⟨a0,a1,a2,g0,g1,g2⟩:=hP5h.out
         go_wp2_with fail
         obtain ⟨q0,q1,q2,-⟩:=hS9.out
         refine At (v:=.tuple #[.agg #[.string ⟨#[]⟩,.bool false,.string ⟨#[]⟩],.bool false]) (by simp [results,Tryz.results85,go_sem,q0,q1,q2]) rfl ?_
         exact ⟨.inr ⟨hno.out (hb9.out),rfl⟩,hfz.out⟩
        ·have e1:decide (((ds[j]'hj).toNat:Int) < 48)=false:=Aa (by omega)
         by_cases b2:57 < (ds[j]'hj).toNat
         ·have e2:decide ((57:Int) < ((ds[j]'hj).toNat:Int))=true:=Ab (by omega)
          have hb9:=hZ (hbad.out j hj (by omega))
          clear b1 b2
          obtain ⟨a0,a1,a2,g0,g1,g2⟩:=hP5h.out
          go_wp2_with fail
          obtain ⟨q0,q1,q2,-⟩:=hS9.out
          refine At (v:=.tuple #[.agg #[.string ⟨#[]⟩,.bool false,.string ⟨#[]⟩],.bool false]) (by simp [results,Tryz.results85,go_sem,q0,q1,q2]) rfl ?_
          exact ⟨.inr ⟨hno.out (hb9.out),rfl⟩,hfz.out⟩
         ·have e2:decide ((57:Int) < ((ds[j]'hj).toNat:Int))=false:=Aa (by omega)
          have hal2:Hid (∀ (t:Nat) (h:t < ds.size),t < j+1→48≤(ds[t]'h).toNat∧(ds[t]'h).toNat≤57):=fun t h h9=>by
           by_cases e:t=j
           ·subst e; exact ⟨by omega,by omega⟩
           ·exact hall.out t h (by omega)
          clear b1 b2
          go_wp2_with fail
          go_roundg (gk - 1)
          case measure=>omega
          case rel=>exact ⟨j+1,by go_num,by omega,rfl,hal2⟩
       ·have dj:decide (j < ds.size)=false:=Aa hj
        obtain ⟨p,hp1,hp2,hp3,hp4⟩:=hok.out (hfine.out fun t h=>hall.out t h (by omega))
        replace hS9:=hZ (hP5h.out.stored (.string nm) (.bool ng) (.string ds))
        replace hfx9:=hZ (Nh wr pb (.string nm) (.bool ng) (.string ds))
        have m0:=hP6.out.a
        have m1:=hP6.out.b
        replace hp1:=hZ hp1
        replace hp2:=hZ hp2
        replace hp3:=hZ hp3
        replace hp4:=hZ hp4
        obtain ⟨a0,a1,a2,g0,g1,g2⟩:=hP5h.out
        go_wp2_with fail
        obtain ⟨q0,q1,q2,-⟩:=hS9.out
        refine At (v:=.tuple #[.agg #[.string nm,.bool ng,.string ds],.bool true]) (by simp [results,Tryz.results85,go_sem,q0,q1,q2]) rfl ?_
        exact ⟨.inl ⟨p,hp1.out,by rw [hp2.out,hp3.out,hp4.out]⟩,((Fx.of_fr f24).trans hfx9.out).toFr (fun k hk e=>by have e:k=pb:=e; have:=hpb.out; omega)⟩
theorem Tp {s:ByteArray} {p:Pc} (h:FJ s=some p):1≤p.k∧(tx p.k).size≤s.size∧Bx p.nm=true:=by
 unfold FJ at h
 simp only at h
 split at h
 ·rename_i h1
  obtain ⟨-,h2,h3⟩:=h1
  injection h with h
  obtain ⟨e1,e2⟩:=QK h3
  subst h
  refine ⟨?_, ?_,h2⟩
  ·show (1:Int)≤((_:Nat):Int); omega
  ·show (tx ((_:Nat):Int)).size≤_
   rw [← e1,Dc]; omega
 ·cases h
def SQ (ws:List ByteArray):List Pc:=ws.filterMap FJ
def Ht (L:List Sy) (nm:ByteArray):Int:=Iv (fun y:Sy=>y.nm.toList == nm.toList) L
def RG (A:List Sy) (ws:List ByteArray):List Int:=(SQ ws).map fun p=>Ht A p.nm
def Tv (A:List Sy) (ws:List ByteArray):List Nat:=(RG A ws).map Int.toNat
def Im (l:List Int):Bool:=(List.range (l.length - 1)).all fun i=>decide ((l[i]?).getD 0 < (l[i+1]?).getD 0)
def HZ (N A:List Sy) (w0:ByteArray) (ws:List ByteArray):Int :=
 if Bx w0=false then 15
 else if ws.all (fun x=>(FJ x).isSome)=false then 15
 else if Ht N w0 < 0 then 10
 else if (RG A ws).contains (-1)=true then 10
 else if Im (RG A ws)=false then 6
 else if (SQ ws).all (fun p=>decide (p.k≤1000000000))=false then 4 else 0
theorem SP {N A:List Sy} {w0:ByteArray} {ws:List ByteArray} {i:Nat} {x:ByteArray} (hx:ws[i]?=some x) (h:FJ x=none):HZ N A w0 ws=15:=by
 unfold HZ
 split
 ·rfl
 ·rw [Al]
  rw [Eu]
  exact ⟨x,Ae hx,by rw [h]; simp⟩
def ID (ws:List ByteArray) (pcs:List Pc):Prop:=pcs.length=ws.length∧∀ (i:Nat) (x:ByteArray) (p:Pc),ws[i]?=some x→pcs[i]?=some p→FJ x=some p
theorem I2:∀ {ws:List ByteArray} {pcs:List Pc},ID ws pcs→SQ ws=pcs∧ws.all (fun x=>(FJ x).isSome)=true
 | [],[],_=>⟨rfl,rfl⟩
 | [],_ :: _,h=>by have:=h.1; simp at this
 | _ :: _,[],h=>by have:=h.1; simp at this
 | x :: ws,p :: pcs,h=>by
   have hx:=h.2 0 x p rfl rfl
   obtain ⟨h1,h2⟩:=I2 (ws:=ws) (pcs:=pcs) ⟨by have:=h.1; simpa using this,fun i y q hy hq=>h.2 (i+1) y q (by simpa using hy) (by simpa using hq)⟩
   refine ⟨?_, ?_⟩
   ·unfold SQ at h1 ⊢
    rw [List.filterMap_cons,hx]
    show p :: _=_
    rw [h1]
   ·rw [List.all_cons,h2,hx]; rfl
theorem Qq {N A:List Sy} {w0:ByteArray} {ws:List ByteArray} {pcs:List Pc} (h0:Bx w0=true) (h:ID ws pcs):HZ N A w0 ws =
 if Ht N w0 < 0 then 10 else if (pcs.map fun p=>Ht A p.nm).contains (-1)=true then 10 else if Im (pcs.map fun p=>Ht A p.nm)=false then 6 else if pcs.all (fun p=>decide (p.k≤1000000000))=false then 4 else 0:=by
 obtain ⟨h1,h2⟩:=I2 h
 unfold HZ RG
 rw [h0,h1,h2]
 simp only [Bool.true_eq_false,RZ]
theorem NT {l:List Int} {i:Nat} {a b:Int} (ha:l[i]?=some a) (hb:l[i+1]?=some b) (h:¬ a < b):Im l=false:=by
 unfold Im
 rw [Eu]
 have:=(Ag.1 hb).1
 exact ⟨i,AQ.2 (by omega),by rw [ha,hb]; simpa using h⟩
theorem KQ {l:List Int} (h:∀ (i:Nat) (a b:Int),i+1 < l.length→l[i]?=some a→l[i+1]?=some b→a < b):Im l=true:=by
 unfold Im
 refine Aw.2 fun i hi=>?_
 have hi:=AQ.1 hi
 rw [Ac (show i < l.length by omega),Ac (show i+1 < l.length by omega)]
 exact Ab (h i _ _ (by omega) (Ac (by omega)) (Ac (by omega)))
theorem U8 {pcs:List Pc} {i:Nat} {p:Pc} (hp:pcs[i]?=some p) (h:¬ p.k≤1000000000):pcs.all (fun p=>decide (p.k≤1000000000))=false:=by
 rw [Eu]
 exact ⟨p,Ae hp,by simpa using h⟩
theorem MI {pcs:List Pc} (h:∀ (i:Nat) (p:Pc),pcs[i]?=some p→p.k≤1000000000):pcs.all (fun p=>decide (p.k≤1000000000))=true:=by
 refine Aw.2 fun p hp=>?_
 obtain ⟨i,hi⟩:=GJ.1 hp
 exact Ab (h i p hi)
theorem Rk {α:Type} (p:α→Bool) (xs:List α):-1≤Iv p xs∧Iv p xs < xs.length:=by
 unfold Iv
 cases h:xs.findIdx? p with
 | none=>simp; omega
 | some i=>
   have:=(Dw.1 h).1
   simp; omega
theorem MD:∀ (l:List UInt8) (a:Nat),a≤AU a l
 | [],_=>Ah _
 | c :: r,a=>by
   have e:AU a (c :: r)=AU (a * 10+(c.toNat - 48)) r:=rfl
   have:=MD r (a * 10+(c.toNat - 48))
   rw [e]; omega
theorem Mi:∀ (l:List UInt8) (acc:Nat),(∀ c ∈ l,48≤c.toNat∧c.toNat≤57)→Lib.parseUint10 acc l=.ok (AU acc l)∨(Lib.parseUint10 acc l=.range∧18446744073709551616≤AU acc l)
 | [],acc,_=>.inl rfl
 | c :: r,acc,h=>by
   have hc:=h c Dn
   have hr:=fun x hx=>h x (EL c hx)
   have e:AU acc (c :: r)=AU (acc * 10+(c.toNat - 48)) r:=rfl
   have hle:=(MD r (acc * 10+(c.toNat - 48)))
   unfold Lib.parseUint10
   rw [Al hc,e]
   split
   ·exact .inr ⟨rfl,by omega⟩
   ·split
    ·exact .inr ⟨rfl,by omega⟩
    ·exact Mi r _ hr
theorem Tw {n:Int} (h:9223372036854775807 < n):Lib.atoiAll (tx n).data.toList=.range:=by
 have e:(tx n).data.toList=decDigits n.natAbs:=by rw [Ff,BI (by omega),show n.toNat=n.natAbs by omega]
 have hd:=B4 n.natAbs
 have hv:=BP n.natAbs
 rw [e]
 obtain ⟨c,r,hr⟩:=List.exists_cons_of_ne_nil (F9 n.natAbs)
 rw [hr] at hd hv ⊢
 have hc:=hd c Dn
 unfold Lib.atoiAll
 simp only
 rw [Ai (by omega)]
 unfold Lib.parseMag
 rw [Ai (by simp)]
 rcases Mi (c :: r) 0 hd with h1 | ⟨h1,-⟩
 ·rw [h1,hv]
  simp only
  rw [Al ⟨by omega,by omega⟩]
 ·rw [h1]
end Go.Proofs.YtcglmebcfeoedaaGreatDoor
