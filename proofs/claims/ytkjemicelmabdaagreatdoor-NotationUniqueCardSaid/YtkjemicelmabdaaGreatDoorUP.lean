/- Contracts and laws: UP. -/
import Derived.Test.YtkjemicelmabdaaGreatDoorShelf
import Derived.Test.YtkjemicelmabdaaGreatDoorUH
import Derived.Test.YtkjemicelmabdaaGreatDoorUD
import Derived.IntWalk
import Derived.Test.YtkjemicelmabdaaGreatDoorUL
import Derived.Test.YtkjemicelmabdaaGreatDoorUIX

set_option maxRecDepth 100000
set_option maxHeartbeats 8000000
namespace Go.Proofs.YtkjemicelmabdaaGreatDoor
open Go.RowKit Go.Lib
attribute [local go_sem ↓] AQ AR
theorem Q1 (w:World) (p:Nat) (s:ByteArray) (L:List Sy) (hp:w.cell? ⟨p,0,none⟩=some (.string s)) :
 Xw w 91 #[.pointer (some ⟨p,0,none⟩)] Sy.enc (fun y=>y.nm.toList == s.toList) L:=fun x W _ hW=>by
 have hp2:=hW.keep hp
 show Calls Tryz.prog 91 #[.agg #[.string x.nm,.slice x.ra x.row.length x.rc],.pointer (some ⟨p,0,none⟩)] W _
 have hf:Fr W (W.alloc (.cells #[.string x.nm,.slice x.ra x.row.length x.rc] 65)):=(Fr.refl _).alloc _
 have c0:=hf.keep hp2
 have c1:=(CL W (.string x.nm) (.slice x.ra x.row.length x.rc) 65).1
 go_enter Tryz.func91,Tryz.ntmps91
 go_wp2_with fail
 go_ret
 exact ⟨rfl,hf⟩
theorem Qf (L:List Sy) (a:Option Addr) (c n:Nat) (s:ByteArray) (w:World) (hL:IA w a L) (hn:L.length=n) (hl:n≤1000000000) :
 Calls Tryz.prog 45 #[.slice a n c,.string s] w fun e w'=>e=.returned (.int .i64 (I8 (fun y:Sy=>y.nm.toList == s.toList) L))∧Fr w w':=by
 subst hn
 have eg:∀ args w,(callFunc 91 args).run Tryz.prog w=.ok (.enter 91 args) w:=OO Tryz.func91 (by kernel_rfl) rfl
 have hf:Fr w (w.alloc (.cells #[.string s] 9)):=(Fr.refl _).alloc _
 have c0:(w.alloc (.cells #[.string s] 9)).cell? ⟨w.heap.size,0,none⟩=some (.string s):=Du _ _ _
 have hi:=M1 Sy.enc L a c 91 #[.pointer (some ⟨w.heap.size,0,none⟩)] (fun y:Sy=>y.nm.toList == s.toList) _ eg (hL.fr hf).1 hl (Q1 _ w.heap.size s L c0)
 replace eg:=hZ eg
 clear c0 hL
 go_enter Tryz.func45,Tryz.ntmps45
 go_wp2_with fail
 refine hi.mono ?_
 rintro e w' ⟨rfl,hf2⟩
 go_wp2_with fail
 go_ret
 exact ⟨rfl,hf.trans hf2⟩
structure FC (w:World) (r:Nat) (v u t:Value):Prop where
 a:w.cell? ⟨r,0,none⟩=some v
 b:w.cell? ⟨r,1,none⟩=some u
 c:w.cell? ⟨r,2,none⟩=some t
 fa:w.frozen? ⟨r,0,none⟩=false
 fb:w.frozen? ⟨r,1,none⟩=false
 fc:w.frozen? ⟨r,2,none⟩=false
theorem FC.fx {p:Nat→Prop} {w w':World} {r:Nat} {v u t:Value} (h:FC w r v u t) (k:Fx p w w') (h1:¬ p r):FC w' r v u t :=
 ⟨k.keep h.a h1,k.keep h.b h1,k.keep h.c h1,k.keepf h.a h.fa h1,k.keepf h.b h.fb h1,k.keepf h.c h.fc h1⟩
theorem FC.fr {w w':World} {r:Nat} {v u t:Value} (h:FC w r v u t) (k:Fr w w'):FC w' r v u t:=h.fx (p:=fun _=>False) (Fx.of_fr k) (fun e=>e)
theorem FC.new (w:World) (v u t:Value) (T:TypeId):FC (w.alloc (.cells #[v,u,t] T)) w.heap.size v u t:=by
 have h:(w.alloc (.cells #[v,u,t] T)).heap[w.heap.size]?=some (.cells #[v,u,t] T (0,0)):=CJ w _
 refine ⟨?_, ?_, ?_, ?_, ?_, ?_⟩ <;> (first | (unfold World.cell?; rw [h]; rfl) | (unfold World.frozen?; rw [h]; rfl))
theorem FC.stored {w:World} {r:Nat} {v u t:Value} (h:FC w r v u t) (v' u' t':Value):FC (((w.setCell ⟨r,0,none⟩ v').setCell ⟨r,1,none⟩ u').setCell ⟨r,2,none⟩ t') r v' u' t':=by
 obtain ⟨c0,c1,c2,f0,f1,f2⟩:=h
 have ne:∀ i j:Nat,i≠j→(⟨r,i,none⟩:Addr)≠⟨r,j,none⟩:=fun i j hij e=>by injection e with _ e; exact hij e
 refine ⟨?_, ?_, ?_, ?_, ?_, ?_⟩
 ·rw [Ae _ _ _ _ (ne 2 0 (by decide)),Ae _ _ _ _ (ne 1 0 (by decide))]
  exact Ap _ _ _ (by rw [c0]; rfl)
 ·rw [Ae _ _ _ _ (ne 2 1 (by decide))]
  exact Ap _ _ _ (by rw [Ae _ _ _ _ (ne 0 1 (by decide)),c1]; rfl)
 ·exact Ap _ _ _ (by rw [Ae _ _ _ _ (ne 1 2 (by decide)),Ae _ _ _ _ (ne 0 2 (by decide)),c2]; rfl)
 all_goals (simp only [Ao]; assumption)
theorem Ol (w:World) (r:Nat) (u0 u1 u2:Value):Fx (·=r) w (((w.setCell ⟨r,0,none⟩ u0).setCell ⟨r,1,none⟩ u1).setCell ⟨r,2,none⟩ u2) :=
 ((Fx.setCell (p:=(·=r)) (q:=⟨r,0,none⟩) (Fx.refl _ w) (.inl rfl) u0).setCell (q:=⟨r,1,none⟩) (.inl rfl) u1).setCell (q:=⟨r,2,none⟩) (.inl rfl) u2
structure Pc where
 nm:ByteArray
 ng:Bool
 k:Int
def Pc.cells (p:Pc):List Value:=[.string p.nm,.bool p.ng,.string (tx p.k)]
def Pc.val (p:Pc):Int:=if p.ng then -p.k else p.k
def Kp (pcs:List Pc) (ats:List Nat) (d:Nat):Nat→List Int
 | 0=>List.replicate d 0
 | i+1=>match pcs[i]?,ats[i]? with
   | some p,some t=>(Kp pcs ats d i).set t p.val
   | _,_=>Kp pcs ats d i
theorem GW (pcs:List Pc) (ats:List Nat) (d:Nat):∀ i,(Kp pcs ats d i).length=d
 | 0=>AH
 | i+1=>by
   rw [Kp]
   split
   ·rw [AN,GW pcs ats d i]
   ·exact GW pcs ats d i
def IF (l:List Pc):List Value:=l.flatMap Pc.cells
theorem QZ (l:List Pc) (p:Pc):IF (l ++ [p])=IF l ++ [.string p.nm,.bool p.ng,.string (tx p.k)]:=by
 unfold IF; rw [Z8]; simp [Pc.cells]
theorem L5:∀ (l:List Pc) (i:Nat) (p:Pc),l[i]?=some p→(IF l)[i * 3]?=some (.string p.nm)∧(IF l)[i * 3+1]?=some (.bool p.ng)∧(IF l)[i * 3+2]?=some (.string (tx p.k))
 | q :: l,0,p,h=>by
   simp at h; subst h
   exact ⟨rfl,rfl,rfl⟩
 | q :: l,i+1,p,h=>by
   have h2:=L5 l i p (by simpa using h)
   have e:IF (q :: l)=.string q.nm :: .bool q.ng :: .string (tx q.k) :: IF l:=rfl
   rw [e,Nat.succ_mul]
   exact ⟨by simpa using h2.1,by simpa using h2.2.1,by simpa using h2.2.2⟩
theorem X2:(Tryz.prog.info? 92).map (fun i=>(i.zero,i.size,i.bytes))=some (some (.agg #[.string ⟨#[]⟩,.bool false,.string ⟨#[]⟩]),3,40):=by kernel_rfl
theorem Q9 (w:World) (x y z:Value) (t:TypeId) (n:Nat) (hn:w.heap.size=n):∀ (j:Nat) (u:Value),[x,y,z][j]?=some u→(w.alloc (.cells #[x,y,z] t)).cell? ((⟨n,0,none⟩:Addr).add j)=some u:=fun j u hu=>by
 subst hn
 have h:(w.alloc (.cells #[x,y,z] t)).heap[w.heap.size]?=some (.cells #[x,y,z] t (0,0)):=CJ w _
 match j,hu with
 | 0,hu=>injection hu with hu; subst hu; exact (FC.new w x y z t).a
 | 1,hu=>injection hu with hu; subst hu; exact (FC.new w x y z t).b
 | 2,hu=>injection hu with hu; subst hu; exact (FC.new w x y z t).c
 | j+3,hu=>cases hu
theorem C8 {P:Program} (w:World) {ops:Array Oper} {o:Oper} {a:Act} {K:Act→World→Prop} {Q:Exit→Act→World→Prop} {E:Prop}
 (hg:o.guard=none) (l c:Operand) (t:TypeId) (hop:o.op=Op.makeSlice t l c)
 (base:Nat) (e:TypeId) (i:TypeInfo) (z:Value) (size:Nat) (h1:P.underlying t=some (.slice e)) (h2:P.info? e=some i) (h3:i.zero=some z) (h4:i.size=size)
 (kl kc:IntKind) (L C:Int) (n:Nat) (hl:a.eval l=.int kl L) (hc:a.eval c=.int kc C) (hL:L=(n:Int)) (hC:C=(n:Int)) (b2:i.bytes * n≤281474976710656) (b3:n≤maxLen) (b4:base≤w.heap.size)
 (hK:∀ w',w'.ownsRow base e size (.slice (some ⟨w.heap.size,0,none⟩) n n) n (madeCells z.cells (n * size)).toList→w.grownBy w' none→K (a.put o.dst (.slice (some ⟨w.heap.size,0,none⟩) n n)) w') :
 if Region.wanted o (yielded ops a.tmps)=true then Oper.wp P o a w K Q else E:=by
 have hw:Region.wanted o (yielded ops a.tmps)=true:=by simp [Region.wanted,hg]
 rw [Ak hw]
 obtain ⟨w',hrun,r1,r2⟩:=run_make_full (P:=P) w base t e i z size h1 h2 h3 h4 kl kc n b2 b3 b4
 subst hL
 subst hC
 unfold Oper.wp
 simp [execOp,hop,hl,hc,hrun,Result.andThen]
 exact hK w' r1 r2
theorem PJ (l:List UInt8) (c:UInt8) (a:Nat):A8 a (l ++ [c])=A8 a l * 10+(c.toNat - 48):=by
 rw [D0]; rfl
theorem X7:∀ (n:Nat) (l:List UInt8),l.length=n→l≠[]→l.head?≠some 48→(∀ c ∈ l,48≤c.toNat∧c.toNat≤57)→decDigits (A8 0 l)=l∧1≤A8 0 l:=by
 intro n
 induction n with
 | zero=>intro l h hne; exact absurd (Aq h) hne
 | succ n ih=>
   intro l hl hne hh hd
   obtain ⟨m,c,rfl⟩:∃ m c,l=m ++ [c]:=⟨l.dropLast,l.getLast hne,(List.dropLast_concat_getLast hne).symm⟩
   have hc:=hd c (by simp)
   have hcc:UInt8.ofNat (48+(c.toNat - 48))=c:=by
    rw [show 48+(c.toNat - 48)=c.toNat by omega]; simp
   rw [PJ]
   by_cases hm:m=[]
   ·subst hm
    have h1:c≠48:=by simpa using hh
    have h2:c.toNat≠48:=fun e=>h1 (Xl.1 e)
    have e:A8 0 []=0:=rfl
    rw [e,ZB,AE,decDigits_one (by omega),hcc]
    exact ⟨rfl,by omega⟩
   ·have hl2:m.length=n:=by rw [At] at hl; simpa using hl
    obtain ⟨h1,h2⟩:=ih m hl2 hm (by
     cases m with
     | nil=>exact absurd rfl hm
     | cons x t=>simpa using hh) (fun x hx=>hd x (by simp [hx]))
    refine ⟨?_,by omega⟩
    rw [decDigits,Zz (by omega),show (A8 0 m * 10+(c.toNat - 48)) / 10=A8 0 m by omega,show (A8 0 m * 10+(c.toNat - 48)) % 10=c.toNat - 48 by omega,h1,hcc]
def Hl (d:ByteArray):Bool:=decide (d.data.toList≠[]) && decide (d.data.toList.head?≠some 48) && d.data.toList.all (fun c=>decide (48≤c.toNat) && decide (c.toNat≤57))
theorem R0 {d:ByteArray} (h:Hl d=true):d=tx (A8 0 d.data.toList:Nat)∧1≤A8 0 d.data.toList:=by
 unfold Hl at h
 rw [AP,AP] at h
 obtain ⟨⟨h1,h2⟩,h3⟩:=h
 have h1:=Au h1
 have h2:=Au h2
 obtain ⟨e1,e2⟩:=X7 _ d.data.toList rfl h1 h2 (fun c hc=>by
  have:=Ar.1 h3 c hc
  rw [AP] at this
  exact ⟨Au this.1,Au this.2⟩)
 refine ⟨?_,e2⟩
 apply H1
 rw [Fo,itoa_nonneg,e1]
def Gc (s:ByteArray):Option Pc :=
 let k:=(Lib.indexAny s.data.toList [43,45])
 if 0≤k∧BI (s.extract 0 k.toNat)=true∧Hl (s.extract (k.toNat+1) s.size)=true then
  some ⟨s.extract 0 k.toNat,s.data.toList[k.toNat]? == some 45,(A8 0 (s.extract (k.toNat+1) s.size).data.toList:Nat)⟩
 else none
theorem QP (s:ByteArray) (i:Nat) (hi:i < s.size):s.data.toList=(s.extract 0 i).data.toList ++ (s[i]'hi) :: (s.extract (i+1) s.size).data.toList:=by
 have e1:(s.extract 0 i).data.toList=s.data.toList.take i:=by
  rw [GE,HF]; simp
 have e2:(s.extract (i+1) s.size).data.toList=s.data.toList.drop (i+1):=by
  rw [GE,HF,OE]
  simp only [List.extract_eq_take_drop]
  rw [Ai (by rw [B3]; omega)]
 have hl:i < s.data.toList.length:=by rw [← OE]; exact hi
 have h:=Ee s i hi
 rw [Aa hl] at h
 injection h with h
 rw [e1,e2,← h,List.getElem_cons_drop,DU]
theorem Oi (s:ByteArray) (i:Nat) (hi:i < s.size) (hs:s[i]'hi=43∨s[i]'hi=45) (hn:BI (s.extract 0 i)=true) (hd:Hl (s.extract (i+1) s.size)=true) :
 (∀ (j:Nat) b,s.data.toList[j]?=some b→b.toNat < 128)∧Lib.indexAny s.data.toList [43,45]=i:=by
 have hp:=QP s i hi
 unfold BI at hn
 rw [AP] at hn
 unfold Hl at hd
 rw [AP] at hd
 have h1:∀ b,b ∈ (s.extract 0 i).data.toList→b.toNat < 128∧b≠43∧b≠45:=fun b hb=>by
  have:=Ar.1 hn.2 b hb
  unfold Cc at this
  simp at this
  refine ⟨?_, ?_, ?_⟩
  ·omega
  ·rintro rfl; simp at this
  ·rintro rfl; simp at this
 have h3:∀ b,b ∈ (s.extract (i+1) s.size).data.toList→b.toNat < 128:=fun b hb=>by
  have:=Ar.1 hd.2 b hb
  rw [AP] at this
  have:=Au this.2
  omega
 have h2:(s[i]'hi).toNat < 128:=by rcases hs with h | h <;> rw [h] <;> decide
 refine ⟨fun j b hj=>?_, ?_⟩
 ·have hm:=Ac hj
  rw [hp] at hm
  rcases A4.1 hm with h | h
  ·exact (h1 b h).1
  ·rcases A2.1 h with h | h
   ·rw [h]; exact h2
   ·exact h3 b h
 ·have hl:(s.extract 0 i).data.toList.length=i:=by rw [← OE,DL]; omega
  refine Lib.indexAny_hit (fun j b hj hb=>?_) (Ee s i hi) (by rcases hs with h | h <;> rw [h] <;> decide)
  rw [hp,Be (by omega)] at hb
  obtain ⟨-,h4,h5⟩:=h1 b (Ac hb)
  simp [h4,h5]
theorem Td (s:ByteArray) (i:Nat) (hi:i < s.size) (hs:s[i]'hi=43∨s[i]'hi=45) (hn:BI (s.extract 0 i)=true) (hd:Hl (s.extract (i+1) s.size)=true) :
 Gc s=some ⟨s.extract 0 i,decide (s[i]'hi=45),(A8 0 (s.extract (i+1) s.size).data.toList:Nat)⟩:=by
 unfold Gc
 rw [(Oi s i hi hs hn hd).2]
 have e:(i:Int).toNat=i:=rfl
 simp only [e]
 rw [Ak ⟨by omega,hn,hd⟩,Ee s i hi]
 congr 2
theorem NF (s:ByteArray) (i:Nat) (hasc:(∀ (j:Nat) b,s.data.toList[j]?=some b→b.toNat < 128)→(i:Int)=Lib.indexAny s.data.toList [43,45]) (h:¬ (BI (s.extract 0 i)=true∧Hl (s.extract (i+1) s.size)=true)):Gc s=none:=by
 unfold Gc
 by_cases h9:0≤(Lib.indexAny s.data.toList [43,45])∧BI (s.extract 0 (Lib.indexAny s.data.toList [43,45]).toNat)=true∧Hl (s.extract ((Lib.indexAny s.data.toList [43,45]).toNat+1) s.size)=true
 ·rcases K5 s with h8 | ⟨j,hj,e,hjs⟩
  ·rw [h8] at h9; exact absurd h9.1 (by decide)
  ·rw [e] at h9
   have:=hasc (Oi s j hj hjs h9.2.1 h9.2.2).1
   rw [e] at this
   have e3:i=j:=by omega
   subst e3
   exact absurd h9.2 h
 ·simp only [h9,TF]
theorem Q6 (s:ByteArray) (hasc:(∀ (j:Nat) b,s.data.toList[j]?=some b→b.toNat < 128)→(-1:Int)=Lib.indexAny s.data.toList [43,45]):Gc s=none:=by
 unfold Gc
 by_cases h9:0≤(Lib.indexAny s.data.toList [43,45])∧BI (s.extract 0 (Lib.indexAny s.data.toList [43,45]).toNat)=true∧Hl (s.extract ((Lib.indexAny s.data.toList [43,45]).toNat+1) s.size)=true
 ·rcases K5 s with h8 | ⟨j,hj,e,hjs⟩
  ·rw [h8] at h9; exact absurd h9.1 (by decide)
  ·rw [e] at h9
   have:=hasc (Oi s j hj hjs h9.2.1 h9.2.2).1
   rw [e] at this
   omega
 ·simp only [h9,TF]
def VI (s:ByteArray) (w:World) (e:Ending) (w':World):Prop :=
 ((∃ p,Gc s=some p∧e=.returned (.tuple #[.agg #[.string p.nm,.bool p.ng,.string (tx p.k)],.bool true]))∨(Gc s=none∧e=.returned (.tuple #[.agg #[.string ⟨#[]⟩,.bool false,.string ⟨#[]⟩],.bool false])))∧Fr w w'
theorem Xh (s:ByteArray) (w:World) (hs:s.size≤100000):Calls Tryz.prog 44 #[.string s] w (VI s w):=by
 have hia:=hZ (fun W:World=>Qe s W hs)
 have f0:Fr w (w.alloc (.cells #[.string ⟨#[]⟩,.bool false,.string ⟨#[]⟩] 92)):=(Fr.refl _).alloc _
 obtain ⟨W1,hW1⟩:∃ W1,W1=w.alloc (.cells #[.string ⟨#[]⟩,.bool false,.string ⟨#[]⟩] 92):=⟨_,rfl⟩
 have hP1:FC W1 w.heap.size (.string ⟨#[]⟩) (.bool false) (.string ⟨#[]⟩):=by rw [hW1]; exact FC.new _ _ _ _ _
 rw [← hW1] at f0
 go_enter Tryz.func44,Tryz.ntmps44
 go_upto_region 1 with (fail)
 rw [← hW1]
 clear hW1
 obtain ⟨pb,hpb⟩:∃ pb,pb=w.heap.size:=⟨_,rfl⟩
 rw [← hpb] at hP1 ⊢
 replace hpb:=hZ hpb
 go_wp2_with fail
 refine (hia.out _).mono ?_
 rintro e w2 ⟨k,rfl,hk,hasc,hf2⟩
 have hPz:=hP1.fr hf2
 have hS9:=hZ (hPz.stored (.string ⟨#[]⟩) (.bool false) (.string ⟨#[]⟩))
 have hfx9:=hZ (Ol w2 pb (.string ⟨#[]⟩) (.bool false) (.string ⟨#[]⟩))
 have hfz:Hid (Fr w (((w2.setCell ⟨pb,0,none⟩ (.string ⟨#[]⟩)).setCell ⟨pb,1,none⟩ (.bool false)).setCell ⟨pb,2,none⟩ (.string ⟨#[]⟩))):=((Fx.of_fr (f0.trans hf2)).trans hfx9.out).toFr (fun k hk e=>by have e:k=pb:=e; have:=hpb.out; omega)
 rcases hk with rfl | ⟨i,hi,rfl,hsi⟩
 ·have hno:=hZ (Q6 s hasc)
  clear hasc
  obtain ⟨a0,a1,a2,g0,g1,g2⟩:=hPz
  go_wp2_with fail
  obtain ⟨q0,q1,q2,-⟩:=hS9.out
  refine Ay (v:=.tuple #[.agg #[.string ⟨#[]⟩,.bool false,.string ⟨#[]⟩],.bool false]) (by simp [results,Tryz.results44,go_sem,q0,q1,q2]) rfl ?_
  exact ⟨.inr ⟨hno.out,rfl⟩,hfz.out⟩
 ·obtain ⟨nm,hnm⟩:∃ nm,nm=s.extract 0 i:=⟨_,rfl⟩
  have hin:=hZ (fun W:World=>Je nm W (by rw [hnm,DL]; omega))
  have d0:decide ((i:Int) < 0)=false:=Ab (by omega)
  have z0:(0:Int)≤(i:Int):=by omega
  have z1:(i:Int) < (s.size:Int):=by omega
  have hnm2:=hnm.symm
  replace hnm:=hZ hnm
  cases hb:BI nm with
  | false=>
    have hno:=hZ (NF s i hasc (by rw [← hnm.out,hb]; simp))
    rw [hb] at hin
    clear hasc hsi
    obtain ⟨a0,a1,a2,g0,g1,g2⟩:=hPz
    go_wp2_with fail
    refine (hin.out _).mono ?_
    rintro e w3 ⟨rfl,rfl⟩
    go_wp2_with fail
    obtain ⟨q0,q1,q2,-⟩:=hS9.out
    refine Ay (v:=.tuple #[.agg #[.string ⟨#[]⟩,.bool false,.string ⟨#[]⟩],.bool false]) (by simp [results,Tryz.results44,go_sem,q0,q1,q2]) rfl ?_
    exact ⟨.inr ⟨hno.out,rfl⟩,hfz.out⟩
  | true=>
    rw [hb] at hin
    obtain ⟨ds,hds⟩:∃ ds,ds=s.extract (i+1) s.size:=⟨_,rfl⟩
    obtain ⟨ng,hng⟩:∃ ng,ng=((s[i].toNat:Int) == 45):=⟨_,rfl⟩
    have hdsz:ds.size≤100000:=by rw [hds,DL]; omega
    have hno:Hid (Hl ds=false→Gc s=none):=fun h=>NF s i hasc (by rw [← hds,h]; simp)
    have hok:Hid (Hl ds=true→∃ p,Gc s=some p∧p.nm=nm∧p.ng=ng∧tx p.k=ds):=fun h=>by
     have h2:=h
     rw [hds] at h2
     refine ⟨_,Td s i hi hsi (by rw [← hnm.out]; exact hb) h2,hnm.out.symm, ?_, ?_⟩
     ·show decide _=_
      rw [hng]
      rcases hsi with h9 | h9 <;> rw [h9] <;> rfl
     ·show tx _=_
      rw [← hds]
      exact (R0 h).1.symm
    have hPzh:=hZ hPz
    have f2:=f0.trans hf2
    clear hasc hsi hS9 hfx9 hfz hPz hf2 f0 hP1 hb
    have z2:(i:Int)+1≤(s.size:Int):=by omega
    have z3:(0:Int)≤(i:Int)+1:=by omega
    replace hng:=hZ hng
    replace hds:=hZ hds
    go_wp2_with fail
    refine (hin.out _).mono ?_
    rintro e w3 ⟨rfl,rfl⟩
    have hw1:IntKind.i64.wrap ((i:Int)+1)=(i:Int)+1:=AC _ (by omega)
    have ht1:((i:Int)+1).toNat=i+1:=by omega
    have hd8:Fr w2 w2.drew:=(Fr.refl w2).drew
    go_wp2_with fail
    refine BL (S:=fun _=>True) 13 (by kernel_rfl) trivial (fun hHeld=>?_)
    refine uK 0 ?_
    refine uK 1 ?_
    refine uT (v:=?_) 2 rfl (by kernel_rfl) (.inl ⟨by rfl, ?_⟩) (by assumption) ?_
    rotate_left
    ·(intro w hSw; (try dsimp only at hSw); go_simp; rw [Ak (by omega)])
    refine uK 3 ?_
    refine uK 4 ?_
    refine uK 5 ?_
    refine uK 6 ?_
    refine uK 7 ?_
    refine uK 8 ?_
    refine uK 9 ?_
    refine uK 10 ?_
    refine uK 11 ?_
    refine Cf (rs:=[12]) (by kernel_rfl) (by simp) ?_
    refine Bi.cons rfl (fun K hK=>?_) Bi.nil
    go_simp
    refine hK.out _ _ trivial (fun hHeld=>?_)
    clear hK K
    clear hHeld
    refine uL 13 (fun K hK=>?_)
    go_simp
    refine hK.out _ _ ?_
    clear hK K
    obtain ⟨W4,hW4⟩:∃ W4,W4=(w2.alloc (.cells #[.string nm,.bool ng,.string ds] 92)).drew:=⟨_,rfl⟩
    have f4:Fr w2 W4:=by rw [hW4]; exact ((Fr.refl _).alloc _).drew
    obtain ⟨qb,hqb⟩:∃ qb,qb=w2.heap.size:=⟨_,rfl⟩
    have hP4:FC W4 qb (.string nm) (.bool ng) (.string ds):=by rw [hW4,hqb]; exact (FC.new w2 _ _ _ _).fr (Fr.refl _).drew
    rw [← hng.out,← hds.out,← hqb]
    rw [← hW4]
    clear hW4
    replace hqb:=hZ hqb
    have f24:=f2.trans f4
    have hP5:=hPzh.out.fr f4
    have hP6:=hZ hP4
    have hS9:=hZ (hP5.stored (.string ⟨#[]⟩) (.bool false) (.string ⟨#[]⟩))
    have hfx9:=hZ (Ol W4 pb (.string ⟨#[]⟩) (.bool false) (.string ⟨#[]⟩))
    have hfz:Hid (Fr w (((W4.setCell ⟨pb,0,none⟩ (.string ⟨#[]⟩)).setCell ⟨pb,1,none⟩ (.bool false)).setCell ⟨pb,2,none⟩ (.string ⟨#[]⟩))):=((Fx.of_fr f24).trans hfx9.out).toFr (fun k hk e=>by have e:k=pb:=e; have:=hpb.out; omega)
    have m2:=hP4.c
    clear hP4
    have hlen:ds.data.toList.length=ds.size:=(OE ds).symm
    by_cases hz:ds.size=0
    ·have hnil:ds.data.toList=[]:=Aq (by omega)
     have hne:ds.toList.isEmpty=true:=by rw [Lib.toList_data,hnil]; rfl
     have hbad:=hZ (show Hl ds=false by unfold Hl; rw [hnil]; rfl)
     obtain ⟨a0,a1,a2,g0,g1,g2⟩:=hP5
     replace hnil:=hZ hnil
     go_wp2_with fail
     obtain ⟨q0,q1,q2,-⟩:=hS9.out
     refine Ay (v:=.tuple #[.agg #[.string ⟨#[]⟩,.bool false,.string ⟨#[]⟩],.bool false]) (by simp [results,Tryz.results44,go_sem,q0,q1,q2]) rfl ?_
     exact ⟨.inr ⟨hno.out (hbad.out),rfl⟩,hfz.out⟩
    ·have hne:ds.toList.isEmpty=false:=by
      rw [Lib.toList_data]
      cases hh:ds.data.toList with
      | nil=>rw [hh] at hlen; exact absurd hlen.symm hz
      | cons=>rfl
     have y0:(0:Int) < (ds.size:Int):=by omega
     have hhd:ds.data.toList.head?=some (ds[0]'(by omega)):=by
      rw [List.head?_eq_getElem?,Ee ds 0 (by omega)]
     by_cases h48:ds[0]'(by omega)=48
     ·have y1:(((ds[0]'(by omega)).toNat:Int) == 48)=true:=by rw [h48]; rfl
      have hbad:=hZ (show Hl ds=false by unfold Hl; rw [hhd,h48]; simp)
      obtain ⟨a0,a1,a2,g0,g1,g2⟩:=hP5
      replace hhd:=hZ hhd
      replace h48:=hZ h48
      go_wp2_with fail
      obtain ⟨q0,q1,q2,-⟩:=hS9.out
      refine Ay (v:=.tuple #[.agg #[.string ⟨#[]⟩,.bool false,.string ⟨#[]⟩],.bool false]) (by simp [results,Tryz.results44,go_sem,q0,q1,q2]) rfl ?_
      exact ⟨.inr ⟨hno.out (hbad.out),rfl⟩,hfz.out⟩
     ·have y1:(((ds[0]'(by omega)).toNat:Int) == 48)=false:=AF (fun e=>h48 (Xl.1 (by show _=48; omega)))
      have hfine:Hid ((∀ (j:Nat) (h:j < ds.size),48≤(ds[j]'h).toNat∧(ds[j]'h).toNat≤57)→Hl ds=true):=fun h=>by
       unfold Hl
       rw [hhd,Ad (by intro e; rw [e] at hlen; exact hz hlen.symm),Ad (by simpa using h48)]
       refine Ar.2 fun c hc=>?_
       obtain ⟨j,hj,e⟩:=Ex hc
       have h1:=Ee ds j (by omega)
       rw [Aa hj,e] at h1
       injection h1 with h1
       obtain ⟨h2,h3⟩:=h j (by omega)
       rw [← h1] at h2 h3
       rw [Ad h2,Ad h3]; rfl
      have hbad:Hid (∀ (j:Nat) (h:j < ds.size),¬ (48≤(ds[j]'h).toNat∧(ds[j]'h).toNat≤57)→Hl ds=false):=fun j h h9=>by
       unfold Hl
       rw [Bool.and_eq_false_iff]
       refine .inr (Bool.eq_false_iff.2 fun e=>h9 ?_)
       have:=Ar.1 e _ (Ac (Ee ds j h))
       rw [AP] at this
       exact ⟨Au this.1,Au this.2⟩
      have hP5h:=hZ hP5
      clear hP5
      replace hhd:=hZ hhd
      replace h48:=hZ h48
      replace hlen:=hZ hlen
      go_wp2_with fail
      go_loopg [44] ds.size (fun m s44 wr=>∃ j:Nat,s44=.int .i64 j∧j+m=ds.size∧wr=W4∧Hid (∀ (t:Nat) (h:t < ds.size),t < j→48≤(ds[t]'h).toNat∧(ds[t]'h).toNat≤57))
      case atStart=>exact ⟨0,rfl,by omega,rfl,fun t _ h=>absurd h (Bc _)⟩
      case round=>
       obtain ⟨j,rfl,hjm,rfl,hall⟩:=hrel
       by_cases hj:j < ds.size
       ·have dj:decide (j < ds.size)=true:=Ad hj
        have u0:(0:Int)≤(j:Int):=by omega
        have u1:(j:Int) < (ds.size:Int):=by omega
        by_cases b1:(ds[j]'hj).toNat < 48
        ·have e1:decide (((ds[j]'hj).toNat:Int) < 48)=true:=Ad (by omega)
         have hb9:=hZ (hbad.out j hj (by omega))
         clear b1
         obtain ⟨a0,a1,a2,g0,g1,g2⟩:=hP5h.out
         go_wp2_with fail
         obtain ⟨q0,q1,q2,-⟩:=hS9.out
         refine Ay (v:=.tuple #[.agg #[.string ⟨#[]⟩,.bool false,.string ⟨#[]⟩],.bool false]) (by simp [results,Tryz.results44,go_sem,q0,q1,q2]) rfl ?_
         exact ⟨.inr ⟨hno.out (hb9.out),rfl⟩,hfz.out⟩
        ·have e1:decide (((ds[j]'hj).toNat:Int) < 48)=false:=Ab (by omega)
         by_cases b2:57 < (ds[j]'hj).toNat
         ·have e2:decide ((57:Int) < ((ds[j]'hj).toNat:Int))=true:=Ad (by omega)
          have hb9:=hZ (hbad.out j hj (by omega))
          clear b1 b2
          obtain ⟨a0,a1,a2,g0,g1,g2⟩:=hP5h.out
          go_wp2_with fail
          obtain ⟨q0,q1,q2,-⟩:=hS9.out
          refine Ay (v:=.tuple #[.agg #[.string ⟨#[]⟩,.bool false,.string ⟨#[]⟩],.bool false]) (by simp [results,Tryz.results44,go_sem,q0,q1,q2]) rfl ?_
          exact ⟨.inr ⟨hno.out (hb9.out),rfl⟩,hfz.out⟩
         ·have e2:decide ((57:Int) < ((ds[j]'hj).toNat:Int))=false:=Ab (by omega)
          have hal2:Hid (∀ (t:Nat) (h:t < ds.size),t < j+1→48≤(ds[t]'h).toNat∧(ds[t]'h).toNat≤57):=fun t h h9=>by
           by_cases e:t=j
           ·subst e; exact ⟨by omega,by omega⟩
           ·exact hall.out t h (by omega)
          clear b1 b2
          go_wp2_with fail
          go_roundg (gk - 1)
          case measure=>omega
          case rel=>exact ⟨j+1,by go_num,by omega,rfl,hal2⟩
       ·have dj:decide (j < ds.size)=false:=Ab hj
        obtain ⟨p,hp1,hp2,hp3,hp4⟩:=hok.out (hfine.out fun t h=>hall.out t h (by omega))
        replace hS9:=hZ (hP5h.out.stored (.string nm) (.bool ng) (.string ds))
        replace hfx9:=hZ (Ol wr pb (.string nm) (.bool ng) (.string ds))
        have m0:=hP6.out.a
        have m1:=hP6.out.b
        replace hp1:=hZ hp1
        replace hp2:=hZ hp2
        replace hp3:=hZ hp3
        replace hp4:=hZ hp4
        obtain ⟨a0,a1,a2,g0,g1,g2⟩:=hP5h.out
        go_wp2_with fail
        obtain ⟨q0,q1,q2,-⟩:=hS9.out
        refine Ay (v:=.tuple #[.agg #[.string nm,.bool ng,.string ds],.bool true]) (by simp [results,Tryz.results44,go_sem,q0,q1,q2]) rfl ?_
        exact ⟨.inl ⟨p,hp1.out,by rw [hp2.out,hp3.out,hp4.out]⟩,((Fx.of_fr f24).trans hfx9.out).toFr (fun k hk e=>by have e:k=pb:=e; have:=hpb.out; omega)⟩
theorem U6 {s:ByteArray} {p:Pc} (h:Gc s=some p):1≤p.k∧(tx p.k).size≤s.size∧BI p.nm=true:=by
 unfold Gc at h
 simp only at h
 split at h
 ·rename_i h1
  obtain ⟨-,h2,h3⟩:=h1
  injection h with h
  obtain ⟨e1,e2⟩:=R0 h3
  subst h
  refine ⟨?_, ?_,h2⟩
  ·show (1:Int)≤((_:Nat):Int); omega
  ·show (tx ((_:Nat):Int)).size≤_
   rw [← e1,DL]; omega
 ·cases h
def Ux (ws:List ByteArray):List Pc:=ws.filterMap Gc
def HK (L:List Sy) (nm:ByteArray):Int:=I8 (fun y:Sy=>y.nm.toList == nm.toList) L
def Tk (A:List Sy) (ws:List ByteArray):List Int:=(Ux ws).map fun p=>HK A p.nm
def Vb (A:List Sy) (ws:List ByteArray):List Nat:=(Tk A ws).map Int.toNat
def IX (l:List Int):Bool:=(List.range (l.length - 1)).all fun i=>decide ((l[i]?).getD 0 < (l[i+1]?).getD 0)
def Iw (N A:List Sy) (w0:ByteArray) (ws:List ByteArray):Int :=
 if BI w0=false then 15
 else if ws.all (fun x=>(Gc x).isSome)=false then 15
 else if HK N w0 < 0 then 10
 else if (Tk A ws).contains (-1)=true then 10
 else if IX (Tk A ws)=false then 6
 else if (Ux ws).all (fun p=>decide (p.k≤1000000000))=false then 4 else 0
theorem Uv {N A:List Sy} {w0:ByteArray} {ws:List ByteArray} {i:Nat} {x:ByteArray} (hx:ws[i]?=some x) (h:Gc x=none):Iw N A w0 ws=15:=by
 unfold Iw
 split
 ·rfl
 ·rw [Ak]
  rw [Ed]
  exact ⟨x,Ac hx,by rw [h]; simp⟩
def Jf (ws:List ByteArray) (pcs:List Pc):Prop:=pcs.length=ws.length∧∀ (i:Nat) (x:ByteArray) (p:Pc),ws[i]?=some x→pcs[i]?=some p→Gc x=some p
theorem Jz:∀ {ws:List ByteArray} {pcs:List Pc},Jf ws pcs→Ux ws=pcs∧ws.all (fun x=>(Gc x).isSome)=true
 | [],[],_=>⟨rfl,rfl⟩
 | [],_ :: _,h=>by have:=h.1; simp at this
 | _ :: _,[],h=>by have:=h.1; simp at this
 | x :: ws,p :: pcs,h=>by
   have hx:=h.2 0 x p rfl rfl
   obtain ⟨h1,h2⟩:=Jz (ws:=ws) (pcs:=pcs) ⟨by have:=h.1; simpa using this,fun i y q hy hq=>h.2 (i+1) y q (by simpa using hy) (by simpa using hq)⟩
   refine ⟨?_, ?_⟩
   ·unfold Ux at h1 ⊢
    rw [List.filterMap_cons,hx]
    show p :: _=_
    rw [h1]
   ·rw [List.all_cons,h2,hx]; rfl
theorem RJ {N A:List Sy} {w0:ByteArray} {ws:List ByteArray} {pcs:List Pc} (h0:BI w0=true) (h:Jf ws pcs):Iw N A w0 ws =
 if HK N w0 < 0 then 10 else if (pcs.map fun p=>HK A p.nm).contains (-1)=true then 10 else if IX (pcs.map fun p=>HK A p.nm)=false then 6 else if pcs.all (fun p=>decide (p.k≤1000000000))=false then 4 else 0:=by
 obtain ⟨h1,h2⟩:=Jz h
 unfold Iw Tk
 rw [h0,h1,h2]
 simp only [Bool.true_eq_false,TF]
theorem O2 {l:List Int} {i:Nat} {a b:Int} (ha:l[i]?=some a) (hb:l[i+1]?=some b) (h:¬ a < b):IX l=false:=by
 unfold IX
 rw [Ed]
 have:=(Ah.1 hb).1
 exact ⟨i,AL.2 (by omega),by rw [ha,hb]; simpa using h⟩
theorem LB {l:List Int} (h:∀ (i:Nat) (a b:Int),i+1 < l.length→l[i]?=some a→l[i+1]?=some b→a < b):IX l=true:=by
 unfold IX
 refine Ar.2 fun i hi=>?_
 have hi:=AL.1 hi
 rw [Aa (show i < l.length by omega),Aa (show i+1 < l.length by omega)]
 exact Ad (h i _ _ (by omega) (Aa (by omega)) (Aa (by omega)))
theorem WR {pcs:List Pc} {i:Nat} {p:Pc} (hp:pcs[i]?=some p) (h:¬ p.k≤1000000000):pcs.all (fun p=>decide (p.k≤1000000000))=false:=by
 rw [Ed]
 exact ⟨p,Ac hp,by simpa using h⟩
theorem NK {pcs:List Pc} (h:∀ (i:Nat) (p:Pc),pcs[i]?=some p→p.k≤1000000000):pcs.all (fun p=>decide (p.k≤1000000000))=true:=by
 refine Ar.2 fun p hp=>?_
 obtain ⟨i,hi⟩:=DV.1 hp
 exact Ad (h i p hi)
theorem ST {α:Type} (p:α→Bool) (xs:List α):-1≤I8 p xs∧I8 p xs < xs.length:=by
 unfold I8
 cases h:xs.findIdx? p with
 | none=>simp; omega
 | some i=>
   have:=(D2.1 h).1
   simp; omega
theorem ND:∀ (l:List UInt8) (a:Nat),a≤A8 a l
 | [],_=>Af _
 | c :: r,a=>by
   have e:A8 a (c :: r)=A8 (a * 10+(c.toNat - 48)) r:=rfl
   have:=ND r (a * 10+(c.toNat - 48))
   rw [e]; omega
theorem Nm:∀ (l:List UInt8) (acc:Nat),(∀ c ∈ l,48≤c.toNat∧c.toNat≤57)→Lib.parseUint10 acc l=.ok (A8 acc l)∨(Lib.parseUint10 acc l=.range∧18446744073709551616≤A8 acc l)
 | [],acc,_=>.inl rfl
 | c :: r,acc,h=>by
   have hc:=h c Bx
   have hr:=fun x hx=>h x (BV c hx)
   have e:A8 acc (c :: r)=A8 (acc * 10+(c.toNat - 48)) r:=rfl
   have hle:=(ND r (acc * 10+(c.toNat - 48)))
   unfold Lib.parseUint10
   rw [Ak hc,e]
   split
   ·exact .inr ⟨rfl,by omega⟩
   ·split
    ·exact .inr ⟨rfl,by omega⟩
    ·exact Nm r _ hr
theorem Vc {n:Int} (h:9223372036854775807 < n):Lib.atoiAll (tx n).data.toList=.range:=by
 have e:(tx n).data.toList=decDigits n.natAbs:=by rw [Fo,Ca (by omega),show n.toNat=n.natAbs by omega]
 have hd:=Cn n.natAbs
 have hv:=Cm n.natAbs
 rw [e]
 obtain ⟨c,r,hr⟩:=List.exists_cons_of_ne_nil (HY n.natAbs)
 rw [hr] at hd hv ⊢
 have hc:=hd c Bx
 unfold Lib.atoiAll
 simp only
 rw [Aj (by omega)]
 unfold Lib.parseMag
 rw [Aj (by simp)]
 rcases Nm (c :: r) 0 hd with h1 | ⟨h1,-⟩
 ·rw [h1,hv]
  simp only
  rw [Ak ⟨by omega,by omega⟩]
 ·rw [h1]
end Go.Proofs.YtkjemicelmabdaaGreatDoor
