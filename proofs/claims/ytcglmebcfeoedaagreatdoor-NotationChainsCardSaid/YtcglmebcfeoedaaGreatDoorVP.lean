/- Contracts and laws: VP. -/
import Derived.Test.YtcglmebcfeoedaaGreatDoorShelf
import Derived.Test.YtcglmebcfeoedaaGreatDoorVH
import Derived.Test.YtcglmebcfeoedaaGreatDoorVD
import Derived.IntWalk
import Derived.Test.YtcglmebcfeoedaaGreatDoorVL
import Derived.Test.YtcglmebcfeoedaaGreatDoorVIX

set_option maxRecDepth 100000
set_option maxHeartbeats 8000000
namespace Go.Proofs.YtcglmebcfeoedaaGreatDoor
open Go.RowKit Go.Lib
attribute [local go_sem ↓] AA AB
theorem Qx (w:World) (p:Nat) (s:ByteArray) (L:List Sy) (hp:w.cell? ⟨p,0,none⟩=some (.string s)) :
 WU w 151 #[.pointer (some ⟨p,0,none⟩)] Sy.enc (fun y=>y.nm.toList == s.toList) L:=fun x W _ hW=>by
 have hp2:=hW.keep hp
 show Calls Tryz.prog 151 #[.agg #[.string x.nm,.slice x.ra x.row.length x.rc],.pointer (some ⟨p,0,none⟩)] W _
 have hf:Fr W (W.alloc (.cells #[.string x.nm,.slice x.ra x.row.length x.rc] 46)):=(Fr.refl _).alloc _
 have c0:=hf.keep hp2
 have c1:=(CZ W (.string x.nm) (.slice x.ra x.row.length x.rc) 46).1
 go_enter Tryz.func151,Tryz.ntmps151
 go_wp2_with fail
 go_ret
 exact ⟨rfl,hf⟩
theorem PC (L:List Sy) (a:Option Addr) (c n:Nat) (s:ByteArray) (w:World) (hL:Gn w a L) (hn:L.length=n) (hl:n≤1000000000) :
 Calls Tryz.prog 86 #[.slice a n c,.string s] w fun e w'=>e=.returned (.int .i64 (Jf (fun y:Sy=>y.nm.toList == s.toList) L))∧Fr w w':=by
 subst hn
 have eg:∀ args w,(callFunc 151 args).run Tryz.prog w=.ok (.enter 151 args) w:=Oo Tryz.func151 (by kernel_rfl) rfl
 have hf:Fr w (w.alloc (.cells #[.string s] 9)):=(Fr.refl _).alloc _
 have c0:(w.alloc (.cells #[.string s] 9)).cell? ⟨w.heap.size,0,none⟩=some (.string s):=D6 _ _ _
 have hi:=MQ Sy.enc L a c 151 #[.pointer (some ⟨w.heap.size,0,none⟩)] (fun y:Sy=>y.nm.toList == s.toList) _ eg (hL.fr hf).1 hl (Qx _ w.heap.size s L c0)
 replace eg:=hZ eg
 clear c0 hL
 go_enter Tryz.func86,Tryz.ntmps86
 go_wp2_with fail
 refine hi.mono ?_
 rintro e w' ⟨rfl,hf2⟩
 go_wp2_with fail
 go_ret
 exact ⟨rfl,hf.trans hf2⟩
structure FK (w:World) (r:Nat) (v u t:Value):Prop where
 a:w.cell? ⟨r,0,none⟩=some v
 b:w.cell? ⟨r,1,none⟩=some u
 c:w.cell? ⟨r,2,none⟩=some t
 fa:w.frozen? ⟨r,0,none⟩=false
 fb:w.frozen? ⟨r,1,none⟩=false
 fc:w.frozen? ⟨r,2,none⟩=false
theorem FK.fx {p:Nat→Prop} {w w':World} {r:Nat} {v u t:Value} (h:FK w r v u t) (k:Fx p w w') (h1:¬ p r):FK w' r v u t :=
 ⟨k.keep h.a h1,k.keep h.b h1,k.keep h.c h1,k.keepf h.a h.fa h1,k.keepf h.b h.fb h1,k.keepf h.c h.fc h1⟩
theorem FK.fr {w w':World} {r:Nat} {v u t:Value} (h:FK w r v u t) (k:Fr w w'):FK w' r v u t:=h.fx (p:=fun _=>False) (Fx.of_fr k) (fun e=>e)
theorem FK.new (w:World) (v u t:Value) (T:TypeId):FK (w.alloc (.cells #[v,u,t] T)) w.heap.size v u t:=by
 have h:(w.alloc (.cells #[v,u,t] T)).heap[w.heap.size]?=some (.cells #[v,u,t] T (0,0)):=CG w _
 refine ⟨?_, ?_, ?_, ?_, ?_, ?_⟩ <;> (first | (unfold World.cell?; rw [h]; rfl) | (unfold World.frozen?; rw [h]; rfl))
theorem FK.stored {w:World} {r:Nat} {v u t:Value} (h:FK w r v u t) (v' u' t':Value):FK (((w.setCell ⟨r,0,none⟩ v').setCell ⟨r,1,none⟩ u').setCell ⟨r,2,none⟩ t') r v' u' t':=by
 obtain ⟨c0,c1,c2,f0,f1,f2⟩:=h
 have ne:∀ i j:Nat,i≠j→(⟨r,i,none⟩:Addr)≠⟨r,j,none⟩:=fun i j hij e=>by injection e with _ e; exact hij e
 refine ⟨?_, ?_, ?_, ?_, ?_, ?_⟩
 ·rw [Ad _ _ _ _ (ne 2 0 (by decide)),Ad _ _ _ _ (ne 1 0 (by decide))]
  exact Aq _ _ _ (by rw [c0]; rfl)
 ·rw [Ad _ _ _ _ (ne 2 1 (by decide))]
  exact Aq _ _ _ (by rw [Ad _ _ _ _ (ne 0 1 (by decide)),c1]; rfl)
 ·exact Aq _ _ _ (by rw [Ad _ _ _ _ (ne 1 2 (by decide)),Ad _ _ _ _ (ne 0 2 (by decide)),c2]; rfl)
 all_goals (simp only [Ap]; assumption)
theorem N8 (w:World) (r:Nat) (u0 u1 u2:Value):Fx (·=r) w (((w.setCell ⟨r,0,none⟩ u0).setCell ⟨r,1,none⟩ u1).setCell ⟨r,2,none⟩ u2) :=
 ((Fx.setCell (p:=(·=r)) (q:=⟨r,0,none⟩) (Fx.refl _ w) (.inl rfl) u0).setCell (q:=⟨r,1,none⟩) (.inl rfl) u1).setCell (q:=⟨r,2,none⟩) (.inl rfl) u2
structure Pc where
 nm:ByteArray
 ng:Bool
 k:Int
def Pc.cells (p:Pc):List Value:=[.string p.nm,.bool p.ng,.string (tx p.k)]
def Pc.val (p:Pc):Int:=if p.ng then -p.k else p.k
def Kw (pcs:List Pc) (ats:List Nat) (d:Nat):Nat→List Int
 | 0=>List.replicate d 0
 | i+1=>match pcs[i]?,ats[i]? with
   | some p,some t=>(Kw pcs ats d i).set t p.val
   | _,_=>Kw pcs ats d i
theorem G7 (pcs:List Pc) (ats:List Nat) (d:Nat):∀ i,(Kw pcs ats d i).length=d
 | 0=>AH
 | i+1=>by
   rw [Kw]
   split
   ·rw [AN,G7 pcs ats d i]
   ·exact G7 pcs ats d i
def IY (l:List Pc):List Value:=l.flatMap Pc.cells
theorem Qw (l:List Pc) (p:Pc):IY (l ++ [p])=IY l ++ [.string p.nm,.bool p.ng,.string (tx p.k)]:=by
 unfold IY; rw [ZD]; simp [Pc.cells]
theorem LY:∀ (l:List Pc) (i:Nat) (p:Pc),l[i]?=some p→(IY l)[i * 3]?=some (.string p.nm)∧(IY l)[i * 3+1]?=some (.bool p.ng)∧(IY l)[i * 3+2]?=some (.string (tx p.k))
 | q :: l,0,p,h=>by
   simp at h; subst h
   exact ⟨rfl,rfl,rfl⟩
 | q :: l,i+1,p,h=>by
   have h2:=LY l i p (by simpa using h)
   have e:IY (q :: l)=.string q.nm :: .bool q.ng :: .string (tx q.k) :: IY l:=rfl
   rw [e,Nat.succ_mul]
   exact ⟨by simpa using h2.1,by simpa using h2.2.1,by simpa using h2.2.2⟩
theorem XA:(Tryz.prog.info? 143).map (fun i=>(i.zero,i.size,i.bytes))=some (some (.agg #[.string ⟨#[]⟩,.bool false,.string ⟨#[]⟩]),3,40):=by kernel_rfl
theorem QD (w:World) (x y z:Value) (t:TypeId) (n:Nat) (hn:w.heap.size=n):∀ (j:Nat) (u:Value),[x,y,z][j]?=some u→(w.alloc (.cells #[x,y,z] t)).cell? ((⟨n,0,none⟩:Addr).add j)=some u:=fun j u hu=>by
 subst hn
 have h:(w.alloc (.cells #[x,y,z] t)).heap[w.heap.size]?=some (.cells #[x,y,z] t (0,0)):=CG w _
 match j,hu with
 | 0,hu=>injection hu with hu; subst hu; exact (FK.new w x y z t).a
 | 1,hu=>injection hu with hu; subst hu; exact (FK.new w x y z t).b
 | 2,hu=>injection hu with hu; subst hu; exact (FK.new w x y z t).c
 | j+3,hu=>cases hu
theorem C4 {P:Program} (w:World) {ops:Array Oper} {o:Oper} {a:Act} {K:Act→World→Prop} {Q:Exit→Act→World→Prop} {E:Prop}
 (hg:o.guard=none) (l c:Operand) (t:TypeId) (hop:o.op=Op.makeSlice t l c)
 (base:Nat) (e:TypeId) (i:TypeInfo) (z:Value) (size:Nat) (h1:P.underlying t=some (.slice e)) (h2:P.info? e=some i) (h3:i.zero=some z) (h4:i.size=size)
 (kl kc:IntKind) (L C:Int) (n:Nat) (hl:a.eval l=.int kl L) (hc:a.eval c=.int kc C) (hL:L=(n:Int)) (hC:C=(n:Int)) (b2:i.bytes * n≤281474976710656) (b3:n≤maxLen) (b4:base≤w.heap.size)
 (hK:∀ w',w'.ownsRow base e size (.slice (some ⟨w.heap.size,0,none⟩) n n) n (madeCells z.cells (n * size)).toList→w.grownBy w' none→K (a.put o.dst (.slice (some ⟨w.heap.size,0,none⟩) n n)) w') :
 if Region.wanted o (yielded ops a.tmps)=true then Oper.wp P o a w K Q else E:=by
 have hw:Region.wanted o (yielded ops a.tmps)=true:=by simp [Region.wanted,hg]
 rw [Aj hw]
 obtain ⟨w',hrun,r1,r2⟩:=run_make_full (P:=P) w base t e i z size h1 h2 h3 h4 kl kc n b2 b3 b4
 subst hL
 subst hC
 unfold Oper.wp
 simp [execOp,hop,hl,hc,hrun,Result.andThen]
 exact hK w' r1 r2
theorem Pd (l:List UInt8) (c:UInt8) (a:Nat):A4 a (l ++ [c])=A4 a l * 10+(c.toNat - 48):=by
 rw [DM]; rfl
theorem XE:∀ (n:Nat) (l:List UInt8),l.length=n→l≠[]→l.head?≠some 48→(∀ c ∈ l,48≤c.toNat∧c.toNat≤57)→decDigits (A4 0 l)=l∧1≤A4 0 l:=by
 intro n
 induction n with
 | zero=>intro l h hne; exact absurd (AD h) hne
 | succ n ih=>
   intro l hl hne hh hd
   obtain ⟨m,c,rfl⟩:∃ m c,l=m ++ [c]:=⟨l.dropLast,l.getLast hne,(List.dropLast_concat_getLast hne).symm⟩
   have hc:=hd c (by simp)
   have hcc:UInt8.ofNat (48+(c.toNat - 48))=c:=by
    rw [show 48+(c.toNat - 48)=c.toNat by omega]; simp
   rw [Pd]
   by_cases hm:m=[]
   ·subst hm
    have h1:c≠48:=by simpa using hh
    have h2:c.toNat≠48:=fun e=>h1 (WI.1 e)
    have e:A4 0 []=0:=rfl
    rw [e,Nat.zero_mul,Az,decDigits_one (by omega),hcc]
    exact ⟨rfl,by omega⟩
   ·have hl2:m.length=n:=by rw [Ar] at hl; simpa using hl
    obtain ⟨h1,h2⟩:=ih m hl2 hm (by
     cases m with
     | nil=>exact absurd rfl hm
     | cons x t=>simpa using hh) (fun x hx=>hd x (by simp [hx]))
    refine ⟨?_,by omega⟩
    rw [decDigits,Y2 (by omega),show (A4 0 m * 10+(c.toNat - 48)) / 10=A4 0 m by omega,show (A4 0 m * 10+(c.toNat - 48)) % 10=c.toNat - 48 by omega,h1,hcc]
def HB (d:ByteArray):Bool:=decide (d.data.toList≠[]) && decide (d.data.toList.head?≠some 48) && d.data.toList.all (fun c=>decide (48≤c.toNat) && decide (c.toNat≤57))
theorem Rz {d:ByteArray} (h:HB d=true):d=tx (A4 0 d.data.toList:Nat)∧1≤A4 0 d.data.toList:=by
 unfold HB at h
 rw [Bb,Bb] at h
 obtain ⟨⟨h1,h2⟩,h3⟩:=h
 have h1:=Av h1
 have h2:=Av h2
 obtain ⟨e1,e2⟩:=XE _ d.data.toList rfl h1 h2 (fun c hc=>by
  have:=As.1 h3 c hc
  rw [Bb] at this
  exact ⟨Av this.1,Av this.2⟩)
 refine ⟨?_,e2⟩
 apply Il
 rw [Fo,itoa_nonneg,e1]
def Gb (s:ByteArray):Option Pc :=
 let k:=(Lib.indexAny s.data.toList [43,45])
 if 0≤k∧BG (s.extract 0 k.toNat)=true∧HB (s.extract (k.toNat+1) s.size)=true then
  some ⟨s.extract 0 k.toNat,s.data.toList[k.toNat]? == some 45,(A4 0 (s.extract (k.toNat+1) s.size).data.toList:Nat)⟩
 else none
theorem Qk (s:ByteArray) (i:Nat) (hi:i < s.size):s.data.toList=(s.extract 0 i).data.toList ++ (s[i]'hi) :: (s.extract (i+1) s.size).data.toList:=by
 have e1:(s.extract 0 i).data.toList=s.data.toList.take i:=by
  rw [GO,HS]; simp
 have e2:(s.extract (i+1) s.size).data.toList=s.data.toList.drop (i+1):=by
  rw [GO,HS,Oj]
  simp only [List.extract_eq_take_drop]
  rw [Ak (by rw [B3]; omega)]
 have hl:i < s.data.toList.length:=by rw [← Oj]; exact hi
 have h:=D3 s i hi
 rw [Ab hl] at h
 injection h with h
 rw [e1,e2,← h,List.getElem_cons_drop,DI]
theorem N3 (s:ByteArray) (i:Nat) (hi:i < s.size) (hs:s[i]'hi=43∨s[i]'hi=45) (hn:BG (s.extract 0 i)=true) (hd:HB (s.extract (i+1) s.size)=true) :
 (∀ (j:Nat) b,s.data.toList[j]?=some b→b.toNat < 128)∧Lib.indexAny s.data.toList [43,45]=i:=by
 have hp:=Qk s i hi
 unfold BG at hn
 rw [Bb] at hn
 unfold HB at hd
 rw [Bb] at hd
 have h1:∀ b,b ∈ (s.extract 0 i).data.toList→b.toNat < 128∧b≠43∧b≠45:=fun b hb=>by
  have:=As.1 hn.2 b hb
  unfold Cc at this
  simp at this
  refine ⟨?_, ?_, ?_⟩
  ·omega
  ·rintro rfl; simp at this
  ·rintro rfl; simp at this
 have h3:∀ b,b ∈ (s.extract (i+1) s.size).data.toList→b.toNat < 128:=fun b hb=>by
  have:=As.1 hd.2 b hb
  rw [Bb] at this
  have:=Av this.2
  omega
 have h2:(s[i]'hi).toNat < 128:=by rcases hs with h | h <;> rw [h] <;> decide
 refine ⟨fun j b hj=>?_, ?_⟩
 ·have hm:=Ae hj
  rw [hp] at hm
  rcases A5.1 hm with h | h
  ·exact (h1 b h).1
  ·rcases A1.1 h with h | h
   ·rw [h]; exact h2
   ·exact h3 b h
 ·have hl:(s.extract 0 i).data.toList.length=i:=by rw [← Oj,Dy]; omega
  refine Lib.indexAny_hit (fun j b hj hb=>?_) (D3 s i hi) (by rcases hs with h | h <;> rw [h] <;> decide)
  rw [hp,A0 (by omega)] at hb
  obtain ⟨-,h4,h5⟩:=h1 b (Ae hb)
  simp [h4,h5]
theorem SE (s:ByteArray) (i:Nat) (hi:i < s.size) (hs:s[i]'hi=43∨s[i]'hi=45) (hn:BG (s.extract 0 i)=true) (hd:HB (s.extract (i+1) s.size)=true) :
 Gb s=some ⟨s.extract 0 i,decide (s[i]'hi=45),(A4 0 (s.extract (i+1) s.size).data.toList:Nat)⟩:=by
 unfold Gb
 rw [(N3 s i hi hs hn hd).2]
 have e:(i:Int).toNat=i:=rfl
 simp only [e]
 rw [Aj ⟨by omega,hn,hd⟩,D3 s i hi]
 congr 2
theorem Nx (s:ByteArray) (i:Nat) (hasc:(∀ (j:Nat) b,s.data.toList[j]?=some b→b.toNat < 128)→(i:Int)=Lib.indexAny s.data.toList [43,45]) (h:¬ (BG (s.extract 0 i)=true∧HB (s.extract (i+1) s.size)=true)):Gb s=none:=by
 unfold Gb
 by_cases h9:0≤(Lib.indexAny s.data.toList [43,45])∧BG (s.extract 0 (Lib.indexAny s.data.toList [43,45]).toNat)=true∧HB (s.extract ((Lib.indexAny s.data.toList [43,45]).toNat+1) s.size)=true
 ·rcases K9 s with h8 | ⟨j,hj,e,hjs⟩
  ·rw [h8] at h9; exact absurd h9.1 (by decide)
  ·rw [e] at h9
   have:=hasc (N3 s j hj hjs h9.2.1 h9.2.2).1
   rw [e] at this
   have e3:i=j:=by omega
   subst e3
   exact absurd h9.2 h
 ·simp only [h9,S8]
theorem QA (s:ByteArray) (hasc:(∀ (j:Nat) b,s.data.toList[j]?=some b→b.toNat < 128)→(-1:Int)=Lib.indexAny s.data.toList [43,45]):Gb s=none:=by
 unfold Gb
 by_cases h9:0≤(Lib.indexAny s.data.toList [43,45])∧BG (s.extract 0 (Lib.indexAny s.data.toList [43,45]).toNat)=true∧HB (s.extract ((Lib.indexAny s.data.toList [43,45]).toNat+1) s.size)=true
 ·rcases K9 s with h8 | ⟨j,hj,e,hjs⟩
  ·rw [h8] at h9; exact absurd h9.1 (by decide)
  ·rw [e] at h9
   have:=hasc (N3 s j hj hjs h9.2.1 h9.2.2).1
   rw [e] at this
   omega
 ·simp only [h9,S8]
def Vl (s:ByteArray) (w:World) (e:Ending) (w':World):Prop :=
 ((∃ p,Gb s=some p∧e=.returned (.tuple #[.agg #[.string p.nm,.bool p.ng,.string (tx p.k)],.bool true]))∨(Gb s=none∧e=.returned (.tuple #[.agg #[.string ⟨#[]⟩,.bool false,.string ⟨#[]⟩],.bool false])))∧Fr w w'
theorem WF (s:ByteArray) (w:World) (hs:s.size≤100000):Calls Tryz.prog 85 #[.string s] w (Vl s w):=by
 have hia:=hZ (fun W:World=>PB s W hs)
 have f0:Fr w (w.alloc (.cells #[.string ⟨#[]⟩,.bool false,.string ⟨#[]⟩] 143)):=(Fr.refl _).alloc _
 obtain ⟨W1,hW1⟩:∃ W1,W1=w.alloc (.cells #[.string ⟨#[]⟩,.bool false,.string ⟨#[]⟩] 143):=⟨_,rfl⟩
 have hP1:FK W1 w.heap.size (.string ⟨#[]⟩) (.bool false) (.string ⟨#[]⟩):=by rw [hW1]; exact FK.new _ _ _ _ _
 rw [← hW1] at f0
 go_enter Tryz.func85,Tryz.ntmps85
 go_upto_region 1 with (fail)
 rw [← hW1]
 clear hW1
 obtain ⟨pb,hpb⟩:∃ pb,pb=w.heap.size:=⟨_,rfl⟩
 rw [← hpb] at hP1 ⊢
 replace hpb:=hZ hpb
 go_wp2_with fail
 refine (hia.out _).mono ?_
 rintro e w2 ⟨k,rfl,hk,hasc,hf2⟩
 have hPz:=hP1.fr hf2
 have hS9:=hZ (hPz.stored (.string ⟨#[]⟩) (.bool false) (.string ⟨#[]⟩))
 have hfx9:=hZ (N8 w2 pb (.string ⟨#[]⟩) (.bool false) (.string ⟨#[]⟩))
 have hfz:Hid (Fr w (((w2.setCell ⟨pb,0,none⟩ (.string ⟨#[]⟩)).setCell ⟨pb,1,none⟩ (.bool false)).setCell ⟨pb,2,none⟩ (.string ⟨#[]⟩))):=((Fx.of_fr (f0.trans hf2)).trans hfx9.out).toFr (fun k hk e=>by have e:k=pb:=e; have:=hpb.out; omega)
 rcases hk with rfl | ⟨i,hi,rfl,hsi⟩
 ·have hno:=hZ (QA s hasc)
  clear hasc
  obtain ⟨a0,a1,a2,g0,g1,g2⟩:=hPz
  go_wp2_with fail
  obtain ⟨q0,q1,q2,-⟩:=hS9.out
  refine Ax (v:=.tuple #[.agg #[.string ⟨#[]⟩,.bool false,.string ⟨#[]⟩],.bool false]) (by simp [results,Tryz.results85,go_sem,q0,q1,q2]) rfl ?_
  exact ⟨.inr ⟨hno.out,rfl⟩,hfz.out⟩
 ·obtain ⟨nm,hnm⟩:∃ nm,nm=s.extract 0 i:=⟨_,rfl⟩
  have hin:=hZ (fun W:World=>Jo nm W (by rw [hnm,Dy]; omega))
  have d0:decide ((i:Int) < 0)=false:=Aa (by omega)
  have z0:(0:Int)≤(i:Int):=by omega
  have z1:(i:Int) < (s.size:Int):=by omega
  have hnm2:=hnm.symm
  replace hnm:=hZ hnm
  cases hb:BG nm with
  | false=>
    have hno:=hZ (Nx s i hasc (by rw [← hnm.out,hb]; simp))
    rw [hb] at hin
    clear hasc hsi
    obtain ⟨a0,a1,a2,g0,g1,g2⟩:=hPz
    go_wp2_with fail
    refine (hin.out _).mono ?_
    rintro e w3 ⟨rfl,rfl⟩
    go_wp2_with fail
    obtain ⟨q0,q1,q2,-⟩:=hS9.out
    refine Ax (v:=.tuple #[.agg #[.string ⟨#[]⟩,.bool false,.string ⟨#[]⟩],.bool false]) (by simp [results,Tryz.results85,go_sem,q0,q1,q2]) rfl ?_
    exact ⟨.inr ⟨hno.out,rfl⟩,hfz.out⟩
  | true=>
    rw [hb] at hin
    obtain ⟨ds,hds⟩:∃ ds,ds=s.extract (i+1) s.size:=⟨_,rfl⟩
    obtain ⟨ng,hng⟩:∃ ng,ng=((s[i].toNat:Int) == 45):=⟨_,rfl⟩
    have hdsz:ds.size≤100000:=by rw [hds,Dy]; omega
    have hno:Hid (HB ds=false→Gb s=none):=fun h=>Nx s i hasc (by rw [← hds,h]; simp)
    have hok:Hid (HB ds=true→∃ p,Gb s=some p∧p.nm=nm∧p.ng=ng∧tx p.k=ds):=fun h=>by
     have h2:=h
     rw [hds] at h2
     refine ⟨_,SE s i hi hsi (by rw [← hnm.out]; exact hb) h2,hnm.out.symm, ?_, ?_⟩
     ·show decide _=_
      rw [hng]
      rcases hsi with h9 | h9 <;> rw [h9] <;> rfl
     ·show tx _=_
      rw [← hds]
      exact (Rz h).1.symm
    have hPzh:=hZ hPz
    have f2:=f0.trans hf2
    clear hasc hsi hS9 hfx9 hfz hPz hf2 f0 hP1 hb
    have z2:(i:Int)+1≤(s.size:Int):=by omega
    have z3:(0:Int)≤(i:Int)+1:=by omega
    replace hng:=hZ hng
    replace hds:=hZ hds
    go_wp2_with fail
    refine (hin.out _).mono ?_
    rintro e w3 ⟨rfl,rfl⟩
    have hw1:IntKind.i64.wrap ((i:Int)+1)=(i:Int)+1:=Al _ (by omega)
    have ht1:((i:Int)+1).toNat=i+1:=by omega
    have hd8:Fr w2 w2.drew:=(Fr.refl w2).drew
    go_wp2_with fail
    refine BP (S:=fun _=>True) 13 (by kernel_rfl) trivial (fun hHeld=>?_)
    refine uK 0 ?_
    refine uK 1 ?_
    refine uT (v:=?_) 2 rfl (by kernel_rfl) (.inl ⟨by rfl, ?_⟩) (by assumption) ?_
    rotate_left
    ·(intro w hSw; (try dsimp only at hSw); go_simp; rw [Aj (by omega)])
    refine uK 3 ?_
    refine uK 4 ?_
    refine uK 5 ?_
    refine uK 6 ?_
    refine uK 7 ?_
    refine uK 8 ?_
    refine uK 9 ?_
    refine uK 10 ?_
    refine uK 11 ?_
    refine Ci (rs:=[12]) (by kernel_rfl) (by simp) ?_
    refine Bc.cons rfl (fun K hK=>?_) Bc.nil
    go_simp
    refine hK.out _ _ trivial (fun hHeld=>?_)
    clear hK K
    clear hHeld
    refine uL 13 (fun K hK=>?_)
    go_simp
    refine hK.out _ _ ?_
    clear hK K
    obtain ⟨W4,hW4⟩:∃ W4,W4=(w2.alloc (.cells #[.string nm,.bool ng,.string ds] 143)).drew:=⟨_,rfl⟩
    have f4:Fr w2 W4:=by rw [hW4]; exact ((Fr.refl _).alloc _).drew
    obtain ⟨qb,hqb⟩:∃ qb,qb=w2.heap.size:=⟨_,rfl⟩
    have hP4:FK W4 qb (.string nm) (.bool ng) (.string ds):=by rw [hW4,hqb]; exact (FK.new w2 _ _ _ _).fr (Fr.refl _).drew
    rw [← hng.out,← hds.out,← hqb]
    rw [← hW4]
    clear hW4
    replace hqb:=hZ hqb
    have f24:=f2.trans f4
    have hP5:=hPzh.out.fr f4
    have hP6:=hZ hP4
    have hS9:=hZ (hP5.stored (.string ⟨#[]⟩) (.bool false) (.string ⟨#[]⟩))
    have hfx9:=hZ (N8 W4 pb (.string ⟨#[]⟩) (.bool false) (.string ⟨#[]⟩))
    have hfz:Hid (Fr w (((W4.setCell ⟨pb,0,none⟩ (.string ⟨#[]⟩)).setCell ⟨pb,1,none⟩ (.bool false)).setCell ⟨pb,2,none⟩ (.string ⟨#[]⟩))):=((Fx.of_fr f24).trans hfx9.out).toFr (fun k hk e=>by have e:k=pb:=e; have:=hpb.out; omega)
    have m2:=hP4.c
    clear hP4
    have hlen:ds.data.toList.length=ds.size:=(Oj ds).symm
    by_cases hz:ds.size=0
    ·have hnil:ds.data.toList=[]:=AD (by omega)
     have hne:ds.toList.isEmpty=true:=by rw [Lib.toList_data,hnil]; rfl
     have hbad:=hZ (show HB ds=false by unfold HB; rw [hnil]; rfl)
     obtain ⟨a0,a1,a2,g0,g1,g2⟩:=hP5
     replace hnil:=hZ hnil
     go_wp2_with fail
     obtain ⟨q0,q1,q2,-⟩:=hS9.out
     refine Ax (v:=.tuple #[.agg #[.string ⟨#[]⟩,.bool false,.string ⟨#[]⟩],.bool false]) (by simp [results,Tryz.results85,go_sem,q0,q1,q2]) rfl ?_
     exact ⟨.inr ⟨hno.out (hbad.out),rfl⟩,hfz.out⟩
    ·have hne:ds.toList.isEmpty=false:=by
      rw [Lib.toList_data]
      cases hh:ds.data.toList with
      | nil=>rw [hh] at hlen; exact absurd hlen.symm hz
      | cons=>rfl
     have y0:(0:Int) < (ds.size:Int):=by omega
     have hhd:ds.data.toList.head?=some (ds[0]'(by omega)):=by
      rw [List.head?_eq_getElem?,D3 ds 0 (by omega)]
     by_cases h48:ds[0]'(by omega)=48
     ·have y1:(((ds[0]'(by omega)).toNat:Int) == 48)=true:=by rw [h48]; rfl
      have hbad:=hZ (show HB ds=false by unfold HB; rw [hhd,h48]; simp)
      obtain ⟨a0,a1,a2,g0,g1,g2⟩:=hP5
      replace hhd:=hZ hhd
      replace h48:=hZ h48
      go_wp2_with fail
      obtain ⟨q0,q1,q2,-⟩:=hS9.out
      refine Ax (v:=.tuple #[.agg #[.string ⟨#[]⟩,.bool false,.string ⟨#[]⟩],.bool false]) (by simp [results,Tryz.results85,go_sem,q0,q1,q2]) rfl ?_
      exact ⟨.inr ⟨hno.out (hbad.out),rfl⟩,hfz.out⟩
     ·have y1:(((ds[0]'(by omega)).toNat:Int) == 48)=false:=Ay (fun e=>h48 (WI.1 (by show _=48; omega)))
      have hfine:Hid ((∀ (j:Nat) (h:j < ds.size),48≤(ds[j]'h).toNat∧(ds[j]'h).toNat≤57)→HB ds=true):=fun h=>by
       unfold HB
       rw [hhd,Ac (by intro e; rw [e] at hlen; exact hz hlen.symm),Ac (by simpa using h48)]
       refine As.2 fun c hc=>?_
       obtain ⟨j,hj,e⟩:=Dn hc
       have h1:=D3 ds j (by omega)
       rw [Ab hj,e] at h1
       injection h1 with h1
       obtain ⟨h2,h3⟩:=h j (by omega)
       rw [← h1] at h2 h3
       rw [Ac h2,Ac h3]; rfl
      have hbad:Hid (∀ (j:Nat) (h:j < ds.size),¬ (48≤(ds[j]'h).toNat∧(ds[j]'h).toNat≤57)→HB ds=false):=fun j h h9=>by
       unfold HB
       rw [Bool.and_eq_false_iff]
       refine .inr (Bool.eq_false_iff.2 fun e=>h9 ?_)
       have:=As.1 e _ (Ae (D3 ds j h))
       rw [Bb] at this
       exact ⟨Av this.1,Av this.2⟩
      have hP5h:=hZ hP5
      clear hP5
      replace hhd:=hZ hhd
      replace h48:=hZ h48
      replace hlen:=hZ hlen
      go_wp2_with fail
      go_loopg [44] ds.size (fun m s44 wr=>∃ j:Nat,s44=.int .i64 j∧j+m=ds.size∧wr=W4∧Hid (∀ (t:Nat) (h:t < ds.size),t < j→48≤(ds[t]'h).toNat∧(ds[t]'h).toNat≤57))
      case atStart=>exact ⟨0,rfl,by omega,rfl,fun t _ h=>absurd h (Bs _)⟩
      case round=>
       obtain ⟨j,rfl,hjm,rfl,hall⟩:=hrel
       by_cases hj:j < ds.size
       ·have dj:decide (j < ds.size)=true:=Ac hj
        have u0:(0:Int)≤(j:Int):=by omega
        have u1:(j:Int) < (ds.size:Int):=by omega
        by_cases b1:(ds[j]'hj).toNat < 48
        ·have e1:decide (((ds[j]'hj).toNat:Int) < 48)=true:=Ac (by omega)
         have hb9:=hZ (hbad.out j hj (by omega))
         clear b1
         obtain ⟨a0,a1,a2,g0,g1,g2⟩:=hP5h.out
         go_wp2_with fail
         obtain ⟨q0,q1,q2,-⟩:=hS9.out
         refine Ax (v:=.tuple #[.agg #[.string ⟨#[]⟩,.bool false,.string ⟨#[]⟩],.bool false]) (by simp [results,Tryz.results85,go_sem,q0,q1,q2]) rfl ?_
         exact ⟨.inr ⟨hno.out (hb9.out),rfl⟩,hfz.out⟩
        ·have e1:decide (((ds[j]'hj).toNat:Int) < 48)=false:=Aa (by omega)
         by_cases b2:57 < (ds[j]'hj).toNat
         ·have e2:decide ((57:Int) < ((ds[j]'hj).toNat:Int))=true:=Ac (by omega)
          have hb9:=hZ (hbad.out j hj (by omega))
          clear b1 b2
          obtain ⟨a0,a1,a2,g0,g1,g2⟩:=hP5h.out
          go_wp2_with fail
          obtain ⟨q0,q1,q2,-⟩:=hS9.out
          refine Ax (v:=.tuple #[.agg #[.string ⟨#[]⟩,.bool false,.string ⟨#[]⟩],.bool false]) (by simp [results,Tryz.results85,go_sem,q0,q1,q2]) rfl ?_
          exact ⟨.inr ⟨hno.out (hb9.out),rfl⟩,hfz.out⟩
         ·have e2:decide ((57:Int) < ((ds[j]'hj).toNat:Int))=false:=Aa (by omega)
          have hal2:Hid (∀ (t:Nat) (h:t < ds.size),t < j+1→48≤(ds[t]'h).toNat∧(ds[t]'h).toNat≤57):=fun t h h9=>by
           by_cases e:t=j
           ·subst e; exact ⟨by omega,by omega⟩
           ·exact hall.out t h (by omega)
          clear b1 b2
          go_wp2_with fail
          go_roundg (gk - 1)
          case measure=>omega
          case rel=>exact ⟨j+1,by go_num,by omega,rfl,hal2⟩
       ·have dj:decide (j < ds.size)=false:=Aa hj
        obtain ⟨p,hp1,hp2,hp3,hp4⟩:=hok.out (hfine.out fun t h=>hall.out t h (by omega))
        replace hS9:=hZ (hP5h.out.stored (.string nm) (.bool ng) (.string ds))
        replace hfx9:=hZ (N8 wr pb (.string nm) (.bool ng) (.string ds))
        have m0:=hP6.out.a
        have m1:=hP6.out.b
        replace hp1:=hZ hp1
        replace hp2:=hZ hp2
        replace hp3:=hZ hp3
        replace hp4:=hZ hp4
        obtain ⟨a0,a1,a2,g0,g1,g2⟩:=hP5h.out
        go_wp2_with fail
        obtain ⟨q0,q1,q2,-⟩:=hS9.out
        refine Ax (v:=.tuple #[.agg #[.string nm,.bool ng,.string ds],.bool true]) (by simp [results,Tryz.results85,go_sem,q0,q1,q2]) rfl ?_
        exact ⟨.inl ⟨p,hp1.out,by rw [hp2.out,hp3.out,hp4.out]⟩,((Fx.of_fr f24).trans hfx9.out).toFr (fun k hk e=>by have e:k=pb:=e; have:=hpb.out; omega)⟩
theorem Uy {s:ByteArray} {p:Pc} (h:Gb s=some p):1≤p.k∧(tx p.k).size≤s.size∧BG p.nm=true:=by
 unfold Gb at h
 simp only at h
 split at h
 ·rename_i h1
  obtain ⟨-,h2,h3⟩:=h1
  injection h with h
  obtain ⟨e1,e2⟩:=Rz h3
  subst h
  refine ⟨?_, ?_,h2⟩
  ·show (1:Int)≤((_:Nat):Int); omega
  ·show (tx ((_:Nat):Int)).size≤_
   rw [← e1,Dy]; omega
 ·cases h
def TY (ws:List ByteArray):List Pc:=ws.filterMap Gb
def HZ (L:List Sy) (nm:ByteArray):Int:=Jf (fun y:Sy=>y.nm.toList == nm.toList) L
def SL (A:List Sy) (ws:List ByteArray):List Int:=(TY ws).map fun p=>HZ A p.nm
def UJ (A:List Sy) (ws:List ByteArray):List Nat:=(SL A ws).map Int.toNat
def I9 (l:List Int):Bool:=(List.range (l.length - 1)).all fun i=>decide ((l[i]?).getD 0 < (l[i+1]?).getD 0)
def IO (N A:List Sy) (w0:ByteArray) (ws:List ByteArray):Int :=
 if BG w0=false then 15
 else if ws.all (fun x=>(Gb x).isSome)=false then 15
 else if HZ N w0 < 0 then 10
 else if (SL A ws).contains (-1)=true then 10
 else if I9 (SL A ws)=false then 6
 else if (TY ws).all (fun p=>decide (p.k≤1000000000))=false then 4 else 0
theorem TX {N A:List Sy} {w0:ByteArray} {ws:List ByteArray} {i:Nat} {x:ByteArray} (hx:ws[i]?=some x) (h:Gb x=none):IO N A w0 ws=15:=by
 unfold IO
 split
 ·rfl
 ·rw [Aj]
  rw [CV]
  exact ⟨x,Ae hx,by rw [h]; simp⟩
def Jp (ws:List ByteArray) (pcs:List Pc):Prop:=pcs.length=ws.length∧∀ (i:Nat) (x:ByteArray) (p:Pc),ws[i]?=some x→pcs[i]?=some p→Gb x=some p
theorem JG:∀ {ws:List ByteArray} {pcs:List Pc},Jp ws pcs→TY ws=pcs∧ws.all (fun x=>(Gb x).isSome)=true
 | [],[],_=>⟨rfl,rfl⟩
 | [],_ :: _,h=>by have:=h.1; simp at this
 | _ :: _,[],h=>by have:=h.1; simp at this
 | x :: ws,p :: pcs,h=>by
   have hx:=h.2 0 x p rfl rfl
   obtain ⟨h1,h2⟩:=JG (ws:=ws) (pcs:=pcs) ⟨by have:=h.1; simpa using this,fun i y q hy hq=>h.2 (i+1) y q (by simpa using hy) (by simpa using hq)⟩
   refine ⟨?_, ?_⟩
   ·unfold TY at h1 ⊢
    rw [List.filterMap_cons,hx]
    show p :: _=_
    rw [h1]
   ·rw [List.all_cons,h2,hx]; rfl
theorem Rf {N A:List Sy} {w0:ByteArray} {ws:List ByteArray} {pcs:List Pc} (h0:BG w0=true) (h:Jp ws pcs):IO N A w0 ws =
 if HZ N w0 < 0 then 10 else if (pcs.map fun p=>HZ A p.nm).contains (-1)=true then 10 else if I9 (pcs.map fun p=>HZ A p.nm)=false then 6 else if pcs.all (fun p=>decide (p.k≤1000000000))=false then 4 else 0:=by
 obtain ⟨h1,h2⟩:=JG h
 unfold IO SL
 rw [h0,h1,h2]
 simp only [Bool.true_eq_false,S8]
theorem OE {l:List Int} {i:Nat} {a b:Int} (ha:l[i]?=some a) (hb:l[i+1]?=some b) (h:¬ a < b):I9 l=false:=by
 unfold I9
 rw [CV]
 have:=(Ah.1 hb).1
 exact ⟨i,AZ.2 (by omega),by rw [ha,hb]; simpa using h⟩
theorem Lz {l:List Int} (h:∀ (i:Nat) (a b:Int),i+1 < l.length→l[i]?=some a→l[i+1]?=some b→a < b):I9 l=true:=by
 unfold I9
 refine As.2 fun i hi=>?_
 have hi:=AZ.1 hi
 rw [Ab (show i < l.length by omega),Ab (show i+1 < l.length by omega)]
 exact Ac (h i _ _ (by omega) (Ab (by omega)) (Ab (by omega)))
theorem Wk {pcs:List Pc} {i:Nat} {p:Pc} (hp:pcs[i]?=some p) (h:¬ p.k≤1000000000):pcs.all (fun p=>decide (p.k≤1000000000))=false:=by
 rw [CV]
 exact ⟨p,Ae hp,by simpa using h⟩
theorem NC {pcs:List Pc} (h:∀ (i:Nat) (p:Pc),pcs[i]?=some p→p.k≤1000000000):pcs.all (fun p=>decide (p.k≤1000000000))=true:=by
 refine As.2 fun p hp=>?_
 obtain ⟨i,hi⟩:=EU.1 hp
 exact Ac (h i p hi)
theorem Sj {α:Type} (p:α→Bool) (xs:List α):-1≤Jf p xs∧Jf p xs < xs.length:=by
 unfold Jf
 cases h:xs.findIdx? p with
 | none=>simp; omega
 | some i=>
   have:=(DN.1 h).1
   simp; omega
theorem Nv:∀ (l:List UInt8) (a:Nat),a≤A4 a l
 | [],_=>Ag _
 | c :: r,a=>by
   have e:A4 a (c :: r)=A4 (a * 10+(c.toNat - 48)) r:=rfl
   have:=Nv r (a * 10+(c.toNat - 48))
   rw [e]; omega
theorem Na:∀ (l:List UInt8) (acc:Nat),(∀ c ∈ l,48≤c.toNat∧c.toNat≤57)→Lib.parseUint10 acc l=.ok (A4 acc l)∨(Lib.parseUint10 acc l=.range∧18446744073709551616≤A4 acc l)
 | [],acc,_=>.inl rfl
 | c :: r,acc,h=>by
   have hc:=h c Bp
   have hr:=fun x hx=>h x (BX c hx)
   have e:A4 acc (c :: r)=A4 (acc * 10+(c.toNat - 48)) r:=rfl
   have hle:=(Nv r (acc * 10+(c.toNat - 48)))
   unfold Lib.parseUint10
   rw [Aj hc,e]
   split
   ·exact .inr ⟨rfl,by omega⟩
   ·split
    ·exact .inr ⟨rfl,by omega⟩
    ·exact Na r _ hr
theorem UK {n:Int} (h:9223372036854775807 < n):Lib.atoiAll (tx n).data.toList=.range:=by
 have e:(tx n).data.toList=decDigits n.natAbs:=by rw [Fo,BS (by omega),show n.toNat=n.natAbs by omega]
 have hd:=B2 n.natAbs
 have hv:=B1 n.natAbs
 rw [e]
 obtain ⟨c,r,hr⟩:=List.exists_cons_of_ne_nil (GJ n.natAbs)
 rw [hr] at hd hv ⊢
 have hc:=hd c Bp
 unfold Lib.atoiAll
 simp only
 rw [Ai (by omega)]
 unfold Lib.parseMag
 rw [Ai (by simp)]
 rcases Na (c :: r) 0 hd with h1 | ⟨h1,-⟩
 ·rw [h1,hv]
  simp only
  rw [Aj ⟨by omega,by omega⟩]
 ·rw [h1]
end Go.Proofs.YtcglmebcfeoedaaGreatDoor
