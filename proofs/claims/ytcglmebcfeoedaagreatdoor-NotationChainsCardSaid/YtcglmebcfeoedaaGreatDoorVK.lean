/- Contracts and laws: VK. -/
import Derived.Test.YtcglmebcfeoedaaGreatDoorVB
import Derived.Test.YtcglmebcfeoedaaGreatDoorVD
import Derived.Test.YtcglmebcfeoedaaGreatDoorVH
import Derived.Test.YtcglmebcfeoedaaGreatDoorVFG
import Derived.Test.YtcglmebcfeoedaaGreatDoorVE
import Derived.Test.YtcglmebcfeoedaaGreatDoorVGW

set_option maxRecDepth 100000
set_option maxHeartbeats 8000000
namespace Go.Proofs.YtcglmebcfeoedaaGreatDoor
open Go.RowKit Go.Lib
theorem IU {P:Program} (w:World) (dT sT ty elem:TypeId) (g o dLen dCap:Nat) (a:Addr) (sLen sCap m z:Nat) (cur:List Value) (t:TypeId) (cs:List Value)
 (hu:P.underlying dT=some (.slice elem)) (hs:(P.info? elem).map (·.size)=some z)
 (hg:w.heap[g]?=some (.cells cur.toArray t (0,0))) (hn:m=Nat.min sLen dLen) (hl:cs.length=m * z)
 (hsrc:∀ j v,cs[j]?=some v→w.cell? (a.add j)=some v) (hfit:o+cs.length≤cur.length) (h1:∀ v ∈ cs,v.oneCell'=true) :
 (Builtin.copy_ #[dT,sT] ty #[.slice (some ⟨g,o,none⟩) dLen dCap,.slice (some a) sLen sCap]).run P w =
  .ok (goInt m) (w.setRow g (splice cur o cs).toArray):=by
 have hl1:=run_loadCells_list (P:=P) w a cs hsrc
 have hst:=run_storeCells_at P g o t cs 0 cur.toArray w hg (by simpa using hfit) h1
 cases hq:P.info? elem with
 | none=>simp [hq] at hs
 | some i=>
   have hi:i.size=z:=by simpa [hq] using hs
   rw [hl] at hl1
   simp [Builtin.copy_,run_underlying hu,Builtin.lenOf,Builtin.firstCells,sizeOf,typeInfo,hq,hi,← hn,hl1,hst,splice]
theorem P1 {P:Program} {ops:Array Oper} {o:Oper} {a:Act} {w:World} {K:Act→World→Prop} {Q:Exit→Act→World→Prop} {E:Prop} (hgd:o.guard=none) (d s:Operand) (dT sT:TypeId)
 (ho:o.op=.call { callee:=.builtin .copy,args:=#[d,s],argTypes:=#[dT,sT] }) (elem:TypeId) (hu:P.underlying dT=some (.slice elem)) (z:Nat) (hsz:(P.info? elem).map (·.size)=some z)
 (dLen dCap sLen sCap g off m:Nat) (ad:Addr) (hd:a.eval d=.slice (some ⟨g,off,none⟩) dLen dCap) (hs:a.eval s=.slice (some ad) sLen sCap)
 (cur:List Value) (t:TypeId) (hg:w.heap[g]?=some (.cells cur.toArray t (0,0))) (cs:List Value) (hn:m=Nat.min sLen dLen) (hl:cs.length=m * z)
 (hsrc:∀ j v,cs[j]?=some v→w.cell? (ad.add j)=some v)
 (hfit:off+cs.length≤cur.length) (h1:∀ v ∈ cs,v.oneCell'=true) (B:Nat) (w0:World) (hb:RowKit.Below B w0 w) (hBg:B≤g)
 (h:∀ w',RowKit.Hid (w'.heap[g]?=some (.cells (splice cur off cs).toArray t (0,0)))→RowKit.Below B w0 w'→K (a.put o.dst (goInt m)) w') :
 if Region.wanted o (yielded ops a.tmps)=true then Oper.wp P o a w K Q else E:=by
 have hw:Region.wanted o (yielded ops a.tmps)=true:=by simp [Region.wanted,hgd]
 rw [Aj hw]
 have hrun:=IU (P:=P) w dT sT o.type elem g off dLen dCap ad sLen sCap m z cur t cs hu hsz hg hn hl hsrc hfit h1
 unfold Oper.wp
 simp [execOp,ho,resolve,invoke,builtin,hd,hs,hrun,Result.andThen]
 exact h _ (show _=_ by simpa [splice] using Zr w g _ _ t _ hg) (below_setRow hb hBg _)
theorem NF {P:Program} {w:World} {ops:Array Oper} {rest:List Oper} {o:Oper} {a:Act} {Q:Exit→Act→World→Prop} (hgd:o.guard=none) (d s:Operand) (dT sT:TypeId)
 (ho:o.op=.call { callee:=.builtin .copy,args:=#[d,s],argTypes:=#[dT,sT] }) (elem:TypeId) (hu:P.underlying dT=some (.slice elem)) (z:Nat) (hsz:(P.info? elem).map (·.size)=some z)
 (dLen dCap sLen sCap g off m:Nat) (ad:Addr) (hd:a.eval d=.slice (some ⟨g,off,none⟩) dLen dCap) (hs:a.eval s=.slice (some ad) sLen sCap)
 (cur:List Value) (t:TypeId) (hg:w.heap[g]?=some (.cells cur.toArray t (0,0))) (cs:List Value) (hn:m=Nat.min sLen dLen) (hl:cs.length=m * z)
 (hsrc:∀ j v,cs[j]?=some v→w.cell? (ad.add j)=some v)
 (hfit:off+cs.length≤cur.length) (h1:∀ v ∈ cs,v.oneCell'=true) (B:Nat) (w0:World) (hb:RowKit.Below B w0 w) (hBg:B≤g)
 (h:∀ w',RowKit.Hid (w'.heap[g]?=some (.cells (splice cur off cs).toArray t (0,0)))→RowKit.Below B w0 w'→wpList P ops Q rest (a.put o.dst (goInt m)) w') :
 wpList P ops Q (o :: rest) a w:=by
 refine wpList_plain hgd fun K hK=>?_
 have hrun:=IU (P:=P) w dT sT o.type elem g off dLen dCap ad sLen sCap m z cur t cs hu hsz hg hn hl hsrc hfit h1
 unfold Oper.wp
 simp [execOp,ho,resolve,invoke,builtin,hd,hs,hrun,Result.andThen]
 exact hK _ _ (h _ (show _=_ by simpa [splice] using Zr w g _ _ t _ hg) (below_setRow hb hBg _))
attribute [local go_sem ↓] AA AB
theorem WK:(Tryz.prog.info? 194).map (·.size)=some 2:=by kernel_rfl
def F8 (k:Nat) (z:Rat):List Value:=Cy (List.replicate k z)
theorem Fy (k:Nat) (z:Rat):(F8 k z).length=k * 2:=by unfold F8; rw [Hp,AH]
theorem OG (k m:Nat) (z:Rat):F8 (k+m) z=F8 k z ++ F8 m z:=by unfold F8; rw [← Fs,Tk]
theorem LJ {w:World} {base:Nat} {e:TypeId} {g n s:Nat} {xs:List Value} (h:w.ownsRow base e s (.slice (some ⟨g,0,none⟩) n n) n xs):w.heap[g]?=some (.cells xs.toArray e (0,0))∧base≤g∧xs.length=n * s:=by
 obtain ⟨h1,h2⟩:=h
 rcases h2 with ⟨h2,_⟩ | ⟨g',cap',cur,hv,hg,hh,hn,hc,hs,ht⟩
 ·cases h2
 ·injection hv with hv1 hv2 hv3
  injection hv1 with hv1; injection hv1 with hv1
  subst hv1; subst hv3
  refine ⟨?_,hg,h1⟩
  rw [hh,← ht,Ak (by simp [hs])]
theorem LI {w:World} {base:Nat} {e:TypeId} {g n s:Nat} {xs:List Value} (h:w.heap[g]?=some (.cells xs.toArray e (0,0))) (hb:base≤g) (hl:xs.length=n * s) (hm:n≤maxLen):w.ownsRow base e s (.slice (some ⟨g,0,none⟩) n n) n xs :=
 ⟨hl,.inr ⟨g,n,xs.toArray,rfl,hb,h,Ag _,hm,by simpa using hl,by rw [← hl]; simp⟩⟩
theorem KK (cur:List Value) (z:Rat) (k m n:Nat) (hl:cur.length=n * 2) (hk:cur.take (k * 2)=F8 k z) (hm:k+m≤n):(splice cur (k * 2) (F8 m z)).length=n * 2∧(splice cur (k * 2) (F8 m z)).take ((k+m) * 2)=F8 (k+m) z:=by
 have hr:=Fy m z
 have hr2:=Fy k z
 refine ⟨by rw [length_splice _ _ _ (by omega),hl], ?_⟩
 unfold splice
 rw [hk,OG,← BF,Vp,Ak (by rw [Ar]; omega),show (k+m) * 2 - (F8 k z ++ F8 m z).length=0 from by rw [Ar]; omega,Fk,BJ]
theorem VM {w:World} {g k m:Nat} {cur:List Value} {z:Rat} {e:TypeId} (h:w.heap[g]?=some (.cells cur.toArray e (0,0))) (ht:cur.take (k * 2)=F8 k z) (hm:m≤k):∀ j u,(F8 m z)[j]?=some u→w.cell? ((⟨g,0,none⟩:Addr).add j)=some u:=fun j u hu=>by
 have hjl:j < m * 2:=by rw [← Fy m z]; exact (Ah.1 hu).1
 have hj:cur[j]?=some u:=by
  have h1:(cur.take (k * 2))[j]?=some u:=by
   rw [ht,show k=m+(k - m) by omega,OG,A0 (by rw [Fy]; exact hjl)]; exact hu
  rw [BN,Aj (by omega)] at h1
  exact h1
 have e1:((⟨g,0,none⟩:Addr).add j)=⟨g,j,none⟩:=by unfold Addr.add; split <;> simp_all
 rw [e1]
 simp [World.cell?,h,hj]
theorem VR {w:World} {b o:Nat} {z:Rat} (h1:w.cell? ⟨b,o,none⟩=some (sv z.num)) (h2:w.cell? ⟨b,o+1,none⟩=some (sv (z.den:Int))):∀ j u,(F8 1 z)[j]?=some u→w.cell? ((⟨b,o,none⟩:Addr).add j)=some u:=fun j u hu=>by
 have e:F8 1 z=[sv z.num,sv (z.den:Int)]:=rfl
 rw [e] at hu
 match j,hu with
 | 0,hu=>simp at hu; subst hu; simpa [Addr.add] using h1
 | 1,hu=>simp at hu; subst hu; simpa [Addr.add] using h2
 | j+2,hu=>simp at hu
def UU (w:World) (n:Nat) (z:Rat) (e:Ending) (w':World):Prop:=∃ g c,e=.returned (.slice (some ⟨g,0,none⟩) n c)∧Fr w w'∧w'.ownsRow w.heap.size 194 2 (.slice (some ⟨g,0,none⟩) n c) n (F8 n z)
theorem Pw (b o cp n:Nat) (z:Rat) (w:World) (hn1:1≤n) (hn2:n≤1000000) (hc:w.cell? ⟨b,o,none⟩=some (sv z.num)) (hd:w.cell? ⟨b,o+1,none⟩=some (sv (z.den:Int))) :
 Calls Tryz.prog 186 #[.slice (some ⟨b,o,none⟩) 1 cp,.int .i64 n] w (UU w n z):=by
 obtain ⟨i0,hi,hz0,hz1,hz2⟩:=AQ Rm
 replace hc:=hZ hc
 replace hd:=hZ hd
 go_enter Tryz.func186,Tryz.ntmps186
 go_wp2_with fail
 refine (RT n hn2 _).mono ?_; rintro e w' ⟨rfl,rfl⟩
 go_wp2_with (first | (at_make; refine Dz _ rfl _ _ 196 rfl w.heap.size 194 i0 _ 2 Tryz.underlying196 hi hz0 hz1 _ _ _ _ n (by rfl) (by rfl) (by omega) (by omega) (by rw [hz2]; omega) (by unfold maxLen; omega) (Ag _) ?_; intro w2 hown2 hgr2; obtain ⟨hw2,-,hlen2⟩:=LJ hown2; have hf2:=(Fr.refl w).grown hgr2 (fun k e=>by cases e); generalize (madeCells (Value.cells (Value.agg #[Value.string ⟨#[]⟩,Value.string ⟨#[]⟩])) (n * 2)).toList=L at hown2 hw2 hlen2; replace hw2:=hZ hw2; replace hlen2:=hZ hlen2; have hc2:=hf2.keep hc.out; have hd2:=hf2.keep hd.out; have hfB:Below w.heap.size w w2:=hf2) | ((with_reducible refine NF (o:=⟨some 33,_,_,_,_,_⟩) rfl (.tmp 31) (.tmp 32) 196 196 ?ho 194 Tryz.underlying196 2 WK n n 1 cp w.heap.size 0 1 ⟨b,o,none⟩ ?hd ?hs L 194 hw2.out (F8 1 z) ?hn ?hl (VR hc2 hd2) ?hfit ?h1 w.heap.size w hfB (Ag _) ?_); (try case ho=>rfl); (try case hd=>rfl); (try case hs=>rfl); (case hn=>exact (Dj hn1).symm); (case hl=>exact Fy 1 z); (case hfit=>have:=hlen2.out; have:=Fy 1 z; omega); (case h1=>exact Ho _); intro w3 hw3 hf3))
 have hst:=KK L z 0 1 n hlen2.out (by rfl) (by omega)
 replace hst:=hZ hst
 clear hown2 hw2 hc2 hd2 hfB hgr2 hf2
 go_loopg [8] n (fun m s8 wr=>∃ (k:Nat) (cur:List Value),s8=.int .i64 k∧1≤k∧k≤n∧n - k≤m∧Hid (wr.heap[w.heap.size]?=some (.cells cur.toArray 194 (0,0)))∧Hid (cur.length=n * 2)∧Hid (cur.take (k * 2)=F8 k z)∧Fr w wr)
 case atStart=>exact ⟨1,splice L 0 (F8 1 z),rfl,by omega,by omega,by omega,hw3,hst.out.1,hst.out.2,hf3⟩
 case round=>
  clear hw3 hf3 hst
  obtain ⟨k,cur,rfl,hk1,hk2,hm,hw,hlc,htk,hf⟩:=hrel
  by_cases hlt:k < n
  ·have z0:(0:Int)≤(k:Int):=Af _
   have z1:(k:Int)≤(n:Int):=by omega
   have zne:¬ n=k:=by omega
   obtain ⟨c,hce⟩:∃ c,c=min k (n - k):=⟨_,rfl⟩
   have hc1:1≤c:=by omega
   have hc2:k+c≤n:=by omega
   have hck:c≤k:=by omega
   replace hce:=hZ hce
   go_wp2_with fail
   have hBw:Below w.heap.size w wr.drew:=hf.drew
   have hww:wr.drew.heap[w.heap.size]?=some (.cells cur.toArray 194 (0,0)):=hw.out
   have hcs:=VM (m:=c) hww htk.out hck
   replace hww:=hZ hww
   replace hcs:=hZ hcs
   have hrl:=hZ (Fy c z)
   go_region_held3 (fun _=>True) (exact trivial) ((refine P1 (by rfl) (.tmp 41) (.tmp 44) 196 196 (by rfl) 194 Tryz.underlying196 2 WK (n - k) (n - k) k n w.heap.size (k * 2) c ⟨w.heap.size,0,none⟩ (by rfl) (by rfl) cur 194 hww.out (F8 c z) hce.out hrl.out hcs.out (by have:=hlc.out; have:=hrl.out; omega) (Ho _) w.heap.size w hBw (Ag _) ?_; intro w4 hw4 hf4))
   have hsp:=KK cur z k c n hlc.out htk.out hc2
   go_wp2_with fail
   go_roundg (gk - 1)
   case measure=>omega
   case rel=>exact ⟨k+c,splice cur (k * 2) (F8 c z),by simp; exact Al _ (by omega),by omega,by omega,by omega,hw4,hsp.1,hsp.2,hf4⟩
  ·have hd:decide (k < n)=false:=Aa hlt
   obtain rfl:k=n:=by omega
   have hcur:cur=F8 k z:=by have:=htk.out; rw [Ak (by rw [hlc.out]; exact Ag _)] at this; exact this
   replace hcur:=hZ hcur
   go_wp2_with fail
   go_ret
   exact ⟨_,_,rfl,hf,by have h:=hw.out; rw [hcur.out] at h; exact LI h (Ag _) (Fy _ _) (by unfold maxLen; omega)⟩
def GP (n i:Nat):List Rat:=(List.replicate n (0:Rat)).set i 1
def Ld (w:World) (xs:List Rat) (e:Ending) (w':World):Prop:=∃ g c,e=.returned (.slice (some ⟨g,0,none⟩) xs.length c)∧Fr w w'∧FG w' g 0 xs∧w.heap.size≤g∧xs.length≤c
theorem PW (w:World) (g k:Nat) (u y:Value) (h2:w.cell? ⟨g,k+1,none⟩=some y):(w.setCell ⟨g,k,none⟩ u).cell? ⟨g,k+1,none⟩=some y:=by
 rw [Ad _ _ _ _ (fun e=>by injection e with _ e; omega)]; exact h2
theorem Qn (pb i n:Nat) (w:World) (hG:G w) (hi:i < n) (hn:n≤1000) (hc:w.cell? ⟨pb,0,none⟩=some (.int .i64 n)) :
 Calls Tryz.prog 185 #[.int .i64 i,.pointer (some ⟨pb,0,none⟩)] w (Ld w (GP n i)):=by
 have hgn:=CS hG
 obtain ⟨o,ho⟩:∃ o:Rat,o=1:=⟨_,rfl⟩
 obtain ⟨z,hz⟩:∃ z:Rat,z=0:=⟨_,rfl⟩
 have hone:Hid (∀ W,Calls Tryz.prog 188 #[] W fun e w'=>e=.returned (.agg #[sv o.num,sv (o.den:Int)])∧Fr W w'):=fun W=>by rw [ho]; exact LM W
 have hzero:Hid (∀ W,Calls Tryz.prog 187 #[] W fun e w'=>e=.returned (.agg #[sv z.num,sv (z.den:Int)])∧Fr W w'):=fun W=>by rw [hz]; exact MZ W
 have hu:GP n i=(List.replicate n z).set i o:=by rw [ho,hz]; rfl
 have hlu:(GP n i).length=n:=by unfold GP; rw [AN,AH]
 have hrp:=hZ (fun b W (h1:W.cell? ⟨b,0,none⟩=some (sv z.num)) (h2:W.cell? ⟨b,0+1,none⟩=some (sv (z.den:Int)))=>Pw b 0 1 n z W (by omega) (by omega) h1 h2)
 replace hu:=hZ hu
 replace hlu:=hZ hlu
 clear ho hz hG
 have zi0:(0:Int)≤(i:Int):=Af _
 have zi1:(i:Int) < (n:Int):=by omega
 go_enter Tryz.func185,Tryz.ntmps185
 go_wp2_with fail
 go_region_held3 (fun w'=>w'.cell? ⟨pb,0,none⟩=some (.int .i64 n))
  (first | assumption | (refine Fr.keep (by assumption) ?_; assumption) | go_keep)
  (first
   | (go_at_call 187; (with_reducible refine (hzero.out _).mono ?_); rintro e w1 ⟨rfl,hf1⟩)
   | (go_at_call 186; (with_reducible refine (hrp.out _ _ ?_ ?_).mono ?_); (exact (CZ _ _ _ _).1); (exact (CY _ _ _ _).1); rintro e w2 ⟨g,c,rfl,hf2,hown2⟩))
 all_goals
  have hf3:Fr w w2:=(((Fr.refl w).drew.trans hf1).alloc _).trans hf2
  have hsz:(w1.alloc (.cells #[sv z.num,sv (z.den:Int)] 194)).heap.size=w1.heap.size+1:=by simp
  have hsz1:=hf1.size
  rw [It] at hsz1
  obtain ⟨hO,-,-,hgb,hcp⟩:=EO (xs:=List.replicate n z) (by omega) hown2
  rw [hsz] at hgb
  replace hO:=hZ hO
  clear hown2
  go_wp2_with fail
  refine (hone.out _).mono ?_
  rintro e w4 ⟨rfl,hf4⟩
  have hO4:=hO.out.fr hf4
  obtain ⟨⟨c1,f1⟩,c2,f2⟩:=hO4.2.2 i z (by rw [Cq,Aj hi])
  rw [Az] at c1 f1 c2 f2
  have c3:=(PW w4 g (i * 2) (sv o.num) _ c2)
  have hO5:=hO4.set (k:=i) (by rw [AH]; exact hi) o
  rw [← hu.out,Az] at hO5
  have hf5:Fr w ((w4.setCell ⟨g,i * 2,none⟩ (sv o.num)).setCell ⟨g,i * 2+1,none⟩ (sv (o.den:Int))):=((hf3.trans hf4).setCell (p:=⟨g,i * 2,none⟩) (by simp; omega) _).setCell (p:=⟨g,i * 2+1,none⟩) (by simp; omega) _
  replace hO5:=hZ hO5
  replace hO4:=hZ hO4
  go_wp2_with fail
  go_ret
  exact ⟨g,c,by rw [hlu.out]; rfl,hf5,hO5.out,by omega,by rw [hlu.out]; exact hcp⟩
def U3 (w:World) (n:Nat) (g:List (List Rat)) (e:Ending) (w':World):Prop:=∃ v hs,e=.returned v∧K1 w' w.heap.size 196 v hs g∧Hid (∀ h,h ∈ hs→w.heap.size≤h.1∧n+n≤h.2.2)∧Fr w w'
def HD (m:List (List Int)):List (List Rat):=m.mapIdx fun i r=>CM r ++ GP m.length i
theorem JV (m:List (List Int)):(HD m).length=m.length:=QT
theorem Pq {m:List (List Int)} {j:Nat} (h:j < m.length):(HD m)[j]?=some (CM m[j] ++ GP m.length j):=by
 unfold HD; rw [HQ,Ab h]; rfl
theorem Jb:∀ (xs:List Rat) (j:Nat) (u:Value),(Cy xs)[j]?=some u→∃ i x,xs[i]?=some x∧(j=i * 2∧u=sv x.num∨j=i * 2+1∧u=sv (x.den:Int))
 | [],j,u,h=>by simp [Cy] at h
 | y :: l,j,u,h=>by
   have e:Cy (y :: l)=sv y.num :: sv (y.den:Int) :: Cy l:=rfl
   rw [e] at h
   match j,h with
   | 0,h=>exact ⟨0,y,rfl,.inl ⟨rfl,by simpa using h.symm⟩⟩
   | 1,h=>exact ⟨0,y,rfl,.inr ⟨rfl,by simpa using h.symm⟩⟩
   | j+2,h=>
     rw [B4,B4] at h
     obtain ⟨i,x,hx,h2⟩:=Jb l j u h
     exact ⟨i+1,x,by rw [B4]; exact hx,h2.imp (fun ⟨a,b⟩=>⟨by omega,b⟩) (fun ⟨a,b⟩=>⟨by omega,b⟩)⟩
theorem Se {w:World} {g:Nat} {xs:List Rat} (h:FG w g 0 xs):∀ (j:Nat) (u:Value),(Cy xs)[j]?=some u→w.cell? ((⟨g,0,none⟩:Addr).add j)=some u:=fun j u hu=>by
 obtain ⟨i,x,hx,h2⟩:=Jb xs j u hu
 obtain ⟨⟨a,-⟩,b,-⟩:=h.2.2 i x hx
 have e1:((⟨g,0,none⟩:Addr).add j)=⟨g,j,none⟩:=by unfold Addr.add; split <;> simp_all
 rw [e1]
 rw [Az] at a b
 rcases h2 with ⟨rfl,rfl⟩ | ⟨rfl,rfl⟩
 ·exact a
 ·exact b
theorem P8 {w:World} {g o:Nat} {xs:List Rat} (h:FG w g o xs) (n:Nat):∀ (j:Nat) (u:Value),(Cy (xs.drop n))[j]?=some u→w.cell? ((⟨g,o+n * 2,none⟩:Addr).add j)=some u:=fun j u hu=>by
 obtain ⟨i,x,hx,h2⟩:=Jb _ j u hu
 rw [List.getElem?_drop] at hx
 obtain ⟨⟨a,-⟩,b,-⟩:=h.2.2 (n+i) x hx
 have e1:((⟨g,o+n * 2,none⟩:Addr).add j)=⟨g,o+n * 2+j,none⟩:=by unfold Addr.add; split <;> simp_all
 rw [e1]
 rcases h2 with ⟨rfl,rfl⟩ | ⟨rfl,rfl⟩
 ·rw [show o+n * 2+i * 2=o+(n+i) * 2 by omega]; exact a
 ·rw [show o+n * 2+(i * 2+1)=o+(n+i) * 2+1 by omega]; exact b
theorem R9 (m:List (List Int)) (a:Option Addr) (cap n pb:Nat) (w:World) (hG:G w) (hpc:w.cell? ⟨pb,0,none⟩=some (.int .i64 n)) (hsq:m.length=n) (hm:BT w a m) (hr:Ce n m) (hn:1≤n) (hn2:n≤1000) (_hl:m.length≤1000) (hb:∀ r,r ∈ m→∀ x,x ∈ r→Sm x) :
 Calls Tryz.prog 134 #[.slice a m.length cap,.func (.func 185) #[] #[.pointer (some ⟨pb,0,none⟩)]] w (U3 w n (HD m)):=by
 have hG1:=hZ hG
 have hm1:=hZ hm
 have hr1:=hZ hr
 have hb1:=hZ hb
 have hgn:=CS hG
 obtain ⟨i0,hi,hz0,hz1,hz2⟩:=AQ Rm
 obtain ⟨i1,ji,jz0,jz1,jz2⟩:=AQ Qo
 have hno:=hZ (fun i W (hW:Fr w W) (hi:i < n)=>Qn pb i n W (hG.fr hW) hi hn2 (hW.keep hpc))
 have hlen:=hZ (JV m)
 clear hG hm hr hb hpc
 replace hsq:=hZ hsq
 go_enter Tryz.func134,Tryz.ntmps134
 go_wp2_with fail
 go_loopg [5,13] m.length (fun k s5 s13 wr=>∃ (j:Nat) (hs:List (Nat×Nat×Nat)),s13=.int .i64 j∧j+k=m.length∧Fr w wr∧K1 wr w.heap.size 196 s5 hs ((HD m).take j)∧Hid (∀ h,h ∈ hs→w.heap.size≤h.1∧n+n≤h.2.2))
 case atStart=>exact ⟨0,[],rfl,by omega,Fr.refl _,K1.nil _ _ _ hgn,fun h hm=>by simp at hm⟩
 case round=>
  obtain ⟨j,hs,rfl,hjk,hf,hgg,hnew⟩:=hrel
  by_cases hlt:j < m.length
  ·obtain ⟨b,o,a',c',rfl,hc,hel⟩:=(hm1.out.fr hf).at hlt
   have hrj:=hr1.out.row hlt
   rw [hrj] at hc
   have hgl:((HD m).take j).length=j:=by rw [AG,hlen.out]; omega
   have hmj:(HD m)[j]?=some (CM m[j] ++ GP n j):=by rw [← hsq.out]; exact Pq hlt
   have hsn:=Bx hmj
   have hbj:=hb1.out _ (A8 hlt)
   generalize m[j]=row at *
   replace hrj:=hZ hrj
   replace hgl:=hZ hgl
   replace hsn:=hZ hsn
   replace hbj:=hZ hbj
   replace hmj:=hZ hmj
   replace hgg:=hZ hgg
   obtain ⟨wo,rfl⟩:∃ wo:World,wo=wr:=⟨_,rfl⟩
   obtain ⟨ko,rfl⟩:∃ ko:Nat,ko=gk:=⟨_,rfl⟩
   have zj0:(0:Int)≤(j:Int):=Af _
   have zj1:(j:Int) < (m.length:Int):=by omega
   go_wp2_with fail
   go_loopg [8,20] n (fun k s8 s20 wr2=>∃ t:Nat,s20=.int .i64 t∧t+k=n∧Fr wo wr2∧Hid (wr2.ownsRow wo.heap.size 194 2 s8 t (Cy ((CM row).take t))))
   case atStart=>exact ⟨0,rfl,by omega,Fr.refl _,A6 _ _ _ _⟩
   case round=>
    obtain ⟨t,rfl,htk,hf2,hown⟩:=hrel
    by_cases ht:t < n
    ·obtain ⟨b2,o2,x,rfl,hbl2,hxt,hcell2⟩:=(hel.fr hf2).at (i:=t) (by rw [hrj.out]; exact ht)
     have hGr:=(hG1.out.fr hf).fr hf2
     have hsx:=hbj.out x (Ae hxt)
     unfold Sm at hsx
     have hxq:(CM row)[t]?=some (x:Rat):=by unfold CM; rw [Ao,hxt]; rfl
     have hsn2:Hid (Cy ((CM row).take (t+1))=Cy ((CM row).take t) ++ [sv x,.string ⟨#[49]⟩]):=hZ (by
      rw [Bx hxq,Fs]
      have:=TT x
      unfold qv at this
      injection this with this
      injection this with this
      show _ ++ [sv (x:Rat).num,sv ((x:Rat).den:Int)]=_
      rw [this])
     replace hxt:=hZ hxt
     replace hxq:=hZ hxq
     have zt0:(0:Int)≤(t:Int):=Af _
     have zt1:(t:Int) < (n:Int):=by omega
     go_wp2_with fail
     refine (Du _ (by omega) (by omega) _ hGr).mono ?_
     rintro e w2 ⟨rfl,hf3⟩
     go_wp2_with (at_builtin; refine At _ rfl _ _ 196 (by rfl) _ 194 _ _ 2 32 Tryz.underlying196 hi hz0 hz1 hz2 rfl (by decide) _ t _ (by rfl) (Au (Ba hown.out hf3) _) ⟨w2.heap.size,0,none⟩ 1 1 [sv x,.string ⟨#[49]⟩] (by rfl) rfl (FW _ _ _ _ _ (by simp)) (by simp [Value.oneCell']) (by decide) (by unfold maxLen; omega) (by omega) (by have:=(hf2.trans hf3).size; simp; omega) (w2.heap.size+1) (by simp) ?_; intro gA capA wA hownA hgrowA hatA hltA)
     go_wp2_with fail
     go_roundg (gk - 1)
     case measure=>omega
     case rel=>exact ⟨t+1,by go_num,by omega,((hf2.trans hf3).alloc _).grown hgrowA (fun k e=>(hown.out.lt k e).1),by show _; rw [hsn2.out]; exact hownA⟩
    ·have hd:decide (t < n)=false:=Aa ht
     have htn:n=t:=by omega
     subst htn
     obtain ⟨gb,cp,rfl⟩:=Dh hown.out (by omega)
     have hown9:=hown.out
     rw [Ak (by unfold CM; rw [Am,hrj.out]; omega)] at hown9
     obtain ⟨hrow,-,-,hgb,-⟩:=EO (AE hgn hf.size) hown9
     have hgg2:=hgg.out.fr hf2
     replace hrow:=hZ hrow
     have hne:u5.ownBlock≠some gb:=fun e=>by have h9:=(hgg.out.own.lt gb e).2; exact Cw _ (An h9 hgb)
     have hne2:∀ h',h' ∈ hs→h'.1≠gb:=fun h' hm e2=>by have h9:=hgg.out.lt h' hm; rw [e2] at h9; exact Cw _ (An h9 hgb)
     have hz9:=hf2.size
     have hz8:=hf.size
     have hjn:j < n:=by rw [← hsq.out]; exact hlt
     have hnw:=hno.out j wr (hf.trans hf2) hjn
     have hul:Hid ((Cy (GP n j)).length=n * 2):=by show _=_; rw [Hp]; unfold GP; rw [AN,AH]
     have hul2:Hid ((GP n j).length=n):=by show _=_; unfold GP; rw [AN,AH]
     have hrl:Hid ((CM row).length=n):=by show _=_; unfold CM; rw [Am,hrj.out]
     unfold Ld at hnw
     rw [hul2.out] at hnw
     replace hnw:=hZ hnw
     have hownB:=hZ hown9
     go_wp2_with fail
     refine hnw.out.mono ?_
     rintro e w3 ⟨g3,c3,rfl,hf3,hO3,hg3,hc3⟩
     have hown3:=hZ (Ba hownB.out hf3)
     have hz7:=hf3.size
     have hcs:=Se hO3
     replace hO3:=hZ hO3
     replace hcs:=hZ hcs
     clear hown hown9 hownB hnw
     go_wp2_with (first
     | (at_builtin; refine At _ rfl _ _ 196 (by rfl) _ 194 _ _ 2 32 Tryz.underlying196 hi hz0 hz1 hz2 rfl (by decide) _ n _ (by rfl) hown3.out ⟨g3,0,none⟩ n c3 (Cy (GP n j)) (by rfl) hul.out hcs.out (Ho _) (by omega) (by unfold maxLen; omega) (by omega) (by omega) w3.heap.size rfl ?_; intro gA capA wA hownA hgrowA hatA hltA; have hfrA:Fr wo wA:=(hf2.trans hf3).grown hgrowA (fun k e=>(hown3.out.lt k e).1); have hggA:=hgg.out.fr hfrA; have hownG:=hggA.own; rw [hgl.out] at hownG; replace hggA:=hZ hggA; replace hownA:=hZ hownA; have hzA:=hfrA.size)
     | (at_builtin; refine At _ rfl _ _ 190 (by rfl) _ 196 _ _ 1 24 Tryz.underlying190 ji jz0 jz1 jz2 rfl (by decide) _ j _ (by rfl) (Au hownG _) ⟨wA.heap.size,0,none⟩ 1 1 [.slice (some ⟨gA,0,none⟩) (n+n) capA] (by rfl) rfl (AF _ _ _ _ (by simp)) (by simp [Value.oneCell']) (by decide) (by unfold maxLen; omega) (by omega) (by skip; simp; omega) (wA.heap.size+1) (by simp) ?_; intro gB capB wB hownB hgrowB hatB hltB; skip))
     have hoA:=hownA.out
     rw [← Fs] at hoA
     obtain ⟨hrowA,-,-,hgA,hcpA⟩:=EO (AE hgn hf.size) hoA
     have hneA:u5.ownBlock≠some gA:=fun e=>by have h9:=(hgg.out.own.lt gA e).2; exact Cw _ (An h9 hgA)
     have hneA2:∀ h',h' ∈ hs→h'.1≠gA:=fun h' hm e2=>by have h9:=hgg.out.lt h' hm; rw [e2] at h9; exact Cw _ (An h9 hgA)
     have hpush:=(hggA.out.fr ((Fr.refl wA).alloc _)).pushN (hd:=(gA,0,capA)) (hrowA.fr ((Fr.refl wA).alloc _)) hneA2 hneA hgl.out (by unfold NY; rw [Ar,hrl.out,hul2.out]) hownB hgrowB (hatB.imp id (fun e=>by rw [e]; simp))
     rw [← hsn.out] at hpush
     have hfrB:Fr w wB:=((hf.trans hfrA).alloc _).grown hgrowB (fun k e=>(hgg.out.own.lt k e).1)
     go_roundg (ko - 1)
     case measure=>omega
     case rel=>exact ⟨j+1,_,by go_num,by omega,hfrB,hpush,fun h hm=>by rcases A5.1 hm with h1 | h1; exact hnew.out h h1; (simp at h1; subst h1; exact ⟨AE hf.size hgA,hcpA⟩)⟩
  ·have hd:decide (j < m.length)=false:=Aa hlt
   have hjm:(HD m).take j=HD m:=Ak (by rw [hlen.out]; omega)
   rw [hjm] at hgg
   replace hjm:=hZ hjm
   go_wp2_with fail
   go_ret
   exact ⟨_,hs,rfl,hgg,hnew,hf⟩
def LQ:Go.Shelf.Ren:=⟨fun | 41=>189 | n=>n,fun | 22=>196 | 23=>194 | 4=>4 | n=>n,fun | n=>n⟩
theorem Qm:Go.Proofs.SlLaysE0.n41 Tryz.prog LQ:={
 mixed:=by kernel_rfl
 f41:=⟨Tryz.f189.name,by decide,Tryz.func189.trans (congrArg some (by kernel_rfl))⟩
 t4:=Tryz.underlying4
 a4:=Tryz.isAgg4
 z4:=Tryz.sizeOf4
 v4:=Tryz.zeroValue4
 t22:=Tryz.underlying196
 a22:=Tryz.isAgg196
 z22:=Tryz.sizeOf196
 v22:=Tryz.zeroValue196 }
theorem WG (b o c:Nat) (xs:List Rat) (w:World) (hG:G w) (hp:1≤xs.length) (hl:xs.length≤1000000) (hc:∀ (j:Nat) (u:Value),(Cy xs)[j]?=some u→w.cell? ((⟨b,o,none⟩:Addr).add j)=some u) :
 Calls Tryz.prog 189 #[.slice (some ⟨b,o,none⟩) xs.length c] w (Ld w xs):=by
 obtain ⟨i0,hi,hz0,hz1,hz2⟩:=AQ Rm
 have hgn:=CS hG
 refine (AnyE.slices_Clone Qm i0 _ 2 32 hi hz0 hz1 hz2 rfl (by decide) Tryz.sizeOf194 b o xs.length c (Cy xs) w (by rw [Hp]) (by unfold maxLen; omega) (by omega) (fun j u h=>?_) (fun u h=>Ho _ u h)).mono ?_
 ·have h9:=hc j u h
  have e1:((⟨b,o,none⟩:Addr).add j)=⟨b,o+j,none⟩:=by unfold Addr.add; split <;> simp_all
  rw [e1] at h9
  exact h9
 ·rintro e w' ⟨v',rfl,hown,hne,hb⟩
  have h2:=hown.2
  rcases h2 with ⟨h0,-⟩ | ⟨g,cap,_,hv,_⟩
  ·exact absurd h0 hne
  ·subst hv
   obtain ⟨hO,-,-,hg,hcp⟩:=EO hgn hown
   exact ⟨g,cap,rfl,hb,hO,hg,hcp⟩
theorem SK {n:Nat} {m:List (List Int)} (h:Ce n m) (hsq:m.length=n):ET (n+n) (HD m):=fun r hr=>by
 obtain ⟨i,hi,rfl⟩:=Dn hr
 have hi2:i < m.length:=by rw [← JV m]; exact hi
 have h9:=Pq hi2
 rw [Ab hi] at h9
 injection h9 with h9
 rw [h9,Ar]
 unfold CM GP
 rw [Am,AN,AH,h.row hi2,hsq]
theorem KL {g:List (List Rat)} {n:Nat} (hr:ET n g):∀ (c:Nat) (F:RS),Cg g c=some F→(ET n F.g∧F.g.length=g.length)∧F.lead.length≤g.length
 | 0,F,h=>by injection h with h; subst h; exact ⟨⟨hr,rfl⟩,Bm _⟩
 | c+1,F,h=>by
   rw [Cg] at h
   obtain ⟨s,h1,h2⟩:=A2.1 h
   obtain ⟨⟨a,b⟩,l⟩:=KL hr c s h1
   obtain ⟨le1,le2⟩:=UO s.g c s.lead.length (by omega)
   by_cases e:FF s.g c s.lead.length=s.g.length
   ·unfold H4 at h2; rw [Aj e] at h2; injection h2 with h2; subst h2; exact ⟨⟨a,b⟩,l⟩
   ·obtain ⟨-,-,-,g3,h3,rfl⟩:=Ox h2 rfl rfl (by omega)
    have hrS:=KH (k:=s.lead.length) (a:=FF s.g c s.lead.length) a
    obtain ⟨p,q⟩:=Ie (hrS.set (by rw [Am,Gv (by rw [Hk]; omega)]; exact hrS.row _)) _ _ h3 (by rw [AN,Hk]; exact Ag _)
    rw [AN,Hk] at q
    exact ⟨⟨p,q.trans b⟩,by show (s.lead ++ [c]).length≤_; rw [Ar]; show _+1≤_; omega⟩
theorem Iq (m:List (List Int)) (a:Option Addr) (cap n:Nat) (F:RS) (w:World) (hG:G w) (hm:BT w a m) (hok:Ge n m) (hn:1≤n) (hsq:m.length=n) (hF:Cg (HD m) n=some F) (hlead:F.lead.length=n) :
 Calls Tryz.prog 122 #[.slice a m.length cap] w fun e w'=>∃ base v hs,e=.returned (.tuple #[v,.int .i64 0])∧w.heap.size≤base∧K1 w' base 196 v hs (F.g.map (List.drop n))∧Fr w w':=by
 have hck:=hZ (HY m a cap n w hm hok)
 obtain ⟨h1,h2,h3,h4⟩:=hok
 have hro:=hZ (fun W pb (hW:Fr w W) (hc:W.cell? ⟨pb,0,none⟩=some (.int .i64 n))=>R9 m a cap n pb W (hG.fr hW) hc hsq (hm.fr hW) h3 hn (by omega) (by omega) (fun r hr x hx=>Rr (h4 r hr x hx)))
 have hco:=hZ (fun W (hW:Fr w W)=>KU m a cap W (hm.fr hW))
 have hcn:G6 m=n:=by unfold G6; rw [Cb (by omega)]; exact h3.row _
 rw [hcn] at hco
 rw [hsq] at hck hro hco ⊢
 have zn0:(0:Int) < (n:Int):=by omega
 have dn0:decide (0 < n)=true:=Ac hn
 have dnn:((n:Int) != (n:Int))=false:=by simp
 have hGf:=hZ (fun W (hW:Fr w W)=>hG.fr hW)
 have h3':=hZ h3
 have hn12:n≤12:=h2
 replace hF:=hZ hF
 replace hlead:=hZ hlead
 clear h1 h2 h3 h4 hcn hm hG
 go_enter Tryz.func122,Tryz.ntmps122
 go_wp2_with fail
 refine hck.out.mono ?_
 rintro e w1 ⟨rfl,hf1⟩
 go_upto_region 5 with (fail)
 obtain ⟨pb,hpb⟩:∃ pb,pb=w1.heap.size:=⟨_,rfl⟩
 obtain ⟨w2,hw2⟩:∃ w2,w2=w1.alloc (.cells #[.int .i64 n] 3):=⟨_,rfl⟩
 have c0:w2.cell? ⟨pb,0,none⟩=some (.int .i64 n):=by rw [hw2,hpb]; exact D6 _ _ _
 have hf2:Fr w w2:=by rw [hw2]; exact hf1.alloc _
 have hsz1:=hf1.size
 rw [← hw2,← hpb]
 rw [← hpb] at hsz1
 clear hw2 hpb
 have hcol:=hZ (hco.out w2.drew hf2.drew)
 refine Dm (S:=fun W=>W.cell? ⟨pb,0,none⟩=some (.int .i64 n)) (by kernel_rfl) ((Fr.refl w2).drew.keep c0) (fun hHeld=>?_)
 refine hK 0 ?_
 refine hK 1 ?_
 refine hK 2 ?_
 refine hK 3 ?_
 refine hK 5 ?_
 refine hC 4 (fun K hK=>?_)
 go_simp
 (refine (hco.out _ hf2.drew).mono ?_; rintro e w3 ⟨rfl,hf3⟩)
 go_wp2_with fail
 refine hK.out _ _ (((Fr.refl w2).drew.trans hf3).keep c0) (fun hHeld=>?_)
 clear hK K
 refine hK 6 ?_
 refine hK 7 ?_
 refine Fg (by kernel_rfl) ?_ _
 have hf4:Fr w w3:=hf2.drew.trans hf3
 have c3:=((Fr.refl w2).drew.trans hf3).keep c0
 have hsz3:=hf4.size
 clear hHeld c0 hcol
 go_wp2_with fail
 refine (hro.out w3 pb hf4 c3).mono ?_
 rintro e w4 ⟨v,hs,rfl,hgg,hnew,hf5⟩
 rcases hgg.own.2 with ⟨-,h0⟩ | ⟨g,cap2,-,hv,-⟩
 ·rw [JV] at h0; omega
 subst hv
 have hl9:(HD m).length=n:=by rw [JV,hsq]
 obtain ⟨hg,-,hb,-⟩:=hgg.grid
 have hrq:ET (n+n) (HD m):=SK h3'.out hsq
 have hre:=LB g 0 cap2 (n+n) n hs (HD m) F w4 (hGf.out _ (hf4.trans hf5)) hg hrq (by omega) (by omega) (by omega) hF.out
 rw [hl9] at hre ⊢
 have c4:=hf5.keep c3
 replace hgg:=hZ hgg
 replace hg:=hZ hg
 replace hrq:=hZ hrq
 replace hl9:=hZ hl9
 go_wp2_with fail
 refine hre.mono ?_
 clear hre
 rintro e w5 ⟨la,lc,hsF,rfl,hsame,hfx,hgF,-⟩
 rw [hlead.out]
 have hpb3:pb < w3.heap.size:=AX w3 ⟨pb,0,none⟩ c3
 have c5:=hfx.keep c4 (fun hgb=>by
  rcases hgb with h | ⟨hd,hm,h⟩
  ·have h:pb=g:=h; omega
  ·have h9:=(hnew.out hd hm).1; have h:hd.1=pb:=h; omega)
 go_upto_region 9 with (fail)
 obtain ⟨w6,hw6⟩:∃ w6,w6=w5.alloc (.cells #[sv F.det.num,sv (F.det.den:Int)] 194):=⟨_,rfl⟩
 have hf56:Fr w5 w6:=by rw [hw6]; exact (Fr.refl w5).alloc _
 change Code.wp _ _ _ _ (w5.alloc (.cells #[sv F.det.num,sv (F.det.den:Int)] 194))
 rw [← hw6]
 clear hw6
 have c6:=hf56.keep c5
 have hg6:=hZ (hgF.fr hf56)
 have hfr5:Fr w w5:=((Fx.of_fr (hf4.trans hf5)).trans hfx).toFr (fun j hj hgb=>by
  rcases hgb with h | ⟨hd,hm,h⟩
  ·have h:j=g:=h; omega
  ·have h9:=(hnew.out hd hm).1; have h:hd.1=j:=h; omega)
 have hfr6:=hfr5.trans hf56
 have dnl:decide ((n:Int) < (n:Int))=false:=Aa (by omega)
 clear c3 c4 c5
 obtain ⟨j1,ji,jz0,jz1,jz2⟩:=AQ Qo
 have hgn6:gN≤w6.heap.size:=CS (hGf.out _ hfr6)
 have hFr:Hid (ET (n+n) F.g∧F.g.length=n):=by
  have h9:=(KL hrq.out n F hF.out).1
  rw [hl9.out] at h9
  exact h9
 have hlF:=hZ (show (F.g.map (List.drop n)).length=n by rw [Am]; exact hFr.out.2)
 go_wp2_with fail
 go_loopg [9,42] n (fun k s9 s42 wr=>∃ (j:Nat) (hs':List (Nat×Nat×Nat)),s42=.int .i64 j∧j+k=n∧Fr w6 wr∧K1 wr w6.heap.size 196 s9 hs' ((F.g.map (List.drop n)).take j))
 case atStart=>exact ⟨0,[],rfl,by omega,Fr.refl _,K1.nil _ _ _ hgn6⟩
 case round=>
  obtain ⟨j,hs',rfl,hjk,hf,hgg2⟩:=hrel
  by_cases hlt:j < n
  ·obtain ⟨bt,ot,kt,et,cat,cft,rot,bot⟩:=(hg6.out.fr hf).at (i:=j) (by rw [hFr.out.2]; exact hlt)
   rw [hFr.out.1.row (by rw [hFr.out.2]; exact hlt),Az] at cat
   have c7:=hf.keep c6
   have zj0:(0:Int)≤(j:Int):=Af _
   have zj1:(j:Int) < (n:Int):=by omega
   have dlt:decide (j < n)=true:=Ac hlt
   replace rot:=hZ rot
   obtain ⟨ys,hys⟩:∃ ys,ys=(F.g[j]'(by rw [hFr.out.2]; exact hlt)).drop n:=⟨_,rfl⟩
   have hyl:ys.length=n:=by rw [hys,B3,hFr.out.1.row]; omega
   have hcl:=WG bt (ot+n * 2) (kt - n) ys wr (hGf.out _ (hfr6.trans hf)) (by omega) (by omega) (by rw [hys]; exact P8 rot.out n)
   unfold Ld at hcl
   rw [hyl] at hcl
   have hkt:n+n≤kt:=(hnew.out _ (hsame.2 _ (Ae et))).2
   have zk1:(n:Int)≤(n:Int)+(n:Int):=by omega
   have znn:n+n - n=n:=by omega
   have hgl:((F.g.map (List.drop n)).take j).length=j:=by rw [AG,hlF.out]; omega
   have hsn:=hZ (Bx (show (F.g.map (List.drop n))[j]?=some ys by rw [Ao,Ab (by rw [hFr.out.2]; exact hlt),hys]; rfl))
   replace hcl:=hZ hcl
   replace hys:=hZ hys
   replace hyl:=hZ hyl
   replace hgl:=hZ hgl
   replace hgg2:=hZ hgg2
   go_wp2_with fail
   refine hcl.out.mono ?_
   rintro e w7 ⟨g7,c8,rfl,hf7,hO7,hg7,hc8⟩
   have hgg7:=hgg2.out.fr hf7
   have hownG:=hgg7.own
   rw [hgl.out] at hownG
   have hz7:=hf.size
   have hz8:=hf7.size
   replace hO7:=hZ hO7
   replace hgg7:=hZ hgg7
   go_wp2_with (at_builtin; refine At _ rfl _ _ 190 (by rfl) _ 196 _ _ 1 24 Tryz.underlying190 ji jz0 jz1 jz2 rfl (by decide) _ j _ (by rfl) (Au hownG _) ⟨w7.heap.size,0,none⟩ 1 1 [.slice (some ⟨g7,0,none⟩) n c8] (by rfl) rfl (AF _ _ _ _ (by simp)) (by simp [Value.oneCell']) (by decide) (by unfold maxLen; omega) (by omega) (by skip; simp; omega) (w7.heap.size+1) (by simp) ?_; intro gA capA wA hownA hgrowA hatA hltA)
   have hne:u9.ownBlock≠some g7:=fun e=>by have h9:=(hgg2.out.own.lt g7 e).2; exact Cw _ (An h9 hg7)
   have hne2:∀ h',h' ∈ hs'→h'.1≠g7:=fun h' hm e2=>by have h9:=hgg2.out.lt h' hm; rw [e2] at h9; exact Cw _ (An h9 hg7)
   have hpush:=(hgg7.out.fr ((Fr.refl w7).alloc _)).pushN (hd:=(g7,0,c8)) (hO7.out.fr ((Fr.refl w7).alloc _)) hne2 hne hgl.out (by unfold NY; rw [hyl.out]) hownA hgrowA (hatA.imp id (fun e=>by rw [e]; simp))
   rw [← hsn.out] at hpush
   have hfrB:Fr w6 wA:=((hf.trans hf7).alloc _).grown hgrowA (fun k e=>(hgg2.out.own.lt k e).1)
   go_wp2_with fail
   go_roundg (gk - 1)
   case measure=>omega
   case rel=>exact ⟨j+1,_,by go_num,by omega,hfrB,hpush⟩
  ·have hjn:n=j:=by omega
   subst hjn
   have dnl2:decide (n < n)=false:=Aa (by omega)
   rw [Ak (by rw [hlF.out]; exact Ag _)] at hgg2
   replace hgg2:=hZ hgg2
   go_wp2_with fail
   exact Ax (v:=.tuple #[_,.int .i64 0]) (by simp [results,Tryz.results122,go_sem]) rfl ⟨_,_,_,rfl,hfr6.size,hgg2.out,hfr6.trans hf⟩
def E3 (I:List (List Rat)) (d:List Int) (c:Nat):Nat→Rat
 | 0=>0
 | k+1=>E3 I d c k+((d[k]?).getD 0:Int) * DP I k c
def T0 (x y:Rat):Prop:=Tq x∧Tq y
instance (x y:Rat):Decidable (T0 x y):=inferInstanceAs (Decidable (_∧_))
theorem Tq.lit {x:Rat} (h1:x.num.natAbs < 1000000000000000000000000000000) (h2:x.den < 1000000000000000000000000000000):Tq x:=by
 have f1:Bn 30 x.num:=h1
 have f2:Bn 30 (x.den:Int):=h2
 exact ⟨f1.mono (by decide),f2.mono (by decide)⟩
def Lt (I:List (List Rat)) (d:List Int) (r:Nat):Bool :=
 (List.range r).all fun c=>(List.range r).all fun k=>decide (T0 (((d[k]?).getD 0:Int):Rat) (DP I k c)∧T0 (E3 I d c k) ((((d[k]?).getD 0:Int):Rat) * DP I k c))
theorem TD {I:List (List Rat)} {d:List Int} {r c k:Nat} (h:Lt I d r=true) (hc:c < r) (hk:k < r):T0 (((d[k]?).getD 0:Int):Rat) (DP I k c)∧T0 (E3 I d c k) ((((d[k]?).getD 0:Int):Rat) * DP I k c) :=
 Av (As.1 (As.1 h c (AZ.2 hc)) k (AZ.2 hk))
def IW (I:List (List Rat)) (d:List Int) (r:Nat):List Int:=(List.range r).map fun c=>(E3 I d c r).num
def E4 (I:List (List Rat)) (d:List Int) (r:Nat):Option (List Int) :=
 if (List.range r).all (fun c=>decide ((E3 I d c r).den=1)) then some (IW I d r) else none
theorem H5 {I:List (List Rat)} {d:List Int} {r c:Nat} (hc:c < r) (h:(E3 I d c r).den≠1):E4 I d r=none:=by
 unfold E4
 rw [Ai]
 intro h9
 exact h (Av (As.1 h9 c (AZ.2 hc)))
theorem Oz {I:List (List Rat)} {d:List Int} {r:Nat} (h:∀ c,c < r→(E3 I d c r).den=1):E4 I d r=some (IW I d r):=by
 unfold E4
 rw [Aj]
 exact As.2 fun c hc=>Ac (h c (AZ.1 hc))
theorem Sf {I:List (List Rat)} {d:List Int} {r c:Nat} (hc:c < r):(IW I d r)[c]?=some (E3 I d c r).num:=by
 unfold IW
 rw [Ao,Do hc]; rfl
theorem Nf (I:List (List Rat)) (d:List Int) (r:Nat):(IW I d r).length=r:=by unfold IW; rw [Am,Bz]
def Mo (w:World) (res:Option (List Int)) (e:Ending) (w':World):Prop:=match res with
 | none=>e=.returned (.tuple #[.slice none 0 0,.bool false])∧Fr w w'
 | some l=>∃ v,e=.returned (.tuple #[v,.bool true])∧w'.ownsRow w.heap.size 42 1 v l.length (l.map sv)∧Fr w w'
def Od (w:World) (I:List (List Rat)) (e:Ending) (w':World):Prop:=∃ base v hs,e=.returned (.tuple #[v,.int .i64 0])∧w.heap.size≤base∧K1 w' base 196 v hs I∧Fr w w'
theorem Xm:sv (0:Rat).num=.string ⟨#[48]⟩:=by unfold sv; rw [show (0:Rat).num=0 from rfl,Ix]
theorem Xn:sv ((0:Rat).den:Int)=.string ⟨#[49]⟩:=by unfold sv; rw [show (((0:Rat).den:Nat):Int)=1 from rfl,GA]
theorem TV (x:Int):sv (x:Rat).num=.string (tx x):=by unfold sv; rw [Iu]
theorem TW (x:Int):sv ((x:Rat).den:Int)=.string ⟨#[49]⟩:=by unfold sv; rw [Iv,show ((1:Nat):Int)=1 from rfl,GA]
theorem Kx (aN aA:Option Addr) (nN cN cA r:Nat) (A:List Sy) (I:List (List Rat)) (fl tl:List Int) (af at':Option Addr) (cf ct:Nat) (w:World) (hG:G w) (hA:Gn w aA A) (hr:r=A.length) (hr1:1≤r) (hr2:r≤6)
 (hinv:∀ a c W,Fr w W→BT W a (A.map Sy.row)→Calls Tryz.prog 122 #[.slice a r c] W (Od W I)) (hIr:ET r I) (hIl:I.length=r)
 (hf:El w sv af fl) (ht:El w sv at' tl) (hfl:fl.length=r) (htl:tl.length=r) (hfs:∀ x,x ∈ fl→Sm x) (hts:∀ x,x ∈ tl→Sm x) (hok:Lt I (List.zipWith (· - ·) tl fl) r=true) :
 Calls Tryz.prog 63 #[.agg #[.slice aN nN cN,.slice aA r cA],.slice af r cf,.slice at' r ct] w (Mo w (E4 I (List.zipWith (· - ·) tl fl) r)):=by
 have hgn:=CS hG
 obtain ⟨i1,ji,jz0,jz1,jz2⟩:=AQ Je
 have hd:∀ (k:Nat) (x y:Int),tl[k]?=some x→fl[k]?=some y→((List.zipWith (· - ·) tl fl)[k]?).getD 0=x - y:=fun k x y h1 h2=>by
  rw [DJ,h1,h2]; rfl
 generalize List.zipWith (· - ·) tl fl=d at *
 have hacc:=fun W (hW:Fr w W)=>J4 aN aA nN cN cA A W (hG.fr hW) (hA.fr hW) (by omega)
 rw [← hr] at hacc
 have hres:∀ c,c < r→(E3 I d c r).den≠1→E4 I d r=none:=fun c hc h=>H5 hc h
 have hres2:(∀ c,c < r→(E3 I d c r).den=1)→E4 I d r=some (IW I d r):=Oz
 generalize E4 I d r=res at *
 have hnl:=Nf I d r
 have hGf:=fun W (hW:Fr w W)=>hG.fr hW
 replace hG:=hZ hGf
 replace hacc:=hZ hacc
 replace hinv:=hZ hinv
 replace hIr:=hZ hIr
 replace hIl:=hZ hIl
 replace hf:=hZ hf
 replace ht:=hZ ht
 replace hfl:=hZ hfl
 replace htl:=hZ htl
 replace hfs:=hZ hfs
 replace hts:=hZ hts
 replace hok:=hZ hok
 replace hd:=hZ hd
 replace hres:=hZ hres
 replace hres2:=hZ hres2
 replace hnl:=hZ hnl
 clear hGf hr hA
 go_enter Tryz.func63,Tryz.ntmps63
 go_upto_region 1 with (fail)
 obtain ⟨w0,hw0⟩:∃ w0,w0=w.alloc (.cells #[.slice aN nN cN,.slice aA r cA] 31):=⟨_,rfl⟩
 have f0:Fr w w0:=by rw [hw0]; exact (Fr.refl _).alloc _
 have n0:w0.cell? ⟨w.heap.size,0,none⟩=some (.slice aN nN cN):=by rw [hw0]; exact (CZ _ _ _ _).1
 have n1:w0.cell? ⟨w.heap.size,1,none⟩=some (.slice aA r cA):=by rw [hw0]; exact (CY _ _ _ _).1
 rw [← hw0]
 clear hw0
 go_wp2_with fail
 refine (hacc.out _ f0).mono ?_
 rintro e w1 ⟨ra,rc,rfl,hma,hf1⟩
 go_wp2_with fail
 refine (hinv.out ra rc _ (f0.trans hf1) hma).mono ?_
 rintro e w2 ⟨ib,v,hs,rfl,hib,hgg,hf2⟩
 obtain ⟨ig,ic,rfl⟩:=Dh hgg.own (by rw [hIl.out]; omega)
 rw [hIl.out]
 obtain ⟨hgr,-,-,-⟩:=hgg.grid
 have hfr2:=(f0.trans hf1).trans hf2
 replace hgr:=hZ hgr
 clear hgg hma n0 n1
 go_wp2_with fail
 go_loopg [11,28] r (fun k s11 s28 wr=>∃ c:Nat,s28=.int .i64 c∧c+k=r∧Fr w2 wr∧Hid (wr.ownsRow w2.heap.size 42 1 s11 c (((IW I d r).take c).map sv))∧Hid (∀ c',c' < c→(E3 I d c' r).den=1))
 case atStart=>exact ⟨0,rfl,by omega,Fr.refl _,A6 _ _ _ _,fun c' h=>absurd h (Bs _)⟩
 case round=>
  obtain ⟨c,rfl,hck,hfo,hown,hden⟩:=hrel
  by_cases hc:c < r
  ·have hdc:decide (c < r)=true:=Ac hc
   obtain ⟨wo,rfl⟩:∃ wo:World,wo=wr:=⟨_,rfl⟩
   obtain ⟨ko,rfl⟩:∃ ko:Nat,ko=gk:=⟨_,rfl⟩
   have hfro:=hfr2.trans hfo
   go_upto_region 10 with (fail)
   obtain ⟨sb,hsb⟩:∃ sb,sb=wo.heap.size:=⟨_,rfl⟩
   obtain ⟨w3,hw3⟩:∃ w3,w3=wo.alloc (.cells #[.string ⟨#[48]⟩,.string ⟨#[49]⟩] 194):=⟨_,rfl⟩
   have f3:Fr wo w3:=by rw [hw3]; exact (Fr.refl _).alloc _
   have hq0:Le w3 sb 0:=by
    rw [hw3,hsb]
    have:=Le.new wo 0 194
    rw [Xm,Xn] at this
    exact this
   rw [← hw3,← hsb]
   have hs3:sb < w3.heap.size:=AX w3 ⟨sb,0,none⟩ hq0.a
   clear hw3
   replace hq0:=hZ hq0
   replace hsb:=hZ hsb
   go_wp2_with fail
   go_loopg [33] r (fun m s33 wr2=>∃ k:Nat,s33=.int .i64 k∧k+m=r∧Fx (·=sb) w3 wr2∧Hid (Le wr2 sb (E3 I d c k)))
   case atStart=>exact ⟨0,rfl,by omega,Fx.refl _ _,hq0⟩
   case round=>
    clear hq0
    obtain ⟨k,rfl,hkm,hfx,hqa⟩:=hrel
    have hFr:Fr wo wr:=((Fx.of_fr f3).trans hfx).toFr (fun j hj e=>by have e:j=sb:=e; have:=hsb.out; omega)
    by_cases hk:k < r
    ·have hdk:decide (k < r)=true:=Ac hk
     obtain ⟨wi,rfl⟩:∃ wi:World,wi=wr:=⟨_,rfl⟩
     obtain ⟨ki,rfl⟩:∃ ki:Nat,ki=gk:=⟨_,rfl⟩
     have hfri:=hfro.trans hFr
     obtain ⟨b1,o1,x,rfl,hb1,hx,cx⟩:=(ht.out.fr hfri).at (i:=k) (by rw [htl.out]; exact hk)
     obtain ⟨b2,o2,y,rfl,hb2,hy,cy⟩:=(hf.out.fr hfri).at (i:=k) (by rw [hfl.out]; exact hk)
     have hdk:=hd.out k x y hx hy
     have hsx:=hts.out x (Ae hx)
     have hsy:=hfs.out y (Ae hy)
     obtain ⟨t2,t1⟩:=TD hok.out hc hk
     rw [hdk] at t2 t1
     obtain ⟨bt,ot,kt,et,cat,cft,rot,bot⟩:=((hgr.out.fr hfo).fr hFr).at (i:=k) (by rw [hIl.out]; exact hk)
     rw [hIr.out.row,Az] at cat
     have hen:=La hIr.out (show k < I.length by rw [hIl.out]; exact hk) hc
     obtain ⟨⟨e1,-⟩,e2,-⟩:=rot.2.2 c _ hen
     have hsum:E3 I d c (k+1)=E3 I d c k+((x - y:Int):Rat) * DP I k c:=by show E3 I d c k+_ * _=_; rw [hdk]
     have hGi:=hG.out _ hfri
     have hsub:=hZ (fun W' (hW':Fr wi W')=>Yw x y hsx.wd hsy.wd W' (hGi.fr hW'))
     generalize DP I k c=q at *
     obtain ⟨S0,hS9⟩:∃ S0,S0=E3 I d c k:=⟨_,rfl⟩
     rw [← hS9] at hqa hsum t1
     have hmul:=hZ (fun W' (hW':Fr wi W')=>Mp ((x - y:Int):Rat) q t2.1 t2.2 W' (hGi.fr hW'))
     have hadd:=hZ (fun W' (hW':Fr wi W')=>Vn S0 (((x - y:Int):Rat) * q) t1.1 t1.2 W' (hGi.fr hW'))
     have zk0:(0:Int)≤(k:Int):=Af _
     have zk1:(k:Int) < (r:Int):=by omega
     have zc0:(0:Int)≤(c:Int):=Af _
     have zc1:(c:Int) < (r:Int):=by omega
     replace hx:=hZ hx
     replace hy:=hZ hy
     replace hdk:=hZ hdk
     replace hsum:=hZ hsum
     replace hS9:=hZ hS9
     replace hen:=hZ hen
     replace et:=hZ et
     clear t1 t2 rot hsx hsy
     go_wp2_with fail
     go_region_held3 (fun w'=>w'.cell? ⟨b1,o1+k,none⟩=some (sv x)∧w'.cell? ⟨b2,o2+k,none⟩=some (sv y))
      (first | (go_split_ands; refine ⟨?_, ?_⟩ <;> (refine Fr.keep (by assumption) ?_; assumption)) | go_keep | (go_split_ands; refine ⟨?_, ?_⟩ <;> (refine Fr.keep ((Fr.refl _).alloc _) ?_; first | assumption | (refine Fr.keep (by assumption) ?_; assumption))) | (go_split_ands; refine ⟨?_, ?_⟩ <;> (rw [Ad _ _ _ _ (fun e=>by injection e with e _; omega),Ad _ _ _ _ (fun e=>by injection e with e _; omega)]; assumption)))
      (first | (go_at_call 123; (with_reducible refine (hsub.out _ ?_).mono ?_); (exact BR); rintro e w4 ⟨rfl,hf4⟩; try (have hf9:=(Fr.drew (Fr.refl _)).trans hf4; have q1:=hf9.keep (CZ _ _ _ _).1; have q2:=hf9.keep (CY _ _ _ _).1; have q3:=hf9.keepf (CZ _ _ _ _).1 (CZ _ _ _ _).2; have q4:=hf9.keepf (CY _ _ _ _).1 (CY _ _ _ _).2)))
     all_goals
      first
      | (obtain ⟨db,hdb⟩:∃ db,db=w4.heap.size:=⟨_,rfl⟩
         obtain ⟨W4,hW4⟩:∃ W4,W4=w4.alloc (.cells #[.string (tx (x - y)),.string ⟨#[49]⟩] 194):=⟨_,rfl⟩
         have hf0:Fr wi w4:=by exact BR
         have hf5:Fr wi W4:=by rw [hW4]; exact hf0.alloc _
         have hqd:Le W4 db ((x - y:Int):Rat):=by
          rw [hW4,hdb]
          have:=Le.new w4 ((x - y:Int):Rat) 194
          rw [TV,TW] at this
          exact this
         have hdw:wi.heap.size≤db:=by rw [hdb]; exact hf0.size
         rw [← hW4,← hdb]
         clear hW4 hdb hf0 hf4)
      | (obtain ⟨db,hdb⟩:∃ db,db=wi.heap.size:=⟨_,rfl⟩
         obtain ⟨W4,hW4⟩:∃ W4,W4=(w4.setCell ⟨wi.heap.size,0,none⟩ (.string (tx (x - y)))).setCell ⟨wi.heap.size,1,none⟩ (.string ⟨#[49]⟩):=⟨_,rfl⟩
         have hf0:Fr wi w4:=by exact BR
         have hf5:Fr wi W4:=by rw [hW4]; exact (hf0.setCell (p:=⟨wi.heap.size,0,none⟩) (Ag _) _).setCell (p:=⟨wi.heap.size,1,none⟩) (Ag _) _
         have hqd:Le W4 db ((x - y:Int):Rat):=by
          rw [hW4,hdb]
          obtain ⟨a1,a2,-,-⟩:=A7 w4 wi.heap.size (.string (tx (x - y))) (.string ⟨#[49]⟩) _ _ q1 q2
          exact ⟨by rw [TV]; exact a1,by rw [TW]; exact a2,by rw [Ap,Ap]; exact q3,by rw [Ap,Ap]; exact q4⟩
         have hdw:wi.heap.size≤db:=by rw [hdb]; exact Ag _
         rw [← hW4,← hdb]
         clear hW4 hdb hf0 hf4 q1 q2 q3 q4)
     all_goals
      have hq8:=hqa.out.fr hf5
      have x1:=hq8.a
      have x2:=hq8.fa
      have x3:=hq8.b
      have x4:=hq8.fb
      have y1:=hqd.a
      have y3:=hqd.b
      have c1:=hf5.keep cat
      have e1':=hf5.keep e1
      have e2':=hf5.keep e2
      have hS0:=hZ (fun W' (hW':Fr W4 W')=>(⟨hW'.keep x1,hW'.keep x3,hW'.keep y1,hW'.keep y3,hW'.keep c1,hW'.keep e1',hW'.keep e2'⟩:W'.cell? ⟨sb,0,none⟩=some (sv S0.num)∧W'.cell? ⟨sb,1,none⟩=some (sv (S0.den:Int))∧W'.cell? ⟨db,0,none⟩=some (sv ((x - y:Int):Rat).num)∧W'.cell? ⟨db,1,none⟩=some (sv (((x - y:Int):Rat).den:Int))∧W'.cell? ⟨ig,k,none⟩=some (.slice (some ⟨bt,ot,none⟩) r kt)∧W'.cell? ⟨bt,ot+c * 2,none⟩=some (sv q.num)∧W'.cell? ⟨bt,ot+c * 2+1,none⟩=some (sv (q.den:Int))))
      have hmul':=hZ (fun W' (hW':Fr W4 W')=>hmul.out W' (hf5.trans hW'))
      have hadd':=hZ (fun W' (hW':Fr W4 W')=>hadd.out W' (hf5.trans hW'))
      replace hqd:=hZ hqd
      replace hq8:=hZ hq8
      clear cx cy cat e1 e2 hmul hadd hsub
      obtain ⟨dq,hdq⟩:∃ dq:Rat,dq=((x - y:Int):Rat):=⟨_,rfl⟩
      rw [← hdq] at y1 y3 hS0 hmul' hadd' hsum
      replace hdq:=hZ hdq
      go_wp2_with fail
      refine BP (S:=fun W'=>W'.cell? ⟨sb,0,none⟩=some (sv S0.num)∧W'.cell? ⟨sb,1,none⟩=some (sv (S0.den:Int))∧W'.cell? ⟨db,0,none⟩=some (sv dq.num)∧W'.cell? ⟨db,1,none⟩=some (sv (dq.den:Int))∧W'.cell? ⟨ig,k,none⟩=some (.slice (some ⟨bt,ot,none⟩) r kt)∧W'.cell? ⟨bt,ot+c * 2,none⟩=some (sv q.num)∧W'.cell? ⟨bt,ot+c * 2+1,none⟩=some (sv (q.den:Int))) 11 (by kernel_rfl) (hS0.out _ ((Fr.refl _).drew)) (fun hHeld=>?_)
      refine uK 0 ?_
      refine uK 1 ?_
      refine uK 2 ?_
      refine uK 3 ?_
      refine uK 4 ?_
      refine uK 5 ?_
      refine uK 6 ?_
      refine uK 7 ?_
      refine uK 8 ?_
      refine uC 9 (fun K hK=>?_)
      go_simp
      (refine (hmul'.out _ (by exact BR)).mono ?_; rintro e w10 ⟨rfl,hf11⟩)
      go_wp2_with fail
      refine hK.out _ _ (hS0.out _ (by exact BR)) (fun hHeld=>?_)
      clear hK K
      refine uC 10 (fun K hK=>?_)
      go_simp
      (refine (hadd'.out _ (by exact BR)).mono ?_; rintro e w11 ⟨rfl,hf12⟩)
      go_wp2_with fail
      refine hK.out _ _ (hS0.out _ (by exact BR)) (fun hHeld=>?_)
      clear hK K
      have hfr8:Fr W4 w11:=by exact BR
      have z1:=hfr8.keep x1
      have z2:=hfr8.keepf x1 x2
      have z3:=hfr8.keep x3
      have z4:=hfr8.keepf x3 x4
      have z5:(w11.setCell ⟨sb,0,none⟩ (sv (S0+dq * q).num)).cell? ⟨sb,1,none⟩=some (sv (S0.den:Int)):=by rw [Ad _ _ _ _ (fun e=>by injection e with _ e; omega)]; exact z3
      clear hHeld
      refine uL 11 (fun K hK=>?_)
      go_simp
      refine hK.out _ _ ?_
      clear hK K
      have hq9:=(hq8.out.fr hfr8).set (S0+dq * q)
      have hfx9:=((hfx.fr hf5).fr hfr8).setCell (q:=⟨sb,0,none⟩) (.inl rfl) (sv (S0+dq * q).num) |>.setCell (q:=⟨sb,1,none⟩) (.inl rfl) (sv ((S0+dq * q).den:Int))
      replace hq9:=hZ hq9
      clear z1 z2 z3 z4 z5
      go_wp2_with fail
      go_roundg (ki - 1)
      case measure=>omega
      case rel=>exact ⟨k+1,by go_num,by omega,hfx9,by show Le _ _ _; rw [hsum.out]; exact hq9.out⟩
    ·have hkr:r=k:=by omega
     subst hkr
     have hdk:decide (r < r)=false:=Aa (by omega)
     have hq9:=hqa.out
     have x1:=hq9.a
     have x3:=hq9.b
     have hb1:=Lj ((E3 I d c r).den:Int) 1
     rw [Ug] at hb1
     have hsn:Hid (((IW I d r).take (c+1)).map sv=((IW I d r).take c).map sv ++ [sv (E3 I d c r).num]):=hZ (by rw [Bx (Sf hc),Aw]; rfl)
     have hfri:=hfo.trans hFr
     have hownG:=Ba hown.out hFr
     have hsz1:=hfri.size
     have hsz2:=hfr2.size
     by_cases hd1:(E3 I d c r).den=1
     ·rw [Ac (by rw [hd1]; rfl)] at hb1
      have hden2:Hid (∀ c',c' < c+1→(E3 I d c' r).den=1):=fun c' h=>by
       by_cases e:c'=c
       ·rw [e]; exact hd1
       ·exact hden.out c' (by omega)
      generalize (E3 I d c r).den=dn at *
      generalize (E3 I d c r).num=nm at *
      replace hd1:=hZ hd1
      go_wp2_with (at_builtin; refine At _ rfl _ _ 40 (by rfl) _ 42 _ _ 1 16 Tryz.underlying40 ji jz0 jz1 jz2 rfl (by decide) _ c _ (by rfl) (Au hownG _) ⟨wr.heap.size,0,none⟩ 1 1 [.string (tx nm)] (by rfl) rfl (AF _ _ _ _ (by simp)) (by simp [Value.oneCell']) (by decide) (by unfold maxLen; omega) (by omega) (by simp; omega) (wr.heap.size+1) (by simp) ?_; intro gA capA wA hownA hgrowA hatA hltA)
      go_wp2_with fail
      go_roundg (ko - 1)
      case measure=>omega
      case rel=>exact ⟨c+1,by go_num,by omega,((hfri.alloc _)).grown hgrowA (fun k e=>(hown.out.lt k e).1),by show _; rw [hsn.out]; exact hownA,hden2⟩
     ·rw [Aa (by omega)] at hb1
      have hfin:=hres.out c hc hd1
      generalize (E3 I d c r).den=dn at *
      replace hfin:=hZ hfin
      replace hd1:=hZ hd1
      go_wp2_with fail
      go_ret2
      rw [hfin.out]
      exact ⟨rfl,hfr2.trans hfri⟩
  ·have hcr:r=c:=by omega
   subst hcr
   have hdc:decide (r < r)=false:=Aa (by omega)
   have hfin:=hres2.out hden.out
   have hown9:=hown.out
   rw [Ak (by rw [hnl.out]; exact Ag _)] at hown9
   replace hfin:=hZ hfin
   replace hown9:=hZ hown9
   go_wp2_with fail
   go_ret2
   rw [hfin.out]
   exact ⟨_,rfl,by rw [hnl.out]; exact B5 hown9.out hfr2.size,hfr2.trans hfo⟩
end Go.Proofs.YtcglmebcfeoedaaGreatDoor
