/- Contracts and laws: VSI. -/
import Derived.Test.YtmalpgbbddkdcaaGreatDoorVC
import Derived.Test.YtmalpgbbddkdcaaGreatDoorVRA
import Derived.Test.YtmalpgbbddkdcaaGreatDoorVB
import Derived.Deep.Cut
import Derived.Test.YtmalpgbbddkdcaaGreatDoorVSH
import Derived.Test.YtmalpgbbddkdcaaGreatDoorVSG

set_option maxRecDepth 100000
set_option maxHeartbeats 4000000
namespace Go.Proofs.YtmalpgbbddkdcaaGreatDoor
open Go.RowKit Go.Lib
def nmOf:Nat→ByteArray
 | 0=>⟨#[65]⟩
 | 1=>⟨#[66]⟩
 | 2=>⟨#[67]⟩
 | 3=>⟨#[68]⟩
 | 4=>⟨#[35]⟩
 | 5=>⟨#[98]⟩
 | _=>⟨#[94]⟩
def rowMk (two:Bool) (rs:List Int) (i:Nat):List Int:=(rs.getD (2 * i) 0).tmod 8 :: if two then [(rs.getD (2 * i+1) 0).tmod 8] else []
def symMk (two:Bool) (rs:List Int) (i:Nat):ByteArray×List Int:=(nmOf i,rowMk two rs i)
def symsMk (two:Bool) (rs:List Int) (a b:Nat):List (ByteArray×List Int):=((List.range b).drop a).map (symMk two rs)
theorem symsMk_succ (two:Bool) (rs:List Int) {a b:Nat} (h:a≤b):symsMk two rs a (b+1)=symsMk two rs a b ++ [symMk two rs b]:=by
 unfold symsMk
 rw [List.range_succ,List.drop_append,List.length_range,Nat.sub_eq_zero_of_le h,List.drop_zero,List.map_append]; rfl
structure MkS (W:World) (base:Nat) (v:Value) (N:List Sy):Prop where
 own:W.ownsRow base 80 2 v N.length (flat2 (N.map Sy.enc))
 rows:∀ x,x ∈ N→∃ g,x.ra=some ⟨g,0,none⟩∧base≤g∧(∃ cur,W.heap[g]?=some (.cells cur 3 (0,0)))∧El W iv (some ⟨g,0,none⟩) x.row
 nil:N=[]→v=.slice none 0 0
theorem own_ne_int {W:World} {base:Nat} {v:Value} {n size:Nat} {xs:List Value} (h:W.ownsRow base 80 size v n xs) {g:Nat} {cur:Array Value} (hg:W.heap[g]?=some (.cells cur 3 (0,0))):v.ownBlock≠some g:=by
 intro e
 rcases h.2 with ⟨rfl,_⟩ | ⟨g',cap,cur',rfl,_,hh,_⟩
 ·simp [Value.ownBlock] at e
 ·have e2:g'=g:=by simpa [Value.ownBlock] using e
  subst e2
  rw [hh] at hg
  injection hg with hg
  injection hg with _ ht
  exact absurd ht (by decide)
theorem MkS.fx {W W':World} {base:Nat} {v:Value} {N:List Sy} {p:Nat→Prop} (h:MkS W base v N) (k:Fx p W W') (hv:∀ g,v.ownBlock=some g→¬ p g) (hp:∀ g,base≤g→(∃ cur,W.heap[g]?=some (.cells cur 3 (0,0)))→¬ p g):MkS W' base v N:=by
 refine ⟨ownsRow_fx h.own k hv,fun x hx=>?_,h.nil⟩
 obtain ⟨g,h1,h2,⟨cur,h3⟩,h4⟩:=h.rows x hx
 have hg:=hp g h2 ⟨cur,h3⟩
 refine ⟨g,h1,h2,⟨cur,(k.block _ (lt_of_heap h3) hg).trans h3⟩, ?_⟩
 rcases h4 with h4 | ⟨b',o',ha,hb,hc⟩
 ·exact .inl h4
 ·injection ha with ha; injection ha with e1 e2
  subst e1; subst e2
  exact .inr ⟨g,0,rfl,Nat.lt_of_lt_of_le hb k.size,fun i x hx=>k.keep (hc i x hx) hg⟩
theorem MkS.fr {W W':World} {base:Nat} {v:Value} {N:List Sy} (h:MkS W base v N) (k:Fr W W'):MkS W' base v N:=h.fx (p:=fun _=>False) (Fx.of_fr k) (fun _ _ e=>e) (fun _ _ _ e=>e)
theorem MkS.init (W:World) (base:Nat):MkS W base (.slice none 0 0) []:=⟨World.ownsRow_nil _ _ _ _,fun x hx=>by simp at hx,fun _=>rfl⟩
theorem MkS.syms {W:World} {base:Nat} {v:Value} {N:List Sy} (h:MkS W base v N):∃ a c,v=.slice a N.length c∧Syms W a N∧(a=none→c=0∧N=[]):=by
 have hel:∀ x,x ∈ N→El W iv x.ra x.row:=fun x hx=>by
  obtain ⟨g,h1,-,-,h4⟩:=h.rows x hx
  rw [h1]; exact h4
 rcases h.own.2 with ⟨h1,h2⟩ | ⟨g,cap,cur,hv,_⟩
 ·have hN:=List.eq_nil_of_length_eq_zero h2
  subst hN
  exact ⟨none,0,h1,⟨.inl rfl,hel⟩,fun _=>⟨rfl,rfl⟩⟩
 ·have h2:=h.own
  rw [hv] at h2
  exact ⟨_,cap,hv,⟨(ownsRow_prs h2).1,hel⟩,fun e=>by cases e⟩
theorem MkS.push {W w1 w2:World} {base:Nat} {v v':Value} {N:List Sy} (h:MkS W base v N) (hf:Fr W w1) (sy:Sy) (hown:w2.ownsRow base 80 2 v' (N.length+1) (flat2 (N.map Sy.enc) ++ [.string sy.nm,.slice sy.ra sy.row.length sy.rc])) (hg:w1.grownBy w2 v.ownBlock)
 (hs:∃ g,sy.ra=some ⟨g,0,none⟩∧base≤g∧(∃ cur,w1.heap[g]?=some (.cells cur 3 (0,0)))∧El w1 iv (some ⟨g,0,none⟩) sy.row):MkS w2 base v' (N ++ [sy]):=by
 have h1:=h.fr hf
 have hfx:=Fx.of_grown hg
 have key:∀ x:Sy,(∃ g,x.ra=some ⟨g,0,none⟩∧base≤g∧(∃ cur,w1.heap[g]?=some (.cells cur 3 (0,0)))∧El w1 iv (some ⟨g,0,none⟩) x.row)→∃ g,x.ra=some ⟨g,0,none⟩∧base≤g∧(∃ cur,w2.heap[g]?=some (.cells cur 3 (0,0)))∧El w2 iv (some ⟨g,0,none⟩) x.row:=fun x ⟨g,a,b,⟨cur,c⟩,d⟩=>by
  have hne:=own_ne_int h1.own c
  refine ⟨g,a,b,⟨cur,(hfx.block _ (lt_of_heap c) hne).trans c⟩, ?_⟩
  rcases d with d | ⟨b',o',ha,hb,hc⟩
  ·exact .inl d
  ·injection ha with ha; injection ha with e1 e2
   subst e1; subst e2
   exact .inr ⟨g,0,rfl,Nat.lt_of_lt_of_le hb hfx.size,fun i x hx=>hfx.keep (hc i x hx) hne⟩
 refine ⟨?_,fun x hx=>?_,fun e=>by simp at e⟩
 ·rw [List.map_append,flat2_append,List.length_append]; exact hown
 ·rcases List.mem_append.1 hx with hx | hx
  ·exact key x (h1.rows x hx)
  ·simp at hx; subst hx; exact key x hs
theorem cell_two_newN (w:World) (x y:Value) (t:TypeId) (n:Nat) (hn:w.heap.size=n):∀ (j:Nat) (u:Value),[x,y][j]?=some u→(w.alloc (.cells #[x,y] t)).cell? ((⟨n,0,none⟩:Addr).add j)=some u:=fun j u hu=>by
 subst hn
 match j,hu with
 | 0,hu=>simp at hu; subst hu; exact (new2a w x y t).1
 | 1,hu=>simp at hu; subst hu; exact (new2b w x y t).1
 | j+2,hu=>simp at hu
theorem names_cell {W:World} {b:Nat} {t:TypeId} (h:W.heap[b]?=some (.cells #[.string ⟨#[65]⟩,.string ⟨#[66]⟩,.string ⟨#[67]⟩,.string ⟨#[68]⟩,.string ⟨#[35]⟩,.string ⟨#[98]⟩,.string ⟨#[94]⟩] t (0,0))) (i:Nat) (hi:i < 7):W.cell? ⟨b,i,none⟩=some (.string (nmOf i)):=by
 rw [cells_of h]
 match i,hi with
 | 0,_=>rfl
 | 1,_=>rfl
 | 2,_=>rfl
 | 3,_=>rfl
 | 4,_=>rfl
 | 5,_=>rfl
 | 6,_=>rfl
theorem symsMk_yes (two:Bool) (rs:List Int) {a i lim:Nat} (h:a≤i) (hl:i < lim):symsMk two rs a (min (i+1) lim)=symsMk two rs a (min i lim) ++ [symMk two rs i]:=by
 rw [Nat.min_eq_left (by omega),Nat.min_eq_left (by omega)]; exact symsMk_succ two rs h
theorem symsMk_no (two:Bool) (rs:List Int) {a i lim:Nat} (h:lim≤i∨i < a):symsMk two rs a (min (i+1) lim)=symsMk two rs a (min i lim):=by
 rcases h with h | h
 ·rw [Nat.min_eq_right (by omega),Nat.min_eq_right (by omega)]
 ·have e:∀ b,b≤a→symsMk two rs a b=[]:=fun b hb=>by unfold symsMk; rw [List.drop_of_length_le (by simp; exact hb)]; rfl
  rw [e _ (by omega),e _ (by omega)]
structure MakeI (two:Bool) (rs:List Int) (wb:World) (bn ln la i:Nat) (vN vA:Value) (N A:List Sy) (wr:World):Prop where
 n:MkS wr (bn+1) vN N
 a:MkS wr (bn+1) vA A
 pn:N.map plainSy=symsMk two rs 0 (min i ln)
 pa:A.map plainSy=symsMk two rs 4 (min i la)
 c0:wr.cell? ⟨bn,0,none⟩=some vN
 c1:wr.cell? ⟨bn,1,none⟩=some vA
 f0:wr.frozen? ⟨bn,0,none⟩=false
 f1:wr.frozen? ⟨bn,1,none⟩=false
 dis:∀ g,vN.ownBlock=some g→vA.ownBlock≠some g
 fx:Fx (·=bn) wb wr
 lt:∀ g,(vN.ownBlock=some g∨vA.ownBlock=some g)→g < wr.heap.size
 ln9:N.length≤i
 la9:A.length≤i
theorem MakeI.skip {two:Bool} {rs:List Int} {wb:World} {bn ln la i:Nat} {vN vA:Value} {N A:List Sy} {wr w':World} (h:MakeI two rs wb bn ln la i vN vA N A wr) (hf:Fr wr w') (h1:ln≤i) (h2:la≤i∨i < 4):MakeI two rs wb bn ln la (i+1) vN vA N A w' :=
 ⟨h.n.fr hf,h.a.fr hf,by rw [symsMk_no two rs (.inl h1)]; exact h.pn,by rw [symsMk_no two rs h2]; exact h.pa,hf.keep h.c0,hf.keep h.c1,hf.keepf h.c0 h.f0,hf.keepf h.c1 h.f1,h.dis,h.fx.fr hf,fun g hg=>Nat.lt_of_lt_of_le (h.lt g hg) hf.size,by have:=h.ln9; omega,by have:=h.la9; omega⟩
theorem MakeI.nom {two:Bool} {rs:List Int} {wb:World} {bn ln la i:Nat} {vN vA v':Value} {N A:List Sy} {wr w1 w2:World} (h:MakeI two rs wb bn ln la i vN vA N A wr) (hwb:wb.heap.size=bn+1) (hf:Fr wr w1) (sy:Sy) (hp:plainSy sy=symMk two rs i) (hown:w2.ownsRow (bn+1) 80 2 v' (N.length+1) (flat2 (N.map Sy.enc) ++ [.string sy.nm,.slice sy.ra sy.row.length sy.rc])) (hg:w1.grownBy w2 vN.ownBlock)
 (hs:∃ g,sy.ra=some ⟨g,0,none⟩∧bn+1≤g∧(∃ cur,w1.heap[g]?=some (.cells cur 3 (0,0)))∧El w1 iv (some ⟨g,0,none⟩) sy.row) (hat:∀ g,v'.ownBlock=some g→(vN.ownBlock=some g∨w1.heap.size≤g)∧g < w2.heap.size) (h1:i < ln) (h2:i < 4) :
 MakeI two rs wb bn ln la (i+1) v' vA (N ++ [sy]) A (w2.setCell ⟨bn,0,none⟩ v'):=by
 have hfx:=Fx.of_grown hg
 have hb:∀ g,vN.ownBlock=some g→bn+1≤g:=fun g hg=>ownsRow_own_ge h.n.own g hg
 have hba:∀ g,vA.ownBlock=some g→bn+1≤g:=fun g hg=>ownsRow_own_ge h.a.own g hg
 have hbw:bn < w2.heap.size:=Nat.lt_of_lt_of_le (show bn < wb.heap.size by omega) (Nat.le_trans h.fx.size (Nat.le_trans hf.size hfx.size))
 have hS:Fx (·=bn) w2 (w2.setCell ⟨bn,0,none⟩ v'):=Fx.setCell (p:=(·=bn)) (q:=⟨bn,0,none⟩) (Fx.refl _ w2) (.inl rfl) _
 have hne:¬ vN.ownBlock=some bn:=fun e=>by have:=hb _ e; omega
 have c0:=hfx.keep (hf.keep h.c0) hne
 have c1:=hfx.keep (hf.keep h.c1) hne
 have f0:=hfx.keepf (hf.keep h.c0) (hf.keepf h.c0 h.f0) hne
 have f1:=hfx.keepf (hf.keep h.c1) (hf.keepf h.c1 h.f1) hne
 have e1:(⟨bn,0,none⟩:Addr)≠⟨bn,1,none⟩:=fun e=>by injection e with _ e; omega
 have hN:=(h.n.push hf sy hown hg hs)
 have hA:=(h.a.fr hf).fx hfx (fun g hg e=>h.dis g e hg) (fun g _ ⟨cur,hc⟩=>own_ne_int (h.n.fr hf).own hc)
 refine ⟨hN.fx hS (fun g hg e=>by have:=ownsRow_own_ge hN.own g hg; have e:g=bn:=e; omega) (fun g hg _ e=>by have e:g=bn:=e; omega),hA.fx hS (fun g hg e=>by have:=hba g hg; have e:g=bn:=e; omega) (fun g hg _ e=>by have e:g=bn:=e; omega), ?_, ?_, ?_, ?_, ?_, ?_,fun g hg hgA=>?_, ?_,fun g hg=>?_,by rw [List.length_append]; have:=h.ln9; simp; omega,by have:=h.la9; omega⟩
 ·rw [List.map_append,h.pn,symsMk_yes two rs (by omega) h1]; simp [hp]
 ·rw [symsMk_no two rs (.inr h2)]; exact h.pa
 ·exact World.cell?_setCell_same' _ _ _ (by rw [c0]; rfl)
 ·rw [World.cell?_setCell_other _ _ _ _ e1]; exact c1
 ·rw [World.frozen?_setCell]; exact f0
 ·rw [World.frozen?_setCell]; exact f1
 ·rcases (hat g hg).1 with e | e
  ·exact h.dis g e hgA
  ·have:=h.lt g (.inr hgA); have:=hf.size; omega
 ·have h9:Fx (fun k=>k=bn∨vN.ownBlock=some k) wr (w2.setCell ⟨bn,0,none⟩ v'):=((Fx.of_fr hf).trans (hfx.mono fun k e=>.inr e)).trans (hS.mono fun k e=>.inl e)
  exact ⟨h9.os.trans h.fx.os,h9.tape.trans h.fx.tape,h9.output.trans h.fx.output,Nat.le_trans h.fx.size h9.size,fun j hj hjn=>by
   refine (h9.block j (Nat.lt_of_lt_of_le hj h.fx.size) (fun e=>?_)).trans (h.fx.block j hj hjn)
   rcases e with e | e
   ·exact hjn e
   ·have:=hb _ e; omega⟩
 ·rcases hg with e | e
  ·exact Nat.lt_of_lt_of_le (hat g e).2 hS.size
  ·exact Nat.lt_of_lt_of_le (Nat.lt_of_lt_of_le (h.lt g (.inr e)) (Nat.le_trans hf.size hfx.size)) hS.size
theorem MakeI.acc {two:Bool} {rs:List Int} {wb:World} {bn ln la i:Nat} {vN vA v':Value} {N A:List Sy} {wr w1 w2:World} (h:MakeI two rs wb bn ln la i vN vA N A wr) (hwb:wb.heap.size=bn+1) (hf:Fr wr w1) (sy:Sy) (hp:plainSy sy=symMk two rs i) (hown:w2.ownsRow (bn+1) 80 2 v' (A.length+1) (flat2 (A.map Sy.enc) ++ [.string sy.nm,.slice sy.ra sy.row.length sy.rc])) (hg:w1.grownBy w2 vA.ownBlock)
 (hs:∃ g,sy.ra=some ⟨g,0,none⟩∧bn+1≤g∧(∃ cur,w1.heap[g]?=some (.cells cur 3 (0,0)))∧El w1 iv (some ⟨g,0,none⟩) sy.row) (hat:∀ g,v'.ownBlock=some g→(vA.ownBlock=some g∨w1.heap.size≤g)∧g < w2.heap.size) (h1:i < la) (h2:4≤i) (h3:ln≤i) :
 MakeI two rs wb bn ln la (i+1) vN v' N (A ++ [sy]) (w2.setCell ⟨bn,1,none⟩ v'):=by
 have hfx:=Fx.of_grown hg
 have hb:∀ g,vA.ownBlock=some g→bn+1≤g:=fun g hg=>ownsRow_own_ge h.a.own g hg
 have hba:∀ g,vN.ownBlock=some g→bn+1≤g:=fun g hg=>ownsRow_own_ge h.n.own g hg
 have hbw:bn < w2.heap.size:=Nat.lt_of_lt_of_le (show bn < wb.heap.size by omega) (Nat.le_trans h.fx.size (Nat.le_trans hf.size hfx.size))
 have hS:Fx (·=bn) w2 (w2.setCell ⟨bn,1,none⟩ v'):=Fx.setCell (p:=(·=bn)) (q:=⟨bn,1,none⟩) (Fx.refl _ w2) (.inl rfl) _
 have hne:¬ vA.ownBlock=some bn:=fun e=>by have:=hb _ e; omega
 have c0:=hfx.keep (hf.keep h.c0) hne
 have c1:=hfx.keep (hf.keep h.c1) hne
 have f0:=hfx.keepf (hf.keep h.c0) (hf.keepf h.c0 h.f0) hne
 have f1:=hfx.keepf (hf.keep h.c1) (hf.keepf h.c1 h.f1) hne
 have e1:(⟨bn,1,none⟩:Addr)≠⟨bn,0,none⟩:=fun e=>by injection e with _ e; omega
 have hA:=(h.a.push hf sy hown hg hs)
 have hN:=(h.n.fr hf).fx hfx (fun g hg e=>h.dis g hg e) (fun g _ ⟨cur,hc⟩=>own_ne_int (h.a.fr hf).own hc)
 refine ⟨hN.fx hS (fun g hg e=>by have:=hba g hg; have e:g=bn:=e; omega) (fun g hg _ e=>by have e:g=bn:=e; omega),hA.fx hS (fun g hg e=>by have:=ownsRow_own_ge hA.own g hg; have e:g=bn:=e; omega) (fun g hg _ e=>by have e:g=bn:=e; omega), ?_, ?_, ?_, ?_, ?_, ?_,fun g hg hgA=>?_, ?_,fun g hg=>?_,by have:=h.ln9; omega,by rw [List.length_append]; have:=h.la9; simp; omega⟩
 ·rw [symsMk_no two rs (.inl h3)]; exact h.pn
 ·rw [List.map_append,h.pa,symsMk_yes two rs h2 h1]; simp [hp]
 ·rw [World.cell?_setCell_other _ _ _ _ e1]; exact c0
 ·exact World.cell?_setCell_same' _ _ _ (by rw [c1]; rfl)
 ·rw [World.frozen?_setCell]; exact f0
 ·rw [World.frozen?_setCell]; exact f1
 ·rcases (hat g hgA).1 with e | e
  ·exact h.dis g hg e
  ·have:=h.lt g (.inl hg); have:=hf.size; omega
 ·have h9:Fx (fun k=>k=bn∨vA.ownBlock=some k) wr (w2.setCell ⟨bn,1,none⟩ v'):=((Fx.of_fr hf).trans (hfx.mono fun k e=>.inr e)).trans (hS.mono fun k e=>.inl e)
  exact ⟨h9.os.trans h.fx.os,h9.tape.trans h.fx.tape,h9.output.trans h.fx.output,Nat.le_trans h.fx.size h9.size,fun j hj hjn=>by
   refine (h9.block j (Nat.lt_of_lt_of_le hj h.fx.size) (fun e=>?_)).trans (h.fx.block j hj hjn)
   rcases e with e | e
   ·exact hjn e
   ·have:=hb _ e; omega⟩
 ·rcases hg with e | e
  ·exact Nat.lt_of_lt_of_le (Nat.lt_of_lt_of_le (h.lt g (.inl e)) (Nat.le_trans hf.size hfx.size)) hS.size
  ·exact Nat.lt_of_lt_of_le (hat g e).2 hS.size
def fits8 (x:Int):Prop:=-128≤x∧x≤127
theorem tmod8 {x:Int}:-7≤x.tmod 8∧x.tmod 8≤7:=by
 have h1:=Int.tmod_lt_of_pos x (show (0:Int) < 8 by decide)
 have h2:=Int.lt_tmod_of_pos x (show (0:Int) < 8 by decide)
 omega
theorem Make_any (two:Bool) (nn na r0 r1 r2 r3 r4 r5 r6 r7 r8 r9 r10 r11 r12 r13:Int) (w:World) (hnn:0≤nn∧nn≤255) (hna:0≤na∧na≤255) (hr:∀ x,x ∈ [r0,r1,r2,r3,r4,r5,r6,r7,r8,r9,r10,r11,r12,r13]→fits8 x) :
 Calls Tryz.prog 26 #[.agg #[.bool two,.int .u8 nn,.int .u8 na,.int .i8 r0,.int .i8 r1,.int .i8 r2,.int .i8 r3,.int .i8 r4,.int .i8 r5,.int .i8 r6,.int .i8 r7,.int .i8 r8,.int .i8 r9,.int .i8 r10,.int .i8 r11,.int .i8 r12,.int .i8 r13]] w
  (NotRet w (symsMk two [r0,r1,r2,r3,r4,r5,r6,r7,r8,r9,r10,r11,r12,r13] 0 (1+nn % 4).toNat) (symsMk two [r0,r1,r2,r3,r4,r5,r6,r7,r8,r9,r10,r11,r12,r13] 4 (4+na % 4).toNat)):=by
 obtain ⟨rs,hrs⟩:∃ rs,rs=[r0,r1,r2,r3,r4,r5,r6,r7,r8,r9,r10,r11,r12,r13]:=⟨_,rfl⟩
 have hlk:∀ (W:World) (b:Nat) (t:TypeId),W.heap[b]?=some (.cells #[.bool two,.int .u8 nn,.int .u8 na,.int .i8 r0,.int .i8 r1,.int .i8 r2,.int .i8 r3,.int .i8 r4,.int .i8 r5,.int .i8 r6,.int .i8 r7,.int .i8 r8,.int .i8 r9,.int .i8 r10,.int .i8 r11,.int .i8 r12,.int .i8 r13] t (0,0))→∀ i,i < 7 →
  W.cell? ⟨b,3+i * 2,none⟩=some (.int .i8 (rs.getD (2 * i) 0))∧W.cell? ⟨b,3+i * 2+1,none⟩=some (.int .i8 (rs.getD (2 * i+1) 0))∧fits8 (rs.getD (2 * i) 0)∧fits8 (rs.getD (2 * i+1) 0):=fun W b t h i hi=>by
  rw [cells_of h,cells_of h,hrs]
  match i,hi with
  | 0,_=>exact ⟨rfl,rfl,hr _ (by simp),hr _ (by simp)⟩
  | 1,_=>exact ⟨rfl,rfl,hr _ (by simp),hr _ (by simp)⟩
  | 2,_=>exact ⟨rfl,rfl,hr _ (by simp),hr _ (by simp)⟩
  | 3,_=>exact ⟨rfl,rfl,hr _ (by simp),hr _ (by simp)⟩
  | 4,_=>exact ⟨rfl,rfl,hr _ (by simp),hr _ (by simp)⟩
  | 5,_=>exact ⟨rfl,rfl,hr _ (by simp),hr _ (by simp)⟩
  | 6,_=>exact ⟨rfl,rfl,hr _ (by simp),hr _ (by simp)⟩
 rw [← hrs]
 replace hrs:=hZ hrs
 replace hlk:=hZ hlk
 clear hr
 go_enter Tryz.func26,Tryz.ntmps26
 go_wp2_with fail
 obtain ⟨wb,hwb⟩:∃ wb,wb=alls w [(.cells #[.bool two,.int .u8 nn,.int .u8 na,.int .i8 r0,.int .i8 r1,.int .i8 r2,.int .i8 r3,.int .i8 r4,.int .i8 r5,.int .i8 r6,.int .i8 r7,.int .i8 r8,.int .i8 r9,.int .i8 r10,.int .i8 r11,.int .i8 r12,.int .i8 r13] 67),(.cells #[.slice none 0 0,.slice none 0 0] 72),(.cells #[.slice none 0 0,.slice none 0 0] 72)]:=⟨_,rfl⟩
 have g0:wb.heap[w.heap.size]?=some (.cells #[.bool two,.int .u8 nn,.int .u8 na,.int .i8 r0,.int .i8 r1,.int .i8 r2,.int .i8 r3,.int .i8 r4,.int .i8 r5,.int .i8 r6,.int .i8 r7,.int .i8 r8,.int .i8 r9,.int .i8 r10,.int .i8 r11,.int .i8 r12,.int .i8 r13] 67 (0,0)):=by rw [hwb]; exact alls_get _ w 0 _ rfl
 have g1:wb.heap[w.heap.size+1]?=some (.cells #[.slice none 0 0,.slice none 0 0] 72 (0,0)):=by rw [hwb]; exact alls_get _ w 1 _ rfl
 have g2:wb.heap[w.heap.size+1+1]?=some (.cells #[.slice none 0 0,.slice none 0 0] 72 (0,0)):=by rw [hwb]; exact alls_get _ w 2 _ rfl
 have hfb:Fr w wb:=by rw [hwb]; exact alls_fr _ w
 have hsb:wb.heap.size=w.heap.size+1+1+1:=by rw [hwb]; simp [alls]
 change Code.wp _ _ _ _ (alls w [(.cells #[.bool two,.int .u8 nn,.int .u8 na,.int .i8 r0,.int .i8 r1,.int .i8 r2,.int .i8 r3,.int .i8 r4,.int .i8 r5,.int .i8 r6,.int .i8 r7,.int .i8 r8,.int .i8 r9,.int .i8 r10,.int .i8 r11,.int .i8 r12,.int .i8 r13] 67),(.cells #[.slice none 0 0,.slice none 0 0] 72),(.cells #[.slice none 0 0,.slice none 0 0] 72)])
 rw [← hwb]
 obtain ⟨ln,hln⟩:∃ ln:Nat,(ln:Int)=1+nn % 4:=⟨(1+nn % 4).toNat,by omega⟩
 obtain ⟨la,hla⟩:∃ la:Nat,(la:Int)=4+na % 4:=⟨(4+na % 4).toNat,by omega⟩
 have hln4:ln≤4:=by omega
 have hla7:la≤7:=by omega
 have hI0:MakeI two rs wb (w.heap.size+1+1) ln la 0 (.slice none 0 0) (.slice none 0 0) [] [] wb:=by
  refine ⟨MkS.init _ _,MkS.init _ _,by rw [Nat.zero_min]; rfl,by rw [Nat.zero_min]; rfl,by rw [cells_of g2]; rfl,by rw [cells_of g2]; rfl, ?_, ?_,fun g hg=>by simp [Value.ownBlock] at hg,Fx.refl _ _,fun g hg=>by simp [Value.ownBlock] at hg,Nat.le_refl _,Nat.le_refl _⟩
  ·unfold World.frozen?; rw [g2]; rfl
  ·unfold World.frozen?; rw [g2]; rfl
 have hres:(1+nn % 4).toNat=ln∧(4+na % 4).toNat=la:=by omega
 rw [hres.1,hres.2]
 have b0:wb.cell? ⟨w.heap.size,0,none⟩=some (.bool two):=cells_of g0 0
 have b1:wb.cell? ⟨w.heap.size,1,none⟩=some (.int .u8 nn):=cells_of g0 1
 have b2:wb.cell? ⟨w.heap.size,2,none⟩=some (.int .u8 na):=cells_of g0 2
 have b3:=hlk.out wb w.heap.size _ g0
 have hk0:¬ w.heap.size=w.heap.size+1+1:=by omega
 replace hln:=hZ hln
 replace hla:=hZ hla
 replace hI0:=hZ hI0
 replace hfb:=hZ hfb
 replace hsb:=hZ hsb
 replace g1:=hZ g1
 replace b3:=hZ b3
 replace hk0:=hZ hk0
 have hres9:=hZ hres
 clear hwb hres hlk g0 g2
 obtain ⟨iI,hI,iz0,iz1,iz2⟩:=info_parts infoInt
 obtain ⟨iS,hS,sz0,sz1,sz2⟩:=info_parts infoSym
 go_loopg [7] 7 (fun k s7 wr=>∃ (i:Nat) (vN vA:Value) (N A:List Sy),s7=.int .i64 i∧i+k=7∧Hid (MakeI two rs wb (w.heap.size+1+1) ln la i vN vA N A wr))
 case atStart=>exact ⟨0,_,_,_,_,rfl,by omega,hI0⟩
 case round=>
  clear hI0
  obtain ⟨i,vN,vA,N,A,rfl,hik,hM⟩:=hrel
  by_cases hi:i < 7
  ·have hdI:decide ((i:Int) < 7)=true:=decide_eq_true (by omega)
   obtain ⟨ra,rb,fa,fb⟩:=b3.out i hi
   have hfx:=hM.out.fx
   replace ra:=hfx.keep ra hk0.out
   replace rb:=hfx.keep rb hk0.out
   have x0:=hfx.keep b0 hk0.out
   have x1:=hfx.keep b1 hk0.out
   have x2:=hfx.keep b2 hk0.out
   have x3:=hM.out.c0
   have x4:=hM.out.c1
   have x5:=hM.out.f0
   have x6:=hM.out.f1
   have hrow:rowMk two rs i=(rs.getD (2 * i) 0).tmod 8 :: if two then [(rs.getD (2 * i+1) 0).tmod 8] else []:=rfl
   generalize rs.getD (2 * i) 0=a at *
   generalize rs.getD (2 * i+1) 0=b at *
   have hra:=tmod8 (x:=a)
   have hrb:=tmod8 (x:=b)
   obtain ⟨fa1,fa2⟩:=fa
   obtain ⟨fb1,fb2⟩:=fb
   have z0:(0:Int)≤(i:Int):=by omega
   have z1:(i:Int) < 7:=by omega
   have hsz:w.heap.size+1+1+1≤wr.heap.size:=by rw [← hsb.out]; exact hfx.size
   replace hrow:=hZ hrow
   have x00:=((Fr.refl wr).alloc (.cells #[.int .i64 (a.tmod 8)] 3)).keep x0
   have x01:=((Fr.refl wr).alloc (.cells #[.int .i64 (a.tmod 8)] 3)).keep rb
   cases two with
   | false=>
     have hXh:=heap_alloc_new wr (.cells #[.int .i64 (a.tmod 8)] 3 (0,0))
     have hXf:Fr wr (wr.alloc (.cells #[.int .i64 (a.tmod 8)] 3)):=(Fr.refl wr).alloc _
     have hXe:El (wr.alloc (.cells #[.int .i64 (a.tmod 8)] 3)) iv (some ⟨wr.heap.size,0,none⟩) (rowMk false rs i):=by rw [hrow.out]; exact El.one hXh
     have hXl:(rowMk false rs i).length=1:=by rw [hrow.out]; rfl
     have hXb:w.heap.size+1+1+1≤wr.heap.size:=hsz
     have hXs:(wr.alloc (.cells #[.int .i64 (a.tmod 8)] 3)).heap.size=wr.heap.size+1:=by simp
     replace hXh:Hid (∃ cur,(wr.alloc (.cells #[.int .i64 (a.tmod 8)] 3)).heap[wr.heap.size]?=some (.cells cur 3 (0,0))):=⟨_,hXh⟩
     have nmc:=names_cell (heap_alloc_new (wr.alloc (.cells #[.int .i64 (a.tmod 8)] 3)) (.cells #[.string ⟨#[65]⟩,.string ⟨#[66]⟩,.string ⟨#[67]⟩,.string ⟨#[68]⟩,.string ⟨#[35]⟩,.string ⟨#[98]⟩,.string ⟨#[94]⟩] 9 (0,0))) i hi
     rw [hXs] at nmc
     have hfN:Fr (wr.alloc (.cells #[.int .i64 (a.tmod 8)] 3)) ((wr.alloc (.cells #[.int .i64 (a.tmod 8)] 3)).alloc (.cells #[.string ⟨#[65]⟩,.string ⟨#[66]⟩,.string ⟨#[67]⟩,.string ⟨#[68]⟩,.string ⟨#[35]⟩,.string ⟨#[98]⟩,.string ⟨#[94]⟩] 9)):=(Fr.refl _).alloc _
     have hfS:Fr wr (((wr.alloc (.cells #[.int .i64 (a.tmod 8)] 3)).alloc (.cells #[.string ⟨#[65]⟩,.string ⟨#[66]⟩,.string ⟨#[67]⟩,.string ⟨#[68]⟩,.string ⟨#[35]⟩,.string ⟨#[98]⟩,.string ⟨#[94]⟩] 9)).alloc (.cells #[.string (nmOf i),.slice (some ⟨wr.heap.size,0,none⟩) 1 1] 80)):=(hXf.trans hfN).alloc _
     have hsS:((wr.alloc (.cells #[.int .i64 (a.tmod 8)] 3)).alloc (.cells #[.string ⟨#[65]⟩,.string ⟨#[66]⟩,.string ⟨#[67]⟩,.string ⟨#[68]⟩,.string ⟨#[35]⟩,.string ⟨#[98]⟩,.string ⟨#[94]⟩] 9)).heap.size=wr.heap.size+1+1:=by rw [World.size_alloc,hXs]
     have s1:=new2a ((wr.alloc (.cells #[.int .i64 (a.tmod 8)] 3)).alloc (.cells #[.string ⟨#[65]⟩,.string ⟨#[66]⟩,.string ⟨#[67]⟩,.string ⟨#[68]⟩,.string ⟨#[35]⟩,.string ⟨#[98]⟩,.string ⟨#[94]⟩] 9)) (.string (nmOf i)) (.slice (some ⟨wr.heap.size,0,none⟩) 1 1) 80
     have s2:=new2b ((wr.alloc (.cells #[.int .i64 (a.tmod 8)] 3)).alloc (.cells #[.string ⟨#[65]⟩,.string ⟨#[66]⟩,.string ⟨#[67]⟩,.string ⟨#[68]⟩,.string ⟨#[35]⟩,.string ⟨#[98]⟩,.string ⟨#[94]⟩] 9)) (.string (nmOf i)) (.slice (some ⟨wr.heap.size,0,none⟩) 1 1) 80
     rw [hsS] at s1 s2
     have y1:=hfS.keep x1
     have y2:=hfS.keep x2
     have y3:=hfS.keep x3
     have y4:=hfS.keep x4
     have hsSS:(((wr.alloc (.cells #[.int .i64 (a.tmod 8)] 3)).alloc (.cells #[.string ⟨#[65]⟩,.string ⟨#[66]⟩,.string ⟨#[67]⟩,.string ⟨#[68]⟩,.string ⟨#[35]⟩,.string ⟨#[98]⟩,.string ⟨#[94]⟩] 9)).alloc (.cells #[.string (nmOf i),.slice (some ⟨wr.heap.size,0,none⟩) 1 1] 80)).heap.size=wr.heap.size+1+1+1:=by rw [World.size_alloc,hsS]
     have hfB:Fr wr ((((wr.alloc (.cells #[.int .i64 (a.tmod 8)] 3)).alloc (.cells #[.string ⟨#[65]⟩,.string ⟨#[66]⟩,.string ⟨#[67]⟩,.string ⟨#[68]⟩,.string ⟨#[35]⟩,.string ⟨#[98]⟩,.string ⟨#[94]⟩] 9)).alloc (.cells #[.string (nmOf i),.slice (some ⟨wr.heap.size,0,none⟩) 1 1] 80)).alloc (.cells #[.string (nmOf i),.slice (some ⟨wr.heap.size,0,none⟩) 1 1] 80)):=hfS.alloc _
     have hfX:Fr (wr.alloc (.cells #[.int .i64 (a.tmod 8)] 3)) ((((wr.alloc (.cells #[.int .i64 (a.tmod 8)] 3)).alloc (.cells #[.string ⟨#[65]⟩,.string ⟨#[66]⟩,.string ⟨#[67]⟩,.string ⟨#[68]⟩,.string ⟨#[35]⟩,.string ⟨#[98]⟩,.string ⟨#[94]⟩] 9)).alloc (.cells #[.string (nmOf i),.slice (some ⟨wr.heap.size,0,none⟩) 1 1] 80)).alloc (.cells #[.string (nmOf i),.slice (some ⟨wr.heap.size,0,none⟩) 1 1] 80)):=(hfN.alloc _).alloc _
     have hsy:∃ g,(Sy.mk (nmOf i) (rowMk false rs i) (some ⟨wr.heap.size,0,none⟩) 1).ra=some ⟨g,0,none⟩∧w.heap.size+1+1+1≤g∧(∃ cur,((((wr.alloc (.cells #[.int .i64 (a.tmod 8)] 3)).alloc (.cells #[.string ⟨#[65]⟩,.string ⟨#[66]⟩,.string ⟨#[67]⟩,.string ⟨#[68]⟩,.string ⟨#[35]⟩,.string ⟨#[98]⟩,.string ⟨#[94]⟩] 9)).alloc (.cells #[.string (nmOf i),.slice (some ⟨wr.heap.size,0,none⟩) 1 1] 80)).alloc (.cells #[.string (nmOf i),.slice (some ⟨wr.heap.size,0,none⟩) 1 1] 80)).heap[g]?=some (.cells cur 3 (0,0)))∧El ((((wr.alloc (.cells #[.int .i64 (a.tmod 8)] 3)).alloc (.cells #[.string ⟨#[65]⟩,.string ⟨#[66]⟩,.string ⟨#[67]⟩,.string ⟨#[68]⟩,.string ⟨#[35]⟩,.string ⟨#[98]⟩,.string ⟨#[94]⟩] 9)).alloc (.cells #[.string (nmOf i),.slice (some ⟨wr.heap.size,0,none⟩) 1 1] 80)).alloc (.cells #[.string (nmOf i),.slice (some ⟨wr.heap.size,0,none⟩) 1 1] 80)) iv (some ⟨g,0,none⟩) (Sy.mk (nmOf i) (rowMk false rs i) (some ⟨wr.heap.size,0,none⟩) 1).row:=by
      obtain ⟨cur,hc⟩:=hXh
      exact ⟨wr.heap.size,rfl,hXb,⟨cur,(Below.block hfX _ (lt_of_heap hc)).trans hc⟩,hXe.fr hfX⟩
     replace hXh:=hZ hXh
     replace hXe:=hZ hXe
     replace hXl:=hZ hXl
     replace hXs:=hZ hXs
     replace hsS:=hZ hsS
     replace hsSS:=hZ hsSS
     replace hsy:=hZ hsy
     replace hfB:=hZ hfB
     replace hfS:=hZ hfS
     replace s1:=s1.1
     replace s2:=s2.1
     clear hfX hfN hXf
     by_cases hN:i < ln
     ·have dN:decide ((i:Int) < 1+nn % 4)=true:=decide_eq_true (by have:=hln.out; omega)
      have d4:decide ((4:Int)≤(i:Int))=false:=decide_eq_false (by omega)
      have hvo:∀ k,vN.ownBlock=some k→w.heap.size+1+1+1≤k:=fun k hk=>ownsRow_own_ge hM.out.n.own k hk
      have hNl:=hM.out.ln9
      have hownB:=ownsRow_fr hM.out.n.own hfB.out
      have t1:=hfB.out.keep x3
      have t2:=hfB.out.keepf x3 x5
      replace hvo:=hZ hvo
      replace hownB:=hZ hownB
      replace t1:=hZ t1
      replace t2:=hZ t2
      go_wp2_with (at_builtin; refine wpList_append_lies _ rfl _ _ 70 (by rfl) (w.heap.size+1+1+1) 80 iS _ 2 40 Tryz.underlying70 hS sz0 sz1 sz2 rfl (by decide) _ N.length _ (by rfl) hownB.out ⟨wr.heap.size+1+1+1,0,none⟩ 1 1 [.string (nmOf i),.slice (some ⟨wr.heap.size,0,none⟩) 1 1] (by rfl) rfl (cell_two_newN _ _ _ _ _ hsSS.out) (by simp [Value.oneCell']) (by decide) (by unfold maxLen; omega) (by omega) (by rw [World.size_alloc,hsSS.out]; have:=hfS.out.size; omega) (wr.heap.size+1+1+1+1) (by rw [World.size_alloc,hsSS.out]) ?_; intro g2 c2 w2 hown2 hgr2 hat2 hlt2; have u1:=(Fx.of_grown hgr2).keep t1.out (fun e=>by have e9:w.heap.size+1+1+1≤w.heap.size+1+1:=hvo.out _ e; omega); have u2:=(Fx.of_grown hgr2).keepf t1.out t2.out (fun e=>by have e9:w.heap.size+1+1+1≤w.heap.size+1+1:=hvo.out _ e; omega))
      have hM2:=hM.out.nom hsb.out hfB.out (Sy.mk (nmOf i) (rowMk false rs i) (some ⟨wr.heap.size,0,none⟩) 1) rfl (by rw [hXl.out]; exact hown2) hgr2 hsy.out (fun q hq=>by
       have e:g2=q:=by simpa [Value.ownBlock] using hq
       subst e
       exact ⟨hat2.imp id (fun e=>by rw [World.size_alloc,hsSS.out]; omega),hlt2⟩) hN (by omega)
      replace hM2:=hZ hM2
      go_roundg (gk - 1)
      case measure=>omega
      case rel=>exact ⟨i+1,_,_,_,_,by go_num,by omega,hM2⟩
     ·have dN:decide ((i:Int) < 1+nn % 4)=false:=decide_eq_false (by have:=hln.out; omega)
      by_cases h4:4≤i
      ·have d4:decide ((4:Int)≤(i:Int))=true:=decide_eq_true (by omega)
       by_cases hA:i < la
       ·have dA:decide ((i:Int) < 4+na % 4)=true:=decide_eq_true (by have:=hla.out; omega)
        have hvo:∀ k,vA.ownBlock=some k→w.heap.size+1+1+1≤k:=fun k hk=>ownsRow_own_ge hM.out.a.own k hk
        have hNl:=hM.out.la9
        have hownB:=ownsRow_fr hM.out.a.own hfB.out
        have t1:=hfB.out.keep x4
        have t2:=hfB.out.keepf x4 x6
        replace hvo:=hZ hvo
        replace hownB:=hZ hownB
        replace t1:=hZ t1
        replace t2:=hZ t2
        go_wp2_with (at_builtin; refine wpList_append_lies _ rfl _ _ 70 (by rfl) (w.heap.size+1+1+1) 80 iS _ 2 40 Tryz.underlying70 hS sz0 sz1 sz2 rfl (by decide) _ A.length _ (by rfl) hownB.out ⟨wr.heap.size+1+1+1,0,none⟩ 1 1 [.string (nmOf i),.slice (some ⟨wr.heap.size,0,none⟩) 1 1] (by rfl) rfl (cell_two_newN _ _ _ _ _ hsSS.out) (by simp [Value.oneCell']) (by decide) (by unfold maxLen; omega) (by omega) (by rw [World.size_alloc,hsSS.out]; have:=hfS.out.size; omega) (wr.heap.size+1+1+1+1) (by rw [World.size_alloc,hsSS.out]) ?_; intro g2 c2 w2 hown2 hgr2 hat2 hlt2; have u1:=(Fx.of_grown hgr2).keep t1.out (fun e=>by have e9:w.heap.size+1+1+1≤w.heap.size+1+1:=hvo.out _ e; omega); have u2:=(Fx.of_grown hgr2).keepf t1.out t2.out (fun e=>by have e9:w.heap.size+1+1+1≤w.heap.size+1+1:=hvo.out _ e; omega))
        have hM2:=hM.out.acc hsb.out hfB.out (Sy.mk (nmOf i) (rowMk false rs i) (some ⟨wr.heap.size,0,none⟩) 1) rfl (by rw [hXl.out]; exact hown2) hgr2 hsy.out (fun q hq=>by
         have e:g2=q:=by simpa [Value.ownBlock] using hq
         subst e
         exact ⟨hat2.imp id (fun e=>by rw [World.size_alloc,hsSS.out]; omega),hlt2⟩) hA h4 (by omega)
        replace hM2:=hZ hM2
        go_roundg (gk - 1)
        case measure=>omega
        case rel=>exact ⟨i+1,_,_,_,_,by go_num,by omega,hM2⟩
       ·have dA:decide ((i:Int) < 4+na % 4)=false:=decide_eq_false (by have:=hla.out; omega)
        have hM2:=hZ (hM.out.skip hfS.out (by omega) (.inl (by omega)))
        go_wp2_with fail
        go_roundg (gk - 1)
        case measure=>omega
        case rel=>exact ⟨i+1,_,_,_,_,by go_num,by omega,hM2⟩
      ·have d4:decide ((4:Int)≤(i:Int))=false:=decide_eq_false (by omega)
       have hM2:=hZ (hM.out.skip hfS.out (by omega) (.inr (by omega)))
       go_wp2_with fail
       go_roundg (gk - 1)
       case measure=>omega
       case rel=>exact ⟨i+1,_,_,_,_,by go_num,by omega,hM2⟩
   | true=>
     have ownX:(wr.alloc (.cells #[.int .i64 (a.tmod 8)] 3)).ownsRow (w.heap.size+1+1+1) 3 1 (.slice (some ⟨wr.heap.size,0,none⟩) 1 1) 1 [.int .i64 (a.tmod 8)]:=⟨rfl,.inr ⟨wr.heap.size,1,_,rfl,hsz,heap_alloc_new wr _,Nat.le_refl _,by unfold maxLen; omega,rfl,rfl⟩⟩
     replace ownX:=hZ ownX
     go_upto_region 8 with (at_builtin; refine wpList_append_lies _ rfl _ _ 24 (by rfl) (w.heap.size+1+1+1) 3 iI _ 1 8 Tryz.underlying24 hI iz0 iz1 iz2 rfl (by decide) _ 1 _ (by rfl) (World.ownsRow.alloc ownX.out _) ⟨wr.heap.size+1,0,none⟩ 1 1 [.int .i64 (b.tmod 8)] (by rfl) rfl (cell_one_newN _ _ _ _ (by simp)) (by simp [Value.oneCell']) (by decide) (by unfold maxLen; omega) (by omega) (by simp; omega) (wr.heap.size+1+1) (by simp) ?_; intro gX cX wX hownX hgrX hatX hltX)
     have hXf:Fr wr wX:=(((Fr.refl wr).alloc _).alloc _).grown hgrX (fun k e=>by have e9:wr.heap.size=k:=(by simpa [Value.ownBlock] using e); omega)
     obtain ⟨-,hXb,hX9,-,hXc⟩:=ownsRow_some hownX
     have hXe:El wX iv (some ⟨gX,0,none⟩) (rowMk true rs i):=by
      rw [hrow.out]
      refine .inr ⟨gX,0,rfl,hX9,fun q y hy=>?_⟩
      rw [Nat.zero_add]
      refine (hXc q (iv y) ?_).1
      match q,hy with
      | 0,hy=>simp at hy; subst hy; rfl
      | 1,hy=>simp at hy; subst hy; rfl
      | q+2,hy=>simp at hy
     have hXl:(rowMk true rs i).length=2:=by rw [hrow.out]; rfl
     obtain ⟨cur9,hX8⟩:∃ cur,wX.heap[gX]?=some (.cells cur 3 (0,0)):=by
      rcases hownX.2 with ⟨h2,_⟩ | ⟨g',cap',cur,hv,_,hh,_⟩
      ·cases h2
      ·injection hv with hv; injection hv with hv; injection hv with hv
       subst hv; exact ⟨cur,hh⟩
     have hXh:Hid (∃ cur,wX.heap[gX]?=some (.cells cur 3 (0,0))):=⟨cur9,hX8⟩
     have hXs:wX.heap.size=wX.heap.size:=rfl
     clear hownX hgrX hatX hX8 hXc ownX x00 x01
     have nmc:=names_cell (heap_alloc_new wX (.cells #[.string ⟨#[65]⟩,.string ⟨#[66]⟩,.string ⟨#[67]⟩,.string ⟨#[68]⟩,.string ⟨#[35]⟩,.string ⟨#[98]⟩,.string ⟨#[94]⟩] 9 (0,0))) i hi
     rw [hXs] at nmc
     have hfN:Fr wX (wX.alloc (.cells #[.string ⟨#[65]⟩,.string ⟨#[66]⟩,.string ⟨#[67]⟩,.string ⟨#[68]⟩,.string ⟨#[35]⟩,.string ⟨#[98]⟩,.string ⟨#[94]⟩] 9)):=(Fr.refl _).alloc _
     have hfS:Fr wr ((wX.alloc (.cells #[.string ⟨#[65]⟩,.string ⟨#[66]⟩,.string ⟨#[67]⟩,.string ⟨#[68]⟩,.string ⟨#[35]⟩,.string ⟨#[98]⟩,.string ⟨#[94]⟩] 9)).alloc (.cells #[.string (nmOf i),.slice (some ⟨gX,0,none⟩) 2 cX] 80)):=(hXf.trans hfN).alloc _
     have hsS:(wX.alloc (.cells #[.string ⟨#[65]⟩,.string ⟨#[66]⟩,.string ⟨#[67]⟩,.string ⟨#[68]⟩,.string ⟨#[35]⟩,.string ⟨#[98]⟩,.string ⟨#[94]⟩] 9)).heap.size=wX.heap.size+1:=by rw [World.size_alloc,hXs]
     have s1:=new2a (wX.alloc (.cells #[.string ⟨#[65]⟩,.string ⟨#[66]⟩,.string ⟨#[67]⟩,.string ⟨#[68]⟩,.string ⟨#[35]⟩,.string ⟨#[98]⟩,.string ⟨#[94]⟩] 9)) (.string (nmOf i)) (.slice (some ⟨gX,0,none⟩) 2 cX) 80
     have s2:=new2b (wX.alloc (.cells #[.string ⟨#[65]⟩,.string ⟨#[66]⟩,.string ⟨#[67]⟩,.string ⟨#[68]⟩,.string ⟨#[35]⟩,.string ⟨#[98]⟩,.string ⟨#[94]⟩] 9)) (.string (nmOf i)) (.slice (some ⟨gX,0,none⟩) 2 cX) 80
     rw [hsS] at s1 s2
     have y1:=hfS.keep x1
     have y2:=hfS.keep x2
     have y3:=hfS.keep x3
     have y4:=hfS.keep x4
     have hsSS:((wX.alloc (.cells #[.string ⟨#[65]⟩,.string ⟨#[66]⟩,.string ⟨#[67]⟩,.string ⟨#[68]⟩,.string ⟨#[35]⟩,.string ⟨#[98]⟩,.string ⟨#[94]⟩] 9)).alloc (.cells #[.string (nmOf i),.slice (some ⟨gX,0,none⟩) 2 cX] 80)).heap.size=wX.heap.size+1+1:=by rw [World.size_alloc,hsS]
     have hfB:Fr wr (((wX.alloc (.cells #[.string ⟨#[65]⟩,.string ⟨#[66]⟩,.string ⟨#[67]⟩,.string ⟨#[68]⟩,.string ⟨#[35]⟩,.string ⟨#[98]⟩,.string ⟨#[94]⟩] 9)).alloc (.cells #[.string (nmOf i),.slice (some ⟨gX,0,none⟩) 2 cX] 80)).alloc (.cells #[.string (nmOf i),.slice (some ⟨gX,0,none⟩) 2 cX] 80)):=hfS.alloc _
     have hfX:Fr wX (((wX.alloc (.cells #[.string ⟨#[65]⟩,.string ⟨#[66]⟩,.string ⟨#[67]⟩,.string ⟨#[68]⟩,.string ⟨#[35]⟩,.string ⟨#[98]⟩,.string ⟨#[94]⟩] 9)).alloc (.cells #[.string (nmOf i),.slice (some ⟨gX,0,none⟩) 2 cX] 80)).alloc (.cells #[.string (nmOf i),.slice (some ⟨gX,0,none⟩) 2 cX] 80)):=(hfN.alloc _).alloc _
     have hsy:∃ g,(Sy.mk (nmOf i) (rowMk true rs i) (some ⟨gX,0,none⟩) cX).ra=some ⟨g,0,none⟩∧w.heap.size+1+1+1≤g∧(∃ cur,(((wX.alloc (.cells #[.string ⟨#[65]⟩,.string ⟨#[66]⟩,.string ⟨#[67]⟩,.string ⟨#[68]⟩,.string ⟨#[35]⟩,.string ⟨#[98]⟩,.string ⟨#[94]⟩] 9)).alloc (.cells #[.string (nmOf i),.slice (some ⟨gX,0,none⟩) 2 cX] 80)).alloc (.cells #[.string (nmOf i),.slice (some ⟨gX,0,none⟩) 2 cX] 80)).heap[g]?=some (.cells cur 3 (0,0)))∧El (((wX.alloc (.cells #[.string ⟨#[65]⟩,.string ⟨#[66]⟩,.string ⟨#[67]⟩,.string ⟨#[68]⟩,.string ⟨#[35]⟩,.string ⟨#[98]⟩,.string ⟨#[94]⟩] 9)).alloc (.cells #[.string (nmOf i),.slice (some ⟨gX,0,none⟩) 2 cX] 80)).alloc (.cells #[.string (nmOf i),.slice (some ⟨gX,0,none⟩) 2 cX] 80)) iv (some ⟨g,0,none⟩) (Sy.mk (nmOf i) (rowMk true rs i) (some ⟨gX,0,none⟩) cX).row:=by
      obtain ⟨cur,hc⟩:=hXh
      exact ⟨gX,rfl,hXb,⟨cur,(Below.block hfX _ (lt_of_heap hc)).trans hc⟩,hXe.fr hfX⟩
     replace hXh:=hZ hXh
     replace hXe:=hZ hXe
     replace hXl:=hZ hXl
     replace hXs:=hZ hXs
     replace hsS:=hZ hsS
     replace hsSS:=hZ hsSS
     replace hsy:=hZ hsy
     replace hfB:=hZ hfB
     replace hfS:=hZ hfS
     replace s1:=s1.1
     replace s2:=s2.1
     clear hfX hfN hXf
     by_cases hN:i < ln
     ·have dN:decide ((i:Int) < 1+nn % 4)=true:=decide_eq_true (by have:=hln.out; omega)
      have d4:decide ((4:Int)≤(i:Int))=false:=decide_eq_false (by omega)
      have hvo:∀ k,vN.ownBlock=some k→w.heap.size+1+1+1≤k:=fun k hk=>ownsRow_own_ge hM.out.n.own k hk
      have hNl:=hM.out.ln9
      have hownB:=ownsRow_fr hM.out.n.own hfB.out
      have t1:=hfB.out.keep x3
      have t2:=hfB.out.keepf x3 x5
      replace hvo:=hZ hvo
      replace hownB:=hZ hownB
      replace t1:=hZ t1
      replace t2:=hZ t2
      go_wp2_with (at_builtin; refine wpList_append_lies _ rfl _ _ 70 (by rfl) (w.heap.size+1+1+1) 80 iS _ 2 40 Tryz.underlying70 hS sz0 sz1 sz2 rfl (by decide) _ N.length _ (by rfl) hownB.out ⟨wX.heap.size+1+1,0,none⟩ 1 1 [.string (nmOf i),.slice (some ⟨gX,0,none⟩) 2 cX] (by rfl) rfl (cell_two_newN _ _ _ _ _ hsSS.out) (by simp [Value.oneCell']) (by decide) (by unfold maxLen; omega) (by omega) (by rw [World.size_alloc,hsSS.out]; have:=hfS.out.size; omega) (wX.heap.size+1+1+1) (by rw [World.size_alloc,hsSS.out]) ?_; intro g2 c2 w2 hown2 hgr2 hat2 hlt2; have u1:=(Fx.of_grown hgr2).keep t1.out (fun e=>by have e9:w.heap.size+1+1+1≤w.heap.size+1+1:=hvo.out _ e; omega); have u2:=(Fx.of_grown hgr2).keepf t1.out t2.out (fun e=>by have e9:w.heap.size+1+1+1≤w.heap.size+1+1:=hvo.out _ e; omega))
      have hM2:=hM.out.nom hsb.out hfB.out (Sy.mk (nmOf i) (rowMk true rs i) (some ⟨gX,0,none⟩) cX) rfl (by rw [hXl.out]; exact hown2) hgr2 hsy.out (fun q hq=>by
       have e:g2=q:=by simpa [Value.ownBlock] using hq
       subst e
       exact ⟨hat2.imp id (fun e=>by rw [World.size_alloc,hsSS.out]; omega),hlt2⟩) hN (by omega)
      replace hM2:=hZ hM2
      go_roundg (gk - 1)
      case measure=>omega
      case rel=>exact ⟨i+1,_,_,_,_,by go_num,by omega,hM2⟩
     ·have dN:decide ((i:Int) < 1+nn % 4)=false:=decide_eq_false (by have:=hln.out; omega)
      by_cases h4:4≤i
      ·have d4:decide ((4:Int)≤(i:Int))=true:=decide_eq_true (by omega)
       by_cases hA:i < la
       ·have dA:decide ((i:Int) < 4+na % 4)=true:=decide_eq_true (by have:=hla.out; omega)
        have hvo:∀ k,vA.ownBlock=some k→w.heap.size+1+1+1≤k:=fun k hk=>ownsRow_own_ge hM.out.a.own k hk
        have hNl:=hM.out.la9
        have hownB:=ownsRow_fr hM.out.a.own hfB.out
        have t1:=hfB.out.keep x4
        have t2:=hfB.out.keepf x4 x6
        replace hvo:=hZ hvo
        replace hownB:=hZ hownB
        replace t1:=hZ t1
        replace t2:=hZ t2
        go_wp2_with (at_builtin; refine wpList_append_lies _ rfl _ _ 70 (by rfl) (w.heap.size+1+1+1) 80 iS _ 2 40 Tryz.underlying70 hS sz0 sz1 sz2 rfl (by decide) _ A.length _ (by rfl) hownB.out ⟨wX.heap.size+1+1,0,none⟩ 1 1 [.string (nmOf i),.slice (some ⟨gX,0,none⟩) 2 cX] (by rfl) rfl (cell_two_newN _ _ _ _ _ hsSS.out) (by simp [Value.oneCell']) (by decide) (by unfold maxLen; omega) (by omega) (by rw [World.size_alloc,hsSS.out]; have:=hfS.out.size; omega) (wX.heap.size+1+1+1) (by rw [World.size_alloc,hsSS.out]) ?_; intro g2 c2 w2 hown2 hgr2 hat2 hlt2; have u1:=(Fx.of_grown hgr2).keep t1.out (fun e=>by have e9:w.heap.size+1+1+1≤w.heap.size+1+1:=hvo.out _ e; omega); have u2:=(Fx.of_grown hgr2).keepf t1.out t2.out (fun e=>by have e9:w.heap.size+1+1+1≤w.heap.size+1+1:=hvo.out _ e; omega))
        have hM2:=hM.out.acc hsb.out hfB.out (Sy.mk (nmOf i) (rowMk true rs i) (some ⟨gX,0,none⟩) cX) rfl (by rw [hXl.out]; exact hown2) hgr2 hsy.out (fun q hq=>by
         have e:g2=q:=by simpa [Value.ownBlock] using hq
         subst e
         exact ⟨hat2.imp id (fun e=>by rw [World.size_alloc,hsSS.out]; omega),hlt2⟩) hA h4 (by omega)
        replace hM2:=hZ hM2
        go_roundg (gk - 1)
        case measure=>omega
        case rel=>exact ⟨i+1,_,_,_,_,by go_num,by omega,hM2⟩
       ·have dA:decide ((i:Int) < 4+na % 4)=false:=decide_eq_false (by have:=hla.out; omega)
        have hM2:=hZ (hM.out.skip hfS.out (by omega) (.inl (by omega)))
        go_wp2_with fail
        go_roundg (gk - 1)
        case measure=>omega
        case rel=>exact ⟨i+1,_,_,_,_,by go_num,by omega,hM2⟩
      ·have d4:decide ((4:Int)≤(i:Int))=false:=decide_eq_false (by omega)
       have hM2:=hZ (hM.out.skip hfS.out (by omega) (.inr (by omega)))
       go_wp2_with fail
       go_roundg (gk - 1)
       case measure=>omega
       case rel=>exact ⟨i+1,_,_,_,_,by go_num,by omega,hM2⟩
  ·obtain rfl:i=7:=by omega
   have hI9:=hM.out
   clear hM
   obtain ⟨aN,cN,rfl,hsN,hnN⟩:=hI9.n.syms
   obtain ⟨aA,cA,rfl,hsA,hnA⟩:=hI9.a.syms
   have x3:=hI9.c0
   have x4:=hI9.c1
   have hk1:¬ w.heap.size+1=w.heap.size+1+1:=by omega
   have h9:=(hI9.fx.block _ (by rw [hsb.out]; omega) hk1).trans g1.out
   have r0:wr.cell? ⟨w.heap.size+1,0,none⟩=some (.slice none 0 0):=cells_of h9 0
   have r1:wr.cell? ⟨w.heap.size+1,1,none⟩=some (.slice none 0 0):=cells_of h9 1
   have r2:wr.frozen? ⟨w.heap.size+1,0,none⟩=false:=by unfold World.frozen?; rw [h9]; rfl
   have r3:wr.frozen? ⟨w.heap.size+1,1,none⟩=false:=by unfold World.frozen?; rw [h9]; rfl
   have hpn:=hI9.pn
   have hpa:=hI9.pa
   rw [Nat.min_eq_right (by omega)] at hpn hpa
   have hfr:Fr w wr:=((Fx.of_fr hfb.out).trans hI9.fx).toFr (fun k hk e=>by have e:k=w.heap.size+1+1:=e; omega)
   have hfS:=(hfr.setCell (p:=⟨w.heap.size+1,0,none⟩) (by simp) (.slice aN N.length cN)).setCell (p:=⟨w.heap.size+1,1,none⟩) (by simp) (.slice aA A.length cA)
   have e1:(⟨w.heap.size+1,0,none⟩:Addr)≠⟨w.heap.size+1,1,none⟩:=fun e=>by injection e with _ e; omega
   have q0:((wr.setCell ⟨w.heap.size+1,0,none⟩ (.slice aN N.length cN)).setCell ⟨w.heap.size+1,1,none⟩ (.slice aA A.length cA)).cell? ⟨w.heap.size+1,0,none⟩=some (.slice aN N.length cN):=by
    rw [World.cell?_setCell_other _ _ _ _ (fun e=>e1 e.symm)]; exact World.cell?_setCell_same' _ _ _ (by rw [r0]; rfl)
   have q1:((wr.setCell ⟨w.heap.size+1,0,none⟩ (.slice aN N.length cN)).setCell ⟨w.heap.size+1,1,none⟩ (.slice aA A.length cA)).cell? ⟨w.heap.size+1,1,none⟩=some (.slice aA A.length cA):=World.cell?_setCell_same' _ _ _ (by rw [World.cell?_setCell_other _ _ _ _ e1,r1]; rfl)
   have hS1:Fx (·=w.heap.size+1) wr ((wr.setCell ⟨w.heap.size+1,0,none⟩ (.slice aN N.length cN)).setCell ⟨w.heap.size+1,1,none⟩ (.slice aA A.length cA)):=Fx.setCell (p:=(·=w.heap.size+1)) (q:=⟨w.heap.size+1,1,none⟩) (Fx.setCell (p:=(·=w.heap.size+1)) (q:=⟨w.heap.size+1,0,none⟩) (Fx.refl _ wr) (.inl rfl) _) (.inl rfl) _
   have hN9:=hI9.n.fx hS1 (fun g hg e=>by have:=ownsRow_own_ge hI9.n.own g hg; have e:g=w.heap.size+1:=e; omega) (fun g hg _ e=>by have e:g=w.heap.size+1:=e; omega)
   have hA9:=hI9.a.fx hS1 (fun g hg e=>by have:=ownsRow_own_ge hI9.a.own g hg; have e:g=w.heap.size+1:=e; omega) (fun g hg _ e=>by have e:g=w.heap.size+1:=e; omega)
   obtain ⟨aN',cN',eN,hsN',-⟩:=hN9.syms
   obtain ⟨aA',cA',eA,hsA',-⟩:=hA9.syms
   injection eN with eN1 eN2 eN3
   injection eA with eA1 eA2 eA3
   subst eN1; subst eA1
   have hfin:=hZ (show NotRet w (symsMk two rs 0 (1+nn % 4).toNat) (symsMk two rs 4 (4+na % 4).toNat) (.returned (.agg #[.slice aN N.length cN,.slice aA A.length cA])) ((wr.setCell ⟨w.heap.size+1,0,none⟩ (.slice aN N.length cN)).setCell ⟨w.heap.size+1,1,none⟩ (.slice aA A.length cA)) from by rw [hres9.out.1,hres9.out.2]; exact ⟨aN,aA,cN,cA,N,A,rfl,⟨hsN',hsA',hnA⟩,hpn,hpa,hfS⟩)
   replace q0:=hZ q0
   replace q1:=hZ q1
   replace e1:=hZ e1
   have s1:(wr.setCell ⟨w.heap.size+1,0,none⟩ (.slice aN N.length cN)).cell? ⟨w.heap.size+1,1,none⟩=some (.slice none 0 0):=by rw [World.cell?_setCell_other _ _ _ _ e1.out]; exact r1
   have s2:(wr.setCell ⟨w.heap.size+1,0,none⟩ (.slice aN N.length cN)).frozen? ⟨w.heap.size+1,1,none⟩=false:=by rw [World.frozen?_setCell]; exact r3
   clear hN9 hA9 hI9 h9 hsN hsA hnN hnA hsN' hsA' hpn hpa hfr hfS hS1 eN2 eN3 eA2 eA3
   go_wp2_with fail
   have u0:=q0.out
   have u1:=q1.out
   refine bodyPost_ret (v:=.agg #[.slice aN N.length cN,.slice aA A.length cA]) (by simp [results,Tryz.results26,go_sem,u0,u1]) rfl hfin.out
structure NotOkP (d:Nat) (Ns As:List (ByteArray×List Int)):Prop where
 n1:0 < Ns.length
 n60:Ns.length≤60
 a6:As.length≤6
 d12:d≤12
 row:∀ x,x ∈ Ns ++ As→x.2.length=d
 fit:∀ x,x ∈ Ns ++ As→∀ y,y ∈ x.2→fitB y=true
 nm:∀ x,x ∈ Ns ++ As→isName x.1=true
 dis:∀ (i j:Nat) (x y:ByteArray×List Int),(Ns ++ As)[i]?=some x→(Ns ++ As)[j]?=some y→i < j→x.1≠y.1
theorem NotOkP.ok {d:Nat} {Ns As:List (ByteArray×List Int)} {N A:List Sy} (h:NotOkP d Ns As) (hN:N.map plainSy=Ns) (hA:A.map plainSy=As):NotOk d N A:=by
 have hc:(N ++ A).map plainSy=Ns ++ As:=by rw [List.map_append,hN,hA]
 have hm:∀ x,x ∈ N ++ A→plainSy x ∈ Ns ++ As:=fun x hx=>by rw [← hc]; exact List.mem_map_of_mem hx
 refine ⟨by have:=h.n1; rw [← hN,List.length_map] at this; exact this,by have:=h.n60; rw [← hN,List.length_map] at this; exact this,by have:=h.a6; rw [← hA,List.length_map] at this; exact this,h.d12,fun x hx=>h.row _ (hm x hx),fun x hx=>h.fit _ (hm x hx),fun x hx=>h.nm _ (hm x hx),fun i j x y hx hy hij=>?_⟩
 refine h.dis i j (plainSy x) (plainSy y) ?_ ?_ hij
 ·rw [← hc,List.getElem?_map,hx]; rfl
 ·rw [← hc,List.getElem?_map,hy]; rfl
def sumR (Nr Ar:List (List Int)) (s:Nat×List Int):List Int:=sumL ((Nr[s.1]?).getD []) s.2 Ar
def allR (Nr Ar:List (List Int)) (R:List Int) (m:Nat):List (Nat×List Int):=sortS ((boxL m Ar.length Nr.length).filter fun s=>decide (sumR Nr Ar s=R))
theorem sumS_R (N A:List Sy) (s:Nat×List Int):sumS N A s=sumR (N.map Sy.row) (A.map Sy.row) s:=by
 unfold sumS sumR rowOf; rw [List.getElem?_map]
theorem allL_R (N A:List Sy) (R:List Int) (m:Nat):allL N A R m=allR (N.map Sy.row) (A.map Sy.row) R m:=by
 unfold allL allR
 rw [List.length_map,List.length_map]
 congr 1
 exact List.filter_congr (fun s _=>by rw [sumS_R])
theorem row_plain (N:List Sy):N.map Sy.row=(N.map plainSy).map (·.2):=by rw [List.map_map]; rfl
theorem symsMk_length (two:Bool) (rs:List Int) (a b:Nat):(symsMk two rs a b).length=b - a:=by unfold symsMk; simp
theorem symsMk_get (two:Bool) (rs:List Int) (a b i:Nat) (x:ByteArray×List Int) (h:(symsMk two rs a b)[i]?=some x):a+i < b∧x=symMk two rs (a+i):=by
 unfold symsMk at h
 rw [List.getElem?_map,List.getElem?_drop] at h
 cases e:(List.range b)[a+i]? with
 | none=>rw [e] at h; simp at h
 | some k=>
   rw [e] at h
   obtain ⟨h1,h2⟩:=List.getElem?_eq_some_iff.1 e
   simp at h2
   subst h2
   injection h with h
   exact ⟨by simpa using h1,h.symm⟩
theorem nmOf_ok:∀ i,i < 7→isName (nmOf i)=true
 | 0,_=>by decide
 | 1,_=>by decide
 | 2,_=>by decide
 | 3,_=>by decide
 | 4,_=>by decide
 | 5,_=>by decide
 | 6,_=>by decide
def nmB (i:Nat):Nat:=((nmOf i).data[0]!).toNat
theorem nmOf_inj:∀ i j,i < j→j < 7→nmOf i≠nmOf j:=fun i j hij hj e=>by
 have h:nmB i=nmB j:=by unfold nmB; rw [e]
 have key:∀ j,j < 7→∀ i,i < j→nmB i≠nmB j:=by decide
 exact key j hj i hij h
def dMk (two:Bool):Nat:=if two then 2 else 1
theorem rowMk_length (two:Bool) (rs:List Int) (i:Nat):(rowMk two rs i).length=dMk two:=by unfold rowMk dMk; cases two <;> rfl
theorem rowMk_fit (two:Bool) (rs:List Int) (i:Nat):∀ y,y ∈ rowMk two rs i→fitB y=true:=fun y hy=>by
 unfold rowMk at hy
 have key:∀ a:Int,fitB (a.tmod 8)=true:=fun a=>by have:=tmod8 (x:=a); unfold fitB; exact decide_eq_true (by omega)
 rcases List.mem_cons.1 hy with rfl | hy
 ·exact key _
 ·cases two with
  | false=>simp at hy
  | true=>simp at hy; subst hy; exact key _
theorem plan_ok (two:Bool) (rs:List Int) (ln la:Nat) (h1:1≤ln) (h2:ln≤4) (h3:la≤7):NotOkP (dMk two) (symsMk two rs 0 ln) (symsMk two rs 4 la):=by
 have hg:∀ (i:Nat) (x:ByteArray×List Int),(symsMk two rs 0 ln ++ symsMk two rs 4 la)[i]?=some x→∃ k,k < 7∧x=symMk two rs k∧k=(if i < ln then i else 4+(i - ln)):=fun i x hx=>by
  by_cases hi:i < ln
  ·rw [List.getElem?_append_left (by rw [symsMk_length]; omega)] at hx
   obtain ⟨a,b⟩:=symsMk_get two rs 0 ln i x hx
   exact ⟨i,by omega,by rw [b,Nat.zero_add],by rw [if_pos hi]⟩
  ·rw [List.getElem?_append_right (by rw [symsMk_length]; omega),symsMk_length] at hx
   obtain ⟨a,b⟩:=symsMk_get two rs 4 la _ x hx
   exact ⟨4+(i - ln),by omega,by rw [b]; congr 1,by rw [if_neg hi]⟩
 have hm:∀ x,x ∈ symsMk two rs 0 ln ++ symsMk two rs 4 la→∃ k,k < 7∧x=symMk two rs k:=fun x hx=>by
  obtain ⟨i,hi⟩:=List.getElem?_of_mem hx
  obtain ⟨k,a,b,_⟩:=hg i x hi
  exact ⟨k,a,b⟩
 refine ⟨by rw [symsMk_length]; omega,by rw [symsMk_length]; omega,by rw [symsMk_length]; omega,by unfold dMk; cases two <;> decide,fun x hx=>?_,fun x hx=>?_,fun x hx=>?_,fun i j x y hx hy hij=>?_⟩
 ·obtain ⟨k,a,rfl⟩:=hm x hx; exact rowMk_length two rs k
 ·obtain ⟨k,a,rfl⟩:=hm x hx; exact rowMk_fit two rs k
 ·obtain ⟨k,a,rfl⟩:=hm x hx; exact nmOf_ok k a
 ·obtain ⟨k,a,rfl,e⟩:=hg i x hx
  obtain ⟨l,b,rfl,f⟩:=hg j y hy
  refine nmOf_inj k l ?_ b
  rw [e,f]
  have hjj:j < ln+(la - 4):=by
   have:=(List.getElem?_eq_some_iff.1 hy).1
   rw [List.length_append,symsMk_length,symsMk_length] at this
   omega
  by_cases c1:i < ln <;> by_cases c2:j < ln
  ·rw [if_pos c1,if_pos c2]; exact hij
  ·rw [if_pos c1,if_neg c2]; omega
  ·omega
  ·rw [if_neg c1,if_neg c2]; omega
attribute [local go_sem ↓] Go.wp_at_zero Go.wp_at_succ

end Go.Proofs.YtmalpgbbddkdcaaGreatDoor
