/- Contracts and laws: VMT. -/
import Derived.Test.YtmalpgbbddkdcaaGreatDoorVTC
import Derived.Test.YtmalpgbbddkdcaaGreatDoorVSX
import Derived.Test.YtmalpgbbddkdcaaGreatDoorVB
import Derived.Deep.CutBlock

set_option maxRecDepth 100000
set_option maxHeartbeats 4000000
namespace Go.Proofs.YtmalpgbbddkdcaaGreatDoor
open Go.RowKit Go.Lib
attribute [local go_sem ↓] Go.wp_at_zero Go.wp_at_succ
def pl10:Nat→List Int
 | 0=>[2,3,5]
 | 1=>[2,3,5,7]
 | 2=>[2,3]
 | 3=>[2,3,7]
 | 4=>[2,5,7]
 | 5=>[3,5,7]
 | 6=>[2,3,5,11]
 | 7=>[2]
 | 8=>[2,3,7,13]
 | _=>[3,5,7,13]
theorem pl10_ok:∀ k,primeE (pl10 k)=0∧1≤(pl10 k).length∧(pl10 k).length≤4
 | 0 | 1 | 2 | 3 | 4 | 5 | 6 | 7 | 8=>by refine ⟨?_, ?_, ?_⟩ <;> decide +kernel
 | _+9=>by
   show primeE [3,5,7,13]=0∧1≤[3,5,7,13].length∧[3,5,7,13].length≤4
   refine ⟨?_, ?_, ?_⟩ <;> decide +kernel
def prm (n:Int):List Int:=pl10 (n.tmod 10).toNat
theorem Primes12_any (n:Int) (h0:0≤n) (h1:n≤255) (w:World) :
 Calls Tryz.prog 18 #[.int .u8 n] w fun e w'=>∃ b,e=.returned (.slice (some ⟨b,0,none⟩) (prm n).length (prm n).length)∧El w' iv (some ⟨b,0,none⟩) (prm n)∧w.heap.size≤b∧Fr w w':=by
 obtain ⟨k,hk⟩:∃ k:Nat,n.tmod 10=(k:Int):=⟨(n.tmod 10).toNat,by have:=Int.tmod_nonneg 10 h0; omega⟩
 have hk10:k < 10:=by have:=Int.tmod_lt_of_pos n (show (0:Int) < 10 by decide); omega
 have hp:prm n=pl10 k:=by unfold prm; rw [hk,Int.toNat_natCast]
 rw [hp]
 clear hp
 obtain ⟨W,hW⟩:∃ W,W=alls w [(.cells #[.int .i64 2,.int .i64 3,.int .i64 5] 3),(.cells #[.int .i64 2,.int .i64 3,.int .i64 5,.int .i64 7] 3),(.cells #[.int .i64 2,.int .i64 3] 3),(.cells #[.int .i64 2,.int .i64 3,.int .i64 7] 3),(.cells #[.int .i64 2,.int .i64 5,.int .i64 7] 3),(.cells #[.int .i64 3,.int .i64 5,.int .i64 7] 3),(.cells #[.int .i64 2,.int .i64 3,.int .i64 5,.int .i64 11] 3),(.cells #[.int .i64 2] 3),(.cells #[.int .i64 2,.int .i64 3,.int .i64 7,.int .i64 13] 3),(.cells #[.int .i64 3,.int .i64 5,.int .i64 7,.int .i64 13] 3),(.cells #[.slice (some ⟨w.heap.size,0,none⟩) 3 3,.slice (some ⟨w.heap.size+1,0,none⟩) 4 4,.slice (some ⟨w.heap.size+1+1,0,none⟩) 2 2,.slice (some ⟨w.heap.size+1+1+1,0,none⟩) 3 3,.slice (some ⟨w.heap.size+1+1+1+1,0,none⟩) 3 3,.slice (some ⟨w.heap.size+1+1+1+1+1,0,none⟩) 3 3,.slice (some ⟨w.heap.size+1+1+1+1+1+1,0,none⟩) 4 4,.slice (some ⟨w.heap.size+1+1+1+1+1+1+1,0,none⟩) 1 1,.slice (some ⟨w.heap.size+1+1+1+1+1+1+1+1,0,none⟩) 4 4,.slice (some ⟨w.heap.size+1+1+1+1+1+1+1+1+1,0,none⟩) 4 4] 23)]:=⟨_,rfl⟩
 have hf:Fr w W:=by rw [hW]; exact alls_fr _ w
 have hel:∀ (b:Nat) (xs:List Int) (cs:Array Value),W.heap[b]?=some (.cells cs 3 (0,0))→(∀ (i:Nat) (x:Int),xs[i]?=some x→cs[i]?=some (.int .i64 x))→El W iv (some ⟨b,0,none⟩) xs:=fun b xs cs hb hc=>.inr ⟨b,0,rfl,lt_of_heap hb,fun i x hx=>by rw [Nat.zero_add,cells_of hb]; exact hc i x hx⟩
 have key:∃ b,w.heap.size≤b∧W.cell? ⟨w.heap.size+10,k,none⟩=some (.slice (some ⟨b,0,none⟩) (pl10 k).length (pl10 k).length)∧El W iv (some ⟨b,0,none⟩) (pl10 k):=by
  have hg:∀ (i:Nat) (o:Obj),_→W.heap[w.heap.size+i]?=some o:=fun i o h=>by rw [hW]; exact alls_get _ w i o h
  refine ⟨w.heap.size+k,Nat.le_add_right _ _, ?_, ?_⟩
  ·rw [cells_of (hg 10 _ rfl)]
   match k,hk10 with
   | 0,_ | 1,_ | 2,_ | 3,_ | 4,_ | 5,_ | 6,_ | 7,_ | 8,_ | 9,_=>rfl
  ·match k,hk10 with
   | 0,_ | 1,_ | 2,_ | 3,_ | 4,_ | 5,_ | 6,_ | 7,_ | 8,_ | 9,_=>
     refine hel _ _ _ (hg _ _ rfl) fun i x hx=>?_
     match i,hx with
     | 0,hx=>injection hx with hx; subst hx; rfl
     | 1,hx=>first | (injection hx with hx; subst hx; rfl) | cases hx
     | 2,hx=>first | (injection hx with hx; subst hx; rfl) | cases hx
     | 3,hx=>first | (injection hx with hx; subst hx; rfl) | cases hx
     | i+4,hx=>cases hx
 clear hel
 obtain ⟨b,hb9,hc,he⟩:=key
 replace hb9:=hZ hb9
 generalize pl10 k=P at *
 obtain ⟨m,hm⟩:∃ m,m=P.length:=⟨_,rfl⟩
 rw [← hm] at hc ⊢
 replace he:=hZ he
 replace hm:=hZ hm
 replace hf:=hZ hf
 have zk0:(0:Int)≤(k:Int):=Int.natCast_nonneg _
 have zk1:(k:Int) < 10:=by omega
 go_enter Tryz.func18,Tryz.ntmps18
 go_upto_region 2 with (fail)
 rw [show w.heap.size+10=w.heap.size+1+1+1+1+1+1+1+1+1+1 from rfl] at hc
 change Code.wp _ _ _ _ (alls w [(.cells #[.int .i64 2,.int .i64 3,.int .i64 5] 3),(.cells #[.int .i64 2,.int .i64 3,.int .i64 5,.int .i64 7] 3),(.cells #[.int .i64 2,.int .i64 3] 3),(.cells #[.int .i64 2,.int .i64 3,.int .i64 7] 3),(.cells #[.int .i64 2,.int .i64 5,.int .i64 7] 3),(.cells #[.int .i64 3,.int .i64 5,.int .i64 7] 3),(.cells #[.int .i64 2,.int .i64 3,.int .i64 5,.int .i64 11] 3),(.cells #[.int .i64 2] 3),(.cells #[.int .i64 2,.int .i64 3,.int .i64 7,.int .i64 13] 3),(.cells #[.int .i64 3,.int .i64 5,.int .i64 7,.int .i64 13] 3),(.cells #[.slice (some ⟨w.heap.size,0,none⟩) 3 3,.slice (some ⟨w.heap.size+1,0,none⟩) 4 4,.slice (some ⟨w.heap.size+1+1,0,none⟩) 2 2,.slice (some ⟨w.heap.size+1+1+1,0,none⟩) 3 3,.slice (some ⟨w.heap.size+1+1+1+1,0,none⟩) 3 3,.slice (some ⟨w.heap.size+1+1+1+1+1,0,none⟩) 3 3,.slice (some ⟨w.heap.size+1+1+1+1+1+1,0,none⟩) 4 4,.slice (some ⟨w.heap.size+1+1+1+1+1+1+1,0,none⟩) 1 1,.slice (some ⟨w.heap.size+1+1+1+1+1+1+1+1,0,none⟩) 4 4,.slice (some ⟨w.heap.size+1+1+1+1+1+1+1+1+1,0,none⟩) 4 4] 23)])
 rw [← hW]
 clear hW
 go_wp2_with fail
 go_ret
 exact ⟨b,rfl,he.out,hb9.out,hf.out⟩
def ivl (k:Nat) (r:List Int):List Int:=(r.take k).map fun x=>x.tmod 10
theorem ivl_len {k:Nat} {r:List Int} (h:r.length=4) (hk:k≤4):(ivl k r).length=k:=by
 unfold ivl; rw [List.length_map,List.length_take]; omega
theorem ivl_get {k i:Nat} {r:List Int} {x:Int} (hi:i < k) (h:r[i]?=some x):(ivl k r)[i]?=some (x.tmod 10):=by
 unfold ivl; rw [List.getElem?_map,List.getElem?_take,if_pos hi,h]; rfl
theorem tmod10T (x:Int):-9≤x.tmod 10∧x.tmod 10≤9:=by
 have h1:=Int.tmod_lt_of_pos x (show (0:Int) < 10 by decide)
 have h2:=Int.lt_tmod_of_pos x (show (0:Int) < 10 by decide)
 omega
theorem ivl_bd {k:Nat} {r:List Int}:∀ x,x ∈ ivl k r→x.natAbs≤9:=fun x hx=>by
 obtain ⟨y,-,rfl⟩:=List.mem_map.1 hx
 have:=tmod10T y
 omega
theorem Interval12_any (n:Nat) (a:Option Addr) (cap:Nat) (v0 v1 v2 v3:Int) (w:World) (hP1:1≤n) (hP4:n≤4) (hr:∀ x,x ∈ [v0,v1,v2,v3]→-128≤x∧x≤127) :
 Calls Tryz.prog 56 #[.slice a n cap,.agg #[.int .i8 v0,.int .i8 v1,.int .i8 v2,.int .i8 v3]] w fun e w'=>∃ g c,e=.returned (.slice (some ⟨g,0,none⟩) n c)∧Fr w w'∧w'.ownsRow w.heap.size 3 1 (.slice (some ⟨g,0,none⟩) n c) n ((ivl n [v0,v1,v2,v3]).map iv):=by
 obtain ⟨i0,ji,jz0,jz1,jz2⟩:=info_parts infoInt
 obtain ⟨r,hr9⟩:∃ r,r=[v0,v1,v2,v3]:=⟨_,rfl⟩
 have hrl:r.length=4:=by rw [hr9]; rfl
 obtain ⟨wb,hwb⟩:∃ wb,wb=alls w [(.cells #[.int .i8 v0,.int .i8 v1,.int .i8 v2,.int .i8 v3] 112)]:=⟨_,rfl⟩
 have hfb:Fr w wb:=by rw [hwb]; exact alls_fr _ w
 have g0:wb.heap[w.heap.size]?=some (.cells #[.int .i8 v0,.int .i8 v1,.int .i8 v2,.int .i8 v3] 112 (0,0)):=by rw [hwb]; exact alls_get _ w 0 _ rfl
 have hcl:∀ i x,r[i]?=some x→wb.cell? ⟨w.heap.size,i,none⟩=some (.int .i8 x):=fun i x hx=>by
  rw [cells_of g0]
  rw [hr9] at hx
  match i,hx with
  | 0,hx | 1,hx | 2,hx | 3,hx=>injection hx with hx; subst hx; rfl
  | i+4,hx=>cases hx
 rw [← hr9] at hr ⊢
 obtain ⟨L,hL⟩:∃ L,L=ivl n r:=⟨_,rfl⟩
 have hLl:L.length=n:=by rw [hL]; exact ivl_len hrl hP4
 have hLg:∀ i x,i < n→r[i]?=some x→L[i]?=some (x.tmod 10):=fun i x hi hx=>by rw [hL]; exact ivl_get hi hx
 rw [← hL]
 replace hL:=hZ hL
 replace hLg:=hZ hLg
 replace hcl:=hZ hcl
 replace hr:=hZ hr
 replace hr9:=hZ hr9
 clear g0
 go_enter Tryz.func56,Tryz.ntmps56
 go_upto_region 1 with (fail)
 change Code.wp _ _ _ _ (alls w [(.cells #[.int .i8 v0,.int .i8 v1,.int .i8 v2,.int .i8 v3] 112)])
 rw [← hwb]
 clear hwb
 obtain ⟨tb,htb⟩:∃ tb,tb=w.heap.size:=⟨_,rfl⟩
 rw [← htb] at hcl ⊢
 replace htb:=hZ htb
 go_wp2_with fail
 go_loopg [5,6] n (fun k s5 s6 wr=>∃ i:Nat,s6=.int .i64 i∧i+k=n∧Fr wb wr∧wr.ownsRow wb.heap.size 3 1 s5 i ((L.take i).map iv))
 case atStart=>exact ⟨0,rfl,by omega,Fr.refl _,by simpa using World.ownsRow_nil _ _ _ _⟩
 case round=>
  obtain ⟨i,rfl,hik,hf,hown⟩:=hrel
  by_cases hi:i < n
  ·have hdI:decide (i < n)=true:=decide_eq_true hi
   have hd4:decide ((i:Int) < 4)=true:=decide_eq_true (by omega)
   obtain ⟨x,hx⟩:∃ x,r[i]?=some x:=⟨_,List.getElem?_eq_getElem (by omega)⟩
   have hc:=hf.keep (hcl.out i x hx)
   have hx8:=hr.out x (List.mem_of_getElem? hx)
   have hsn:=hZ (take_snoc (hLg.out i x hi hx))
   have hxt:=tmod10T x
   replace hx:=hZ hx
   have z0:(0:Int)≤(i:Int):=Int.natCast_nonneg _
   have z1:(i:Int) < 4:=by omega
   obtain ⟨hx1,hx2⟩:=hx8
   go_wp2_with (at_builtin; refine wpList_append_lies _ rfl _ _ 24 (by rfl) _ 3 _ _ 1 8 Tryz.underlying24 ji jz0 jz1 jz2 rfl (by decide) _ i _ (by rfl) (World.ownsRow.alloc hown _) ⟨wr.heap.size,0,none⟩ 1 1 [iv (x.tmod 10)] (by rfl) rfl (cell_one_newN _ _ _ _ (by simp)) (by simp [Value.oneCell']) (by decide) (by unfold maxLen; omega) (by omega) (by have:=hf.size; simp; omega) (wr.heap.size+1) (by simp) ?_; intro gA capA wA hownA hgrowA hatA hltA)
   go_wp2_with fail
   go_roundg (gk - 1)
   case measure=>omega
   case rel=>exact ⟨i+1,by go_num,by omega,(hf.alloc _).grown hgrowA (fun k e=>(hown.lt k e).1),by rw [hsn.out,List.map_append]; exact hownA⟩
  ·obtain rfl:i=n:=by omega
   have hdI:decide (i < i)=false:=decide_eq_false (by omega)
   rw [List.take_of_length_le (by rw [hLl]; exact Nat.le_refl _)] at hown
   obtain ⟨g,c,rfl⟩:=ownsRow_pos hown hP1
   go_wp2_with fail
   go_ret
   exact ⟨g,c,rfl,hfb.trans hf,ownsRow_mono hown hfb.size⟩
theorem Fits18_any (np:Int) (vals:Bool) (qa:Option Addr) (m qc:Nat) (w:World) :
 Calls Tryz.prog 22 #[.agg #[.int .u8 np,.slice qa m qc,.bool vals]] w fun e w'=>e=.returned (.bool (decide (m≤3)))∧Fr w w':=by
 have hfA:Fr w (w.alloc (.cells #[.int .u8 np,.slice qa m qc,.bool vals] 55)):=(Fr.refl w).alloc _
 replace hfA:=hZ hfA
 have hd:decide ((m:Int)≤3)=decide (m≤3):=by
  by_cases h:m≤3
  ·rw [decide_eq_true h,decide_eq_true (by omega)]
  ·rw [decide_eq_false h,decide_eq_false (by omega)]
 rw [← hd]
 clear hd
 go_enter Tryz.func22,Tryz.ntmps22
 go_wp2_with fail
 go_ret
 exact ⟨rfl,hfA.out⟩
theorem OfRet.any {w:World} {n:Nat} {g:List (List Int)} {e:Ending} {w':World} (h:OfRet w n g e w'):∃ (n':Int) (a':Option Addr) (k' c':Nat) (err:Int),e=.returned (.tuple #[.agg #[.int .i64 n',.slice a' k' c'],.int .i64 err])∧Fr w w'∧(allFit g=true→err=0∧n'=n∧k'=g.length∧k'≤c'∧∀ W,Fx (· < w.heap.size) w' W→MatIs W a' g)∧(allFit g=false→err=4):=by
 cases hb:allFit g with
 | true=>
   obtain ⟨a,c,he,hc,hm,hf⟩:=h.1 hb
   exact ⟨n,a,g.length,c,0,he,hf,fun _=>⟨rfl,rfl,rfl,hc,hm⟩,fun h=>(by cases h)⟩
 | false=>
   obtain ⟨he,hf⟩:=h.2 hb
   exact ⟨0,none,0,0,4,he,hf,fun h=>(by cases h),fun _=>rfl⟩
theorem three_store (wr:World) (r:Nat) (u v x u0 v0 x0:Value) (h0:wr.cell? ⟨r,0,none⟩=some u0) (h1:wr.cell? ⟨r,1,none⟩=some v0) (h2:wr.cell? ⟨r,2,none⟩=some x0) :
 (((wr.setCell ⟨r,0,none⟩ u).setCell ⟨r,1,none⟩ v).setCell ⟨r,2,none⟩ x).cell? ⟨r,0,none⟩=some u∧(((wr.setCell ⟨r,0,none⟩ u).setCell ⟨r,1,none⟩ v).setCell ⟨r,2,none⟩ x).cell? ⟨r,1,none⟩=some v∧(((wr.setCell ⟨r,0,none⟩ u).setCell ⟨r,1,none⟩ v).setCell ⟨r,2,none⟩ x).cell? ⟨r,2,none⟩=some x ∧
   (wr.setCell ⟨r,0,none⟩ u).cell? ⟨r,1,none⟩=some v0∧((wr.setCell ⟨r,0,none⟩ u).setCell ⟨r,1,none⟩ v).cell? ⟨r,2,none⟩=some x0∧Fx (·=r) wr (((wr.setCell ⟨r,0,none⟩ u).setCell ⟨r,1,none⟩ v).setCell ⟨r,2,none⟩ x):=by
 have ne:∀ (i j:Nat),i≠j→(⟨r,i,none⟩:Addr)≠⟨r,j,none⟩:=fun i j h e=>by injection e with _ e; exact h e
 have e1:(wr.setCell ⟨r,0,none⟩ u).cell? ⟨r,1,none⟩=some v0:=by rw [World.cell?_setCell_other _ _ _ _ (ne 0 1 (by decide))]; exact h1
 have e2:((wr.setCell ⟨r,0,none⟩ u).setCell ⟨r,1,none⟩ v).cell? ⟨r,2,none⟩=some x0:=by rw [World.cell?_setCell_other _ _ _ _ (ne 1 2 (by decide)),World.cell?_setCell_other _ _ _ _ (ne 0 2 (by decide))]; exact h2
 refine ⟨?_, ?_, ?_,e1,e2,Fx.setCell (p:=(·=r)) (q:=⟨r,2,none⟩) (Fx.setCell (p:=(·=r)) (q:=⟨r,1,none⟩) (Fx.setCell (p:=(·=r)) (q:=⟨r,0,none⟩) (Fx.refl _ _) (.inl rfl) u) (.inl rfl) v) (.inl rfl) x⟩
 ·rw [World.cell?_setCell_other _ _ _ _ (ne 2 0 (by decide)),World.cell?_setCell_other _ _ _ _ (ne 1 0 (by decide))]; exact World.cell?_setCell_same' _ _ _ (by rw [h0]; rfl)
 ·rw [World.cell?_setCell_other _ _ _ _ (ne 2 1 (by decide))]; exact World.cell?_setCell_same' _ _ _ (by rw [e1]; rfl)
 ·exact World.cell?_setCell_same' _ _ _ (by rw [e2]; rfl)
def BldRet (w:World) (P0:List Int) (a0:Option Addr) (e:Ending) (w':World):Prop:=∃ (P:List Int) (C M:List (List Int)) (aP aC aM:Option Addr) (cP cC cM:Nat) (err:Int),e=.returned (.tuple #[.agg #[.slice aP P.length cP,.slice aC C.length cC,.slice aM M.length cM],.int .i64 err])∧(P=[]∨P=P0∧aP=a0)∧(∀ W,Fx (· < w.heap.size) w' W→MatIs W aC C)∧(∀ W,Fx (· < w.heap.size) w' W→MatIs W aM M)∧C.length≤cC∧TgZ P C M∧Fr w w'
theorem Fx.newer {p q:Nat→Prop} {a b c:World} (h:Fx p a b) (k:Fx q b c) (hq:∀ j,j < a.heap.size→q j→p j):Fx p a c :=
 ⟨k.os.trans h.os,k.tape.trans h.tape,k.output.trans h.output,Nat.le_trans h.size k.size,fun j hj hp=>(k.block j (Nat.lt_of_lt_of_le hj h.size) (fun e=>hp (hq j hj e))).trans (h.block j hj hp)⟩
theorem Fx.low {p:Nat→Prop} {n:Nat} {w w':World} (h:Fx p w w') (hp:∀ k,p k→k < n):Fx (· < n) w w':=h.mono fun k hk=>hp k hk
theorem Build18_any (P:List Int) (m:List (List Int)) (vals:Bool) (aP am:Option Addr) (cP cm:Nat) (w:World) (hG:G w) (hE:ErX w) (hp:primeE P=0) (hP1:1≤P.length) (hP4:P.length≤4) (hP:El w iv aP P) (hm:MatIs w am m) (hr:Rect P.length m) (hm3:m.length≤3) (hb:∀ r,r ∈ m→∀ x,x ∈ r→x.natAbs≤9) (hz:m=[]→am=none∧cm=0) :
 Calls Tryz.prog 57 #[.slice aP P.length cP,.slice am m.length cm,.bool vals] w (BldRet w P aP):=by
 have a0:=KA_pos
 obtain ⟨oS,oR,oL,oF⟩:=ofB_ok (n:=P.length) (m:=m) (B:=9) hP4 (by omega) hr (by decide) (by omega) hb
 have hpc:∀ W,Fr w W→Calls Tryz.prog 38 #[.slice aP P.length cP] W fun e w'=>e=.returned (.int .i64 0)∧Fr W w':=fun W hW=>(PCheck_any P aP cP W (hP.fr hW) (by omega)).mono fun e w' ⟨h1,h2⟩=>⟨by rw [h1,hp],by rw [h2]; exact Fr.refl _⟩
 have htab:TabOk P.length m:=⟨by omega,by omega,hr,fun r hr x hx=>by
  have:=hb r hr x hx
  unfold fitB
  exact decide_eq_true (by omega)⟩
 have hof:∀ W,Fr w W→Calls Tryz.prog 109 #[.int .i64 (P.length:Nat),.slice am m.length cm] W (OfRet W P.length (ofB P.length m)):=fun W hW=>by
  by_cases h0:m=[]
  ·obtain ⟨rfl,rfl⟩:=hz h0
   subst h0
   rw [ofB_nil]
   exact (Of_nil P.length W hP1 (by omega)).mono fun e w' ⟨h1,h2⟩=>⟨fun _=>⟨none,0,h1,Nat.le_refl _,fun W _=>.inl rfl,h2⟩,fun h=>by cases h⟩
  ·obtain ⟨gF,tF,p,k1,k2,-⟩:=of_is (n:=P.length) (m:=m) (B:=9) (by omega) hr (by decide) (by omega) hb
   rw [k2] at oS ⊢
   have hm0:0 < m.length:=List.length_pos_iff.2 h0
   exact Of_x m gF FX tF am cm P.length W (hG.fr hW) (hm.fr hW) htab hm0 hP1 k1 oS (hE.fr hW)
 generalize hL9:ofB P.length m=L at *
 have hsub:allFit L=true→Tg P (ker P.length (ker P.length L)) (ker P.length L)→True:=fun _ _=>trivial
 have hlat:allFit L=true→∀ W la lc,Fr w W→MatIs W la L→L.length≤lc →
  Calls Tryz.prog 40 #[.agg #[.int .i64 (P.length:Nat),.slice la L.length lc]] W (OfRet W P.length (ker P.length (ker P.length L))) ∧
  Calls Tryz.prog 42 #[.agg #[.int .i64 (P.length:Nat),.slice la L.length lc]] W (OfRet W P.length (ker P.length L)):=fun hL W la lc hW hMt hlc=>by
  obtain ⟨j1,j2,j3,j4,j5,j6,j7,j8⟩:=ker_ok (n:=P.length) hP4 hL
  have hT:TabOk P.length L:=⟨by omega,by omega,oR,fit_mem hL⟩
  have hfine:LatFine W P.length la L.length lc:=fun W' hW'=>LCheck_form L la lc P.length W' (hMt.fr hW') hT hlc oF
  exact ⟨Satur_x L (ker P.length L) _ la lc P.length FX W (hG.fr hW) hMt hfine oR hP1 (by omega) (by omega) (fit_smL hT) j1 j2 j3 (by omega) (by omega) (rect_le j5 hP4) j8 (hE.fr hW),
   Annih_x L _ la lc P.length FX W (hG.fr hW) hMt hfine oR hP1 (by omega) (by omega) (fit_smL hT) j1 (by omega) (rect_le j3 hP4) j7 (hE.fr hW)⟩
 have htg:allFit L=true→allFit (ker P.length L)=true→allFit (ker P.length (ker P.length L))=true→Tg P (ker P.length (ker P.length L)) (ker P.length L)∧Tg P (ker P.length L) (ker P.length (ker P.length L)):=fun h1 h2 h3=>tg_made hP1 hP4 hp h1 oR h2 h3
 generalize ker P.length (ker P.length L)=S at *
 generalize ker P.length L=A at *
 obtain ⟨n,hn⟩:∃ n,n=P.length:=⟨_,rfl⟩
 obtain ⟨nm,hnm⟩:∃ nm,nm=m.length:=⟨_,rfl⟩
 rw [← hn] at hpc hof hlat ⊢
 rw [← hnm] at hof ⊢
 replace hn:=hZ hn
 replace hnm:=hZ hnm
 replace hP:=hZ hP
 replace hpc:=hZ hpc
 replace hof:=hZ hof
 replace hlat:=hZ hlat
 replace htg:=hZ htg
 clear hsub hm hr hb hz hp htab oS oR oL oF hG hE hL9 hm3
 obtain ⟨wb,hwb⟩:∃ wb,wb=alls w [(.cells #[.slice none 0 0,.slice none 0 0,.slice none 0 0] 31)]:=⟨_,rfl⟩
 have hfb:Fr w wb:=by rw [hwb]; exact alls_fr _ w
 have g0:wb.heap[w.heap.size]?=some (.cells #[.slice none 0 0,.slice none 0 0,.slice none 0 0] 31 (0,0)):=by rw [hwb]; exact alls_get _ w 0 _ rfl
 have t0:wb.cell? ⟨w.heap.size,0,none⟩=some (.slice none 0 0):=cells_of g0 0
 have t1:wb.cell? ⟨w.heap.size,1,none⟩=some (.slice none 0 0):=cells_of g0 1
 have t2:wb.cell? ⟨w.heap.size,2,none⟩=some (.slice none 0 0):=cells_of g0 2
 have f0:wb.frozen? ⟨w.heap.size,0,none⟩=false:=by unfold World.frozen?; rw [g0]; rfl
 have f1:wb.frozen? ⟨w.heap.size,1,none⟩=false:=by unfold World.frozen?; rw [g0]; rfl
 have f2:wb.frozen? ⟨w.heap.size,2,none⟩=false:=by unfold World.frozen?; rw [g0]; rfl
 have htbl:w.heap.size < wb.heap.size:=lt_of_heap g0
 clear g0
 go_enter Tryz.func57,Tryz.ntmps57
 go_upto_region 1 with (fail)
 change Code.wp _ _ _ _ (alls w [(.cells #[.slice none 0 0,.slice none 0 0,.slice none 0 0] 31)])
 rw [← hwb]
 clear hwb
 obtain ⟨tb,htb⟩:∃ tb,tb=w.heap.size:=⟨_,rfl⟩
 rw [← htb] at t0 t1 t2 f0 f1 f2 htbl ⊢
 replace htb:=hZ htb
 go_wp2_with fail
 refine (hpc.out _ hfb).mono ?_
 rintro e w1 ⟨rfl,hf1⟩
 go_wp2_with fail
 refine (hof.out _ (hfb.trans hf1)).mono ?_
 rintro e w2 hret
 obtain ⟨n1,la,k1,c1,e1,rfl,hf2,hok,hno⟩:=hret.any
 clear hret
 have hf12:=hf1.trans hf2
 replace f0:=hf12.keepf t0 f0
 replace f1:=hf12.keepf t1 f1
 replace f2:=hf12.keepf t2 f2
 replace t0:=hf12.keep t0
 replace t1:=hf12.keep t1
 replace t2:=hf12.keep t2
 have hfw:=hfb.trans hf12
 have htb2:tb < w2.heap.size:=Nat.lt_of_lt_of_le htbl hf12.size
 clear hf1 hf2 hf12 hfb htbl
 obtain ⟨w3,hw3⟩:∃ w3,w3=w2.alloc (.cells #[.int .i64 n1,.slice la k1 c1] 61):=⟨_,rfl⟩
 have hf3:Fr w2 w3:=by rw [hw3]; exact (Fr.refl _).alloc _
 have l0:w3.cell? ⟨w2.heap.size,0,none⟩=some (.int .i64 n1):=by rw [hw3]; exact (new2a _ _ _ _).1
 have l1:w3.cell? ⟨w2.heap.size,1,none⟩=some (.slice la k1 c1):=by rw [hw3]; exact (new2b _ _ _ _).1
 go_upto_region 5 with (fail)
 rw [← hw3]
 clear hw3
 obtain ⟨lb,hlb⟩:∃ lb,lb=w2.heap.size:=⟨_,rfl⟩
 rw [← hlb] at l0 l1 ⊢
 replace hlb:=hZ hlb
 replace f0:=hf3.keepf t0 f0
 replace f1:=hf3.keepf t1 f1
 replace f2:=hf3.keepf t2 f2
 replace t0:=hf3.keep t0
 replace t1:=hf3.keep t1
 replace t2:=hf3.keep t2
 replace hfw:=hfw.trans hf3
 have htb3:tb < w3.heap.size:=World.block_lt_of_cell? w3 _ t0
 cases hbL:allFit L with
 | false=>
   obtain rfl:=hno hbL
   clear hok hno
   have qs:=three_store w3 tb (.slice none 0 0) (.slice none 0 0) (.slice none 0 0) _ _ _ t0 t1 t2
   have q1:=qs.2.2.2.1
   have q2:=qs.2.2.2.2.1
   have u0:=hZ qs.1
   have u1:=hZ qs.2.1
   have u2:=hZ qs.2.2.1
   have hfx:=hZ qs.2.2.2.2.2
   clear qs
   go_wp2_with fail
   have y0:=u0.out
   have y1:=u1.out
   have y2:=u2.out
   refine bodyPost_ret (v:=.tuple #[.agg #[.slice none 0 0,.slice none 0 0,.slice none 0 0],.int .i64 4]) (by simp [results,Tryz.results57,go_sem,y0,y1,y2]) rfl ?_
   refine ⟨[],[],[],none,none,none,0,0,0,4,rfl,.inl rfl,fun _ _=>.inl rfl,fun _ _=>.inl rfl,Nat.le_refl _,.inl ⟨rfl,rfl,rfl⟩, ?_⟩
   exact ((Fx.of_fr (p:=fun q=>q=tb) hfw).trans hfx.out).toFr (fun q hq e=>by have e:q=tb:=e; have:=htb.out; omega)
 | true=>
   obtain ⟨rfl,rfl,rfl,hc1,hmt⟩:=hok hbL
   clear hok hno
   have hmt3:=hmt w3 (Fx.of_fr hf3)
   replace hlat:=hlat.out hbL
   replace htg:=htg.out hbL
   replace hmt:=hZ hmt
   have hlat3:=hZ (fun W (hW:Fr w3 W)=>hlat W la c1 (hfw.trans hW) (hmt3.fr hW) hc1)
   clear hlat
   generalize L.length=nL at *
   go_wp2_with fail
   refine (hlat3.out _ (Fr.refl _)).1.mono ?_
   rintro e w4 hret
   obtain ⟨n4,sa,k4,c4,e4,rfl,hf4,hok4,hno4⟩:=hret.any
   clear hret
   replace f0:=hf4.keepf t0 f0
   replace f1:=hf4.keepf t1 f1
   replace f2:=hf4.keepf t2 f2
   replace t0:=hf4.keep t0
   replace t1:=hf4.keep t1
   replace t2:=hf4.keep t2
   replace l0:=hf4.keep l0
   replace l1:=hf4.keep l1
   obtain ⟨w5,hw5⟩:∃ w5,w5=w4.alloc (.cells #[.int .i64 n4,.slice sa k4 c4] 61):=⟨_,rfl⟩
   have hf5:Fr w4 w5:=by rw [hw5]; exact (Fr.refl _).alloc _
   have s0:w5.cell? ⟨w4.heap.size,0,none⟩=some (.int .i64 n4):=by rw [hw5]; exact (new2a _ _ _ _).1
   have s1:w5.cell? ⟨w4.heap.size,1,none⟩=some (.slice sa k4 c4):=by rw [hw5]; exact (new2b _ _ _ _).1
   have s2:w5.frozen? ⟨w4.heap.size,0,none⟩=false:=by rw [hw5]; exact (new2a _ _ _ _).2
   have s3:w5.frozen? ⟨w4.heap.size,1,none⟩=false:=by rw [hw5]; exact (new2b _ _ _ _).2
   go_upto_region 8 with (fail)
   rw [← hw5]
   clear hw5
   obtain ⟨sb,hsb⟩:∃ sb,sb=w4.heap.size:=⟨_,rfl⟩
   rw [← hsb] at s0 s1 s2 s3 ⊢
   have hsl:sb < w5.heap.size:=World.block_lt_of_cell? w5 _ s0
   replace hsb:=hZ hsb
   replace f0:=hf5.keepf t0 f0
   replace f1:=hf5.keepf t1 f1
   replace f2:=hf5.keepf t2 f2
   replace t0:=hf5.keep t0
   replace t1:=hf5.keep t1
   replace t2:=hf5.keep t2
   replace l0:=hf5.keep l0
   replace l1:=hf5.keep l1
   have hf35:=hf4.trans hf5
   go_wp2_with fail
   refine (hlat3.out _ hf35).2.mono ?_
   rintro e w6 hret
   obtain ⟨n6,xa,k6,c6,e6,rfl,hf6,hok6,hno6⟩:=hret.any
   clear hret l0 l1
   replace f0:=hf6.keepf t0 f0
   replace f1:=hf6.keepf t1 f1
   replace f2:=hf6.keepf t2 f2
   replace t0:=hf6.keep t0
   replace t1:=hf6.keep t1
   replace t2:=hf6.keep t2
   replace s2:=hf6.keepf s0 s2
   replace s3:=hf6.keepf s1 s3
   replace s0:=hf6.keep s0
   replace s1:=hf6.keep s1
   obtain ⟨w7,hw7⟩:∃ w7,w7=w6.alloc (.cells #[.int .i64 n6,.slice xa k6 c6] 61):=⟨_,rfl⟩
   have hf7:Fr w6 w7:=by rw [hw7]; exact (Fr.refl _).alloc _
   have x0:w7.cell? ⟨w6.heap.size,0,none⟩=some (.int .i64 n6):=by rw [hw7]; exact (new2a _ _ _ _).1
   have x1:w7.cell? ⟨w6.heap.size,1,none⟩=some (.slice xa k6 c6):=by rw [hw7]; exact (new2b _ _ _ _).1
   have x2:w7.frozen? ⟨w6.heap.size,0,none⟩=false:=by rw [hw7]; exact (new2a _ _ _ _).2
   have x3:w7.frozen? ⟨w6.heap.size,1,none⟩=false:=by rw [hw7]; exact (new2b _ _ _ _).2
   go_upto_region 9 with (fail)
   rw [← hw7]
   clear hw7
   obtain ⟨xb,hxb⟩:∃ xb,xb=w6.heap.size:=⟨_,rfl⟩
   rw [← hxb] at x0 x1 x2 x3 ⊢
   replace hxb:=hZ hxb
   replace f0:=hf7.keepf t0 f0
   replace f1:=hf7.keepf t1 f1
   replace f2:=hf7.keepf t2 f2
   replace t0:=hf7.keep t0
   replace t1:=hf7.keep t1
   replace t2:=hf7.keep t2
   replace s2:=hf7.keepf s0 s2
   replace s3:=hf7.keepf s1 s3
   replace s0:=hf7.keep s0
   replace s1:=hf7.keep s1
   have hf37:=hf35.trans (hf6.trans hf7)
   have hfw7:=hfw.trans hf37
   have hsbl:tb < sb∧w3.heap.size≤sb:=⟨by have:=hf3.size; have:=hf4.size; have:=hsb.out; omega,by have:=hf4.size; have:=hsb.out; omega⟩
   have hxbl:sb < xb:=by have:=hf6.size; have:=hxb.out; omega
   cases hbS:allFit S with
   | false=>
     obtain rfl:=hno4 hbS
     clear hok4 hno4 hok6 hno6 hlat3 htg
     have qs:=three_store w7 tb (.slice none 0 0) (.slice none 0 0) (.slice none 0 0) _ _ _ t0 t1 t2
     have q1:=qs.2.2.2.1
     have q2:=qs.2.2.2.2.1
     have u0:=hZ qs.1
     have u1:=hZ qs.2.1
     have u2:=hZ qs.2.2.1
     have hfx:=hZ qs.2.2.2.2.2
     clear qs
     go_wp2_with fail
     have y0:=u0.out
     have y1:=u1.out
     have y2:=u2.out
     refine bodyPost_ret (v:=.tuple #[.agg #[.slice none 0 0,.slice none 0 0,.slice none 0 0],.int .i64 4]) (by simp [results,Tryz.results57,go_sem,y0,y1,y2]) rfl ?_
     refine ⟨[],[],[],none,none,none,0,0,0,4,rfl,.inl rfl,fun _ _=>.inl rfl,fun _ _=>.inl rfl,Nat.le_refl _,.inl ⟨rfl,rfl,rfl⟩, ?_⟩
     exact ((Fx.of_fr (p:=fun q=>q=tb) hfw7).trans hfx.out).toFr (fun q hq e=>by have e:q=tb:=e; have:=htb.out; omega)
   | true=>
     obtain ⟨rfl,rfl,rfl,hc4,hm4⟩:=hok4 hbS
     cases hbA:allFit A with
     | false=>
       obtain rfl:=hno6 hbA
       clear hok4 hno4 hok6 hno6 hlat3 htg
       have qs:=three_store w7 tb (.slice none 0 0) (.slice none 0 0) (.slice none 0 0) _ _ _ t0 t1 t2
       have q1:=qs.2.2.2.1
       have q2:=qs.2.2.2.2.1
       have u0:=hZ qs.1
       have u1:=hZ qs.2.1
       have u2:=hZ qs.2.2.1
       have hfx:=hZ qs.2.2.2.2.2
       clear qs
       go_wp2_with fail
       have y0:=u0.out
       have y1:=u1.out
       have y2:=u2.out
       refine bodyPost_ret (v:=.tuple #[.agg #[.slice none 0 0,.slice none 0 0,.slice none 0 0],.int .i64 4]) (by simp [results,Tryz.results57,go_sem,y0,y1,y2]) rfl ?_
       refine ⟨[],[],[],none,none,none,0,0,0,4,rfl,.inl rfl,fun _ _=>.inl rfl,fun _ _=>.inl rfl,Nat.le_refl _,.inl ⟨rfl,rfl,rfl⟩, ?_⟩
       exact ((Fx.of_fr (p:=fun q=>q=tb) hfw7).trans hfx.out).toFr (fun q hq e=>by have e:q=tb:=e; have:=htb.out; omega)
     | true=>
       obtain ⟨rfl,rfl,rfl,hc6,hm6⟩:=hok6 hbA
       have htg2:=hZ (htg hbA hbS)
       clear hok4 hno4 hok6 hno6 hlat3 htg
       have htb5:tb < w5.heap.size:=by omega
       replace hm4:=hZ hm4
       replace hm6:=hZ hm6
       have hf47:=hf5.trans (hf6.trans hf7)
       have hl3:∀ k,k < w.heap.size→k < w3.heap.size:=fun k hk=>Nat.lt_of_lt_of_le hk hfw.size
       have hl5:∀ k,k < w.heap.size→k < w5.heap.size:=fun k hk=>Nat.lt_of_lt_of_le hk (hfw.trans hf35).size
       replace hl3:=hZ hl3
       replace hl5:=hZ hl5
       cases vals with
       | false=>
         have qs:=three_store w7 tb (.slice aP n cP) (.slice sa S.length c4) (.slice xa A.length c6) _ _ _ t0 t1 t2
         have q1:=qs.2.2.2.1
         have q2:=qs.2.2.2.2.1
         have u0:=hZ qs.1
         have u1:=hZ qs.2.1
         have u2:=hZ qs.2.2.1
         have hfx:=hZ qs.2.2.2.2.2
         clear qs
         go_wp2_with fail
         have y0:=u0.out
         have y1:=u1.out
         have y2:=u2.out
         refine bodyPost_ret (v:=.tuple #[.agg #[.slice aP n cP,.slice sa S.length c4,.slice xa A.length c6],.int .i64 0]) (by simp [results,Tryz.results57,go_sem,y0,y1,y2]) rfl ?_
         have hfin:=((Fx.of_fr (p:=fun q=>q=tb) hfw7).trans hfx.out).toFr (fun q hq e=>by have e:q=tb:=e; have:=htb.out; omega)
         have hA4:=((Fx.of_fr hf47).trans hfx.out).low (n:=w3.heap.size) fun k e=>by have e:k=tb:=e; omega
         have hA6:=((Fx.of_fr hf7).trans hfx.out).low (n:=w5.heap.size) fun k e=>by have e:k=tb:=e; omega
         exact ⟨P,S,A,aP,sa,xa,cP,c4,c6,0,by rw [hn.out],.inr ⟨rfl,rfl⟩,fun W hW=>hm4.out _ (hA4.trans (hW.mono fun k e=>hl3.out k e)),fun W hW=>hm6.out _ (hA6.trans (hW.mono fun k e=>hl5.out k e)),hc4,.inr htg2.out.1,hfin⟩
       | true=>
         have a1:=two_store w7 sb (.int .i64 n) (.slice xa A.length c6) _ _ s0 s1
         have r1:=a1.2.2.1
         have k1:=two_keep w7 xb sb _ _ (.int .i64 n) (.slice xa A.length c6) ⟨x0,x1⟩ (by omega)
         have r2:=k1.1
         have r3:=k1.2
         obtain ⟨W1,hW1⟩:∃ W1,W1=(w7.setCell ⟨sb,0,none⟩ (.int .i64 n)).setCell ⟨sb,1,none⟩ (.slice xa A.length c6):=⟨_,rfl⟩
         have a2:=two_store W1 xb (.int .i64 n) (.slice sa S.length c4) _ _ (by rw [hW1]; exact r2) (by rw [hW1]; exact r3)
         have r4:=a2.2.2.1
         have k2:=two_keep W1 sb xb _ _ (.int .i64 n) (.slice sa S.length c4) ⟨by rw [hW1]; exact a1.1,by rw [hW1]; exact a1.2.1⟩ (by omega)
         have z1:=k2.2
         have z2:=a2.2.1
         have hfx8:=(a1.2.2.2.mono (q:=fun q=>q=sb∨q=xb) fun k e=>.inl e)
         rw [← hW1] at hfx8
         replace hfx8:=hfx8.trans (a2.2.2.2.mono (q:=fun q=>q=sb∨q=xb) fun k e=>.inr e)
         rw [hW1] at r4
         obtain ⟨W8,hW8⟩:∃ W8,W8=(W1.setCell ⟨xb,0,none⟩ (.int .i64 n)).setCell ⟨xb,1,none⟩ (.slice sa S.length c4):=⟨_,rfl⟩
         rw [← hW8] at hfx8 z1 z2
         have hnt:¬ (tb=sb∨tb=xb):=by omega
         have j0:=hfx8.keep t0 hnt
         have j1:=hfx8.keep t1 hnt
         have j2:=hfx8.keep t2 hnt
         have j3:=hfx8.keepf t0 f0 hnt
         have j4:=hfx8.keepf t1 f1 hnt
         have j5:=hfx8.keepf t2 f2 hnt
         clear a1 a2 k1 k2
         rw [hW1] at hW8
         clear hW1
         replace hfx8:=hZ hfx8
         replace hnt:=hZ hnt
         replace z1:=hZ z1
         replace z2:=hZ z2
         replace j0:=hZ j0
         replace j1:=hZ j1
         replace j2:=hZ j2
         replace j3:=hZ j3
         replace j4:=hZ j4
         replace j5:=hZ j5
         go_upto_region 13 with (fail)
         rw [← hW8]
         clear hW8 r1 r2 r3 r4 t0 t1 t2 f0 f1 f2 s0 s1 x0 x1
         replace t0:=j0.out
         replace t1:=j1.out
         replace t2:=j2.out
         replace f0:=j3.out
         replace f1:=j4.out
         replace f2:=j5.out
         replace z1:=z1.out
         replace z2:=z2.out
         have qs:=three_store W8 tb (.slice aP n cP) (.slice xa A.length c6) (.slice sa S.length c4) _ _ _ t0 t1 t2
         have q1:=qs.2.2.2.1
         have q2:=qs.2.2.2.2.1
         have u0:=hZ qs.1
         have u1:=hZ qs.2.1
         have u2:=hZ qs.2.2.1
         have hfx:=hZ qs.2.2.2.2.2
         clear qs
         go_wp2_with fail
         have y0:=u0.out
         have y1:=u1.out
         have y2:=u2.out
         refine bodyPost_ret (v:=.tuple #[.agg #[.slice aP n cP,.slice xa A.length c6,.slice sa S.length c4],.int .i64 0]) (by simp [results,Tryz.results57,go_sem,y0,y1,y2]) rfl ?_
         have hfx9:=(hfx8.out.mono (q:=fun q=>q=tb∨q=sb∨q=xb) fun k e=>.inr e).trans (hfx.out.mono (q:=fun q=>q=tb∨q=sb∨q=xb) fun k e=>.inl e)
         have hsw:w.heap.size≤tb:=by rw [htb.out]; exact Nat.le_refl _
         have hfin:=((Fx.of_fr (p:=fun q=>q=tb∨q=sb∨q=xb) hfw7).trans hfx9).toFr (fun q hq e=>by rcases e with e | e | e <;> omega)
         have hA6:=(Fx.of_fr (p:=(· < w5.heap.size)) hf7).newer hfx9 fun j hj e=>by have:=hxb.out; show j < w5.heap.size; rcases e with e | e | e <;> omega
         have hA4:=(Fx.of_fr (p:=(· < w3.heap.size)) hf47).newer hfx9 fun j hj e=>by have:=hsb.out; show j < w3.heap.size; rcases e with e | e | e <;> omega
         exact ⟨P,A,S,aP,xa,sa,cP,c6,c4,0,by rw [hn.out],.inr ⟨rfl,rfl⟩,fun W hW=>hm6.out _ (hA6.trans (hW.mono fun k e=>hl5.out k e)),fun W hW=>hm4.out _ (hA4.trans (hW.mono fun k e=>hl3.out k e)),hc6,.inr htg2.out.2,hfin⟩
end Go.Proofs.YtmalpgbbddkdcaaGreatDoor
