/- Contracts and laws: VSH. -/
import Derived.Test.YtmalpgbbddkdcaaGreatDoorVB
import Derived.Lib.SliceRun
import Derived.Test.YtmalpgbbddkdcaaGreatDoorVSG
import Derived.Deep.RegionHeld3
import Derived.Deep.DrawnRows
import Derived.Test.YtmalpgbbddkdcaaGreatDoorVF
import Derived.Test.YtmalpgbbddkdcaaGreatDoorVRA

set_option maxRecDepth 100000
set_option maxHeartbeats 4000000
namespace Go.Proofs.YtmalpgbbddkdcaaGreatDoor
open Go.RowKit Go.Lib
theorem flat2_set:∀ (l:List (Value×Value)) (i:Nat) (y:Value×Value),flat2 (l.set i y)=((flat2 l).set (i * 2) y.1).set (i * 2+1) y.2
 | [],i,y=>by simp [flat2]
 | x :: l,0,y=>by simp [flat2]
 | x :: l,i+1,y=>by
   have e:(i+1) * 2=i * 2+1+1:=by omega
   rw [e,List.set_cons_succ,flat2,flat2,flat2_set l i y]
   simp
theorem Cnt.prs {W:World} {g:Nat} {l:List (Value×Value)} (h:Cnt W g (flat2 l)):Prs W (some ⟨g,0,none⟩) l:=by
 refine .inr ⟨g,0,rfl,h.1,fun i x hx=>?_⟩
 have:=flat2_get l i x hx
 rw [Nat.zero_add]
 exact ⟨(h.2 _ _ this.1).1,(h.2 _ _ this.2).1⟩
theorem run_clear_cells {P:Program} (w:World) (t e ty:TypeId) (z:Value) (ht:P.underlying t=some (.slice e)) (hv:∀ u,(zeroValue e).run P u=.ok z u) (b o n c:Nat) (hn:0 < n)
 (h1:∀ v,v ∈ (Builtin.zeroCells z.cells n).toList→v.oneCell'=true)
 (hc:∀ j,j < (Builtin.zeroCells z.cells n).toList.length→(w.cell? ⟨b,o+j,none⟩).isSome=true) (hf:∀ j,j < (Builtin.zeroCells z.cells n).toList.length→w.frozen? ⟨b,o+j,none⟩=false) :
 (Builtin.clear_ #[t] ty #[.slice (some ⟨b,o,none⟩) n c]).run P w=.ok (.tuple #[]) (w.setCells b o (Builtin.zeroCells z.cells n).toList):=by
 have hst:=run_storeCells_cells (P:=P) b o (Builtin.zeroCells z.cells n).toList 0 w (by simpa using hc) (by simpa using hf) h1
 simp only [Nat.add_zero] at hst
 obtain ⟨m,rfl⟩:∃ m,n=m+1:=⟨n - 1,by omega⟩
 simp [Builtin.clear_,run_underlying ht,hv,hst]
theorem fx_setCells {p:Nat→Prop} {b:Nat} (hb:p b):∀ (vs:List Value) (o:Nat) (a w:World),Fx p a w→Fx p a (w.setCells b o vs)
 | [],_,_,_,h=>h
 | v :: r,o,a,_,h=>fx_setCells hb r (o+1) a _ (h.setCell (q:=⟨b,o,none⟩) (.inl hb) v)
def keepL {α:Type} (p:α→Bool) (l:List α):List α:=l.filter fun x=>!p x
theorem keepL_snoc {α:Type} {p:α→Bool} {l:List α} {j:Nat} {x:α} (h:l[j]?=some x):keepL p (l.take (j+1))=if p x then keepL p (l.take j) else keepL p (l.take j) ++ [x]:=by
 unfold keepL
 rw [List.take_add_one,h,List.filter_append]
 cases hp:p x <;> simp [hp]
structure DelI {α:Type} (enc:α→Value×Value) (p:α→Bool) (xs:List α) (W:World) (g i j:Nat) (L:List (Value×Value)) (wr:World):Prop where
 cnt:Cnt wr g (flat2 L)
 len:L.length=xs.length
 lt:i < j
 le:j≤xs.length
 num:(keepL p (xs.take j)).length=i
 low:L.take i=(keepL p (xs.take j)).map enc
 high:L.drop j=(xs.drop j).map enc
 fx:Fx (·=g) W wr
theorem DelI.at {α:Type} {enc:α→Value×Value} {p:α→Bool} {xs:List α} {W:World} {g i j:Nat} {L:List (Value×Value)} {wr:World} (h:DelI enc p xs W g i j L wr) {x:α} (hx:xs[j]?=some x) :
 wr.cell? ⟨g,j * 2,none⟩=some (enc x).1∧wr.cell? ⟨g,j * 2+1,none⟩=some (enc x).2:=by
 have h1:(L.drop j)[0]?=some (enc x):=by rw [h.high,List.getElem?_map,List.getElem?_drop,Nat.add_zero,hx]; rfl
 rw [List.getElem?_drop,Nat.add_zero] at h1
 obtain ⟨a,b⟩:=flat2_get L j _ h1
 exact ⟨(h.cnt.2 _ _ a).1,(h.cnt.2 _ _ b).1⟩
theorem DelI.there {α:Type} {enc:α→Value×Value} {p:α→Bool} {xs:List α} {W:World} {g i j:Nat} {L:List (Value×Value)} {wr:World} (h:DelI enc p xs W g i j L wr) {k:Nat} (hk:k < xs.length) :
 ∃ u v,wr.cell? ⟨g,k * 2,none⟩=some u∧wr.cell? ⟨g,k * 2+1,none⟩=some v∧wr.frozen? ⟨g,k * 2,none⟩=false∧wr.frozen? ⟨g,k * 2+1,none⟩=false:=by
 have hk2:k < L.length:=by rw [h.len]; exact hk
 obtain ⟨a,b⟩:=flat2_get L k _ (List.getElem?_eq_getElem hk2)
 exact ⟨_,_,(h.cnt.2 _ _ a).1,(h.cnt.2 _ _ b).1,(h.cnt.2 _ _ a).2,(h.cnt.2 _ _ b).2⟩
theorem DelI.skip {α:Type} {enc:α→Value×Value} {p:α→Bool} {xs:List α} {W:World} {g i j:Nat} {L:List (Value×Value)} {wr w2:World} (h:DelI enc p xs W g i j L wr) {x:α} (hx:xs[j]?=some x) (hp:p x=true) (hf:Fr wr w2):DelI enc p xs W g i (j+1) L w2:=by
 have hj:j < xs.length:=(List.getElem?_eq_some_iff.1 hx).1
 have e:=keepL_snoc (p:=p) hx
 rw [if_pos hp] at e
 refine ⟨h.cnt.fx (p:=fun _=>False) (Fx.of_fr hf) (fun e=>e),h.len,by have:=h.lt; omega,hj,by rw [e]; exact h.num,by rw [e]; exact h.low, ?_,h.fx.fr hf⟩
 have:=congrArg (List.drop 1) h.high
 rw [List.drop_drop,← List.map_drop,List.drop_drop] at this
 exact this
theorem DelI.put {α:Type} {enc:α→Value×Value} {p:α→Bool} {xs:List α} {W:World} {g i j:Nat} {L:List (Value×Value)} {wr w2:World} (h:DelI enc p xs W g i j L wr) {x:α} (hx:xs[j]?=some x) (hp:p x=false) (hf:Fr wr w2) :
 DelI enc p xs W g (i+1) (j+1) (L.set i (enc x)) ((w2.setCell ⟨g,i * 2,none⟩ (enc x).1).setCell ⟨g,i * 2+1,none⟩ (enc x).2):=by
 have hj:j < xs.length:=(List.getElem?_eq_some_iff.1 hx).1
 have e:=keepL_snoc (p:=p) hx
 rw [if_neg (by simp [hp])] at e
 have hi:=h.lt
 have hiL:i < L.length:=by rw [h.len]; omega
 have hc:=h.cnt.fx (p:=fun _=>False) (Fx.of_fr hf) (fun e=>e)
 have hfl:=flat2_length L
 have hc2:=(hc.set (i * 2) (by omega) (enc x).1).set (i * 2+1) (by rw [List.length_set]; omega) (enc x).2
 rw [← flat2_set] at hc2
 refine ⟨hc2,by rw [List.length_set]; exact h.len,by omega,hj,by rw [e,List.length_append,h.num]; rfl, ?_, ?_,((h.fx.fr hf).setCell (q:=⟨g,i * 2,none⟩) (.inl rfl) _).setCell (q:=⟨g,i * 2+1,none⟩) (.inl rfl) _⟩
 ·rw [e,List.map_append,take_set_succ hiL,h.low]; rfl
 ·rw [List.drop_set_of_lt (by omega)]
  have:=congrArg (List.drop 1) h.high
  rw [List.drop_drop,← List.map_drop,List.drop_drop] at this
  exact this
theorem DeleteFunc_spl {α:Type} (enc:α→Value×Value) (xs:List α) (g cap:Nat) (gF:Nat) (lb:Array Value) (p:α→Bool) (W:World)
 (eg:∀ args w,(callFunc gF args).run Tryz.prog w=.ok (.enter gF args) w) (hx:Cnt W g (flat2 (xs.map enc))) (hl:xs.length≤1000000000) (hcap:xs.length≤cap) (hone:∀ x,∃ (i:Int) (a:Option Addr) (n c:Nat),enc x=(.int .i64 i,.slice a n c))
 (hp:∀ x,x ∈ xs→∀ W',Fx (·=g) W W'→Calls Tryz.prog gF (#[.agg #[(enc x).1,(enc x).2]] ++ lb) W' fun e w'=>e=.returned (.bool (p x))∧Fr W' w') :
 Calls Tryz.prog 123 #[.slice (some ⟨g,0,none⟩) xs.length cap,.func (.func gF) #[] lb] W fun e W'=>e=.returned (.slice (some ⟨g,0,none⟩) (keepL p xs).length cap)∧Prs W' (some ⟨g,0,none⟩) ((keepL p xs).map enc)∧Fx (·=g) W W':=by
 have hIF:=IndexFunc_spl enc xs (some ⟨g,0,none⟩) cap gF lb p W eg hx.prs hl (fun x W' hm hW'=>hp x hm W' (Fx.of_fr hW'))
 have hidx:=idx_cases p xs
 obtain ⟨n,hn⟩:∃ n,n=xs.length:=⟨_,rfl⟩
 rw [← hn] at hIF hl hcap ⊢
 rcases hidx with ⟨h1,h2⟩ | ⟨k,x,h1,h2,h3,h4⟩
 ·rw [h1] at hIF
  have hk:keepL p xs=xs:=by unfold keepL; exact List.filter_eq_self.2 (fun x hx=>by rw [h2 x hx]; rfl)
  have hres:=hZ (show ∀ W',Fr W W'→Prs W' (some ⟨g,0,none⟩) ((keepL p xs).map enc)∧Fx (·=g) W W' from fun W' hW'=>⟨by rw [hk]; exact hx.prs.fr hW',Fx.of_fr hW'⟩)
  have hkl:=hZ (show (keepL p xs).length=n by rw [hk,hn])
  clear hp hk h1 h2 hx eg hn
  go_enter Tryz.func123,Tryz.ntmps123
  go_wp2_with fail
  refine hIF.mono ?_
  rintro e w1 ⟨rfl,hf1⟩
  go_wp2_with fail
  go_ret
  exact ⟨by rw [hkl.out]; rfl,hres.out _ hf1⟩
 ·rw [h1] at hIF
  have hkx:k < xs.length:=(List.getElem?_eq_some_iff.1 h2).1
  have hkk:keepL p (xs.take k)=xs.take k:=by
   unfold keepL
   refine List.filter_eq_self.2 (fun y hy=>?_)
   obtain ⟨j,hj⟩:=List.getElem?_of_mem hy
   rw [List.getElem?_take] at hj
   split at hj
   ·rename_i hjk; rw [h4 j y hjk hj]; rfl
   ·simp at hj
  have hst:∀ W',Fr W W'→DelI enc p xs W g k (k+1) (xs.map enc) W':=fun W' hW'=>by
   have e:=keepL_snoc (p:=p) h2
   rw [if_pos h3,hkk] at e
   exact ⟨hx.fx (p:=fun _=>False) (Fx.of_fr hW') (fun e=>e),by rw [List.length_map],by omega,hkx,by rw [e,List.length_take]; omega,by rw [e,List.map_take],by rw [List.map_drop],Fx.of_fr hW'⟩
  have hne:((k:Int) == -1)=false:=beq_false_of_ne (by omega)
  have hzc:∀ m,(Builtin.zeroCells (Value.agg #[.int .i64 0,.slice none 0 0]).cells m).toList.length=m * 2:=fun m=>by rw [Array.length_toList,size_zeroCells]; rfl
  have hz1:∀ m v,v ∈ (Builtin.zeroCells (Value.agg #[.int .i64 0,.slice none 0 0]).cells m).toList→v.oneCell'=true:=fun m v hv=>by
   have hv:=Array.mem_toList_iff.1 hv
   unfold Builtin.zeroCells at hv
   obtain ⟨q,-,rfl⟩:=Array.mem_map.1 hv
   show (#[(Value.int .i64 0),.slice none 0 0][q % 2]!).oneCell'=true
   rcases Nat.mod_two_eq_zero_or_one q with h | h <;> rw [h] <;> rfl
  have hkn:k < n:=by rw [hn]; exact hkx
  replace hp:=hZ hp
  replace hn:=hZ hn
  replace hst:=hZ hst
  replace hIF:=hZ hIF
  replace hzc:=hZ hzc
  replace hz1:=hZ hz1
  replace hone:=hZ hone
  clear h1 h2 h3 h4 hx hkk hkx
  go_enter Tryz.func123,Tryz.ntmps123
  go_wp2_with fail
  refine hIF.out.mono ?_
  rintro e w1 ⟨rfl,hf1⟩
  have hst1:=hst.out w1 hf1
  clear hst hIF hf1
  replace hst1:=hZ hst1
  go_wp2_with fail
  go_loopg [5,6] n (fun gg s5 s6 wr=>∃ (i j:Nat) (L:List (Value×Value)),s5=.int .i64 i∧s6=.int .i64 j∧j+gg≤n+n∧n≤j+gg∧Hid (DelI enc p xs W g i j L wr))
  case atStart=>exact ⟨k,k+1,_,rfl,by go_num,by omega,by omega,hst1⟩
  case round=>
   clear hst1
   obtain ⟨i,j,L,rfl,rfl,hg1,hg2,hI⟩:=hrel
   have hij:=hI.out.lt
   have hjn:=hI.out.le
   rw [← hn.out] at hjn
   by_cases hj:j < n
   ·have hdJ:decide (j < n)=true:=decide_eq_true hj
    obtain ⟨x,hxj⟩:∃ x,xs[j]?=some x:=⟨_,List.getElem?_eq_getElem (by rw [← hn.out]; exact hj)⟩
    obtain ⟨c1,c2⟩:=hI.out.at hxj
    obtain ⟨u,v,i1,i2,i3,i4⟩:=hI.out.there (k:=i) (by rw [← hn.out]; omega)
    have hpx:=hp.out x (List.mem_of_getElem? hxj)
    have hskip:=fun w2 hp=>hI.out.skip (w2:=w2) hxj hp
    have hput:=fun w2 hp=>hI.out.put (w2:=w2) hxj hp
    have hfx:=hI.out.fx
    have hgl:=hI.out.cnt.1
    clear hxj hI
    obtain ⟨zi,za,zn,zc,hz⟩:=hone.out x
    generalize p x=px at *
    rw [hz] at c1 c2 hput
    simp only at c1 c2 hput
    have hbA:Fr wr (wr.alloc (.cells #[.int .i64 zi,.slice za zn zc] 76)):=(Fr.refl wr).alloc _
    have hcall:=hpx (wr.alloc (.cells #[.int .i64 zi,.slice za zn zc] 76)) (hfx.fr hbA)
    rw [hz] at hcall
    simp only at hcall
    have k1:=hbA.keep c1
    have k2:=hbA.keep c2
    have n1:=new2a wr (.int .i64 zi) (.slice za zn zc) 76
    have n2:=new2b wr (.int .i64 zi) (.slice za zn zc) 76
    clear hz hpx
    have y1:(j:Int) < (n:Int):=by omega
    have y0:(0:Int)≤(j:Int):=by omega
    have y2:(i:Int) < (n:Int):=by omega
    have y3:(0:Int)≤(i:Int):=by omega
    replace hcall:=hZ hcall
    replace hskip:=hZ hskip
    replace hput:=hZ hput
    replace hbA:=hZ hbA
    replace n1:=hZ n1.1
    replace n2:=hZ n2.1
    replace k1:=hZ k1
    replace k2:=hZ k2
    go_wp2_with fail
    refine hcall.out.mono ?_
    rintro e w2 ⟨rfl,hf2⟩
    have hfw:=hbA.out.trans hf2
    have m1:=hf2.keep n1.out
    have m2:=hf2.keep n2.out
    have j1:=hfw.keep i1
    have j2:=hfw.keep i2
    have j3:=hfw.keepf i1 i3
    have j4:=hfw.keepf i2 i4
    cases px with
    | true=>
      have hI2:=hZ (hskip.out w2 rfl hfw)
      clear hskip hput
      go_wp2_with fail
      go_roundg (gk - 1)
      case measure=>omega
      case rel=>exact ⟨i,j+1,L,rfl,by go_num,by omega,by omega,hI2⟩
    | false=>
      have hI2:=hZ (hput.out w2 rfl hfw)
      clear hskip hput
      have e1:(⟨g,i * 2,none⟩:Addr)≠⟨g,i * 2+1,none⟩:=fun e=>by injection e with _ e; omega
      have s2:(w2.setCell ⟨g,i * 2,none⟩ (.int .i64 zi)).cell? ⟨g,i * 2+1,none⟩=some v:=by rw [World.cell?_setCell_other _ _ _ _ e1]; exact j2
      have s3:(w2.setCell ⟨g,i * 2,none⟩ (.int .i64 zi)).frozen? ⟨g,i * 2+1,none⟩=false:=by rw [World.frozen?_setCell]; exact j4
      clear c1 c2 i1 i2 i3 i4
      go_wp2_with fail
      go_roundg (gk - 1)
      case measure=>omega
      case rel=>exact ⟨i+1,j+1,_,by go_num,by go_num,by omega,by omega,hI2⟩
   ·obtain rfl:j=n:=by omega
    have hdJ:decide (j < j)=false:=decide_eq_false (by omega)
    have hI2:=hI.out
    clear hI
    have hxx:xs.take j=xs:=List.take_of_length_le (by rw [← hn.out]; exact Nat.le_refl _)
    have hnum:=hI2.num
    have hlow:=hI2.low
    rw [hxx] at hnum hlow
    have hmn:0 < j - i:=by omega
    have hLl:=hI2.len
    rw [← hn.out] at hLl
    have hcc:∀ q,q < (Builtin.zeroCells (Value.agg #[.int .i64 0,.slice none 0 0]).cells (j - i)).toList.length→(wr.cell? ⟨g,i * 2+q,none⟩).isSome=true∧wr.frozen? ⟨g,i * 2+q,none⟩=false:=fun q hq=>by
     rw [hzc.out] at hq
     have hfl:=flat2_length L
     have h5:=hI2.cnt.2 (i * 2+q) _ (List.getElem?_eq_getElem (by rw [hfl,hLl]; omega))
     exact ⟨by rw [h5.1]; rfl,h5.2⟩
    have hclr:=fun ty=>run_clear_cells (P:=Tryz.prog) wr 83 76 ty _ Tryz.underlying83 Tryz.zeroValue76 g (i * 2) (j - i) (cap - i) hmn (hz1.out (j - i)) (fun q hq=>(hcc q hq).1) (fun q hq=>(hcc q hq).2)
    generalize hwz:wr.setCells g (i * 2) (Builtin.zeroCells (Value.agg #[.int .i64 0,.slice none 0 0]).cells (j - i)).toList=wz at hclr
    have hFz:Fx (·=g) W wz:=by rw [← hwz]; exact fx_setCells (p:=(·=g)) (b:=g) rfl _ _ _ _ hI2.fx
    have hFg:g < wz.heap.size:=by
     have h6:Fx (·=g) wr wz:=by rw [← hwz]; exact fx_setCells (p:=(·=g)) (b:=g) rfl _ _ _ _ (Fx.refl _ _)
     exact Nat.lt_of_lt_of_le hI2.cnt.1 h6.size
    have hres:=hZ (show Prs wz (some ⟨g,0,none⟩) ((keepL p xs).map enc) from by
     rw [← hlow]
     refine .inr ⟨g,0,rfl,hFg,fun q y hy=>?_⟩
     rw [List.getElem?_take] at hy
     split at hy
     ·rename_i hqi
      obtain ⟨a,b⟩:=flat2_get L q y hy
      rw [Nat.zero_add]
      have o1:=World.cell?_setCells_out g (Builtin.zeroCells (Value.agg #[.int .i64 0,.slice none 0 0]).cells (j - i)).toList (i * 2) wr ⟨g,q * 2,none⟩ (fun _ _=>.inl (show q * 2 < i * 2 by omega))
      have o2:=World.cell?_setCells_out g (Builtin.zeroCells (Value.agg #[.int .i64 0,.slice none 0 0]).cells (j - i)).toList (i * 2) wr ⟨g,q * 2+1,none⟩ (fun _ _=>.inl (show q * 2+1 < i * 2 by omega))
      rw [hwz] at o1 o2
      rw [o1,o2]
      exact ⟨(hI2.cnt.2 _ _ a).1,(hI2.cnt.2 _ _ b).1⟩
     ·simp at hy)
    clear hwz hcc hI2 hxx hlow hLl
    replace hnum:=hZ hnum
    have y2:(i:Int) < (j:Int):=by omega
    have y3:(0:Int)≤(i:Int):=by omega
    have y4:(i:Int) < (cap:Int):=by omega
    have y5:(j:Int)≤(cap:Int):=by omega
    go_wp2_with fail
    go_ret
    exact ⟨by rw [hnum.out]; rfl,hres.out,hFz⟩
attribute [local go_sem ↓] Go.wp_at_zero Go.wp_at_succ
theorem El.fxlt {α:Type} {w0 W W':World} {enc:α→Value} {a:Option Addr} {xs:List α} {g:Nat} (h:El w0 enc a xs) (hf:Fr w0 W) (k:Fx (·=g) W W') (hg:w0.heap.size≤g):El W' enc a xs:=by
 rcases h with h | ⟨b,o,ha,hb,hc⟩
 ·exact .inl h
 ·have hb2:=Nat.lt_of_lt_of_le hb hf.size
  exact .inr ⟨b,o,ha,Nat.lt_of_lt_of_le hb2 k.size,fun i x hx=>k.keep (hf.keep (hc i x hx)) (fun e=>by have e:b=g:=e; omega)⟩
def eqS (s:Int×List Int) (x:BX):Bool:=decide (ordS s (stI (stripX x))=0)
theorem Enh1_any (s:Int×List Int) (ca:Option Addr) (cc p:Nat) (x:BX) (W:World) (hc1:W.cell? ⟨p,0,none⟩=some (.int .i64 s.1)) (hc2:W.cell? ⟨p,1,none⟩=some (.slice ca s.2.length cc)) (hs:El W iv ca s.2) (hx:El W iv (some ⟨x.g,0,none⟩) x.cs)
 (hl:s.2.length≤64) (hl2:x.cs.length≤64) (hb:∀ c,c ∈ s.2→fitB c=true) (hb2:∀ c,c ∈ x.cs→fitB c=true) :
 Calls Tryz.prog 125 #[.agg #[.int .i64 x.i,.slice (some ⟨x.g,0,none⟩) x.cs.length x.c],.pointer (some ⟨p,0,none⟩)] W fun e W'=>e=.returned (.bool (eqS s x))∧Fr W W':=by
 have hord:=fun W' (hW':Fr W W')=>order_any s (stI (stripX x)) ca (some ⟨x.g,0,none⟩) cc x.c W' (hs.fr hW') (hx.fr hW') hl hl2 hb hb2
 have hq:eqS s x=decide (ordS s (stI (stripX x))=0):=rfl
 generalize ordS s (stI (stripX x))=r at *
 have hA:Fr W (W.alloc (.cells #[.int .i64 x.i,.slice (some ⟨x.g,0,none⟩) x.cs.length x.c] 76)):=(Fr.refl W).alloc _
 have k1:=hA.keep hc1
 have k2:=hA.keep hc2
 have n1:=new2a W (.int .i64 x.i) (.slice (some ⟨x.g,0,none⟩) x.cs.length x.c) 76
 have n2:=new2b W (.int .i64 x.i) (.slice (some ⟨x.g,0,none⟩) x.cs.length x.c) 76
 have hq2:((r:Int) == 0)=eqS s x:=by rw [hq]; by_cases h:r=0 <;> simp [h]
 have hcall:=hord _ hA
 rw [hq]
 change Calls Tryz.prog 126 #[.agg #[.int .i64 s.1,.slice ca s.2.length cc],.agg #[.int .i64 x.i,.slice (some ⟨x.g,0,none⟩) x.cs.length x.c]] _ _ at hcall
 generalize x.cs.length=xl at *
 generalize s.2.length=sl at *
 clear hord hs hx hb hb2 hq hc1 hc2
 replace hq2:=hZ hq2
 replace hcall:=hZ hcall
 replace hA:=hZ hA
 go_enter Tryz.func125,Tryz.ntmps125
 go_wp2_with fail
 refine hcall.out.mono ?_
 rintro e w2 ⟨rfl,hf2⟩
 go_wp2_with fail
 go_ret
 refine ⟨?_,hA.out.trans hf2.fr⟩
 show Ending.returned (.bool (r == 0))=_
 by_cases h:r=0 <;> simp [h]
def SpRetE (w:World) (L:List (Nat×List Int)) (err:Int) (e:Ending) (w':World):Prop :=
 (err=0→∃ a c,∃ xs:List BX,e=.returned (.tuple #[.slice a xs.length c,.int .i64 0])∧Prs w' a (xs.map BX.enc2)∧(∀ x,x ∈ xs→El w' iv (some ⟨x.g,0,none⟩) x.cs)∧xs.map stripX=L)∧(err≠0→e=.returned (.tuple #[.slice none 0 0,.int .i64 err]))∧Fr w w'
def enhE (N A:List Sy) (i:Int) (cs:List Int) (most:Int):Int:=if spE N A i cs≠0 then spE N A i cs else boundE N.length A.length most
def enhL (N A:List Sy) (s:Nat×List Int) (m:Nat):List (Nat×List Int):=(allL N A (sumS N A s) m).filter fun t=>!decide (ordS (stI s) (stI t)=0)
theorem keep_map (s:Int×List Int) (K:List BX):(keepL (eqS s) K).map stripX=(K.map stripX).filter fun t=>!decide (ordS s (stI t)=0):=by
 unfold keepL; rw [List.filter_map]; rfl
theorem OwnSp.cnt {w:World} {base g c:Nat} {xs:List BX} (h:OwnSp w base (some ⟨g,0,none⟩) c xs):Cnt w g (flat2 (xs.map BX.enc2))∧xs.length≤c∧base≤g:=by
 obtain ⟨-,h1,h2,h3,h4⟩:=ownsRow_some h.own
 exact ⟨⟨h2,h4⟩,h3,h1⟩
theorem OwnSp.addr {w:World} {base:Nat} {a:Option Addr} {c:Nat} {xs:List BX} (h:OwnSp w base a c xs):(a=none∧c=0∧xs=[])∨∃ g,a=some ⟨g,0,none⟩:=by
 rcases h.own.2 with ⟨h1,h2⟩ | ⟨g,cap,cur,hv,_⟩
 ·injection h1 with h1 h3 h4
  exact .inl ⟨h1,h4,List.eq_nil_of_length_eq_zero h2⟩
 ·injection hv with hv
  exact .inr ⟨g,hv⟩
theorem DeleteFunc_nil (gF:Nat) (lb:Array Value) (W:World) (eg:∀ args w,(callFunc gF args).run Tryz.prog w=.ok (.enter gF args) w) :
 Calls Tryz.prog 123 #[.slice none 0 0,.func (.func gF) #[] lb] W fun e W'=>e=.returned (.slice none 0 0)∧Fr W W':=by
 have hIF:=IndexFunc_spl BX.enc2 [] none 0 gF lb (fun _=>false) W eg (.inl rfl) (by simp) (fun x W' hm=>by simp at hm)
 rw [show idx (fun _:BX=>false) []=-1 from rfl] at hIF
 replace hIF:=hZ hIF
 clear eg
 go_enter Tryz.func123,Tryz.ntmps123
 go_wp2_with fail
 refine hIF.out.mono ?_
 rintro e w1 ⟨rfl,hf1⟩
 go_wp2_with fail
 go_ret
 exact ⟨rfl,hf1⟩
theorem DelEnh (s:Int×List Int) (ca:Option Addr) (cc p:Nat) (a:Option Addr) (c:Nat) (K:List BX) (base:Nat) (w0 W:World) (hown:OwnSp W base a c K) (hw0:Fr w0 W) (hb0:w0.heap.size≤base) (hp:p < w0.heap.size) (hc1:w0.cell? ⟨p,0,none⟩=some (.int .i64 s.1)) (hc2:w0.cell? ⟨p,1,none⟩=some (.slice ca s.2.length cc)) (hs:El w0 iv ca s.2)
 (hl:s.2.length≤64) (hb:∀ c,c ∈ s.2→fitB c=true) (hl2:∀ x,x ∈ K→x.cs.length≤64) (hb2:∀ x,x ∈ K→∀ c,c ∈ x.cs→fitB c=true) (hK:K.length≤1000000) :
 Calls Tryz.prog 123 #[.slice a K.length c,.func (.func 125) #[] #[.pointer (some ⟨p,0,none⟩)]] W fun e W'=>∃ c':Nat,∃ K':List BX,K'=keepL (eqS s) K∧e=.returned (.slice a K'.length c')∧Prs W' a (K'.map BX.enc2)∧(∀ x,x ∈ K'→El W' iv (some ⟨x.g,0,none⟩) x.cs)∧Fr w0 W':=by
 have eg:∀ args w,(callFunc 125 args).run Tryz.prog w=.ok (.enter 125 args) w:=enters_of Tryz.func125 (by kernel_rfl) rfl
 rcases hown.addr with ⟨rfl,rfl,rfl⟩ | ⟨g,rfl⟩
 ·refine (DeleteFunc_nil 125 #[.pointer (some ⟨p,0,none⟩)] W eg).mono ?_
  rintro e W' ⟨rfl,hf⟩
  exact ⟨0,[],rfl,rfl,.inl rfl,fun x hx=>by simp at hx,hw0.trans hf⟩
 ·obtain ⟨hcnt,hcap,hg⟩:=hown.cnt
  refine (DeleteFunc_spl BX.enc2 K g c 125 #[.pointer (some ⟨p,0,none⟩)] (eqS s) W eg hcnt (by omega) hcap (fun x=>⟨_,_,_,_,rfl⟩) (fun x hx W' hW'=>?_)).mono ?_
  ·obtain ⟨e1,e2,e3,e4⟩:=hown.el x hx
   have hpg:¬ p=g:=by omega
   exact Enh1_any s ca cc p x W' (hW'.keep (hw0.keep hc1) hpg) (hW'.keep (hw0.keep hc2) hpg) (hs.fxlt hw0 hW' (by omega)) (e4.fx hW' (fun e=>e3 (by rw [show x.g=g from e]; rfl))) hl (hl2 x hx) hb (hb2 x hx)
  ·rintro e W' ⟨rfl,h1,h2⟩
   refine ⟨c,_,rfl,rfl,h1,fun x hx=>?_,((Fx.of_fr hw0).trans h2).toFr (fun k hk e=>by have e:k=g:=e; omega)⟩
   obtain ⟨e1,e2,e3,e4⟩:=hown.el x (List.mem_filter.1 hx).1
   exact e4.fx h2 (fun e=>e3 (by rw [show x.g=g from e]; rfl))
theorem Enharmonic_any (d:Nat) (aN aA:Option Addr) (cN cA:Nat) (N A:List Sy) (x:Sp) (most:Int) (w:World) (hn:NotIs w aN aA cA N A) (hok:NotOk d N A) (hd:1≤d) (hcs:El w iv x.ca x.cs) (hl:x.cs.length≤1000000000) (hm:boundE N.length A.length most=0→most≤20000) :
 Calls Tryz.prog 66 #[.agg #[.slice aN N.length cN,.slice aA A.length cA],.agg #[.int .i64 x.i,.slice x.ca x.cs.length x.cc],.int .i64 most] w (SpRetE w (enhL N A (x.i.toNat,x.cs) most.toNat) (enhE N A x.i x.cs most)):=by
 have hn60:=hok.n60
 have ha6:=hok.a6
 have hd12:=hok.d12
 have hop:=fun W (hW:Fr w W)=>open_any d aN aA cN cA N A [x] (some ⟨W.heap.size,0,none⟩) 1 (W.alloc (.cells #[.int .i64 x.i,.slice x.ca x.cs.length x.cc] 76)) (hn.fr (hW.alloc _)) hok (Sps.one W x _ (hcs.fr hW)) (by simp) (by simp; exact hl)
 simp only [spsE,List.length_cons,List.length_nil,Nat.zero_add] at hop
 have hbnd:=fun W=>bound_any aN aA cN cA N.length A.length most W (by omega) (by omega)
 by_cases h0:spE N A x.i x.cs=0
 ·obtain ⟨i1,i2,i3,i4⟩:=spE_inv h0
  obtain ⟨xi,hxi⟩:∃ xi:Nat,x.i=xi:=⟨x.i.toNat,by omega⟩
  by_cases h1:boundE N.length A.length most=0
  ·have h1p:0≤most:=by
    by_cases h:most < 0
    ·unfold boundE at h1; rw [if_pos h] at h1; omega
    ·omega
   have h2:=hm h1
   obtain ⟨m,rfl⟩:∃ m:Nat,most=m:=⟨most.toNat,by omega⟩
   have h3:=boundE_size hn60 h1
   have hsum:=fun W (hW:Fr w W)=>sum_any d aN aA cN cA N A xi x.cs x.ca x.cc W (hn.fr hW) hok hd (by omega) (hcs.fr hW) i3 i4
   have hSl:=sumS_length hok (i:=xi) (by omega) x.cs
   have hall:=fun W (hW:Fr w W) a c (hel:El W iv a (sumS N A (xi,x.cs)))=>all_any d aN aA cN cA N A (sumS N A (xi,x.cs)) a c m W (hn.fr hW) hok hd hel (by omega) (by omega) (by rw [boxL_size]; omega)
   have hmem:∀ K:List BX,K.map stripX=sortS ((boxL m A.length N.length).filter fun s=>decide (sumS N A s=sumS N A (xi,x.cs)))→K.length≤1000000∧∀ y,y ∈ K→y.cs.length≤64∧∀ c,c ∈ y.cs→fitB c=true:=fun K hK=>by
    have hl9:=(sortS_perm ((boxL m A.length N.length).filter fun s=>decide (sumS N A s=sumS N A (xi,x.cs)))).length_eq
    rw [← hK,List.length_map] at hl9
    have hl8:=List.length_filter_le (fun s=>decide (sumS N A s=sumS N A (xi,x.cs))) (boxL m A.length N.length)
    rw [boxL_size] at hl8
    refine ⟨by omega,fun y hy=>?_⟩
    have hy2:stripX y ∈ K.map stripX:=List.mem_map_of_mem hy
    rw [hK] at hy2
    obtain ⟨-,m2,m3⟩:=boxL_mem (List.mem_filter.1 ((sortS_perm _).mem_iff.1 hy2)).1
    have m2:y.cs.length=A.length:=m2
    exact ⟨by omega,fun c hc=>by have:=m3 c hc; unfold fitB; exact decide_eq_true (by omega)⟩
   have hres:enhL N A (x.i.toNat,x.cs) (m:Int).toNat=(sortS ((boxL m A.length N.length).filter fun s=>decide (sumS N A s=sumS N A (xi,x.cs)))).filter fun t=>!decide (ordS (x.i,x.cs) (stI t)=0):=by
    unfold enhL allL
    rw [hxi]
    rfl
   have hres2:enhE N A x.i x.cs (m:Int)=0:=by unfold enhE; rw [if_neg (by simp [h0]),h1]
   have hcl64:x.cs.length≤64:=by omega
   rw [hres,hres2]
   simp only [h0,if_true] at hop
   rw [h1] at hbnd
   rw [← hSl] at hd12
   generalize sortS ((boxL m A.length N.length).filter fun s=>decide (sumS N A s=sumS N A (xi,x.cs)))=L at *
   generalize sumS N A (xi,x.cs)=R at *
   generalize N.length=nN at *
   generalize A.length=nA at *
   rw [hxi] at hop
   rw [hxi]
   have hdel:=fun (a:Option Addr) (c:Nat) (K:List BX) (base:Nat) (w0 W:World) (p:Nat) (h1:OwnSp W base a c K) (h2:Fr w0 W) (h3:w0.heap.size≤base) (h4:p < w0.heap.size) (h5:w0.cell? ⟨p,0,none⟩=some (.int .i64 xi)) (h6:w0.cell? ⟨p,1,none⟩=some (.slice x.ca x.cs.length x.cc)) (hw:Fr w w0) (hK:K.map stripX=L)=>DelEnh ((xi:Int),x.cs) x.ca x.cc p a c K base w0 W h1 h2 h3 h4 h5 h6 (hcs.fr hw) hcl64 i4 (fun y hy=>((hmem K hK).2 y hy).1) (fun y hy=>((hmem K hK).2 y hy).2) (hmem K hK).1
   generalize x.cs.length=cl at *
   generalize x.ca=ca at *
   generalize x.cc=cc at *
   replace hop:=hZ hop
   replace hsum:=hZ hsum
   replace hall:=hZ hall
   replace hdel:=hZ hdel
   replace hbnd:=hZ hbnd
   clear hn hok hcs i1 i2 i3 i4 hxi hmem hres hres2 hm h0 h1 h2 h3 hSl
   have b1:=new2a w (.slice aN nN cN) (.slice aA nA cA) 72
   have b2:=new2b w (.slice aN nN cN) (.slice aA nA cA) 72
   have hfa:Fr (w.alloc (.cells #[.slice aN nN cN,.slice aA nA cA] 72)) ((w.alloc (.cells #[.slice aN nN cN,.slice aA nA cA] 72)).alloc (.cells #[.int .i64 xi,.slice ca cl cc] 76)):=(Fr.refl _).alloc _
   have b3:=new2a (w.alloc (.cells #[.slice aN nN cN,.slice aA nA cA] 72)) (.int .i64 xi) (.slice ca cl cc) 76
   have b4:=new2b (w.alloc (.cells #[.slice aN nN cN,.slice aA nA cA] 72)) (.int .i64 xi) (.slice ca cl cc) 76
   rw [show (w.alloc (.cells #[.slice aN nN cN,.slice aA nA cA] 72)).heap.size=w.heap.size+1 by simp] at b3 b4
   replace b1:=hZ (hfa.keep b1.1)
   replace b2:=hZ (hfa.keep b2.1)
   replace b3:=hZ b3.1
   replace b4:=hZ b4.1
   have hfb:Fr w _:=((Fr.refl w).alloc _).trans hfa
   replace hfb:=hZ hfb
   have hsB:=hfb.out.size
   clear hfa
   have hop1:=hop.out _ hfb.out
   rw [show ((w.alloc (.cells #[.slice aN nN cN,.slice aA nA cA] 72)).alloc (.cells #[.int .i64 xi,.slice ca cl cc] 76)).heap.size=w.heap.size+2 by simp] at hop1
   replace hop1:=hZ hop1
   clear hop
   go_enter Tryz.func66,Tryz.ntmps66
   go_wp2_with fail
   refine hop1.out.mono ?_
   rintro e w1 ⟨rfl,hf1⟩
   have hfc:=((Fr.refl _).alloc _).trans hf1
   have q1:=hfc.keep b1.out
   have q2:=hfc.keep b2.out
   have q3:=hfc.keep b3.out
   have q4:=hfc.keep b4.out
   have hfd:=hfb.out.trans hfc
   clear hfc hf1 b1 b2 b3 b4 hfb
   go_wp2_with fail
   refine (hbnd.out _).mono ?_
   rintro e w2 ⟨rfl,hf2⟩
   replace q1:=hf2.keep q1
   replace q2:=hf2.keep q2
   replace q3:=hf2.keep q3
   replace q4:=hf2.keep q4
   have hfe:=hfd.trans hf2
   have hbs:=World.block_lt_of_cell? w2 _ q3
   clear hf2 hfd
   go_wp2_with fail
   go_region_held3 (fun w'=>w'.cell? ⟨w.heap.size,0,none⟩=some (.slice aN nN cN)∧w'.cell? ⟨w.heap.size,1,none⟩=some (.slice aA nA cA)∧w'.cell? ⟨w.heap.size+1,0,none⟩=some (.int .i64 xi)∧w'.cell? ⟨w.heap.size+1,1,none⟩=some (.slice ca cl cc))
    (first | go_keep | (go_split_ands; refine ⟨?_, ?_, ?_, ?_⟩ <;> (refine Fr.keep (by assumption) ?_; assumption)))
    (first
     | (go_at_call 124; (with_reducible refine (hsum.out _ ?_).mono ?_); (exact fr9); rintro e w3 ⟨g1,c1,rfl,hg1,hel1,hf3⟩)
     | (go_at_call 120; have hz3:Fr w w3:=(by exact fr9); refine (hall.out w3 hz3 _ _ hel1).mono ?_; rintro e w4 ⟨a4,c4,K,rfl,hown4,hK4,hf4⟩; clear hz3; replace hK4:=hZ hK4)
     | (go_at_call 123; have hz4:Fr w2 w4:=(by exact fr9); have hz6:Fr w2 w3:=(by exact fr9); have hz5:=hz6.size; refine (hdel.out a4 c4 K w3.heap.size w2 w4 (w.heap.size+1) hown4 hz4 hz5 hbs q3 q4 hfe hK4.out).mono ?_; rintro e w5 ⟨c5,K5,hK5,rfl,hp5,he5,hf5⟩; replace hK5:=hZ hK5; replace he5:=hZ he5))
   all_goals
    have hmap:=keep_map ((xi:Int),x.cs) K
    rw [← hK5.out,hK4.out] at hmap
    replace hmap:=hZ hmap
    go_wp2_with fail
    go_ret2
    exact ⟨fun _=>⟨a4,c5,K5,rfl,hp5,he5.out,hmap.out⟩,fun h=>absurd rfl h,hfe.trans hf5⟩
  ·have hres2:enhE N A x.i x.cs most=boundE N.length A.length most:=by unfold enhE; rw [if_neg (by simp [h0])]
   rw [hres2]
   simp only [h0,if_true] at hop
   generalize enhL N A (x.i.toNat,x.cs) most.toNat=LL
   generalize boundE N.length A.length most=be at *
   generalize N.length=nN at *
   generalize A.length=nA at *
   generalize x.cs.length=cl at *
   generalize x.ca=ca at *
   generalize x.cc=cc at *
   generalize x.i=xi9 at *
   have q9:(be != 0)=true:=by rw [bne_iff_ne]; exact h1
   replace hop:=hZ hop
   replace hbnd:=hZ hbnd
   clear hn hok hcs i1 i2 i3 i4 hxi hres2 hm h0
   have b1:=new2a w (.slice aN nN cN) (.slice aA nA cA) 72
   have b2:=new2b w (.slice aN nN cN) (.slice aA nA cA) 72
   have hfa:Fr (w.alloc (.cells #[.slice aN nN cN,.slice aA nA cA] 72)) ((w.alloc (.cells #[.slice aN nN cN,.slice aA nA cA] 72)).alloc (.cells #[.int .i64 xi9,.slice ca cl cc] 76)):=(Fr.refl _).alloc _
   have b3:=new2a (w.alloc (.cells #[.slice aN nN cN,.slice aA nA cA] 72)) (.int .i64 xi9) (.slice ca cl cc) 76
   have b4:=new2b (w.alloc (.cells #[.slice aN nN cN,.slice aA nA cA] 72)) (.int .i64 xi9) (.slice ca cl cc) 76
   rw [show (w.alloc (.cells #[.slice aN nN cN,.slice aA nA cA] 72)).heap.size=w.heap.size+1 by simp] at b3 b4
   replace b1:=hZ (hfa.keep b1.1)
   replace b2:=hZ (hfa.keep b2.1)
   replace b3:=hZ b3.1
   replace b4:=hZ b4.1
   have hfb:Fr w _:=((Fr.refl w).alloc _).trans hfa
   replace hfb:=hZ hfb
   have hsB:=hfb.out.size
   clear hfa
   have hop1:=hop.out _ hfb.out
   rw [show ((w.alloc (.cells #[.slice aN nN cN,.slice aA nA cA] 72)).alloc (.cells #[.int .i64 xi9,.slice ca cl cc] 76)).heap.size=w.heap.size+2 by simp] at hop1
   replace hop1:=hZ hop1
   clear hop
   go_enter Tryz.func66,Tryz.ntmps66
   go_wp2_with fail
   refine hop1.out.mono ?_
   rintro e w1 ⟨rfl,hf1⟩
   have hfc:=((Fr.refl _).alloc _).trans hf1
   have q1:=hfc.keep b1.out
   have q2:=hfc.keep b2.out
   have hfd:=hfb.out.trans hfc
   clear hfc hf1 b1 b2 b3 b4 hfb
   go_wp2_with fail
   refine (hbnd.out _).mono ?_
   rintro e w2 ⟨rfl,hf2⟩
   go_wp2_with fail
   go_ret2
   exact ⟨fun h=>absurd h h1,fun _=>rfl,hfd.trans hf2⟩
 ·have hres2:enhE N A x.i x.cs most=spE N A x.i x.cs:=by unfold enhE; rw [if_pos h0]
  rw [hres2]
  simp only [if_neg h0] at hop
  generalize enhL N A (x.i.toNat,x.cs) most.toNat=LL
  generalize spE N A x.i x.cs=er at *
  generalize N.length=nN at *
  generalize A.length=nA at *
  generalize x.cs.length=cl at *
  generalize x.ca=ca at *
  generalize x.cc=cc at *
  generalize x.i=xi9 at *
  have q9:(er != 0)=true:=by rw [bne_iff_ne]; exact h0
  replace hop:=hZ hop
  clear hn hok hcs hres2 hm hbnd
  have b1:=new2a w (.slice aN nN cN) (.slice aA nA cA) 72
  have b2:=new2b w (.slice aN nN cN) (.slice aA nA cA) 72
  have hfa:Fr (w.alloc (.cells #[.slice aN nN cN,.slice aA nA cA] 72)) ((w.alloc (.cells #[.slice aN nN cN,.slice aA nA cA] 72)).alloc (.cells #[.int .i64 xi9,.slice ca cl cc] 76)):=(Fr.refl _).alloc _
  have b3:=new2a (w.alloc (.cells #[.slice aN nN cN,.slice aA nA cA] 72)) (.int .i64 xi9) (.slice ca cl cc) 76
  have b4:=new2b (w.alloc (.cells #[.slice aN nN cN,.slice aA nA cA] 72)) (.int .i64 xi9) (.slice ca cl cc) 76
  rw [show (w.alloc (.cells #[.slice aN nN cN,.slice aA nA cA] 72)).heap.size=w.heap.size+1 by simp] at b3 b4
  replace b1:=hZ (hfa.keep b1.1)
  replace b2:=hZ (hfa.keep b2.1)
  replace b3:=hZ b3.1
  replace b4:=hZ b4.1
  have hfb:Fr w _:=((Fr.refl w).alloc _).trans hfa
  replace hfb:=hZ hfb
  have hsB:=hfb.out.size
  clear hfa
  have hop1:=hop.out _ hfb.out
  rw [show ((w.alloc (.cells #[.slice aN nN cN,.slice aA nA cA] 72)).alloc (.cells #[.int .i64 xi9,.slice ca cl cc] 76)).heap.size=w.heap.size+2 by simp] at hop1
  replace hop1:=hZ hop1
  clear hop
  go_enter Tryz.func66,Tryz.ntmps66
  go_wp2_with fail
  refine hop1.out.mono ?_
  rintro e w1 ⟨rfl,hf1⟩
  have hfd:=hfb.out.trans (((Fr.refl _).alloc _).trans hf1)
  go_wp2_with fail
  go_ret2
  exact ⟨fun h=>absurd h h0,fun _=>rfl,hfd⟩
def BXs (w:World) (a:Option Addr) (xs:List BX):Prop:=Prs w a (xs.map BX.enc2)∧∀ x,x ∈ xs→El w iv (some ⟨x.g,0,none⟩) x.cs
theorem BXs.fr {w w':World} {a:Option Addr} {xs:List BX} (h:BXs w a xs) (k:Fr w w'):BXs w' a xs:=⟨h.1.fr k,fun x hx=>(h.2 x hx).fr k⟩
theorem BXs.at {w:World} {a:Option Addr} {xs:List BX} (h:BXs w a xs) {i:Nat} (hi:i < xs.length) :
 ∃ b o x,a=some ⟨b,o,none⟩∧b < w.heap.size∧xs[i]?=some x∧w.cell? ⟨b,o+i * 2,none⟩=some (.int .i64 x.i)∧w.cell? ⟨b,o+i * 2+1,none⟩=some (.slice (some ⟨x.g,0,none⟩) x.cs.length x.c)∧El w iv (some ⟨x.g,0,none⟩) x.cs:=by
 obtain ⟨b,o,z,ha,hb,hz,hc,hc2⟩:=h.1.at (i:=i) (by rw [List.length_map]; exact hi)
 rw [List.getElem?_map,List.getElem?_eq_getElem hi] at hz
 injection hz with hz
 subst hz
 exact ⟨b,o,xs[i],ha,hb,List.getElem?_eq_getElem hi,hc,hc2,h.2 _ (List.getElem_mem hi)⟩
theorem OwnSp.bxs {w:World} {base:Nat} {a:Option Addr} {c:Nat} {xs:List BX} (h:OwnSp w base a c xs):BXs w a xs:=by
 refine ⟨?_,fun x hx=>(h.el x hx).2.2.2⟩
 rcases h.addr with ⟨rfl,rfl,rfl⟩ | ⟨g,rfl⟩
 ·exact .inl rfl
 ·exact h.cnt.1.prs
theorem infoMat:(Tryz.prog.info? 24).map (fun i=>(i.zero,i.size,i.bytes))=some (some (.slice none 0 0),1,24):=by kernel_rfl
def rowVs (A:List Sy):List Value:=A.map fun x=>.slice x.ra x.row.length x.rc
theorem rowVs_mat {w w':World} {base:Nat} {g n cap:Nat} {A:List Sy} (h:w'.ownsRow base 24 1 (.slice (some ⟨g,0,none⟩) n cap) n (rowVs A)) (hel:∀ x,x ∈ A→El w iv x.ra x.row) (hf:Fr w w'):MatIs w' (some ⟨g,0,none⟩) (A.map Sy.row):=by
 obtain ⟨-,-,hg,-,hc⟩:=ownsRow_some h
 refine .inr ⟨g,0,rfl,hg,fun i xs hx=>?_⟩
 rw [List.getElem?_map] at hx
 cases hA:A[i]? with
 | none=>rw [hA] at hx; simp at hx
 | some x=>
   rw [hA] at hx
   injection hx with hx
   subst hx
   refine ⟨x.ra,x.rc, ?_,(hel x (List.mem_of_getElem? hA)).fr hf⟩
   rw [Nat.zero_add]
   exact (hc i _ (by unfold rowVs; rw [List.getElem?_map,hA]; rfl)).1
def RelRet (w:World) (m:List (List Int)) (e:Ending) (w':World):Prop:=∃ a c,e=.returned (.tuple #[.slice a m.length c,.int .i64 0])∧MatIs w' a m∧Fr w w'
theorem Relations_gen (P:Nat→Prop) (d:Nat) (aN aA:Option Addr) (cN cA:Nat) (N A:List Sy) (K B:List (List Int)) (w:World) (hn:NotIs w aN aA cA N A) (hok:NotOk d N A)
 (hker:∀ W,Fr w W→∀ a cap,MatIs W a (A.map Sy.row)→Calls Tryz.prog 121 #[.slice a A.length cap] W (MatRet W K))
 (hof:∀ W,Fr w W→∀ a cap,MatIs W a K→Calls Tryz.prog 109 #[.int .i64 A.length,.slice a K.length cap] W fun e w'=>∃ a c,e=.returned (.tuple #[.agg #[.int .i64 A.length,.slice a B.length c],.int .i64 0])∧P c∧(∀ W',Fx (· < W.heap.size) w' W'→MatIs W' a B)∧Fr W w') :
 Calls Tryz.prog 65 #[.agg #[.slice aN N.length cN,.slice aA A.length cA]] w fun e w'=>∃ a c,e=.returned (.tuple #[.slice a B.length c,.int .i64 0])∧P c∧MatIs w' a B∧Fr w w':=by
 obtain ⟨i0,hi,hz0,hz1,hz2⟩:=info_parts infoMat
 have hn60:=hok.n60
 have ha6:=hok.a6
 have hchk:=fun W (hW:Fr w W)=>SCheck_ok d aN aA cN cA N A W (hn.fr hW) hok
 have hacc:=hn.accs
 obtain ⟨kl,hone⟩:∃ kl,kl=K.length:=⟨_,rfl⟩
 obtain ⟨bl,htwo⟩:∃ bl,bl=B.length:=⟨_,rfl⟩
 rw [← hone] at hof
 obtain ⟨n,hnn⟩:∃ n,n=A.length:=⟨_,rfl⟩
 rw [← hnn] at hchk hker hof ha6 ⊢
 replace hchk:=hZ hchk
 replace hker:=hZ hker
 replace hof:=hZ hof
 replace hacc:=hZ hacc
 replace hnn:=hZ hnn
 replace hone:=hZ hone
 replace htwo:=hZ htwo
 have p1:=new2a w (.slice aN N.length cN) (.slice aA n cA) 72
 have p2:=new2b w (.slice aN N.length cN) (.slice aA n cA) 72
 have hfA:Fr w (w.alloc (.cells #[.slice aN N.length cN,.slice aA n cA] 72)):=(Fr.refl w).alloc _
 replace hfA:=hZ hfA
 replace p1:=hZ p1.1
 replace p2:=hZ p2.1
 clear hn hok
 go_enter Tryz.func65,Tryz.ntmps65
 go_wp2_with fail
 refine (hchk.out _ hfA.out).mono ?_
 rintro e w1 ⟨rfl,hf1⟩
 have q1:=hf1.keep p1.out
 have q2:=hf1.keep p2.out
 have hfw:=hfA.out.trans hf1
 clear p1 p2 hfA hf1 hchk
 go_wp2_with fail
 go_loopg [5,19] n (fun k s5 s19 wr=>∃ j:Nat,s19=.int .i64 j∧j+k=n∧Fr w1 wr∧wr.ownsRow w1.heap.size 24 1 s5 j (rowVs (A.take j)))
 case atStart=>exact ⟨0,rfl,by omega,Fr.refl _,World.ownsRow_nil _ _ _ _⟩
 case round=>
  obtain ⟨j,rfl,hjk,hf,hown⟩:=hrel
  by_cases hj:j < n
  ·have hdJ:decide (j < n)=true:=decide_eq_true hj
   obtain ⟨b,o,y,rfl,hb,hyj,hc1,hc2,-⟩:=(hacc.out.fr (hfw.trans hf)).at (i:=j) (by rw [← hnn.out]; exact hj)
   have hsn:rowVs (A.take (j+1))=rowVs (A.take j) ++ [.slice y.ra y.row.length y.rc]:=by unfold rowVs; rw [take_snoc hyj,List.map_append]; rfl
   generalize y.row.length=yl at *
   generalize y.ra=ya at *
   generalize y.rc=yc at *
   generalize y.nm=nm at *
   replace hsn:=hZ hsn
   clear hyj
   have a1:=new2a wr (.string nm) (.slice ya yl yc) 80
   have a2:=new2b wr (.string nm) (.slice ya yl yc) 80
   have y1:(j:Int) < (n:Int):=by omega
   have y0:(0:Int)≤(j:Int):=by omega
   have hfB:Fr wr (wr.alloc (.cells #[.string nm,.slice ya yl yc] 80)):=(Fr.refl wr).alloc _
   have hownB:=ownsRow_fr hown hfB
   replace hfB:=hZ hfB
   have hz9:=hf.size
   replace a1:=hZ a1.1
   replace a2:=a2.1
   go_wp2_with (at_builtin; refine wpList_append_lies _ rfl _ _ 28 (by rfl) w1.heap.size 24 i0 _ 1 24 Tryz.underlying28 hi hz0 hz1 hz2 rfl (by decide) _ j _ (by rfl) (World.ownsRow.alloc hownB _) ⟨wr.heap.size+1,0,none⟩ 1 1 [.slice ya yl yc] (by rfl) rfl (cell_one_newN _ _ _ _ (by simp)) (by simp [Value.oneCell']) (by decide) (by unfold maxLen; omega) (by omega) (by simp; omega) (wr.heap.size+1+1) (by simp) ?_; intro gA capA wA hownA hgrowA hatA hltA)
   rw [← hsn.out] at hownA
   have hfZ:Fr w1 wA:=((hf.trans hfB.out).alloc _).grown hgrowA (fun k e=>ownsRow_own_ge hown k e)
   go_wp2_with fail
   go_roundg (gk - 1)
   case measure=>omega
   case rel=>exact ⟨j+1,by go_num,by omega,hfZ,hownA⟩
  ·obtain rfl:j=n:=by omega
   have hdJ:decide (j < j)=false:=decide_eq_false (by omega)
   rw [List.take_of_length_le (by rw [← hnn.out]; exact Nat.le_refl _)] at hown
   obtain ⟨ma,cap,rfl,hgm⟩:=ownsRow_slice hown
   have hmat:MatIs wr ma (A.map Sy.row):=by
    by_cases h0:A.length=0
    ·exact .inl (by rw [List.eq_nil_of_length_eq_zero h0]; rfl)
    ·rcases hgm with h9 | ⟨g,rfl⟩
     ·exact absurd (hnn.out.symm.trans h9) h0
     ·exact rowVs_mat hown hacc.out.2 (hfw.trans hf)
   have hk1:=hker.out _ (hfw.trans hf) _ cap hmat
   replace hk1:=hZ hk1
   clear hown hmat hker
   go_wp2_with fail
   refine hk1.out.mono ?_
   rintro e w2 ⟨a2,c2,rfl,hm2,hf2⟩
   rw [← hone.out]
   have hl1:=hof.out w2 ((hfw.trans hf).trans hf2) a2 c2 hm2
   replace hl1:=hZ hl1
   clear hof hm2
   go_wp2_with fail
   refine hl1.out.mono ?_
   rintro e w3 ⟨a3,c3,rfl,hP,hm3,hf3⟩
   rw [← htwo.out]
   have hfin:=hZ (show ∀ W,Fr w3 W→∃ a c,Ending.returned (.tuple #[.slice a3 bl c3,.int .i64 0])=Ending.returned (.tuple #[.slice a B.length c,.int .i64 0])∧P c∧MatIs W a B∧Fr w W from fun W hW=>⟨a3,c3,by rw [htwo.out],hP,hm3 W (Fx.of_fr hW),((hfw.trans hf).trans hf2).trans (hf3.trans hW)⟩)
   replace hP:=hZ hP
   clear hm3
   go_wp2_with fail
   go_ret2
   exact hfin.out _ ((Fr.refl _).alloc _)
theorem ker_call {d F:Nat} {N A:List Sy} {K:List (List Int)} {w:World} (hG:G w) (hok:NotOk d N A) (hd:1≤d) (hA:1≤A.length) (hk:kerS F d (A.map Sy.row)=some K):∀ W,Fr w W→∀ a cap,MatIs W a (A.map Sy.row)→Calls Tryz.prog 121 #[.slice a A.length cap] W (MatRet W K):=fun W hW a cap hm=>by
 have ha6:=hok.a6
 have h:=Kernel_any (A.map Sy.row) K a cap d F W (hG.fr hW) hm ⟨by rw [List.length_map]; omega,hok.d12,fun r hr=>by obtain ⟨z,hz,rfl⟩:=List.mem_map.1 hr; exact hok.row z (List.mem_append_right _ hz),fun r hr y hy=>by obtain ⟨z,hz,rfl⟩:=List.mem_map.1 hr; exact hok.fit z (List.mem_append_right _ hz) y hy⟩ hd (by rw [List.length_map]; exact hA) hk
 rw [List.length_map] at h
 exact h
theorem Relations_one (d F:Nat) (aN aA:Option Addr) (cN cA:Nat) (N A:List Sy) (x:Int) (xs:List Int) (w:World) (hG:G w) (hn:NotIs w aN aA cA N A) (hok:NotOk d N A) (hd:1≤d) (hA:1≤A.length) (hk:kerS F d (A.map Sy.row)=some [x :: xs]) (hx:0 < x) (hxl:(x :: xs).length=A.length) (hfit:∀ y,y ∈ x :: xs→fitB y=true) :
 Calls Tryz.prog 65 #[.agg #[.slice aN N.length cN,.slice aA A.length cA]] w (RelRet w [x :: xs]) :=
 (Relations_gen (fun _=>True) d aN aA cN cA N A [x :: xs] [x :: xs] w hn hok (ker_call hG hok hd hA hk) fun W hW a cap hm=>(Of_one x xs a cap A.length W (hG.fr hW) hm ⟨by simp,by have:=hok.a6; omega,fun r hr=>by simp at hr; subst hr; exact hxl,fun r hr y hy=>by simp at hr; subst hr; exact hfit y hy⟩ hx hA).mono fun e w' h=>by
  obtain ⟨a,c,h1,h2,h3⟩:=h
  exact ⟨a,c,h1,trivial,h2,h3⟩).mono fun e w' h=>by
  obtain ⟨a,c,h1,-,h2,h3⟩:=h
  exact ⟨a,c,h1,h2,h3⟩
end Go.Proofs.YtmalpgbbddkdcaaGreatDoor
