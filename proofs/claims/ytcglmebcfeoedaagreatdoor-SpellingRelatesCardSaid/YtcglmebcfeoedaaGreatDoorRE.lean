/- Contracts and laws: RE. -/
import Derived.Test.YtcglmebcfeoedaaGreatDoorRD
import Derived.Test.YtcglmebcfeoedaaGreatDoorRB
import Derived.Test.YtcglmebcfeoedaaGreatDoorRC

set_option maxRecDepth 100000
set_option maxHeartbeats 1000000
namespace Go.Proofs.YtcglmebcfeoedaaGreatDoor
open Go.RowKit Go.Lib
attribute [local go_sem ↓] Go.wp_at_zero Go.wp_at_succ
theorem MulQ_any (x y:Rat) (hx:Tq x) (hy:Tq y) (w:World) (hG:G w) :
 Calls Tryz.prog 125 #[qv x,qv y] w fun e w'=>e=.returned (qv (x * y))∧Fr w w':=by
 obtain ⟨⟨h1,h2⟩,h3,h4⟩:=hx
 obtain ⟨⟨k1,k2⟩,k3,k4⟩:=hy
 exact MulQ_w x y ⟨.inr (.inr ⟨by omega,by omega⟩),.inr (.inr ⟨by omega,by omega⟩)⟩ w hG
theorem redTo_mono {g:List (List Rat)}:∀ (c C:Nat) (s:RS),redTo g C=some s→c≤C→∃ s1,redTo g c=some s1
 | c,0,s,h,hc=>by
   have e:c=0:=by omega
   subst e
   exact ⟨s,h⟩
 | c,C+1,s,h,hc=>by
   by_cases e:c=C+1
   ·subst e; exact ⟨s,h⟩
   ·rw [redTo] at h
    obtain ⟨s1,h1,-⟩:=Option.bind_eq_some_iff.1 h
    exact redTo_mono c C s1 h1 (by omega)
structure QAt (w:World) (D:Nat) (d:Rat):Prop where
 a:w.cell? ⟨D,0,none⟩=some (sv d.num)
 b:w.cell? ⟨D,1,none⟩=some (sv (d.den:Int))
 fa:w.frozen? ⟨D,0,none⟩=false
 fb:w.frozen? ⟨D,1,none⟩=false
theorem QAt.fx {p:Nat→Prop} {w w':World} {D:Nat} {d:Rat} (h:QAt w D d) (k:Fx p w w') (hp:¬ p D):QAt w' D d :=
 ⟨k.keep h.a hp,k.keep h.b hp,k.keepf h.a h.fa hp,k.keepf h.b h.fb hp⟩
theorem QAt.fr {w w':World} {D:Nat} {d:Rat} (h:QAt w D d) (k:Fr w w'):QAt w' D d:=⟨k.keep h.a,k.keep h.b,k.keepf h.a h.fa,k.keepf h.b h.fb⟩
theorem QAt.new (w:World) (d:Rat) (t:TypeId):QAt (w.alloc (.cells #[sv d.num,sv (d.den:Int)] t)) w.heap.size d :=
 ⟨(new2a _ _ _ _).1,(new2b _ _ _ _).1,(new2a _ _ _ _).2,(new2b _ _ _ _).2⟩
theorem QAt.set {w:World} {D:Nat} {d:Rat} (h:QAt w D d) (e:Rat):QAt ((w.setCell ⟨D,0,none⟩ (sv e.num)).setCell ⟨D,1,none⟩ (sv (e.den:Int))) D e:=by
 obtain ⟨a,b,-,-⟩:=two_store w D (sv e.num) (sv (e.den:Int)) _ _ h.a h.b
 exact ⟨a,b,by rw [World.frozen?_setCell,World.frozen?_setCell]; exact h.fa,by rw [World.frozen?_setCell,World.frozen?_setCell]; exact h.fb⟩
theorem own_readI {w:World} {base:Nat} {v:Value} {l:List Int} {n:Nat} (h:w.ownsRow base 3 1 v n (l.map iv)):∃ a c,v=.slice a n c∧El w iv a l:=by
 have hn:l.length=n:=by have:=h.1; simpa using this
 rcases h.2 with ⟨h1,h2⟩ | ⟨g,cap,cur,hv,_⟩
 ·have e:l=[]:=List.eq_nil_of_length_eq_zero (by omega)
  subst e
  have h2:n=0:=by omega
  subst h2
  exact ⟨none,0,h1,.inl rfl⟩
 ·subst hv
  obtain ⟨-,h1,h2,h3,h4⟩:=ownsRow_some h
  refine ⟨_,_,rfl,.inr ⟨g,0,rfl,h2,fun i x hx=>?_⟩⟩
  rw [Nat.zero_add]
  exact (h4 i (iv x) (by rw [List.getElem?_map,hx]; rfl)).1
structure RSt (w W:World) (ob oo D:Nat) (hs hsX:List (Nat×Nat×Nat)) (g:List (List Rat)) (d:Rat) (v:Value) (k:Nat) (ls:List Int):Prop where
 grid:GridQ W ob oo hsX g
 same:Same ob hsX hs
 fx:Fx (gb ob hs) w W
 det:QAt W D d
 size:D+1≤W.heap.size
 lead:W.ownsRow (D+1) 3 1 v k (ls.map iv)
section
variable {w W W':World} {ob oo D k:Nat} {hs hsX:List (Nat×Nat×Nat)} {g:List (List Rat)} {d:Rat} {v:Value} {ls:List Int}
theorem RSt.fr (h:RSt w W ob oo D hs hsX g d v k ls) (f:Fr W W'):RSt w W' ob oo D hs hsX g d v k ls :=
 ⟨h.grid.fr f,h.same,h.fx.fr f,h.det.fr f,Nat.le_trans h.size f.size,ownsRow_fr h.lead f⟩
theorem RSt.gbD (h:RSt w W ob oo D hs hsX g d v k ls) (hbD:∀ j,gb ob hs j→j < D):∀ j,gb ob hsX j→j < D:=fun j hj=>hbD j ((h.same.1 j).1 hj)
theorem RSt.detSet (h:RSt w W ob oo D hs hsX g d v k ls) (hbD:∀ j,gb ob hs j→j < D) (hD:D=w.heap.size) (e:Rat):RSt w ((W.setCell ⟨D,0,none⟩ (sv e.num)).setCell ⟨D,1,none⟩ (sv (e.den:Int))) ob oo D hs hsX g e v k ls:=by
 have hfx:=(two_store W D (sv e.num) (sv (e.den:Int)) _ _ h.det.a h.det.b).2.2.2
 exact ⟨h.grid.fx hfx (fun j hj e=>by have:=h.gbD hbD j hj; omega),h.same,
  (h.fx.setCell (q:=⟨D,0,none⟩) (.inr (by rw [hD]; exact Nat.le_refl _)) _).setCell (q:=⟨D,1,none⟩) (.inr (by rw [hD]; exact Nat.le_refl _)) _,
  h.det.set e,by rw [World.size_setCell,World.size_setCell]; exact h.size,ownsRow_fx h.lead hfx (fun b hb e=>by have:=(h.lead.lt b hb).1; omega)⟩
theorem RSt.rowSet (h:RSt w W ob oo D hs hsX g d v k ls) (hbD:∀ j,gb ob hs j→j < D) {i b o c:Nat} (hi:hsX[i]?=some (b,o,c)) {zs:List Rat} (f:Fx (·=b) W W') (ho:OwnQ W' b o zs) (hl:∀ xs,g[i]?=some xs→zs.length=xs.length):RSt w W' ob oo D hs hsX (g.set i zs) d v k ls:=by
 have hb:gb ob hsX b:=.inr ⟨_,List.mem_of_getElem? hi,rfl⟩
 have hbd:=h.gbD hbD b hb
 exact ⟨h.grid.setRow hi f ho hl,h.same,h.fx.trans (f.mono (fun j e=>by have e:j=b:=e; subst e; exact (h.same.1 j).1 hb)),h.det.fx f (fun e=>by have e:D=b:=e; omega),Nat.le_trans h.size f.size,ownsRow_fx h.lead f (fun q hq e=>by have:=(h.lead.lt q hq).1; have e:q=b:=e; omega)⟩
theorem RSt.swap (h:RSt w W ob oo D hs hsX g d v k ls) (hbD:∀ j,gb ob hs j→j < D) {i j:Nat} {hi hj:Nat×Nat×Nat} {xs ys:List Rat} (h1:hsX[i]?=some hi) (h2:hsX[j]?=some hj) (h3:g[i]?=some xs) (h4:g[j]?=some ys) (hij:i≠j) :
 RSt w ((W.setCell ⟨ob,oo+i,none⟩ (.slice (some ⟨hj.1,hj.2.1,none⟩) ys.length hj.2.2)).setCell ⟨ob,oo+j,none⟩ (.slice (some ⟨hi.1,hi.2.1,none⟩) xs.length hi.2.2)) ob oo D hs (swp hsX i j) (swp g i j) d v k ls:=by
 have hfx:Fx (·=ob) W ((W.setCell ⟨ob,oo+i,none⟩ (.slice (some ⟨hj.1,hj.2.1,none⟩) ys.length hj.2.2)).setCell ⟨ob,oo+j,none⟩ (.slice (some ⟨hi.1,hi.2.1,none⟩) xs.length hi.2.2)) :=
  Fx.setCell (p:=(·=ob)) (q:=⟨ob,oo+j,none⟩) (Fx.setCell (p:=(·=ob)) (q:=⟨ob,oo+i,none⟩) (Fx.refl _ W) (.inl rfl) _) (.inl rfl) _
 have hod:=hbD ob (.inl rfl)
 exact ⟨h.grid.swap h1 h2 h3 h4 hij,⟨fun q=>(gb_swp h1 h2 q).trans (h.same.1 q),fun q hq=>h.same.2 q (swp_mem hq)⟩,h.fx.trans (hfx.mono (fun q e=>.inl e)),h.det.fx hfx (fun e=>by have e:D=ob:=e; omega),by rw [World.size_setCell,World.size_setCell]; exact h.size,ownsRow_fx h.lead hfx (fun q hq e=>by have:=(h.lead.lt q hq).1; have e:q=ob:=e; omega)⟩
theorem RSt.push (h:RSt w W ob oo D hs hsX g d v k ls) (hbD:∀ j,gb ob hs j→j < D) (hD:D=w.heap.size) (hg:W.grownBy W' v.ownBlock) {v':Value} {k':Nat} {ls':List Int} (ho:W'.ownsRow (D+1) 3 1 v' k' (ls'.map iv)):RSt w W' ob oo D hs hsX g d v' k' ls':=by
 have hfx:=Fx.of_grown hg
 have hq:∀ q,v.ownBlock=some q→D+1≤q:=fun q e=>(h.lead.lt q e).1
 refine ⟨h.grid.fx hfx (fun j hj e=>by have:=h.gbD hbD j hj; have:=hq j e; omega),h.same,⟨hfx.os.trans h.fx.os,hfx.tape.trans h.fx.tape,hfx.output.trans h.fx.output,Nat.le_trans h.fx.size hfx.size,fun q hq1 hq2=>?_⟩,h.det.fx hfx (fun e=>by have:=hq D e; omega),Nat.le_trans h.size hfx.size,ho⟩
 have h1:=h.fx.size
 rw [hfx.block q (by omega) (fun e=>by have:=hq q e; omega)]
 exact h.fx.block q hq1 hq2
end
theorem negIf_tq {d:Rat} {k a:Nat} (h:Tq d):Tq (negIf d k a):=by
 unfold negIf; split
 ·exact h
 ·exact neg_tq h
theorem swapIf_row {g:List (List Rat)} {k a:Nat} (hk:k < g.length) (ha:a < g.length):rowQ (swapIf g k a) k=rowQ g a:=by
 unfold swapIf; split
 ·rename_i h; rw [h]
 ·unfold rowQ
  rw [swp_get g k a (List.getElem?_eq_getElem hk) (List.getElem?_eq_getElem ha),if_neg (fun e=>by rename_i h; exact h e.symm),if_pos rfl,List.getElem?_eq_getElem ha]
theorem stepQ_go {c:Nat} {s s1:RS} {k A:Nat} (h:stepQ c s=some s1) (hk:k=s.lead.length) (hA:A=atQ s.g c k) (hlt:A < s.g.length) :
 Tq s.det∧Tq (entQ (swapIf s.g k A) k c)∧tqRow (rowQ (swapIf s.g k A) k)=true∧∃ g3,elimQ ((swapIf s.g k A).set k ((rowQ (swapIf s.g k A) k).map (· / entQ (swapIf s.g k A) k c))) c k s.g.length=some g3∧s1=⟨g3,s.lead ++ [c],negIf s.det k A * entQ (swapIf s.g k A) k c⟩:=by
 unfold stepQ at h
 rw [← hk,← hA,if_neg (by omega)] at h
 split at h
 ·rename_i hc
  obtain ⟨g3,h1,h2⟩:=Option.map_eq_some_iff.1 h
  exact ⟨hc.1,hc.2.1,hc.2.2,g3,h1,h2.symm⟩
 ·cases h
def divTo (f:Rat) (r:List Rat) (t:Nat):List Rat:=(r.map (· / f)).take t ++ r.drop t
theorem divTo_zero (f:Rat) (r:List Rat):divTo f r 0=r:=by unfold divTo; rw [List.take_zero,List.nil_append,List.drop_zero]
theorem divTo_all (f:Rat) (r:List Rat) {n:Nat} (h:r.length=n):divTo f r n=r.map (· / f):=by
 unfold divTo; rw [List.take_of_length_le (by rw [List.length_map,h]; exact Nat.le_refl _),List.drop_of_length_le (by rw [h]; exact Nat.le_refl _),List.append_nil]
theorem divTo_get (f:Rat) (r:List Rat) {t:Nat} (h:t < r.length):(divTo f r t)[t]?=r[t]?:=mid_get _ _ _ (List.length_map _) h
theorem divTo_set (f:Rat) (r:List Rat) {t:Nat} {x:Rat} (h:r[t]?=some x):(divTo f r t).set t (x / f)=divTo f r (t+1) :=
 mid_set _ _ _ (List.length_map _) (List.getElem?_eq_some_iff.1 h).1 _ (by rw [List.getElem?_map,h]; rfl)
theorem divTo_len (f:Rat) (r:List Rat) (t:Nat):(divTo f r t).length=r.length:=by
 unfold divTo; rw [List.length_append,List.length_take,List.length_drop,List.length_map]; omega
theorem elimQ_step {g g4 g5:List (List Rat)} {c k t:Nat} (h:elimQ g c k t=some g4) (h5:elimQ g c k (t+1)=some g5):(t=k∨entQ g4 t c=0)∧g5=g4∨(t≠k∧entQ g4 t c≠0)∧∃ zs,subRow (entQ g4 t c) (rowQ g4 t) (rowQ g4 k)=some zs∧g5=g4.set t zs:=by
 rw [elimQ,h,Option.bind_some] at h5
 split at h5
 ·rename_i hc
  injection h5 with h5
  exact .inl ⟨hc,h5.symm⟩
 ·rename_i hc
  obtain ⟨zs,h1,h2⟩:=Option.map_eq_some_iff.1 h5
  exact .inr ⟨⟨fun e=>hc (.inl e),fun e=>hc (.inr e)⟩,zs,h1,h2.symm⟩
theorem tqRow_mem {r:List Rat} (h:tqRow r=true) {x:Rat} (hx:x ∈ r):Tq x:=of_decide_eq_true (List.all_eq_true.1 h x hx)
def symHdr (x:Sy):Value:=.slice x.ra x.row.length x.rc
theorem mat_of_own {w:World} {base:Nat} {e:TypeId} {v:Value} {A:List Sy} {n:Nat} (hn:n=A.length) (h:w.ownsRow base e 1 v n (A.map symHdr)) (hr:∀ x,x ∈ A→El w iv x.ra x.row):∃ a c,v=.slice a n c∧MatIs w a (A.map Sy.row):=by
 rcases h.2 with ⟨h1,h2⟩ | ⟨g,cap,cur,hv,_⟩
 ·have e:A=[]:=List.eq_nil_of_length_eq_zero (by omega)
  subst e
  subst h2
  exact ⟨none,0,h1,.inl rfl⟩
 ·subst hv
  obtain ⟨-,h1,h2,h3,h4⟩:=ownsRow_some h
  refine ⟨_,_,rfl,.inr ⟨g,0,rfl,h2,fun i xs hx=>?_⟩⟩
  rw [List.getElem?_map] at hx
  obtain ⟨x,hx1,rfl⟩:=Option.map_eq_some_iff.1 hx
  rw [Nat.zero_add]
  exact ⟨x.ra,x.rc,(h4 i (symHdr x) (by rw [List.getElem?_map,hx1]; rfl)).1,hr x (List.mem_of_getElem? hx1)⟩
theorem Accs_any (aN aA:Option Addr) (nN cN cA:Nat) (A:List Sy) (w:World) (hG:G w) (ha:Syms w aA A) (hl:A.length≤1000000) :
 Calls Tryz.prog 62 #[.agg #[.slice aN nN cN,.slice aA A.length cA]] w fun e w'=>∃ a c,e=.returned (.slice a A.length c)∧MatIs w' a (A.map Sy.row)∧Fr w w':=by
 have hgn:=gN_le hG
 obtain ⟨i1,ji,jz0,jz1,jz2⟩:=info_parts infoRow
 obtain ⟨n,hn⟩:∃ n,n=A.length:=⟨_,rfl⟩
 rw [← hn] at hl ⊢
 replace hn:=hZ hn
 replace ha:=hZ ha
 clear hG
 go_enter Tryz.func62,Tryz.ntmps62
 go_wp2_with fail
 have hf0:Fr w (w.alloc (.cells #[.slice aN nN cN,.slice aA n cA] 31)):=(Fr.refl w).alloc _
 go_loopg [3,9] n (fun k s3 s9 wr=>∃ i:Nat,s9=.int .i64 i∧i+k=n∧Fr w wr∧Hid (wr.ownsRow w.heap.size 44 1 s3 i ((A.take i).map symHdr)))
 case atStart=>exact ⟨0,rfl,by omega,hf0,World.ownsRow_nil _ _ _ _⟩
 case round=>
  clear hf0
  obtain ⟨i,rfl,hik,hf,hown⟩:=hrel
  by_cases hi:i < n
  ·have hdI:decide (i < n)=true:=decide_eq_true hi
   obtain ⟨b,o,x,rfl,hbl,hxi,hc1,hc2,-⟩:=(ha.out.fr hf).at (i:=i) (by rw [← hn.out]; exact hi)
   have hsn:Hid ((A.take (i+1)).map symHdr=(A.take i).map symHdr ++ [.slice x.ra x.row.length x.rc]):=hZ (by rw [take_snoc hxi,List.map_append]; rfl)
   replace hxi:=hZ hxi
   have z0:(0:Int)≤(i:Int):=Int.natCast_nonneg _
   have z1:(i:Int) < (n:Int):=by omega
   generalize x.row.length=d at *
   generalize x.nm=nm at *
   generalize x.ra=ra at *
   generalize x.rc=rc at *
   go_upto_region 5 with (fail)
   obtain ⟨w1,hw1⟩:∃ w1,w1=wr.alloc (.cells #[.string nm,.slice ra d rc] 46):=⟨_,rfl⟩
   have hf1:Fr wr w1:=by rw [hw1]; exact (Fr.refl _).alloc _
   have q1:w1.cell? ⟨wr.heap.size,1,none⟩=some (.slice ra d rc):=by rw [hw1]; exact (new2b _ _ _ _).1
   rw [← hw1]
   clear hw1
   have hownG:=ownsRow_fr hown.out hf1
   have hz7:=hf.size
   have hz8:=hf1.size
   go_wp2_with (at_builtin; refine wpList_append_lies _ rfl _ _ 34 (by rfl) _ 44 _ _ 1 24 Tryz.underlying34 ji jz0 jz1 jz2 rfl (by decide) _ i _ (by rfl) (World.ownsRow.alloc hownG _) ⟨w1.heap.size,0,none⟩ 1 1 [.slice ra d rc] (by rfl) rfl (cell_one_newN _ _ _ _ (by simp)) (by simp [Value.oneCell']) (by decide) (by unfold maxLen; omega) (by omega) (by skip; simp; omega) (w1.heap.size+1) (by simp) ?_; intro gA capA wA hownA hgrowA hatA hltA)
   go_wp2_with fail
   go_roundg (gk - 1)
   case measure=>omega
   case rel=>exact ⟨i+1,by go_num,by omega,((hf.trans hf1).alloc _).grown hgrowA (fun k e=>(hown.out.lt k e).1),by show _; rw [hsn.out]; exact hownA⟩
  ·have hdI:decide (i < n)=false:=decide_eq_false hi
   obtain rfl:n=i:=by omega
   have hown9:=hown.out
   rw [List.take_of_length_le (by rw [← hn.out]; exact Nat.le_refl _)] at hown9
   obtain ⟨a,c,rfl,hm⟩:=mat_of_own hn.out hown9 (fun x hx=>((ha.out.fr hf).2 x hx))
   replace hm:=hZ hm
   clear hown9
   go_wp2_with fail
   go_ret
   exact ⟨a,c,rfl,hm.out,hf⟩
end Go.Proofs.YtcglmebcfeoedaaGreatDoor
