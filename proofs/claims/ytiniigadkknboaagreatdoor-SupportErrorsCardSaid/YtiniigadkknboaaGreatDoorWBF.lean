/- Contracts and laws: WBF. -/
import Derived.Test.YtiniigadkknboaaGreatDoorWBE
import Derived.Test.YtiniigadkknboaaGreatDoorWAG
import Derived.Test.YtiniigadkknboaaGreatDoorWAC
import Derived.Deep.CutRange
import Derived.Deep.CutBlock
import Derived.Test.YtiniigadkknboaaGreatDoorWAI
import Derived.Test.YtiniigadkknboaaGreatDoorWAR

set_option maxRecDepth 100000
set_option maxHeartbeats 4000000
namespace Go.Proofs.YtiniigadkknboaaGreatDoor
open Go.RowKit Go.Lib
attribute [local go_sem ↓] Go.wp_at_zero Go.wp_at_succ
section
variable {w W W':World} {ob oo D k:Nat} {hs hsX:List (Nat×Nat×Nat)} {g:List (List Rat)} {d:Rat} {v:Value} {ls:List Int}
end




theorem flat2_snoc (l:List (Value×Value)) (x:Value×Value):flat2 (l ++ [x])=flat2 l ++ [x.1,x.2]:=by rw [flat2_append]; rfl

structure Cel2 (w:World) (r:Nat) (v u:Value):Prop where
 a:w.cell? ⟨r,0,none⟩=some v
 b:w.cell? ⟨r,1,none⟩=some u
 fa:w.frozen? ⟨r,0,none⟩=false
 fb:w.frozen? ⟨r,1,none⟩=false
theorem Cel2.lt {w:World} {r:Nat} {v u:Value} (h:Cel2 w r v u):r < w.heap.size:=World.block_lt_of_cell? w ⟨r,0,none⟩ h.a
theorem Cel2.fx {p:Nat→Prop} {w w':World} {r:Nat} {v u:Value} (h:Cel2 w r v u) (k:Fx p w w') (h1:¬ p r):Cel2 w' r v u :=
 ⟨k.keep h.a h1,k.keep h.b h1,k.keepf h.a h.fa h1,k.keepf h.b h.fb h1⟩
theorem Cel2.fr {w w':World} {r:Nat} {v u:Value} (h:Cel2 w r v u) (k:Fr w w'):Cel2 w' r v u:=h.fx (p:=fun _=>False) (Fx.of_fr k) (fun e=>e)
theorem Cel2.new (w:World) (v u:Value) (t:TypeId):Cel2 (w.alloc (.cells #[v,u] t)) w.heap.size v u :=
 ⟨(new2a w v u t).1,(new2b w v u t).1,(new2a w v u t).2,(new2b w v u t).2⟩
theorem Cel2.set0 {w:World} {r:Nat} {v u:Value} (h:Cel2 w r v u) (v':Value):Cel2 (w.setCell ⟨r,0,none⟩ v') r v' u :=
 ⟨World.cell?_setCell_same' _ _ _ (by rw [h.a]; rfl),by rw [World.cell?_setCell_other _ _ _ _ (fun e=>by injection e with _ e; omega)]; exact h.b,by rw [World.frozen?_setCell]; exact h.fa,by rw [World.frozen?_setCell]; exact h.fb⟩
structure Ln where
 b:Nat
 xs:List Int
 c:Nat
 u:Value
def Ln.enc (x:Ln):Value×Value:=(.slice (some ⟨x.b,0,none⟩) x.xs.length x.c,x.u)
structure LnOwn (w:World) (base:Nat) (v:Value) (n:Nat) (L:List Ln):Prop where
 len:n=L.length
 own:w.ownsRow base 239 2 v n (flat2 (L.map Ln.enc))
 row:∀ x,x ∈ L→base≤x.b∧v.ownBlock≠some x.b∧Own w x.b 0 x.xs∧∃ g n c,x.u=.slice g n c
theorem LnOwn.nil (w:World) (base:Nat):LnOwn w base (.slice none 0 0) 0 []:=⟨rfl,World.ownsRow_nil _ _ _ _,fun x hx=>by cases hx⟩
theorem LnOwn.fr {w w':World} {base:Nat} {v:Value} {n:Nat} {L:List Ln} (h:LnOwn w base v n L) (k:Fr w w'):LnOwn w' base v n L :=
 ⟨h.len,ownsRow_fr h.own k,fun x hx=>by
  obtain ⟨h1,h2,h3,h4⟩:=h.row x hx
  exact ⟨h1,h2,h3.fr k,h4⟩⟩
theorem LnOwn.push {w w':World} {base:Nat} {v v':Value} {n:Nat} {L:List Ln} (h:LnOwn w base v n L) {x:Ln} (hb:base≤x.b) (hv:v.ownBlock≠some x.b) (hel:Own w x.b 0 x.xs) (hu:∃ g n c,x.u=.slice g n c)
 (hown:w'.ownsRow base 239 2 v' (n+1) (flat2 (L.map Ln.enc) ++ [x.enc.1,x.enc.2])) (hg:w.grownBy w' v.ownBlock) (hat:v.ownBlock=v'.ownBlock∨∀ k,v'.ownBlock=some k→w.heap.size≤k):LnOwn w' base v' (n+1) (L ++ [x]):=by
 have hfx:=Fx.of_grown hg
 have key:∀ (y:Ln),base≤y.b→v.ownBlock≠some y.b→Own w y.b 0 y.xs→(∃ g n c,y.u=.slice g n c)→base≤y.b∧v'.ownBlock≠some y.b∧Own w' y.b 0 y.xs∧∃ g n c,y.u=.slice g n c:=fun y h1 h2 h3 h4=>by
  refine ⟨h1,fun e2=>?_,h3.fx hfx (fun e2=>h2 e2),h4⟩
  rcases hat with h9 | h9
  ·rw [h9] at h2; exact h2 e2
  ·have:=h9 _ e2; have:=h3.2.1; omega
 refine ⟨by rw [List.length_append,← h.len]; rfl,by rw [List.map_append,List.map_singleton,flat2_snoc]; exact hown,fun y hy=>?_⟩
 rcases List.mem_append.1 hy with h9 | h9
 ·obtain ⟨h1,h2,h3,h4⟩:=h.row y h9
  exact key y h1 h2 h3 h4
 ·rw [List.mem_singleton] at h9
  subst h9
  exact key y hb hv hel hu
theorem Fx.grownX {p:Nat→Prop} {a b c:World} {row:Option Nat} (h1:Fx p a b) (hg:b.grownBy c row) (hr:∀ k,row=some k→a.heap.size≤k):Fx p a c:=by
 have h2:=Fx.of_grown hg
 exact ⟨h2.os.trans h1.os,h2.tape.trans h1.tape,h2.output.trans h1.output,Nat.le_trans h1.size h2.size,fun q hq1 hq2=>by
  rw [h2.block q (Nat.lt_of_lt_of_le hq1 h1.size) (fun e=>by have:=hr q e; omega)]
  exact h1.block q hq1 hq2⟩
theorem infoLine:(Tryz.prog.info? 239).map (fun i=>(i.zero,i.size,i.bytes))=some (some (.agg #[.slice none 0 0,.slice none 0 0]),2,48):=by kernel_rfl
def LinesRet (w:World) (m:List (List Int)) (e:Ending) (w':World):Prop:=∃ v L,e=.returned v∧LnOwn w' w.heap.size v m.length L∧L.map Ln.xs=m∧Fr w w'
theorem Lines_any (m:List (List Int)) (a:Option Addr) (cap n:Nat) (w:World) (hG:G w) (hm:MatIs w a m) (hr:Rect n m) (hn1:1≤n) (hn2:n≤1000000) (hl:m.length≤1000000) (hb:∀ r,r ∈ m→∀ x,x ∈ r→Sm x) :
 Calls Tryz.prog 183 #[.slice a m.length cap] w (LinesRet w m):=by
 have hgn:=gN_le hG
 obtain ⟨i1,ji,jz0,jz1,jz2⟩:=info_parts infoLine
 obtain ⟨i2,ki,kz0,kz1,kz2⟩:=info_parts info65
 obtain ⟨N,hN⟩:∃ N,N=m.length:=⟨_,rfl⟩
 unfold LinesRet
 rw [← hN] at hl ⊢
 replace hN:=hZ hN
 replace hm:=hZ hm
 replace hr:=hZ hr
 replace hb:=hZ hb
 replace hG:=hZ hG
 go_enter Tryz.func183,Tryz.ntmps183
 go_wp2_with fail
 go_loopg [3,11] N (fun k s3 s11 wr=>∃ (i:Nat) (L:List Ln),s11=.int .i64 i∧i+k=N∧Fr w wr∧Hid (LnOwn wr w.heap.size s3 i L)∧Hid (L.map Ln.xs=m.take i))
 case atStart=>exact ⟨0,[],rfl,by omega,Fr.refl _,LnOwn.nil _ _,rfl⟩
 case round=>
  obtain ⟨i,L,rfl,hik,hf,hown,hmap⟩:=hrel
  by_cases hi:i < N
  ·have hdI:decide (i < N)=true:=decide_eq_true hi
   have hi':i < m.length:=by rw [← hN.out]; exact hi
   obtain ⟨b,o,ra,rc,rfl,hc,hel⟩:=(hm.out.fr hf).at hi'
   have hrow:=hr.out.row hi'
   have hsn:=hZ (take_snoc (List.getElem?_eq_getElem hi'))
   have hsx:=hZ (hb.out _ (List.getElem_mem hi'))
   rw [hrow] at hc
   generalize m[i]=r at *
   obtain ⟨wo,rfl⟩:∃ wo:World,wo=wr:=⟨_,rfl⟩
   obtain ⟨ko,rfl⟩:∃ ko:Nat,ko=gk:=⟨_,rfl⟩
   replace hel:=hZ hel
   replace hrow:=hZ hrow
   have z0:(0:Int)≤(i:Int):=Int.natCast_nonneg _
   have z1:(i:Int) < (N:Int):=by omega
   have hrep:=hZ (fun (W:World) (h:W.cell? ⟨wo.heap.size,0,none⟩=some (sv 0))=>Repeat_one wo.heap.size 0 1 N 0 W (by omega) (by omega) h)
   have hs0:(sv 0)=.string ⟨#[48]⟩:=by unfold sv; rw [tx_zero]
   have c0:(wo.alloc (.cells #[.string ⟨#[48]⟩] 80)).cell? ⟨wo.heap.size,0,none⟩=some (sv 0):=by rw [hs0]; exact new_cell _ _ _
   have f0:Fr wo (wo.alloc (.cells #[.string ⟨#[48]⟩] 80)):=(Fr.refl _).alloc _
   go_wp2_with fail
   refine (hrep.out _ c0).mono ?_
   rintro e w2 ⟨g,cg,rfl,hf2,hown2⟩
   have f2:=f0.trans hf2
   rw [World.size_alloc] at hown2
   clear c0 f0 hrep hc
   obtain ⟨W3,hW3⟩:∃ W3,W3=w2.alloc (.cells #[.slice none 0 0,.slice (some ⟨g,0,none⟩) N cg] 239):=⟨_,rfl⟩
   have f3':Fr w2 W3:=by rw [hW3]; exact (Fr.refl _).alloc _
   obtain ⟨lb,hlb⟩:∃ lb,lb=w2.heap.size:=⟨_,rfl⟩
   have hC3:Cel2 W3 lb (.slice none 0 0) (.slice (some ⟨g,0,none⟩) N cg):=by rw [hW3,hlb]; exact Cel2.new _ _ _ _
   have hz3:W3.heap.size=lb+1:=by rw [hW3,hlb]; simp
   have hown3:=ownsRow_fr hown2 f3'
   have f3:=f2.trans f3'
   have hgl:g < lb:=by rw [hlb]; exact (hown2.lt g rfl).2
   have hgw:wo.heap.size+1≤g:=(hown2.lt g rfl).1
   have n1:=hC3.b
   have n2:W3.cell? ⟨g,i,none⟩=some (sv 0):=by
    rw [hown3.cellAt i (by omega)]
    rw [List.getElem?_replicate,if_pos hi]
   have n3:=hown3.frozenAt i
   go_upto_region 6 with (fail)
   rw [← hW3,← hlb]
   clear hW3 hown2 hown3 f2 f3' hf2
   replace hlb:=hZ hlb
   obtain ⟨W4,hW4⟩:∃ W4,W4=W3.setCell ⟨g,i,none⟩ (.string ⟨#[49]⟩):=⟨_,rfl⟩
   have fx4:Fx (·=g) W3 W4:=by rw [hW4]; exact Fx.setCell (p:=(·=g)) (q:=⟨g,i,none⟩) (Fx.refl _ _) (.inl rfl) _
   have f4:Fr wo W4:=by rw [hW4]; exact f3.setCell (p:=⟨g,i,none⟩) (by show _≤g; omega) _
   have hC4:=hZ (hC3.fx fx4 (fun e=>by have e:lb=g:=e; omega))
   have hz4:W4.heap.size=lb+1:=by rw [← hz3,hW4]; simp
   go_upto_region 7 with (fail)
   rw [← hW4]
   clear hW4 n1 n2 n3 fx4 hC3 hz3
   go_wp2_with fail
   go_loopg [27] n (fun k2 s27 wr=>∃ (t:Nat) (v:Value),s27=.int .i64 t∧t+k2=n∧Fx (·=lb) W4 wr∧Hid (Cel2 wr lb v (.slice (some ⟨g,0,none⟩) N cg))∧Hid (wr.ownsRow (lb+1) 80 1 v t ((r.take t).map sv)))
   case atStart=>exact ⟨0,_,rfl,by omega,Fx.refl _ _,hC4.out,World.ownsRow_nil _ _ _ _⟩
   case round=>
    clear hC4
    obtain ⟨t,v,rfl,htk,hfx,hC,hown2⟩:=hrel
    have hf5:Fr wo wr:=((Fx.of_fr f4).trans hfx).toFr (fun k hk e=>by have e:k=lb:=e; omega)
    have hlr:lb < wr.heap.size:=hC.out.lt
    obtain ⟨wv,rfl⟩:∃ wv:World,wv=wr:=⟨_,rfl⟩
    obtain ⟨kv,rfl⟩:∃ kv:Nat,kv=gk:=⟨_,rfl⟩
    by_cases ht:t < n
    ·have hdT:decide (t < n)=true:=decide_eq_true ht
     obtain ⟨b2,o2,x,rfl,hbl2,hxt,hcx⟩:=(hel.out.fr hf5).at (i:=t) (by rw [hrow.out]; exact ht)
     have hsx1:=hsx.out x (List.mem_of_getElem? hxt)
     unfold Sm at hsx1
     have hsn2:=hZ (take_snoc hxt)
     replace hxt:=hZ hxt
     have y0:(0:Int)≤(t:Int):=Int.natCast_nonneg _
     have y1:(t:Int) < (n:Int):=by omega
     have nv:=hC.out.a
     have nf:=hC.out.fa
     have hof:=hZ (fun W (hW:Fr wv W)=>Of_any x (by omega) (by omega) W ((hG.out.fr (hf.trans hf5)).fr hW))
     have hS0:=hZ (fun W' (hW':Fr wv W')=>hW'.keep nv)
     have hvb:∀ k,v.ownBlock=some k→lb+1≤k∧k < wv.heap.size:=hown2.out.lt
     replace hvb:=hZ hvb
     go_wp2_with fail
     refine wp_region_U (S:=fun W'=>W'.cell? ⟨lb,0,none⟩=some v) 7 (by kernel_rfl) (hS0.out _ ((Fr.refl _).drew)) (fun hHeld=>?_)
     refine uK 0 ?_
     refine uK 1 ?_
     refine uK 2 ?_
     refine uC 3 (fun K hK=>?_)
     go_simp
     (refine (hof.out _ (by exact fr9)).mono ?_; rintro e w6 ⟨rfl,hf6⟩)
     go_wp2_with fail
     refine hK.out _ _ (hS0.out _ (by exact fr9)) (fun hHeld=>?_)
     clear hK K
     refine uC 4 (fun K hK=>?_)
     go_simp
     refine hK.out _ _ (hS0.out _ (by exact fr9)) (fun hHeld=>?_)
     clear hK K
     have hf6w:Fr wv w6:=by exact fr9
     have hf7:Fr wv (w6.alloc (.cells #[.string (tx x)] 80)):=hf6w.alloc _
     have hown7:=ownsRow_fr hown2.out hf7
     have hcs:=cell_one_newN w6 (.string (tx x)) 80 w6.heap.size rfl
     have hz6:=hf6w.size
     have hSA:∀ wA,(w6.alloc (.cells #[.string (tx x)] 80)).grownBy wA v.ownBlock→(wA.cell? ⟨lb,0,none⟩=some v)∧wA.frozen? ⟨lb,0,none⟩=false:=fun wA hgr=>
      ⟨(Fx.of_grown hgr).keep (q:=⟨lb,0,none⟩) (hf7.keep nv) (fun e=>by have e1:lb+1≤lb:=(hvb.out lb e).1; omega),(Fx.of_grown hgr).keepf (q:=⟨lb,0,none⟩) (hf7.keep nv) (hf7.keepf nv nf) (fun e=>by have e1:lb+1≤lb:=(hvb.out lb e).1; omega)⟩
     replace hSA:=hZ hSA
     replace hcs:=hZ hcs
     refine uC 5 (fun K hK=>?_)
     (refine step_append_lies _ rfl (.tmp 32) (.tmp 35) 119 rfl (lb+1) 80 i2 _ 1 16 Tryz.underlying119 ki kz0 kz1 kz2 rfl (by decide) v t ((r.take t).map sv) (by simp [Act.eval]) hown7 ⟨w6.heap.size,0,none⟩ 1 1 [.string (tx x)] (by simp [Act.eval]) rfl hcs.out (by simp [Value.oneCell']) (by decide) (by unfold maxLen; omega) (by omega) (by simp; omega) (w6.heap.size+1) (by simp) ?_; intro gA capA wA hownA hgrowA hatA hltA)
     refine hK.out _ _ ((hSA.out wA hgrowA).1) (fun hHeld=>?_)
     clear hK K
     have hSA2:=hSA.out wA hgrowA
     obtain ⟨p1,p3⟩:=hSA2
     replace hownA:=hZ hownA
     refine uK 6 ?_
     clear hHeld
     refine uL 7 (fun K hK=>?_)
     go_simp
     refine hK.out _ _ ?_
     clear hK K
     have hfxA:Fx (·=lb) W4 wA:=(hfx.fr hf7).grownX hgrowA (fun k e=>by have:=(hvb.out k e).1; omega)
     have hfx9:Fx (·=lb) wA (wA.setCell ⟨lb,0,none⟩ (.slice (some ⟨gA,0,none⟩) (t+1) capA)):=Fx.setCell (p:=(·=lb)) (q:=⟨lb,0,none⟩) (Fx.refl _ wA) (.inl rfl) _
     have hC7:Cel2 wA lb v (.slice (some ⟨g,0,none⟩) N cg):=(hC.out.fr hf7).fx (Fx.of_grown hgrowA) (fun e=>by have e1:lb+1≤lb:=(hvb.out lb e).1; omega)
     have hC9:=hC7.set0 (.slice (some ⟨gA,0,none⟩) (t+1) capA)
     have hown9:=ownsRow_fx hownA.out hfx9 (fun k e=>fun e2=>by have e2:k=lb:=e2; have:=(hownA.out.lt k e).1; omega)
     replace hown9:=hZ hown9
     go_wp2_with fail
     go_roundg (kv - 1)
     case measure=>omega
     case rel=>exact ⟨t+1,_,by go_num,by omega,hfxA.trans hfx9,hC9,by show World.ownsRow _ _ _ _ _ _ _; rw [hsn2.out,List.map_append]; exact hown9.out⟩
    ·have hdT:decide (t < n)=false:=decide_eq_false ht
     obtain rfl:n=t:=by omega
     have hown9:=hown2.out
     rw [List.take_of_length_le (by rw [hrow.out]; exact Nat.le_refl _)] at hown9
     obtain ⟨gx,cx,rfl,hgx⟩:∃ gx cx,v=.slice (some ⟨gx,0,none⟩) n cx∧lb+1≤gx:=by
      rcases hown9.2 with ⟨-,h9⟩ | ⟨gx,cx,cur,h9,h8,_⟩
      ·omega
      ·exact ⟨gx,cx,h9,h8⟩
     obtain ⟨hO,-,-,-,-⟩:=ownsRow_own (by have:=hf.size; omega) hown9
     have m0:=hC.out.a
     have m1:=hC.out.b
     have hL9:=hown.out.fr hf5
     have hfa:Fr wv (wv.alloc (.cells #[.slice (some ⟨gx,0,none⟩) n cx,.slice (some ⟨g,0,none⟩) N cg] 239)):=(Fr.refl _).alloc _
     have hL10:=hL9.fr hfa
     have hownG:=hL10.own
     have hcs:=cell_twoQ wv (.slice (some ⟨gx,0,none⟩) n cx) (.slice (some ⟨g,0,none⟩) N cg) 239 wv.heap.size rfl
     have hub:∀ k,u3.ownBlock=some k→k < wo.heap.size:=fun k e=>(hown.out.own.lt k e).2
     replace hL10:=hZ hL10
     replace hcs:=hZ hcs
     replace hub:=hZ hub
     have hz6:=hf.size
     have hz7:=hf5.size
     clear hL9 hown2 hown9
     go_wp2_with (at_builtin; refine wpList_append_lies _ rfl _ _ 240 (by rfl) _ 239 _ _ 2 48 Tryz.underlying240 ji jz0 jz1 jz2 rfl (by decide) _ i _ (by rfl) hownG ⟨wv.heap.size,0,none⟩ 1 1 [.slice (some ⟨gx,0,none⟩) n cx,.slice (some ⟨g,0,none⟩) N cg] (by rfl) rfl hcs.out (by simp [Value.oneCell']) (by decide) (by unfold maxLen; omega) (by omega) (by simp; omega) (wv.heap.size+1) (by simp) ?_; intro gA capA wA hownA hgrowA hatA hltA; replace hownA:=hZ hownA)
     have hpush:=hL10.out.push (v':=.slice (some ⟨gA,0,none⟩) (i+1) capA) (x:=⟨gx,r,cx,.slice (some ⟨g,0,none⟩) N cg⟩) (by have:=hf.size; show _≤gx; omega) (fun e=>by have e1:gx < wo.heap.size:=hub.out gx e; omega) (hO.fr hfa) ⟨_,_,_,rfl⟩ (by unfold Ln.enc; rw [hrow.out]; exact hownA.out) hgrowA (hatA.imp id (fun e k hk=>by have hk:some gA=some k:=hk; injection hk with hk; rw [← hk,e]; simp))
     have hfrA:Fr w wA:=((hf.trans hf5).trans hfa).grown hgrowA (fun k e=>(hown.out.own.lt k e).1)
     go_wp2_with fail
     go_roundg (ko - 1)
     case measure=>omega
     case rel=>exact ⟨i+1,_,by go_num,by omega,hfrA,hpush,by show _=_; rw [List.map_append,hmap.out,hsn.out]; rfl⟩
  ·have hdI:decide (i < N)=false:=decide_eq_false hi
   obtain rfl:N=i:=by omega
   have hmap9:=hmap.out
   rw [List.take_of_length_le (by rw [← hN.out]; exact Nat.le_refl _)] at hmap9
   replace hmap9:=hZ hmap9
   go_wp2_with fail
   go_ret
   exact ⟨_,L,rfl,hown.out,hmap9.out,hf⟩
theorem mid_same {α:Type} (zs xs:List α) (k:Nat) (_hl:zs.length=xs.length) (hk:k < xs.length) (hz:zs[k]?=xs[k]?):zs.take (k+1) ++ xs.drop (k+1)=zs.take k ++ xs.drop k:=by
 rw [List.take_add_one,hz,List.getElem?_eq_getElem hk,List.drop_eq_getElem_cons hk,Option.toList_some,List.append_assoc,List.singleton_append]
theorem htake_any (lb lo lc ob oo oc kb n m:Nat) (q:Int) (xs ys zs:List Int) (w:World) (hG:G w) (hk:w.cell? ⟨kb,0,none⟩=some (sv q)) (hkl:kb≠lb) (hx:Own w lb lo xs) (hy:Own w ob oo ys) (hne:lb≠ob) (hl:xs.length≤1000000000)
 (hn:n=xs.length) (hm:m=ys.length) (hnm:ys.length=xs.length) (hs:takeLW q xs ys=some zs) :
 Calls Tryz.prog 209 #[.slice (some ⟨lb,lo,none⟩) n lc,.slice (some ⟨ob,oo,none⟩) m oc,.pointer (some ⟨kb,0,none⟩)] w fun e w'=>e=.returned (.tuple #[])∧Fx (·=lb) w w'∧Own w' lb lo zs:=by
 obtain ⟨hzl,hz⟩:=takeLW_spec q xs ys zs hs
 replace hzl:=hZ hzl
 replace hz:=hZ hz
 clear hs
 rw [hnm] at hm
 subst hm
 subst hn
 replace hnm:=hZ hnm
 go_enter Tryz.func209,Tryz.ntmps209
 go_wp2_with fail
 go_loopw [5,6,9] (fun _ _ s9 wr=>∃ k:Nat,s9=.int .i64 k∧k≤xs.length∧Fx (·=lb) w wr∧Own wr lb lo (zs.take k ++ xs.drop k)) (fun _ _ s9 _=>xs.length - (RowKit.intOf s9).toNat)
 case atStart=>exact ⟨0,rfl,Nat.zero_le _,Fx.refl _ _,by simpa using hx⟩
 case round=>
  obtain ⟨k,rfl,hk',hf,ho⟩:=hrel
  by_cases hlt:k < xs.length
  ·have hxk:∃ x,xs[k]?=some x:=⟨xs[k],List.getElem?_eq_getElem hlt⟩
   obtain ⟨x,hxk⟩:=hxk
   obtain ⟨y,hyk,hok,hzk⟩:=hz.out k x hxk
   obtain ⟨tq,ty,sx⟩:=okW_wd hok
   have hGr:=hG.fx hf (fun j e=>by rw [e]; exact hx.1)
   have hoc:=ho.2.2 k x (by rw [mid_get zs xs k hzl.out hlt]; exact hxk)
   have hkl2:k < ys.length:=(List.getElem?_eq_some_iff.1 hyk).1
   obtain ⟨hoc,hof⟩:=hoc
   obtain ⟨hyc,_⟩:=(hy.fx hf (fun e=>hne e.symm)).2.2 k y hyk
   have hqc:=hf.keep hk hkl
   have hlb:lb < wr.heap.size:=ho.2.1
   have hob:ob < wr.heap.size:=(hy.fx hf (fun e=>hne e.symm)).2.1
   have hb:=tx_beq0 y
   by_cases hy0:y=0
   ·rw [decide_eq_true hy0] at hb
    have hsame:=mid_same zs xs k hzl.out hlt (by rw [hzk,hxk,hy0]; simp)
    have ho2:=hZ ho
    rw [← hsame] at ho2
    replace hxk:=hZ hxk
    replace hyk:=hZ hyk
    replace hzk:=hZ hzk
    replace hy0:=hZ hy0
    clear ho hok hsame
    have k0:(0:Int)≤(k:Int):=Int.natCast_nonneg _
    have k1:(k:Int) < (xs.length:Int):=by omega
    go_wp2_with fail
    go_roundw
    case rel=>exact ⟨k+1,by go_num,by omega,hf,ho2.out⟩
    case measure=>simp [RowKit.intOf]; omega
   ·rw [decide_eq_false hy0] at hb
    replace hxk:=hZ hxk
    replace hyk:=hZ hyk
    replace hzk:=hZ hzk
    replace hy0:=hZ hy0
    have hset:=hZ (mid_set zs xs k hzl.out hlt _ hzk.out)
    have ho2:=hZ ho
    clear ho hok
    have k0:(0:Int)≤(k:Int):=Int.natCast_nonneg _
    have k1:(k:Int) < (xs.length:Int):=by omega
    go_wp2_with fail
    go_region_with (first | (go_at_call 95; refine (MulWd q y tq ty _ (hGr.fr ?_)).mono ?_; (exact fr9); rintro e w1 ⟨rfl,hf1⟩; have c1:=hf1.keep (p:=⟨lb,lo+k,none⟩) hoc; have c3:=hf1.keepf (p:=⟨lb,lo+k,none⟩) hoc hof) | (go_at_call 156; refine (SubWd x q y sx tq ty _ (hGr.fr ?_)).mono ?_; (exact fr9); rintro e w2 ⟨rfl,hf2⟩; have d1:=hf2.keep c1; have d3:=hf2.keepf c1 c3))
    all_goals
     have hfr:Fr wr w2:=by exact fr9
     have hO:=(ho2.out.fr hfr).set (k:=k) (by simp; have:=hzl.out; omega) (x - q * y)
     rw [hset.out] at hO
     have hF:=(hf.fr hfr).setCell (q:=⟨lb,lo+k,none⟩) (.inl rfl) (sv (x - q * y))
     go_wp2_with fail
     go_roundw
     case rel=>exact ⟨k+1,by go_num,by omega,hF,hO⟩
     case measure=>simp [RowKit.intOf]; omega
  ·go_wp2_with fail
   go_end0
   refine ⟨rfl,hf, ?_⟩
   have:k=xs.length:=by omega
   subst this
   rw [List.drop_length,List.append_nil,List.take_of_length_le (by have:=hzl.out; omega)] at ho
   exact ho
theorem htake_nil (u:Value) (kb:Nat) (w:World) :
 Calls Tryz.prog 209 #[u,.slice none 0 0,.pointer (some ⟨kb,0,none⟩)] w fun e w'=>e=.returned (.tuple #[])∧Fr w w':=by
 go_enter Tryz.func209,Tryz.ntmps209
 go_wp2_with fail
 go_loopg [9] 0 (fun _ s9 wr=>s9=.int .i64 0∧w=wr)
 case atStart=>exact ⟨rfl,rfl⟩
 case round=>
  obtain ⟨rfl,rfl⟩:=hrel
  go_wp2_with fail
  go_end0
  exact ⟨rfl,Fr.refl _⟩
theorem hless_any (lb lo lc ob oo oc n m:Nat) (q:Int) (u:Value) (xs ys zs:List Int) (w:World) (hG:G w) (hx:Own w lb lo xs) (hy:Own w ob oo ys) (hne:lb≠ob) (hl:xs.length≤1000000000)
 (hn:n=xs.length) (hm:m=ys.length) (hnm:ys.length=xs.length) (_hu:u.oneCell'=true) (hs:takeSW q xs ys=some zs) :
 Calls Tryz.prog 185 #[.agg #[.slice (some ⟨lb,lo,none⟩) n lc,u],.string (tx q),.agg #[.slice (some ⟨ob,oo,none⟩) m oc,.slice none 0 0]] w fun e w'=>e=.returned (.tuple #[])∧Fx (·=lb) w w'∧Own w' lb lo zs:=by
 replace hn:=hZ hn
 replace hm:=hZ hm
 replace hnm:=hZ hnm
 have hb:=tx_beq0 q
 have hgn:=gN_le hG
 have hlt:=hx.2.1
 have hlt2:=hy.2.1
 obtain ⟨W,hW⟩:∃ W,W=((w.alloc (.cells #[.slice (some ⟨lb,lo,none⟩) n lc,u] 239)).alloc (.cells #[.string (tx q)] 80)).alloc (.cells #[.slice (some ⟨ob,oo,none⟩) m oc,.slice none 0 0] 239):=⟨_,rfl⟩
 obtain ⟨wb,hwb⟩:∃ wb,wb=w.heap.size:=⟨_,rfl⟩
 have hf:Fr w W:=by rw [hW]; exact (((Fr.refl _).alloc _).alloc _).alloc _
 have c0:W.cell? ⟨wb,0,none⟩=some (.slice (some ⟨lb,lo,none⟩) n lc):=by
  rw [hW,hwb]
  exact (((Fr.refl _).alloc _).alloc _:Fr (w.alloc _) _).keep (new2a w _ _ _).1
 have c1:W.cell? ⟨wb,1,none⟩=some u:=by
  rw [hW,hwb]
  exact (((Fr.refl _).alloc _).alloc _:Fr (w.alloc _) _).keep (new2b w _ _ _).1
 have c2:W.cell? ⟨wb+1,0,none⟩=some (.string (tx q)):=by
  rw [hW,hwb]
  have:=new_cell (w.alloc (.cells #[.slice (some ⟨lb,lo,none⟩) n lc,u] 239)) (.string (tx q)) 80
  rw [World.size_alloc] at this
  exact ((Fr.refl _).alloc _).keep this
 have c3:W.cell? ⟨wb+2,0,none⟩=some (.slice (some ⟨ob,oo,none⟩) m oc):=by
  rw [hW,hwb]
  have:=new2a ((w.alloc (.cells #[.slice (some ⟨lb,lo,none⟩) n lc,u] 239)).alloc (.cells #[.string (tx q)] 80)) (.slice (some ⟨ob,oo,none⟩) m oc) (.slice none 0 0) 239
  rw [World.size_alloc,World.size_alloc] at this
  exact this.1
 have c4:W.cell? ⟨wb+2,1,none⟩=some (.slice none 0 0):=by
  rw [hW,hwb]
  have:=new2b ((w.alloc (.cells #[.slice (some ⟨lb,lo,none⟩) n lc,u] 239)).alloc (.cells #[.string (tx q)] 80)) (.slice (some ⟨ob,oo,none⟩) m oc) (.slice none 0 0) 239
  rw [World.size_alloc,World.size_alloc] at this
  exact this.1
 have hxW:=hx.fr hf
 have hyW:=hy.fr hf
 have hGW:=hG.fr hf
 by_cases hq0:q=0
 ·rw [decide_eq_true hq0] at hb
  unfold takeSW at hs
  rw [if_pos hq0] at hs
  injection hs with hs; subst hs
  clear hq0
  go_enter Tryz.func185,Tryz.ntmps185
  go_upto_region 1 with (fail)
  rw [← hW,← hwb]
  clear hW
  replace hwb:=hZ hwb
  go_wp2_with fail
  exact bodyPost_ret (results_none rfl _ _ _) rfl ⟨rfl,Fx.of_fr hf,hxW⟩
 ·rw [decide_eq_false hq0] at hb
  unfold takeSW at hs
  rw [if_neg hq0] at hs
  have ht1:=hZ (fun W' (hW':Fr W W')=>htake_any lb lo lc ob oo oc (wb+1) n m q xs ys zs W' (hGW.fr hW') (hW'.keep c2) (by omega) (hxW.fr hW') (hyW.fr hW') hne hl hn.out hm.out hnm.out hs)
  go_enter Tryz.func185,Tryz.ntmps185
  go_upto_region 1 with (fail)
  rw [← hW,← hwb]
  clear hW hn hm hs hnm
  replace hwb:=hZ hwb
  replace hxW:=hZ hxW
  replace hyW:=hZ hyW
  go_wp2_with fail
  refine (ht1.out _ (Fr.refl _)).mono ?_
  rintro e w1 ⟨rfl,hf1,ho1⟩
  have hne1:wb≠lb:=by have:=hwb.out; omega
  have hne2:wb+2≠lb:=by have:=hwb.out; omega
  have d1:=hf1.keep c1 hne1
  have d4:=hf1.keep c4 hne2
  have hF:=(Fx.of_fr hf).trans hf1
  replace ho1:=hZ ho1
  clear c0 c1 c2 c3 c4
  go_wp2_with fail
  refine (htake_nil u (wb+1) _).mono ?_
  rintro e w2 ⟨rfl,hf2⟩
  go_wp2_with fail
  go_end0
  exact ⟨rfl,hF.fr hf2,ho1.out.fr hf2⟩
end Go.Proofs.YtiniigadkknboaaGreatDoor
