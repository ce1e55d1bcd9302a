/- Contracts and laws: GBG. -/
import Derived.Test.YtiniigadkknboaaGreatDoorGBF
import Derived.Test.YtiniigadkknboaaGreatDoorGAG
import Derived.Test.YtiniigadkknboaaGreatDoorGAI
import Derived.Test.YtiniigadkknboaaGreatDoorGAR
import Derived.Test.YtiniigadkknboaaGreatDoorGAC
import Derived.Test.YtiniigadkknboaaGreatDoorGAV
import Derived.Test.YtiniigadkknboaaGreatDoorGAT

set_option maxRecDepth 100000
set_option maxHeartbeats 8000000
namespace Go.Proofs.YtiniigadkknboaaGreatDoor
open Go.RowKit Go.Lib
attribute [local go_sem ↓] Go.wp_at_zero Go.wp_at_succ
structure Ln where
 b:Nat
 xs:List Int
 c:Nat
 u:Value
def Ln.enc (x:Ln):Value×Value:=(.slice (some ⟨x.b,0,none⟩) x.xs.length x.c,x.u)
structure HL (w:World) (base:Nat) (v:Value) (n:Nat) (L:List Ln):Prop where
 len:n=L.length
 own:w.ownsRow base 239 2 v n (Fu (L.map Ln.enc))
 row:∀ x,x ∈ L→base≤x.b∧v.ownBlock≠some x.b∧Own w x.b 0 x.xs∧∃ g n c,x.u=.slice g n c
theorem HL.nil (w:World) (base:Nat):HL w base (.slice none 0 0) 0 []:=⟨rfl,Bl _ _ _ _,fun x hx=>by cases hx⟩
theorem HL.fr {w w':World} {base:Nat} {v:Value} {n:Nat} {L:List Ln} (h:HL w base v n L) (k:Fr w w'):HL w' base v n L :=
 ⟨h.len,Bg h.own k,fun x hx=>by
  obtain ⟨h1,h2,h3,h4⟩:=h.row x hx
  exact ⟨h1,h2,h3.fr k,h4⟩⟩
theorem HL.push {w w':World} {base:Nat} {v v':Value} {n:Nat} {L:List Ln} (h:HL w base v n L) {x:Ln} (hb:base≤x.b) (hv:v.ownBlock≠some x.b) (hel:Own w x.b 0 x.xs) (hu:∃ g n c,x.u=.slice g n c)
 (hown:w'.ownsRow base 239 2 v' (n+1) (Fu (L.map Ln.enc) ++ [x.enc.1,x.enc.2])) (hg:w.grownBy w' v.ownBlock) (hat:v.ownBlock=v'.ownBlock∨∀ k,v'.ownBlock=some k→w.heap.size≤k):HL w' base v' (n+1) (L ++ [x]):=by
 have hfx:=Fx.of_grown hg
 have key:∀ (y:Ln),base≤y.b→v.ownBlock≠some y.b→Own w y.b 0 y.xs→(∃ g n c,y.u=.slice g n c)→base≤y.b∧v'.ownBlock≠some y.b∧Own w' y.b 0 y.xs∧∃ g n c,y.u=.slice g n c:=fun y h1 h2 h3 h4=>by
  refine ⟨h1,fun e2=>?_,h3.fx hfx (fun e2=>h2 e2),h4⟩
  rcases hat with h9 | h9
  ·rw [h9] at h2; exact h2 e2
  ·have:=h9 _ e2; have:=h3.2.1; omega
 refine ⟨by rw [Ar,← h.len]; rfl,by rw [Ay,List.map_singleton,Qw]; exact hown,fun y hy=>?_⟩
 rcases BD.1 hy with h9 | h9
 ·obtain ⟨h1,h2,h3,h4⟩:=h.row y h9
  exact key y h1 h2 h3 h4
 ·rw [AX] at h9
  subst h9
  exact key y hb hv hel hu
theorem Fx.grownX {p:Nat→Prop} {a b c:World} {row:Option Nat} (h1:Fx p a b) (hg:b.grownBy c row) (hr:∀ k,row=some k→a.heap.size≤k):Fx p a c:=by
 have h2:=Fx.of_grown hg
 exact ⟨h2.os.trans h1.os,h2.tape.trans h1.tape,h2.output.trans h1.output,As h1.size h2.size,fun q hq1 hq2=>by
  rw [h2.block q (Aq hq1 h1.size) (fun e=>by have:=hr q e; omega)]
  exact h1.block q hq1 hq2⟩
theorem Uw:(Tryz.prog.info? 239).map (fun i=>(i.zero,i.size,i.bytes))=some (some (.agg #[.slice none 0 0,.slice none 0 0]),2,48):=by kernel_rfl
def PH (w:World) (m:List (List Int)) (e:Ending) (w':World):Prop:=∃ v L,e=.returned v∧HL w' w.heap.size v m.length L∧L.map Ln.xs=m∧Fr w w'
theorem Nd (m:List (List Int)) (a:Option Addr) (cap n:Nat) (w:World) (hG:G w) (hm:A5 w a m) (hr:Bx n m) (hn1:1≤n) (hn2:n≤1000000) (hl:m.length≤1000000) (hb:∀ r,r ∈ m→∀ x,x ∈ r→Sm x) :
 Calls Tryz.prog 183 #[.slice a m.length cap] w (PH w m):=by
 have hgn:=GB hG
 obtain ⟨i1,ji,jz0,jz1,jz2⟩:=AZ Uw
 obtain ⟨i2,ki,kz0,kz1,kz2⟩:=AZ Iy
 obtain ⟨N,hN⟩:∃ N,N=m.length:=⟨_,rfl⟩
 unfold PH
 rw [← hN] at hl ⊢
 replace hN:=hZ hN
 replace hm:=hZ hm
 replace hr:=hZ hr
 replace hb:=hZ hb
 replace hG:=hZ hG
 go_enter Tryz.func183,Tryz.ntmps183
 go_wp2_with fail
 go_loopg [3,11] N (fun k s3 s11 wr=>∃ (i:Nat) (L:List Ln),s11=.int .i64 i∧i+k=N∧Fr w wr∧Hid (HL wr w.heap.size s3 i L)∧Hid (L.map Ln.xs=m.take i))
 case atStart=>exact ⟨0,[],rfl,by omega,Fr.refl _,HL.nil _ _,rfl⟩
 case round=>
  obtain ⟨i,L,rfl,hik,hf,hown,hmap⟩:=hrel
  by_cases hi:i < N
  ·have hdI:decide (i < N)=true:=Ab hi
   have hi':i < m.length:=by rw [← hN.out]; exact hi
   obtain ⟨b,o,ra,rc,rfl,hc,hel⟩:=(hm.out.fr hf).at hi'
   have hrow:=hr.out.row hi'
   have hsn:=hZ (BN (Ac hi'))
   have hsx:=hZ (hb.out _ (AG hi'))
   rw [hrow] at hc
   generalize m[i]=r at *
   obtain ⟨wo,rfl⟩:∃ wo:World,wo=wr:=⟨_,rfl⟩
   obtain ⟨ko,rfl⟩:∃ ko:Nat,ko=gk:=⟨_,rfl⟩
   replace hel:=hZ hel
   replace hrow:=hZ hrow
   have z0:(0:Int)≤(i:Int):=Aj _
   have z1:(i:Int) < (N:Int):=by omega
   have hrep:=hZ (fun (W:World) (h:W.cell? ⟨wo.heap.size,0,none⟩=some (sv 0))=>QH wo.heap.size 0 1 N 0 W (by omega) (by omega) h)
   have hs0:(sv 0)=.string ⟨#[48]⟩:=by unfold sv; rw [HP]
   have c0:(wo.alloc (.cells #[.string ⟨#[48]⟩] 80)).cell? ⟨wo.heap.size,0,none⟩=some (sv 0):=by rw [hs0]; exact Dt _ _ _
   have f0:Fr wo (wo.alloc (.cells #[.string ⟨#[48]⟩] 80)):=(Fr.refl _).alloc _
   go_wp2_with fail
   refine (hrep.out _ c0).mono ?_
   rintro e w2 ⟨g,cg,rfl,hf2,hown2⟩
   have f2:=f0.trans hf2
   rw [AF] at hown2
   clear c0 f0 hrep hc
   obtain ⟨W3,hW3⟩:∃ W3,W3=w2.alloc (.cells #[.slice none 0 0,.slice (some ⟨g,0,none⟩) N cg] 239):=⟨_,rfl⟩
   have f3':Fr w2 W3:=by rw [hW3]; exact (Fr.refl _).alloc _
   obtain ⟨lb,hlb⟩:∃ lb,lb=w2.heap.size:=⟨_,rfl⟩
   have hC3:Ge W3 lb (.slice none 0 0) (.slice (some ⟨g,0,none⟩) N cg):=by rw [hW3,hlb]; exact Ge.new _ _ _ _
   have hz3:W3.heap.size=lb+1:=by rw [hW3,hlb]; simp
   have hown3:=Bg hown2 f3'
   have f3:=f2.trans f3'
   have hgl:g < lb:=by rw [hlb]; exact (hown2.lt g rfl).2
   have hgw:wo.heap.size+1≤g:=(hown2.lt g rfl).1
   have n1:=hC3.b
   have n2:W3.cell? ⟨g,i,none⟩=some (sv 0):=by
    rw [hown3.cellAt i (by omega)]
    rw [Cc,Ai hi]
   have n3:=hown3.frozenAt i
   go_upto_region 6 with (fail)
   rw [← hW3,← hlb]
   clear hW3 hown2 hown3 f2 f3' hf2
   replace hlb:=hZ hlb
   obtain ⟨W4,hW4⟩:∃ W4,W4=W3.setCell ⟨g,i,none⟩ (.string ⟨#[49]⟩):=⟨_,rfl⟩
   have fx4:Fx (·=g) W3 W4:=by rw [hW4]; exact Fx.setCell (p:=(·=g)) (q:=⟨g,i,none⟩) (Fx.refl _ _) (.inl rfl) _
   have f4:Fr wo W4:=by rw [hW4]; exact f3.setCell (p:=⟨g,i,none⟩) (by show _≤g; omega) _
   have hC4:=hZ (hC3.fx fx4 (fun e=>by have e:lb=g:=e; omega))
   have hz4:W4.heap.size=lb+1:=by rw [← hz3,hW4]; simp
   go_upto_region 7 with (fail)
   rw [← hW4]
   clear hW4 n1 n2 n3 fx4 hC3 hz3
   go_wp2_with fail
   go_loopg [27] n (fun k2 s27 wr=>∃ (t:Nat) (v:Value),s27=.int .i64 t∧t+k2=n∧Fx (·=lb) W4 wr∧Hid (Ge wr lb v (.slice (some ⟨g,0,none⟩) N cg))∧Hid (wr.ownsRow (lb+1) 80 1 v t ((r.take t).map sv)))
   case atStart=>exact ⟨0,_,rfl,by omega,Fx.refl _ _,hC4.out,Bl _ _ _ _⟩
   case round=>
    clear hC4
    obtain ⟨t,v,rfl,htk,hfx,hC,hown2⟩:=hrel
    have hf5:Fr wo wr:=((Fx.of_fr f4).trans hfx).toFr (fun k hk e=>by have e:k=lb:=e; omega)
    have hlr:lb < wr.heap.size:=hC.out.lt
    obtain ⟨wv,rfl⟩:∃ wv:World,wv=wr:=⟨_,rfl⟩
    obtain ⟨kv,rfl⟩:∃ kv:Nat,kv=gk:=⟨_,rfl⟩
    by_cases ht:t < n
    ·have hdT:decide (t < n)=true:=Ab ht
     obtain ⟨b2,o2,x,rfl,hbl2,hxt,hcx⟩:=(hel.out.fr hf5).at (i:=t) (by rw [hrow.out]; exact ht)
     have hsx1:=hsx.out x (Af hxt)
     unfold Sm at hsx1
     have hsn2:=hZ (BN hxt)
     replace hxt:=hZ hxt
     have y0:(0:Int)≤(t:Int):=Aj _
     have y1:(t:Int) < (n:Int):=by omega
     have nv:=hC.out.a
     have nf:=hC.out.fa
     have hof:=hZ (fun W (hW:Fr wv W)=>Cs x (by omega) (by omega) W ((hG.out.fr (hf.trans hf5)).fr hW))
     have hS0:=hZ (fun W' (hW':Fr wv W')=>hW'.keep nv)
     have hvb:∀ k,v.ownBlock=some k→lb+1≤k∧k < wv.heap.size:=hown2.out.lt
     replace hvb:=hZ hvb
     go_wp2_with fail
     refine Dm (S:=fun W'=>W'.cell? ⟨lb,0,none⟩=some v) 7 (by kernel_rfl) (hS0.out _ ((Fr.refl _).drew)) (fun hHeld=>?_)
     refine uK 0 ?_
     refine uK 1 ?_
     refine uK 2 ?_
     refine uC 3 (fun K hK=>?_)
     go_simp
     (refine (hof.out _ (by exact B9)).mono ?_; rintro e w6 ⟨rfl,hf6⟩)
     go_wp2_with fail
     refine hK.out _ _ (hS0.out _ (by exact B9)) (fun hHeld=>?_)
     clear hK K
     refine uC 4 (fun K hK=>?_)
     go_simp
     refine hK.out _ _ (hS0.out _ (by exact B9)) (fun hHeld=>?_)
     clear hK K
     have hf6w:Fr wv w6:=by exact B9
     have hf7:Fr wv (w6.alloc (.cells #[.string (tx x)] 80)):=hf6w.alloc _
     have hown7:=Bg hown2.out hf7
     have hcs:=AK w6 (.string (tx x)) 80 w6.heap.size rfl
     have hz6:=hf6w.size
     have hSA:∀ wA,(w6.alloc (.cells #[.string (tx x)] 80)).grownBy wA v.ownBlock→(wA.cell? ⟨lb,0,none⟩=some v)∧wA.frozen? ⟨lb,0,none⟩=false:=fun wA hgr=>
      ⟨(Fx.of_grown hgr).keep (q:=⟨lb,0,none⟩) (hf7.keep nv) (fun e=>by have e1:lb+1≤lb:=(hvb.out lb e).1; omega),(Fx.of_grown hgr).keepf (q:=⟨lb,0,none⟩) (hf7.keep nv) (hf7.keepf nv nf) (fun e=>by have e1:lb+1≤lb:=(hvb.out lb e).1; omega)⟩
     replace hSA:=hZ hSA
     replace hcs:=hZ hcs
     refine uC 5 (fun K hK=>?_)
     (refine step_append_lies _ rfl (.tmp 32) (.tmp 35) 119 rfl (lb+1) 80 i2 _ 1 16 Tryz.underlying119 ki kz0 kz1 kz2 rfl (by decide) v t ((r.take t).map sv) (by simp [Act.eval]) hown7 ⟨w6.heap.size,0,none⟩ 1 1 [.string (tx x)] (by simp [Act.eval]) rfl hcs.out (by simp [Value.oneCell']) (by decide) (by unfold maxLen; omega) (by omega) (by simp; omega) (w6.heap.size+1) (by simp) ?_; intro gA capA wA hownA hgrowA hatA hltA)
     refine hK.out _ _ ((hSA.out wA hgrowA).1) (fun hHeld=>?_)
     clear hK K
     have hSA2:=hSA.out wA hgrowA
     obtain ⟨p1,p3⟩:=hSA2
     replace hownA:=hZ hownA
     refine uK 6 ?_
     clear hHeld
     refine uL 7 (fun K hK=>?_)
     go_simp
     refine hK.out _ _ ?_
     clear hK K
     have hfxA:Fx (·=lb) W4 wA:=(hfx.fr hf7).grownX hgrowA (fun k e=>by have:=(hvb.out k e).1; omega)
     have hfx9:Fx (·=lb) wA (wA.setCell ⟨lb,0,none⟩ (.slice (some ⟨gA,0,none⟩) (t+1) capA)):=Fx.setCell (p:=(·=lb)) (q:=⟨lb,0,none⟩) (Fx.refl _ wA) (.inl rfl) _
     have hC7:Ge wA lb v (.slice (some ⟨g,0,none⟩) N cg):=(hC.out.fr hf7).fx (Fx.of_grown hgrowA) (fun e=>by have e1:lb+1≤lb:=(hvb.out lb e).1; omega)
     have hC9:=hC7.set0 (.slice (some ⟨gA,0,none⟩) (t+1) capA)
     have hown9:=BW hownA.out hfx9 (fun k e=>fun e2=>by have e2:k=lb:=e2; have:=(hownA.out.lt k e).1; omega)
     replace hown9:=hZ hown9
     go_wp2_with fail
     go_roundg (kv - 1)
     case measure=>omega
     case rel=>exact ⟨t+1,_,by go_num,by omega,hfxA.trans hfx9,hC9,by show World.ownsRow _ _ _ _ _ _ _; rw [hsn2.out,Ay]; exact hown9.out⟩
    ·have hdT:decide (t < n)=false:=Aa ht
     obtain rfl:n=t:=by omega
     have hown9:=hown2.out
     rw [Ao (by rw [hrow.out]; exact Ah _)] at hown9
     obtain ⟨gx,cx,rfl,hgx⟩:∃ gx cx,v=.slice (some ⟨gx,0,none⟩) n cx∧lb+1≤gx:=by
      rcases hown9.2 with ⟨-,h9⟩ | ⟨gx,cx,cur,h9,h8,_⟩
      ·omega
      ·exact ⟨gx,cx,h9,h8⟩
     obtain ⟨hO,-,-,-,-⟩:=Fh (by have:=hf.size; omega) hown9
     have m0:=hC.out.a
     have m1:=hC.out.b
     have hL9:=hown.out.fr hf5
     have hfa:Fr wv (wv.alloc (.cells #[.slice (some ⟨gx,0,none⟩) n cx,.slice (some ⟨g,0,none⟩) N cg] 239)):=(Fr.refl _).alloc _
     have hL10:=hL9.fr hfa
     have hownG:=hL10.own
     have hcs:=SQ wv (.slice (some ⟨gx,0,none⟩) n cx) (.slice (some ⟨g,0,none⟩) N cg) 239 wv.heap.size rfl
     have hub:∀ k,u3.ownBlock=some k→k < wo.heap.size:=fun k e=>(hown.out.own.lt k e).2
     replace hL10:=hZ hL10
     replace hcs:=hZ hcs
     replace hub:=hZ hub
     have hz6:=hf.size
     have hz7:=hf5.size
     clear hL9 hown2 hown9
     go_wp2_with (at_builtin; refine wpList_append_lies _ rfl _ _ 240 (by rfl) _ 239 _ _ 2 48 Tryz.underlying240 ji jz0 jz1 jz2 rfl (by decide) _ i _ (by rfl) hownG ⟨wv.heap.size,0,none⟩ 1 1 [.slice (some ⟨gx,0,none⟩) n cx,.slice (some ⟨g,0,none⟩) N cg] (by rfl) rfl hcs.out (by simp [Value.oneCell']) (by decide) (by unfold maxLen; omega) (by omega) (by simp; omega) (wv.heap.size+1) (by simp) ?_; intro gA capA wA hownA hgrowA hatA hltA; replace hownA:=hZ hownA)
     have hpush:=hL10.out.push (v':=.slice (some ⟨gA,0,none⟩) (i+1) capA) (x:=⟨gx,r,cx,.slice (some ⟨g,0,none⟩) N cg⟩) (by have:=hf.size; show _≤gx; omega) (fun e=>by have e1:gx < wo.heap.size:=hub.out gx e; omega) (hO.fr hfa) ⟨_,_,_,rfl⟩ (by unfold Ln.enc; rw [hrow.out]; exact hownA.out) hgrowA (hatA.imp id (fun e k hk=>by have hk:some gA=some k:=hk; injection hk with hk; rw [← hk,e]; simp))
     have hfrA:Fr w wA:=((hf.trans hf5).trans hfa).grown hgrowA (fun k e=>(hown.out.own.lt k e).1)
     go_wp2_with fail
     go_roundg (ko - 1)
     case measure=>omega
     case rel=>exact ⟨i+1,_,by go_num,by omega,hfrA,hpush,by show _=_; rw [Ay,hmap.out,hsn.out]; rfl⟩
  ·have hdI:decide (i < N)=false:=Aa hi
   obtain rfl:N=i:=by omega
   have hmap9:=hmap.out
   rw [Ao (by rw [← hN.out]; exact Ah _)] at hmap9
   replace hmap9:=hZ hmap9
   go_wp2_with fail
   go_ret
   exact ⟨_,L,rfl,hown.out,hmap9.out,hf⟩
theorem Uc {α:Type} (zs xs:List α) (k:Nat) (_hl:zs.length=xs.length) (hk:k < xs.length) (hz:zs[k]?=xs[k]?):zs.take (k+1) ++ xs.drop (k+1)=zs.take k ++ xs.drop k:=by
 rw [DH,hz,Ac hk,Dx hk,Option.toList_some,Bd,Zz]
theorem SA (lb lo lc ob oo oc kb n m:Nat) (q:Int) (xs ys zs:List Int) (w:World) (hG:G w) (hk:w.cell? ⟨kb,0,none⟩=some (sv q)) (hkl:kb≠lb) (hx:Own w lb lo xs) (hy:Own w ob oo ys) (hne:lb≠ob) (hl:xs.length≤1000000000)
 (hn:n=xs.length) (hm:m=ys.length) (hnm:ys.length=xs.length) (hs:GY q xs ys=some zs) :
 Calls Tryz.prog 209 #[.slice (some ⟨lb,lo,none⟩) n lc,.slice (some ⟨ob,oo,none⟩) m oc,.pointer (some ⟨kb,0,none⟩)] w fun e w'=>e=.returned (.tuple #[])∧Fx (·=lb) w w'∧Own w' lb lo zs:=by
 obtain ⟨hzl,hz⟩:=Ff q xs ys zs hs
 replace hzl:=hZ hzl
 replace hz:=hZ hz
 clear hs
 rw [hnm] at hm
 subst hm
 subst hn
 replace hnm:=hZ hnm
 go_enter Tryz.func209,Tryz.ntmps209
 go_wp2_with fail
 go_loopw [5,6,9] (fun _ _ s9 wr=>∃ k:Nat,s9=.int .i64 k∧k≤xs.length∧Fx (·=lb) w wr∧Own wr lb lo (zs.take k ++ xs.drop k)) (fun _ _ s9 _=>xs.length - (RowKit.intOf s9).toNat)
 case atStart=>exact ⟨0,rfl,Ck _,Fx.refl _ _,by simpa using hx⟩
 case round=>
  obtain ⟨k,rfl,hk',hf,ho⟩:=hrel
  by_cases hlt:k < xs.length
  ·have hxk:∃ x,xs[k]?=some x:=⟨xs[k],Ac hlt⟩
   obtain ⟨x,hxk⟩:=hxk
   obtain ⟨y,hyk,hok,hzk⟩:=hz.out k x hxk
   obtain ⟨tq,ty,sx⟩:=T7 hok
   have hGr:=hG.fx hf (fun j e=>by rw [e]; exact hx.1)
   have hoc:=ho.2.2 k x (by rw [KK zs xs k hzl.out hlt]; exact hxk)
   have hkl2:k < ys.length:=(Ae.1 hyk).1
   obtain ⟨hoc,hof⟩:=hoc
   obtain ⟨hyc,_⟩:=(hy.fx hf (fun e=>hne e.symm)).2.2 k y hyk
   have hqc:=hf.keep hk hkl
   have hlb:lb < wr.heap.size:=ho.2.1
   have hob:ob < wr.heap.size:=(hy.fx hf (fun e=>hne e.symm)).2.1
   have hb:=Cn y
   by_cases hy0:y=0
   ·rw [Ab hy0] at hb
    have hsame:=Uc zs xs k hzl.out hlt (by rw [hzk,hxk,hy0]; simp)
    have ho2:=hZ ho
    rw [← hsame] at ho2
    replace hxk:=hZ hxk
    replace hyk:=hZ hyk
    replace hzk:=hZ hzk
    replace hy0:=hZ hy0
    clear ho hok hsame
    have k0:(0:Int)≤(k:Int):=Aj _
    have k1:(k:Int) < (xs.length:Int):=by omega
    go_wp2_with fail
    go_roundw
    case rel=>exact ⟨k+1,by go_num,by omega,hf,ho2.out⟩
    case measure=>simp [RowKit.intOf]; omega
   ·rw [Aa hy0] at hb
    replace hxk:=hZ hxk
    replace hyk:=hZ hyk
    replace hzk:=hZ hzk
    replace hy0:=hZ hy0
    have hset:=hZ (KJ zs xs k hzl.out hlt _ hzk.out)
    have ho2:=hZ ho
    clear ho hok
    have k0:(0:Int)≤(k:Int):=Aj _
    have k1:(k:Int) < (xs.length:Int):=by omega
    go_wp2_with fail
    go_region_with (first | (go_at_call 95; refine (RZ q y tq ty _ (hGr.fr ?_)).mono ?_; (exact B9); rintro e w1 ⟨rfl,hf1⟩; have c1:=hf1.keep (p:=⟨lb,lo+k,none⟩) hoc; have c3:=hf1.keepf (p:=⟨lb,lo+k,none⟩) hoc hof) | (go_at_call 156; refine (Xl x q y sx tq ty _ (hGr.fr ?_)).mono ?_; (exact B9); rintro e w2 ⟨rfl,hf2⟩; have d1:=hf2.keep c1; have d3:=hf2.keepf c1 c3))
    all_goals
     have hfr:Fr wr w2:=by exact B9
     have hO:=(ho2.out.fr hfr).set (k:=k) (by simp; have:=hzl.out; omega) (x - q * y)
     rw [hset.out] at hO
     have hF:=(hf.fr hfr).setCell (q:=⟨lb,lo+k,none⟩) (.inl rfl) (sv (x - q * y))
     go_wp2_with fail
     go_roundw
     case rel=>exact ⟨k+1,by go_num,by omega,hF,hO⟩
     case measure=>simp [RowKit.intOf]; omega
  ·go_wp2_with fail
   go_end0
   refine ⟨rfl,hf, ?_⟩
   have:k=xs.length:=by omega
   subst this
   rw [Fl,BE,Ao (by have:=hzl.out; omega)] at ho
   exact ho
theorem Sz (u:Value) (kb:Nat) (w:World) :
 Calls Tryz.prog 209 #[u,.slice none 0 0,.pointer (some ⟨kb,0,none⟩)] w fun e w'=>e=.returned (.tuple #[])∧Fr w w':=by
 go_enter Tryz.func209,Tryz.ntmps209
 go_wp2_with fail
 go_loopg [9] 0 (fun _ s9 wr=>s9=.int .i64 0∧w=wr)
 case atStart=>exact ⟨rfl,rfl⟩
 case round=>
  obtain ⟨rfl,rfl⟩:=hrel
  go_wp2_with fail
  go_end0
  exact ⟨rfl,Fr.refl _⟩
theorem SC (lb lo lc ob oo oc n m:Nat) (q:Int) (u:Value) (xs ys zs:List Int) (w:World) (hG:G w) (hx:Own w lb lo xs) (hy:Own w ob oo ys) (hne:lb≠ob) (hl:xs.length≤1000000000)
 (hn:n=xs.length) (hm:m=ys.length) (hnm:ys.length=xs.length) (_hu:u.oneCell'=true) (hs:Dw q xs ys=some zs) :
 Calls Tryz.prog 185 #[.agg #[.slice (some ⟨lb,lo,none⟩) n lc,u],.string (tx q),.agg #[.slice (some ⟨ob,oo,none⟩) m oc,.slice none 0 0]] w fun e w'=>e=.returned (.tuple #[])∧Fx (·=lb) w w'∧Own w' lb lo zs:=by
 replace hn:=hZ hn
 replace hm:=hZ hm
 replace hnm:=hZ hnm
 have hb:=Cn q
 have hgn:=GB hG
 have hlt:=hx.2.1
 have hlt2:=hy.2.1
 obtain ⟨W,hW⟩:∃ W,W=((w.alloc (.cells #[.slice (some ⟨lb,lo,none⟩) n lc,u] 239)).alloc (.cells #[.string (tx q)] 80)).alloc (.cells #[.slice (some ⟨ob,oo,none⟩) m oc,.slice none 0 0] 239):=⟨_,rfl⟩
 obtain ⟨wb,hwb⟩:∃ wb,wb=w.heap.size:=⟨_,rfl⟩
 have hf:Fr w W:=by rw [hW]; exact (((Fr.refl _).alloc _).alloc _).alloc _
 have c0:W.cell? ⟨wb,0,none⟩=some (.slice (some ⟨lb,lo,none⟩) n lc):=by
  rw [hW,hwb]
  exact (((Fr.refl _).alloc _).alloc _:Fr (w.alloc _) _).keep (CC w _ _ _).1
 have c1:W.cell? ⟨wb,1,none⟩=some u:=by
  rw [hW,hwb]
  exact (((Fr.refl _).alloc _).alloc _:Fr (w.alloc _) _).keep (Ct w _ _ _).1
 have c2:W.cell? ⟨wb+1,0,none⟩=some (.string (tx q)):=by
  rw [hW,hwb]
  have:=Dt (w.alloc (.cells #[.slice (some ⟨lb,lo,none⟩) n lc,u] 239)) (.string (tx q)) 80
  rw [AF] at this
  exact ((Fr.refl _).alloc _).keep this
 have c3:W.cell? ⟨wb+2,0,none⟩=some (.slice (some ⟨ob,oo,none⟩) m oc):=by
  rw [hW,hwb]
  have:=CC ((w.alloc (.cells #[.slice (some ⟨lb,lo,none⟩) n lc,u] 239)).alloc (.cells #[.string (tx q)] 80)) (.slice (some ⟨ob,oo,none⟩) m oc) (.slice none 0 0) 239
  rw [AF,AF] at this
  exact this.1
 have c4:W.cell? ⟨wb+2,1,none⟩=some (.slice none 0 0):=by
  rw [hW,hwb]
  have:=Ct ((w.alloc (.cells #[.slice (some ⟨lb,lo,none⟩) n lc,u] 239)).alloc (.cells #[.string (tx q)] 80)) (.slice (some ⟨ob,oo,none⟩) m oc) (.slice none 0 0) 239
  rw [AF,AF] at this
  exact this.1
 have hxW:=hx.fr hf
 have hyW:=hy.fr hf
 have hGW:=hG.fr hf
 by_cases hq0:q=0
 ·rw [Ab hq0] at hb
  unfold Dw at hs
  rw [Ai hq0] at hs
  injection hs with hs; subst hs
  clear hq0
  go_enter Tryz.func185,Tryz.ntmps185
  go_upto_region 1 with (fail)
  rw [← hW,← hwb]
  clear hW
  replace hwb:=hZ hwb
  go_wp2_with fail
  exact AP (Ia rfl _ _ _) rfl ⟨rfl,Fx.of_fr hf,hxW⟩
 ·rw [Aa hq0] at hb
  unfold Dw at hs
  rw [Ag hq0] at hs
  have ht1:=hZ (fun W' (hW':Fr W W')=>SA lb lo lc ob oo oc (wb+1) n m q xs ys zs W' (hGW.fr hW') (hW'.keep c2) (by omega) (hxW.fr hW') (hyW.fr hW') hne hl hn.out hm.out hnm.out hs)
  go_enter Tryz.func185,Tryz.ntmps185
  go_upto_region 1 with (fail)
  rw [← hW,← hwb]
  clear hW hn hm hs hnm
  replace hwb:=hZ hwb
  replace hxW:=hZ hxW
  replace hyW:=hZ hyW
  go_wp2_with fail
  refine (ht1.out _ (Fr.refl _)).mono ?_
  rintro e w1 ⟨rfl,hf1,ho1⟩
  have hne1:wb≠lb:=by have:=hwb.out; omega
  have hne2:wb+2≠lb:=by have:=hwb.out; omega
  have d1:=hf1.keep c1 hne1
  have d4:=hf1.keep c4 hne2
  have hF:=(Fx.of_fr hf).trans hf1
  replace ho1:=hZ ho1
  clear c0 c1 c2 c3 c4
  go_wp2_with fail
  refine (Sz u (wb+1) _).mono ?_
  rintro e w2 ⟨rfl,hf2⟩
  go_wp2_with fail
  go_end0
  exact ⟨rfl,hF.fr hf2,ho1.out.fr hf2⟩

theorem Ji (xs:List Int) (a:Option Addr) (cap:Nat) (g:Nat) (lb:Array Value) (p:Int→Bool) (w:World)
 (eg:∀ args w,(callFunc g args).run Tryz.prog w=.ok (.enter g args) w) (hx:El w sv a xs) (hl:xs.length≤1000000000) (hp:JV w g lb sv p xs) :
 Calls Tryz.prog 117 #[.slice a xs.length cap,.func (.func g) #[] lb] w fun e w'=>e=.returned (.int .i64 (O7 p xs))∧Fr w w':=by
 go_enter Tryz.func117,Tryz.ntmps117
 go_wp2
 go_loopw [5,8] (fun _ s8 wr=>∃ k:Nat,s8=.int .i64 k∧k≤xs.length∧Fr w wr∧Hid (∀ j x,j < k→xs[j]?=some x→p x=false)) (fun _ s8 _=>xs.length - (RowKit.intOf s8).toNat)
 case atStart=>exact ⟨0,rfl,Ck _,Fr.refl _,fun j x h=>absurd h (Bj _)⟩
 case round=>
  obtain ⟨k,rfl,hk,hf,hb⟩:=hrel
  by_cases hlt:k < xs.length
  ·obtain ⟨b,o,x,rfl,hbl,hxk,hcell⟩:=(hx.fr hf).at hlt
   have hpx:=hp x wr (Af hxk) hf
   have hxk:=hZ hxk
   go_wp2_with fail
   refine hpx.mono ?_
   rintro e w1 ⟨rfl,hf1⟩
   go_wp2_with fail
   ·have hpt:p x=true:=by assumption
    go_ret
    exact ⟨Cv (HX hb.out hxk.out hpt).symm,hf.trans hf1⟩
   ·have hpf:p x=false:=by assumption
    go_roundw
    case rel=>exact ⟨k+1,by go_num,by omega,hf.trans hf1,I8 hb.out hxk.out hpf⟩
    case measure=>simp [RowKit.intOf]; omega
  ·go_wp2_with fail
   go_ret
   exact ⟨Cv (I9 (by rw [show xs.length=k by omega]; exact hb.out)).symm,hf⟩
theorem Mj (w:World) (xs:List Int):JV w 184 #[] sv (fun x=>x != 0) xs:=fun x W _ _=>by
 show Calls Tryz.prog 184 #[.string (tx x)] W fun e W'=>e=.returned (.bool (x != 0))∧Fr W W'
 have hb:=Cn x
 have e:(x != 0)=!(decide (x=0)):=by by_cases h:x=0 <;> simp [h]
 rw [e,← hb]
 clear e hb
 go_enter Tryz.func184,Tryz.ntmps184
 go_wp2_with fail
 go_ret
 exact ⟨rfl,Fr.refl _⟩
def KG (r:List Int) (s:List Int×List Int):Option (List Int×List Int) :=
 if Jz ((s.1[(Eu r).toNat]?).getD 0) && Jz ((r[(Eu r).toNat]?).getD 0) && (r[(Eu r).toNat]?).getD 0 != 0 then
  (Dw (((s.1[(Eu r).toNat]?).getD 0).fdiv ((r[(Eu r).toNat]?).getD 0)) s.1 r).map fun y=>(y,s.2 ++ [((s.1[(Eu r).toNat]?).getD 0).fdiv ((r[(Eu r).toNat]?).getD 0)])
 else none
def Km (form:List (List Int)) (x:List Int):Nat→Option (List Int×List Int)
 | 0=>some (x,[])
 | i+1=>(Km form x i).bind (KG (BT form i))
theorem I0 {r:List Int} {s s':List Int×List Int} (h:KG r s=some s'):Wd ((s.1[(Eu r).toNat]?).getD 0)∧Wd ((r[(Eu r).toNat]?).getD 0)∧(r[(Eu r).toNat]?).getD 0≠0 ∧
 Dw (((s.1[(Eu r).toNat]?).getD 0).fdiv ((r[(Eu r).toNat]?).getD 0)) s.1 r=some s'.1∧s'.2=s.2 ++ [((s.1[(Eu r).toNat]?).getD 0).fdiv ((r[(Eu r).toNat]?).getD 0)]:=by
 unfold KG at h
 split at h
 ·rename_i hc
  simp only [Bm,Bs,ne_eq] at hc
  obtain ⟨⟨h1,h2⟩,h3⟩:=hc
  obtain ⟨y,hy,rfl⟩:=BO.1 h
  exact ⟨G0 h1,G0 h2,h3,hy,rfl⟩
 ·cases h
theorem MC {form:List (List Int)} {x:List Int}:∀ (j i:Nat) (s:List Int×List Int),Km form x j=some s→i≤j→∃ s',Km form x i=some s'
 | 0,i,s,h,hi=>by
   obtain rfl:i=0:=by omega
   exact ⟨_,h⟩
 | j+1,i,s,h,hi=>by
   by_cases e:i=j+1
   ·subst e; exact ⟨_,h⟩
   ·rw [Km] at h
    obtain ⟨s1,h1,-⟩:=AY.1 h
    exact MC j i s1 h1 (by omega)
theorem IZ {form:List (List Int)} {x:List Int}:∀ (j:Nat) (s:List Int×List Int),Km form x j=some s→s.1.length=x.length∧s.2.length=j
 | 0,s,h=>by injection h with h; subst h; exact ⟨rfl,rfl⟩
 | j+1,s,h=>by
   rw [Km] at h
   obtain ⟨s1,h1,h2⟩:=AY.1 h
   obtain ⟨-,-,-,h3,h4⟩:=I0 h2
   obtain ⟨a,b⟩:=IZ j s1 h1
   exact ⟨(FO h3).trans a,by rw [h4,Ar,b]; rfl⟩
def N5 (w:World) (s:List Int×List Int) (e:Ending) (w':World):Prop:=∃ b c v,e=.returned (.tuple #[.slice (some ⟨b,0,none⟩) s.1.length c,v])∧Own w' b 0 s.1∧w'.ownsRow w.heap.size 80 1 v s.2.length (s.2.map sv)∧Fr w w'
theorem O8 (form:List (List Int)) (xs:List Int) (s9:List Int×List Int) (a xa:Option Addr) (cap cx n:Nat) (w:World) (hG:G w) (hm:A5 w a form) (hr:Bx n form) (hn1:1≤n) (hn2:n≤1000000) (hl:form.length≤1000000) (hb:∀ r,r ∈ form→∀ x,x ∈ r→Sm x)
 (hx:El w iv xa xs) (hxl:xs.length=n) (hxb:∀ x,x ∈ xs→Sm x) (hred:Km form xs form.length=some s9) :
 Calls Tryz.prog 152 #[.slice a form.length cap,.slice xa n cx] w (N5 w s9):=by
 have hgn:=GB hG
 obtain ⟨i2,ki,kz0,kz1,kz2⟩:=AZ Iy
 obtain ⟨N,hN⟩:∃ N,N=form.length:=⟨_,rfl⟩
 have hl2:=hZ (fun W (hW:Fr w W)=>Nd form a cap n W (hG.fr hW) (hm.fr hW) hr hn1 hn2 hl hb)
 unfold N5
 rw [← hN] at hl hred hl2 ⊢
 have hs9:=IZ N s9 hred
 have hl1:=hZ (fun (W:World) (hW:Fr w W) (P:Nat) (hP:W.cell? ⟨P,0,none⟩=some (.slice xa n cx))=>Nd [xs] (some ⟨P,0,none⟩) 1 n W (hG.fr hW) (.inr ⟨P,0,rfl,A6 W ⟨P,0,none⟩ hP,fun i ys hi=>by
  match i,hi with
  | 0,hi=>simp at hi; subst hi; exact ⟨xa,cx,by rw [hxl]; exact hP,hx.fr hW⟩
  | i+1,hi=>simp at hi⟩) (fun r hr=>by rw [AX] at hr; rw [hr]; exact hxl) hn1 hn2 (by simp) (fun r hr=>by rw [AX] at hr; rw [hr]; exact hxb))
 replace hN:=hZ hN
 replace hm:=hZ hm
 replace hr:=hZ hr
 replace hb:=hZ hb
 replace hG:=hZ hG
 replace hx:=hZ hx
 replace hxl:=hZ hxl
 replace hxb:=hZ hxb
 replace hred:=hZ hred
 replace hs9:=hZ hs9
 have c0:(w.alloc (.cells #[.slice xa n cx] 33)).cell? ⟨w.heap.size,0,none⟩=some (.slice xa n cx):=Dt _ _ _
 have f0:Fr w (w.alloc (.cells #[.slice xa n cx] 33)):=(Fr.refl _).alloc _
 go_enter Tryz.func152,Tryz.ntmps152
 go_wp2_with fail
 refine (hl1.out _ f0 _ c0).mono ?_
 rintro e w2 ⟨v1,L1,rfl,hL1,hm1,hf2⟩
 have hf12:=f0.trans hf2
 obtain ⟨l0,rfl⟩:∃ l0,L1=[l0]:=by
  match L1,hm1 with
  | [l0],_=>exact ⟨l0,rfl⟩
 have hx0:l0.xs=xs:=by simpa using hm1
 obtain ⟨g1,c1,hv1,-⟩:=hL1.own.form (by simp)
 have hown1:=hL1.own
 rw [hv1] at hown1
 obtain ⟨hp1,-,-,-,-,-⟩:=Kd hown1
 obtain ⟨b1,o1,y1,hae,-,hy1,k1,k2⟩:=hp1.at (i:=0) (by simp)
 injection hae with hae; injection hae with hb1 ho1
 subst hb1; subst ho1
 simp at hy1
 subst hy1
 obtain ⟨r1,-,r3,gu,nu,cu,r4⟩:=hL1.row l0 (by simp)
 have e1:l0.enc.1=.slice (some ⟨l0.b,0,none⟩) n l0.c:=by unfold Ln.enc; rw [hx0,hxl.out]
 have e2:l0.enc.2=.slice gu nu cu:=r4
 rw [e1] at k1
 rw [e2] at k2
 rw [hx0] at r3
 rw [AF] at r1
 subst hv1
 obtain ⟨xb,hxbk⟩:∃ xb,xb=l0.b:=⟨_,rfl⟩
 obtain ⟨xc,hxc⟩:∃ xc,xc=l0.c:=⟨_,rfl⟩
 rw [← hxbk] at k1 r1 r3
 rw [← hxc] at k1
 clear hL1 hown1 hp1 hm1 e1 e2 hx0 r4 hl1 c0 f0 hf2 hxbk hxc
 obtain ⟨W3,hW3⟩:∃ W3,W3=w2.alloc (.cells #[.slice (some ⟨xb,0,none⟩) n xc,.slice gu nu cu] 239):=⟨_,rfl⟩
 have f3':Fr w2 W3:=by rw [hW3]; exact (Fr.refl _).alloc _
 obtain ⟨lb,hlb⟩:∃ lb,lb=w2.heap.size:=⟨_,rfl⟩
 have hC3:Ge W3 lb (.slice (some ⟨xb,0,none⟩) n xc) (.slice gu nu cu):=by rw [hW3,hlb]; exact Ge.new _ _ _ _
 have hxlb:xb < lb:=by rw [hlb]; exact r3.2.1
 have r3':=r3.fr f3'
 go_upto_region 2 with (fail)
 rw [← hW3,← hlb]
 clear hW3 k1 k2 r3
 replace hlb:=hZ hlb
 replace r3':=hZ r3'
 go_wp2_with fail
 refine (hl2.out _ (hf12.trans f3')).mono ?_
 rintro e w4 ⟨v2,L2,rfl,hL2,hm2,hf4⟩
 have hF4:=(hf12.trans f3').trans hf4
 obtain ⟨a2,c2,rfl,-⟩:=C9 hL2.own
 have hC4:=hZ (hC3.fr hf4)
 have hO4:=r3'.out.fr hf4
 have hL2l:=hL2.len
 have hx4:lb < w4.heap.size:=hC4.out.lt
 have hL2b:∀ x,x ∈ L2→lb+1≤x.b:=fun x hx=>As hC3.lt (hL2.row x hx).1
 have hprs:∀ (i:Nat) (x:Ln),L2[i]?=some x→∃ b,a2=some ⟨b,0,none⟩∧lb+1≤b∧b < w4.heap.size∧w4.cell? ⟨b,i * 2,none⟩=some x.enc.1∧w4.cell? ⟨b,i * 2+1,none⟩=some x.enc.2:=fun i x hx=>by
  have hi:=(Ae.1 hx).1
  obtain ⟨g2,c3,hv2,-⟩:=hL2.own.form (by omega)
  have hown2:=hL2.own
  rw [hv2] at hown2
  injection hv2 with hv2 _ _
  subst hv2
  obtain ⟨hp2,-,-,hg2,-,hg3⟩:=Kd hown2
  obtain ⟨b2,o2,y2,hae,-,hy2,k1,k2⟩:=hp2.at (i:=i) (by rw [An]; exact hi)
  injection hae with hae; injection hae with hb2 ho2
  subst hb2; subst ho2
  rw [At,hx] at hy2
  simp at hy2
  subst hy2
  rw [AN] at k1 k2
  exact ⟨g2,rfl,As hC3.lt hg2,hg3,k1,k2⟩
 have hL2r:∀ x,x ∈ L2→Own w4 x.b 0 x.xs∧∃ g n c,x.u=.slice g n c:=fun x hx=>⟨(hL2.row x hx).2.2.1,(hL2.row x hx).2.2.2⟩
 have hrowN:∀ (i:Nat) (x:Ln),L2[i]?=some x→BT form i=x.xs∧x.xs.length=n:=fun i x hx=>by
  have h1:form[i]?=some x.xs:=by rw [← hm2,At,hx]; rfl
  have h2:=Ae.1 h1
  exact ⟨by rw [CU h2.1]; exact h2.2,hr.out _ (Af h1)⟩
 have eg:∀ args w,(callFunc 184 args).run Tryz.prog w=.ok (.enter 184 args) w:=Ey Tryz.func184 (by kernel_rfl) rfl
 replace hL2l:=hZ (show L2.length=N by rw [← hL2l]; exact hN.out.symm)
 replace hprs:=hZ hprs
 replace hL2b:=hZ hL2b
 replace hL2r:=hZ hL2r
 replace hrowN:=hZ hrowN
 replace eg:=hZ eg
 replace hO4:=hZ hO4
 replace hC3:=hZ hC3
 rw [← hN.out] at *
 clear hL2 hm2 hl2 hm r3'
 have hbase:w.heap.size≤xb:=by omega
 go_wp2_with fail
 go_loopg [5,21] N (fun k s5 s21 wr=>∃ (i:Nat) (s:List Int×List Int),s21=.int .i64 i∧i+k=N∧Fx (·=xb) w4 wr∧Hid (Km form xs i=some s)∧Hid (Own wr xb 0 s.1)∧Hid (wr.ownsRow w4.heap.size 80 1 s5 i (s.2.map sv)))
 case atStart=>exact ⟨0,(xs,[]),rfl,by omega,Fx.refl _ _,rfl,hO4.out,Bl _ _ _ _⟩
 case round=>
  clear hO4
  obtain ⟨i,s,rfl,hik,hfx,hs,hO,hown⟩:=hrel
  obtain ⟨wo,rfl⟩:∃ wo:World,wo=wr:=⟨_,rfl⟩
  obtain ⟨ko,rfl⟩:∃ ko:Nat,ko=gk:=⟨_,rfl⟩
  have hFr:Fr w wo:=((Fx.of_fr hF4).trans hfx).toFr (fun k hk e=>by have e:k=xb:=e; omega)
  have hsl:=IZ i s hs.out
  by_cases hi:i < N
  ·have hdI:decide (i < N)=true:=Ab hi
   have hi2:i < L2.length:=by rw [hL2l.out]; exact hi
   obtain ⟨x,hx⟩:∃ x,L2[i]?=some x:=⟨_,Ac hi2⟩
   obtain ⟨b2,rfl,hb21,hb22,k1,k2⟩:=hprs.out i x hx
   have hxm:=Af hx
   obtain ⟨hr1,hr2⟩:=hrowN.out i x hx
   have hxbb:=hL2b.out x hxm
   obtain ⟨hxo,gx,nx,cx2,hxu⟩:=hL2r.out x hxm
   obtain ⟨s',hs'⟩:=MC N (i+1) s9 hred.out (by omega)
   have hst:=hs'
   rw [Km,hs.out] at hst
   replace hst:KG (BT form i) s=some s':=hst
   rw [hr1] at hst
   obtain ⟨q1,q2,q3,q4,q5⟩:=I0 hst
   obtain ⟨p,hp,hpl⟩:∃ p:Nat,Eu x.xs=p∧p < x.xs.length:=by
    unfold Eu at q3 ⊢
    rcases JL (fun y:Int=>y != 0) x.xs with ⟨-,h2⟩ | ⟨k,y,h1,h2,-⟩
    ·exfalso
     apply q3
     cases e:x.xs[(O7 (fun y:Int=>y != 0) x.xs).toNat]? with
     | none=>rfl
     | some y=>have:=h2 y (Af e); simpa using this
    ·exact ⟨k,h1,(Ae.1 h2).1⟩
   rw [hp,AR] at q1 q2 q3 q4 q5
   have hpn:p < n:=by omega
   have sl:s.1.length=n:=hsl.1.trans hxl.out
   obtain ⟨y,hy⟩:∃ y,s.1[p]?=some y:=⟨_,Ac (by omega)⟩
   obtain ⟨z,hz⟩:∃ z,x.xs[p]?=some z:=⟨_,Ac hpl⟩
   rw [hy] at q1 q4 q5
   rw [hz] at q2 q3 q4 q5
   simp only [BB] at q1 q2 q3 q4 q5
   have hxo':=hxo.fx hfx (fun e=>by have e:x.b=xb:=e; omega)
   have e1:x.enc.1=.slice (some ⟨x.b,0,none⟩) n x.c:=by unfold Ln.enc; rw [hr2]
   have e2:x.enc.2=.slice gx nx cx2:=hxu
   replace k1:=hfx.keep k1 (fun e=>by have e:b2=xb:=e; omega)
   replace k2:=hfx.keep k2 (fun e=>by have e:b2=xb:=e; omega)
   rw [e1] at k1
   rw [e2] at k2
   have hC5:=hC4.out.fx hfx (fun e=>by have e:lb=xb:=e; omega)
   obtain ⟨m0,m1,-,-⟩:=hC5
   have n1:=(hO.out.2.2 p y hy).1
   have n2:=(hxo'.2.2 p z hz).1
   rw [AN] at n1 n2
   have hGo:=hG.out.fr hFr
   have hif:=fun W (hW:Fr wo W)=>Ji x.xs (some ⟨x.b,0,none⟩) x.c 184 #[] (fun x=>x != 0) W eg.out (hxo'.fr hW).el (by omega) (Mj W x.xs)
   rw [hr2,show O7 (fun x:Int=>x != 0) x.xs=p from hp] at hif
   have hdv:=hZ (fun W (hW:Fr wo W)=>Jk y z q1 q2 q3 W (hGo.fr hW))
   obtain ⟨q,hq⟩:∃ q,q=y.fdiv z:=⟨_,rfl⟩
   rw [← hq] at q4 q5 hdv
   have hls:=fun W (hW:Fr wo W)=>SC xb 0 xc x.b 0 x.c n n q (.slice gu nu cu) s.1 x.xs s'.1 W (hGo.fr hW) (hO.out.fr hW) (hxo'.fr hW) (by omega) (by omega) sl.symm hr2.symm (by omega) rfl q4
   have hsn:Hid (s'.2.map sv=s.2.map sv ++ [sv q]):=by show _=_; rw [q5,Ay]; rfl
   replace hif:=hZ hif
   replace hls:=hZ hls
   obtain ⟨yb,hyb⟩:∃ yb,yb=x.b:=⟨_,rfl⟩
   obtain ⟨yc,hyc⟩:∃ yc,yc=x.c:=⟨_,rfl⟩
   rw [← hyb] at k1 n2 hif hls hxbb
   rw [← hyc] at k1 hif hls
   replace hy:=hZ hy
   replace hz:=hZ hz
   replace hp:=hZ hp
   replace hq:=hZ hq
   replace hyb:=hZ hyb
   replace hyc:=hZ hyc
   replace hr1:=hZ hr1
   replace hr2:=hZ hr2
   replace hs':=hZ hs'
   replace hx:=hZ hx
   replace hxm:=hZ hxm
   replace sl:=hZ sl
   replace hxo':=hZ hxo'
   replace hsl:=hZ hsl
   replace hi2:=hZ hi2
   clear hxo hxu e1 e2 hst q4 q5 q1 q2 q3
   have z0:(0:Int)≤(i:Int):=Aj _
   have z1:(i:Int) < (N:Int):=by omega
   have z2:(0:Int)≤(p:Int):=Aj _
   have z3:(p:Int) < (n:Int):=by omega
   obtain ⟨W5,hW5⟩:∃ W5,W5=wo.alloc (.cells #[.slice (some ⟨yb,0,none⟩) n yc,.slice gx nx cx2] 239):=⟨_,rfl⟩
   have f5:Fr wo W5:=by rw [hW5]; exact (Fr.refl _).alloc _
   obtain ⟨rk,hrk⟩:∃ rk,rk=wo.heap.size:=⟨_,rfl⟩
   have hCk:Ge W5 rk (.slice (some ⟨yb,0,none⟩) n yc) (.slice gx nx cx2):=by rw [hW5,hrk]; exact Ge.new _ _ _ _
   have j1:=hCk.a
   go_upto_region 5 with (fail)
   rw [← hW5,← hrk]
   clear hW5 k1 k2
   replace m0:=f5.keep m0
   replace m1:=f5.keep m1
   replace n1:=f5.keep n1
   replace n2:=f5.keep n2
   replace hrk:=hZ hrk
   go_wp2_with fail
   refine (hif.out _ f5).mono ?_
   rintro e w6 ⟨rfl,hf6⟩
   have f6:=f5.trans hf6
   replace m0:=hf6.keep m0
   replace m1:=hf6.keep m1
   replace n1:=hf6.keep n1
   replace n2:=hf6.keep n2
   replace j1:=hf6.keep j1
   clear f5
   go_wp2_with fail
   go_region_held3 (fun w'=>w'.cell? ⟨lb,0,none⟩=some (.slice (some ⟨xb,0,none⟩) n xc)∧w'.cell? ⟨xb,p,none⟩=some (.string (tx y))∧w'.cell? ⟨rk,0,none⟩=some (.slice (some ⟨yb,0,none⟩) n yc)∧w'.cell? ⟨yb,p,none⟩=some (.string (tx z)))
    (first | go_keep | (go_split_ands; refine ⟨?_, ?_, ?_, ?_⟩ <;> (refine Fr.keep (by assumption) ?_; assumption)))
    (first | (go_at_call 112; refine (hdv.out _ ?_).mono ?_; (exact B9); rintro e w7 ⟨rfl,hf7⟩))
   have f67:Fr w6 w7:=(Fr.refl w6).drew.trans hf7
   have f7:Fr wo w7:=f6.trans f67
   replace m0:=f67.keep m0
   replace m1:=f67.keep m1
   replace j1:=f67.keep j1
   clear n1 n2
   go_wp2_with fail
   refine (hls.out _ f7).mono ?_
   rintro e w8 ⟨rfl,hfx8,hO8⟩
   have hown8:=BW (Bg hown.out f7) hfx8 (fun k e=>fun e2=>by have e2:k=xb:=e2; have:=(hown.out.lt k e).1; omega)
   have hfxA:=(hfx.fr f7).trans hfx8
   have hz8:=hfxA.size
   replace hO8:=hZ hO8
   clear m0 m1 j1
   go_wp2_with (at_builtin; refine wpList_append_lies _ rfl _ _ 119 (by rfl) _ 80 _ _ 1 16 Tryz.underlying119 ki kz0 kz1 kz2 rfl (by decide) _ i _ (by rfl) (Az hown8 _) ⟨w8.heap.size,0,none⟩ 1 1 [.string (tx q)] (by rfl) rfl (AK _ _ _ _ (by simp)) (by simp [Value.oneCell']) (by decide) (by unfold maxLen; omega) (by omega) (by skip; simp; omega) (w8.heap.size+1) (by simp) ?_; intro gA capA wA hownA hgrowA hatA hltA)
   go_wp2_with fail
   go_roundg (ko - 1)
   case measure=>omega
   case rel=>exact ⟨i+1,s',by go_num,by omega,(hfxA.alloc _).grownX hgrowA (fun k e=>(hown.out.lt k e).1),hs'.out,((hO8.out.fr ((Fr.refl _).alloc _)).fx (Fx.of_grown hgrowA) (fun e=>by have e9:=(hown.out.lt xb e).1; omega)),by show World.ownsRow _ _ _ _ _ _ _; rw [hsn.out]; exact hownA⟩
  ·have hdI:decide (i < N)=false:=Aa hi
   obtain rfl:N=i:=by omega
   have hs99:s=s9:=by have:=hs.out; rw [hred.out] at this; injection this with this; exact this.symm
   subst hs99
   have hC5:=hC4.out.fx hfx (fun e=>by have e:lb=xb:=e; omega)
   obtain ⟨m0,m1,-,-⟩:=hC5
   have hown9:=hZ (Cw (base':=w.heap.size) hown.out hF4.size)
   have sl:Hid (s.1.length=n):=hsl.1.trans hxl.out
   replace hsl:=hZ hsl
   go_wp2_with fail
   go_ret2
   exact ⟨xb,xc,_,by rw [sl.out]; rfl,hO.out,by rw [hsl.out.2]; exact hown9.out,hFr⟩
theorem Kt (xs:List Int) (a:Option Addr) (cap:Nat) (g:Nat) (lb:Array Value) (p:Int→Bool) (w:World)
 (eg:∀ args w,(callFunc g args).run Tryz.prog w=.ok (.enter g args) w) (hx:El w sv a xs) (hl:xs.length≤1000000000) (hp:JV w g lb sv p xs) :
 Calls Tryz.prog 76 #[.slice a xs.length cap,.func (.func g) #[] lb] w fun e w'=>e=.returned (.bool (xs.any p))∧Fr w w':=by
 rw [← NM]
 have hc:=Ji xs a cap g lb p w eg hx hl hp
 clear hp
 go_enter Tryz.func76,Tryz.ntmps76
 go_wp2_with fail
 refine hc.mono ?_
 rintro e w' ⟨rfl,hf⟩
 go_wp2_with fail
 go_ret
 exact ⟨rfl,hf⟩
theorem Ko (w:World) (xs:List Int):JV w 153 #[] sv (fun x=>x != 0) xs:=fun x W _ _=>by
 show Calls Tryz.prog 153 #[.string (tx x)] W fun e W'=>e=.returned (.bool (x != 0))∧Fr W W'
 have hb:=Cn x
 have e:(x != 0)=!(decide (x=0)):=by by_cases h:x=0 <;> simp [h]
 rw [e,← hb]
 clear e hb
 go_enter Tryz.func153,Tryz.ntmps153
 go_wp2_with fail
 go_ret
 exact ⟨rfl,Fr.refl _⟩
def IF (xs:List Int):Bool:=!xs.any fun x=>x != 0
end Go.Proofs.YtiniigadkknboaaGreatDoor
