/- Contracts and laws: VJ. -/
import Derived.Test.YtcglmebcfeoedaaGreatDoorVH
import Derived.Test.YtcglmebcfeoedaaGreatDoorVD
import Derived.Test.YtcglmebcfeoedaaGreatDoorVI
import Derived.Test.YtcglmebcfeoedaaGreatDoorVE
import Derived.Test.YtcglmebcfeoedaaGreatDoorVGW
import Derived.Test.YtcglmebcfeoedaaGreatDoorVB

set_option maxRecDepth 100000
set_option maxHeartbeats 8000000
namespace Go.Proofs.YtcglmebcfeoedaaGreatDoor
open Go.RowKit Go.Lib
attribute [local go_sem ↓] AA AB
structure Ln where
 b:Nat
 xs:List Int
 c:Nat
 u:Value
def Ln.enc (x:Ln):Value×Value:=(.slice (some ⟨x.b,0,none⟩) x.xs.length x.c,x.u)
structure Ip (w:World) (base:Nat) (v:Value) (n:Nat) (L:List Ln):Prop where
 len:n=L.length
 own:w.ownsRow base 251 2 v n (Ch (L.map Ln.enc))
 row:∀ x,x ∈ L→base≤x.b∧v.ownBlock≠some x.b∧FJ w x.b 0 x.xs∧∃ g n c,x.u=.slice g n c
theorem Ip.nil (w:World) (base:Nat):Ip w base (.slice none 0 0) 0 []:=⟨rfl,A6 _ _ _ _,fun x hx=>by cases hx⟩
theorem Ip.fr {w w':World} {base:Nat} {v:Value} {n:Nat} {L:List Ln} (h:Ip w base v n L) (k:Fr w w'):Ip w' base v n L :=
 ⟨h.len,Ba h.own k,fun x hx=>by
  obtain ⟨h1,h2,h3,h4⟩:=h.row x hx
  exact ⟨h1,h2,h3.fr k,h4⟩⟩
theorem Ip.push {w w':World} {base:Nat} {v v':Value} {n:Nat} {L:List Ln} (h:Ip w base v n L) {x:Ln} (hb:base≤x.b) (hv:v.ownBlock≠some x.b) (hel:FJ w x.b 0 x.xs) (hu:∃ g n c,x.u=.slice g n c)
 (hown:w'.ownsRow base 251 2 v' (n+1) (Ch (L.map Ln.enc) ++ [x.enc.1,x.enc.2])) (hg:w.grownBy w' v.ownBlock) (hat:v.ownBlock=v'.ownBlock∨∀ k,v'.ownBlock=some k→w.heap.size≤k):Ip w' base v' (n+1) (L ++ [x]):=by
 have hfx:=Fx.of_grown hg
 have key:∀ (y:Ln),base≤y.b→v.ownBlock≠some y.b→FJ w y.b 0 y.xs→(∃ g n c,y.u=.slice g n c)→base≤y.b∧v'.ownBlock≠some y.b∧FJ w' y.b 0 y.xs∧∃ g n c,y.u=.slice g n c:=fun y h1 h2 h3 h4=>by
  refine ⟨h1,fun e2=>?_,h3.fx hfx (fun e2=>h2 e2),h4⟩
  rcases hat with h9 | h9
  ·rw [h9] at h2; exact h2 e2
  ·have:=h9 _ e2; have:=h3.2.1; omega
 refine ⟨by rw [Ar,← h.len]; rfl,by rw [Aw,List.map_singleton,LZ]; exact hown,fun y hy=>?_⟩
 rcases A5.1 hy with h9 | h9
 ·obtain ⟨h1,h2,h3,h4⟩:=h.row y h9
  exact key y h1 h2 h3 h4
 ·rw [Bo] at h9
  subst h9
  exact key y hb hv hel hu
theorem Fx.grownX {p:Nat→Prop} {a b c:World} {row:Option Nat} (h1:Fx p a b) (hg:b.grownBy c row) (hr:∀ k,row=some k→a.heap.size≤k):Fx p a c:=by
 have h2:=Fx.of_grown hg
 exact ⟨h2.os.trans h1.os,h2.tape.trans h1.tape,h2.output.trans h1.output,AE h1.size h2.size,fun q hq1 hq2=>by
  rw [h2.block q (An hq1 h1.size) (fun e=>by have:=hr q e; omega)]
  exact h1.block q hq1 hq2⟩
theorem Ui:(Tryz.prog.info? 251).map (fun i=>(i.zero,i.size,i.bytes))=some (some (.agg #[.slice none 0 0,.slice none 0 0]),2,48):=by kernel_rfl
def Pz (w:World) (m:List (List Int)) (e:Ending) (w':World):Prop:=∃ v L,e=.returned v∧Ip w' w.heap.size v m.length L∧L.map Ln.xs=m∧Fr w w'
theorem NE (m:List (List Int)) (a:Option Addr) (cap n:Nat) (w:World) (hG:G w) (hm:BT w a m) (hr:Ce n m) (hn1:1≤n) (hn2:n≤1000000) (hl:m.length≤1000000) (hb:∀ r,r ∈ m→∀ x,x ∈ r→Sm x) :
 Calls Tryz.prog 181 #[.slice a m.length cap] w (Pz w m):=by
 have hgn:=CS hG
 obtain ⟨i1,ji,jz0,jz1,jz2⟩:=AQ Ui
 obtain ⟨i2,ki,kz0,kz1,kz2⟩:=AQ Je
 obtain ⟨N,hN⟩:∃ N,N=m.length:=⟨_,rfl⟩
 unfold Pz
 rw [← hN] at hl ⊢
 replace hN:=hZ hN
 replace hm:=hZ hm
 replace hr:=hZ hr
 replace hb:=hZ hb
 replace hG:=hZ hG
 go_enter Tryz.func181,Tryz.ntmps181
 go_wp2_with fail
 go_loopg [3,11] N (fun k s3 s11 wr=>∃ (i:Nat) (L:List Ln),s11=.int .i64 i∧i+k=N∧Fr w wr∧Hid (Ip wr w.heap.size s3 i L)∧Hid (L.map Ln.xs=m.take i))
 case atStart=>exact ⟨0,[],rfl,by omega,Fr.refl _,Ip.nil _ _,rfl⟩
 case round=>
  obtain ⟨i,L,rfl,hik,hf,hown,hmap⟩:=hrel
  by_cases hi:i < N
  ·have hdI:decide (i < N)=true:=Ac hi
   have hi':i < m.length:=by rw [← hN.out]; exact hi
   obtain ⟨b,o,ra,rc,rfl,hc,hel⟩:=(hm.out.fr hf).at hi'
   have hrow:=hr.out.row hi'
   have hsn:=hZ (Bx (Ab hi'))
   have hsx:=hZ (hb.out _ (A8 hi'))
   rw [hrow] at hc
   generalize m[i]=r at *
   obtain ⟨wo,rfl⟩:∃ wo:World,wo=wr:=⟨_,rfl⟩
   obtain ⟨ko,rfl⟩:∃ ko:Nat,ko=gk:=⟨_,rfl⟩
   replace hel:=hZ hel
   replace hrow:=hZ hrow
   have z0:(0:Int)≤(i:Int):=Af _
   have z1:(i:Int) < (N:Int):=by omega
   have hrep:=hZ (fun (W:World) (h:W.cell? ⟨wo.heap.size,0,none⟩=some (sv 0))=>QH wo.heap.size 0 1 N 0 W (by omega) (by omega) h)
   have hs0:(sv 0)=.string ⟨#[48]⟩:=by unfold sv; rw [Ix]
   have c0:(wo.alloc (.cells #[.string ⟨#[48]⟩] 42)).cell? ⟨wo.heap.size,0,none⟩=some (sv 0):=by rw [hs0]; exact D6 _ _ _
   have f0:Fr wo (wo.alloc (.cells #[.string ⟨#[48]⟩] 42)):=(Fr.refl _).alloc _
   go_wp2_with fail
   refine (hrep.out _ c0).mono ?_
   rintro e w2 ⟨g,cg,rfl,hf2,hown2⟩
   have f2:=f0.trans hf2
   rw [AK] at hown2
   clear c0 f0 hrep hc
   obtain ⟨W3,hW3⟩:∃ W3,W3=w2.alloc (.cells #[.slice none 0 0,.slice (some ⟨g,0,none⟩) N cg] 251):=⟨_,rfl⟩
   have f3':Fr w2 W3:=by rw [hW3]; exact (Fr.refl _).alloc _
   obtain ⟨lb,hlb⟩:∃ lb,lb=w2.heap.size:=⟨_,rfl⟩
   have hC3:Br W3 lb (.slice none 0 0) (.slice (some ⟨g,0,none⟩) N cg):=by rw [hW3,hlb]; exact Br.new _ _ _ _
   have hz3:W3.heap.size=lb+1:=by rw [hW3,hlb]; simp
   have hown3:=Ba hown2 f3'
   have f3:=f2.trans f3'
   have hgl:g < lb:=by rw [hlb]; exact (hown2.lt g rfl).2
   have hgw:wo.heap.size+1≤g:=(hown2.lt g rfl).1
   have n1:=hC3.b
   have n2:W3.cell? ⟨g,i,none⟩=some (sv 0):=by
    rw [hown3.cellAt i (by omega)]
    rw [Cq,Aj hi]
   have n3:=hown3.frozenAt i
   go_upto_region 6 with (fail)
   rw [← hW3,← hlb]
   clear hW3 hown2 hown3 f2 f3' hf2
   replace hlb:=hZ hlb
   obtain ⟨W4,hW4⟩:∃ W4,W4=W3.setCell ⟨g,i,none⟩ (.string ⟨#[49]⟩):=⟨_,rfl⟩
   have fx4:Fx (·=g) W3 W4:=by rw [hW4]; exact Fx.setCell (p:=(·=g)) (q:=⟨g,i,none⟩) (Fx.refl _ _) (.inl rfl) _
   have f4:Fr wo W4:=by rw [hW4]; exact f3.setCell (p:=⟨g,i,none⟩) (by show _≤g; omega) _
   have hC4:=hZ (hC3.fx fx4 (fun e=>by have e:lb=g:=e; omega))
   have hz4:W4.heap.size=lb+1:=by rw [← hz3,hW4]; simp
   go_upto_region 7 with (fail)
   rw [← hW4]
   clear hW4 n1 n2 n3 fx4 hC3 hz3
   go_wp2_with fail
   go_loopg [27] n (fun k2 s27 wr=>∃ (t:Nat) (v:Value),s27=.int .i64 t∧t+k2=n∧Fx (·=lb) W4 wr∧Hid (Br wr lb v (.slice (some ⟨g,0,none⟩) N cg))∧Hid (wr.ownsRow (lb+1) 42 1 v t ((r.take t).map sv)))
   case atStart=>exact ⟨0,_,rfl,by omega,Fx.refl _ _,hC4.out,A6 _ _ _ _⟩
   case round=>
    clear hC4
    obtain ⟨t,v,rfl,htk,hfx,hC,hown2⟩:=hrel
    have hf5:Fr wo wr:=((Fx.of_fr f4).trans hfx).toFr (fun k hk e=>by have e:k=lb:=e; omega)
    have hlr:lb < wr.heap.size:=hC.out.lt
    obtain ⟨wv,rfl⟩:∃ wv:World,wv=wr:=⟨_,rfl⟩
    obtain ⟨kv,rfl⟩:∃ kv:Nat,kv=gk:=⟨_,rfl⟩
    by_cases ht:t < n
    ·have hdT:decide (t < n)=true:=Ac ht
     obtain ⟨b2,o2,x,rfl,hbl2,hxt,hcx⟩:=(hel.out.fr hf5).at (i:=t) (by rw [hrow.out]; exact ht)
     have hsx1:=hsx.out x (Ae hxt)
     unfold Sm at hsx1
     have hsn2:=hZ (Bx hxt)
     replace hxt:=hZ hxt
     have y0:(0:Int)≤(t:Int):=Af _
     have y1:(t:Int) < (n:Int):=by omega
     have nv:=hC.out.a
     have nf:=hC.out.fa
     have hof:=hZ (fun W (hW:Fr wv W)=>Du x (by omega) (by omega) W ((hG.out.fr (hf.trans hf5)).fr hW))
     have hS0:=hZ (fun W' (hW':Fr wv W')=>hW'.keep nv)
     have hvb:∀ k,v.ownBlock=some k→lb+1≤k∧k < wv.heap.size:=hown2.out.lt
     replace hvb:=hZ hvb
     go_wp2_with fail
     refine BP (S:=fun W'=>W'.cell? ⟨lb,0,none⟩=some v) 7 (by kernel_rfl) (hS0.out _ ((Fr.refl _).drew)) (fun hHeld=>?_)
     refine uK 0 ?_
     refine uK 1 ?_
     refine uK 2 ?_
     refine uC 3 (fun K hK=>?_)
     go_simp
     (refine (hof.out _ (by exact BR)).mono ?_; rintro e w6 ⟨rfl,hf6⟩)
     go_wp2_with fail
     refine hK.out _ _ (hS0.out _ (by exact BR)) (fun hHeld=>?_)
     clear hK K
     refine uC 4 (fun K hK=>?_)
     go_simp
     refine hK.out _ _ (hS0.out _ (by exact BR)) (fun hHeld=>?_)
     clear hK K
     have hf6w:Fr wv w6:=by exact BR
     have hf7:Fr wv (w6.alloc (.cells #[.string (tx x)] 42)):=hf6w.alloc _
     have hown7:=Ba hown2.out hf7
     have hcs:=AF w6 (.string (tx x)) 42 w6.heap.size rfl
     have hz6:=hf6w.size
     have hSA:∀ wA,(w6.alloc (.cells #[.string (tx x)] 42)).grownBy wA v.ownBlock→(wA.cell? ⟨lb,0,none⟩=some v)∧wA.frozen? ⟨lb,0,none⟩=false:=fun wA hgr=>
      ⟨(Fx.of_grown hgr).keep (q:=⟨lb,0,none⟩) (hf7.keep nv) (fun e=>by have e1:lb+1≤lb:=(hvb.out lb e).1; omega),(Fx.of_grown hgr).keepf (q:=⟨lb,0,none⟩) (hf7.keep nv) (hf7.keepf nv nf) (fun e=>by have e1:lb+1≤lb:=(hvb.out lb e).1; omega)⟩
     replace hSA:=hZ hSA
     replace hcs:=hZ hcs
     refine uC 5 (fun K hK=>?_)
     (refine En _ rfl (.tmp 32) (.tmp 35) 40 rfl (lb+1) 42 i2 _ 1 16 Tryz.underlying40 ki kz0 kz1 kz2 rfl (by decide) v t ((r.take t).map sv) (by simp [Act.eval]) hown7 ⟨w6.heap.size,0,none⟩ 1 1 [.string (tx x)] (by simp [Act.eval]) rfl hcs.out (by simp [Value.oneCell']) (by decide) (by unfold maxLen; omega) (by omega) (by simp; omega) (w6.heap.size+1) (by simp) ?_; intro gA capA wA hownA hgrowA hatA hltA)
     refine hK.out _ _ ((hSA.out wA hgrowA).1) (fun hHeld=>?_)
     clear hK K
     have hSA2:=hSA.out wA hgrowA
     obtain ⟨p1,p3⟩:=hSA2
     replace hownA:=hZ hownA
     refine uK 6 ?_
     clear hHeld
     refine uL 7 (fun K hK=>?_)
     go_simp
     refine hK.out _ _ ?_
     clear hK K
     have hfxA:Fx (·=lb) W4 wA:=(hfx.fr hf7).grownX hgrowA (fun k e=>by have:=(hvb.out k e).1; omega)
     have hfx9:Fx (·=lb) wA (wA.setCell ⟨lb,0,none⟩ (.slice (some ⟨gA,0,none⟩) (t+1) capA)):=Fx.setCell (p:=(·=lb)) (q:=⟨lb,0,none⟩) (Fx.refl _ wA) (.inl rfl) _
     have hC7:Br wA lb v (.slice (some ⟨g,0,none⟩) N cg):=(hC.out.fr hf7).fx (Fx.of_grown hgrowA) (fun e=>by have e1:lb+1≤lb:=(hvb.out lb e).1; omega)
     have hC9:=hC7.set0 (.slice (some ⟨gA,0,none⟩) (t+1) capA)
     have hown9:=BM hownA.out hfx9 (fun k e=>fun e2=>by have e2:k=lb:=e2; have:=(hownA.out.lt k e).1; omega)
     replace hown9:=hZ hown9
     go_wp2_with fail
     go_roundg (kv - 1)
     case measure=>omega
     case rel=>exact ⟨t+1,_,by go_num,by omega,hfxA.trans hfx9,hC9,by show World.ownsRow _ _ _ _ _ _ _; rw [hsn2.out,Aw]; exact hown9.out⟩
    ·have hdT:decide (t < n)=false:=Aa ht
     obtain rfl:n=t:=by omega
     have hown9:=hown2.out
     rw [Ak (by rw [hrow.out]; exact Ag _)] at hown9
     obtain ⟨gx,cx,rfl,hgx⟩:∃ gx cx,v=.slice (some ⟨gx,0,none⟩) n cx∧lb+1≤gx:=by
      rcases hown9.2 with ⟨-,h9⟩ | ⟨gx,cx,cur,h9,h8,_⟩
      ·omega
      ·exact ⟨gx,cx,h9,h8⟩
     obtain ⟨hO,-,-,-,-⟩:=DA (by have:=hf.size; omega) hown9
     have m0:=hC.out.a
     have m1:=hC.out.b
     have hL9:=hown.out.fr hf5
     have hfa:Fr wv (wv.alloc (.cells #[.slice (some ⟨gx,0,none⟩) n cx,.slice (some ⟨g,0,none⟩) N cg] 251)):=(Fr.refl _).alloc _
     have hL10:=hL9.fr hfa
     have hownG:=hL10.own
     have hcs:=FW wv (.slice (some ⟨gx,0,none⟩) n cx) (.slice (some ⟨g,0,none⟩) N cg) 251 wv.heap.size rfl
     have hub:∀ k,u3.ownBlock=some k→k < wo.heap.size:=fun k e=>(hown.out.own.lt k e).2
     replace hL10:=hZ hL10
     replace hcs:=hZ hcs
     replace hub:=hZ hub
     have hz6:=hf.size
     have hz7:=hf5.size
     clear hL9 hown2 hown9
     go_wp2_with (at_builtin; refine At _ rfl _ _ 252 (by rfl) _ 251 _ _ 2 48 Tryz.underlying252 ji jz0 jz1 jz2 rfl (by decide) _ i _ (by rfl) hownG ⟨wv.heap.size,0,none⟩ 1 1 [.slice (some ⟨gx,0,none⟩) n cx,.slice (some ⟨g,0,none⟩) N cg] (by rfl) rfl hcs.out (by simp [Value.oneCell']) (by decide) (by unfold maxLen; omega) (by omega) (by simp; omega) (wv.heap.size+1) (by simp) ?_; intro gA capA wA hownA hgrowA hatA hltA; replace hownA:=hZ hownA)
     have hpush:=hL10.out.push (v':=.slice (some ⟨gA,0,none⟩) (i+1) capA) (x:=⟨gx,r,cx,.slice (some ⟨g,0,none⟩) N cg⟩) (by have:=hf.size; show _≤gx; omega) (fun e=>by have e1:gx < wo.heap.size:=hub.out gx e; omega) (hO.fr hfa) ⟨_,_,_,rfl⟩ (by unfold Ln.enc; rw [hrow.out]; exact hownA.out) hgrowA (hatA.imp id (fun e k hk=>by have hk:some gA=some k:=hk; injection hk with hk; rw [← hk,e]; simp))
     have hfrA:Fr w wA:=((hf.trans hf5).trans hfa).grown hgrowA (fun k e=>(hown.out.own.lt k e).1)
     go_wp2_with fail
     go_roundg (ko - 1)
     case measure=>omega
     case rel=>exact ⟨i+1,_,by go_num,by omega,hfrA,hpush,by show _=_; rw [Aw,hmap.out,hsn.out]; rfl⟩
  ·have hdI:decide (i < N)=false:=Aa hi
   obtain rfl:N=i:=by omega
   have hmap9:=hmap.out
   rw [Ak (by rw [← hN.out]; exact Ag _)] at hmap9
   replace hmap9:=hZ hmap9
   go_wp2_with fail
   go_ret
   exact ⟨_,L,rfl,hown.out,hmap9.out,hf⟩
theorem T9 {α:Type} (zs xs:List α) (k:Nat) (_hl:zs.length=xs.length) (hk:k < xs.length) (hz:zs[k]?=xs[k]?):zs.take (k+1) ++ xs.drop (k+1)=zs.take k ++ xs.drop k:=by
 rw [D2,hz,Ab hk,B9 hk,Option.toList_some,BF,Zd]
theorem Sl (lb lo lc ob oo oc kb n m:Nat) (q:Int) (xs ys zs:List Int) (w:World) (hG:G w) (hk:w.cell? ⟨kb,0,none⟩=some (sv q)) (hkl:kb≠lb) (hx:FJ w lb lo xs) (hy:FJ w ob oo ys) (hne:lb≠ob) (hl:xs.length≤1000000000)
 (hn:n=xs.length) (hm:m=ys.length) (hnm:ys.length=xs.length) (hs:Hj q xs ys=some zs) :
 Calls Tryz.prog 235 #[.slice (some ⟨lb,lo,none⟩) n lc,.slice (some ⟨ob,oo,none⟩) m oc,.pointer (some ⟨kb,0,none⟩)] w fun e w'=>e=.returned (.tuple #[])∧Fx (·=lb) w w'∧FJ w' lb lo zs:=by
 obtain ⟨hzl,hz⟩:=Fw q xs ys zs hs
 replace hzl:=hZ hzl
 replace hz:=hZ hz
 clear hs
 rw [hnm] at hm
 subst hm
 subst hn
 replace hnm:=hZ hnm
 go_enter Tryz.func235,Tryz.ntmps235
 go_wp2_with fail
 go_loopw [5,6,9] (fun _ _ s9 wr=>∃ k:Nat,s9=.int .i64 k∧k≤xs.length∧Fx (·=lb) w wr∧FJ wr lb lo (zs.take k ++ xs.drop k)) (fun _ _ s9 _=>xs.length - (RowKit.intOf s9).toNat)
 case atStart=>exact ⟨0,rfl,Bm _,Fx.refl _ _,by simpa using hx⟩
 case round=>
  obtain ⟨k,rfl,hk',hf,ho⟩:=hrel
  by_cases hlt:k < xs.length
  ·have hxk:∃ x,xs[k]?=some x:=⟨xs[k],Ab hlt⟩
   obtain ⟨x,hxk⟩:=hxk
   obtain ⟨y,hyk,hok,hzk⟩:=hz.out k x hxk
   obtain ⟨tq,ty,sx⟩:=TZ hok
   have hGr:=hG.fx hf (fun j e=>by rw [e]; exact hx.1)
   have hoc:=ho.2.2 k x (by rw [Hw zs xs k hzl.out hlt]; exact hxk)
   have hkl2:k < ys.length:=(Ah.1 hyk).1
   obtain ⟨hoc,hof⟩:=hoc
   obtain ⟨hyc,_⟩:=(hy.fx hf (fun e=>hne e.symm)).2.2 k y hyk
   have hqc:=hf.keep hk hkl
   have hlb:lb < wr.heap.size:=ho.2.1
   have hob:ob < wr.heap.size:=(hy.fx hf (fun e=>hne e.symm)).2.1
   have hb:=C8 y
   by_cases hy0:y=0
   ·rw [Ac hy0] at hb
    have hsame:=T9 zs xs k hzl.out hlt (by rw [hzk,hxk,hy0]; simp)
    have ho2:=hZ ho
    rw [← hsame] at ho2
    replace hxk:=hZ hxk
    replace hyk:=hZ hyk
    replace hzk:=hZ hzk
    replace hy0:=hZ hy0
    clear ho hok hsame
    have k0:(0:Int)≤(k:Int):=Af _
    have k1:(k:Int) < (xs.length:Int):=by omega
    go_wp2_with fail
    go_roundw
    case rel=>exact ⟨k+1,by go_num,by omega,hf,ho2.out⟩
    case measure=>simp [RowKit.intOf]; omega
   ·rw [Aa hy0] at hb
    replace hxk:=hZ hxk
    replace hyk:=hZ hyk
    replace hzk:=hZ hzk
    replace hy0:=hZ hy0
    have hset:=hZ (Hv zs xs k hzl.out hlt _ hzk.out)
    have ho2:=hZ ho
    clear ho hok
    have k0:(0:Int)≤(k:Int):=Af _
    have k1:(k:Int) < (xs.length:Int):=by omega
    go_wp2_with fail
    go_region_with (first | (go_at_call 80; refine (U9 q y tq ty _ (hGr.fr ?_)).mono ?_; (exact BR); rintro e w1 ⟨rfl,hf1⟩; have c1:=hf1.keep (p:=⟨lb,lo+k,none⟩) hoc; have c3:=hf1.keepf (p:=⟨lb,lo+k,none⟩) hoc hof) | (go_at_call 123; refine (WR x q y sx tq ty _ (hGr.fr ?_)).mono ?_; (exact BR); rintro e w2 ⟨rfl,hf2⟩; have d1:=hf2.keep c1; have d3:=hf2.keepf c1 c3))
    all_goals
     have hfr:Fr wr w2:=by exact BR
     have hO:=(ho2.out.fr hfr).set (k:=k) (by simp; have:=hzl.out; omega) (x - q * y)
     rw [hset.out] at hO
     have hF:=(hf.fr hfr).setCell (q:=⟨lb,lo+k,none⟩) (.inl rfl) (sv (x - q * y))
     go_wp2_with fail
     go_roundw
     case rel=>exact ⟨k+1,by go_num,by omega,hF,hO⟩
     case measure=>simp [RowKit.intOf]; omega
  ·go_wp2_with fail
   go_end0
   refine ⟨rfl,hf, ?_⟩
   have:k=xs.length:=by omega
   subst this
   rw [Ep,BJ,Ak (by have:=hzl.out; omega)] at ho
   exact ho
theorem Sk (u:Value) (kb:Nat) (w:World) :
 Calls Tryz.prog 235 #[u,.slice none 0 0,.pointer (some ⟨kb,0,none⟩)] w fun e w'=>e=.returned (.tuple #[])∧Fr w w':=by
 go_enter Tryz.func235,Tryz.ntmps235
 go_wp2_with fail
 go_loopg [9] 0 (fun _ s9 wr=>s9=.int .i64 0∧w=wr)
 case atStart=>exact ⟨rfl,rfl⟩
 case round=>
  obtain ⟨rfl,rfl⟩:=hrel
  go_wp2_with fail
  go_end0
  exact ⟨rfl,Fr.refl _⟩
theorem So (lb lo lc ob oo oc n m:Nat) (q:Int) (u:Value) (xs ys zs:List Int) (w:World) (hG:G w) (hx:FJ w lb lo xs) (hy:FJ w ob oo ys) (hne:lb≠ob) (hl:xs.length≤1000000000)
 (hn:n=xs.length) (hm:m=ys.length) (hnm:ys.length=xs.length) (_hu:u.oneCell'=true) (hs:DO q xs ys=some zs) :
 Calls Tryz.prog 184 #[.agg #[.slice (some ⟨lb,lo,none⟩) n lc,u],.string (tx q),.agg #[.slice (some ⟨ob,oo,none⟩) m oc,.slice none 0 0]] w fun e w'=>e=.returned (.tuple #[])∧Fx (·=lb) w w'∧FJ w' lb lo zs:=by
 replace hn:=hZ hn
 replace hm:=hZ hm
 replace hnm:=hZ hnm
 have hb:=C8 q
 have hgn:=CS hG
 have hlt:=hx.2.1
 have hlt2:=hy.2.1
 obtain ⟨W,hW⟩:∃ W,W=((w.alloc (.cells #[.slice (some ⟨lb,lo,none⟩) n lc,u] 251)).alloc (.cells #[.string (tx q)] 42)).alloc (.cells #[.slice (some ⟨ob,oo,none⟩) m oc,.slice none 0 0] 251):=⟨_,rfl⟩
 obtain ⟨wb,hwb⟩:∃ wb,wb=w.heap.size:=⟨_,rfl⟩
 have hf:Fr w W:=by rw [hW]; exact (((Fr.refl _).alloc _).alloc _).alloc _
 have c0:W.cell? ⟨wb,0,none⟩=some (.slice (some ⟨lb,lo,none⟩) n lc):=by
  rw [hW,hwb]
  exact (((Fr.refl _).alloc _).alloc _:Fr (w.alloc _) _).keep (CZ w _ _ _).1
 have c1:W.cell? ⟨wb,1,none⟩=some u:=by
  rw [hW,hwb]
  exact (((Fr.refl _).alloc _).alloc _:Fr (w.alloc _) _).keep (CY w _ _ _).1
 have c2:W.cell? ⟨wb+1,0,none⟩=some (.string (tx q)):=by
  rw [hW,hwb]
  have:=D6 (w.alloc (.cells #[.slice (some ⟨lb,lo,none⟩) n lc,u] 251)) (.string (tx q)) 42
  rw [AK] at this
  exact ((Fr.refl _).alloc _).keep this
 have c3:W.cell? ⟨wb+2,0,none⟩=some (.slice (some ⟨ob,oo,none⟩) m oc):=by
  rw [hW,hwb]
  have:=CZ ((w.alloc (.cells #[.slice (some ⟨lb,lo,none⟩) n lc,u] 251)).alloc (.cells #[.string (tx q)] 42)) (.slice (some ⟨ob,oo,none⟩) m oc) (.slice none 0 0) 251
  rw [AK,AK] at this
  exact this.1
 have c4:W.cell? ⟨wb+2,1,none⟩=some (.slice none 0 0):=by
  rw [hW,hwb]
  have:=CY ((w.alloc (.cells #[.slice (some ⟨lb,lo,none⟩) n lc,u] 251)).alloc (.cells #[.string (tx q)] 42)) (.slice (some ⟨ob,oo,none⟩) m oc) (.slice none 0 0) 251
  rw [AK,AK] at this
  exact this.1
 have hxW:=hx.fr hf
 have hyW:=hy.fr hf
 have hGW:=hG.fr hf
 by_cases hq0:q=0
 ·rw [Ac hq0] at hb
  unfold DO at hs
  rw [Aj hq0] at hs
  injection hs with hs; subst hs
  clear hq0
  go_enter Tryz.func184,Tryz.ntmps184
  go_upto_region 1 with (fail)
  rw [← hW,← hwb]
  clear hW
  replace hwb:=hZ hwb
  go_wp2_with fail
  exact Ax (S7 rfl _ _ _) rfl ⟨rfl,Fx.of_fr hf,hxW⟩
 ·rw [Aa hq0] at hb
  unfold DO at hs
  rw [Ai hq0] at hs
  have ht1:=hZ (fun W' (hW':Fr W W')=>Sl lb lo lc ob oo oc (wb+1) n m q xs ys zs W' (hGW.fr hW') (hW'.keep c2) (by omega) (hxW.fr hW') (hyW.fr hW') hne hl hn.out hm.out hnm.out hs)
  go_enter Tryz.func184,Tryz.ntmps184
  go_upto_region 1 with (fail)
  rw [← hW,← hwb]
  clear hW hn hm hs hnm
  replace hwb:=hZ hwb
  replace hxW:=hZ hxW
  replace hyW:=hZ hyW
  go_wp2_with fail
  refine (ht1.out _ (Fr.refl _)).mono ?_
  rintro e w1 ⟨rfl,hf1,ho1⟩
  have hne1:wb≠lb:=by have:=hwb.out; omega
  have hne2:wb+2≠lb:=by have:=hwb.out; omega
  have d1:=hf1.keep c1 hne1
  have d4:=hf1.keep c4 hne2
  have hF:=(Fx.of_fr hf).trans hf1
  replace ho1:=hZ ho1
  clear c0 c1 c2 c3 c4
  go_wp2_with fail
  refine (Sk u (wb+1) _).mono ?_
  rintro e w2 ⟨rfl,hf2⟩
  go_wp2_with fail
  go_end0
  exact ⟨rfl,hF.fr hf2,ho1.out.fr hf2⟩
theorem NX (w:World) (xs:List Int):Ob w 177 #[] iv (fun x=>x != 0) xs:=fun x W _ _=>by
 show Calls Tryz.prog 177 #[.int .i64 x] W fun e W'=>e=.returned (.bool (x != 0))∧Fr W W'
 go_enter Tryz.func177,Tryz.ntmps177
 go_wp2_with fail
 go_ret
 exact ⟨rfl,Fr.refl _⟩
def Et (xs:List Int):Int:=Jf (fun x=>x != 0) xs
theorem VP {xs:List Int} (h:0≤Et xs):∃ p:Nat,Et xs=p∧p < xs.length:=by
 unfold Et at h ⊢
 rcases Ks (fun x:Int=>x != 0) xs with ⟨h1,-⟩ | ⟨k,x,h1,h2,-⟩
 ·rw [h1] at h; omega
 ·exact ⟨k,h1,(Ah.1 h2).1⟩
theorem Qp (xs:List Int) (a:Option Addr) (cap:Nat) (w:World) (hx:El w iv a xs) (hl:xs.length≤1000000000) :
 Calls Tryz.prog 106 #[.slice a xs.length cap] w fun e w'=>e=.returned (.int .i64 (Et xs))∧Fr w w':=by
 have eg:∀ args w,(callFunc 177 args).run Tryz.prog w=.ok (.enter 177 args) w:=Oo Tryz.func177 (by kernel_rfl) rfl
 have hc:=I2 xs a cap 177 #[] (fun x=>x != 0) w eg hx hl (NX w xs)
 replace eg:=hZ eg
 go_enter Tryz.func106,Tryz.ntmps106
 go_wp2_with fail
 refine hc.mono ?_
 rintro e w' ⟨rfl,hf⟩
 go_wp2_with fail
 go_ret
 exact ⟨rfl,hf⟩
structure Rw where
 a:Option Addr
 row:List Int
 c:Nat
abbrev Rw.enc (x:Rw):Value:=.slice x.a x.row.length x.c
theorem Q6:∀ (m:List (List Int)) (P:Nat→Option Addr→Nat→List Int→Prop),(∀ (i:Nat) (xs:List Int),m[i]?=some xs→∃ a' c',P i a' c' xs)→∃ L:List Rw,L.map Rw.row=m∧∀ (i:Nat) (x:Rw),L[i]?=some x→P i x.a x.c x.row
 | [],P,_=>⟨[],rfl,fun i x h=>by simp at h⟩
 | r :: m,P,h=>by
   obtain ⟨a0,c0,h0⟩:=h 0 r rfl
   obtain ⟨L,h1,h2⟩:=Q6 m (fun i=>P (i+1)) (fun i xs hx=>h (i+1) xs hx)
   refine ⟨⟨a0,r,c0⟩ :: L,by rw [BQ,h1],fun i x hx=>?_⟩
   match i,hx with
   | 0,hx=>simp at hx; subst hx; exact h0
   | i+1,hx=>exact h2 i x (by simpa using hx)
theorem Xi {w:World} {a:Option Addr} {m:List (List Int)} (h:BT w a m):∃ L:List Rw,L.map Rw.row=m∧El w Rw.enc a L∧∀ x,x ∈ L→El w iv x.a x.row:=by
 rcases h with rfl | ⟨b,o,ha,hb,hc⟩
 ·exact ⟨[],rfl,.inl rfl,fun x hx=>by cases hx⟩
 ·obtain ⟨L,h1,h2⟩:=Q6 m (fun i a' c' xs=>w.cell? ⟨b,o+i,none⟩=some (.slice a' xs.length c')∧El w iv a' xs) hc
  refine ⟨L,h1,.inr ⟨b,o,ha,hb,fun i x hx=>(h2 i x hx).1⟩,fun x hx=>?_⟩
  obtain ⟨i,hi⟩:=AO hx
  exact (h2 i x hi).2
theorem El.takeG {α:Type} {w:World} {enc:α→Value} {a:Option Addr} {xs:List α} (h:El w enc a xs) (k:Nat):El w enc a (xs.take k):=by
 rcases h with rfl | ⟨b,o,ha,hb,hc⟩
 ·exact .inl List.take_nil
 ·refine .inr ⟨b,o,ha,hb,fun i x hx=>hc i x ?_⟩
  rw [BN] at hx
  split at hx
  ·exact hx
  ·cases hx
theorem MR (xs:List Rw) (a:Option Addr) (cap:Nat) (g:Nat) (lb:Array Value) (p:Rw→Bool) (w:World)
 (eg:∀ args w,(callFunc g args).run Tryz.prog w=.ok (.enter g args) w) (hx:El w Rw.enc a xs) (hl:xs.length≤1000000000) (hp:Ob w g lb Rw.enc p xs) :
 Calls Tryz.prog 178 #[.slice a xs.length cap,.func (.func g) #[] lb] w fun e w'=>e=.returned (.int .i64 (Jf p xs))∧Fr w w':=by
 go_enter Tryz.func178,Tryz.ntmps178
 go_wp2
 go_loopw [5,8] (fun _ s8 wr=>∃ k:Nat,s8=.int .i64 k∧k≤xs.length∧Fr w wr∧Hid (∀ j x,j < k→xs[j]?=some x→p x=false)) (fun _ s8 _=>xs.length - (RowKit.intOf s8).toNat)
 case atStart=>exact ⟨0,rfl,Bm _,Fr.refl _,fun j x h=>absurd h (Bs _)⟩
 case round=>
  obtain ⟨k,rfl,hk,hf,hb⟩:=hrel
  by_cases hlt:k < xs.length
  ·obtain ⟨b,o,x,rfl,hbl,hxk,hcell⟩:=(hx.fr hf).at hlt
   have hpx:=hp x wr (Ae hxk) hf
   have hxk:=hZ hxk
   go_wp2_with fail
   refine hpx.mono ?_
   rintro e w1 ⟨rfl,hf1⟩
   go_wp2_with fail
   ·have hpt:p x=true:=by assumption
    go_ret
    exact ⟨Bk (IG hb.out hxk.out hpt).symm,hf.trans hf1⟩
   ·have hpf:p x=false:=by assumption
    go_roundw
    case rel=>exact ⟨k+1,by go_num,by omega,hf.trans hf1,JL hb.out hxk.out hpf⟩
    case measure=>simp [RowKit.intOf]; omega
  ·go_wp2_with fail
   go_ret
   exact ⟨Bk (JM (by rw [show xs.length=k by omega]; exact hb.out)).symm,hf⟩
theorem KC (xs:List Rw) (a:Option Addr) (cap:Nat) (g:Nat) (lb:Array Value) (p:Rw→Bool) (w:World)
 (eg:∀ args w,(callFunc g args).run Tryz.prog w=.ok (.enter g args) w) (hx:El w Rw.enc a xs) (hl:xs.length≤1000000000) (hp:Ob w g lb Rw.enc p xs) :
 Calls Tryz.prog 107 #[.slice a xs.length cap,.func (.func g) #[] lb] w fun e w'=>e=.returned (.bool (xs.any p))∧Fr w w':=by
 rw [← Rn]
 have hc:=MR xs a cap g lb p w eg hx hl hp
 clear hp
 go_enter Tryz.func107,Tryz.ntmps107
 go_wp2_with fail
 refine hc.mono ?_
 rintro e w' ⟨rfl,hf⟩
 go_wp2_with fail
 go_ret
 exact ⟨rfl,hf⟩
def KN (p:Nat) (r x:List Int):Bool:=decide ((x[p]?).getD 0 < 0) || decide ((r[p]?).getD 0≤(x[p]?).getD 0)
theorem O3 (x:Rw) (r:List Int) (ra:Option Addr) (rc p pb rb:Nat) (w:World) (hx:El w iv x.a x.row) (hr:El w iv ra r) (hp:w.cell? ⟨pb,0,none⟩=some (.int .i64 p)) (hrb:w.cell? ⟨rb,0,none⟩=some (.slice ra r.length rc))
 (h1:p < x.row.length) (h2:p < r.length) (_hl1:x.row.length≤1000000) (_hl2:r.length≤1000000) :
 Calls Tryz.prog 108 #[x.enc,.pointer (some ⟨pb,0,none⟩),.pointer (some ⟨rb,0,none⟩)] w fun e w'=>e=.returned (.bool (KN p r x.row))∧Fr w w':=by
 obtain ⟨b,o,y,hxa,hbl,hxi,hc1⟩:=hx.at h1
 obtain ⟨b2,o2,z,hra,hbl2,hri,hc2⟩:=hr.at h2
 have hfB:KN p r x.row=(decide (y < 0) || decide (z≤y)):=by unfold KN; rw [hxi,hri]; rfl
 show Calls Tryz.prog 108 #[.slice x.a x.row.length x.c,.pointer (some ⟨pb,0,none⟩),.pointer (some ⟨rb,0,none⟩)] w _
 rw [hfB,hxa]
 rw [hra] at hrb
 replace hxi:=hZ hxi
 replace hri:=hZ hri
 generalize x.row.length=n at *
 generalize r.length=m at *
 generalize x.c=xc at *
 clear hfB hxa hra hx hr
 have z0:(0:Int)≤(p:Int):=Af _
 have z1:(p:Int) < (n:Int):=by omega
 have z2:(p:Int) < (m:Int):=by omega
 by_cases hy:y < 0
 ·have d1:decide (y < 0)=true:=Ac hy
  rw [d1,Bool.true_or]
  go_enter Tryz.func108,Tryz.ntmps108
  go_wp2_with fail
  go_quiet (fail)
  go_wp2_with fail
  go_ret
  exact ⟨rfl,Fr.refl _ |>.drewN _⟩
 ·have d1:decide (y < 0)=false:=Aa hy
  rw [d1,PU]
  have d2:decide (y ≥ z)=decide (z≤y):=rfl
  go_enter Tryz.func108,Tryz.ntmps108
  go_wp2_with fail
  go_quiet (fail)
  go_wp2_with fail
  go_ret
  exact ⟨rfl,Fr.refl _ |>.drewN _⟩
def Hx (m:List (List Int)):Bool :=
 (List.range m.length).all fun i=>decide (0≤Et (Bv m i)) && decide (0≤((Bv m i)[(Et (Bv m i)).toNat]?).getD 0) && decide ((if i=0 then -1 else Et (Bv m (i - 1))) < Et (Bv m i)) && (m.take i).all fun x=>!KN (Et (Bv m i)).toNat (Bv m i) x
theorem St {m:List (List Int)} (h:Hx m=true) {i:Nat} (hi:i < m.length):∃ p:Nat,Et (Bv m i)=p∧p < (Bv m i).length∧0≤((Bv m i)[p]?).getD 0∧(if i=0 then -1 else Et (Bv m (i - 1))) < (p:Int)∧∀ x,x ∈ m.take i→KN p (Bv m i) x=false:=by
 have h1:=As.1 h i (AZ.2 hi)
 simp only [Bb,J7] at h1
 obtain ⟨⟨⟨h1,h2⟩,h3⟩,h4⟩:=h1
 obtain ⟨p,hp,hl⟩:=VP h1
 rw [hp] at h2 h3 h4
 rw [AW] at h2 h4
 exact ⟨p,hp,hl,h2,h3,fun x hx=>by simpa using As.1 h4 x hx⟩
theorem Si (m:List (List Int)) (a:Option Addr) (cap n:Nat) (w:World) (hm:BT w a m) (hr:Ce n m) (hn:n≤1000000) (hl:m.length≤1000000) (hcap:m.length≤cap) (hok:Hx m=true) :
 Calls Tryz.prog 43 #[.slice a m.length cap] w fun e w'=>e=.returned (.bool true)∧Fr w w':=by
 obtain ⟨L,hL1,hL2,hL3⟩:=Xi hm
 have hlen:L.length=m.length:=by rw [← hL1,Am]
 have eg:∀ args w,(callFunc 108 args).run Tryz.prog w=.ok (.enter 108 args) w:=Oo Tryz.func108 (by kernel_rfl) rfl
 obtain ⟨N,hN⟩:∃ N,N=m.length:=⟨_,rfl⟩
 rw [← hN] at hlen hl hcap ⊢
 have hrow:∀ (i:Nat) (x:Rw),L[i]?=some x→Bv m i=x.row∧x.row.length=n:=fun i x hx=>by
  have h1:m[i]?=some x.row:=by rw [← hL1,Ao,hx]; rfl
  have h2:=Ah.1 h1
  exact ⟨by rw [Cb h2.1]; exact h2.2,hr _ (Ae h1)⟩
 have hat:=fun i (hi:i < N)=>St hok (i:=i) (by rw [← hN]; exact hi)
 have htk:∀ i,(m.take i)=(L.take i).map Rw.row:=fun i=>by rw [← hL1,FS]
 replace hN:=hZ hN
 replace hlen:=hZ hlen
 replace hrow:=hZ hrow
 replace hat:=hZ hat
 replace htk:=hZ htk
 replace hL1:=hZ hL1
 replace hL2:=hZ hL2
 replace hL3:=hZ hL3
 replace eg:=hZ eg
 clear hm hr hok
 go_enter Tryz.func43,Tryz.ntmps43
 go_wp2_with fail
 go_loopg [3,9] N (fun k s3 s9 wr=>∃ (i:Nat) (q:Int),s9=.int .i64 i∧s3=.int .i64 q∧i+k=N∧Hid (q=if i=0 then -1 else Et (Bv m (i - 1)))∧Fr w wr)
 case atStart=>exact ⟨0,-1,rfl,rfl,by omega,rfl,Fr.refl _⟩
 case round=>
  obtain ⟨i,q,rfl,rfl,hik,hq,hf⟩:=hrel
  by_cases hi:i < N
  ·have hdI:decide (i < N)=true:=Ac hi
   obtain ⟨b,o,x,hae,hbl,hxi,hcell⟩:=(hL2.out.fr hf).at (i:=i) (by rw [hlen.out]; exact hi)
   obtain ⟨p,hp,hpl,hp0,hpq,hpb⟩:=hat.out i hi
   obtain ⟨hr1,hr2⟩:=hrow.out i x hxi
   have hel:=(hL3.out x (Ae hxi)).fr hf
   rw [hr1] at hp hpl hp0 hpb
   rw [← hq.out] at hpq
   have hpv:=hZ (fun W (hW:Fr wr W)=>Qp x.row x.a x.c W (hel.fr hW) (by rw [hr2]; omega))
   rw [hp] at hpv
   obtain ⟨b3,o3,z,hxa,hbl3,hz,hcz⟩:=hel.at hpl
   rw [hz] at hp0
   replace hp0:0≤z:=hp0
   have hany:(L.take i).any (fun y=>KN p x.row y.row)=false:=by
    rw [CE]
    intro y hy
    rw [hpb y.row (by rw [htk.out]; exact Ek hy)]
    simp
   have hcf:=fun (W:World) (hW:Fr wr W) (pb rb:Nat) (h1:W.cell? ⟨pb,0,none⟩=some (.int .i64 p)) (h2:W.cell? ⟨rb,0,none⟩=some (.slice x.a x.row.length x.c))=>
    KC (L.take i) a cap 108 #[.pointer (some ⟨pb,0,none⟩),.pointer (some ⟨rb,0,none⟩)] (fun y=>KN p x.row y.row) W eg.out (((hL2.out.fr hf).fr hW).takeG i) (by rw [AG]; omega)
     (fun y W' hy hW'=>O3 y x.row x.a x.c p pb rb W' (((hL3.out y (Cu hy)).fr (hf.trans hW)).fr hW') ((hel.fr hW).fr hW') (hW'.keep h1) (hW'.keep h2) (by
      obtain ⟨j,hj⟩:=AO (Cu hy)
      rw [(hrow.out j y hj).2,← hr2]; exact hpl) hpl (by
      obtain ⟨j,hj⟩:=AO (Cu hy)
      rw [(hrow.out j y hj).2]; exact hn) (by rw [hr2]; exact hn))
   rw [AG,Dj (by rw [hlen.out]; omega),hany] at hcf
   replace hcf:=hZ hcf
   have hq9:Hid ((p:Int)=if i+1=0 then -1 else Et (Bv m (i+1 - 1))):=by show _=_; rw [Ai (by omega),Nat.add_sub_cancel,hr1]; exact hp.symm
   replace hxi:=hZ hxi
   replace hcell:wr.cell? ⟨b,o+i,none⟩=some (.slice x.a x.row.length x.c):=hcell
   rw [hr2] at hpv hcf hcell hpl
   rw [hxa] at hpv hcf hcell
   subst hae
   replace hr1:=hZ hr1
   replace hr2:=hZ hr2
   replace hz:=hZ hz
   replace hp:=hZ hp
   replace hxa:=hZ hxa
   replace hpb:=hZ hpb
   replace hpv:=hZ hpv
   replace hel:=hZ hel
   generalize x.c=rc at *
   clear hany
   have z0:(0:Int)≤(i:Int):=Af _
   have z1:(i:Int) < (N:Int):=by omega
   have z2:(0:Int)≤(p:Int):=Af _
   have z3:(p:Int) < (n:Int):=by omega
   have d1:decide ((p:Int)≤q)=false:=Aa (by omega)
   have d2:decide (z < 0)=false:=Aa (by omega)
   obtain ⟨W1,hW1⟩:∃ W1,W1=wr.alloc (.cells #[.slice (some ⟨b3,o3,none⟩) n rc] 44):=⟨_,rfl⟩
   have f1:Fr wr W1:=by rw [hW1]; exact (Fr.refl _).alloc _
   have c1:W1.cell? ⟨wr.heap.size,0,none⟩=some (.slice (some ⟨b3,o3,none⟩) n rc):=by rw [hW1]; exact D6 _ _ _
   go_upto_region 5 with (fail)
   rw [← hW1]
   clear hW1
   obtain ⟨rb,hrb⟩:∃ rb,rb=wr.heap.size:=⟨_,rfl⟩
   rw [← hrb] at c1 ⊢
   replace hrb:=hZ hrb
   go_wp2_with fail
   refine (hpv.out.out _ f1).mono ?_
   rintro e w2 ⟨rfl,hf2⟩
   obtain ⟨W3,hW3⟩:∃ W3,W3=w2.alloc (.cells #[.int .i64 p] 3):=⟨_,rfl⟩
   have f3:Fr wr W3:=by rw [hW3]; exact (f1.trans hf2).alloc _
   have c2:W3.cell? ⟨rb,0,none⟩=some (.slice (some ⟨b3,o3,none⟩) n rc):=by rw [hW3]; exact (hf2.alloc _).keep c1
   have c3:W3.cell? ⟨w2.heap.size,0,none⟩=some (.int .i64 p):=by rw [hW3]; exact D6 _ _ _
   replace hcz:=f3.keep hcz
   go_upto_region 6 with (fail)
   rw [← hW3]
   clear hW3
   obtain ⟨pb,hpb2⟩:∃ pb,pb=w2.heap.size:=⟨_,rfl⟩
   rw [← hpb2] at c3 ⊢
   replace hpb2:=hZ hpb2
   go_wp2_with fail
   refine (hcf.out _ f3 pb rb c3 c2).mono ?_
   rintro e w4 ⟨rfl,hf4⟩
   replace c3:=hf4.keep c3
   go_wp2_with fail
   go_roundg (gk - 1)
   case measure=>omega
   case rel=>exact ⟨i+1,p,by go_num,rfl,by omega,hq9,(hf.trans f3).trans hf4⟩
  ·have hdI:decide (i < N)=false:=Aa hi
   go_wp2_with fail
   go_ret
   exact ⟨rfl,hf⟩
theorem SZ (m:List (List Int)) (a:Option Addr) (cap n:Nat) (w:World) (hm:BT w a m) (hT:Ge n m) (hcap:m.length≤cap) (hok:Hx m=true) :
 Calls Tryz.prog 9 #[.slice a m.length cap] w fun e w'=>e=.returned (.tuple #[.bool true,.int .i64 0])∧Fr w w':=by
 have h1:=hZ (HY m a cap n w hm hT)
 have h2:=hZ (fun W (hW:Fr w W)=>Si m a cap n W (hm.fr hW) hT.2.2.1 (by have:=hT.2.1; omega) (by have:=hT.1; omega) hcap hok)
 clear hm hT hok
 generalize m.length=N at *
 go_enter Tryz.func9,Tryz.ntmps9
 go_wp2_with fail
 refine h1.out.mono ?_
 rintro e w1 ⟨rfl,hf1⟩
 go_wp2_with fail
 refine (h2.out _ hf1).mono ?_
 rintro e w2 ⟨rfl,hf2⟩
 go_wp2_with fail
 go_ret2
 exact ⟨rfl,hf1.trans hf2⟩
def LK (n:Nat) (xs:List Int):Int:=if Cx xs≠0 then Cx xs else if xs.length≠n then 5 else 0
theorem Sn (m:List (List Int)) (xs:List Int) (a b:Option Addr) (ca cb n:Nat) (w:World) (hm:BT w a m) (hT:Ge n m) (hcap:m.length≤ca) (hok:Hx m=true) (hm1:0 < m.length) (hx:El w iv b xs) (hl:xs.length≤1000000000) :
 Calls Tryz.prog 50 #[.slice a m.length ca,.slice b xs.length cb] w fun e w'=>e=.returned (.int .i64 (LK n xs))∧Fr w w':=by
 have h1:=hZ (SZ m a ca n w hm hT hcap hok)
 have h2:=hZ (fun W (hW:Fr w W)=>Df xs b cb W (hx.fr hW) hl)
 have hat:=fun W (hW:Fr w W)=>(hm.fr hW).at hm1
 have hr0:=hT.2.2.1.row hm1
 obtain ⟨E,hE⟩:∃ E,E=LK n xs:=⟨_,rfl⟩
 rw [← hE]
 have e1:Cx xs≠0→E=Cx xs:=fun h=>by rw [hE]; unfold LK; rw [Aj h]
 have e2:Cx xs=0→xs.length≠n→E=5:=fun h h2=>by rw [hE]; unfold LK; rw [Ai (by rw [h]; simp),Aj h2]
 have e3:Cx xs=0→xs.length=n→E=0:=fun h h2=>by rw [hE]; unfold LK; rw [Ai (by rw [h]; simp),Ai (by rw [h2]; simp)]
 clear hm hT hok hx hE
 generalize Cx xs=re at *
 generalize xs.length=k at *
 replace e1:=hZ e1
 replace e2:=hZ e2
 replace e3:=hZ e3
 go_enter Tryz.func50,Tryz.ntmps50
 go_wp2_with fail
 refine h1.out.mono ?_
 rintro e w1 ⟨rfl,hf1⟩
 go_wp2_with fail
 refine (h2.out _ hf1).mono ?_
 rintro e w2 ⟨rfl,hf2⟩
 by_cases hre:re=0
 ·have d1:(re != 0)=false:=by rw [hre]; rfl
  obtain ⟨b0,o0,a0,c0,hae,hc,-⟩:=hat _ (hf1.trans hf2)
  rw [hr0,C9] at hc
  subst hae
  have z1:(0:Int) < (m.length:Int):=by omega
  have d3:decide ((m.length:Int) > 0)=true:=Ac z1
  clear hat hr0
  generalize m.length=N at *
  by_cases hk:k=n
  ·have d2:((k:Int) != (n:Int))=false:=by rw [hk]; simp
   have hfin:=hZ (e3.out hre hk)
   replace hre:=hZ hre
   replace hk:=hZ hk
   go_wp2_with fail
   go_ret
   exact ⟨Bk hfin.out.symm,hf1.trans hf2⟩
  ·have d2:((k:Int) != (n:Int))=true:=by rw [Bl]; omega
   have hfin:=hZ (e2.out hre hk)
   replace hre:=hZ hre
   replace hk:=hZ hk
   go_wp2_with fail
   go_ret
   exact ⟨Bk hfin.out.symm,hf1.trans hf2⟩
 ·have d1:(re != 0)=true:=by rw [Bl]; exact hre
  have hfin:=hZ (e1.out hre)
  replace hre:=hZ hre
  clear hat
  go_wp2_with fail
  go_ret
  exact ⟨Bk hfin.out.symm,hf1.trans hf2⟩
theorem Og (xs:List Int) (a:Option Addr) (cap:Nat) (g:Nat) (lb:Array Value) (p:Int→Bool) (w:World)
 (eg:∀ args w,(callFunc g args).run Tryz.prog w=.ok (.enter g args) w) (hx:El w sv a xs) (hl:xs.length≤1000000000) (hp:Ob w g lb sv p xs) :
 Calls Tryz.prog 182 #[.slice a xs.length cap,.func (.func g) #[] lb] w fun e w'=>e=.returned (.int .i64 (Jf p xs))∧Fr w w':=by
 go_enter Tryz.func182,Tryz.ntmps182
 go_wp2
 go_loopw [5,8] (fun _ s8 wr=>∃ k:Nat,s8=.int .i64 k∧k≤xs.length∧Fr w wr∧Hid (∀ j x,j < k→xs[j]?=some x→p x=false)) (fun _ s8 _=>xs.length - (RowKit.intOf s8).toNat)
 case atStart=>exact ⟨0,rfl,Bm _,Fr.refl _,fun j x h=>absurd h (Bs _)⟩
 case round=>
  obtain ⟨k,rfl,hk,hf,hb⟩:=hrel
  by_cases hlt:k < xs.length
  ·obtain ⟨b,o,x,rfl,hbl,hxk,hcell⟩:=(hx.fr hf).at hlt
   have hpx:=hp x wr (Ae hxk) hf
   have hxk:=hZ hxk
   go_wp2_with fail
   refine hpx.mono ?_
   rintro e w1 ⟨rfl,hf1⟩
   go_wp2_with fail
   ·have hpt:p x=true:=by assumption
    go_ret
    exact ⟨Bk (IG hb.out hxk.out hpt).symm,hf.trans hf1⟩
   ·have hpf:p x=false:=by assumption
    go_roundw
    case rel=>exact ⟨k+1,by go_num,by omega,hf.trans hf1,JL hb.out hxk.out hpf⟩
    case measure=>simp [RowKit.intOf]; omega
  ·go_wp2_with fail
   go_ret
   exact ⟨Bk (JM (by rw [show xs.length=k by omega]; exact hb.out)).symm,hf⟩
theorem MG (w:World) (xs:List Int):Ob w 183 #[] sv (fun x=>x != 0) xs:=fun x W _ _=>by
 show Calls Tryz.prog 183 #[.string (tx x)] W fun e W'=>e=.returned (.bool (x != 0))∧Fr W W'
 have hb:=C8 x
 have e:(x != 0)=!(decide (x=0)):=by by_cases h:x=0 <;> simp [h]
 rw [e,← hb]
 clear e hb
 go_enter Tryz.func183,Tryz.ntmps183
 go_wp2_with fail
 go_ret
 exact ⟨rfl,Fr.refl _⟩
def Hn (r:List Int) (s:List Int×List Int):Option (List Int×List Int) :=
 if M5 ((s.1[(Et r).toNat]?).getD 0) && M5 ((r[(Et r).toNat]?).getD 0) && (r[(Et r).toNat]?).getD 0 != 0 then
  (DO (((s.1[(Et r).toNat]?).getD 0).fdiv ((r[(Et r).toNat]?).getD 0)) s.1 r).map fun y=>(y,s.2 ++ [((s.1[(Et r).toNat]?).getD 0).fdiv ((r[(Et r).toNat]?).getD 0)])
 else none
def H7 (form:List (List Int)) (x:List Int):Nat→Option (List Int×List Int)
 | 0=>some (x,[])
 | i+1=>(H7 form x i).bind (Hn (Bv form i))
theorem JE {r:List Int} {s s':List Int×List Int} (h:Hn r s=some s'):Wd ((s.1[(Et r).toNat]?).getD 0)∧Wd ((r[(Et r).toNat]?).getD 0)∧(r[(Et r).toNat]?).getD 0≠0 ∧
 DO (((s.1[(Et r).toNat]?).getD 0).fdiv ((r[(Et r).toNat]?).getD 0)) s.1 r=some s'.1∧s'.2=s.2 ++ [((s.1[(Et r).toNat]?).getD 0).fdiv ((r[(Et r).toNat]?).getD 0)]:=by
 unfold Hn at h
 split at h
 ·rename_i hc
  simp only [Bb,Bl,ne_eq] at hc
  obtain ⟨⟨h1,h2⟩,h3⟩:=hc
  obtain ⟨y,hy,rfl⟩:=AV.1 h
  exact ⟨Ke h1,Ke h2,h3,hy,rfl⟩
 ·cases h
theorem M8 {form:List (List Int)} {x:List Int}:∀ (j i:Nat) (s:List Int×List Int),H7 form x j=some s→i≤j→∃ s',H7 form x i=some s'
 | 0,i,s,h,hi=>by
   obtain rfl:i=0:=by omega
   exact ⟨_,h⟩
 | j+1,i,s,h,hi=>by
   by_cases e:i=j+1
   ·subst e; exact ⟨_,h⟩
   ·rw [H7] at h
    obtain ⟨s1,h1,-⟩:=A2.1 h
    exact M8 j i s1 h1 (by omega)
theorem EM {form:List (List Int)} {x:List Int}:∀ (j:Nat) (s:List Int×List Int),H7 form x j=some s→s.1.length=x.length∧s.2.length=j
 | 0,s,h=>by injection h with h; subst h; exact ⟨rfl,rfl⟩
 | j+1,s,h=>by
   rw [H7] at h
   obtain ⟨s1,h1,h2⟩:=A2.1 h
   obtain ⟨-,-,-,h3,h4⟩:=JE h2
   obtain ⟨a,b⟩:=EM j s1 h1
   exact ⟨(F6 h3).trans a,by rw [h4,Ar,b]; rfl⟩
def RU (w:World) (s:List Int×List Int) (e:Ending) (w':World):Prop:=∃ b c v,e=.returned (.tuple #[.slice (some ⟨b,0,none⟩) s.1.length c,v])∧FJ w' b 0 s.1∧w'.ownsRow w.heap.size 42 1 v s.2.length (s.2.map sv)∧Fr w w'
theorem O4 (form:List (List Int)) (xs:List Int) (s9:List Int×List Int) (a xa:Option Addr) (cap cx n:Nat) (w:World) (hG:G w) (hm:BT w a form) (hr:Ce n form) (hn1:1≤n) (hn2:n≤1000000) (hl:form.length≤1000000) (hb:∀ r,r ∈ form→∀ x,x ∈ r→Sm x)
 (hx:El w iv xa xs) (hxl:xs.length=n) (hxb:∀ x,x ∈ xs→Sm x) (hred:H7 form xs form.length=some s9) :
 Calls Tryz.prog 118 #[.slice a form.length cap,.slice xa n cx] w (RU w s9):=by
 have hgn:=CS hG
 obtain ⟨i2,ki,kz0,kz1,kz2⟩:=AQ Je
 obtain ⟨N,hN⟩:∃ N,N=form.length:=⟨_,rfl⟩
 have hl2:=hZ (fun W (hW:Fr w W)=>NE form a cap n W (hG.fr hW) (hm.fr hW) hr hn1 hn2 hl hb)
 unfold RU
 rw [← hN] at hl hred hl2 ⊢
 have hs9:=EM N s9 hred
 have hl1:=hZ (fun (W:World) (hW:Fr w W) (P:Nat) (hP:W.cell? ⟨P,0,none⟩=some (.slice xa n cx))=>NE [xs] (some ⟨P,0,none⟩) 1 n W (hG.fr hW) (.inr ⟨P,0,rfl,AX W ⟨P,0,none⟩ hP,fun i ys hi=>by
  match i,hi with
  | 0,hi=>simp at hi; subst hi; exact ⟨xa,cx,by rw [hxl]; exact hP,hx.fr hW⟩
  | i+1,hi=>simp at hi⟩) (fun r hr=>by rw [Bo] at hr; rw [hr]; exact hxl) hn1 hn2 (by simp) (fun r hr=>by rw [Bo] at hr; rw [hr]; exact hxb))
 replace hN:=hZ hN
 replace hm:=hZ hm
 replace hr:=hZ hr
 replace hb:=hZ hb
 replace hG:=hZ hG
 replace hx:=hZ hx
 replace hxl:=hZ hxl
 replace hxb:=hZ hxb
 replace hred:=hZ hred
 replace hs9:=hZ hs9
 have c0:(w.alloc (.cells #[.slice xa n cx] 44)).cell? ⟨w.heap.size,0,none⟩=some (.slice xa n cx):=D6 _ _ _
 have f0:Fr w (w.alloc (.cells #[.slice xa n cx] 44)):=(Fr.refl _).alloc _
 go_enter Tryz.func118,Tryz.ntmps118
 go_wp2_with fail
 refine (hl1.out _ f0 _ c0).mono ?_
 rintro e w2 ⟨v1,L1,rfl,hL1,hm1,hf2⟩
 have hf12:=f0.trans hf2
 obtain ⟨l0,rfl⟩:∃ l0,L1=[l0]:=by
  match L1,hm1 with
  | [l0],_=>exact ⟨l0,rfl⟩
 have hx0:l0.xs=xs:=by simpa using hm1
 obtain ⟨g1,c1,hv1,-⟩:=hL1.own.form (by simp)
 have hown1:=hL1.own
 rw [hv1] at hown1
 obtain ⟨hp1,-,-,-,-,-⟩:=D5 hown1
 obtain ⟨b1,o1,y1,hae,-,hy1,k1,k2⟩:=hp1.at (i:=0) (by simp)
 injection hae with hae; injection hae with hb1 ho1
 subst hb1; subst ho1
 simp at hy1
 subst hy1
 obtain ⟨r1,-,r3,gu,nu,cu,r4⟩:=hL1.row l0 (by simp)
 have e1:l0.enc.1=.slice (some ⟨l0.b,0,none⟩) n l0.c:=by unfold Ln.enc; rw [hx0,hxl.out]
 have e2:l0.enc.2=.slice gu nu cu:=r4
 rw [e1] at k1
 rw [e2] at k2
 rw [hx0] at r3
 rw [AK] at r1
 subst hv1
 obtain ⟨xb,hxbk⟩:∃ xb,xb=l0.b:=⟨_,rfl⟩
 obtain ⟨xc,hxc⟩:∃ xc,xc=l0.c:=⟨_,rfl⟩
 rw [← hxbk] at k1 r1 r3
 rw [← hxc] at k1
 clear hL1 hown1 hp1 hm1 e1 e2 hx0 r4 hl1 c0 f0 hf2 hxbk hxc
 obtain ⟨W3,hW3⟩:∃ W3,W3=w2.alloc (.cells #[.slice (some ⟨xb,0,none⟩) n xc,.slice gu nu cu] 251):=⟨_,rfl⟩
 have f3':Fr w2 W3:=by rw [hW3]; exact (Fr.refl _).alloc _
 obtain ⟨lb,hlb⟩:∃ lb,lb=w2.heap.size:=⟨_,rfl⟩
 have hC3:Br W3 lb (.slice (some ⟨xb,0,none⟩) n xc) (.slice gu nu cu):=by rw [hW3,hlb]; exact Br.new _ _ _ _
 have hxlb:xb < lb:=by rw [hlb]; exact r3.2.1
 have r3':=r3.fr f3'
 go_upto_region 2 with (fail)
 rw [← hW3,← hlb]
 clear hW3 k1 k2 r3
 replace hlb:=hZ hlb
 replace r3':=hZ r3'
 go_wp2_with fail
 refine (hl2.out _ (hf12.trans f3')).mono ?_
 rintro e w4 ⟨v2,L2,rfl,hL2,hm2,hf4⟩
 have hF4:=(hf12.trans f3').trans hf4
 obtain ⟨a2,c2,rfl,-⟩:=Ft hL2.own
 have hC4:=hZ (hC3.fr hf4)
 have hO4:=r3'.out.fr hf4
 have hL2l:=hL2.len
 have hx4:lb < w4.heap.size:=hC4.out.lt
 have hL2b:∀ x,x ∈ L2→lb+1≤x.b:=fun x hx=>AE hC3.lt (hL2.row x hx).1
 have hprs:∀ (i:Nat) (x:Ln),L2[i]?=some x→∃ b,a2=some ⟨b,0,none⟩∧lb+1≤b∧b < w4.heap.size∧w4.cell? ⟨b,i * 2,none⟩=some x.enc.1∧w4.cell? ⟨b,i * 2+1,none⟩=some x.enc.2:=fun i x hx=>by
  have hi:=(Ah.1 hx).1
  obtain ⟨g2,c3,hv2,-⟩:=hL2.own.form (by omega)
  have hown2:=hL2.own
  rw [hv2] at hown2
  injection hv2 with hv2 _ _
  subst hv2
  obtain ⟨hp2,-,-,hg2,-,hg3⟩:=D5 hown2
  obtain ⟨b2,o2,y2,hae,-,hy2,k1,k2⟩:=hp2.at (i:=i) (by rw [Am]; exact hi)
  injection hae with hae; injection hae with hb2 ho2
  subst hb2; subst ho2
  rw [Ao,hx] at hy2
  simp at hy2
  subst hy2
  rw [Az] at k1 k2
  exact ⟨g2,rfl,AE hC3.lt hg2,hg3,k1,k2⟩
 have hL2r:∀ x,x ∈ L2→FJ w4 x.b 0 x.xs∧∃ g n c,x.u=.slice g n c:=fun x hx=>⟨(hL2.row x hx).2.2.1,(hL2.row x hx).2.2.2⟩
 have hrowN:∀ (i:Nat) (x:Ln),L2[i]?=some x→Bv form i=x.xs∧x.xs.length=n:=fun i x hx=>by
  have h1:form[i]?=some x.xs:=by rw [← hm2,Ao,hx]; rfl
  have h2:=Ah.1 h1
  exact ⟨by rw [Cb h2.1]; exact h2.2,hr.out _ (Ae h1)⟩
 have eg:∀ args w,(callFunc 183 args).run Tryz.prog w=.ok (.enter 183 args) w:=Oo Tryz.func183 (by kernel_rfl) rfl
 replace hL2l:=hZ (show L2.length=N by rw [← hL2l]; exact hN.out.symm)
 replace hprs:=hZ hprs
 replace hL2b:=hZ hL2b
 replace hL2r:=hZ hL2r
 replace hrowN:=hZ hrowN
 replace eg:=hZ eg
 replace hO4:=hZ hO4
 replace hC3:=hZ hC3
 rw [← hN.out] at *
 clear hL2 hm2 hl2 hm r3'
 have hbase:w.heap.size≤xb:=by omega
 go_wp2_with fail
 go_loopg [5,21] N (fun k s5 s21 wr=>∃ (i:Nat) (s:List Int×List Int),s21=.int .i64 i∧i+k=N∧Fx (·=xb) w4 wr∧Hid (H7 form xs i=some s)∧Hid (FJ wr xb 0 s.1)∧Hid (wr.ownsRow w4.heap.size 42 1 s5 i (s.2.map sv)))
 case atStart=>exact ⟨0,(xs,[]),rfl,by omega,Fx.refl _ _,rfl,hO4.out,A6 _ _ _ _⟩
 case round=>
  clear hO4
  obtain ⟨i,s,rfl,hik,hfx,hs,hO,hown⟩:=hrel
  obtain ⟨wo,rfl⟩:∃ wo:World,wo=wr:=⟨_,rfl⟩
  obtain ⟨ko,rfl⟩:∃ ko:Nat,ko=gk:=⟨_,rfl⟩
  have hFr:Fr w wo:=((Fx.of_fr hF4).trans hfx).toFr (fun k hk e=>by have e:k=xb:=e; omega)
  have hsl:=EM i s hs.out
  by_cases hi:i < N
  ·have hdI:decide (i < N)=true:=Ac hi
   have hi2:i < L2.length:=by rw [hL2l.out]; exact hi
   obtain ⟨x,hx⟩:∃ x,L2[i]?=some x:=⟨_,Ab hi2⟩
   obtain ⟨b2,rfl,hb21,hb22,k1,k2⟩:=hprs.out i x hx
   have hxm:=Ae hx
   obtain ⟨hr1,hr2⟩:=hrowN.out i x hx
   have hxbb:=hL2b.out x hxm
   obtain ⟨hxo,gx,nx,cx2,hxu⟩:=hL2r.out x hxm
   obtain ⟨s',hs'⟩:=M8 N (i+1) s9 hred.out (by omega)
   have hst:=hs'
   rw [H7,hs.out] at hst
   replace hst:Hn (Bv form i) s=some s':=hst
   rw [hr1] at hst
   obtain ⟨q1,q2,q3,q4,q5⟩:=JE hst
   obtain ⟨p,hp,hpl⟩:∃ p:Nat,Et x.xs=p∧p < x.xs.length:=by
    unfold Et at q3 ⊢
    rcases Ks (fun y:Int=>y != 0) x.xs with ⟨-,h2⟩ | ⟨k,y,h1,h2,-⟩
    ·exfalso
     apply q3
     cases e:x.xs[(Jf (fun y:Int=>y != 0) x.xs).toNat]? with
     | none=>rfl
     | some y=>have:=h2 y (Ae e); simpa using this
    ·exact ⟨k,h1,(Ah.1 h2).1⟩
   rw [hp,AW] at q1 q2 q3 q4 q5
   have hpn:p < n:=by omega
   have sl:s.1.length=n:=hsl.1.trans hxl.out
   obtain ⟨y,hy⟩:∃ y,s.1[p]?=some y:=⟨_,Ab (by omega)⟩
   obtain ⟨z,hz⟩:∃ z,x.xs[p]?=some z:=⟨_,Ab hpl⟩
   rw [hy] at q1 q4 q5
   rw [hz] at q2 q3 q4 q5
   simp only [Cz] at q1 q2 q3 q4 q5
   have hxo':=hxo.fx hfx (fun e=>by have e:x.b=xb:=e; omega)
   have e1:x.enc.1=.slice (some ⟨x.b,0,none⟩) n x.c:=by unfold Ln.enc; rw [hr2]
   have e2:x.enc.2=.slice gx nx cx2:=hxu
   replace k1:=hfx.keep k1 (fun e=>by have e:b2=xb:=e; omega)
   replace k2:=hfx.keep k2 (fun e=>by have e:b2=xb:=e; omega)
   rw [e1] at k1
   rw [e2] at k2
   have hC5:=hC4.out.fx hfx (fun e=>by have e:lb=xb:=e; omega)
   obtain ⟨m0,m1,-,-⟩:=hC5
   have n1:=(hO.out.2.2 p y hy).1
   have n2:=(hxo'.2.2 p z hz).1
   rw [Az] at n1 n2
   have hGo:=hG.out.fr hFr
   have hif:=fun W (hW:Fr wo W)=>Og x.xs (some ⟨x.b,0,none⟩) x.c 183 #[] (fun x=>x != 0) W eg.out (hxo'.fr hW).el (by omega) (MG W x.xs)
   rw [hr2,show Jf (fun x:Int=>x != 0) x.xs=p from hp] at hif
   have hdv:=hZ (fun W (hW:Fr wo W)=>J2 y z q1 q2 q3 W (hGo.fr hW))
   obtain ⟨q,hq⟩:∃ q,q=y.fdiv z:=⟨_,rfl⟩
   rw [← hq] at q4 q5 hdv
   have hls:=fun W (hW:Fr wo W)=>So xb 0 xc x.b 0 x.c n n q (.slice gu nu cu) s.1 x.xs s'.1 W (hGo.fr hW) (hO.out.fr hW) (hxo'.fr hW) (by omega) (by omega) sl.symm hr2.symm (by omega) rfl q4
   have hsn:Hid (s'.2.map sv=s.2.map sv ++ [sv q]):=by show _=_; rw [q5,Aw]; rfl
   replace hif:=hZ hif
   replace hls:=hZ hls
   obtain ⟨yb,hyb⟩:∃ yb,yb=x.b:=⟨_,rfl⟩
   obtain ⟨yc,hyc⟩:∃ yc,yc=x.c:=⟨_,rfl⟩
   rw [← hyb] at k1 n2 hif hls hxbb
   rw [← hyc] at k1 hif hls
   replace hy:=hZ hy
   replace hz:=hZ hz
   replace hp:=hZ hp
   replace hq:=hZ hq
   replace hyb:=hZ hyb
   replace hyc:=hZ hyc
   replace hr1:=hZ hr1
   replace hr2:=hZ hr2
   replace hs':=hZ hs'
   replace hx:=hZ hx
   replace hxm:=hZ hxm
   replace sl:=hZ sl
   replace hxo':=hZ hxo'
   replace hsl:=hZ hsl
   replace hi2:=hZ hi2
   clear hxo hxu e1 e2 hst q4 q5 q1 q2 q3
   have z0:(0:Int)≤(i:Int):=Af _
   have z1:(i:Int) < (N:Int):=by omega
   have z2:(0:Int)≤(p:Int):=Af _
   have z3:(p:Int) < (n:Int):=by omega
   obtain ⟨W5,hW5⟩:∃ W5,W5=wo.alloc (.cells #[.slice (some ⟨yb,0,none⟩) n yc,.slice gx nx cx2] 251):=⟨_,rfl⟩
   have f5:Fr wo W5:=by rw [hW5]; exact (Fr.refl _).alloc _
   obtain ⟨rk,hrk⟩:∃ rk,rk=wo.heap.size:=⟨_,rfl⟩
   have hCk:Br W5 rk (.slice (some ⟨yb,0,none⟩) n yc) (.slice gx nx cx2):=by rw [hW5,hrk]; exact Br.new _ _ _ _
   have j1:=hCk.a
   go_upto_region 5 with (fail)
   rw [← hW5,← hrk]
   clear hW5 k1 k2
   replace m0:=f5.keep m0
   replace m1:=f5.keep m1
   replace n1:=f5.keep n1
   replace n2:=f5.keep n2
   replace hrk:=hZ hrk
   go_wp2_with fail
   refine (hif.out _ f5).mono ?_
   rintro e w6 ⟨rfl,hf6⟩
   have f6:=f5.trans hf6
   replace m0:=hf6.keep m0
   replace m1:=hf6.keep m1
   replace n1:=hf6.keep n1
   replace n2:=hf6.keep n2
   replace j1:=hf6.keep j1
   clear f5
   go_wp2_with fail
   go_region_held3 (fun w'=>w'.cell? ⟨lb,0,none⟩=some (.slice (some ⟨xb,0,none⟩) n xc)∧w'.cell? ⟨xb,p,none⟩=some (.string (tx y))∧w'.cell? ⟨rk,0,none⟩=some (.slice (some ⟨yb,0,none⟩) n yc)∧w'.cell? ⟨yb,p,none⟩=some (.string (tx z)))
    (first | go_keep | (go_split_ands; refine ⟨?_, ?_, ?_, ?_⟩ <;> (refine Fr.keep (by assumption) ?_; assumption)))
    (first | (go_at_call 172; refine (hdv.out _ ?_).mono ?_; (exact BR); rintro e w7 ⟨rfl,hf7⟩))
   have f67:Fr w6 w7:=(Fr.refl w6).drew.trans hf7
   have f7:Fr wo w7:=f6.trans f67
   replace m0:=f67.keep m0
   replace m1:=f67.keep m1
   replace j1:=f67.keep j1
   clear n1 n2
   go_wp2_with fail
   refine (hls.out _ f7).mono ?_
   rintro e w8 ⟨rfl,hfx8,hO8⟩
   have hown8:=BM (Ba hown.out f7) hfx8 (fun k e=>fun e2=>by have e2:k=xb:=e2; have:=(hown.out.lt k e).1; omega)
   have hfxA:=(hfx.fr f7).trans hfx8
   have hz8:=hfxA.size
   replace hO8:=hZ hO8
   clear m0 m1 j1
   go_wp2_with (at_builtin; refine At _ rfl _ _ 40 (by rfl) _ 42 _ _ 1 16 Tryz.underlying40 ki kz0 kz1 kz2 rfl (by decide) _ i _ (by rfl) (Au hown8 _) ⟨w8.heap.size,0,none⟩ 1 1 [.string (tx q)] (by rfl) rfl (AF _ _ _ _ (by simp)) (by simp [Value.oneCell']) (by decide) (by unfold maxLen; omega) (by omega) (by skip; simp; omega) (w8.heap.size+1) (by simp) ?_; intro gA capA wA hownA hgrowA hatA hltA)
   go_wp2_with fail
   go_roundg (ko - 1)
   case measure=>omega
   case rel=>exact ⟨i+1,s',by go_num,by omega,(hfxA.alloc _).grownX hgrowA (fun k e=>(hown.out.lt k e).1),hs'.out,((hO8.out.fr ((Fr.refl _).alloc _)).fx (Fx.of_grown hgrowA) (fun e=>by have e9:=(hown.out.lt xb e).1; omega)),by show World.ownsRow _ _ _ _ _ _ _; rw [hsn.out]; exact hownA⟩
  ·have hdI:decide (i < N)=false:=Aa hi
   obtain rfl:N=i:=by omega
   have hs99:s=s9:=by have:=hs.out; rw [hred.out] at this; injection this with this; exact this.symm
   subst hs99
   have hC5:=hC4.out.fx hfx (fun e=>by have e:lb=xb:=e; omega)
   obtain ⟨m0,m1,-,-⟩:=hC5
   have hown9:=hZ (B5 (base':=w.heap.size) hown.out hF4.size)
   have sl:Hid (s.1.length=n):=hsl.1.trans hxl.out
   replace hsl:=hZ hsl
   go_wp2_with fail
   go_ret2
   exact ⟨xb,xc,_,by rw [sl.out]; rfl,hO.out,by rw [hsl.out.2]; exact hown9.out,hFr⟩
def RV (w:World) (s:List Int×List Int) (e:Ending) (w':World):Prop:=∃ b c b2 c2,e=.returned (.tuple #[.slice (some ⟨b,0,none⟩) s.1.length c,.slice (some ⟨b2,0,none⟩) s.2.length c2,.int .i64 0])∧El w' iv (some ⟨b,0,none⟩) s.1∧El w' iv (some ⟨b2,0,none⟩) s.2∧Fr w w'
def Wz (w:World) (s:List Int×List Int) (e:Ending) (w':World):Prop:=(s.2.all Bi=true→RV w s e w')∧(s.2.all Bi=false→e=.returned (.tuple #[.slice none 0 0,.slice none 0 0,.int .i64 4])∧Fr w w')
theorem KT (form:List (List Int)) (xs:List Int) (s:List Int×List Int) (a xa:Option Addr) (cap cx n:Nat) (w:World) (hG:G w) (hm:BT w a form) (hT:Ge n form) (hcap:form.length≤cap) (hok:Hx form=true) (hn1:1≤n) (hl1:0 < form.length)
 (hx:El w iv xa xs) (hxl:xs.length=n) (hxb:∀ x,x ∈ xs→Bi x=true) (hred:H7 form xs form.length=some s) (hf1:∀ x,x ∈ s.1→Bi x=true) (hf2:∀ x,x ∈ s.2→-9223372036854775808≤x∧x≤9223372036854775807) :
 Calls Tryz.prog 66 #[.slice a form.length cap,.slice xa n cx] w (Wz w s):=by
 have hsl:=EM _ s hred
 have fs:∀ x,Bi x=true→Sm x:=fun x h=>by unfold Bi at h; have h:=Av h; exact ⟨by omega,by omega⟩
 have h1:=Sn form xs a xa cap cx n w hm hT hcap hok hl1 hx (by have:=hT.2.1; omega)
 have hoe:LK n xs=0:=by
  unfold LK
  have:Cx xs=0:=Hm (by have:=hT.2.1; omega) (CE.2 (fun x hx=>by rw [hxb x hx]; simp))
  rw [Ai (by rw [this]; simp),Ai (by rw [hxl]; simp)]
 rw [hoe,hxl] at h1
 have h2:=fun W (hW:Fr w W)=>O4 form xs s a xa cap cx n W (hG.fr hW) (hm.fr hW) hT.2.2.1 hn1 (by have:=hT.2.1; omega) (by have:=hT.1; omega) (fun r hr x hx=>fs x (hT.2.2.2 r hr x hx)) (hx.fr hW) hxl (fun x hx=>fs x (hxb x hx)) hred
 have h3:=fun W (hW:Fr w W) b c (hO:FJ W b 0 s.1)=>(Mr s.1 b 0 c W hO.el (by have:=hT.2.1; omega) (fun x hx=>by have:=fs x (hf1 x hx); unfold Sm at this; omega)).mono fun _ _ h=>h.1 (As.2 hf1)
 have h4:=fun W (hW:Fr w W) b c (hO:El W sv (some ⟨b,0,none⟩) s.2)=>Mr s.2 b 0 c W hO (by have:=hT.1; omega) hf2
 have hgn:=CS hG
 have hn29:s.1.length=n:=hsl.1.trans hxl
 have hn39:s.2.length=form.length:=hsl.2
 clear hm hT hok hx hxb hG hoe hred hsl fs hf1 hf2
 replace hn29:=hZ hn29
 replace hn39:=hZ hn39
 generalize form.length=N at *
 replace h1:=hZ h1
 replace h2:=hZ h2
 replace h3:=hZ h3
 replace h4:=hZ h4
 replace hxl:=hZ hxl
 go_enter Tryz.func66,Tryz.ntmps66
 go_wp2_with fail
 refine h1.out.mono ?_
 rintro e w1 ⟨rfl,hf1⟩
 go_wp2_with fail
 refine (h2.out _ hf1).mono ?_
 rintro e w2 ⟨b,c,v,rfl,hO,hown,hf2⟩
 obtain ⟨b2,c2,rfl,hel2⟩:∃ b2 c2,v=.slice (some ⟨b2,0,none⟩) s.2.length c2∧El w2 sv (some ⟨b2,0,none⟩) s.2:=by
  obtain ⟨g,cp,h9,-⟩:=Ct hown (by rw [hn39.out]; exact hl1)
  subst h9
  exact ⟨g,cp,rfl,(DA (by have:=hf1.size; omega) hown).1.el⟩
 clear hown
 have h3':=hZ (h3.out _ (hf1.trans hf2) b c hO)
 have h4':=hZ (fun W (hW:Fr w2 W)=>h4.out _ ((hf1.trans hf2).trans hW) b2 c2 (hel2.fr hW))
 have hf12:=hf1.trans hf2
 rw [hn29.out] at h3' ⊢
 rw [hn39.out] at h4' ⊢
 clear hO hel2 h1 h2 h3 h4 hf1 hf2
 go_wp2_with fail
 refine h3'.out.mono ?_
 rintro e w3 ⟨b3,c3,rfl,hf3,ho3⟩
 rw [hn29.out] at ho3 ⊢
 have hel3:=El.fr (Ga ho3) (Fr.refl _)
 replace hel3:=hZ hel3
 clear ho3 h3'
 go_wp2_with fail
 cases hbr:s.2.all Bi with
 | false=>
   replace hbr:=hZ hbr
   refine (h4'.out _ hf3).mono ?_
   rintro e w4 hrr
   obtain ⟨rfl,hf4⟩:=hrr.2 hbr.out
   clear hrr h4'
   go_wp2_with fail
   go_ret3
   exact ⟨fun h=>(by rw [hbr.out] at h; cases h),fun _=>⟨rfl,(hf12.trans hf3).trans hf4⟩⟩
 | true=>
   replace hbr:=hZ hbr
   refine (h4'.out _ hf3).mono ?_
   rintro e w4 hrr
   obtain ⟨b4,c4,rfl,hf4,ho4⟩:=hrr.1 hbr.out
   clear hrr
   rw [hn39.out] at ho4 ⊢
   have hel4:=hZ (Ga ho4)
   clear ho4 h4'
   go_wp2_with fail
   go_ret3
   exact ⟨fun _=>⟨b3,c3,b4,c4,by rw [hn29.out,hn39.out]; rfl,hel3.out.fr hf4,hel4.out,(hf12.trans hf3).trans hf4⟩,fun h=>(by rw [hbr.out] at h; cases h)⟩
theorem QM (form:List (List Int)) (xs:List Int) (s:List Int×List Int) (a xa:Option Addr) (cap cx n:Nat) (w:World) (hG:G w) (hm:BT w a form) (hT:Ge n form) (hcap:form.length≤cap) (hok:Hx form=true) (hn1:1≤n) (hl1:0 < form.length)
 (hx:El w iv xa xs) (hxl:xs.length=n) (hxb:∀ x,x ∈ xs→Bi x=true) (hred:H7 form xs form.length=some s) (hf1:∀ x,x ∈ s.1→Bi x=true) (hf2:∀ x,x ∈ s.2→Bi x=true) :
 Calls Tryz.prog 66 #[.slice a form.length cap,.slice xa n cx] w (RV w s) :=
 (KT form xs s a xa cap cx n w hG hm hT hcap hok hn1 hl1 hx hxl hxb hred hf1 (fun x hx=>by have h:=hf2 x hx; unfold Bi at h; have h:=Av h; omega)).mono fun _ _ h=>h.1 (As.2 hf2)
end Go.Proofs.YtcglmebcfeoedaaGreatDoor
