/- Contracts and laws: VOX. -/
import Derived.Test.YtmalpgbbddkdcaaGreatDoorVF
import Derived.Test.YtmalpgbbddkdcaaGreatDoorVFT
import Derived.Test.YtmalpgbbddkdcaaGreatDoorVJ

set_option maxRecDepth 100000
set_option maxHeartbeats 4000000
namespace Go.Proofs.YtmalpgbbddkdcaaGreatDoor
open Go.RowKit Go.Lib
attribute [local go_sem ↓] Go.wp_at_zero Go.wp_at_succ
theorem ownsRow_cap {w:World} {base:Nat} {e:TypeId} {size:Nat} {a:Option Addr} {n c m:Nat} {xs:List Value} (h:w.ownsRow base e size (.slice a n c) m xs):n≤c:=by
 rcases h.2 with ⟨hv,-⟩ | ⟨g,cap,cur,hv,h2⟩
 ·injection hv with _ h1 h2; omega
 ·injection hv with h1 h3 h4
  subst h1; subst h4
  exact (ownsRow_some h).2.2.2.1
def LatRetC (w:World) (n:Nat) (g:List (List Int)) (e:Ending) (w':World):Prop:=∃ a c,e=.returned (.tuple #[.agg #[.int .i64 n,.slice a g.length c],.int .i64 0])∧g.length≤c∧(∀ W,Fx (· < w.heap.size) w' W→MatIs W a g)∧Fr w w'
theorem GridIs.takeC {w:World} {ob oo:Nat} {hs:List (Nat×Nat×Nat)} {g:List (List Int)} (h:GridIs w ob oo hs g) (t:Nat):GridIs w ob oo (hs.take t) (g.take t):=by
 have key:∀ {α:Type} {l:List α} {i:Nat} {x:α},(l.take t)[i]?=some x→l[i]?=some x:=fun {α l i x} hx=>by
  rw [List.getElem?_take] at hx
  split at hx
  ·exact hx
  ·cases hx
 exact ⟨by rw [List.length_take,List.length_take,h.len],h.outer,h.gob,fun i hd xs h1 h2=>h.cell i hd xs (key h1) (key h2),fun i hd xs h1 h2=>h.row i hd xs (key h1) (key h2),fun i j hi hj h1 h2=>h.apart i j hi hj (key h1) (key h2)⟩
def allFit (g:List (List Int)):Bool:=g.all fun r=>r.all fitB
def OfRet (w:World) (n:Nat) (g:List (List Int)) (e:Ending) (w':World):Prop:=(allFit g=true→LatRetC w n g e w')∧(allFit g=false→e=.returned (.tuple #[.agg #[.int .i64 0,.slice none 0 0],.int .i64 4])∧Fr w w')
theorem short_x (ob oc tF n:Nat) (hs:List (Nat×Nat×Nat)) (g:List (List Int)) (w:World) (hG:G w) (hg:GridIs w ob 0 hs g) (hl:g.length≤1000000) (ht:tF≤g.length) (hr:∀ r,r ∈ g→r.length≤1000000) (hb:∀ r,r ∈ g→∀ x,x ∈ r→(tx x).size≤1000000000) (hE:ErX w) :
 Calls Tryz.prog 88 #[.slice (some ⟨ob,0,none⟩) tF oc,.int .i64 n] w (OfRet w n (g.take tF)):=by
 have hgn:=gN_le hG
 obtain ⟨i1,ji,jz0,jz1,jz2⟩:=info_parts infoRow
 replace hg:=hZ hg
 replace hr:=hZ hr
 replace hb:=hZ hb
 replace hG:=hZ hG
 go_enter Tryz.func88,Tryz.ntmps88
 go_wp2_with fail
 have htwo:Two ((w.alloc (.cells #[.int .i64 0,.slice none 0 0] 61)).alloc (.cells #[.int .i64 n,.slice none 0 0] 61)) w.heap.size n (.slice none 0 0):=by
  have hfr:Fr (w.alloc (.cells #[.int .i64 0,.slice none 0 0] 61)) ((w.alloc (.cells #[.int .i64 0,.slice none 0 0] 61)).alloc (.cells #[.int .i64 n,.slice none 0 0] 61)):=(Fr.refl _).alloc _
  have p1:=new2a w (.int .i64 0) (.slice none 0 0) 61
  have p2:=new2b w (.int .i64 0) (.slice none 0 0) 61
  have p3:=new2a (w.alloc (.cells #[.int .i64 0,.slice none 0 0] 61)) (.int .i64 n) (.slice none 0 0) 61
  have p4:=new2b (w.alloc (.cells #[.int .i64 0,.slice none 0 0] 61)) (.int .i64 n) (.slice none 0 0) 61
  rw [World.size_alloc] at p3 p4
  exact ⟨⟨_,hfr.keep p1.1⟩,⟨_,hfr.keep p2.1⟩,hfr.keepf p1.1 p1.2,hfr.keepf p2.1 p2.2,p3.1,p4.1,p3.2,p4.2⟩
 have hfr0:Fr w ((w.alloc (.cells #[.int .i64 0,.slice none 0 0] 61)).alloc (.cells #[.int .i64 n,.slice none 0 0] 61)):=((Fr.refl _).alloc _).alloc _
 go_loopg [15] tF (fun k s15 wr=>∃ (j:Nat) (hO:List (Nat×Nat×Nat)) (v:Value),s15=.int .i64 j∧j+k=tF∧Fr w wr∧Hid (w.heap.size+2≤wr.heap.size)∧Two wr w.heap.size n v∧GI wr (w.heap.size+2) 24 v hO (g.take j)∧Hid (∀ h,h ∈ hO→w.heap.size+2≤h.1)∧Hid (allFit (g.take j)=true))
 case atStart=>exact ⟨0,[],_,rfl,by omega,hfr0,by show _≤_; simp,htwo,GI.nil _ _ _ (by omega),fun h hm=>by simp at hm,rfl⟩
 case round=>
  clear htwo hfr0
  obtain ⟨j,hO,v,rfl,hjk,hf,hsz,htw,hgi,hnew,hfitj⟩:=hrel
  obtain ⟨⟨x0,a0⟩,⟨x1,a1⟩,fa0,fa1,b0,b1,fb0,fb1⟩:=htw
  have htw:=hZ (show Two wr w.heap.size n v from ⟨⟨x0,a0⟩,⟨x1,a1⟩,fa0,fa1,b0,b1,fb0,fb1⟩)
  by_cases hlt:j < tF
  ·have hjl:j < g.length:=by omega
   obtain ⟨rb,ro,rc,e1,ca1,cf1,ro1,bo1⟩:=(hg.out.fr hf).at hjl
   rw [Nat.zero_add] at ca1
   have hsn:=take_snoc (List.getElem?_eq_getElem hjl)
   have hrj:=hr.out _ (List.getElem_mem hjl)
   have hsh:=ShortRow_x g[j] rb ro rc wr ro1.el hrj (hb.out _ (List.getElem_mem hjl)) (hE.fr hf)
   have hrm:g[j] ∈ g.take tF:=List.mem_iff_getElem?.2 ⟨j,by rw [List.getElem?_take,if_pos hlt]; exact List.getElem?_eq_getElem hjl⟩
   have hgl:(g.take j).length=j:=by rw [List.length_take]; omega
   generalize g[j]=row at *
   obtain ⟨m,hm⟩:∃ m,m=row.length:=⟨_,rfl⟩
   rw [← hm] at ca1 hsh
   replace hm:=hZ hm
   replace hsn:=hZ hsn
   replace hgl:=hZ hgl
   replace hgi:=hZ hgi
   replace ro1:=hZ ro1
   replace e1:=hZ e1
   cases hbr:row.all fitB with
   | false=>
     have hbad:Hid (allFit (g.take tF)=false):=hZ (List.all_eq_false.2 ⟨row,hrm,by rw [hbr]; simp⟩)
     clear hrm b0 b1 fb0 fb1
     replace a0:=hZ a0
     replace a1:=hZ a1
     replace fa0:=hZ fa0
     replace fa1:=hZ fa1
     go_wp2_with fail
     refine hsh.mono ?_
     clear hsh
     rintro e w2 hrr
     obtain ⟨rfl,hf2⟩:=hrr.2 hbr
     clear hrr
     have fa0:=hf2.keepf a0.out fa0.out
     have fa1:=hf2.keepf a1.out fa1.out
     have a0:=hf2.keep a0.out
     have a1:=hf2.keep a1.out
     go_wp2_with fail
     have q0:(w2.setCell ⟨w.heap.size,0,none⟩ (.int .i64 0)).cell? ⟨w.heap.size,0,none⟩=some (.int .i64 0):=World.cell?_setCell_same' _ _ _ (by rw [a0]; rfl)
     have e1:(⟨w.heap.size,0,none⟩:Addr)≠⟨w.heap.size,1,none⟩:=fun e=>by injection e with _ e; omega
     have q1:((w2.setCell ⟨w.heap.size,0,none⟩ (.int .i64 0)).setCell ⟨w.heap.size,1,none⟩ (.slice none 0 0)).cell? ⟨w.heap.size,1,none⟩=some (.slice none 0 0):=World.cell?_setCell_same' _ _ _ (by rw [World.cell?_setCell_other _ _ _ _ e1,a1]; rfl)
     refine bodyPost_ret (v:=.tuple #[.agg #[.int .i64 0,.slice none 0 0],.int .i64 4]) (by simp [results,Tryz.results88,go_sem,q0,q1]) rfl ?_
     exact ⟨fun h=>(by rw [hbad.out] at h; cases h),fun _=>⟨rfl,((hf.trans hf2).setCell (p:=⟨w.heap.size,0,none⟩) (by simp) _).setCell (p:=⟨w.heap.size,1,none⟩) (by simp) _⟩⟩
   | true=>
     clear hrm
     clear a0 a1 fa0 fa1 b0 b1 fb0 fb1
     go_wp2_with fail
     refine hsh.mono ?_
     clear hsh
     rintro e w2 hrr
     obtain ⟨gg,c,rfl,hf2,hown2⟩:=hrr.1 hbr
     clear hrr
     obtain ⟨hO2,-,-,hgb,hcp⟩:=ownsRow_ownI (Nat.le_trans hgn hf.size) hown2
     have hgi2:=hgi.out.fr hf2
     have hne:v.ownBlock≠some gg:=fun e=>by have h9:=(hgi.out.own.lt gg e).2; omega
     have hne2:∀ h',h' ∈ hO→h'.1≠gg:=fun h' hm e2=>by have h9:=hgi.out.lt h' hm; omega
     have hown3:=hgi2.own
     rw [hgl.out] at hown3
     rw [← hm.out]
     have hvb:∀ b,v.ownBlock=some b→w.heap.size+2≤b:=fun b e=>(hgi2.own.lt b e).1
     have htw2:=htw.out.fx (p:=fun _=>False) (Fx.of_fr hf2) (fun e=>e) (fun e=>e)
     obtain ⟨⟨y0,a0⟩,⟨y1,a1⟩,fa0,fa1,b0,b1,fb0,fb1⟩:=htw2
     have htw2:=hZ (show Two w2 w.heap.size n v from ⟨⟨y0,a0⟩,⟨y1,a1⟩,fa0,fa1,b0,b1,fb0,fb1⟩)
     clear a0 a1 fa0 fa1 b0
     replace hgi2:=hZ hgi2
     replace hown2:=hZ hown2
     replace hvb:=hZ hvb
     have hszz:=hsz.out
     have htwA:∀ wA:World,(w2.alloc (.cells #[.slice (some ⟨gg,0,none⟩) m c] 24)).grownBy wA v.ownBlock→Two wA w.heap.size n v:=fun wA hgw=>
      (htw2.out.fx (p:=fun _=>False) (Fx.of_fr ((Fr.refl w2).alloc _)) (fun e=>e) (fun e=>e)).fx (Fx.of_grown hgw) (fun e=>by have:=hvb.out _ e; omega) (fun e=>by have:=hvb.out _ e; omega)
     replace htwA:=hZ htwA
     go_wp2_with (at_builtin; refine wpList_append_lies _ rfl _ _ 28 (by rfl) _ 24 _ _ 1 24 Tryz.underlying28 ji jz0 jz1 jz2 rfl (by decide) _ j _ (by rfl) (World.ownsRow.alloc hown3 _) ⟨w2.heap.size,0,none⟩ 1 1 [.slice (some ⟨gg,0,none⟩) m c] (by rfl) rfl (cell_one_newN _ _ _ _ (by simp)) (by simp [Value.oneCell']) (by decide) (by unfold maxLen; omega) (by omega) (by have:=(hf.trans hf2).size; have:=hf2.size; simp; omega) (w2.heap.size+1) (by simp) ?_; intro gA capA wA hownA hgrowA hatA hltA; have htw3:=htwA.out wA hgrowA; have hbb:=htw3.b1; have hfb:=htw3.fb1; replace htw3:=hZ htw3)
     have hpush:=(hgi2.out.fr ((Fr.refl w2).alloc _)).pushN (hd:=(gg,0,c)) (hO2.fr ((Fr.refl w2).alloc _)) hne2 hne hgl.out (by unfold hdr; rw [← hm.out]) hownA hgrowA (hatA.imp id (fun e=>by rw [e]; simp))
     rw [← hsn.out] at hpush
     have hfrA:Fr w wA:=(((hf.trans hf2).alloc _)).grown hgrowA (fun k e=>by have:=hvb.out k e; omega)
     have hfx9:Fx (·=w.heap.size+1) wA (wA.setCell ⟨w.heap.size+1,1,none⟩ (.slice (some ⟨gA,0,none⟩) (j+1) capA)):=Fx.setCell (p:=(·=w.heap.size+1)) (q:=⟨w.heap.size+1,1,none⟩) (Fx.refl _ wA) (.inl rfl) _
     have hpush2:=hpush.fx hfx9 (fun b e e2=>by have e3:b=w.heap.size+1:=e2; have h9:=(hpush.own.lt b e).1; omega) (fun hd hm9 e2=>by rcases List.mem_append.1 hm9 with h1 | h1; (have e3:hd.1=w.heap.size+1:=e2; have:=hnew.out hd h1; omega); (simp at h1; subst h1; have e3:gg=w.heap.size+1:=e2; omega))
     have htw4:=htw3.out.set (.slice (some ⟨gA,0,none⟩) (j+1) capA)
     have hfr9:Fr w (wA.setCell ⟨w.heap.size+1,1,none⟩ (.slice (some ⟨gA,0,none⟩) (j+1) capA)):=hfrA.setCell (p:=⟨w.heap.size+1,1,none⟩) (by simp) _
     go_roundg (gk - 1)
     case measure=>omega
     case rel=>exact ⟨j+1,_,_,by go_num,by omega,hfr9,hZ (by have h7:=hf2.size; have h8:=hgrowA.size; have h9:=hszz; simp at h8; simp; omega),htw4,hpush2,fun h hm9=>by rcases List.mem_append.1 hm9 with h1 | h1; exact hnew.out h h1; (simp at h1; subst h1; exact Nat.le_trans hsz.out hgb),by show allFit _=true; rw [hsn.out]; unfold allFit; rw [List.all_append]; have h1:=hfitj.out; unfold allFit at h1; rw [h1]; simp [hbr]⟩
  ·have hd:decide (j < tF)=false:=decide_eq_false hlt
   obtain rfl:j=tF:=by omega
   obtain ⟨a9,c9,rfl,-⟩:=ownsRow_slice hgi.own
   have hgl:(g.take j).length=j:=by rw [List.length_take]; omega
   have hcp9:(g.take j).length≤c9:=ownsRow_cap hgi.own
   rw [hgl] at hgi b1 htw
   go_wp2_with fail
   have q0:(wr.setCell ⟨w.heap.size,0,none⟩ (.int .i64 n)).cell? ⟨w.heap.size,0,none⟩=some (.int .i64 n):=World.cell?_setCell_same' _ _ _ (by rw [a0]; rfl)
   have e1:(⟨w.heap.size,0,none⟩:Addr)≠⟨w.heap.size,1,none⟩:=fun e=>by injection e with _ e; omega
   have q1:((wr.setCell ⟨w.heap.size,0,none⟩ (.int .i64 n)).setCell ⟨w.heap.size,1,none⟩ (.slice a9 j c9)).cell? ⟨w.heap.size,1,none⟩=some (.slice a9 j c9):=World.cell?_setCell_same' _ _ _ (by rw [World.cell?_setCell_other _ _ _ _ e1,a1]; rfl)
   refine bodyPost_ret (v:=.tuple #[.agg #[.int .i64 n,.slice a9 j c9],.int .i64 0]) (by simp [results,Tryz.results88,go_sem,q0,q1]) rfl ?_
   refine ⟨fun _=>⟨a9,c9,by rw [hgl],hcp9, ?_,(hf.setCell (p:=⟨w.heap.size,0,none⟩) (by simp) _).setCell (p:=⟨w.heap.size,1,none⟩) (by simp) _⟩,fun h=>(by rw [hfitj.out] at h; cases h)⟩
   have hfx:Fx (·=w.heap.size) wr ((wr.setCell ⟨w.heap.size,0,none⟩ (.int .i64 n)).setCell ⟨w.heap.size,1,none⟩ (.slice a9 j c9)):=Fx.setCell (p:=(·=w.heap.size)) (q:=⟨w.heap.size,1,none⟩) (Fx.setCell (p:=(·=w.heap.size)) (q:=⟨w.heap.size,0,none⟩) (Fx.refl _ wr) (.inl rfl) _) (.inl rfl) _
   intro W hW
   exact ((hgi.fx hfx (fun b e e2=>by have e3:b=w.heap.size:=e2; have h9:=(hgi.own.lt b e).1; omega) (fun hd hm9 e2=>by have e3:hd.1=w.heap.size:=e2; have:=hnew.out hd hm9; omega)).fx hW (fun b e e2=>by have e3:b < w.heap.size:=e2; have h9:=(hgi.own.lt b e).1; omega) (fun hd hm9 e2=>by have e3:hd.1 < w.heap.size:=e2; have:=hnew.out hd hm9; omega)).mat
theorem Of_x (m gF:List (List Int)) (F tF:Nat) (a:Option Addr) (cap n:Nat) (w:World) (hG:G w) (hm:MatIs w a m) (hok:TabOk n m) (hml:0 < m.length) (hn:1≤n) (hF:formS F n 0 m 0=some (gF,tF)) (hfF:∀ r,r ∈ gF.take tF→∀ x,x ∈ r→(tx x).size≤1000000000) (hE:ErX w) :
 Calls Tryz.prog 109 #[.int .i64 n,.slice a m.length cap] w (OfRet w n (gF.take tF)):=by
 have hfit:=hok.2.2.2
 have hr1:=hok.2.2.1
 have hsm:∀ r,r ∈ m→∀ y,y ∈ r→Sm y:=fun r hr y hy=>fit_sm (hfit r hr y hy)
 have hn12:=hok.2.1
 have hm12:=hok.1
 have hrl:∀ r,r ∈ m→r.length≤1000000:=fun r hr=>by rw [hr1 r hr]; omega
 have hRE:∀ r,r ∈ m→rowE r=0:=fun r hr=>
  rowE_ok (by rw [hr1 r hr]; omega) (by
   rw [List.any_eq_false]
   intro y hy
   rw [hfit r hr y hy]; simp)
 have hchk:=fun W hW=>latCheck_ok m a cap n W (hm.fr (w':=W) hW) hr1 (by omega) hRE hn12
 have hlongs:=fun W hW=>longsOf_any m a cap W (hG.fr hW) (hm.fr hW) hrl (by omega) hsm
 have hform:=fun ob oc hs W hgW hg hoc=>form_any ob 0 oc hs m gF F n n tF W hgW hg hr1 (by omega) (by omega) (Nat.le_refl n) hoc hF
 have hG1:=hZ hG
 obtain ⟨N,hN⟩:∃ N,N=m.length:=⟨_,rfl⟩
 rw [← hN] at hchk hlongs hform hml hm12 ⊢
 replace hN:=hZ hN
 replace hfF:=hZ hfF
 replace hfit:=hZ hfit
 replace hrl:=hZ hrl
 replace hchk:=hZ hchk
 replace hlongs:=hZ hlongs
 replace hform:=hZ hform
 clear hm hok hG hr1 hsm hRE
 have hgn:=gN_le hG1.out
 go_enter Tryz.func109,Tryz.ntmps109
 go_wp2_with fail
 refine (hchk.out _ ((Fr.refl w).alloc _)).mono ?_
 rintro e w1 ⟨rfl,hf1⟩
 go_wp2_with fail
 refine (hlongs.out _ (((Fr.refl w).alloc _).trans hf1)).mono ?_
 rintro e w2 ⟨v,hs,rfl,hgg,hnew,hf2⟩
 obtain ⟨ob,oc,rfl⟩:=ownsRow_pos hgg.own (by rw [← hN.out]; exact hml)
 obtain ⟨hg,-,hgb,hgc⟩:=hgg.grid
 clear hgg
 have hG2:=hG1.out.fr ((((Fr.refl w).alloc _).trans hf1).trans hf2)
 replace hG2:=hZ hG2
 rw [← hN.out] at hgc ⊢
 have hg9:=hZ hg
 go_wp2_with fail
 refine (hform.out ob oc hs _ hG2.out hg9.out hgc).mono ?_
 rintro e w3 ⟨rfl,htl,hgl,hrF,hs',hsame,hfx3,hg3⟩
 replace hg3:=hZ (hg3.takeC tF)
 replace hrF:=hZ hrF
 replace hsame:=hZ hsame
 have hfr3:Fr (w.alloc (.cells #[.int .i64 0,.slice none 0 0] 61)) w3:=((Fx.of_fr (hf1.trans hf2)).trans hfx3).toFr (fun k hk e=>by
  have h1:=hf1.size
  rcases e with rfl | ⟨h,hm9,rfl⟩
  ·omega
  ·have:=hnew.out h hm9; omega)
 have hlt:(gF.take tF).length=tF:=by rw [List.length_take]; omega
 have hsh:=hZ (short_x ob oc tF n (hs'.take tF) (gF.take tF) w3 (hG1.out.fr (((Fr.refl w).alloc _).trans hfr3)) hg3.out (by omega) (by omega) (fun r hr=>by rw [hrF.out r (List.mem_of_mem_take hr)]; omega) hfF.out (hE.fr (((Fr.refl w).alloc _).trans hfr3)))
 rw [List.take_of_length_le (by omega)] at hsh
 replace hlt:=hZ hlt
 go_wp2_with fail
 cases hbr:allFit (gF.take tF) with
 | false=>
   replace hbr:=hZ hbr
   refine hsh.out.mono ?_
   rintro e w4 hrr
   obtain ⟨rfl,hf4⟩:=hrr.2 hbr.out
   clear hrr
   have p1:=new2a w (.int .i64 0) (.slice none 0 0) 61
   have p2:=new2b w (.int .i64 0) (.slice none 0 0) 61
   have c1:=(hfr3.trans hf4).keep p1.1
   have c2:=(hfr3.trans hf4).keep p2.1
   have c3:=(hfr3.trans hf4).keepf p1.1 p1.2
   have c5:=(hfr3.trans hf4).keepf p2.1 p2.2
   clear p1 p2
   go_wp2_with fail
   have e1:(⟨w.heap.size,0,none⟩:Addr)≠⟨w.heap.size,1,none⟩:=fun e=>by injection e with _ e; omega
   have q0:(w4.setCell ⟨w.heap.size,0,none⟩ (.int .i64 0)).cell? ⟨w.heap.size,0,none⟩=some (.int .i64 0):=World.cell?_setCell_same' _ _ _ (by rw [c1]; rfl)
   have q1:((w4.setCell ⟨w.heap.size,0,none⟩ (.int .i64 0)).setCell ⟨w.heap.size,1,none⟩ (.slice none 0 0)).cell? ⟨w.heap.size,1,none⟩=some (.slice none 0 0):=World.cell?_setCell_same' _ _ _ (by rw [World.cell?_setCell_other _ _ _ _ e1,c2]; rfl)
   have hfw:Fr w w4:=((Fr.refl w).alloc _).trans (hfr3.trans hf4)
   refine bodyPost_ret (v:=.tuple #[.agg #[.int .i64 0,.slice none 0 0],.int .i64 4]) (by simp [results,Tryz.results109,go_sem,q0,q1]) rfl ?_
   exact ⟨fun h=>(by rw [hbr.out] at h; cases h),fun _=>⟨rfl,(hfw.setCell (p:=⟨w.heap.size,0,none⟩) (by simp) _).setCell (p:=⟨w.heap.size,1,none⟩) (by simp) _⟩⟩
 | true=>
   replace hbr:=hZ hbr
   refine hsh.out.mono ?_
   rintro e w4 hrr
   obtain ⟨a4,c4,rfl,hcp4,hm4,hf4⟩:=hrr.1 hbr.out
   clear hrr
   rw [hlt.out] at hcp4 ⊢
   have p1:=new2a w (.int .i64 0) (.slice none 0 0) 61
   have p2:=new2b w (.int .i64 0) (.slice none 0 0) 61
   have c1:=(hfr3.trans hf4).keep p1.1
   have c2:=(hfr3.trans hf4).keep p2.1
   have c3:=(hfr3.trans hf4).keepf p1.1 p1.2
   have c5:=(hfr3.trans hf4).keepf p2.1 p2.2
   replace hm4:=hZ hm4
   clear p1 p2
   go_wp2_with fail
   have e1:(⟨w.heap.size,0,none⟩:Addr)≠⟨w.heap.size,1,none⟩:=fun e=>by injection e with _ e; omega
   have q0:(w4.setCell ⟨w.heap.size,0,none⟩ (.int .i64 n)).cell? ⟨w.heap.size,0,none⟩=some (.int .i64 n):=World.cell?_setCell_same' _ _ _ (by rw [c1]; rfl)
   have q1:((w4.setCell ⟨w.heap.size,0,none⟩ (.int .i64 n)).setCell ⟨w.heap.size,1,none⟩ (.slice a4 tF c4)).cell? ⟨w.heap.size,1,none⟩=some (.slice a4 tF c4):=World.cell?_setCell_same' _ _ _ (by rw [World.cell?_setCell_other _ _ _ _ e1,c2]; rfl)
   have hfw:Fr w w4:=((Fr.refl w).alloc _).trans (hfr3.trans hf4)
   refine bodyPost_ret (v:=.tuple #[.agg #[.int .i64 n,.slice a4 tF c4],.int .i64 0]) (by simp [results,Tryz.results109,go_sem,q0,q1]) rfl ?_
   refine ⟨fun _=>⟨a4,c4,by rw [hlt.out],by rw [hlt.out]; exact hcp4, ?_,(hfw.setCell (p:=⟨w.heap.size,0,none⟩) (by simp) _).setCell (p:=⟨w.heap.size,1,none⟩) (by simp) _⟩,fun h=>(by rw [hbr.out] at h; cases h)⟩
   have hfx:Fx (·=w.heap.size) w4 ((w4.setCell ⟨w.heap.size,0,none⟩ (.int .i64 n)).setCell ⟨w.heap.size,1,none⟩ (.slice a4 tF c4)):=Fx.setCell (p:=(·=w.heap.size)) (q:=⟨w.heap.size,1,none⟩) (Fx.setCell (p:=(·=w.heap.size)) (q:=⟨w.heap.size,0,none⟩) (Fx.refl _ w4) (.inl rfl) _) (.inl rfl) _
   have hs3:=hfr3.size
   have hs3:w.heap.size < w3.heap.size:=by simp at hs3; omega
   intro W hW
   exact hm4.out W ((hfx.mono (fun k e=>by have e2:k=w.heap.size:=e; show k < _; omega)).trans (hW.mono (fun k e=>by have e2:k < w.heap.size:=e; show k < _; omega)))
end Go.Proofs.YtmalpgbbddkdcaaGreatDoor
