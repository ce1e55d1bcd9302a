/- Contracts and laws: CAD. -/
import Derived.Test.YtiniigadkknboaaGreatDoorCAC
import Derived.Test.YtiniigadkknboaaGreatDoorCAB
import Derived.Test.YtiniigadkknboaaGreatDoorCAA
import Derived.Test.YtiniigadkknboaaGreatDoorLaysGrow
import Derived.Laws.AppendOwnNone
import Derived.Deep.QuietTactic
import Derived.BigQuiet

set_option maxRecDepth 100000
set_option maxHeartbeats 4000000
namespace Go.Proofs.YtiniigadkknboaaGreatDoor
open Go.RowKit Go.Lib
attribute [local go_sem ↓] Go.wp_at_zero Go.wp_at_succ
structure Two (w:World) (B n:Nat) (v:Value):Prop where
 a0:∃ x,w.cell? ⟨B,0,none⟩=some x
 a1:∃ x,w.cell? ⟨B,1,none⟩=some x
 fa0:w.frozen? ⟨B,0,none⟩=false
 fa1:w.frozen? ⟨B,1,none⟩=false
 b0:w.cell? ⟨B+1,0,none⟩=some (.int .i64 n)
 b1:w.cell? ⟨B+1,1,none⟩=some v
 fb0:w.frozen? ⟨B+1,0,none⟩=false
 fb1:w.frozen? ⟨B+1,1,none⟩=false
theorem Two.fx {w w':World} {B n:Nat} {v:Value} {p:Nat→Prop} (h:Two w B n v) (k:Fx p w w') (h0:¬ p B) (h1:¬ p (B+1)):Two w' B n v:=by
 obtain ⟨⟨x,hx⟩,⟨y,hy⟩,fa0,fa1,b0,b1,fb0,fb1⟩:=h
 exact ⟨⟨x,k.keep hx h0⟩,⟨y,k.keep hy h0⟩,k.keepf hx fa0 h0,k.keepf hy fa1 h0,k.keep b0 h1,k.keep b1 h1,k.keepf b0 fb0 h1,k.keepf b1 fb1 h1⟩
theorem Two.set {w:World} {B n:Nat} {v:Value} (h:Two w B n v) (u:Value):Two (w.setCell ⟨B+1,1,none⟩ u) B n u:=by
 obtain ⟨⟨x,hx⟩,⟨y,hy⟩,fa0,fa1,b0,b1,fb0,fb1⟩:=h
 have e1:(⟨B+1,1,none⟩:Addr)≠⟨B,0,none⟩:=fun e=>by injection e with e; omega
 have e2:(⟨B+1,1,none⟩:Addr)≠⟨B,1,none⟩:=fun e=>by injection e with e; omega
 have e3:(⟨B+1,1,none⟩:Addr)≠⟨B+1,0,none⟩:=fun e=>by injection e with _ e; omega
 refine ⟨⟨x, ?_⟩,⟨y, ?_⟩, ?_, ?_, ?_, ?_, ?_, ?_⟩
 ·rw [World.cell?_setCell_other _ _ _ _ e1]; exact hx
 ·rw [World.cell?_setCell_other _ _ _ _ e2]; exact hy
 ·rw [World.frozen?_setCell]; exact fa0
 ·rw [World.frozen?_setCell]; exact fa1
 ·rw [World.cell?_setCell_other _ _ _ _ e3]; exact b0
 ·exact World.cell?_setCell_same' _ _ _ (by rw [b1]; rfl)
 ·rw [World.frozen?_setCell]; exact fb0
 ·rw [World.frozen?_setCell]; exact fb1
def LatRet (w:World) (n:Nat) (g:List (List Int)) (e:Ending) (w':World):Prop:=∃ a c,e=.returned (.tuple #[.agg #[.int .i64 n,.slice a g.length c],.int .i64 0])∧(∀ W,Fx (· < w.heap.size) w' W→MatIs W a g)∧Fr w w'
theorem short_any (ob oc tF n:Nat) (hs:List (Nat×Nat×Nat)) (g:List (List Int)) (w:World) (hG:G w) (hg:GridIs w ob 0 hs g) (hl:g.length≤1000000) (ht:tF≤g.length) (hr:∀ r,r ∈ g→r.length≤1000000) (hb:∀ r,r ∈ g→∀ x,x ∈ r→fitB x=true) :
 Calls Tryz.prog 91 #[.slice (some ⟨ob,0,none⟩) tF oc,.int .i64 n] w (LatRet w n (g.take tF)):=by
 have hgn:=gN_le hG
 obtain ⟨i1,ji,jz0,jz1,jz2⟩:=info_parts infoRow
 replace hg:=hZ hg
 replace hr:=hZ hr
 replace hb:=hZ hb
 replace hG:=hZ hG
 go_enter Tryz.func91,Tryz.ntmps91
 go_wp2_with fail
 have htwo:Two ((w.alloc (.cells #[.int .i64 0,.slice none 0 0] 76)).alloc (.cells #[.int .i64 n,.slice none 0 0] 76)) w.heap.size n (.slice none 0 0):=by
  have hfr:Fr (w.alloc (.cells #[.int .i64 0,.slice none 0 0] 76)) ((w.alloc (.cells #[.int .i64 0,.slice none 0 0] 76)).alloc (.cells #[.int .i64 n,.slice none 0 0] 76)):=(Fr.refl _).alloc _
  have p1:=new2a w (.int .i64 0) (.slice none 0 0) 76
  have p2:=new2b w (.int .i64 0) (.slice none 0 0) 76
  have p3:=new2a (w.alloc (.cells #[.int .i64 0,.slice none 0 0] 76)) (.int .i64 n) (.slice none 0 0) 76
  have p4:=new2b (w.alloc (.cells #[.int .i64 0,.slice none 0 0] 76)) (.int .i64 n) (.slice none 0 0) 76
  rw [World.size_alloc] at p3 p4
  exact ⟨⟨_,hfr.keep p1.1⟩,⟨_,hfr.keep p2.1⟩,hfr.keepf p1.1 p1.2,hfr.keepf p2.1 p2.2,p3.1,p4.1,p3.2,p4.2⟩
 have hfr0:Fr w ((w.alloc (.cells #[.int .i64 0,.slice none 0 0] 76)).alloc (.cells #[.int .i64 n,.slice none 0 0] 76)):=((Fr.refl _).alloc _).alloc _
 go_loopg [15] tF (fun k s15 wr=>∃ (j:Nat) (hO:List (Nat×Nat×Nat)) (v:Value),s15=.int .i64 j∧j+k=tF∧Fr w wr∧Hid (w.heap.size+2≤wr.heap.size)∧Two wr w.heap.size n v∧GI wr (w.heap.size+2) 33 v hO (g.take j)∧Hid (∀ h,h ∈ hO→w.heap.size+2≤h.1))
 case atStart=>exact ⟨0,[],_,rfl,by omega,hfr0,by show _≤_; simp,htwo,GI.nil _ _ _ (by omega),fun h hm=>by simp at hm⟩
 case round=>
  clear htwo hfr0
  obtain ⟨j,hO,v,rfl,hjk,hf,hsz,htw,hgi,hnew⟩:=hrel
  obtain ⟨⟨x0,a0⟩,⟨x1,a1⟩,fa0,fa1,b0,b1,fb0,fb1⟩:=htw
  have htw:=hZ (show Two wr w.heap.size n v from ⟨⟨x0,a0⟩,⟨x1,a1⟩,fa0,fa1,b0,b1,fb0,fb1⟩)
  by_cases hlt:j < tF
  ·have hjl:j < g.length:=by omega
   obtain ⟨rb,ro,rc,e1,ca1,cf1,ro1,bo1⟩:=(hg.out.fr hf).at hjl
   rw [Nat.zero_add] at ca1
   have hsn:=take_snoc (List.getElem?_eq_getElem hjl)
   have hrj:=hr.out _ (List.getElem_mem hjl)
   have hsh:=shortRow_any g[j] rb ro rc wr (hG.out.fr hf) ro1 hrj (hb.out _ (List.getElem_mem hjl))
   have hgl:(g.take j).length=j:=by rw [List.length_take]; omega
   generalize g[j]=row at *
   obtain ⟨m,hm⟩:∃ m,m=row.length:=⟨_,rfl⟩
   rw [← hm] at ca1 hsh
   replace hm:=hZ hm
   replace hsn:=hZ hsn
   replace hgl:=hZ hgl
   replace hgi:=hZ hgi
   replace ro1:=hZ ro1
   replace e1:=hZ e1
   clear a0 a1 fa0 fa1 b0 b1 fb0 fb1
   go_wp2_with fail
   refine hsh.mono ?_
   clear hsh
   rintro e w2 ⟨gg,c,rfl,hf2,hown2⟩
   obtain ⟨hO2,-,-,hgb,hcp⟩:=ownsRow_ownI (Nat.le_trans hgn hf.size) hown2
   have hgi2:=hgi.out.fr hf2
   have hne:v.ownBlock≠some gg:=fun e=>by have h9:=(hgi.out.own.lt gg e).2; omega
   have hne2:∀ h',h' ∈ hO→h'.1≠gg:=fun h' hm e2=>by have h9:=hgi.out.lt h' hm; omega
   have hown3:=hgi2.own
   rw [hgl.out] at hown3
   rw [← hm.out]
   have hvb:∀ b,v.ownBlock=some b→w.heap.size+2≤b:=fun b e=>(hgi2.own.lt b e).1
   have htw2:=htw.out.fx (p:=fun _=>False) (Fx.of_fr hf2) (fun e=>e) (fun e=>e)
   obtain ⟨⟨y0,a0⟩,⟨y1,a1⟩,fa0,fa1,b0,b1,fb0,fb1⟩:=htw2
   have htw2:=hZ (show Two w2 w.heap.size n v from ⟨⟨y0,a0⟩,⟨y1,a1⟩,fa0,fa1,b0,b1,fb0,fb1⟩)
   clear a0 a1 fa0 fa1 b0
   replace hgi2:=hZ hgi2
   replace hown2:=hZ hown2
   replace hvb:=hZ hvb
   have hszz:=hsz.out
   have htwA:∀ wA:World,(w2.alloc (.cells #[.slice (some ⟨gg,0,none⟩) m c] 33)).grownBy wA v.ownBlock→Two wA w.heap.size n v:=fun wA hgw=>
    (htw2.out.fx (p:=fun _=>False) (Fx.of_fr ((Fr.refl w2).alloc _)) (fun e=>e) (fun e=>e)).fx (Fx.of_grown hgw) (fun e=>by have:=hvb.out _ e; omega) (fun e=>by have:=hvb.out _ e; omega)
   replace htwA:=hZ htwA
   go_wp2_with (at_builtin; refine wpList_append_lies _ rfl _ _ 27 (by rfl) _ 33 _ _ 1 24 Tryz.underlying27 ji jz0 jz1 jz2 rfl (by decide) _ j _ (by rfl) (World.ownsRow.alloc hown3 _) ⟨w2.heap.size,0,none⟩ 1 1 [.slice (some ⟨gg,0,none⟩) m c] (by rfl) rfl (cell_one_newN _ _ _ _ (by simp)) (by simp [Value.oneCell']) (by decide) (by unfold maxLen; omega) (by omega) (by have:=(hf.trans hf2).size; have:=hf2.size; simp; omega) (w2.heap.size+1) (by simp) ?_; intro gA capA wA hownA hgrowA hatA hltA; have htw3:=htwA.out wA hgrowA; have hbb:=htw3.b1; have hfb:=htw3.fb1; replace htw3:=hZ htw3)
   have hpush:=(hgi2.out.fr ((Fr.refl w2).alloc _)).pushN (hd:=(gg,0,c)) (hO2.fr ((Fr.refl w2).alloc _)) hne2 hne hgl.out (by unfold hdr; rw [← hm.out]) hownA hgrowA (hatA.imp id (fun e=>by rw [e]; simp))
   rw [← hsn.out] at hpush
   have hfrA:Fr w wA:=(((hf.trans hf2).alloc _)).grown hgrowA (fun k e=>by have:=hvb.out k e; omega)
   have hfx9:Fx (·=w.heap.size+1) wA (wA.setCell ⟨w.heap.size+1,1,none⟩ (.slice (some ⟨gA,0,none⟩) (j+1) capA)):=Fx.setCell (p:=(·=w.heap.size+1)) (q:=⟨w.heap.size+1,1,none⟩) (Fx.refl _ wA) (.inl rfl) _
   have hpush2:=hpush.fx hfx9 (fun b e e2=>by have e3:b=w.heap.size+1:=e2; have h9:=(hpush.own.lt b e).1; omega) (fun hd hm9 e2=>by rcases List.mem_append.1 hm9 with h1 | h1; (have e3:hd.1=w.heap.size+1:=e2; have:=hnew.out hd h1; omega); (simp at h1; subst h1; have e3:gg=w.heap.size+1:=e2; omega))
   have htw4:=htw3.out.set (.slice (some ⟨gA,0,none⟩) (j+1) capA)
   have hfr9:Fr w (wA.setCell ⟨w.heap.size+1,1,none⟩ (.slice (some ⟨gA,0,none⟩) (j+1) capA)):=hfrA.setCell (p:=⟨w.heap.size+1,1,none⟩) (by simp) _
   go_roundg (gk - 1)
   case measure=>omega
   case rel=>exact ⟨j+1,_,_,by go_num,by omega,hfr9,hZ (by have h7:=hf2.size; have h8:=hgrowA.size; have h9:=hszz; simp at h8; simp; omega),htw4,hpush2,fun h hm9=>by rcases List.mem_append.1 hm9 with h1 | h1; exact hnew.out h h1; (simp at h1; subst h1; exact Nat.le_trans hsz.out hgb)⟩
  ·have hd:decide (j < tF)=false:=decide_eq_false hlt
   obtain rfl:j=tF:=by omega
   obtain ⟨a9,c9,rfl,-⟩:=ownsRow_slice hgi.own
   have hgl:(g.take j).length=j:=by rw [List.length_take]; omega
   rw [hgl] at hgi b1 htw
   go_wp2_with fail
   have q0:(wr.setCell ⟨w.heap.size,0,none⟩ (.int .i64 n)).cell? ⟨w.heap.size,0,none⟩=some (.int .i64 n):=World.cell?_setCell_same' _ _ _ (by rw [a0]; rfl)
   have e1:(⟨w.heap.size,0,none⟩:Addr)≠⟨w.heap.size,1,none⟩:=fun e=>by injection e with _ e; omega
   have q1:((wr.setCell ⟨w.heap.size,0,none⟩ (.int .i64 n)).setCell ⟨w.heap.size,1,none⟩ (.slice a9 j c9)).cell? ⟨w.heap.size,1,none⟩=some (.slice a9 j c9):=World.cell?_setCell_same' _ _ _ (by rw [World.cell?_setCell_other _ _ _ _ e1,a1]; rfl)
   refine bodyPost_ret (v:=.tuple #[.agg #[.int .i64 n,.slice a9 j c9],.int .i64 0]) (by simp [results,Tryz.results91,go_sem,q0,q1]) rfl ⟨a9,c9,by rw [hgl], ?_,(hf.setCell (p:=⟨w.heap.size,0,none⟩) (by simp) _).setCell (p:=⟨w.heap.size,1,none⟩) (by simp) _⟩
   have hfx:Fx (·=w.heap.size) wr ((wr.setCell ⟨w.heap.size,0,none⟩ (.int .i64 n)).setCell ⟨w.heap.size,1,none⟩ (.slice a9 j c9)):=Fx.setCell (p:=(·=w.heap.size)) (q:=⟨w.heap.size,1,none⟩) (Fx.setCell (p:=(·=w.heap.size)) (q:=⟨w.heap.size,0,none⟩) (Fx.refl _ wr) (.inl rfl) _) (.inl rfl) _
   intro W hW
   exact ((hgi.fx hfx (fun b e e2=>by have e3:b=w.heap.size:=e2; have h9:=(hgi.own.lt b e).1; omega) (fun hd hm9 e2=>by have e3:hd.1=w.heap.size:=e2; have:=hnew.out hd hm9; omega)).fx hW (fun b e e2=>by have e3:b < w.heap.size:=e2; have h9:=(hgi.own.lt b e).1; omega) (fun hd hm9 e2=>by have e3:hd.1 < w.heap.size:=e2; have:=hnew.out hd hm9; omega)).mat


theorem longsOf_nil (w:World):Calls Tryz.prog 89 #[.slice none 0 0] w fun e w'=>e=.returned (.slice none 0 0)∧Fr w w':=by
 go_enter Tryz.func89,Tryz.ntmps89
 go_wp2_with fail
 refine wp_loop_rounds 1 ?_
 rw [rounds_succ]
 go_wp2_with fail
 go_ret
 exact ⟨rfl,Fr.refl _⟩
theorem form_nil (n:Nat) (w:World) (hn:1≤n) (hn2:n≤1000000):Calls Tryz.prog 90 #[.slice none 0 0,.int .i64 n] w fun e w'=>e=.returned (.slice none 0 0)∧Fr w w':=by
 go_enter Tryz.func90,Tryz.ntmps90
 have d1:(0:Int) < (n:Int):=by omega
 go_wp2_with fail
 refine wp_loop_rounds 1 ?_
 rw [rounds_succ]
 go_wp2_with fail
 go_ret
 exact ⟨rfl,Fr.refl _⟩
theorem short_nil (n:Nat) (w:World):Calls Tryz.prog 91 #[.slice none 0 0,.int .i64 n] w fun e w'=>e=.returned (.tuple #[.agg #[.int .i64 n,.slice none 0 0],.int .i64 0])∧Fr w w':=by
 obtain ⟨W,hW⟩:∃ W,W=((w.alloc (.cells #[.int .i64 0,.slice none 0 0] 76)).alloc (.cells #[.int .i64 n,.slice none 0 0] 76)):=⟨_,rfl⟩
 have hf:Fr w W:=by rw [hW]; exact ((Fr.refl _).alloc _).alloc _
 have htwo:Two W w.heap.size n (.slice none 0 0):=by
  rw [hW]
  have hfr:Fr (w.alloc (.cells #[.int .i64 0,.slice none 0 0] 76)) ((w.alloc (.cells #[.int .i64 0,.slice none 0 0] 76)).alloc (.cells #[.int .i64 n,.slice none 0 0] 76)):=(Fr.refl _).alloc _
  have p1:=new2a w (.int .i64 0) (.slice none 0 0) 76
  have p2:=new2b w (.int .i64 0) (.slice none 0 0) 76
  have p3:=new2a (w.alloc (.cells #[.int .i64 0,.slice none 0 0] 76)) (.int .i64 n) (.slice none 0 0) 76
  have p4:=new2b (w.alloc (.cells #[.int .i64 0,.slice none 0 0] 76)) (.int .i64 n) (.slice none 0 0) 76
  rw [World.size_alloc] at p3 p4
  exact ⟨⟨_,hfr.keep p1.1⟩,⟨_,hfr.keep p2.1⟩,hfr.keepf p1.1 p1.2,hfr.keepf p2.1 p2.2,p3.1,p4.1,p3.2,p4.2⟩
 obtain ⟨⟨x0,a0⟩,⟨x1,a1⟩,fa0,fa1,b0,b1,fb0,fb1⟩:=htwo
 go_enter Tryz.func91,Tryz.ntmps91
 go_wp2_with fail
 rw [← hW]
 clear hW
 refine wp_loop_rounds 1 ?_
 rw [rounds_succ]
 have a0h:=hZ a0
 have a1h:=hZ a1
 go_wp2_with fail
 have q0:(W.setCell ⟨w.heap.size,0,none⟩ (.int .i64 n)).cell? ⟨w.heap.size,0,none⟩=some (.int .i64 n):=World.cell?_setCell_same' _ _ _ (by rw [a0h.out]; rfl)
 have e1:(⟨w.heap.size,0,none⟩:Addr)≠⟨w.heap.size,1,none⟩:=fun e=>by injection e with _ e; omega
 have q1:((W.setCell ⟨w.heap.size,0,none⟩ (.int .i64 n)).setCell ⟨w.heap.size,1,none⟩ (.slice none 0 0)).cell? ⟨w.heap.size,1,none⟩=some (.slice none 0 0):=World.cell?_setCell_same' _ _ _ (by rw [World.cell?_setCell_other _ _ _ _ e1,a1h.out]; rfl)
 exact bodyPost_ret (v:=.tuple #[.agg #[.int .i64 n,.slice none 0 0],.int .i64 0]) (by simp [results,Tryz.results91,go_sem,q0,q1]) rfl ⟨rfl,(hf.setCell (p:=⟨w.heap.size,0,none⟩) (by simp) _).setCell (p:=⟨w.heap.size,1,none⟩) (by simp) _⟩
theorem Of_nil (n:Nat) (w:World) (hn:1≤n) (hn2:n≤12):Calls Tryz.prog 48 #[.int .i64 n,.slice none 0 0] w fun e w'=>e=.returned (.tuple #[.agg #[.int .i64 n,.slice none 0 0],.int .i64 0])∧Fr w w':=by
 have hchk:=fun W=>latCheck_ok [] none 0 n W (.inl rfl) (fun r hr=>by simp at hr) (by simp) (fun r hr=>by simp at hr) hn2
 simp only [List.length_nil] at hchk
 have hl:=fun W=>longsOf_nil W
 have hf:=fun W=>form_nil n W hn (by omega)
 have hs:=fun W=>short_nil n W
 replace hchk:=hZ hchk
 replace hl:=hZ hl
 replace hf:=hZ hf
 replace hs:=hZ hs
 have hfA:Fr w (w.alloc (.cells #[.int .i64 0,.slice none 0 0] 76)):=(Fr.refl w).alloc _
 replace hfA:=hZ hfA
 go_enter Tryz.func48,Tryz.ntmps48
 go_wp2_with fail
 refine (hchk.out _).mono ?_
 rintro e w1 ⟨rfl,hf1⟩
 go_wp2_with fail
 refine (hl.out _).mono ?_
 rintro e w2 ⟨rfl,hf2⟩
 go_wp2_with fail
 refine (hf.out _).mono ?_
 rintro e w3 ⟨rfl,hf3⟩
 go_wp2_with fail
 refine (hs.out _).mono ?_
 rintro e w4 ⟨rfl,hf4⟩
 have hfr3:=((hf1.trans hf2).trans hf3).trans hf4
 have hfw:=hZ (hfA.out.trans hfr3)
 have p1:=new2a w (.int .i64 0) (.slice none 0 0) 76
 have p2:=new2b w (.int .i64 0) (.slice none 0 0) 76
 have c1:=hfr3.keep p1.1
 have c2:=hfr3.keep p2.1
 have c3:=hfr3.keepf p1.1 p1.2
 have c5:=hfr3.keepf p2.1 p2.2
 clear p1 p2
 have c1h:=hZ c1
 have c2h:=hZ c2
 go_wp2_with fail
 have e1:(⟨w.heap.size,0,none⟩:Addr)≠⟨w.heap.size,1,none⟩:=fun e=>by injection e with _ e; omega
 have q0:(w4.setCell ⟨w.heap.size,0,none⟩ (.int .i64 n)).cell? ⟨w.heap.size,0,none⟩=some (.int .i64 n):=World.cell?_setCell_same' _ _ _ (by rw [c1h.out]; rfl)
 have q1:((w4.setCell ⟨w.heap.size,0,none⟩ (.int .i64 n)).setCell ⟨w.heap.size,1,none⟩ (.slice none 0 0)).cell? ⟨w.heap.size,1,none⟩=some (.slice none 0 0):=World.cell?_setCell_same' _ _ _ (by rw [World.cell?_setCell_other _ _ _ _ e1,c2h.out]; rfl)
 exact bodyPost_ret (v:=.tuple #[.agg #[.int .i64 n,.slice none 0 0],.int .i64 0]) (by simp [results,Tryz.results48,go_sem,q0,q1]) rfl ⟨rfl,(hfw.out.setCell (p:=⟨w.heap.size,0,none⟩) (by simp) _).setCell (p:=⟨w.heap.size,1,none⟩) (by simp) _⟩
def digs (n:Nat):List Int:=if h:n=0 then [] else ((n % 1000000000:Nat):Int) :: digs (n / 1000000000)
termination_by n
decreasing_by omega
def Dg (l:List Int):Prop:=∀ d,d ∈ l→0≤d∧d < 1000000000
def val:List Int→Int
 | []=>0
 | d :: l=>d+1000000000 * val l
theorem digs_zero:digs 0=[]:=by rw [digs]; rfl
theorem digs_pos {n:Nat} (h:0 < n):digs n=((n % 1000000000:Nat):Int) :: digs (n / 1000000000):=by rw [digs,dif_neg (by omega)]
theorem digs_one {n:Nat} (h:0 < n) (h2:n < 1000000000):digs n=[(n:Int)]:=by
 rw [digs_pos h,Nat.mod_eq_of_lt h2,Nat.div_eq_of_lt h2,digs_zero]
theorem digs_nil {n:Nat}:digs n=[] ↔ n=0:=by
 constructor
 ·intro h
  by_cases h0:n=0
  ·exact h0
  ·rw [digs_pos (by omega)] at h; exact absurd h (by simp)
 ·rintro rfl; exact digs_zero
theorem digs_dg:∀ n,Dg (digs n):=fun n=>by
 induction n using Nat.strongRecOn with
 | _ n ih=>
   by_cases h:n=0
   ·subst h; rw [digs_zero]; intro d hd; simp at hd
   ·rw [digs_pos (by omega)]
    intro d hd
    rcases List.mem_cons.1 hd with rfl | hd
    ·omega
    ·exact ih _ (by omega) d hd
theorem val_digs:∀ n:Nat,val (digs n)=n:=fun n=>by
 induction n using Nat.strongRecOn with
 | _ n ih=>
   by_cases h:n=0
   ·subst h; rw [digs_zero]; rfl
   ·rw [digs_pos (by omega)]
    show ((n % 1000000000:Nat):Int)+1000000000 * val (digs (n / 1000000000))=n
    rw [ih _ (by omega)]
    omega
theorem digs_inj {n m:Nat} (h:digs n=digs m):n=m:=by
 have:=val_digs n; rw [h,val_digs] at this; omega
theorem digs_len:∀ (k n:Nat),n < 1000000000 ^ k→(digs n).length≤k
 | 0,n,h=>by have:n=0:=by simpa using h
             subst this; rw [digs_zero]; simp
 | k+1,n,h=>by
   by_cases h0:n=0
   ·subst h0; rw [digs_zero]; simp
   ·rw [digs_pos (by omega)]
    have:=digs_len k (n / 1000000000) (by rw [Nat.div_lt_iff_lt_mul (by decide)]; rw [Nat.pow_succ] at h; exact h)
    simp; omega
theorem Dg.cons {d:Int} {l:List Int} (h:Dg (d :: l)):(0≤d∧d < 1000000000)∧Dg l:=⟨h d (by simp),fun x hx=>h x (by simp [hx])⟩
theorem Dg.mk {d:Int} {l:List Int} (h:0≤d∧d < 1000000000) (k:Dg l):Dg (d :: l):=fun x hx=>by
 rcases List.mem_cons.1 hx with rfl | hx
 ·exact h
 ·exact k x hx
theorem val_nn:∀ {l:List Int},Dg l→0≤val l
 | [],_=>by show (0:Int)≤0; omega
 | d :: l,h=>by
   have h1:=h.cons
   have:=val_nn h1.2
   show 0≤d+1000000000 * val l
   omega
def trimL:List Int→List Int
 | []=>[]
 | d :: l=>if trimL l=[]∧d=0 then [] else d :: trimL l
theorem digs_cons (x:Nat):(if digs (x / 1000000000)=[]∧((x % 1000000000:Nat):Int)=0 then [] else ((x % 1000000000:Nat):Int) :: digs (x / 1000000000))=digs x:=by
 by_cases h:x=0
 ·subst h; rw [if_pos ⟨by show digs 0=[]; exact digs_zero,by simp⟩,digs_zero]
 ·rw [digs_pos (n:=x) (by omega),if_neg]
  rintro ⟨h1,h2⟩
  rw [digs_nil] at h1
  omega
theorem trimL_digs:∀ {l:List Int},Dg l→trimL l=digs (val l).toNat
 | [],_=>by show []=digs 0; rw [digs_zero]
 | d :: l,h=>by
   have h1:=h.cons
   have h2:=val_nn h1.2
   show (if trimL l=[]∧d=0 then [] else d :: trimL l)=digs (d+1000000000 * val l).toNat
   rw [trimL_digs h1.2,← digs_cons (d+1000000000 * val l).toNat,show (d+1000000000 * val l).toNat / 1000000000=(val l).toNat by omega,show (((d+1000000000 * val l).toNat % 1000000000:Nat):Int)=d by omega]
theorem trimL_fix (n:Nat):trimL (digs n)=digs n:=by rw [trimL_digs (digs_dg n),val_digs]; rfl
theorem trimL_zero:∀ l:List Int,trimL (l ++ [0])=trimL l
 | []=>rfl
 | d :: l=>by
   show (if trimL (l ++ [0])=[]∧d=0 then [] else d :: trimL (l ++ [0]))=_
   rw [trimL_zero l]; rfl
theorem trimL_snoc {d:Int} (hd:d≠0):∀ l:List Int,trimL (l ++ [d])=l ++ [d]
 | []=>by show (if trimL []=[]∧d=0 then [] else d :: trimL [])=_; rw [if_neg (fun h=>hd h.2)]; rfl
 | x :: l=>by
   show (if trimL (l ++ [d])=[]∧x=0 then [] else x :: trimL (l ++ [d]))=_
   rw [trimL_snoc hd l,if_neg (fun h=>by simp at h)]; rfl
def plusL:List Int→List Int→Int→List Int
 | a :: az,b :: bs,c=>((c+a+b) % 1000000000) :: plusL az bs ((c+a+b) / 1000000000)
 | a :: az,[],c=>((c+a) % 1000000000) :: plusL az [] ((c+a) / 1000000000)
 | [],b :: bs,c=>((c+b) % 1000000000) :: plusL [] bs ((c+b) / 1000000000)
 | [],[],c=>if 0 < c then [c] else []
theorem plusL_cc (a b c:Int) (az bs:List Int):plusL (a :: az) (b :: bs) c=((c+a+b) % 1000000000) :: plusL az bs ((c+a+b) / 1000000000):=by rw [plusL]
theorem plusL_cn (a c:Int) (az:List Int):plusL (a :: az) [] c=((c+a) % 1000000000) :: plusL az [] ((c+a) / 1000000000):=by rw [plusL]
theorem plusL_nc (b c:Int) (bs:List Int):plusL [] (b :: bs) c=((c+b) % 1000000000) :: plusL [] bs ((c+b) / 1000000000):=by rw [plusL]
theorem plusL_nn (c:Int):plusL [] [] c=if 0 < c then [c] else []:=by rw [plusL]
theorem plusL_digs:∀ (s n m:Nat) (c:Nat),n+m≤s→c≤1→plusL (digs n) (digs m) c=digs (n+m+c):=fun s=>by
 induction s using Nat.strongRecOn with
 | _ s ih=>
   intro n m c hs hc
   by_cases hn:n=0
   ·subst hn
    by_cases hm:m=0
    ·subst hm
     rw [digs_zero]
     rcases (show c=0∨c=1 by omega) with rfl | rfl
     ·rw [show (0+0+0:Nat)=0 from rfl,digs_zero,plusL_nn]; rfl
     ·rw [show (0+0+1:Nat)=1 from rfl,digs_one (by decide) (by decide),plusL_nn]; rfl
    ·rw [digs_zero,digs_pos (n:=m) (by omega),digs_pos (n:=0+m+c) (by omega)]
     rw [plusL_nc]
     have e:=ih (m / 1000000000) (by omega) 0 (m / 1000000000) ((c+m % 1000000000) / 1000000000) (by omega) (by omega)
     rw [digs_zero] at e
     rw [show ((c:Int)+((m % 1000000000:Nat):Int)) / 1000000000=(((c+m % 1000000000) / 1000000000:Nat):Int) by omega,e]
     congr 1
     ·omega
     ·congr 1; omega
   ·by_cases hm:m=0
    ·subst hm
     rw [digs_zero,digs_pos (n:=n) (by omega),digs_pos (n:=n+0+c) (by omega)]
     rw [plusL_cn]
     have e:=ih (n / 1000000000) (by omega) (n / 1000000000) 0 ((c+n % 1000000000) / 1000000000) (by omega) (by omega)
     rw [digs_zero] at e
     rw [show ((c:Int)+((n % 1000000000:Nat):Int)) / 1000000000=(((c+n % 1000000000) / 1000000000:Nat):Int) by omega,e]
     congr 1
     ·omega
     ·congr 1; omega
    ·rw [digs_pos (n:=n) (by omega),digs_pos (n:=m) (by omega),digs_pos (n:=n+m+c) (by omega)]
     rw [plusL_cc]
     have e:=ih (n / 1000000000+m / 1000000000) (by omega) (n / 1000000000) (m / 1000000000) ((c+n % 1000000000+m % 1000000000) / 1000000000) (by omega) (by omega)
     rw [show ((c:Int)+((n % 1000000000:Nat):Int)+((m % 1000000000:Nat):Int)) / 1000000000=(((c+n % 1000000000+m % 1000000000) / 1000000000:Nat):Int) by omega,e]
     congr 1
     ·omega
     ·congr 1; omega
def subD (d:Int):Int:=if d < 0 then d+1000000000 else d
def subB (d:Int):Int:=if d < 0 then 1 else 0
def minusL:List Int→List Int→Int→List Int
 | a :: az,b :: bs,w=>subD (a - w - b) :: minusL az bs (subB (a - w - b))
 | a :: az,[],w=>subD (a - w) :: minusL az [] (subB (a - w))
 | [],_,_=>[]
theorem minusL_cc (a b w:Int) (az bs:List Int):minusL (a :: az) (b :: bs) w=subD (a - w - b) :: minusL az bs (subB (a - w - b)):=by rw [minusL]
theorem minusL_cn (a w:Int) (az:List Int):minusL (a :: az) [] w=subD (a - w) :: minusL az [] (subB (a - w)):=by rw [minusL]
theorem minusL_n (b:List Int) (w:Int):minusL [] b w=[]:=by rw [minusL]
theorem minusL_digs:∀ (n m w:Nat),m+w≤n→w≤1→trimL (minusL (digs n) (digs m) w)=digs (n - m - w):=fun n=>by
 induction n using Nat.strongRecOn with
 | _ n ih=>
   intro m w hs hw
   by_cases hn:n=0
   ·subst hn
    obtain rfl:m=0:=by omega
    obtain rfl:w=0:=by omega
    rw [digs_zero,minusL_n]; rfl
   ·have key:∀ (d:Int) (r:List Int) (v:Nat),d=(n:Int) % 1000000000 - w - (m:Int) % 1000000000→subB d=v→trimL r=digs (n / 1000000000 - m / 1000000000 - v)→trimL (subD d :: r)=digs (n - m - w):=fun d r v hd hv hr=>by
     show (if trimL r=[]∧subD d=0 then [] else subD d :: trimL r)=_
     rw [hr,← digs_cons (n - m - w)]
     unfold subB at hv
     unfold subD
     by_cases h0:d < 0
     ·rw [if_pos h0] at hv ⊢
      rw [show (n - m - w) / 1000000000=n / 1000000000 - m / 1000000000 - v by omega,show (((n - m - w) % 1000000000:Nat):Int)=d+1000000000 by omega]
     ·rw [if_neg h0] at hv ⊢
      rw [show (n - m - w) / 1000000000=n / 1000000000 - m / 1000000000 - v by omega,show (((n - m - w) % 1000000000:Nat):Int)=d by omega]
    by_cases hm:m=0
    ·subst hm
     rw [digs_zero,digs_pos (n:=n) (by omega)]
     rw [minusL_cn]
     obtain ⟨v,hv⟩:∃ v:Nat,subB (((n % 1000000000:Nat):Int) - w)=v:=⟨(subB (((n % 1000000000:Nat):Int) - w)).toNat,by unfold subB; split <;> rfl⟩
     have hv2:=hv
     unfold subB at hv2
     rw [hv]
     refine key _ _ v (by omega) hv ?_
     have e:=ih (n / 1000000000) (by omega) 0 v (by split at hv2 <;> omega) (by split at hv2 <;> omega)
     rw [digs_zero] at e
     rw [e]
    ·rw [digs_pos (n:=n) (by omega),digs_pos (n:=m) (by omega)]
     rw [minusL_cc]
     obtain ⟨v,hv⟩:∃ v:Nat,subB (((n % 1000000000:Nat):Int) - w - ((m % 1000000000:Nat):Int))=v:=⟨(subB (((n % 1000000000:Nat):Int) - w - ((m % 1000000000:Nat):Int))).toNat,by unfold subB; split <;> rfl⟩
     have hv2:=hv
     unfold subB at hv2
     rw [hv]
     refine key _ _ v (by omega) hv ?_
     exact ih (n / 1000000000) (by omega) (m / 1000000000) v (by split at hv2 <;> omega) (by split at hv2 <;> omega)
theorem len_mono:∀ (n m:Nat),(digs n).length < (digs m).length→n < m:=fun n=>by
 induction n using Nat.strongRecOn with
 | _ n ih=>
   intro m h
   by_cases hm:m=0
   ·subst hm; rw [digs_zero] at h; simp at h
   ·by_cases hn:n=0
    ·omega
    ·rw [digs_pos (n:=n) (by omega),digs_pos (n:=m) (by omega)] at h
     have:=ih (n / 1000000000) (by omega) (m / 1000000000) (by simpa using h)
     omega
theorem val_drop:∀ (i:Nat) (a b:List Int),Dg a→Dg b→a.length=b.length→(∀ x y,a[i]?=some x→b[i]?=some y→x < y)→i < a.length→a.drop (i+1)=b.drop (i+1)→val a < val b
 | 0,x :: a,y :: b,ha,hb,_,h,_,hd=>by
   have h1:=h x y rfl rfl
   have h2:a=b:=by simpa using hd
   subst h2
   show x+_ < y+_
   omega
 | i+1,x :: a,y :: b,ha,hb,hl,h,hi,hd=>by
   have:=val_drop i a b ha.cons.2 hb.cons.2 (by simpa using hl) (fun u v hu hv=>h u v (by simpa using hu) (by simpa using hv)) (by simpa using hi) (by simpa using hd)
   have h1:=ha.cons.1
   have h2:=hb.cons.1
   show x+1000000000 * val a < y+1000000000 * val b
   omega
 | _,[],_,_,_,_,_,hi,_=>by simp at hi
 | _,_ :: _,[],_,_,hl,_,_,_=>by simp at hl
def sgnC (n m:Nat):Int:=if n < m then -1 else if m < n then 1 else 0
def flat2:List (Value×Value)→List Value
 | []=>[]
 | x :: l=>x.1 :: x.2 :: flat2 l
theorem flat2_length (l:List (Value×Value)):(flat2 l).length=l.length * 2:=by
 induction l with
 | nil=>rfl
 | cons x l ih=>simp [flat2,ih]; omega
theorem flat2_append (l m:List (Value×Value)):flat2 (l ++ m)=flat2 l ++ flat2 m:=by
 induction l with
 | nil=>rfl
 | cons x l ih=>simp [flat2,ih]
theorem flat2_get:∀ (l:List (Value×Value)) (i:Nat) (x:Value×Value),l[i]?=some x→(flat2 l)[i * 2]?=some x.1∧(flat2 l)[i * 2+1]?=some x.2
 | [],i,x,h=>by simp at h
 | y :: l,0,x,h=>by simp at h; subst h; simp [flat2]
 | y :: l,i+1,x,h=>by
   have:=flat2_get l i x (by simpa using h)
   have e:(i+1) * 2=i * 2+1+1:=by omega
   rw [e]
   simpa [flat2] using this
theorem ownsRow_prs {w:World} {base:Nat} {e:TypeId} {g n m cap:Nat} {xs:List (Value×Value)} (h:w.ownsRow base e 2 (.slice (some ⟨g,0,none⟩) n cap) m (flat2 xs)):Prs w (some ⟨g,0,none⟩) xs∧n=m∧m=xs.length∧base≤g∧n≤cap∧g < w.heap.size:=by
 have h1:=h.1
 obtain ⟨a,b,c,d,f⟩:=ownsRow_some h
 refine ⟨.inr ⟨g,0,rfl,c,fun i x hx=>?_⟩,a,by rw [flat2_length] at h1; omega,b,d,c⟩
 have:=flat2_get xs i x hx
 rw [Nat.zero_add]
 exact ⟨(f _ _ this.1).1,(f _ _ this.2).1⟩

def alls (w:World):List Obj→World
 | []=>w
 | o :: l=>alls (w.alloc o) l
theorem alls_old:∀ (l:List Obj) (w:World) (k:Nat),k < w.heap.size→(alls w l).heap[k]?=w.heap[k]?
 | [],w,k,_=>rfl
 | o :: l,w,k,h=>by rw [alls,alls_old l _ k (by simp; omega)]; exact Below.heap_alloc _ _ _ h
theorem alls_get:∀ (l:List Obj) (w:World) (i:Nat) (o:Obj),l[i]?=some o→(alls w l).heap[w.heap.size+i]?=some o
 | [],w,i,o,h=>by simp at h
 | x :: l,w,0,o,h=>by
   simp at h; subst h
   rw [alls,Nat.add_zero,alls_old l _ _ (by simp)]
   exact heap_alloc_new w _
 | x :: l,w,i+1,o,h=>by
   have:=alls_get l (w.alloc x) i o (by simpa using h)
   rw [World.size_alloc] at this
   rw [alls,show w.heap.size+(i+1)=w.heap.size+1+i by omega]
   exact this
theorem alls_fr:∀ (l:List Obj) (w:World),Fr w (alls w l)
 | [],w=>Fr.refl w
 | o :: l,w=>((Fr.refl w).alloc o).trans (alls_fr l (w.alloc o))
theorem cells_of {W:World} {b:Nat} {cs:Array Value} {t:TypeId} (h:W.heap[b]?=some (.cells cs t (0,0))) (i:Nat):W.cell? ⟨b,i,none⟩=cs[i]?:=by
 unfold World.cell?; rw [h]; rfl
theorem lt_of_heap {W:World} {b:Nat} {o:Obj} (h:W.heap[b]?=some o):b < W.heap.size:=(Array.getElem?_eq_some_iff.1 h).1
theorem two_store (wr:World) (r:Nat) (u v u0 v0:Value) (h0:wr.cell? ⟨r,0,none⟩=some u0) (h1:wr.cell? ⟨r,1,none⟩=some v0) :
 ((wr.setCell ⟨r,0,none⟩ u).setCell ⟨r,1,none⟩ v).cell? ⟨r,0,none⟩=some u∧((wr.setCell ⟨r,0,none⟩ u).setCell ⟨r,1,none⟩ v).cell? ⟨r,1,none⟩=some v ∧
   (wr.setCell ⟨r,0,none⟩ u).cell? ⟨r,1,none⟩=some v0∧Fx (·=r) wr ((wr.setCell ⟨r,0,none⟩ u).setCell ⟨r,1,none⟩ v):=by
 have e1:(⟨r,0,none⟩:Addr)≠⟨r,1,none⟩:=fun e=>by injection e with _ e; omega
 refine ⟨?_, ?_, ?_,Fx.setCell (p:=(·=r)) (q:=⟨r,1,none⟩) (Fx.setCell (p:=(·=r)) (q:=⟨r,0,none⟩) (Fx.refl _ _) (.inl rfl) u) (.inl rfl) v⟩
 ·rw [World.cell?_setCell_other _ _ _ _ (fun e=>e1 e.symm)]; exact World.cell?_setCell_same' _ _ _ (by rw [h0]; rfl)
 ·exact World.cell?_setCell_same' _ _ _ (by rw [World.cell?_setCell_other _ _ _ _ e1,h1]; rfl)
 ·rw [World.cell?_setCell_other _ _ _ _ e1]; exact h1
theorem El.take {w:World} {a:Option Addr} {xs:List Int} (h:El w iv a xs) (k:Nat):El w iv a (xs.take k):=by
 rcases h with h | ⟨b,o,ha,hb,hc⟩
 ·exact .inl (by rw [h]; simp)
 ·refine .inr ⟨b,o,ha,hb,fun i x hx=>hc i x ?_⟩
  rw [List.getElem?_take] at hx
  split at hx
  ·exact hx
  ·cases hx
theorem trimL_take {l:List Int} {k:Nat} {d:Int} (h:l[k]?=some d) (hd:d=0):trimL (l.take (k+1))=trimL (l.take k):=by
 rw [take_snoc h,hd]; exact trimL_zero _
theorem trimL_stop {l:List Int} {k:Nat} {d:Int} (h:l[k]?=some d) (hd:d≠0):trimL (l.take (k+1))=l.take (k+1):=by
 rw [take_snoc h]; exact trimL_snoc hd _

theorem own_read {w:World} {base:Nat} {v:Value} {l:List Int} (h:w.ownsRow base 3 1 v l.length (l.map iv)):∃ a c,v=.slice a l.length c∧El w iv a l∧l.length≤c∧∀ ad,a=some ad→base≤ad.block:=by
 rcases h.2 with ⟨h1,h2⟩ | ⟨g,cap,cur,hv,_⟩
 ·have:=List.eq_nil_of_length_eq_zero h2
  subst this
  exact ⟨none,0,h1,.inl rfl,Nat.le_refl _,fun ad e=>by cases e⟩
 ·subst hv
  obtain ⟨-,h1,h2,h3,h4⟩:=ownsRow_some h
  refine ⟨_,_,rfl,.inr ⟨g,0,rfl,h2,fun i x hx=>?_⟩,h3,fun ad e=>by injection e with e; subst e; exact h1⟩
  rw [Nat.zero_add]
  exact (h4 i (iv x) (by rw [List.getElem?_map,hx]; rfl)).1
theorem drop_cons {l:List Int} {j:Nat} {x:Int} (h:l[j]?=some x):l.drop j=x :: l.drop (j+1):=by
 obtain ⟨h1,rfl⟩:=List.getElem?_eq_some_iff.1 h
 exact List.drop_eq_getElem_cons h1

theorem sgnC_lt {n m:Nat} (h:n < m):sgnC n m=-1:=by unfold sgnC; rw [if_pos h]
theorem sgnC_gt {n m:Nat} (h:m < n):sgnC n m=1:=by unfold sgnC; rw [if_neg (by omega),if_pos h]
theorem sgnC_eq (n:Nat):sgnC n n=0:=by unfold sgnC; rw [if_neg (by omega),if_neg (by omega)]
end Go.Proofs.YtiniigadkknboaaGreatDoor
